/-
  Lists of small operations: holtref05.Of, holtref05.All; The reference's Same, over lists of operations in memory; The witness world whose listed tables read as laid; the tables of a world that is entered; All that the laws of a log stand on; A log in memory: Clone; All nodes of a tree, in order: the order, the library's sort by it; All nodes of a tree, in order: picked, All; The reference's Same, over lists of nodes in memory; Undo, whatever was done; rows of operations that are written into; All that the laws of a log stand on, the tree's own list among it
-/
import Derived.Test.YtkmdmjlepmmejaaGreatDoorB8
import Derived.Test.YtkmdmjlepmmejaaGreatDoorPAllx1
import Derived.Test.YtkmdmjlepmmejaaGreatDoorRows
import Derived.Lib.LaidIn
import Derived.Lib.LaidU8T
import Derived.PinnedBridge
import Derived.ProofKit
import Derived.Maps.RangeWalk
import Derived.Test.YtkmdmjlepmmejaaGreatDoorWEqStruct
import Derived.Deep.QuietTactic
/- Lists of small operations: holtref05.Of, holtref05.All. -/
namespace Go.Proofs.YtkmdmjlepmmejaaGreatDoor.Ol
open Go.RowKit Tr Go.Proofs.YtkmdmjlepmmejaaGreatDoorW.Open Go.Proofs.YtkmdmjlepmmejaaGreatDoorW.PrintWords

def shortN (n : Int) : ByteArray := (⟨#[97, 98, 99, 100, 101, 102, 103, 104]⟩ : ByteArray).extract (n % 8).toNat (n % 8 + 1).toNat
def ofOp (n r node to' name : Int) : OpR := ⟨1 + n % 40, r % 4, 256 + node % 8, if 2 ≤ to' % 10 then 254 + to' % 10 else to' % 10, shortN name⟩
theorem of_f (n r node to' name : Int) (h0 : 0 ≤ n ∧ n < 256) (h1 : 0 ≤ r ∧ r < 256) (h2 : 0 ≤ node ∧ node < 256) (h3 : 0 ≤ to' ∧ to' < 256) (h4 : 0 ≤ name ∧ name < 256) :
    PAll.holtref05_Of.f n r node to' name = some ((ofOp n r node to' name).n, (ofOp n r node to' name).r, (ofOp n r node to' name).node, (ofOp n r node to' name).par, (ofOp n r node to' name).name) := by
  have e0 : wrap64 (Int.tmod n 40) = n % 40 := by rw [Int.tmod_eq_emod_of_nonneg h0.1]; unfold wrap64; omega
  have e1 : wrap64 (Int.tmod r 4) = r % 4 := by rw [Int.tmod_eq_emod_of_nonneg h1.1]; unfold wrap64; omega
  have e2 : wrap64 (Int.tmod node 8) = node % 8 := by rw [Int.tmod_eq_emod_of_nonneg h2.1]; unfold wrap64; omega
  have e3 : wrap64 (Int.tmod to' 10) = to' % 10 := by rw [Int.tmod_eq_emod_of_nonneg h3.1]; unfold wrap64; omega
  have e4 : wrap64 (Int.tmod name 8) = name % 8 := by rw [Int.tmod_eq_emod_of_nonneg h4.1]; unfold wrap64; omega
  have w0 : wrap64 (1 + n % 40) = 1 + n % 40 := by unfold wrap64; omega
  have w2 : wrap64 (256 + node % 8) = 256 + node % 8 := by unfold wrap64; omega
  have w3 : wrap64 (254 + to' % 10) = 254 + to' % 10 := by unfold wrap64; omega
  have w4 : wrap64 (name % 8 + 1) = name % 8 + 1 := by unfold wrap64; omega
  have hs : PAll.holtref03_Short.f name = some (shortN name) := by
    unfold PAll.holtref03_Short.f shortN
    rw [e4, w4, if_pos (by omega), if_pos (by omega), if_pos (by omega)]
  unfold PAll.holtref05_Of.f PAll.holtref04_Small.f
  rw [hs, e0, e1, e2, e3, w0, w2, w3]
  unfold ofOp
  by_cases h : 2 ≤ to' % 10
  · rw [if_pos h]; simp [h]
  · rw [if_neg (show ¬ to' % 10 ≥ 2 from h)]; simp [h]
theorem nameB_short (n : Int) : nameB (shortN n).data.toList = true := by
  have h : n % 8 = 0 ∨ n % 8 = 1 ∨ n % 8 = 2 ∨ n % 8 = 3 ∨ n % 8 = 4 ∨ n % 8 = 5 ∨ n % 8 = 6 ∨ n % 8 = 7 := by omega
  unfold shortN
  rcases h with h | h | h | h | h | h | h | h <;> rw [h] <;> decide +kernel
theorem of_right (n r node to' name : Int) : opRight (ofOp n r node to' name) = true := by
  unfold opRight ofOp
  simp only [nameB_short, Bool.and_true, Bool.and_eq_true]
  refine ⟨?_, ?_, ?_⟩
  · unfold stampR; simp only [Bool.and_eq_true, decide_eq_true_eq]; omega
  · unfold nodeR; simp only [Bool.and_eq_true, decide_eq_true_eq]; omega
  · unfold toR nodeR
    simp only [Bool.or_eq_true, Bool.and_eq_true, decide_eq_true_eq, beq_iff_eq]
    split <;> omega
theorem refof_calls (n r node to' name : Int) (w : World) (h0 : 0 ≤ n ∧ n < 256) (h1 : 0 ≤ r ∧ r < 256) (h2 : 0 ≤ node ∧ node < 256) (h3 : 0 ≤ to' ∧ to' < 256) (h4 : 0 ≤ name ∧ name < 256) :
    Calls Tryz.prog 26 #[.agg #[.int .u8 n, .int .u8 r, .int .u8 node, .int .u8 to', .int .u8 name]] w fun e w' => e = .returned (opV (ofOp n r node to' name)) ∧ Below w.heap.size w w' :=
  PAll.holtref05_Of.calls n r node to' name _ _ _ _ _ w (of_f n r node to' name h0 h1 h2 h3 h4)

def ofT (x : TinyT) : OpR := ofOp x.1 x.2.1 x.2.2.1 x.2.2.2.1 x.2.2.2.2
def TinyAt (b o : Nat) (x : TinyT) (w : World) : Prop :=
  w.cell? ⟨b, o, none⟩ = some (.int .u8 x.1) ∧ w.cell? ⟨b, o + 1, none⟩ = some (.int .u8 x.2.1) ∧ w.cell? ⟨b, o + 2, none⟩ = some (.int .u8 x.2.2.1) ∧ w.cell? ⟨b, o + 3, none⟩ = some (.int .u8 x.2.2.2.1) ∧ w.cell? ⟨b, o + 4, none⟩ = some (.int .u8 x.2.2.2.2)
theorem TinyAt.below {b o : Nat} {p : TinyT} {w w1 : World} (k : TinyAt b o p w) (hb : Below w.heap.size w w1) : TinyAt b o p w1 :=
  ⟨pw_cell_below hb k.1, pw_cell_below hb k.2.1, pw_cell_below hb k.2.2.1, pw_cell_below hb k.2.2.2.1, pw_cell_below hb k.2.2.2.2⟩
/-- A list of small operations lies behind A. -/
def TinysAt (w : World) (A : Option Addr) (n : Nat) (ts : List TinyT) : Prop :=
  ts.length = n ∧ n ≤ 9223372036854775807 ∧ (0 < n → ∃ b o, A = some ⟨b, o, none⟩ ∧ ∀ (i : Nat) (hi : i < ts.length), TinyAt b (o + i * 5) ts[i] w)
theorem TinysAt.below {w w1 : World} {A : Option Addr} {n : Nat} {os : List TinyT} (h : TinysAt w A n os) (hb : Below w.heap.size w w1) : TinysAt w1 A n os :=
  ⟨h.1, h.2.1, fun hn => by
    obtain ⟨b, o, e, hc⟩ := h.2.2 hn
    exact ⟨b, o, e, fun i hi => (hc i hi).below hb⟩⟩
theorem tinys_of_row {w : World} {A : Option Addr} {n : Nat} {ts : List TinyT} (h : ReadsRow (tinyKd.K w) 5 w A n ts) : TinysAt w A n ts := by
  refine ⟨h.1, h.2.1, fun hn => ?_⟩
  obtain ⟨ad, rfl, hc⟩ := h.2.2 hn
  have hl : 0 < ts.length := by rw [h.1]; exact hn
  obtain ⟨c0, l0, k0, h0⟩ := hc 0 ts[0] (List.getElem?_eq_getElem hl)
  have e0 : c0 = (tinyCs ts[0]).toList := congrArg Array.toList (tinyCs_of (cs := c0.toArray) k0)
  have hz := h0 0 (.int .u8 ts[0].1) (by rw [e0]; rfl)
  have hs := spotO (show w.cell? ad = _ from hz)
  refine ⟨ad.block, ad.off, by rw [← hs], fun i hi => ?_⟩
  obtain ⟨c, _, k, hcell⟩ := hc i ts[i] (List.getElem?_eq_getElem hi)
  have e : c = (tinyCs ts[i]).toList := congrArg Array.toList (tinyCs_of (cs := c.toArray) k)
  have key : ∀ j u, (tinyCs ts[i]).toList[j]? = some u → w.cell? ⟨ad.block, ad.off + i * 5 + j, none⟩ = some u := by
    intro j u hu
    have := hcell j u (by rw [e]; exact hu)
    rw [hs, addO] at this
    rw [Nat.add_assoc]
    exact this
  exact ⟨key 0 _ rfl, key 1 _ rfl, key 2 _ rfl, key 3 _ rfl, key 4 _ rfl⟩

set_option maxHeartbeats 2000000 in
theorem all_calls (A : Option Addr) (n c : Nat) (ts : List TinyT) (w : World) (hr : TinysAt w A n ts) (hi : ∀ x ∈ ts, TinyIn x) (hn : n ≤ 1000) :
    Calls Tryz.prog 24 #[.slice A n c] w fun e w' => ∃ v, e = .returned v ∧ OwnO w' w.heap.size v (ts.map ofT) ∧ Below w.heap.size w w' := by
  have HR := Lib.hid hr
  have HI := Lib.hid hi
  have HL := Lib.hid hr.1
  have HB := Lib.hid (Below.refl w.heap.size w)
  clear hr hi
  go_enter Tryz.func24, Tryz.ntmps24
  go_wp2
  go_loopw [3, 4] (fun vo vi W => ∃ i : Nat, vi = .int .i64 i ∧ i ≤ n ∧ Hid (OwnO W w.heap.size vo ((ts.take i).map ofT)) ∧ Hid (Below w.heap.size w W)) (fun _ vi _ => (n - (RowKit.intOf vi).toNat))
  case atStart => exact ⟨0, rfl, by omega, Lib.hid (OwnRow.none_ _ _ _ _ _), HB⟩
  case round =>
    clear HB
    obtain ⟨i, rfl, hi, HO, HB⟩ := hrel
    by_cases hlt : i < n
    · have hlt2 : i < ts.length := by rw [HL.out]; exact hlt
      obtain ⟨b, o, rfl, hcell⟩ := HR.out.2.2 (show 0 < n by omega)
      obtain ⟨c0, c1, c2, c3, c4⟩ := (hcell i hlt2).below HB.out
      have hin := HI.out ts[i] (List.getElem_mem hlt2)
      have hof := fun W => refof_calls ts[i].1 ts[i].2.1 ts[i].2.2.1 ts[i].2.2.2.1 ts[i].2.2.2.2 W hin.1 hin.2.1 hin.2.2.1 hin.2.2.2.1 hin.2.2.2.2
      have hsn : (ts.take (i + 1)).map ofT = (ts.take i).map ofT ++ [ofT ts[i]] := by rw [List.take_succ_eq_append_getElem hlt2, List.map_append]; rfl
      have hql : ((ts.take i).map ofT).length ≤ 1000 := by rw [List.length_map, List.length_take]; omega
      rw [show ofOp ts[i].1 ts[i].2.1 ts[i].2.2.1 ts[i].2.2.2.1 ts[i].2.2.2.2 = ofT ts[i] from rfl] at hof
      generalize ofT ts[i] = q at *
      generalize ts[i] = p at *
      generalize (ts.take i).map ofT = Q at *
      simp only [opV] at hof
      have HOF := Lib.hid hof
      have HSN := Lib.hid hsn
      have hi1 : (0 : Int) ≤ (i : Int) := by omega
      have hi2 : (i : Int) < (n : Int) := by omega
      clear hof hsn hin hcell
      go_wp2_with (first
        | (go_at_call 26; go_loud ((refine (HOF.out _).mono ?_); rintro e w2 ⟨rfl, hb⟩; have HO2 := Lib.hid (show OwnO w2 w.heap.size _ Q from OwnRow.below HO.out hb); clear c0 c1 c2 c3 c4; have HBn := Lib.hid (below_step (by repeat (first | (with_reducible exact HB.out) | apply below_alloc | apply pw_below_drewN | apply below_drew1 | exact HB.out)) hb); clear hb HB; have HB := HBn; clear HBn))
        | (at_builtin; go_loud ((refine OwnRow.append (R := fun p cs => cs = opCells p) (w0 := w) (W := w2) w.heap.size rfl (.tmp 11) (.tmp 17) 27 50 _ 5 48 rfl Tryz.underlying27 opInfo rfl (by decide) (by decide) _ Q q [.int .i64 q.n, .int .i64 q.r, .int .i64 q.node, .int .i64 q.par, .string q.name] (by rfl) (by simp [Act.eval]) rfl rfl (by simp [Value.oneCell']) HO2.out HB.out HB.out.size ?hl ?_; (case hl => omega); intro v3 w3 ho hb hg hat; have HO3 := Lib.hid ho; have HBn := Lib.hid hb; clear HB ho hb hg hat; have HB := HBn; clear HBn)))
        | (fail "no arm"))
      go_roundw
      case rel => exact ⟨i + 1, by go_num, by omega, Lib.hid (by rw [HSN.out]; exact HO3.out), HB⟩
      case measure => simp [RowKit.intOf] <;> omega
    · obtain rfl : i = n := by omega
      have hO := HO.out
      rw [List.take_of_length_le (by rw [HL.out]; exact Nat.le_refl _)] at hO
      have HO2 := Lib.hid hO
      clear hO HO
      go_wp2
      go_ret
      exact ⟨_, rfl, HO2.out, HB.out⟩
theorem ofs_right (ts : List TinyT) : (ts.map ofT).all opRight = true := by
  rw [List.all_eq_true]
  intro o ho
  obtain ⟨x, _, rfl⟩ := List.mem_map.1 ho
  exact of_right _ _ _ _ _
theorem ofs_small {ts : List TinyT} : ∀ o ∈ ts.map ofT, o.name.size ≤ 9223372036854775807 := by
  intro o ho
  have := (right_wf (List.all_eq_true.1 (ofs_right ts) o ho)).2.2
  omega
end Go.Proofs.YtkmdmjlepmmejaaGreatDoor.Ol
/- The reference's Same, over lists of operations in memory. -/
namespace Go.Proofs.YtkmdmjlepmmejaaGreatDoor.Ol
open Go.RowKit Go.Sort Go.Proofs.YtkmdmjlepmmejaaGreatDoorW.PrintWords Tr
attribute [local go_sem high] eqOp

/-- Whether two lists of operations are one. -/
noncomputable def sameO (us bs : List OpR) : Bool := by classical exact decide (us = bs)
set_option maxHeartbeats 2000000 in
theorem sameO_calls (A : Option Addr) (n c : Nat) (us : List OpR) (B : Option Addr) (m d : Nat) (bs : List OpR) (w : World) (ha : OpsAt w A n us) (hb : OpsAt w B m bs) :
    Calls Tryz.prog 14 #[.slice A n c, .slice B m d] w fun e w' => e = .returned (.bool (sameO us bs)) ∧ ∃ k, w' = w.drewN k := by
  have hm := ha.2.1
  have hm2 := hb.2.1
  have HA := Lib.hid ha
  have HB := Lib.hid hb
  have hlen : n ≠ m → sameO us bs = false := fun h => by
    simp only [sameO, decide_eq_false_iff_not]
    intro e
    rw [← ha.1, ← hb.1, e] at h
    exact h rfl
  by_cases hnm : n = m
  · subst hnm
    clear hlen ha hb
    go_enter Tryz.func14, Tryz.ntmps14
    go_wp2
    go_loopw [5] (fun vi W => ∃ i : Nat, vi = .int .i64 i ∧ i ≤ n ∧ Hid (us.take i = bs.take i) ∧ Hid (∃ k, W = w.drewN k)) (fun vi _ => (n - (RowKit.intOf vi).toNat))
    case atStart => exact ⟨0, rfl, by omega, Lib.hid (by simp), Lib.hid ⟨0, rfl⟩⟩
    case round =>
      obtain ⟨i, rfl, hi, HT, HW⟩ := hrel
      obtain ⟨kw, rfl⟩ := HW.out
      by_cases hlt : i < n
      · have hltA : i < us.length := by rw [HA.out.1]; exact hlt
        have hltB : i < bs.length := by rw [HB.out.1]; exact hlt
        obtain ⟨xb, xo, rfl, hcellA⟩ := HA.out.2.2 (show 0 < n by omega)
        obtain ⟨yb, yo, rfl, hcellB⟩ := HB.out.2.2 (show 0 < n by omega)
        have hca := hcellA i hltA
        have hcb := hcellB i hltB
        have HS := Lib.hid (show us[i] = bs[i] → us.take (i + 1) = bs.take (i + 1) from fun h => by
          rw [List.take_succ_eq_append_getElem hltA, List.take_succ_eq_append_getElem hltB, HT.out, h])
        have HNO := Lib.hid (show us[i] ≠ bs[i] → sameO us bs = false from fun h => by
          simp only [sameO, decide_eq_false_iff_not]
          intro e
          subst e
          exact h rfl)
        have HEQ := Lib.hid (eqB_iff us[i] bs[i])
        generalize us[i] = p at *
        generalize bs[i] = q at *
        obtain ⟨a0, a1, a2, a3, a4⟩ := hca
        obtain ⟨b0, b1, b2, b3, b4⟩ := hcb
        clear hcellA hcellB hltA hltB
        have hi1 : (0 : Int) ≤ (i : Int) := by omega
        have hi2 : (i : Int) < (n : Int) := by omega
        cases he : eqB p.n p.r p.node p.par p.name q.n q.r q.node q.par q.name
        · have HR := Lib.hid (HNO.out (fun h => by rw [HEQ.out.2 h] at he; cases he))
          have HE := Lib.hid he
          clear he
          go_wp2
          go_quiet (fail)
          rw [HE.out]
          go_wp2
          go_ret
          rw [HR.out]
          exact ⟨rfl, _, World.drewN_drewN _ _ _⟩
        · have HR := Lib.hid (HS.out (HEQ.out.1 he))
          have HE := Lib.hid he
          clear he
          go_wp2
          go_quiet (fail)
          rw [HE.out]
          go_wp2
          go_roundw
          case rel => exact ⟨i + 1, by go_num, by omega, HR, Lib.hid ⟨_, rfl⟩⟩
          case measure => simp [RowKit.intOf] <;> omega
      · obtain rfl : i = n := by omega
        have hall := HT.out
        rw [List.take_of_length_le (by rw [HA.out.1]; exact Nat.le_refl _), List.take_of_length_le (by rw [HB.out.1]; exact Nat.le_refl _)] at hall
        have HALL := Lib.hid (show sameO us bs = true by simp only [sameO, decide_eq_true_eq]; exact hall)
        clear hall
        go_wp2
        go_ret
        rw [HALL.out]
        exact ⟨rfl, _, rfl⟩
  · have HF := Lib.hid (hlen hnm)
    have q1 : ((n : Int) != (m : Int)) = true := by rw [bne_iff_ne]; omega
    have q2 : (n != m) = true := by rw [bne_iff_ne]; exact hnm
    clear hlen ha hb hnm
    go_enter Tryz.func14, Tryz.ntmps14
    go_wp2
    go_ret
    rw [HF.out]
    exact ⟨rfl, 0, rfl⟩
end Go.Proofs.YtkmdmjlepmmejaaGreatDoor.Ol
/- The witness world whose listed tables read as laid; the tables of a world that is entered. -/
namespace Go.Proofs.YtkmdmjlepmmejaaGreatDoor
open Go.Shelf Go.RowKit Go.Lib

noncomputable def laidWorld (os : Os) : World :=
  let w0 := World.holding Tryz.prog os ⟨#[], #[], []⟩
  let put (h : Array Obj) (g : Nat) (cs : Array Value) : Array Obj := h.modify g fun
    | .cells _ t frozen => .cells cs t frozen
    | o => o
  let h1 := put w0.heap (Tryz.laysValid_ren.g 3) (Lib.firstTab.map fun z => Value.int .u8 z).toArray
  let h2 := put h1 (Tryz.laysValid_ren.g 4) ((List.range 16).flatMap fun i => [Value.int .u8 (Lib.accLo i), Value.int .u8 (Lib.accHi i)]).toArray
  { w0 with heap := h2 }
theorem laid_met (os : Os) (args : Array Value) : laidMet Tryz.prog Rows.oplogPlaysRow.laid ((laidWorld os).forCall (fun _ _ => 0) ⟨#[], args, []⟩).memory :=
  (LaidIn.of_run (l := [("unicode/utf8.acceptRanges", Rows.laid_unicode_utf8_acceptRanges), ("unicode/utf8.first", Rows.laid_unicode_utf8_first)]) [Tryz.laysValid_ren.g 3, Tryz.laysValid_ren.g 4] 8 (by kernel_rfl) (by kernel_rfl) (by kernel_rfl) (by kernel_rfl)).met
theorem acc_eq : (Rows.laid_unicode_utf8_acceptRanges : DataW Unit) = acceptData := by kernel_rfl
theorem tabs_of {W : World} (h3 : VarReads Tryz.prog W "unicode/utf8.first" Rows.laid_unicode_utf8_first) (h4 : VarReads Tryz.prog W "unicode/utf8.acceptRanges" Rows.laid_unicode_utf8_acceptRanges) : Tabs W :=
  utf8Tabs_of_readsT (U8Types.of196 Tryz.laysValid) ⟨by kernel_rfl, by kernel_rfl, by kernel_rfl, by kernel_rfl, by kernel_rfl, by kernel_rfl, by kernel_rfl⟩
    (by rw [show firstData = Rows.laid_unicode_utf8_first from Pinned.utf8First_eq.symm]; exact h3) (by rw [← acc_eq]; exact h4)
end Go.Proofs.YtkmdmjlepmmejaaGreatDoor
/- All that the laws of a log stand on. -/
/- A log in memory: Clone. -/
namespace Go.Proofs.YtkmdmjlepmmejaaGreatDoor.Ol
open Go.RowKit Go.Sort Go.Proofs.YtkmdmjlepmmejaaGreatDoorW.PrintWords Tr

set_option maxHeartbeats 1000000 in
theorem log_clone (W : World) (F : Nat → Prop) (p : Nat) (most : Int) (l : List OpR) (H : LogAt W F p most l) (hl : l.length ≤ 1000000) :
    Calls Tryz.prog 28 #[.pointer (some ⟨p, 0, none⟩)] W fun e w' => ∃ p' F', e = .returned (.pointer (some ⟨p', 0, none⟩)) ∧ LogAt w' F' p' most l ∧ (∀ b, F' b → W.heap.size ≤ b) ∧ Below W.heap.size W w' := by
  obtain ⟨A, c, tp, hp, hc, how, ho, FT, ht⟩ := H.fields
  have HCL := Lib.hid (fun (V : World) (hV : Below W.heap.size W V) => cloneown_calls V _ l (OwnRow.below how hV) hl)
  have HTC := Lib.hid (fun (V : World) (hV : Below W.heap.size W V) => treeclone_calls V FT tp l (Tr.TreeAt.below ht hV) hl)
  have c0 := blk_cell hp 0
  have c1 := blk_cell hp 1
  have c2 := blk_cell hp 2
  simp at c0 c1 c2
  have C0 := Lib.hid c0
  have C1 := Lib.hid c1
  have C2 := Lib.hid c2
  have hlt := blk_lt hp
  have HB := Lib.hid (Below.refl W.heap.size W)
  clear hp how ho H hl ht c0 c1 c2
  go_enter Tryz.func28, Tryz.ntmps28
  go_wp2
  go_region_held3 (fun V => V.cell? ⟨p, 0, none⟩ = some (.int .i64 most) ∧ V.cell? ⟨p, 1, none⟩ = some (.slice A l.length c) ∧ V.cell? ⟨p, 2, none⟩ = some (.pointer (some ⟨tp, 0, none⟩))) (exact ⟨pw_cell_below (by repeat (first | (with_reducible exact HB.out) | apply below_alloc | apply pw_below_drewN | apply below_drew1 | exact HB.out)) C0.out, pw_cell_below (by repeat (first | (with_reducible exact HB.out) | apply below_alloc | apply pw_below_drewN | apply below_drew1 | exact HB.out)) C1.out, pw_cell_below (by repeat (first | (with_reducible exact HB.out) | apply below_alloc | apply pw_below_drewN | apply below_drew1 | exact HB.out)) C2.out⟩)
    (first
      | (go_at_call 41; go_loud ((refine (HCL.out _ (by repeat (first | (with_reducible exact HB.out) | apply below_alloc | apply pw_below_drewN | apply below_drew1 | exact HB.out))).mono ?_); rintro e w1 ⟨v', rfl, ho, hb⟩; obtain ⟨A', c', rfl, _⟩ := OwnRow.slice_ ho; have HO1 := Lib.hid ho; have HBn := Lib.hid (below_step (by repeat (first | (with_reducible exact HB.out) | apply below_alloc | apply pw_below_drewN | apply below_drew1 | exact HB.out)) hb); clear hb HB; have HB := HBn; clear HBn; have HB1 := HB; have hs1 := HB1.out.size))
      | (go_at_call 40; go_loud ((refine (HTC.out _ (by repeat (first | (with_reducible exact HB.out) | apply below_alloc | apply pw_below_drewN | apply below_drew1 | exact HB.out))).mono ?_); rintro e w2 ⟨p', rfl, ht, hb⟩; have HT2 := Lib.hid ht; have HO2 := Lib.hid (OwnRow.below HO1.out hb); have hs2 := hb.size; have HV1 := Lib.hid (OwnRow.below HO1.out (Below.refl _ _)); have HBn := Lib.hid (below_step (by repeat (first | (with_reducible exact HB.out) | apply below_alloc | apply pw_below_drewN | apply below_drew1 | exact HB.out)) hb); clear hb HB; have HB := HBn; clear HBn))
      | (fail "no arm"))
  go_wp2
  go_ret
  have hblk : ∀ b, (Value.slice A' l.length c').ownBlock = some b → W.heap.size ≤ b ∧ b < w1.heap.size := by
    intro b e
    obtain ⟨inner, hrow, _⟩ := HV1.out
    exact ⟨own_base hrow b e, own_lt hrow b e⟩
  refine ⟨_, fun b => W.heap.size ≤ b ∧ b < w2.heap.size + 1, rfl, ⟨_, p', fun b => w1.heap.size ≤ b ∧ b < w2.heap.size, blk_new _ _, OwnRow.lower (OwnRow.below HO2.out (below_alloc (Below.refl _ _) _)) (Nat.zero_le _), Tr.TreeAt.below (TreeAt.trim HT2.out) (below_alloc (Below.refl _ _) _), ⟨by omega, by omega⟩, fun b e => ⟨(hblk b e).1, by have := (hblk b e).2; omega⟩, fun b e => ⟨⟨by omega, by omega⟩, by omega, fun h => by have := (hblk b h).2; omega⟩, fun b e => by simpa using e.2⟩, fun b e => e.1, (by repeat (first | (with_reducible exact HB.out) | apply below_alloc | apply pw_below_drewN | apply below_drew1 | exact HB.out))⟩
end Go.Proofs.YtkmdmjlepmmejaaGreatDoor.Ol
/- All nodes of a tree, in order: the order, the library's sort by it. -/
namespace Go.Proofs.YtkmdmjlepmmejaaGreatDoor.Ol
open Go.RowKit Go.Sort Go.Proofs.YtkmdmjlepmmejaaGreatDoorW.PrintWords Tr

def kidCmp (a b : KidR) : Int := if cmpI a.par b.par = 0 then (if cmpS a.name b.name = 0 then cmpI a.node b.node else cmpS a.name b.name) else cmpI a.par b.par
theorem kidCmp_good : Good kidCmp := (Good.int KidR.par).lex ((Good.str KidR.name).lex (Good.int KidR.node))
theorem kidCmp_zero (a b : KidR) : kidCmp a b = 0 ↔ a = b := by
  have h1 := cmpI_zero a.par b.par
  have h2 := cmpS_zero a.name b.name
  have h3 := cmpI_zero a.node b.node
  obtain ⟨p, n, k⟩ := a
  obtain ⟨q, m, j⟩ := b
  unfold kidCmp
  simp only [KidR.mk.injEq] at *
  constructor
  · intro h
    by_cases e1 : cmpI p q = 0
    · rw [if_pos e1] at h
      by_cases e2 : cmpS n m = 0
      · rw [if_pos e2] at h; exact ⟨h1.1 e1, h2.1 e2, h3.1 h⟩
      · rw [if_neg e2] at h; exact absurd h e2
    · rw [if_neg e1] at h; exact absurd h e1
  · rintro ⟨e1, e2, e3⟩
    rw [if_pos (h1.2 e1), if_pos (h2.2 e2)]
    exact h3.2 e3
theorem kidOrd : Ord kidCmp := ⟨kidCmp_good, kidCmp_zero⟩
def kidV (k : KidR) : Value := .agg #[.int .i64 k.par, .string k.name, .int .i64 k.node]
def kidCells (k : KidR) : List Value := [.int .i64 k.par, .string k.name, .int .i64 k.node]
abbrev OwnK (W : World) (B : Nat) (v : Value) (l : List KidR) : Prop := OwnRow (fun p cs => cs = kidCells p) 81 3 W B v l
theorem kidInfo : (Tryz.prog.info? 81).map (fun i => (i.zero, i.size, i.bytes)) = some (some (.agg #[.int .i64 0, .string ⟨#[]⟩, .int .i64 0]), 3, 32) := by kernel_rfl
theorem kidCells_length (p : KidR) : (kidCells p).length = 3 := rfl
theorem kidCells_one (p : KidR) : ∀ v ∈ kidCells p, v.oneCell' = true := by
  intro v hv
  simp [kidCells] at hv
  rcases hv with rfl | rfl | rfl <;> rfl
instance : Inhabited KidR := ⟨⟨0, ⟨#[]⟩, 0⟩⟩
theorem kidSWO : SWO (ltOf kidCmp) where
  irrefl x := by unfold ltOf; rw [kidOrd.self]; rfl
  trans x y z h1 h2 := by unfold ltOf at *; simp only [decide_eq_true_eq] at *; exact kidOrd.lt_trans h1 h2
  ntrans x y z h1 h2 := by
    unfold ltOf at *
    simp only [decide_eq_false_iff_not] at *
    have e1 := kidOrd.neg x y
    have e2 := kidOrd.neg y z
    have e3 := kidOrd.neg x z
    have := kidOrd.le_trans (a := z) (b := y) (d := x) (by omega) (by omega)
    omega
theorem kidTot (x y : KidR) (h1 : ltOf kidCmp x y = false) (h2 : ltOf kidCmp y x = false) : x = y := by
  unfold ltOf at *
  simp only [decide_eq_false_iff_not] at *
  have e1 := kidOrd.neg x y
  exact (kidOrd.zero x y).1 (by omega)
/-- The first that isn't 0, of three. -/
theorem or3_calls (a b c : Int) (g : Nat) (w : World) (h0 : w.cell? ⟨g, 0, none⟩ = some (.int .i64 a)) (h1 : w.cell? ⟨g, 1, none⟩ = some (.int .i64 b)) (h2 : w.cell? ⟨g, 2, none⟩ = some (.int .i64 c)) :
    Calls Tryz.prog 88 #[.slice (some ⟨g, 0, none⟩) 3 3] w fun e w' => e = .returned (.int .i64 (if a = 0 then (if b = 0 then c else b) else a)) ∧ w' = w := by
  by_cases ha : a = 0
  · subst ha
    by_cases hb : b = 0
    · subst hb
      by_cases hc : c = 0
      · subst hc
        go_enter Tryz.func88, Tryz.ntmps88
        go_wp2
        go_rounds 4
        go_ret
        simp
      · go_enter Tryz.func88, Tryz.ntmps88
        go_wp2
        go_rounds 3
        go_ret
        simp
    · go_enter Tryz.func88, Tryz.ntmps88
      go_wp2
      go_rounds 2
      go_ret
      simp
  · go_enter Tryz.func88, Tryz.ntmps88
    go_wp2
    go_rounds 1
    go_ret
    simp
set_option maxHeartbeats 2000000 in
theorem order_d (a b : KidR) (w : World) : Calls Tryz.prog 70 #[kidV a, kidV b] w fun e w' => e = .returned (.int .i64 (kidCmp a b)) ∧ Below w.heap.size w w' ∧ w.drawn ≤ w'.drawn := by
  have HC1 := Lib.hid (cmp_int_calls a.par b.par)
  have HC2 := Lib.hid (cmp_str_calls a.name b.name)
  have HC3 := Lib.hid (cmp_int_calls a.node b.node)
  have HF := Lib.hid (show ∀ (g : Nat) (w : World), w.cell? ⟨g, 0, none⟩ = some (.int .i64 (cmpI a.par b.par)) → w.cell? ⟨g, 1, none⟩ = some (.int .i64 (cmpS a.name b.name)) → w.cell? ⟨g, 2, none⟩ = some (.int .i64 (cmpI a.node b.node)) → Calls Tryz.prog 88 #[.slice (some ⟨g, 0, none⟩) 3 3] w (fun e w' => e = .returned (.int .i64 (kidCmp a b)) ∧ w' = w) from fun g w h0 h1 h2 => or3_calls (cmpI a.par b.par) (cmpS a.name b.name) (cmpI a.node b.node) g w h0 h1 h2)
  generalize kidCmp a b = R at *
  generalize cmpI a.par b.par = X at *
  generalize cmpS a.name b.name = Y at *
  generalize cmpI a.node b.node = Z at *
  obtain ⟨p, n, k⟩ := a
  obtain ⟨q, m, j⟩ := b
  simp only [kidV] at *
  have HB := Lib.hid (Below.refl w.heap.size w)
  have HD := Lib.hid (Nat.le_refl w.drawn)
  go_enter Tryz.func70, Tryz.ntmps70
  go_wp2
  go_region_held3 (fun w' => w'.cell? ⟨w.heap.size, 0, none⟩ = some (.int .i64 p) ∧ w'.cell? ⟨w.heap.size, 1, none⟩ = some (.string n) ∧ w'.cell? ⟨w.heap.size, 2, none⟩ = some (.int .i64 k) ∧ w'.cell? ⟨w.heap.size + 1, 0, none⟩ = some (.int .i64 q) ∧ w'.cell? ⟨w.heap.size + 1, 1, none⟩ = some (.string m) ∧ w'.cell? ⟨w.heap.size + 1, 2, none⟩ = some (.int .i64 j)) (refine ⟨?_, ?_, ?_, ?_, ?_, ?_⟩ <;> go_cell)
    (first
      | (go_at_call 89; (with_reducible refine (HC1.out _).mono ?_); rintro e w1 ⟨rfl, rfl⟩)
      | (go_at_call 90; (with_reducible refine (HC2.out _).mono ?_); rintro e w1 ⟨rfl, rfl⟩)
      | (go_at_call 89; (with_reducible refine (HC3.out _).mono ?_); rintro e w1 ⟨rfl, rfl⟩)
      | (go_at_call 88; refine (HF.out _ _ (by go_cell) (by go_cell) (by go_cell)).mono ?_; rintro e w1 ⟨rfl, rfl⟩))
  all_goals go_wp2
  all_goals (go_ret; exact ⟨rfl, (by repeat (first | (with_reducible exact HB.out) | apply below_alloc | apply pw_below_drewN | apply below_drew1 | exact HB.out)), (by have HDo := HD.out; first | exact HDo | (simp at HDo ⊢; done) | (simp [drawn_alloc, drawn_setCell, drawn_drew, drawn_drewN] at HDo ⊢; done) | (simp only [drawn_alloc, drawn_setCell, drawn_drew, drawn_drewN] at HDo ⊢; omega))⟩)
theorem sortkids_calls (W : World) (B : Nat) (v : Value) (l : List KidR) (H : OwnK W B v l) (hl : l.length ≤ 1000000) :
    Calls Tryz.prog 69 #[v, .func (.func 70) #[] #[]] W fun e w' => e = .returned (.tuple #[]) ∧ OwnK w' B v (srt kidCmp l) ∧ Tr.Touch (fun b => v.ownBlock = some b) W w' := by
  have hnil : v = .slice none 0 0 ∧ l = [] ∨ ∃ g c, v = .slice (some ⟨g, 0, none⟩) l.length c ∧ g < W.heap.size := by
    obtain ⟨inner, ho, _⟩ := H
    rcases ho.2 with ⟨rfl, h2⟩ | ⟨g, cap, cur, rfl, _, hg, _⟩
    · exact .inl ⟨rfl, List.eq_nil_of_length_eq_zero h2⟩
    · exact .inr ⟨g, cap, rfl, blk_lt hg⟩
  rcases hnil with ⟨rfl, rfl⟩ | ⟨g, c, rfl, hg⟩
  · refine (AnyF.slices_SortFunc_none Tryz.laysSortKid none 0 (.func (.func 70) #[] #[]) W).mono ?_
    rintro e w' ⟨rfl, hw⟩
    exact ⟨rfl, by subst hw; simpa [srt] using H, by subst hw; exact Tr.Touch.refl _ _⟩
  · have eg : ∀ args w, (callFunc 70 args).run Tryz.prog w = .ok (.enter 70 args) w := enters_of Tryz.func70 (by kernel_rfl) rfl
    have hcmp : CmpLays Tryz.prog 70 #[] kidCells 3 kidCmp g 0 l.toArray.size W := fun m os dk _ x y => (order_d x y _).mono fun e w' ⟨he, hb, hd⟩ => ⟨he, grow_of hb hd⟩
    refine (AnyQ.slices_SortFunc_total Tryz.laysSortKid 3 (fun w => by kernel_rfl) (fun w => by kernel_rfl) kidCells kidCells_length kidCells_one kidCmp kidSWO 70 #[] g 0 c l.toArray W eg hcmp (holdsK_of_row kidCells_length H) hg (by simp; omega) kidTot).mono ?_
    rintro e w' ⟨rfl, n, os, rfl⟩
    obtain ⟨h1, h2⟩ := sorted_row kidCells_length H (ts := srt kidCmp l) (srt_length l) n os
    exact ⟨rfl, h1, Tr.Touch.grown h2 fun b e => e⟩

/-- What has come of a map that is ranged over. -/
structure Got (l : List KidR) (left : Lit → Bool) (ks : List KidR) : Prop where
  nd : ks.Nodup
  mem : ∀ k, k ∈ ks ↔ k ∈ l ∧ left (.int .i64 k.node) = false
theorem Got.start {l : List KidR} {D : DataW Unit} (hv : View D l) (ht : Tidy l) (hw : ∀ k ∈ l, Wf k.node) : Got l (Maps.has D) [] :=
  ⟨List.Pairwise.nil, fun k => ⟨fun h => by simp at h, fun ⟨h1, h2⟩ => by
    have := (hv k.node (hw k h1)).2
    rw [h2, (mem_lookT ht).1 h1] at this
    cases this⟩⟩
theorem sameKey_int (x y : Int) : (Lit.int .i64 x).sameKey (.int .i64 y) = decide (x = y) := by
  simp [Lit.sameKey]
theorem Got.step {l ks : List KidR} {left : Lit → Bool} (h : Got l left ks) (ht : Tidy l) {x : Int} {s : Sp} (hs : lookT l x = some s) (hx : left (.int .i64 x) = true) :
    Got l (fun z => left z && !z.sameKey (.int .i64 x)) (ks ++ [⟨s.1, s.2, x⟩]) := by
  refine ⟨?_, fun k => ?_⟩
  · rw [List.nodup_append]
    refine ⟨h.nd, by simp, fun a ha b hb e => ?_⟩
    rw [List.mem_singleton] at hb
    subst hb e
    have := ((h.mem _).1 ha).2
    rw [hx] at this
    cases this
  · rw [List.mem_append, List.mem_singleton, h.mem]
    simp only [sameKey_int, Bool.and_eq_false_iff, Bool.not_eq_false', decide_eq_true_eq]
    constructor
    · rintro (⟨h1, h2⟩ | rfl)
      · exact ⟨h1, .inl h2⟩
      · exact ⟨lookT_mem hs, .inr rfl⟩
    · rintro ⟨h1, h2 | h2⟩
      · exact .inl ⟨h1, h2⟩
      · right
        have := (mem_lookT ht).1 h1
        rw [h2, hs] at this
        cases this
        obtain ⟨p, n, j⟩ := k
        simp only at h2
        subst h2
        rfl
theorem Got.sorted {l ks : List KidR} {left : Lit → Bool} (h : Got l left ks) (hl : ∀ kl, left kl = false) (hn : l.Nodup) : srt kidCmp ks = srt kidCmp l :=
  asc_ext kidOrd (srt_asc kidOrd h.nd) (srt_asc kidOrd hn) fun x => by rw [mem_srt, mem_srt, h.mem, hl]; simp
theorem tidy_nodup {l : List KidR} (h : Tidy l) : l.Nodup := h.imp fun {a b} hab e => hab (by rw [e])
end Go.Proofs.YtkmdmjlepmmejaaGreatDoor.Ol
/- All nodes of a tree, in order: picked, All. -/
namespace Go.Proofs.YtkmdmjlepmmejaaGreatDoor.Ol
open Go.RowKit Go.Sort Go.Proofs.YtkmdmjlepmmejaaGreatDoorW.PrintWords Tr

structure SpE where
  i : Bool
  t : Int
  nm : ByteArray
theorem nodup_leK : ∀ {l m : List KidR}, l.Nodup → (∀ x ∈ l, x ∈ m) → l.length ≤ m.length
  | [], _, _, _ => Nat.zero_le _
  | a :: l, m, hl, h => by
    have hl' := List.nodup_cons.1 hl
    have ha := h a (List.mem_cons_self ..)
    have := nodup_leK (l := l) (m := m.erase a) hl'.2 fun x hx => by
      rw [List.mem_erase_of_ne]
      · exact h x (List.mem_cons_of_mem _ hx)
      · rintro rfl; exact hl'.1 hx
    rw [List.length_erase_of_mem ha] at this
    have h0 : 0 < m.length := List.length_pos_of_mem ha
    simp only [List.length_cons]
    omega
theorem iter_not_row {W : World} {b r n : Nat} {D : DataW Unit} {left : Lit → Bool} {cnt : Nat} (h : W.ranges Tryz.prog 3 spR b r n D left cnt) {B : Nat} {v : Value} {ks : List KidR} (ho : OwnK W B v ks) : v.ownBlock ≠ some r := by
  intro e
  obtain ⟨inner, hrow, _⟩ := ho
  obtain ⟨_, _, _, _, _, _, _, _, _, hit, _⟩ := h
  rcases hrow.2 with ⟨rfl, _⟩ | ⟨g, cap, cur, rfl, _, hg, _⟩
  · cases e
  · cases e
    rw [hg] at hit
    cases hit
theorem map_not_row {W : World} {b r n : Nat} {D : DataW Unit} {left : Lit → Bool} {cnt : Nat} (h : W.ranges Tryz.prog 3 spR b r n D left cnt) {l : List KidR} (hv : View D l) {B : Nat} {v : Value} {ks : List KidR} (ho : OwnK W B v ks) : v.ownBlock ≠ some b := by
  obtain ⟨inner, hrow, _⟩ := ho
  exact MapAt.ne_row (l := l) ⟨D, own_len h.owns hv, hv⟩ hrow
theorem entry_is {D : DataW Unit} {l : List KidR} (hv : View D l) {x : Int} (hx : Wf x) {i : Bool} {t : Int} {nm : ByteArray} {y : DataW Unit × List MemPlace} (hy : spR (.agg #[.bool i, .int .i64 t, .string nm]) = some y) (hat : ∀ zd, D.atKey (.int .i64 x) zd = y.1) : i = true ∧ lookT l x = some (t, nm) := by
  have h1 := (hv x hx).1
  have h2 := (hv x hx).2
  rw [hat] at h1
  rw [Maps.has_true_of_atKey hat] at h2
  obtain ⟨y1, ps⟩ := y
  simp only at h1
  subst h1
  have h3 := spR_spD hy
  cases hl : lookT l x with
  | none => rw [hl] at h2; cases h2
  | some s =>
    rw [hl] at h3
    obtain ⟨st, sn⟩ := s
    simp only [osV, Value.agg.injEq] at h3
    injection h3 with h3
    simp at h3
    obtain ⟨rfl, rfl, rfl⟩ := h3
    exact ⟨rfl, rfl⟩
theorem grown_below {W W' : World} (h : W.grownBy W' none) : Below W.heap.size W W' := ⟨h.os, h.tape, h.output, h.size, fun k hk => h.block k hk (by simp)⟩
theorem below_grown {W W' : World} (h : Below W.heap.size W W') : W.grownBy W' none := ⟨h.os, h.tape, h.output, h.size, fun k hk _ => h.block k hk⟩
theorem fit_calls (i : Bool) (t : Int) (nm : ByteArray) (w : World) : Calls Tryz.prog 43 #[.agg #[.bool i, .int .i64 t, .string nm]] w fun e w' => e = .returned (.bool true) ∧ Below w.heap.size w w' := by
  have HB := Lib.hid (Below.refl w.heap.size w)
  go_enter Tryz.func43, Tryz.ntmps43
  go_wp2
  go_ret
  exact ⟨rfl, (by repeat (first | (with_reducible exact HB.out) | apply below_alloc | apply pw_below_drewN | apply below_drew1 | exact HB.out))⟩
set_option maxRecDepth 100000 in
set_option maxHeartbeats 2000000 in
theorem picked_calls (W : World) (p mb : Nat) (dv : Value) (l : List KidR) (H : TB W p mb dv l) (ht : Tidy l) (hw : ∀ k ∈ l, Wf k.node) (hlen : l.length ≤ 1000000) :
    Calls Tryz.prog 42 #[.pointer (some ⟨p, 0, none⟩), .func (.func 43) #[] #[]] W fun e w' => ∃ v, e = .returned v ∧ OwnK w' W.heap.size v (srt kidCmp l) ∧ Below W.heap.size W w' := by
  obtain ⟨D, hown, hv⟩ := H.hm
  have c0 := blk_cell H.hp 0
  simp at c0
  have hlt := blk_lt H.hp
  have HV := Lib.hid hv
  have HT := Lib.hid ht
  have HW := Lib.hid hw
  clear H hv ht hw
  go_enter Tryz.func42, Tryz.ntmps42
  go_wp2_with (first
    | (at_range; refine wpList_range_own _ rfl _ 91 rfl 3 73 keysI Tryz.underlying91 spR mb l.length D rfl hown ?_; intro w0 hrg0 hg0 hs0)
    | go_in)
  go_frame
  go_loopw [5] (fun v wr => ∃ (left : Lit → Bool) (cnt : Nat) (ks : List KidR), wr.ranges Tryz.prog 3 spR mb W.heap.size l.length D left cnt ∧ Hid (OwnK wr W.heap.size v ks) ∧ Hid (Got l left ks) ∧ Hid (Below W.heap.size W wr)) (fun _ wr => wr.rangeLeft mb W.heap.size)
  case atStart => exact ⟨_, _, [], hrg0, Lib.hid (OwnRow.none_ _ _ _ _ _), Lib.hid (Got.start HV.out HT.out HW.out), Lib.hid (grown_below hg0)⟩
  case round =>
    obtain ⟨left, cnt, ks, hrg, HO, HG, HB⟩ := hrel
    go_wp2_with (first
      | (at_next; refine wpList_next_ranges _ rfl _ rfl 3 keysI spR (Value.int .i64) (fun c : SpE => .agg #[.bool c.i, .int .i64 c.t, .string c.nm]) (fun key kl hk => by obtain ⟨x, hx, _⟩ := Maps.keyOf_int_inv Tryz.underlying3 hk; exact ⟨x, hx⟩) (fun v y hy => by obtain ⟨i, t, s, hv, _⟩ := spR_inv hy; exact ⟨⟨i, t, s⟩, hv⟩) mb W.heap.size l.length D _ _ rfl hrg ?_ ?_)
      | go_in)
    · intro hc0 hl0
      have hso := HG.out.sorted hl0 (tidy_nodup HT.out)
      have hle := nodup_leK HG.out.nd (fun k hk => ((HG.out.mem k).1 hk).1)
      have HS := Lib.hid (sortkids_calls wr W.heap.size u5 ks HO.out (by omega))
      rw [hso] at HS
      have HOB := Lib.hid (show ∀ b, u5.ownBlock = some b → W.heap.size ≤ b from fun b e => by
        obtain ⟨inner, hrow, _⟩ := HO.out
        exact own_base hrow b e)
      clear hrg hso
      go_wp2_with (first
        | (go_at_call 69; (refine HS.out.mono ?_); rintro e w2 ⟨rfl, ho, ht⟩; have HO2 := Lib.hid ho; have HB2 := Lib.hid (HB.out.trans (ht.toBelow HB.out.size HOB.out)); clear ho ht)
        | (fail "no arm"))
      go_ret
      exact ⟨_, rfl, HO2.out, HB2.out⟩
    · intro x c kl y1 y2 w1 cnt1 hkey hlk hy hat hrg1 hlt1 hg1 hs1 hen
      obtain ⟨x', ex, rfl, hwx⟩ := Maps.keyOf_int_inv Tryz.underlying3 hkey
      cases ex
      obtain ⟨ci, ct, cn⟩ := c
      obtain ⟨rfl, hlook⟩ := entry_is (y := (y1, y2)) HV.out hwx hy hat
      have HG2 := Lib.hid (HG.out.step HT.out hlook hlk)
      have hle := nodup_leK HG.out.nd (fun k hk => ((HG.out.mem k).1 hk).1)
      have HO1 := Lib.hid ((Tr.Touch.grown hg1 (F := fun b => b = W.heap.size) (fun b e => (Option.some.inj e).symm)).row HO.out (fun b e hb => iter_not_row hrg HO.out (by rw [e, hb])))
      have HB1 := Lib.hid (HB.out.trans ((Tr.Touch.grown hg1 (F := fun b => b = W.heap.size) (fun b e => (Option.some.inj e).symm)).toBelow HB.out.size (fun b e => by rw [e]; exact Nat.le_refl _)))
      have HR1 := Lib.hid hrg1
      have HM := Lib.hid hrg
      have HLT := Lib.hid hlt1
      clear HB HO HG hrg1 hg1 hs1 hy hat hlk hkey hrg hlt1
      have HB := HB1
      go_wp2_with (first
        | (go_at_call 43; (refine (fit_calls _ _ _ _).mono ?_); rintro e w2 ⟨rfl, hb⟩; have s1 : w2.cell? ⟨w1.heap.size, 1, none⟩ = some (.int .i64 ct) := pw_cell_below hb (by go_cell); have s2 : w2.cell? ⟨w1.heap.size, 2, none⟩ = some (.string cn) := pw_cell_below hb (by go_cell); have hb1 := below_step (below_alloc (Below.refl w1.heap.size w1) _) hb; have HR2 := Lib.hid (HR1.out.kept (below_grown hb1) (by simp) (by simp)); have HO2 := Lib.hid (OwnRow.below HO1.out hb1); clear HO1 HR1 hb1; have HBn := Lib.hid (below_step (by repeat (first | (with_reducible exact HB.out) | apply below_alloc | apply pw_below_drewN | apply below_drew1 | exact HB.out)) hb); clear hb HB; have HB := HBn; clear HBn)
        | (at_builtin; go_loud ((refine OwnRow.append (R := fun p cs => cs = kidCells p) (w0 := W) (W := w2) W.heap.size rfl (.tmp 21) (.tmp 28) 42 81 _ 3 32 rfl Tryz.underlying42 kidInfo rfl (by decide) (by decide) _ ks ⟨ct, cn, x⟩ [.int .i64 ct, .string cn, .int .i64 x] (by rfl) (by simp [Act.eval]) rfl rfl (by simp [Value.oneCell']) HO2.out HB.out HB.out.size ?hl ?_; (case hl => omega); intro v3 w3 ho hb hg hat; have HR3 := Lib.hid (HR2.out.kept hg (fun e => map_not_row HR2.out HV.out HO2.out e.symm) (fun e => iter_not_row HR2.out HO2.out e.symm)); have HO3 := Lib.hid ho; have HBn := Lib.hid hb; clear HB ho hb hg hat; have HB := HBn; clear HBn)))
        | (fail "no arm"))
      go_roundw
      case rel => exact ⟨_, cnt1, ks ++ [⟨ct, cn, x⟩], HR3.out, HO3, HG2, HB⟩
      case measure => rw [HR3.out.left_eq, HM.out.left_eq]; exact HLT.out
theorem treeall_calls (W : World) (F : Nat → Prop) (p : Nat) (os : List OpR) (H : TreeAt W F p os) (hos : ∀ o ∈ os, opRight o = true) (hlen : os.length ≤ 1000000) :
    Calls Tryz.prog 19 #[.pointer (some ⟨p, 0, none⟩)] W fun e w' => ∃ v, e = .returned v ∧ OwnK w' W.heap.size v (srt kidCmp (treeO os)) ∧ Below W.heap.size W w' := by
  obtain ⟨mb, dv, hb, _, _, _, _⟩ := H
  have HP := Lib.hid (picked_calls W p mb dv (treeO os) hb (tidy_run os) (fun k hk => by
    obtain ⟨o, ho, rfl⟩ := mem_treeO hk
    exact (right_wf (hos o ho)).1) (Nat.le_trans (length_treeO os) hlen))
  have HB := Lib.hid (Below.refl W.heap.size W)
  clear hb
  go_enter Tryz.func19, Tryz.ntmps19
  go_wp2_with (first
    | (go_at_call 42; go_loud ((refine HP.out.mono ?_); rintro e w1 ⟨v, rfl, ho, hb⟩; have HO := Lib.hid ho; clear ho; have HBn := Lib.hid (below_step (by repeat (first | (with_reducible exact HB.out) | apply below_alloc | apply pw_below_drewN | apply below_drew1 | exact HB.out)) hb); clear hb HB; have HB := HBn; clear HBn))
    | (fail "no arm"))
  go_ret
  exact ⟨_, rfl, HO.out, (by repeat (first | (with_reducible exact HB.out) | apply below_alloc | apply pw_below_drewN | apply below_drew1 | exact HB.out))⟩
end Go.Proofs.YtkmdmjlepmmejaaGreatDoor.Ol
/- The reference's Same, over lists of nodes in memory. -/
namespace Go.Proofs.YtkmdmjlepmmejaaGreatDoor.Ol
open Go.RowKit Go.Sort Go.Proofs.YtkmdmjlepmmejaaGreatDoorW.PrintWords Tr

/-- A node's fields lie in block b from place o on. -/
def KidIn (b o : Nat) (p : KidR) (w : World) : Prop :=
  w.cell? ⟨b, o, none⟩ = some (.int .i64 p.par) ∧ w.cell? ⟨b, o + 1, none⟩ = some (.string p.name) ∧ w.cell? ⟨b, o + 2, none⟩ = some (.int .i64 p.node)
theorem KidIn.below {b o : Nat} {p : KidR} {w w1 : World} (k : KidIn b o p w) (hb : Below w.heap.size w w1) : KidIn b o p w1 :=
  ⟨pw_cell_below hb k.1, pw_cell_below hb k.2.1, pw_cell_below hb k.2.2⟩
theorem KidIn.at_ {b o : Nat} {p : KidR} {w W : World} (k : KidIn b o p w) (h : W.heap = w.heap) : KidIn b o p W :=
  ⟨(World.cell?_of_block (by rw [h])).trans k.1, (World.cell?_of_block (by rw [h])).trans k.2.1, (World.cell?_of_block (by rw [h])).trans k.2.2⟩
/-- A list of nodes lies behind A. -/
def KidsAt (w : World) (A : Option Addr) (n : Nat) (ks : List KidR) : Prop :=
  ks.length = n ∧ n ≤ 9223372036854775807 ∧ (0 < n → ∃ b o, A = some ⟨b, o, none⟩ ∧ ∀ (i : Nat) (hi : i < ks.length), KidIn b (o + i * 3) ks[i] w)
theorem KidsAt.below {w w1 : World} {A : Option Addr} {n : Nat} {ks : List KidR} (h : KidsAt w A n ks) (hb : Below w.heap.size w w1) : KidsAt w1 A n ks :=
  ⟨h.1, h.2.1, fun hn => by
    obtain ⟨b, o, e, hc⟩ := h.2.2 hn
    exact ⟨b, o, e, fun i hi => (hc i hi).below hb⟩⟩
theorem KidsAt.nil (w : World) (A : Option Addr) : KidsAt w A 0 [] := ⟨rfl, by omega, fun h => absurd h (by omega)⟩
theorem kids_of_row {w : World} {A : Option Addr} {n : Nat} {os : List KidR} (h : ReadsRow (fun p cs => cs = kidCells p) 3 w A n os) : KidsAt w A n os := by
  refine ⟨h.1, h.2.1, fun hn => ?_⟩
  obtain ⟨ad, rfl, hc⟩ := h.2.2 hn
  have hl : 0 < os.length := by rw [h.1]; exact hn
  obtain ⟨c0, _, e0, h0⟩ := hc 0 os[0] (List.getElem?_eq_getElem hl)
  have hz := h0 0 (.int .i64 os[0].par) (by rw [e0]; rfl)
  have hs := spotO (show w.cell? ad = _ from hz)
  refine ⟨ad.block, ad.off, by rw [← hs], fun i hi => ?_⟩
  obtain ⟨c, _, e, hcell⟩ := hc i os[i] (List.getElem?_eq_getElem hi)
  have key : ∀ j u, (kidCells os[i])[j]? = some u → w.cell? ⟨ad.block, ad.off + i * 3 + j, none⟩ = some u := by
    intro j u hu
    have := hcell j u (by rw [e]; exact hu)
    rw [hs, addO] at this
    rw [Nat.add_assoc]
    exact this
  exact ⟨key 0 _ rfl, key 1 _ rfl, key 2 _ rfl⟩
theorem row_of_kids {w : World} {A : Option Addr} {n : Nat} {os : List KidR} (h : KidsAt w A n os) : ReadsRow (fun p cs => cs = kidCells p) 3 w A n os := by
  refine ⟨h.1, h.2.1, fun hn => ?_⟩
  obtain ⟨b, o, rfl, hc⟩ := h.2.2 hn
  refine ⟨_, rfl, fun j p hp => ⟨kidCells p, rfl, rfl, fun i u hu => ?_⟩⟩
  obtain ⟨hj, rfl⟩ := List.getElem?_eq_some_iff.1 hp
  obtain ⟨k0, k1, k2⟩ := hc j hj
  rw [addO, ← Nat.add_assoc]
  match i, hu with
  | 0, hu => cases hu; exact k0
  | 1, hu => cases hu; exact k1
  | 2, hu => cases hu; exact k2
theorem OwnK.kids {w : World} {base : Nat} {v : Value} {os : List KidR} (h : OwnK w base v os) : ∃ A c, v = .slice A os.length c ∧ os.length ≤ c ∧ KidsAt w A os.length os := by
  obtain ⟨A, c, he, hc, hr⟩ := OwnRow.reads h
  exact ⟨A, c, he, hc, kids_of_row hr⟩
/-- Whether two nodes' fields are the same. -/
def eqKB (p : Int) (n : ByteArray) (k p' : Int) (n' : ByteArray) (k' : Int) : Bool := (p == p') && ((n.toList == n'.toList) && (k == k'))
theorem eqKB_iff (a b : KidR) : eqKB a.par a.name a.node b.par b.name b.node = true ↔ a = b := by
  obtain ⟨p, n, k⟩ := a
  obtain ⟨p', n', k'⟩ := b
  simp only [eqKB, Bool.and_eq_true, beq_iff_eq, KidR.mk.injEq]
  have : n.toList = n'.toList ↔ n = n' := ⟨fun h => by rw [ByteArray.toList_eq, ByteArray.toList_eq] at h; exact ByteArray.ext (Array.toList_inj.1 h), fun h => by rw [h]⟩
  rw [this]
theorem eqKid (d : Nat) (w : World) (p : Int) (n : ByteArray) (k p' : Int) (n' : ByteArray) (k' : Int) :
    (Op.equalIn (d + 2) 81 (.agg #[.int .i64 p, .string n, .int .i64 k]) (.agg #[.int .i64 p', .string n', .int .i64 k'])).run Tryz.prog w = .ok (eqKB p n k p' n' k') w := by
  unfold eqKB
  refine eqA_of Tryz.underlying81 (by kernel_rfl) ?_
  refine eqf_cons (by rfl) (by go_simp; rfl) (by go_simp; rfl) (by go_simp) ?_
  refine eqf_cons (by rfl) (by go_simp; rfl) (by go_simp; rfl) (by go_simp) ?_
  exact eqf_last (by rfl) (by go_simp; rfl) (by go_simp; rfl) (by go_simp)
attribute [local go_sem high] eqKid

/-- Whether two lists of nodes are one. -/
noncomputable def sameK (us bs : List KidR) : Bool := by classical exact decide (us = bs)
set_option maxHeartbeats 2000000 in
theorem sameK_calls (A : Option Addr) (n c : Nat) (us : List KidR) (B : Option Addr) (m d : Nat) (bs : List KidR) (w : World) (ha : KidsAt w A n us) (hb : KidsAt w B m bs) :
    Calls Tryz.prog 18 #[.slice A n c, .slice B m d] w fun e w' => e = .returned (.bool (sameK us bs)) ∧ ∃ k, w' = w.drewN k := by
  have hm := ha.2.1
  have hm2 := hb.2.1
  have HA := Lib.hid ha
  have HB := Lib.hid hb
  have hlen : n ≠ m → sameK us bs = false := fun h => by
    simp only [sameK, decide_eq_false_iff_not]
    intro e
    rw [← ha.1, ← hb.1, e] at h
    exact h rfl
  by_cases hnm : n = m
  · subst hnm
    clear hlen ha hb
    go_enter Tryz.func18, Tryz.ntmps18
    go_wp2
    go_loopw [5] (fun vi W => ∃ i : Nat, vi = .int .i64 i ∧ i ≤ n ∧ Hid (us.take i = bs.take i) ∧ Hid (∃ k, W = w.drewN k)) (fun vi _ => (n - (RowKit.intOf vi).toNat))
    case atStart => exact ⟨0, rfl, by omega, Lib.hid (by simp), Lib.hid ⟨0, rfl⟩⟩
    case round =>
      obtain ⟨i, rfl, hi, HT, HW⟩ := hrel
      obtain ⟨kw, rfl⟩ := HW.out
      by_cases hlt : i < n
      · have hltA : i < us.length := by rw [HA.out.1]; exact hlt
        have hltB : i < bs.length := by rw [HB.out.1]; exact hlt
        obtain ⟨xb, xo, rfl, hcellA⟩ := HA.out.2.2 (show 0 < n by omega)
        obtain ⟨yb, yo, rfl, hcellB⟩ := HB.out.2.2 (show 0 < n by omega)
        have hca := hcellA i hltA
        have hcb := hcellB i hltB
        have HS := Lib.hid (show us[i] = bs[i] → us.take (i + 1) = bs.take (i + 1) from fun h => by
          rw [List.take_succ_eq_append_getElem hltA, List.take_succ_eq_append_getElem hltB, HT.out, h])
        have HNO := Lib.hid (show us[i] ≠ bs[i] → sameK us bs = false from fun h => by
          simp only [sameK, decide_eq_false_iff_not]
          intro e
          subst e
          exact h rfl)
        have HEQ := Lib.hid (eqKB_iff us[i] bs[i])
        generalize us[i] = p at *
        generalize bs[i] = q at *
        obtain ⟨a0, a1, a2⟩ := hca
        obtain ⟨b0, b1, b2⟩ := hcb
        clear hcellA hcellB hltA hltB
        have hi1 : (0 : Int) ≤ (i : Int) := by omega
        have hi2 : (i : Int) < (n : Int) := by omega
        cases he : eqKB p.par p.name p.node q.par q.name q.node
        · have HR := Lib.hid (HNO.out (fun h => by rw [HEQ.out.2 h] at he; cases he))
          have HE := Lib.hid he
          clear he
          go_wp2
          go_quiet (fail)
          rw [HE.out]
          go_wp2
          go_ret
          rw [HR.out]
          exact ⟨rfl, _, World.drewN_drewN _ _ _⟩
        · have HR := Lib.hid (HS.out (HEQ.out.1 he))
          have HE := Lib.hid he
          clear he
          go_wp2
          go_quiet (fail)
          rw [HE.out]
          go_wp2
          go_roundw
          case rel => exact ⟨i + 1, by go_num, by omega, HR, Lib.hid ⟨_, rfl⟩⟩
          case measure => simp [RowKit.intOf] <;> omega
      · obtain rfl : i = n := by omega
        have hall := HT.out
        rw [List.take_of_length_le (by rw [HA.out.1]; exact Nat.le_refl _), List.take_of_length_le (by rw [HB.out.1]; exact Nat.le_refl _)] at hall
        have HALL := Lib.hid (show sameK us bs = true by simp only [sameK, decide_eq_true_eq]; exact hall)
        clear hall
        go_wp2
        go_ret
        rw [HALL.out]
        exact ⟨rfl, _, rfl⟩
  · have HF := Lib.hid (hlen hnm)
    have q1 : ((n : Int) != (m : Int)) = true := by rw [bne_iff_ne]; omega
    have q2 : (n != m) = true := by rw [bne_iff_ne]; exact hnm
    clear hlen ha hb hnm
    go_enter Tryz.func18, Tryz.ntmps18
    go_wp2
    go_ret
    rw [HF.out]
    exact ⟨rfl, 0, rfl⟩
end Go.Proofs.YtkmdmjlepmmejaaGreatDoor.Ol
/- Undo, whatever was done; rows of operations that are written into. -/
namespace Go.Proofs.YtkmdmjlepmmejaaGreatDoor.Ol
open Go.RowKit Go.Sort Go.Proofs.YtkmdmjlepmmejaaGreatDoorW.PrintWords Tr

theorem undo0_calls (W : World) (F : Nat → Prop) (p : Nat) (H : TreeAt W F p []) :
    Calls Tryz.prog 27 #[.pointer (some ⟨p, 0, none⟩)] W fun e w' => e = .returned (.bool false) ∧ w' = W := by
  obtain ⟨mb, dv, hTB, hD, _, _, _⟩ := H
  obtain ⟨A, c, rfl, _, _⟩ := OwnRow.reads hD
  have c1 := blk_cell hTB.hp 1
  simp at c1
  have c2 : W.cell? ⟨p, 1, none⟩ = some (.slice A 0 c) := c1
  have hlt := blk_lt hTB.hp
  clear hD hTB c1
  go_enter Tryz.func27, Tryz.ntmps27
  go_wp2
  go_ret
  exact ⟨rfl, rfl⟩
theorem undo_any (W : World) (F : Nat → Prop) (p : Nat) (os : List OpR) (H : TreeAt W F p os) (ho : ∀ o ∈ os, opRight o = true) (hlen : os.length ≤ 1000000) :
    Calls Tryz.prog 27 #[.pointer (some ⟨p, 0, none⟩)] W fun e w' => ∃ b, e = .returned (.bool b) ∧ TreeAt w' F p os.dropLast ∧ Tr.Touch F W w' := by
  rcases List.eq_nil_or_concat os with rfl | ⟨l, o, rfl⟩
  · exact (undo0_calls W F p H).mono fun e w' ⟨he, hw⟩ => ⟨false, he, by subst hw; exact H, by subst hw; exact Tr.Touch.refl _ _⟩
  · rw [List.concat_eq_append] at H ho hlen ⊢
    rw [List.dropLast_concat]
    rw [List.length_append, List.length_singleton] at hlen
    exact (undo_calls W F p l o H (ho o (List.mem_append.2 (.inr (List.mem_singleton.2 rfl)))) hlen).mono fun e w' ⟨he, ht, hw⟩ => ⟨true, he, ht, hw⟩
/-- A row's block, whatever is in it. -/
def RowB (W : World) (g n : Nat) : Prop := ∃ cs, W.heap[g]? = some (.cells cs 50 (0, 0)) ∧ n * 5 ≤ cs.size
theorem RowB.set_ {W : World} {g n j : Nat} (h : RowB W g n) (u : Value) : RowB (W.setCell ⟨g, j, none⟩ u) g n := by
  obtain ⟨cs, hg, hs⟩ := h
  exact ⟨_, blk_put hg j u rfl, by simpa using hs⟩
theorem RowB.cell {W : World} {g n j : Nat} (h : RowB W g n) (hj : j < n * 5) : ∃ v, W.cell? ⟨g, j, none⟩ = some v := by
  obtain ⟨cs, hg, hs⟩ := h
  exact ⟨cs[j]'(by omega), by rw [blk_cell hg j]; exact Array.getElem?_eq_getElem (by omega)⟩
theorem RowB.fz {W : World} {g n : Nat} (h : RowB W g n) (j : Nat) : W.frozen? ⟨g, j, none⟩ = false := by
  obtain ⟨cs, hg, hs⟩ := h
  exact blk_frozen hg j
theorem RowB.touch {F : Nat → Prop} {W W' : World} {g n : Nat} (h : RowB W g n) (ht : Tr.Touch F W W') (hn : ¬ F g) : RowB W' g n := by
  obtain ⟨cs, hg, hs⟩ := h
  exact ⟨cs, ht.blk hg hn, hs⟩
theorem RowB.below {W W' : World} {g n : Nat} (h : RowB W g n) (hb : Below W.heap.size W W') : RowB W' g n := by
  obtain ⟨cs, hg, hs⟩ := h
  exact ⟨cs, blk_below hg hb, hs⟩
theorem OwnO.rowB {W : World} {B : Nat} {v : Value} {l : List OpR} (h : OwnO W B v l) (hl : 0 < l.length) : ∃ g c, v = .slice (some ⟨g, 0, none⟩) l.length c ∧ B ≤ g ∧ g < W.heap.size ∧ RowB W g l.length := by
  obtain ⟨g, c, e, _, hlt, hb, _⟩ := own_head h hl
  obtain ⟨inner, hrow, _⟩ := h
  subst e
  rcases hrow.2 with ⟨h', _⟩ | ⟨g', cap, cur, h', _, hg, h1, _, h3, _⟩
  · cases h'
  · cases h'
    exact ⟨g, c, rfl, hb, hlt, cur, hg, by rw [h3]; exact Nat.mul_le_mul_right 5 h1⟩
end Go.Proofs.YtkmdmjlepmmejaaGreatDoor.Ol
/- All that the laws of a log stand on, the tree's own list among it. -/
