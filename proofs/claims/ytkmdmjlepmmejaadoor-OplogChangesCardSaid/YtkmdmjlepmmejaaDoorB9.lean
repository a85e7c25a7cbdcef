/-
  Lists of small operations: holtref05.Of, holtref05.All; The reference's Same, over lists of operations in memory; The witness world whose listed tables read as laid; the tables of a world that is entered; All that the laws of a log stand on
-/
import Derived.Test.YtkmdmjlepmmejaaDoorB8
import Derived.Test.YtkmdmjlepmmejaaDoorPAllx1
import Derived.Test.YtkmdmjlepmmejaaDoorRows
import Derived.Lib.LaidIn
import Derived.Lib.LaidU8T
import Derived.PinnedBridge
import Derived.ProofKit
/- Lists of small operations: holtref05.Of, holtref05.All. -/
namespace Go.Proofs.YtkmdmjlepmmejaaDoor.Ol
open Go.RowKit Tr Go.Proofs.YtkmdmjlepmmejaaDoorW.Open Go.Proofs.YtkmdmjlepmmejaaDoorW.PrintWords

def shortN (n : Int) : ByteArray := (⟨#[97, 98, 99, 100, 101, 102, 103, 104]⟩ : ByteArray).extract (n % 8).toNat (n % 8 + 1).toNat
def ofOp (n r node to' name : Int) : OpR := ⟨1 + n % 40, r % 4, 256 + node % 8, if 2 ≤ to' % 10 then 254 + to' % 10 else to' % 10, shortN name⟩
theorem of_f (n r node to' name : Int) (h0 : 0 ≤ n ∧ n < 256) (h1 : 0 ≤ r ∧ r < 256) (h2 : 0 ≤ node ∧ node < 256) (h3 : 0 ≤ to' ∧ to' < 256) (h4 : 0 ≤ name ∧ name < 256) :
    PAll.holtref05_Of.f n r node to' name = some ((ofOp n r node to' name).n, (ofOp n r node to' name).r, (ofOp n r node to' name).node, (ofOp n r node to' name).par, (ofOp n r node to' name).name) := by
  have e0 : wrap64 (Int.tmod n 40) = n % 40 := by rw [Int.tmod_eq_emod_of_nonneg h0.1]; unfold wrap64; omega
  have e1 : wrap64 (Int.tmod r 4) = r % 4 := by rw [Int.tmod_eq_emod_of_nonneg h1.1]; unfold wrap64; omega
  have e2 : wrap64 (Int.tmod node 8) = node % 8 := by rw [Int.tmod_eq_emod_of_nonneg h2.1]; unfold wrap64; omega
  have e3 : wrap64 (Int.tmod to' 10) = to' % 10 := by rw [Int.tmod_eq_emod_of_nonneg h3.1]; unfold wrap64; omega
  have e4 : wrap64 (Int.tmod name 8) = name % 8 := by rw [Int.tmod_eq_emod_of_nonneg h4.1]; unfold wrap64; omega
  have w0 : wrap64 (1 + n % 40) = 1 + n % 40 := by unfold wrap64; omega
  have w2 : wrap64 (256 + node % 8) = 256 + node % 8 := by unfold wrap64; omega
  have w3 : wrap64 (254 + to' % 10) = 254 + to' % 10 := by unfold wrap64; omega
  have w4 : wrap64 (name % 8 + 1) = name % 8 + 1 := by unfold wrap64; omega
  have hs : PAll.holtref03_Short.f name = some (shortN name) := by
    unfold PAll.holtref03_Short.f shortN
    rw [e4, w4, if_pos (by omega), if_pos (by omega), if_pos (by omega)]
  unfold PAll.holtref05_Of.f PAll.holtref04_Small.f
  rw [hs, e0, e1, e2, e3, w0, w2, w3]
  unfold ofOp
  by_cases h : 2 ≤ to' % 10
  · rw [if_pos h]; simp [h]
  · rw [if_neg (show ¬ to' % 10 ≥ 2 from h)]; simp [h]
theorem nameB_short (n : Int) : nameB (shortN n).data.toList = true := by
  have h : n % 8 = 0 ∨ n % 8 = 1 ∨ n % 8 = 2 ∨ n % 8 = 3 ∨ n % 8 = 4 ∨ n % 8 = 5 ∨ n % 8 = 6 ∨ n % 8 = 7 := by omega
  unfold shortN
  rcases h with h | h | h | h | h | h | h | h <;> rw [h] <;> decide +kernel
theorem of_right (n r node to' name : Int) : opRight (ofOp n r node to' name) = true := by
  unfold opRight ofOp
  simp only [nameB_short, Bool.and_true, Bool.and_eq_true]
  refine ⟨?_, ?_, ?_⟩
  · unfold stampR; simp only [Bool.and_eq_true, decide_eq_true_eq]; omega
  · unfold nodeR; simp only [Bool.and_eq_true, decide_eq_true_eq]; omega
  · unfold toR nodeR
    simp only [Bool.or_eq_true, Bool.and_eq_true, decide_eq_true_eq, beq_iff_eq]
    split <;> omega
theorem refof_calls (n r node to' name : Int) (w : World) (h0 : 0 ≤ n ∧ n < 256) (h1 : 0 ≤ r ∧ r < 256) (h2 : 0 ≤ node ∧ node < 256) (h3 : 0 ≤ to' ∧ to' < 256) (h4 : 0 ≤ name ∧ name < 256) :
    Calls Tryd.prog 12 #[.agg #[.int .u8 n, .int .u8 r, .int .u8 node, .int .u8 to', .int .u8 name]] w fun e w' => e = .returned (opV (ofOp n r node to' name)) ∧ Below w.heap.size w w' :=
  PAll.holtref05_Of.calls n r node to' name _ _ _ _ _ w (of_f n r node to' name h0 h1 h2 h3 h4)

def ofT (x : TinyT) : OpR := ofOp x.1 x.2.1 x.2.2.1 x.2.2.2.1 x.2.2.2.2
def TinyAt (b o : Nat) (x : TinyT) (w : World) : Prop :=
  w.cell? ⟨b, o, none⟩ = some (.int .u8 x.1) ∧ w.cell? ⟨b, o + 1, none⟩ = some (.int .u8 x.2.1) ∧ w.cell? ⟨b, o + 2, none⟩ = some (.int .u8 x.2.2.1) ∧ w.cell? ⟨b, o + 3, none⟩ = some (.int .u8 x.2.2.2.1) ∧ w.cell? ⟨b, o + 4, none⟩ = some (.int .u8 x.2.2.2.2)
theorem TinyAt.below {b o : Nat} {p : TinyT} {w w1 : World} (k : TinyAt b o p w) (hb : Below w.heap.size w w1) : TinyAt b o p w1 :=
  ⟨pw_cell_below hb k.1, pw_cell_below hb k.2.1, pw_cell_below hb k.2.2.1, pw_cell_below hb k.2.2.2.1, pw_cell_below hb k.2.2.2.2⟩
/-- A list of small operations lies behind A. -/
def TinysAt (w : World) (A : Option Addr) (n : Nat) (ts : List TinyT) : Prop :=
  ts.length = n ∧ n ≤ 9223372036854775807 ∧ (0 < n → ∃ b o, A = some ⟨b, o, none⟩ ∧ ∀ (i : Nat) (hi : i < ts.length), TinyAt b (o + i * 5) ts[i] w)
theorem TinysAt.below {w w1 : World} {A : Option Addr} {n : Nat} {os : List TinyT} (h : TinysAt w A n os) (hb : Below w.heap.size w w1) : TinysAt w1 A n os :=
  ⟨h.1, h.2.1, fun hn => by
    obtain ⟨b, o, e, hc⟩ := h.2.2 hn
    exact ⟨b, o, e, fun i hi => (hc i hi).below hb⟩⟩
theorem tinys_of_row {w : World} {A : Option Addr} {n : Nat} {ts : List TinyT} (h : ReadsRow (tinyKd.K w) 5 w A n ts) : TinysAt w A n ts := by
  refine ⟨h.1, h.2.1, fun hn => ?_⟩
  obtain ⟨ad, rfl, hc⟩ := h.2.2 hn
  have hl : 0 < ts.length := by rw [h.1]; exact hn
  obtain ⟨c0, l0, k0, h0⟩ := hc 0 ts[0] (List.getElem?_eq_getElem hl)
  have e0 : c0 = (tinyCs ts[0]).toList := congrArg Array.toList (tinyCs_of (cs := c0.toArray) k0)
  have hz := h0 0 (.int .u8 ts[0].1) (by rw [e0]; rfl)
  have hs := spotO (show w.cell? ad = _ from hz)
  refine ⟨ad.block, ad.off, by rw [← hs], fun i hi => ?_⟩
  obtain ⟨c, _, k, hcell⟩ := hc i ts[i] (List.getElem?_eq_getElem hi)
  have e : c = (tinyCs ts[i]).toList := congrArg Array.toList (tinyCs_of (cs := c.toArray) k)
  have key : ∀ j u, (tinyCs ts[i]).toList[j]? = some u → w.cell? ⟨ad.block, ad.off + i * 5 + j, none⟩ = some u := by
    intro j u hu
    have := hcell j u (by rw [e]; exact hu)
    rw [hs, addO] at this
    rw [Nat.add_assoc]
    exact this
  exact ⟨key 0 _ rfl, key 1 _ rfl, key 2 _ rfl, key 3 _ rfl, key 4 _ rfl⟩

set_option maxHeartbeats 2000000 in
theorem all_calls (A : Option Addr) (n c : Nat) (ts : List TinyT) (w : World) (hr : TinysAt w A n ts) (hi : ∀ x ∈ ts, TinyIn x) (hn : n ≤ 1000) :
    Calls Tryd.prog 9 #[.slice A n c] w fun e w' => ∃ v, e = .returned v ∧ OwnO w' w.heap.size v (ts.map ofT) ∧ Below w.heap.size w w' := by
  have HR := Lib.hid hr
  have HI := Lib.hid hi
  have HL := Lib.hid hr.1
  have HB := Lib.hid (Below.refl w.heap.size w)
  clear hr hi
  go_enter Tryd.func9, Tryd.ntmps9
  go_wp2
  go_loopw [3, 4] (fun vo vi W => ∃ i : Nat, vi = .int .i64 i ∧ i ≤ n ∧ Hid (OwnO W w.heap.size vo ((ts.take i).map ofT)) ∧ Hid (Below w.heap.size w W)) (fun _ vi _ => (n - (RowKit.intOf vi).toNat))
  case atStart => exact ⟨0, rfl, by omega, Lib.hid (OwnRow.none_ _ _ _ _ _), HB⟩
  case round =>
    clear HB
    obtain ⟨i, rfl, hi, HO, HB⟩ := hrel
    by_cases hlt : i < n
    · have hlt2 : i < ts.length := by rw [HL.out]; exact hlt
      obtain ⟨b, o, rfl, hcell⟩ := HR.out.2.2 (show 0 < n by omega)
      obtain ⟨c0, c1, c2, c3, c4⟩ := (hcell i hlt2).below HB.out
      have hin := HI.out ts[i] (List.getElem_mem hlt2)
      have hof := fun W => refof_calls ts[i].1 ts[i].2.1 ts[i].2.2.1 ts[i].2.2.2.1 ts[i].2.2.2.2 W hin.1 hin.2.1 hin.2.2.1 hin.2.2.2.1 hin.2.2.2.2
      have hsn : (ts.take (i + 1)).map ofT = (ts.take i).map ofT ++ [ofT ts[i]] := by rw [List.take_succ_eq_append_getElem hlt2, List.map_append]; rfl
      have hql : ((ts.take i).map ofT).length ≤ 1000 := by rw [List.length_map, List.length_take]; omega
      rw [show ofOp ts[i].1 ts[i].2.1 ts[i].2.2.1 ts[i].2.2.2.1 ts[i].2.2.2.2 = ofT ts[i] from rfl] at hof
      generalize ofT ts[i] = q at *
      generalize ts[i] = p at *
      generalize (ts.take i).map ofT = Q at *
      simp only [opV] at hof
      have HOF := Lib.hid hof
      have HSN := Lib.hid hsn
      have hi1 : (0 : Int) ≤ (i : Int) := by omega
      have hi2 : (i : Int) < (n : Int) := by omega
      clear hof hsn hin hcell
      go_wp2_with (first
        | (go_at_call 12; go_loud ((refine (HOF.out _).mono ?_); rintro e w2 ⟨rfl, hb⟩; have HO2 := Lib.hid (show OwnO w2 w.heap.size _ Q from OwnRow.below HO.out hb); clear c0 c1 c2 c3 c4; have HBn := Lib.hid (below_step (by repeat (first | (with_reducible exact HB.out) | apply below_alloc | apply pw_below_drewN | apply below_drew1 | exact HB.out)) hb); clear hb HB; have HB := HBn; clear HBn))
        | (at_builtin; go_loud ((refine OwnRow.append (R := fun p cs => cs = opCells p) (w0 := w) (W := w2) w.heap.size rfl (.tmp 11) (.tmp 17) 30 45 _ 5 48 rfl Tryd.underlying30 opInfo rfl (by decide) (by decide) _ Q q [.int .i64 q.n, .int .i64 q.r, .int .i64 q.node, .int .i64 q.par, .string q.name] (by rfl) (by simp [Act.eval]) rfl rfl (by simp [Value.oneCell']) HO2.out HB.out HB.out.size ?hl ?_; (case hl => omega); intro v3 w3 ho hb hg hat; have HO3 := Lib.hid ho; have HBn := Lib.hid hb; clear HB ho hb hg hat; have HB := HBn; clear HBn)))
        | (fail "no arm"))
      go_roundw
      case rel => exact ⟨i + 1, by go_num, by omega, Lib.hid (by rw [HSN.out]; exact HO3.out), HB⟩
      case measure => simp [RowKit.intOf] <;> omega
    · obtain rfl : i = n := by omega
      have hO := HO.out
      rw [List.take_of_length_le (by rw [HL.out]; exact Nat.le_refl _)] at hO
      have HO2 := Lib.hid hO
      clear hO HO
      go_wp2
      go_ret
      exact ⟨_, rfl, HO2.out, HB.out⟩
theorem ofs_right (ts : List TinyT) : (ts.map ofT).all opRight = true := by
  rw [List.all_eq_true]
  intro o ho
  obtain ⟨x, _, rfl⟩ := List.mem_map.1 ho
  exact of_right _ _ _ _ _
theorem ofs_small {ts : List TinyT} : ∀ o ∈ ts.map ofT, o.name.size ≤ 9223372036854775807 := by
  intro o ho
  have := (right_wf (List.all_eq_true.1 (ofs_right ts) o ho)).2.2
  omega
end Go.Proofs.YtkmdmjlepmmejaaDoor.Ol
/- The reference's Same, over lists of operations in memory. -/
namespace Go.Proofs.YtkmdmjlepmmejaaDoor.Ol
open Go.RowKit Go.Sort Go.Proofs.YtkmdmjlepmmejaaDoorW.PrintWords Tr
attribute [local go_sem high] eqOp

/-- Whether two lists of operations are one. -/
noncomputable def sameO (us bs : List OpR) : Bool := by classical exact decide (us = bs)
set_option maxHeartbeats 2000000 in
theorem sameO_calls (A : Option Addr) (n c : Nat) (us : List OpR) (B : Option Addr) (m d : Nat) (bs : List OpR) (w : World) (ha : OpsAt w A n us) (hb : OpsAt w B m bs) :
    Calls Tryd.prog 16 #[.slice A n c, .slice B m d] w fun e w' => e = .returned (.bool (sameO us bs)) ∧ ∃ k, w' = w.drewN k := by
  have hm := ha.2.1
  have hm2 := hb.2.1
  have HA := Lib.hid ha
  have HB := Lib.hid hb
  have hlen : n ≠ m → sameO us bs = false := fun h => by
    simp only [sameO, decide_eq_false_iff_not]
    intro e
    rw [← ha.1, ← hb.1, e] at h
    exact h rfl
  by_cases hnm : n = m
  · subst hnm
    clear hlen ha hb
    go_enter Tryd.func16, Tryd.ntmps16
    go_wp2
    go_loopw [5] (fun vi W => ∃ i : Nat, vi = .int .i64 i ∧ i ≤ n ∧ Hid (us.take i = bs.take i) ∧ Hid (∃ k, W = w.drewN k)) (fun vi _ => (n - (RowKit.intOf vi).toNat))
    case atStart => exact ⟨0, rfl, by omega, Lib.hid (by simp), Lib.hid ⟨0, rfl⟩⟩
    case round =>
      obtain ⟨i, rfl, hi, HT, HW⟩ := hrel
      obtain ⟨kw, rfl⟩ := HW.out
      by_cases hlt : i < n
      · have hltA : i < us.length := by rw [HA.out.1]; exact hlt
        have hltB : i < bs.length := by rw [HB.out.1]; exact hlt
        obtain ⟨xb, xo, rfl, hcellA⟩ := HA.out.2.2 (show 0 < n by omega)
        obtain ⟨yb, yo, rfl, hcellB⟩ := HB.out.2.2 (show 0 < n by omega)
        have hca := hcellA i hltA
        have hcb := hcellB i hltB
        have HS := Lib.hid (show us[i] = bs[i] → us.take (i + 1) = bs.take (i + 1) from fun h => by
          rw [List.take_succ_eq_append_getElem hltA, List.take_succ_eq_append_getElem hltB, HT.out, h])
        have HNO := Lib.hid (show us[i] ≠ bs[i] → sameO us bs = false from fun h => by
          simp only [sameO, decide_eq_false_iff_not]
          intro e
          subst e
          exact h rfl)
        have HEQ := Lib.hid (eqB_iff us[i] bs[i])
        generalize us[i] = p at *
        generalize bs[i] = q at *
        obtain ⟨a0, a1, a2, a3, a4⟩ := hca
        obtain ⟨b0, b1, b2, b3, b4⟩ := hcb
        clear hcellA hcellB hltA hltB
        have hi1 : (0 : Int) ≤ (i : Int) := by omega
        have hi2 : (i : Int) < (n : Int) := by omega
        cases he : eqB p.n p.r p.node p.par p.name q.n q.r q.node q.par q.name
        · have HR := Lib.hid (HNO.out (fun h => by rw [HEQ.out.2 h] at he; cases he))
          have HE := Lib.hid he
          clear he
          go_wp2
          go_quiet (fail)
          rw [HE.out]
          go_wp2
          go_ret
          rw [HR.out]
          exact ⟨rfl, _, World.drewN_drewN _ _ _⟩
        · have HR := Lib.hid (HS.out (HEQ.out.1 he))
          have HE := Lib.hid he
          clear he
          go_wp2
          go_quiet (fail)
          rw [HE.out]
          go_wp2
          go_roundw
          case rel => exact ⟨i + 1, by go_num, by omega, HR, Lib.hid ⟨_, rfl⟩⟩
          case measure => simp [RowKit.intOf] <;> omega
      · obtain rfl : i = n := by omega
        have hall := HT.out
        rw [List.take_of_length_le (by rw [HA.out.1]; exact Nat.le_refl _), List.take_of_length_le (by rw [HB.out.1]; exact Nat.le_refl _)] at hall
        have HALL := Lib.hid (show sameO us bs = true by simp only [sameO, decide_eq_true_eq]; exact hall)
        clear hall
        go_wp2
        go_ret
        rw [HALL.out]
        exact ⟨rfl, _, rfl⟩
  · have HF := Lib.hid (hlen hnm)
    have q1 : ((n : Int) != (m : Int)) = true := by rw [bne_iff_ne]; omega
    have q2 : (n != m) = true := by rw [bne_iff_ne]; exact hnm
    clear hlen ha hb hnm
    go_enter Tryd.func16, Tryd.ntmps16
    go_wp2
    go_ret
    rw [HF.out]
    exact ⟨rfl, 0, rfl⟩
end Go.Proofs.YtkmdmjlepmmejaaDoor.Ol
/- The witness world whose listed tables read as laid; the tables of a world that is entered. -/
namespace Go.Proofs.YtkmdmjlepmmejaaDoor
open Go.Shelf Go.RowKit Go.Lib

noncomputable def laidWorld (os : Os) : World :=
  let w0 := World.holding Tryd.prog os ⟨#[], #[], []⟩
  let put (h : Array Obj) (g : Nat) (cs : Array Value) : Array Obj := h.modify g fun
    | .cells _ t frozen => .cells cs t frozen
    | o => o
  let h1 := put w0.heap (Tryd.laysValid_ren.g 3) (Lib.firstTab.map fun z => Value.int .u8 z).toArray
  let h2 := put h1 (Tryd.laysValid_ren.g 4) ((List.range 16).flatMap fun i => [Value.int .u8 (Lib.accLo i), Value.int .u8 (Lib.accHi i)]).toArray
  { w0 with heap := h2 }
theorem laid_met (os : Os) (args : Array Value) : laidMet Tryd.prog Rows.oplogChangesRow.laid ((laidWorld os).forCall (fun _ _ => 0) ⟨#[], args, []⟩).memory :=
  (LaidIn.of_run (l := [("unicode/utf8.acceptRanges", Rows.laid_unicode_utf8_acceptRanges), ("unicode/utf8.first", Rows.laid_unicode_utf8_first)]) [Tryd.laysValid_ren.g 3, Tryd.laysValid_ren.g 4] 8 (by kernel_rfl) (by kernel_rfl) (by kernel_rfl) (by kernel_rfl)).met
theorem acc_eq : (Rows.laid_unicode_utf8_acceptRanges : DataW Unit) = acceptData := by kernel_rfl
theorem tabs_of {W : World} (h3 : VarReads Tryd.prog W "unicode/utf8.first" Rows.laid_unicode_utf8_first) (h4 : VarReads Tryd.prog W "unicode/utf8.acceptRanges" Rows.laid_unicode_utf8_acceptRanges) : Tabs W :=
  utf8Tabs_of_readsT (U8Types.of196 Tryd.laysValid) ⟨by kernel_rfl, by kernel_rfl, by kernel_rfl, by kernel_rfl, by kernel_rfl, by kernel_rfl, by kernel_rfl⟩
    (by rw [show firstData = Rows.laid_unicode_utf8_first from Pinned.utf8First_eq.symm]; exact h3) (by rw [← acc_eq]; exact h4)
end Go.Proofs.YtkmdmjlepmmejaaDoor
/- All that the laws of a log stand on. -/
