/-
  The row of the law PmapGets, out of its walk.
-/
import Derived.Test.YtmhfbpdahfepgaaB9
import Derived.Test.YtmhfbpdahfepgaaPPmapGetsx1
import Derived.Test.YtmhfbpdahfepgaaWWords
import Derived.ProofKit
import Derived.OpenShut
import Derived.ChangeArms
import Derived.Test.YtmhfbpdahfepgaaRows
import Derived.WalkKit
import Derived.ShutString
import Derived.ChangeOld
import Derived.Below
/- The walk of the law PmapGets: whatever the input, the call returns true, and what was in memory stays. -/
namespace Go.Proofs.Ytmhfbpdahfepgaa
open Go.RowKit Go.Proofs.YtmhfbpdahfepgaaW.PrintWords Pm
attribute [local go_sem high] eqHd
def spG (p : Int × Int) : PPmapGets.S64 := ⟨p.1, p.2⟩
theorem own_CG {W : World} {B : Nat} {A : Option Addr} {n c : Nat} {ps : List (Int × Int)} (h : OwnP W B (.slice A n c) ps) : n = (ps.map spG).length ∧ n ≤ c ∧ Kd.C PPmapGets.k64 W A (ps.map spG).length (ps.map spG) := by
  obtain ⟨A', c', e, hc, hr⟩ := OwnRow.reads h
  injection e with e1 e2 e3
  subst e1 e2 e3
  rw [List.length_map]
  exact ⟨rfl, hc, reads_map spG hr (fun p c hp => by subst hp; exact PPmapGets.k64_mk W (spG p))⟩
theorem rdG (ps : List (Int × Int)) (i : Nat) (h : i < ps.length) : PPmapGets.rd_T64 (ps.map spG) (i : Int) = spG ps[i] := by
  unfold PPmapGets.rd_T64
  rw [Int.toNat_natCast, List.getD_eq_getElem?_getD, List.getElem?_eq_getElem (by simpa using h)]
  simp
theorem find_l0 (k : Int) (ps : List (Int × Int)) : ∀ (n i : Nat) (fuel : Nat), n = ps.length - i → i ≤ ps.length → n + 1 ≤ fuel → ps.length ≤ 1000000 →
    PPmapGets.holtref11_Find.l0 fuel (ps.map spG) k i = some ((lhas cmpI k (ps.drop i)).getD 0, (lhas cmpI k (ps.drop i)).isSome)
  | 0, i, fuel, hn, hi, hf, hl => by
    obtain ⟨f, rfl⟩ : ∃ f, fuel = f + 1 := ⟨fuel - 1, by omega⟩
    rw [PPmapGets.holtref11_Find.l0, if_neg (by simp; omega), List.drop_eq_nil_of_le (by omega)]; rfl
  | n + 1, i, fuel, hn, hi, hf, hl => by
    obtain ⟨f, rfl⟩ : ∃ f, fuel = f + 1 := ⟨fuel - 1, by omega⟩
    have hlt : i < ps.length := by omega
    have hd : ps.drop i = ps[i] :: ps.drop (i + 1) := List.drop_eq_getElem_cons hlt
    rw [hd, PPmapGets.holtref11_Find.l0, if_pos (by simpa using hlt), if_pos (by omega), rdG ps i hlt]
    by_cases h1 : ps[i].1 = k
    · rw [if_pos (show (spG ps[i]).f0 = k from h1)]
      have : lhas cmpI k (ps[i] :: ps.drop (i + 1)) = some ps[i].2 := by
        unfold lhas
        rw [List.find?_cons, show decide (cmpI k ps[i].1 = 0) = true from decide_eq_true (by rw [h1]; exact cmpI_ok.refl k)]; rfl
      rw [this]; rfl
    · rw [if_neg (show ¬ (spG ps[i]).f0 = k from h1), w64 i (by omega), find_l0 k ps n (i + 1) f (by omega) (by omega) (by omega) hl]
      have : lhas cmpI k (ps[i] :: ps.drop (i + 1)) = lhas cmpI k (ps.drop (i + 1)) := by
        unfold lhas
        rw [List.find?_cons, show decide (cmpI k ps[i].1 = 0) = false from decide_eq_false (cmpI_ne.mpr (fun e => h1 e.symm))]
      rw [this]
theorem find_law (W : World) (B : Nat) (A : Option Addr) (n c : Nat) (ps : List (Int × Int)) (k : Int) (h : OwnP W B (.slice A n c) ps) (hl : ps.length ≤ 1000) :
    Calls Try.prog 27 #[.slice A n c, .int .i64 k] W fun e w' => e = .returned (.tuple #[.int .i64 ((lhas cmpI k ps).getD 0), .bool (lhas cmpI k ps).isSome]) ∧ ∃ q, w' = W.drewN q := by
  obtain ⟨e, hc, hC⟩ := own_CG h
  have hf := find_l0 k ps ps.length 0 2000 rfl (Nat.zero_le _) (by omega) (by omega)
  rw [List.drop_zero] at hf
  have := PPmapGets.holtref11_Find.calls 2000 A c (ps.map spG) k _ _ W hC (by omega) hf
  rw [← e] at this
  exact this.mono fun _ _ ⟨x1, x2⟩ => ⟨x1, x2.out⟩
theorem pnew_law2 (w V : World) (hb : Below w.heap.size w V) : Calls Try.prog 10 #[.int .i64 2000, .func (.func 11) #[] #[]] V fun e w' => (∃ m aa, e = .returned (.pointer (some ⟨m, 0, none⟩)) ∧ MapB w w' w.heap.size m aa (arNew 2000)) ∧ Below V.heap.size V w' := pnew_ok w V w.heap.size 2000 hb hb.size (by decide)
theorem made_law2 {w V : World} {m aa c : Nat} {A : Option Addr} {l : List Int} (hr : ReadsInt w .u8 A l.length l) (hc : l.length ≤ c) (hl : l.length ≤ 30) (hb : ∀ x ∈ l, 0 ≤ x ∧ x < 256) (HM : MapB w V w.heap.size m aa (arNew 2000)) :
    Calls Try.prog 12 #[.pointer (some ⟨m, 0, none⟩), .slice A l.length c] V (MadeOut w V w.heap.size m aa l (arNew 2000)) :=
  made_calls w V w.heap.size m aa A c l (arNew 2000) HM (arNew_ok 2000 (by decide)) (by omega) (by rw [arNew_room]; omega) hb hc (fun V' hF hb => hr.below hb)
theorem ldel_len (k : Int) (ps : List (Int × Int)) : (ldel cmpI k ps).length ≤ ps.length := List.length_filter_le _ _
theorem noedit_store {w5 w6 : World} (hB : Below w5.heap.size w5 w6) : Below w5.heap.size w5 ((((w6.setCell ⟨w5.heap.size, 0, none⟩ (.int .i64 0)).setCell ⟨w5.heap.size, 1, none⟩ (.int .i64 0)).setCell ⟨w5.heap.size, 2, none⟩ (.slice none 0 0)).setCell ⟨w5.heap.size, 3, none⟩ (.slice none 0 0)) :=
  (((hB.setCell (p := ⟨w5.heap.size, 0, none⟩) (Nat.le_refl _) _).setCell (p := ⟨w5.heap.size, 1, none⟩) (Nat.le_refl _) _).setCell (p := ⟨w5.heap.size, 2, none⟩) (Nat.le_refl _) _).setCell (p := ⟨w5.heap.size, 3, none⟩) (Nat.le_refl _) _
set_option maxRecDepth 100000 in
set_option maxHeartbeats 16000000 in
theorem pmapGets_walk0 (A : Option Addr) (c : Nat) (l : List Int) (D : Option Addr) (d : Nat) (dl : List Int) (k : Int) (w : World) (hr : ReadsInt w .u8 A l.length l) (hc : l.length ≤ c) (hb : ∀ x ∈ l, 0 ≤ x ∧ x < 256) (hl : l.length ≤ 30)
    (hr2 : ReadsInt w .u8 D dl.length dl) (hb2 : ∀ x ∈ dl, 0 ≤ x ∧ x < 256) (hl2 : dl.length ≤ 30) :
    Calls Try.prog 6 #[.slice A l.length c, .slice D dl.length d, .int .i64 k] w fun e w' => e = .returned (.bool true) ∧ Below w.heap.size w w' := by
  have HB := Lib.hid (Below.refl w.heap.size w)
  have HMA := Lib.hid (fun (V : World) (m aa : Nat) (hm : MapB w V w.heap.size m aa (arNew 2000)) => made_law2 hr hc hl hb hm)
  have HR2 := Lib.hid hr2
  have HB2 := Lib.hid hb2
  clear hr hb hr2 hb2
  go_enter Try.func6, Try.ntmps6
  go_wp2_with (first
    | (go_at_call 9; go_loud ((refine Calls.mono (awake_calls _) ?_); rintro e w1 ⟨rfl, hb⟩; have HBn := Lib.hid (below_step (by repeat (first | (with_reducible exact HB.out) | apply below_alloc | apply pw_below_drewN | apply below_drew1 | exact HB.out)) hb); clear hb HB; have HB := HBn; clear HBn))
    | (go_at_call 10; go_loud (
        (with_reducible refine Calls.mono (pnew_law2 w _ (by repeat (first | (with_reducible exact HB.out) | apply below_alloc | apply pw_below_drewN | apply below_drew1 | exact HB.out))) ?_);
        rintro e2 w2 ⟨⟨m, aa, rfl, hm⟩, hb2⟩;
        have HM2 := Lib.hid hm;
        clear hm hb2))
    | (go_at_call 12; go_loud (
        (with_reducible refine Calls.mono (HMA.out _ m aa HM2.out) ?_);
        rintro e3 w3 ⟨a, t, pv, rfl, hv, hp, ho, hm, hak, hro, hmo, hF⟩;
        obtain ⟨A4, c4, rfl, _⟩ := OwnRow.slice_ ho;
        have HV := Lib.hid hv; have HP := Lib.hid (show (pairs t).length ≤ 30 by have := madeP_len l l.length; rw [hp]; omega);
        have HO3 := Lib.hid (row_low ho HM2.out.sz); have HM3 := Lib.hid hm; have HAK := Lib.hid (hak.more (show 30 * l.length ≤ 1000 + 30 * 0 by omega)); have HRO := Lib.hid (show 1200 - 25 * ((0 : Nat) : Int) ≤ a.room by rw [arNew_room] at hro; omega);
        simp only [hdV];
        clear hv hp ho hm hak hro hmo hF))
    | (fail "no arm"))
  have HM4 := Lib.hid (HM3.out.below (show Below w3.heap.size w3 (w3.alloc (.cells #[.int .i64 t.h.s, .int .i64 t.h.g] 28 (0, 0))) from (by repeat (first | exact Below.refl _ _ | apply below_drew1 | apply below_alloc | apply pw_below_drewN))))
  have HO4 := Lib.hid (OwnRow.below HO3.out (show Below w3.heap.size w3 (w3.alloc (.cells #[.int .i64 t.h.s, .int .i64 t.h.g] 28 (0, 0))) from (by repeat (first | exact Below.refl _ _ | apply below_drew1 | apply below_alloc | apply pw_below_drewN))))
  have HR4 := Lib.hid (blk_new w3 (.cells #[.int .i64 t.h.s, .int .i64 t.h.g] 28 (0, 0)))
  have hrb : w.heap.size ≤ w3.heap.size := HM3.out.sz
  generalize (w3.alloc (.cells #[.int .i64 t.h.s, .int .i64 t.h.g] 28 (0, 0))) = V4 at *
  generalize w3.heap.size = rb at *
  clear HM2 HM3 HO3 HMA
  go_loopw [10, 12] (fun v10 v12 W' => ∃ (i : Nat) (a : Ar N2) (t : T2) (A8 : Option Addr) (n8 c8 : Nat), v12 = .int .i64 i ∧ v10 = .slice A8 n8 c8 ∧ i ≤ dl.length ∧ Hid (Ver a t) ∧ Hid ((pairs t).length ≤ 30) ∧ Hid (OwnP W' w.heap.size (.slice A8 n8 c8) (pairs t)) ∧ Hid (MapB w W' w.heap.size m aa a) ∧ Hid (ArOk (1000 + 30 * i) a) ∧ Hid (1200 - 25 * (i : Int) ≤ a.room) ∧ Hid (W'.heap[rb]? = some (.cells #[.int .i64 t.h.s, .int .i64 t.h.g] 28 (0, 0)))) (fun _ v12 _ => dl.length - (RowKit.intOf v12).toNat)
  case atStart => exact ⟨0, a, t, A4, _, c4, rfl, rfl, Nat.zero_le _, HV, HP, HO4, HM4, HAK, HRO, HR4⟩
  case round =>
    clear HV HP HO4 HM4 HAK HRO HR4
    obtain ⟨i, a, t, A8, n8, c8, rfl, rfl, hi, HV, HP, HO, HM, HAK, HRO, HRB⟩ := hrel
    by_cases hlt : i < dl.length
    · have hp30 := HP.out
      have h8 := hi_60 HV.out.avl (by omega)
      obtain ⟨ad, rfl, hcell⟩ := (HR2.out.below HM.out.bel).at_ i (by omega) (by omega)
      rw [Int.toNat_natCast] at hcell
      have hby := rd_byte HB2.out i hlt
      have hx0 := hby.1
      have hx1 := hby.2
      generalize rd dl i = x at *
      clear hby HB
      have hwx : IntKind.i64.wrap x = x := by rw [IntKind.wrap_i64]; omega
      have hwi : IntKind.i64.wrap ((i : Int) + 1) = ((i + 1 : Nat) : Int) := by rw [IntKind.wrap_i64]; omega
      have hroom : 3 * t.hi + 1 ≤ a.room := by have := HRO.out; omega
      have hwo := without_law wr w.heap.size A8 n8 c8 (pairs t) x HO.out (by omega)
      rw [ldel_lt] at hwo
      by_cases hhas : (lhas cmpI x (pairs t)).isSome = true
      · rw [hhas] at hwo
        have HWO := Lib.hid hwo
        have HHAS := Lib.hid hhas
        have HROOM := Lib.hid hroom
        clear hwo hhas hroom
        go_wp2_with (first
          | (go_at_call 22; go_loud (
              (with_reducible refine Calls.mono HWO.out ?_);
              rintro e5 w5 ⟨pv, rfl, hop, hb5⟩;
              obtain ⟨A5, c5, rfl, _⟩ := OwnRow.slice_ hop;
              have HO5 := Lib.hid (row_low hop HM.out.sz); have HM5 := Lib.hid (HM.out.below hb5); have HR5 := Lib.hid (blk_below HRB.out hb5); have HOO := Lib.hid (OwnRow.below HO.out hb5);
              have hcell5 := pw_cell_below hb5 hcell;
              clear hop hb5))
          | (fail "no arm"))
        have hadl := cell_lt hcell5
        have k0 := blk_cell HR5.out 0
        have k1 := blk_cell HR5.out 1
        simp at k0 k1
        have hltr := blk_lt HR5.out
        have hBW := HM5.out.sz
        have HB := Lib.hid (Below.refl w5.heap.size w5)
        clear hcell
        have HPU := Lib.hid (fun (V : World) (hb : Below w5.heap.size w5 V) => mdel_law w V w.heap.size m aa a t x (1000 + 30 * i) (HM5.out.below hb) HV.out HAK.out (by omega) (by omega) HROOM.out HHAS.out)
        simp only [hdV] at HPU
        go_cut [15, 16] from 61 to 72 (fun v15 v16 wx => ∃ eb : Nat, v15 = .pointer (some ⟨eb, 0, none⟩) ∧ v16 = .bool true ∧ Hid (CutE w w5 wx w.heap.size m aa (1000 + 30 * i) a t (ldel cmpI x (pairs t)) eb))
        case first =>
          go_region_with (first
            | (go_at_call 23; go_loud (
                (with_reducible refine Calls.mono (HPU.out _ (by repeat (first | (with_reducible exact HB.out) | apply below_alloc | apply pw_below_drewN | apply below_drew1 | exact HB.out))) ?_);
                rintro e w6 heo;
                obtain ⟨a2, t2, md, gn, Am, cm, Ag, cg, lm, lg, S, hp, rfl, hfs, hF⟩ := heo.open;
                have HS3 := Lib.hid S; have HP3 := Lib.hid hp; have HFS3 := Lib.hid hfs; have HF3 := Lib.hid (Fr.trans (Fr.below (W := w5) (by repeat (first | (with_reducible exact HB.out) | apply below_alloc | apply pw_below_drewN | apply below_drew1 | exact HB.out))) hF);
                (try (have GE := Lib.hid (FrX.typedF hF (k := w5.heap.size) (cs := #[.int .i64 0, .int .i64 0, .slice none 0 0, .slice none 0 0]) (t := 39) (by first | exact blk_new _ _ | exact blk_drew (blk_new _ _))); have p0 := blk_cell GE.out 0; have p1 := blk_cell GE.out 1; have p2 := blk_cell GE.out 2; have p3 := blk_cell GE.out 3; have z0 := blk_frozen GE.out 0; have z1 := blk_frozen GE.out 1; have z2 := blk_frozen GE.out 2; have z3 := blk_frozen GE.out 3; simp at p0 p1 p2 p3));
                clear S hp hfs hF heo))
            | (fail "no arm"))
          all_goals
            go_wp2
            go_meet
            refine ⟨_, rfl, rfl, ?_⟩
            first
              | with_reducible exact Lib.hid (cutE_alloc HS3.out HP3.out HFS3.out HF3.out)
              | with_reducible exact Lib.hid (cutE_store HS3.out HP3.out HFS3.out HF3.out GE.out hBW (Nat.le_refl _))
        case rest =>
          obtain ⟨eb, rfl, rfl, HCE⟩ := hcut
          obtain ⟨a2, t2, md, gn, mv, gv, S, hp, heb, hfs, hF, hge⟩ := HCE.out
          have HS2 := Lib.hid S
          have HP2 := Lib.hid hp
          have HM6 := Lib.hid hfs.mb
          have HR6 := Lib.hid (FrX.typedF hF HR5.out)
          have HO6 := Lib.hid (OwnP.fr HO5.out hF)
          have e0 := blk_cell heb 0
          have e1 := blk_cell heb 1
          have z0 := blk_frozen HR6.out 0
          have z1 := blk_frozen HR6.out 1
          have r0 := blk_cell HR6.out 0
          have r1 := blk_cell HR6.out 1
          simp at e0 e1 r0 r1
          have hlte := blk_lt heb
          have hltr6 := blk_lt HR6.out
          have hne1 : eb ≠ rb := by omega
          have HR7 := Lib.hid (blk_put (blk_put HR6.out 0 (.int .i64 t2.h.s) rfl) 1 (.int .i64 t2.h.g) rfl)
          have HM7 := Lib.hid ((HM6.out.setH HR6.out hrb 0 (.int .i64 t2.h.s)).setH (blk_put HR6.out 0 (.int .i64 t2.h.s) rfl) hrb 1 (.int .i64 t2.h.g))
          have HO7 := Lib.hid (OwnRow.set_ (OwnRow.set_ HO6.out HR6.out (by decide) 0 (.int .i64 t2.h.s)) (blk_put HR6.out 0 (.int .i64 t2.h.s) rfl) (by decide) 1 (.int .i64 t2.h.g))
          clear HCE S hp heb hfs hF HB k0 k1 hcell5
          go_wp2
          go_roundw
          case rel =>
            refine ⟨i + 1, a2, t2, A5, _, c5, by go_num, rfl, by omega, Lib.hid HS2.out.ver, Lib.hid (by have := ldel_len x (pairs t); rw [HP2.out]; omega), Lib.hid (by rw [HP2.out]; exact HO7.out), HM7, Lib.hid (HS2.out.ok.more (by omega)), Lib.hid ?_, HR7⟩
            have h1 := HS2.out.room
            have h2 := HS2.out.len
            have h4 := HRO.out
            omega
          case measure => simp [RowKit.intOf] <;> omega
      · have hhas' : (lhas cmpI x (pairs t)).isSome = false := by simpa using hhas
        rw [hhas'] at hwo
        have HWO := Lib.hid hwo
        have HHAS := Lib.hid hhas'
        clear hwo hhas hhas' hroom
        go_wp2_with (first
          | (go_at_call 22; go_loud (
              (with_reducible refine Calls.mono HWO.out ?_);
              rintro e5 w5 ⟨pv, rfl, hop, hb5⟩;
              obtain ⟨A5, c5, rfl, _⟩ := OwnRow.slice_ hop;
              have HO5 := Lib.hid (row_low hop HM.out.sz); have HM5 := Lib.hid (HM.out.below hb5); have HR5 := Lib.hid (blk_below HRB.out hb5); have HOO := Lib.hid (OwnRow.below HO.out hb5);
              have hcell5 := pw_cell_below hb5 hcell;
              clear hop hb5))
          | (fail "no arm"))
        have hadl := cell_lt hcell5
        have k0 := blk_cell HR5.out 0
        have k1 := blk_cell HR5.out 1
        simp at k0 k1
        have hltr := blk_lt HR5.out
        have hBW := HM5.out.sz
        have HB := Lib.hid (Below.refl w5.heap.size w5)
        clear hcell
        have HPU := Lib.hid (fun (V : World) (hb : Below w5.heap.size w5 V) => mdel_none w V w.heap.size m aa a t x (HM5.out.below hb) HV.out HHAS.out)
        simp only [hdV] at HPU
        go_cut [15, 16] from 61 to 72 (fun v15 v16 wx => ∃ eb : Nat, v15 = .pointer (some ⟨eb, 0, none⟩) ∧ v16 = .bool false ∧ Hid (Below w5.heap.size w5 wx))
        case first =>
          go_region_with (first
            | (go_at_call 23; go_loud (
                (with_reducible refine Calls.mono (HPU.out _ (by repeat (first | (with_reducible exact HB.out) | apply below_alloc | apply pw_below_drewN | apply below_drew1 | exact HB.out))) ?_);
                rintro e w6 ⟨rfl, hb6⟩;
                simp only [edV, H0];
                have HB6 := Lib.hid (below_step (by repeat (first | (with_reducible exact HB.out) | apply below_alloc | apply pw_below_drewN | apply below_drew1 | exact HB.out)) hb6);
                (try (have GE := Lib.hid (blk_below (g := w5.heap.size) (o := (Obj.cells #[.int .i64 0, .int .i64 0, .slice none 0 0, .slice none 0 0] 39 (0, 0))) (by first | exact blk_new _ _ | exact blk_drew (blk_new _ _)) hb6); have p0 := blk_cell GE.out 0; have p1 := blk_cell GE.out 1; have p2 := blk_cell GE.out 2; have p3 := blk_cell GE.out 3; have z0 := blk_frozen GE.out 0; have z1 := blk_frozen GE.out 1; have z2 := blk_frozen GE.out 2; have z3 := blk_frozen GE.out 3; simp at p0 p1 p2 p3));
                clear hb6))
            | (fail "no arm"))
          all_goals
            go_wp2
            go_meet
            refine ⟨_, rfl, rfl, ?_⟩
            first
              | with_reducible exact Lib.hid (HB6.out.alloc HB6.out.size _)
              | with_reducible exact Lib.hid (noedit_store HB6.out)
        case rest =>
          obtain ⟨eb, rfl, rfl, HB6⟩ := hcut
          clear HB k0 k1 hcell5
          go_wp2
          go_roundw
          case rel => exact ⟨i + 1, a, t, A8, _, c8, by go_num, rfl, by omega, HV, HP, Lib.hid (OwnRow.below HOO.out HB6.out), Lib.hid (HM5.out.below HB6.out), Lib.hid (HAK.out.more (by omega)), Lib.hid (by have := HRO.out; omega), Lib.hid (blk_below HR5.out HB6.out)⟩
          case measure => simp [RowKit.intOf] <;> omega
    · obtain rfl : i = dl.length := by omega
      have k0 := blk_cell HRB.out 0
      have k1 := blk_cell HRB.out 1
      simp at k0 k1
      have hltr := blk_lt HRB.out
      have hp30 := HP.out
      have HG1 := Lib.hid (mget_law w wr w.heap.size m aa a t k HM.out HV.out)
      have HG2 := Lib.hid (fun (V : World) (hb : Below wr.heap.size wr V) => mget_law w V w.heap.size m aa a .leaf k (HM.out.below hb) (Ver.leaf _))
      have HFD := Lib.hid (fun (V : World) (hb : Below wr.heap.size wr V) => find_law V w.heap.size A8 n8 c8 (pairs t) k (OwnRow.below HO.out hb) (by omega))
      rw [hdV_leaf, show lhas cmpI k (pairs (T.leaf : T2)) = none from rfl] at HG2
      simp only [hdV] at HG1
      have HBE := Lib.hid HM.out.bel
      have hszw := HM.out.sz
      generalize (lhas cmpI k (pairs t)).getD 0 = gv at *
      generalize (lhas cmpI k (pairs t)).isSome = gb at *
      have hgb : (gv == gv) = true := by simp
      have hgb2 : (gb == gb) = true := by simp
      clear HB
      go_wp2_with (first
        | (go_at_call 26; go_loud ((with_reducible refine Calls.mono HG1.out ?_); rintro e5 w5 ⟨rfl, hb⟩; have HB5 := Lib.hid hb; clear hb))
        | (go_at_call 27; go_loud ((with_reducible refine Calls.mono (HFD.out _ HB5.out) ?_); rintro e6 w6 ⟨rfl, q6, rfl⟩))
        | (go_at_call 26; go_loud ((with_reducible refine Calls.mono (HG2.out _ (pw_below_drewN HB5.out _)) ?_); rintro e7 w7 ⟨rfl, hb⟩; have HB7 := Lib.hid (below_step (pw_below_drewN HB5.out q6) hb); clear hb))
        | (fail "no arm"))
      go_ret
      exact ⟨rfl, HBE.out.trans (HB7.out.mono hszw)⟩
end Go.Proofs.Ytmhfbpdahfepgaa
/- The walk of the law PmapGets, all inputs. -/
namespace Go.Proofs.Ytmhfbpdahfepgaa
open Go.RowKit Go.Proofs.YtmhfbpdahfepgaaW.PrintWords Pm
set_option maxRecDepth 100000 in
theorem pmapGets_walk (A : Option Addr) (c : Nat) (l : List Int) (D : Option Addr) (d : Nat) (dl : List Int) (k : Int) (w : World) (hr : (Kd.int .u8).C w A l.length l) (hc : l.length ≤ c) (hok : l.length ≤ maxLen ∧ ∀ x ∈ l, (Lit.int .u8 x).wf = true) (hr2 : (Kd.int .u8).C w D dl.length dl) (_ : dl.length ≤ d) (hok2 : dl.length ≤ maxLen ∧ ∀ x ∈ dl, (Lit.int .u8 x).wf = true) (_ : (Lit.int .i64 k).wf = true) :
    Calls Try.prog 6 #[.slice A l.length c, .slice D dl.length d, .int .i64 k] w fun e w' => e = .returned (.bool true) ∧ Below w.heap.size w w' := by
  have hri := int_of_C hr
  have hri2 := int_of_C hr2
  have hb : ∀ x ∈ l, 0 ≤ x ∧ x < 256 := fun x hx => byte_wf (hok.2 x hx)
  have hb2 : ∀ x ∈ dl, 0 ≤ x ∧ x < 256 := fun x hx => byte_wf (hok2.2 x hx)
  have hm1 : l.length ≤ 9223372036854775807 := hri.2.1
  have hm2 : dl.length ≤ 9223372036854775807 := hri2.2.1
  have HB := Lib.hid (Below.refl w.heap.size w)
  by_cases hl : l.length ≤ 30
  · by_cases hl2 : dl.length ≤ 30
    · exact pmapGets_walk0 A c l D d dl k w hri hc hb hl hri2 hb2 hl2
    · have q1 : decide ((30 : Int) < (l.length : Int)) = false := decide_eq_false (by omega)
      have q2 : decide ((30 : Int) < (dl.length : Int)) = true := decide_eq_true (by omega)
      clear hri hri2 hb hb2 hok hok2 hr hr2
      go_enter Try.func6, Try.ntmps6
      go_wp2_with (first
        | (go_at_call 9; go_loud ((refine Calls.mono (awake_calls _) ?_); rintro e w1 ⟨rfl, hb⟩; have HBn := Lib.hid (below_step (by repeat (first | (with_reducible exact HB.out) | apply below_alloc | apply pw_below_drewN | apply below_drew1 | exact HB.out)) hb); clear hb HB; have HB := HBn; clear HBn))
        | (fail "no arm"))
      go_ret
      exact ⟨rfl, (by repeat (first | (with_reducible exact HB.out) | apply below_alloc | apply pw_below_drewN | apply below_drew1 | exact HB.out))⟩
  · have q1 : decide ((30 : Int) < (l.length : Int)) = true := decide_eq_true (by omega)
    clear hri hri2 hb hb2 hok hok2 hr hr2
    go_enter Try.func6, Try.ntmps6
    go_wp2_with (first
      | (go_at_call 9; go_loud ((refine Calls.mono (awake_calls _) ?_); rintro e w1 ⟨rfl, hb⟩; have HBn := Lib.hid (below_step (by repeat (first | (with_reducible exact HB.out) | apply below_alloc | apply pw_below_drewN | apply below_drew1 | exact HB.out)) hb); clear hb HB; have HB := HBn; clear HBn))
      | (fail "no arm"))
    go_ret
    exact ⟨rfl, (by repeat (first | (with_reducible exact HB.out) | apply below_alloc | apply pw_below_drewN | apply below_drew1 | exact HB.out))⟩
end Go.Proofs.Ytmhfbpdahfepgaa
/- Opening arguments of plain data, whatever their make: what a reading's cells say, kind by kind. -/
namespace Go.Proofs.YtmhfbpdahfepgaaW.Open
open Go.RowKit Go.Proofs.YtmhfbpdahfepgaaW.PrintWords Go.ChangeShapes

/-- What is read at type t is of the kind d, and ok. -/
def Opens {α : Type} (P : Program) (t : TypeId) (d : Kd α) (ok : α → Prop) : Prop :=
  P.cellsOf t = d.sz ∧ ∀ (H : Type) (enc : TypeId × Value → H) (w : World) (fuel : Nat) (cs : List Value) (x : DataW H × List MemPlace), DataW.trod enc P w 0 (fun _ => true) true fuel t cs = some x → ∃ y, d.K w y cs ∧ ok y

theorem Opens.int {P : Program} {t : TypeId} {k : IntKind} (ht : P.underlying t = some (.int k)) (hc : P.cellsOf t = 1) : Opens P t (Kd.int k) (fun n => (Lit.int k n).wf = true) :=
  ⟨hc, fun _ _ _ _ _ _ h => by obtain ⟨n, rfl, _, hw⟩ := DataW.trod_int ht h; exact ⟨n, rfl, hw⟩⟩
theorem Opens.bool {P : Program} {t : TypeId} (ht : P.underlying t = some .bool) (hc : P.cellsOf t = 1) : Opens P t Kd.bool (fun _ => True) :=
  ⟨hc, fun _ _ _ _ _ _ h => by obtain ⟨n, rfl, _⟩ := DataW.trod_bool ht h; exact ⟨n, rfl, trivial⟩⟩
theorem Opens.string {P : Program} {t : TypeId} (ht : P.underlying t = some .string) (hc : P.cellsOf t = 1) : Opens P t Kd.string (fun s => s.size ≤ maxLen) :=
  ⟨hc, fun _ _ _ _ _ _ h => by obtain ⟨n, rfl, _, hs⟩ := DataW.trod_string ht h; exact ⟨n, rfl, hs⟩⟩

theorem Opens.slice {α : Type} {P : Program} {t e : TypeId} {d : Kd α} {ok : α → Prop} (ht : P.underlying t = some (.slice e)) (hc : P.cellsOf t = 1) (he : Opens P e d ok) :
    Opens P t (Kd.slice e d) (fun xs => xs.length ≤ maxLen ∧ ∀ x ∈ xs, ok x) := by
  obtain ⟨hsz, hop⟩ := he
  refine ⟨hc, fun H enc w fuel cs x h => ?_⟩
  rcases DataW.trod_slice ht h with ⟨rfl, _⟩ | ⟨a, len, cap, elems, rest, n, _, rfl, _, _, hl, hm, hlen, hel, _, _⟩
  · exact ⟨[], ⟨none, 0, rfl, by simp, rfl, by simp, by simp⟩, by simp, by simp⟩
  · have each : ∀ i, i < len → ∃ y c, c.length = d.sz ∧ d.K w y c ∧ ok y ∧ ∀ j u, c[j]? = some u → w.cell? (a.add (i * d.sz + j)) = some u := by
      intro i hi
      have h1 := hel i hi
      rw [List.getElem?_eq_getElem (by omega)] at h1
      obtain ⟨c, hcs, hy⟩ := Option.bind_eq_some_iff.1 h1
      obtain ⟨_, hcl, hcell⟩ := World.cells?_some hcs
      obtain ⟨y, hK, hok⟩ := hop H enc w n c _ hy
      refine ⟨y, c, by rw [hcl, hsz], hK, hok, fun j u hu => ?_⟩
      have hj : j < c.length := (List.getElem?_eq_some_iff.1 hu).1
      have := hcell j (by omega)
      rw [hu, hsz, add_add] at this
      exact this
    have build : ∀ m, m ≤ len → ∃ xs : List α, xs.length = m ∧ (∀ x ∈ xs, ok x) ∧ ∀ j p, xs[j]? = some p → ∃ c, c.length = d.sz ∧ d.K w p c ∧ ∀ i u, c[i]? = some u → w.cell? (a.add (j * d.sz + i)) = some u := by
      intro m
      induction m with
      | zero => intro _; exact ⟨[], rfl, by simp, fun j p h => by simp at h⟩
      | succ m ih =>
        intro hm'
        obtain ⟨xs, hx, hok, hall⟩ := ih (by omega)
        obtain ⟨y, c, hcl, hK, hoky, hcell⟩ := each m (by omega)
        refine ⟨xs ++ [y], by simp [hx], ?_, ?_⟩
        · intro z hz
          rcases List.mem_append.1 hz with h' | h'
          · exact hok z h'
          · rw [List.mem_singleton.1 h']; exact hoky
        · intro j p hj
          rcases Nat.lt_or_ge j xs.length with h' | h'
          · rw [List.getElem?_append_left h'] at hj; exact hall j p hj
          · have hj' := (List.getElem?_eq_some_iff.1 hj).1
            obtain rfl : j = xs.length := by simp at hj'; omega
            have : y = p := by simpa using hj
            subst this
            rw [hx]
            exact ⟨c, hcl, hK, hcell⟩
    obtain ⟨xs, hx, hok, hall⟩ := build len (Nat.le_refl _)
    subst hx
    simp only [maxLen] at hm
    exact ⟨xs, ⟨some a, cap, rfl, hl, rfl, by omega, fun _ => ⟨a, rfl, hall⟩⟩, by simp only [maxLen]; omega, hok⟩

/-- Fields in line: from offset n on. -/
def OpensF {α : Type} (P : Program) (fs : List Field) (n : Nat) (d : Kd α) (ok : α → Prop) : Prop :=
  ∀ (H : Type) (enc : TypeId × Value → H) (w : World) (fuel : Nat) (cs : List Value), cs.length = n + d.sz → (∀ f ∈ fs, ∃ x, DataW.trod enc P w 0 (fun _ => true) true fuel f.type ((cs.drop f.offset).take (P.cellsOf f.type)) = some x) → ∃ y, d.K w y (cs.drop n) ∧ ok y
theorem OpensF.one {α : Type} {P : Program} {f : Field} {d : Kd α} {ok : α → Prop} (h : Opens P f.type d ok) : OpensF P [f] f.offset d ok := by
  intro H enc w fuel cs hl hall
  obtain ⟨x, hx⟩ := hall f (by simp)
  have := h.2 H enc w fuel _ _ hx
  rw [h.1, List.take_of_length_le (by simp; omega)] at this
  exact this
theorem OpensF.cons {α β : Type} {P : Program} {f : Field} {fs : List Field} {d : Kd α} {d' : Kd β} {ok : α → Prop} {ok' : β → Prop} {n : Nat} (h : Opens P f.type d ok) (hs : OpensF P fs n d' ok') (hn : n = f.offset + d.sz) : OpensF P (f :: fs) f.offset (Kd.pair d d') (fun y => ok y.1 ∧ ok' y.2) := by
  intro H enc w fuel cs hl hall
  obtain ⟨x, hx⟩ := hall f (by simp)
  obtain ⟨y, hK, hok⟩ := h.2 H enc w fuel _ _ hx
  have hl' : cs.length = n + d'.sz := by rw [hl, hn]; show f.offset + (d.sz + d'.sz) = _; omega
  obtain ⟨y', hK', hok'⟩ := hs H enc w fuel cs hl' (fun g hg => hall g (by simp [hg]))
  rw [h.1] at hK
  refine ⟨(y, y'), ⟨_, _, ?_, hK, hK'⟩, hok, hok'⟩
  rw [hn, ← List.drop_drop, List.take_append_drop]
theorem Opens.struct {α : Type} {P : Program} {t : TypeId} {fs : Array Field} {d : Kd α} {ok : α → Prop} (ht : P.underlying t = some (.struct fs)) (hc : P.cellsOf t = d.sz) (h : OpensF P fs.toList 0 d ok) : Opens P t d ok := by
  refine ⟨hc, fun H enc w fuel cs x hx => ?_⟩
  obtain ⟨xs, n, rfl, _, hl, hlen, hf⟩ := DataW.trod_struct ht hx
  have := h H enc w n cs (by rw [hl, hc]; omega) (fun f hf' => by
    obtain ⟨i, hi⟩ := List.getElem?_of_mem hf'
    have hi' : fs[i]? = some f := by simpa using hi
    have h2 := hf i f hi'
    have h3 : i < xs.length := by rw [hlen]; exact (Array.getElem?_eq_some_iff.1 hi').1
    rw [List.getElem?_eq_getElem h3] at h2
    exact ⟨_, h2⟩)
  simpa using this
theorem Opens.iso {α β : Type} {P : Program} {t : TypeId} {d : Kd α} {ok : α → Prop} (f : β → α) (g : α → β) (hfg : ∀ x, f (g x) = x) (h : Opens P t d ok) : Opens P t (Kd.iso d f) (fun y => ok (f y)) :=
  ⟨h.1, fun H enc w fuel cs x hx => by obtain ⟨y, hK, hok⟩ := h.2 H enc w fuel cs x hx; exact ⟨g y, by show d.K w (f (g y)) cs; rw [hfg]; exact hK, by show ok (f (g y)); rw [hfg]; exact hok⟩⟩

/-- An argument is opened: its value by its cells, and what these say. -/
theorem Opens.arg {α : Type} {H : Type} {enc : TypeId × Value → H} {P : Program} {w : World} {t : TypeId} {v : Value} {x : DataW H} {p : List MemPlace} {d : Kd α} {ok : α → Prop} (h : Opens P t d ok) (ht : DataW.Trod enc P w 0 (fun _ => true) true t v x p) : ∃ y, d.K w y v.cells.toList ∧ ok y := by
  obtain ⟨fuel, hf⟩ := ht
  exact h.2 H enc w fuel _ _ hf
end Go.Proofs.YtmhfbpdahfepgaaW.Open
/- The row of the law PmapGets, out of its walk. -/
namespace Go.Proofs.Ytmhfbpdahfepgaa.pmapGets
open Go.ChangeShapes Go.WideShapes Go.ChangeAt Go.RowKit
open Go.ChangeMaps (open_string shut_string)
open Go.Proofs.YtmhfbpdahfepgaaW.Open Go.Proofs.YtmhfbpdahfepgaaW.PrintWords
theorem own : ownKnob Try.prog.godebug = none := by kernel_rfl
theorem laidOut : laidOutB Try.prog = true := by kernel_rfl
theorem op0 : Opens Try.prog 22 (Kd.slice 5 (Kd.int .u8)) (fun xs => xs.length ≤ maxLen ∧ ∀ x ∈ xs, (Lit.int .u8 x).wf = true) := Opens.slice Try.underlying22 (by kernel_rfl) (Opens.int Try.underlying5 (by kernel_rfl))
theorem op1 : Opens Try.prog 22 (Kd.slice 5 (Kd.int .u8)) (fun xs => xs.length ≤ maxLen ∧ ∀ x ∈ xs, (Lit.int .u8 x).wf = true) := Opens.slice Try.underlying22 (by kernel_rfl) (Opens.int Try.underlying5 (by kernel_rfl))
set_option maxRecDepth 100000 in
theorem lifted (os : Os) (started : os.Started) (H : Type) (enc : TypeId × Value → H) :
    ReturnsInHanded {} Try.checked os 6 .any (Rows.pmapGetsSpec.pre6 enc Try.prog Try.f6 Rows.pmapGetsRow.domain false) (Rows.pmapGetsSpec.post enc Try.prog Try.f6 false true false false) := by
  refine returnsInHanded_of_change (C := Try.checked) own started (by kernel_rfl) Try.func6
    (ChangeSpec.witness6 (enc := enc) (C := Try.checked) false ⟨#[], #[.slice none 0 0, .slice none 0 0, .int .i64 0], []⟩ 8 (by kernel_rfl) (by kernel_rfl) (by kernel_rfl) (by kernel_rfl)) ?_
  intro W base args ds gs before hval0 hW hcnd _
  have hval : ∀ (j : Nat) t v, Try.f6.params[j]? = some t → args[j]? = some v → Value.okWide Try.prog W .any base t v := hval0
  have hW' := hW
  obtain ⟨p, q, hA0, hV, rfl, hfz, hnd⟩ := hW
  have hA : DataW.TrodAll enc Try.prog W 0 (fun _ => true) true Try.f6.params.toList args.toList ds p := hA0
  rw [Try.params6] at hA hval
  obtain ⟨v0, vs0, d0, ds0, p0, q0, hargs, rfl, rfl, h0, r0⟩ := trodAll_cons hA
  obtain ⟨v1, vs1, d1, ds1, p1, q1, rfl, rfl, rfl, h1, r1⟩ := trodAll_cons r0
  obtain ⟨v2, vs2, d2, ds2, p2, q2, rfl, rfl, rfl, h2, r2⟩ := trodAll_cons r1
  obtain ⟨rfl, rfl, rfl⟩ := trodAll_nil r2
  obtain rfl : args = #[v0, v1, v2] := by cases args; simp_all
  obtain ⟨rfl, rfl⟩ := trodVars_none hV
  have k0 := h0
  have lt0 : ∀ x ∈ p0, x.block < W.heap.size := by obtain ⟨m, hm⟩ := k0; exact DataW.trod_lt m _ _ _ hm
  obtain ⟨a0, len0, cap0, rfl⟩ := okWide_slice Try.underlying22 (hval 0 22 v0 rfl rfl)
  obtain ⟨l0, hK0, ok0⟩ := Opens.arg op0 h0
  obtain ⟨A0, c0, e0, hc0, hr0⟩ := hK0
  simp only [Value.cells, List.cons.injEq, Value.slice.injEq, and_true] at e0
  obtain ⟨rfl, rfl, rfl⟩ := e0
  have k1 := h1
  have lt1 : ∀ x ∈ p1, x.block < W.heap.size := by obtain ⟨m, hm⟩ := k1; exact DataW.trod_lt m _ _ _ hm
  obtain ⟨a1, len1, cap1, rfl⟩ := okWide_slice Try.underlying22 (hval 1 22 v1 rfl rfl)
  obtain ⟨l1, hK1, ok1⟩ := Opens.arg op1 h1
  obtain ⟨A1, c1, e1, hc1, hr1⟩ := hK1
  simp only [Value.cells, List.cons.injEq, Value.slice.injEq, and_true] at e1
  obtain ⟨rfl, rfl, rfl⟩ := e1
  obtain ⟨a2, rfl, rfl, rfl, w2⟩ := open_int Try.underlying3 (hval 2 3 v2 rfl rfl) h2
  clear hA0 hval0
  refine (pmapGets_walk a0 cap0 l0 a1 cap1 l1 a2 W hr0 hc0 ok0 hr1 hc1 ok1 w2).mono fun e W' ⟨he, bel⟩ => ?_
  subst he
  exact ⟨_, rfl, _, _, _, [], _, [], hW', trodAll_mk1 (shut_bool Try.underlying4 _), (trodAll_cons_mk (Below.trod laidOut (by kernel_rfl) (of_decide_eq_true (by kernel_rfl)) k0 bel lt0) (trodAll_cons_mk (Below.trod laidOut (by kernel_rfl) (of_decide_eq_true (by kernel_rfl)) k1 bel lt1) (trodAll_cons_mk (shut_int Try.underlying3 w2) trodAll_mk0))), rfl, bel.frame _, fun h => by cases h⟩
end Go.Proofs.Ytmhfbpdahfepgaa.pmapGets
namespace Go.Proofs.Ytmhfbpdahfepgaa
theorem pmapGets_holds : Rows.PmapGetsSaid :=
  OpenClaim.holds_of_wide 6 Try.f6 rfl rfl rfl rfl rfl rfl rfl ⟨rfl, rfl, rfl, rfl, rfl⟩ rfl rfl rfl rfl rfl (by kernel_rfl) Try.func6 (by kernel_rfl)
    (of_decide_eq_true (by kernel_rfl)) (by unfold Func.isWrapper; first | (rw [if_pos (by decide +kernel)]; kernel_rfl) | (rw [if_neg (by decide +kernel)]; exact ⟨rfl, rfl⟩))
    (fun os started H enc _ => pmapGets.lifted os started H enc)
#print axioms pmapGets_holds
end Go.Proofs.Ytmhfbpdahfepgaa
