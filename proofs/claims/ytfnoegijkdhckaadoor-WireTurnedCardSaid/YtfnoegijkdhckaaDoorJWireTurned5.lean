/-
  The row and the card of the law WireTurned, out of its walk.
-/
import Derived.Test.YtfnoegijkdhckaaDoorJWireTurned4
import Derived.Test.YtfnoegijkdhckaaDoorRows
import Derived.Lib.LaidIn
import Derived.Lib.LaidU8T
import Derived.PinnedBridge
import Derived.ProofKit
import Derived.Test.YtfnoegijkdhckaaDoorCards
import Derived.Test.YtfnoegijkdhckaaDoorTie
import Derived.WalkKit
import Derived.OpenShut
import Derived.ShutString
import Derived.ChangeOld
import Derived.Below
import Derived.SizedLaws
import Derived.SevenTiedAt
import Derived.Deep.DeepHandedRow
import Derived.Deep.DeepWitnessRowRef
/- The walk of the law WireTurned. -/
namespace Go.Proofs.YtfnoegijkdhckaaDoor
open Go.RowKit Go.Proofs.YtfnoegijkdhckaaDoorW.PrintWords

theorem bit_test (b i : Nat) (h : b < 4294967296) : (Go.bits .and .u32 ((b : Int) / 2 ^ i) 1 == 1) = decide (b / 2 ^ i % 2 = 1) := by
  have e : (b : Int) / 2 ^ i = ((b / 2 ^ i : Nat) : Int) := by push_cast; rfl
  have hlt : b / 2 ^ i < 4294967296 := Nat.lt_of_le_of_lt (Nat.div_le_self _ _) h
  rw [e, bits_and_one _ hlt]
  rcases Nat.mod_two_eq_zero_or_one (b / 2 ^ i) with h2 | h2 <;> rw [h2] <;> decide
theorem bits_xor_u8 (a b : Nat) (ha : a < 256) (hb : b < 256) : Go.bits .xor .u8 (a : Int) (b : Int) = ((a ^^^ b : Nat) : Int) := by
  have h : a ^^^ b < 256 := Nat.xor_lt_two_pow (n := 8) ha hb
  have h1 : (BitVec.ofInt 8 (a : Int)).toNat = a := by
    rw [BitVec.ofInt_natCast, BitVec.toNat_ofNat]; exact Nat.mod_eq_of_lt (by omega)
  have h2 : (BitVec.ofInt 8 (b : Int)).toNat = b := by
    rw [BitVec.ofInt_natCast, BitVec.toNat_ofNat]; exact Nat.mod_eq_of_lt (by omega)
  show IntKind.u8.wrap ((BitVec.ofInt 8 (a : Int) ^^^ BitVec.ofInt 8 (b : Int)).toNat : Int) = _
  rw [BitVec.toNat_xor, h1, h2]
  simp [IntKind.wrap, IntKind.bits, IntKind.signed]
  omega
theorem flip_byte (y : Int) (hy : 0 ≤ y ∧ y < 256) (p : Nat) : (0 ≤ Go.bits .xor .u8 y (2 ^ (p % 8) % 256) ∧ Go.bits .xor .u8 y (2 ^ (p % 8) % 256) < 256) ∧ (Go.bits .xor .u8 y (2 ^ (p % 8) % 256)).toNat = y.toNat ^^^ 2 ^ (p % 8) := by
  have hlt : 2 ^ (p % 8) < 256 := by
    have : 2 ^ (p % 8) < 2 ^ 8 := Nat.pow_lt_pow_right (by decide) (Nat.mod_lt _ (by decide))
    omega
  have e1 : (2 ^ (p % 8) % 256 : Int) = ((2 ^ (p % 8) : Nat) : Int) := by
    rw [Int.natCast_pow]
    have : ((2 ^ (p % 8) : Nat) : Int) < 256 := by omega
    rw [Int.natCast_pow] at this
    exact Int.emod_eq_of_lt (Int.pow_nonneg (by decide)) this
  obtain ⟨z, rfl⟩ := Int.eq_ofNat_of_zero_le hy.1
  have hz : z < 256 := by omega
  rw [e1, bits_xor_u8 z _ hz hlt]
  have := Nat.xor_lt_two_pow (n := 8) hz hlt
  refine ⟨by omega, ?_⟩
  simp
set_option maxRecDepth 100000 in
set_option maxHeartbeats 4000000 in
theorem wireTurned_main1 (A : Option Addr) (n c : Nat) (ts : List TinyT) (at' by' cut' : Nat) (B : Option Addr) (m d : Nat) (zs : List Int) (w : World) (ha : TinysAt w A n ts) (hia : ∀ x ∈ ts, TinyIn x) (hz : ReadsInt w .u8 B m zs) (hzr : ∀ x ∈ zs, 0 ≤ x ∧ x < 256) (hT : Tabs w) (h20 : n ≤ 20) (hm20 : m ≤ 20) (hm0 : 0 < m) (hat : at' < 65536) (hby : by' < 4294967296) (hcut : cut' < 65536)
    (E : List Int) (L : Nat) (X : List OpR) (hX : X = ts.map ofT) (hE : E = encB X) (hL : E.length = L) (hL7 : 7 ≤ L) (hL3 : L ≤ 3000) (hF : 1 = (form (encS X).length).length) (hx : E.getD 0 0 < 128) :
    Calls Tryd.prog 6 #[.slice A n c, .int .u16 (at' : Int), .int .u32 (by' : Int), .int .u16 (cut' : Int), .slice B m d] w fun e w' => e = .returned (.bool true) ∧ Below w.heap.size w w' := by
  have hm := ha.2.1
  have hm2 := hz.2.1
  have HT := Lib.hid hT
  have HB := Lib.hid (Below.refl w.heap.size w)
  have k1 := ofs_ok ts (by rw [ha.1]; omega)
  rw [← hX] at k1
  have HK := Lib.hid k1
  have h1 := fun (W : World) (h : Below w.heap.size w W) => all_calls A n c ts W (ha.below h) hia (by omega)
  have e1 := fun (A : Option Addr) (c : Nat) (W : World) (h : OpsAt W A (ts.map ofT).length (ts.map ofT)) (hT : Tabs W) => encode_calls A _ c (ts.map ofT) W h ofs_small hT (by rw [← hX]; exact k1)
  rw [← hX] at e1
  simp only [← hX] at h1
  rw [← hE] at e1
  have HER := Lib.hid (show ∀ x ∈ E, 0 ≤ x ∧ x < 256 by rw [hE]; exact encB_range X)
  have HZ := Lib.hid (fun (W : World) (h : Below w.heap.size w W) => hz.below h)
  have HZL := Lib.hid hz.1
  have HZR := Lib.hid hzr
  have H1 := Lib.hid h1
  have HE1 := Lib.hid e1
  have HE := Lib.hid hE
  have HL := Lib.hid hL
  have HFF := Lib.hid hF
  clear ha hia hz hzr hT k1 h1 e1 hX hE hL hF
  have b0 : 0 ≤ E.getD 0 0 ∧ E.getD 0 0 < 256 := HER.out _ (by rw [List.getD_eq_getElem?_getD, List.getElem?_eq_getElem (by rw [HL.out]; omega)]; simp)
  generalize hx0 : E.getD 0 0 = x0 at *
  have HX0 := Lib.hid hx0
  clear hx0
  obtain ⟨bits, hbits⟩ : ∃ bits : Nat, bits = 8 * (L - 1) := ⟨_, rfl⟩
  have hk0 : at' % bits < bits := Nat.mod_lt _ (by omega)
  obtain ⟨K, hK⟩ : ∃ K, at' % bits = K := ⟨_, rfl⟩
  rw [hK] at hk0
  have hbI : 8 * ((L : Int) - 1) = (bits : Int) := by omega
  have hkI : (at' : Int) % (bits : Int) = (K : Int) := by rw [← hK]; omega
  obtain ⟨J, hJ⟩ : ∃ J, cut' % L = J := ⟨_, rfl⟩
  have hJL : J < L := by rw [← hJ]; exact Nat.mod_lt _ (by omega)
  have hcI : (cut' : Int) % (L : Int) = (J : Int) := by rw [← hJ]; omega
  have HBITS := Lib.hid hbits
  have qn : decide ((20 : Int) < (n : Int)) = false := decide_eq_false (by omega)
  have qm : decide ((20 : Int) < (m : Int)) = false := decide_eq_false (by omega)
  have qz : ((m : Int) == 0) = false := by rw [beq_eq_false_iff_ne]; omega
  have q7 : decide ((L : Int) < 7) = false := decide_eq_false (by omega)
  have q0 : decide ((128 : Int) ≤ x0) = false := decide_eq_false (by omega)
  clear hK hbits hJ
  go_enter Tryd.func6, Tryd.ntmps6
  go_wp2_with (first
    | (go_at_call 9; (with_reducible refine Calls.mono (awake_calls _ HT.out) ?_); rintro e w1 ⟨rfl, hb⟩; have HBn := Lib.hid (below_step (by repeat (first | (with_reducible exact HB.out) | apply below_alloc | apply pw_below_drewN | apply below_drew1 | exact HB.out)) hb); clear hb HB; have HB := HBn; clear HBn)
    | (go_at_call 19; (with_reducible refine Calls.mono (H1.out _ HB.out) ?_); rintro e w2 ⟨v2, rfl, ho, hb⟩; obtain ⟨A2, c2, rfl, _, hr2⟩ := OwnO.ops ho; have HR2 := Lib.hid hr2; clear ho hr2; have HBn := Lib.hid (below_step (by repeat (first | (with_reducible exact HB.out) | apply below_alloc | apply pw_below_drewN | apply below_drew1 | exact HB.out)) hb); clear hb HB; have HB := HBn; clear HBn)
    | (go_at_call 11; ((with_reducible refine Calls.mono (HE1.out _ _ _ HR2.out (HT.out.below (by repeat (first | (with_reducible exact HB.out) | apply below_alloc | apply pw_below_drewN | apply below_drew1 | exact HB.out)))) ?_); rintro e w4 ⟨v4, rfl, ho, hb⟩; rw [OwnB, HL.out] at ho; rcases ho.2 with ⟨_, hz0⟩ | ⟨g4, c4, cur4, rfl, hg4, hcur4, hcap4, hcapm4, _⟩; (exfalso; omega); have hb0 := (own_at ho 0 (by omega) (by omega)).1; have hgl4 := blk_lt hcur4; rw [show rd E 0 = x0 from HX0.out] at hb0; simp only [Int.toNat_zero] at hb0; have HO4 := Lib.hid ho; clear ho hcur4; have HBn := Lib.hid (below_step (by repeat (first | (with_reducible exact HB.out) | apply below_alloc | apply pw_below_drewN | apply below_drew1 | exact HB.out)) hb); clear hb HB; have HB := HBn; clear HBn))
    | (at_builtin; go_loud ((refine print_append_row (w0 := w4) w4.heap.size rfl (.tmp 67) (.tmp 68) 25 5 .u8 1 rfl Tryd.underlying25 pkInfo5 (by decide) _ [] E (some ⟨g4, 0, none⟩) L c4 rfl rfl ?cO ?cR ?cB ?cS ?cL ?_; (case cO => exact own_lit w4 w4.heap.size 5 .u8 [] (Nat.le_refl _) (by decide)); (case cR => exact (own_reads' HO4.out).below (below_alloc (Below.refl _ _) _)); (case cB => exact below_alloc (Below.refl _ _) _); (case cS => simp); (case cL => show (0 + L) * 1 ≤ _; omega); intro v6 w6 ho hb hg hat; rw [List.nil_append, HL.out] at ho; rcases ho.2 with ⟨_, hz0⟩ | ⟨g6, c6, cur6, rfl, hg6, hcur6, hcap6, hcapm6, _⟩; (exfalso; omega); clear hcur6; have HO6 := Lib.hid ho; have HB6 := Lib.hid hb; clear ho hb hg hat)))
    | (fail "no arm"))
  obtain ⟨fm, hfm⟩ : ∃ fm, fm = form (encS X).length := ⟨_, rfl⟩
  have HEF := Lib.hid (show E = fm ++ encS X by rw [HE.out, hfm]; rfl)
  have hfl : fm.length = 1 := by rw [hfm]; exact HFF.out.symm
  have HFM := Lib.hid hfm
  clear hfm
  have hsl : (encS X).length = L - 1 := by have := HL.out; rw [HEF.out, List.length_append] at this; omega
  have HSR := Lib.hid (show ∀ x ∈ encS X, 0 ≤ x ∧ x < 256 from fun x h => HER.out x (by rw [HEF.out]; exact List.mem_append_right _ h))
  obtain ⟨s, hs⟩ : ∃ s, s = encS X := ⟨_, rfl⟩
  rw [← hs] at hsl HSR HEF
  have HSX := Lib.hid hs
  clear hs
  go_loopw [18, 19] (fun vt vi W => ∃ (i : Nat) (tb : Bool) (si : List Int), vi = .int .i64 i ∧ vt = .bool tb ∧ i ≤ 32 ∧ K + i ≤ bits ∧ Hid (tb = decide (by' % 2 ^ i ≠ 0)) ∧ si.length = L - 1 ∧ Hid (∀ x ∈ si, 0 ≤ x ∧ x < 256) ∧ Hid (le si = le s ^^^ 2 ^ K * (by' % 2 ^ i)) ∧ Hid (tb = false → si = s) ∧ Hid (W.ownsRow w4.heap.size 5 1 (.slice (some ⟨g6, 0, none⟩) L c6) L (nums .u8 (fm ++ si))) ∧ Hid (Below w4.heap.size w4 W)) (fun _ vi _ => (32 - (RowKit.intOf vi).toNat))
  case atStart => exact ⟨0, false, s, rfl, rfl, by omega, by omega, Lib.hid (by simp [Nat.mod_one]), hsl, HSR, Lib.hid (by simp [Nat.mod_one]), Lib.hid (fun _ => rfl), Lib.hid (by rw [← HEF.out]; exact HO6.out), HB6⟩
  case round =>
    clear HB6 HO6
    obtain ⟨i, tb, si, rfl, rfl, hi, hKi, HTB, hsil, HSI, HLE, HSS, HO, HB5⟩ := hrel
    by_cases hgo : i < 32 ∧ K + i < bits
    · obtain ⟨hlt, hlt2⟩ := hgo
      have hi1 : (K : Int) + (i : Int) < (bits : Int) := by omega
      have hi2 : (i : Int) < 32 := by omega
      have hbt := bit_test by' i hby
      rcases Nat.mod_two_eq_zero_or_one (by' / 2 ^ i) with h2 | h2
      · rw [h2] at hbt
        have hbt2 : (Go.bits .and .u32 ((by' : Int) / 2 ^ i) 1 == 1) = false := hbt
        have HNB := Lib.hid h2
        clear hbt h2
        go_wp2_with (fail "no arm")
        go_roundw
        case rel => exact ⟨i + 1, tb, si, by go_num, rfl, by omega, by omega, Lib.hid (by rw [flip_not HNB.out]; exact HTB.out), hsil, HSI, Lib.hid (by rw [flip_not HNB.out]; exact HLE.out), HSS, HO, HB5⟩
        case measure => simp [RowKit.intOf] <;> omega
      · rw [h2] at hbt
        have hbt2 : (Go.bits .and .u32 ((by' : Int) / 2 ^ i) 1 == 1) = true := hbt
        have HNB := Lib.hid h2
        clear hbt h2
        have hjl : (K + i) / 8 < si.length := by rw [hsil]; have := HBITS.out; omega
        obtain ⟨hc6, hz6⟩ := own_at HO.out ((1 + (K + i) / 8 : Nat) : Int) (by omega) (by rw [hsil] at hjl; omega)
        rw [Int.toNat_natCast] at hc6 hz6
        have hrd : rd (fm ++ si) ((1 + (K + i) / 8 : Nat) : Int) = si[(K + i) / 8] := by
          unfold rd
          rw [Int.toNat_natCast, List.getD_eq_getElem?_getD, List.getElem?_append_right (by omega), hfl, show 1 + (K + i) / 8 - 1 = (K + i) / 8 by omega, List.getElem?_eq_getElem hjl]
          rfl
        rw [hrd] at hc6
        have hyr := HSI.out _ (List.getElem_mem hjl)
        have hst := flip_step HSI.out HLE.out HNB.out hjl
        generalize hy : si[(K + i) / 8] = y at *
        clear hrd hy
        obtain ⟨hv1, hv2⟩ := flip_byte y hyr (K + i)
        have HNEW := Lib.hid (hst _ hv1 hv2)
        have HOW := Lib.hid (own_store HO.out ((1 + (K + i) / 8 : Nat) : Int) (Go.bits .xor .u8 y (2 ^ ((K + i) % 8) % 256))).1
        have HV1 := Lib.hid hv1
        clear hst hv1 hv2 HO
        go_wp2_with (fail "no arm")
        go_region
        go_wp2_with (fail "no arm")
        go_roundw
        case rel =>
          refine ⟨i + 1, true, si.set ((K + i) / 8) (Go.bits .xor .u8 y (2 ^ ((K + i) % 8) % 256)), by go_num, rfl, by omega, by omega, Lib.hid (decide_eq_true (flip_on HNB.out)).symm, by rw [List.length_set]; exact hsil, Lib.hid (fun x hx => ?_), HNEW, Lib.hid (fun h => by cases h), Lib.hid ?_, Lib.hid (below_drew1 (HB5.out.setCell hg6 _))⟩
          · rcases List.mem_or_eq_of_mem_set hx with h | h
            · exact HSI.out x h
            · rw [h]; exact HV1.out
          · have ho := HOW.out
            rw [Int.toNat_natCast, List.set_append_right _ _ (by omega), hfl, show 1 + (K + i) / 8 - 1 = (K + i) / 8 by omega] at ho
            exact own_drew ho
        case measure => simp [RowKit.intOf] <;> omega
    · have hdec : decE (fm ++ si) = if tb then 3 else 0 := by
        cases htb : tb with
        | false =>
          rw [HSS.out htb, ← HEF.out, HE.out, decE_some (decR_encB HK.out)]; rfl
        | true =>
          have hne : by' % 2 ^ i ≠ 0 := by
            have := HTB.out
            rw [htb] at this
            exact of_decide_eq_true this.symm
          have hsx := HSX.out
          subst hsx
          rw [HFM.out, decE_none (turned_none HK.out HSI.out (by rw [hsil, hsl]) (k := K) (by rw [hsl]; have := HBITS.out; omega) hne (Nat.lt_of_le_of_lt (Nat.mod_le _ _) hby) HLE.out)]; rfl
      have hcr : ∀ x ∈ fm ++ si, 0 ≤ x ∧ x < 256 := by
        intro x hx
        rcases List.mem_append.1 hx with h | h
        · exact HER.out x (by rw [HEF.out]; exact List.mem_append_left _ h)
        · exact HSI.out x h
      have hrc := own_reads' HO.out
      have d1 := fun (W : World) (h : ReadsInt W .u8 (some ⟨g6, 0, none⟩) L (fm ++ si)) (hT : Tabs W) => decode_any (some ⟨g6, 0, none⟩) L c6 (fm ++ si) W h hcap6 (by omega) hcr hT
      rw [hdec] at d1
      have hd2 : decE (E.take J) = 3 := decE_none (by rw [HE.out]; exact cut_none HK.out J (by rw [← HE.out, HL.out]; exact hJL))
      have d2 := fun (W : World) (h : ReadsInt W .u8 (some ⟨g4, 0, none⟩) J (E.take J)) (hT : Tabs W) => decode_any (some ⟨g4, 0, none⟩) J c4 (E.take J) W h (by omega) (by omega) (range_take HER.out J) hT
      rw [hd2] at d2
      have hd3 : decE (E ++ zs) = 3 := decE_none (by rw [HE.out]; exact more_none HK.out zs (by rw [HZL.out]; exact hm0))
      have hzer : ∀ x ∈ E ++ zs, 0 ≤ x ∧ x < 256 := by
        intro x hx
        rcases List.mem_append.1 hx with h | h
        · exact HER.out x h
        · exact HZR.out x h
      have hel : (E ++ zs).length = L + m := by rw [List.length_append, HL.out, HZL.out]
      have d3 := fun (A : Option Addr) (c : Nat) (W : World) (h : ReadsInt W .u8 A (L + m) (E ++ zs)) (hc : L + m ≤ c) (hT : Tabs W) => decode_any A (L + m) c (E ++ zs) W h hc (by omega) hzer hT
      rw [hd3] at d3
      generalize decO (fm ++ si) = O1 at *
      generalize decO (E.take J) = O2 at *
      generalize decO (E ++ zs) = O3 at *
      have HD1 := Lib.hid d1
      have HD2 := Lib.hid d2
      have HD3 := Lib.hid d3
      have HRC := Lib.hid hrc
      have HEL := Lib.hid hel
      have HBB := Lib.hid (below_wide HB.out HB5.out HB.out.size)
      have HR4 := Lib.hid ((own_reads' HO4.out).below HB5.out)
      have HRJ := Lib.hid (((own_reads' HO4.out).take_ J (by omega)).below HB5.out)
      clear d1 d2 d3 hdec hcr hrc hd2 hd3 hzer hel HO HB5 HB
      have HB := HBB
      clear HBB
      have hj0 : (0 : Int) ≤ (J : Int) := by omega
      have hj1 : (J : Int) ≤ (c4 : Int) := by omega
      cases tb
      all_goals
        by_cases hlt : i < 32
        · have hlt2 : ¬ K + i < bits := fun h => hgo ⟨hlt, h⟩
          have hi1 : ¬ (K : Int) + (i : Int) < (bits : Int) := by omega
          have hi2 : (i : Int) < 32 := by omega
          clear hgo
          go_wp2_with (first
            | (go_at_call 14; ((with_reducible refine Calls.mono (HD1.out _ HRC.out (HT.out.below (by repeat (first | (with_reducible exact HB.out) | apply below_alloc | apply pw_below_drewN | apply below_drew1 | exact HB.out)))) ?_); rintro e w7 ⟨v7, rfl, ho, hb⟩; obtain ⟨A7, c7, rfl, _, _⟩ := OwnO.ops ho; have HR47 := Lib.hid (HR4.out.below hb); have HRJ7 := Lib.hid (HRJ.out.below hb); clear ho; have HBn := Lib.hid (below_step (by repeat (first | (with_reducible exact HB.out) | apply below_alloc | apply pw_below_drewN | apply below_drew1 | exact HB.out)) hb); clear hb HB; have HB := HBn; clear HBn))
            | (go_at_call 14; ((with_reducible refine Calls.mono (HD2.out _ HRJ7.out (HT.out.below (by repeat (first | (with_reducible exact HB.out) | apply below_alloc | apply pw_below_drewN | apply below_drew1 | exact HB.out)))) ?_); rintro e w8 ⟨v8, rfl, ho, hb⟩; obtain ⟨A8, c8, rfl, _, _⟩ := OwnO.ops ho; have HR48 := Lib.hid (HR47.out.below hb); clear ho; have HBn := Lib.hid (below_step (by repeat (first | (with_reducible exact HB.out) | apply below_alloc | apply pw_below_drewN | apply below_drew1 | exact HB.out)) hb); clear hb HB; have HB := HBn; clear HBn))
            | (at_builtin; ((refine print_append_row (w0 := w) w.heap.size rfl (.tmp 126) (.tmp 127) 25 5 .u8 1 rfl Tryd.underlying25 pkInfo5 (by decide) _ [] E (some ⟨g4, 0, none⟩) L c4 rfl rfl ?cO ?cR ?cB ?cS ?cL ?_; (case cO => exact own_lit w8 w.heap.size 5 .u8 [] HB.out.size (by decide)); (case cR => exact HR48.out.below (below_alloc (Below.refl _ _) _)); (case cB => exact below_alloc HB.out _); (case cS => rw [World.size_alloc]; exact Nat.le_succ_of_le HB.out.size); (case cL => show (0 + L) * 1 ≤ _; omega); intro v9 w9 ho hb hg hat; rw [List.nil_append, HL.out] at ho; have HO9 := Lib.hid ho; have HBn := Lib.hid hb; clear HB ho hb hg hat; have HB := HBn; clear HBn)))
            | (at_builtin; ((refine print_append_row (w0 := w) w.heap.size rfl (.tmp 128) (.tmp 129) 25 5 .u8 1 rfl Tryd.underlying25 pkInfo5 (by decide) _ E zs B m d rfl rfl ?cO ?cR ?cB ?cS ?cL ?_; (case cO => rw [HL.out]; exact HO9.out); (case cR => exact HZ.out _ HB.out); (case cB => exact HB.out); (case cS => exact HB.out.size); (case cL => rw [HL.out]; omega); intro v10 w10 ho hb hg hat; rw [HEL.out] at ho; obtain ⟨A10, c10, rfl, hr10⟩ := own_reads ho; have HR10 := Lib.hid hr10; have HC10 := Lib.hid (own_cap ho); have HBn := Lib.hid hb; clear HB ho hb hg hat hr10; have HB := HBn; clear HBn)))
            | (go_at_call 14; ((with_reducible refine Calls.mono (HD3.out _ _ _ HR10.out HC10.out (HT.out.below (by repeat (first | (with_reducible exact HB.out) | apply below_alloc | apply pw_below_drewN | apply below_drew1 | exact HB.out)))) ?_); rintro e w11 ⟨v11, rfl, ho, hb⟩; obtain ⟨A11, c11, rfl, _, _⟩ := OwnO.ops ho; clear ho; have HBn := Lib.hid (below_step (by repeat (first | (with_reducible exact HB.out) | apply below_alloc | apply pw_below_drewN | apply below_drew1 | exact HB.out)) hb); clear hb HB; have HB := HBn; clear HBn))
            | (fail "no arm"))
          go_ret
          exact ⟨by simp, (by repeat (first | (with_reducible exact HB.out) | apply below_alloc | apply pw_below_drewN | apply below_drew1 | exact HB.out))⟩
        · have hi2 : ¬ (i : Int) < 32 := by omega
          clear hgo
          go_wp2_with (first
            | (go_at_call 14; ((with_reducible refine Calls.mono (HD1.out _ HRC.out (HT.out.below (by repeat (first | (with_reducible exact HB.out) | apply below_alloc | apply pw_below_drewN | apply below_drew1 | exact HB.out)))) ?_); rintro e w7 ⟨v7, rfl, ho, hb⟩; obtain ⟨A7, c7, rfl, _, _⟩ := OwnO.ops ho; have HR47 := Lib.hid (HR4.out.below hb); have HRJ7 := Lib.hid (HRJ.out.below hb); clear ho; have HBn := Lib.hid (below_step (by repeat (first | (with_reducible exact HB.out) | apply below_alloc | apply pw_below_drewN | apply below_drew1 | exact HB.out)) hb); clear hb HB; have HB := HBn; clear HBn))
            | (go_at_call 14; ((with_reducible refine Calls.mono (HD2.out _ HRJ7.out (HT.out.below (by repeat (first | (with_reducible exact HB.out) | apply below_alloc | apply pw_below_drewN | apply below_drew1 | exact HB.out)))) ?_); rintro e w8 ⟨v8, rfl, ho, hb⟩; obtain ⟨A8, c8, rfl, _, _⟩ := OwnO.ops ho; have HR48 := Lib.hid (HR47.out.below hb); clear ho; have HBn := Lib.hid (below_step (by repeat (first | (with_reducible exact HB.out) | apply below_alloc | apply pw_below_drewN | apply below_drew1 | exact HB.out)) hb); clear hb HB; have HB := HBn; clear HBn))
            | (at_builtin; ((refine print_append_row (w0 := w) w.heap.size rfl (.tmp 126) (.tmp 127) 25 5 .u8 1 rfl Tryd.underlying25 pkInfo5 (by decide) _ [] E (some ⟨g4, 0, none⟩) L c4 rfl rfl ?cO ?cR ?cB ?cS ?cL ?_; (case cO => exact own_lit w8 w.heap.size 5 .u8 [] HB.out.size (by decide)); (case cR => exact HR48.out.below (below_alloc (Below.refl _ _) _)); (case cB => exact below_alloc HB.out _); (case cS => rw [World.size_alloc]; exact Nat.le_succ_of_le HB.out.size); (case cL => show (0 + L) * 1 ≤ _; omega); intro v9 w9 ho hb hg hat; rw [List.nil_append, HL.out] at ho; have HO9 := Lib.hid ho; have HBn := Lib.hid hb; clear HB ho hb hg hat; have HB := HBn; clear HBn)))
            | (at_builtin; ((refine print_append_row (w0 := w) w.heap.size rfl (.tmp 128) (.tmp 129) 25 5 .u8 1 rfl Tryd.underlying25 pkInfo5 (by decide) _ E zs B m d rfl rfl ?cO ?cR ?cB ?cS ?cL ?_; (case cO => rw [HL.out]; exact HO9.out); (case cR => exact HZ.out _ HB.out); (case cB => exact HB.out); (case cS => exact HB.out.size); (case cL => rw [HL.out]; omega); intro v10 w10 ho hb hg hat; rw [HEL.out] at ho; obtain ⟨A10, c10, rfl, hr10⟩ := own_reads ho; have HR10 := Lib.hid hr10; have HC10 := Lib.hid (own_cap ho); have HBn := Lib.hid hb; clear HB ho hb hg hat hr10; have HB := HBn; clear HBn)))
            | (go_at_call 14; ((with_reducible refine Calls.mono (HD3.out _ _ _ HR10.out HC10.out (HT.out.below (by repeat (first | (with_reducible exact HB.out) | apply below_alloc | apply pw_below_drewN | apply below_drew1 | exact HB.out)))) ?_); rintro e w11 ⟨v11, rfl, ho, hb⟩; obtain ⟨A11, c11, rfl, _, _⟩ := OwnO.ops ho; clear ho; have HBn := Lib.hid (below_step (by repeat (first | (with_reducible exact HB.out) | apply below_alloc | apply pw_below_drewN | apply below_drew1 | exact HB.out)) hb); clear hb HB; have HB := HBn; clear HBn))
            | (fail "no arm"))
          go_ret
          exact ⟨by simp, (by repeat (first | (with_reducible exact HB.out) | apply below_alloc | apply pw_below_drewN | apply below_drew1 | exact HB.out))⟩
set_option maxRecDepth 100000 in
set_option maxHeartbeats 4000000 in
theorem wireTurned_main2 (A : Option Addr) (n c : Nat) (ts : List TinyT) (at' by' cut' : Nat) (B : Option Addr) (m d : Nat) (zs : List Int) (w : World) (ha : TinysAt w A n ts) (hia : ∀ x ∈ ts, TinyIn x) (hz : ReadsInt w .u8 B m zs) (hzr : ∀ x ∈ zs, 0 ≤ x ∧ x < 256) (hT : Tabs w) (h20 : n ≤ 20) (hm20 : m ≤ 20) (hm0 : 0 < m) (hat : at' < 65536) (hby : by' < 4294967296) (hcut : cut' < 65536)
    (E : List Int) (L : Nat) (X : List OpR) (hX : X = ts.map ofT) (hE : E = encB X) (hL : E.length = L) (hL7 : 7 ≤ L) (hL3 : L ≤ 3000) (hF : 2 = (form (encS X).length).length) (hx : 128 ≤ E.getD 0 0) :
    Calls Tryd.prog 6 #[.slice A n c, .int .u16 (at' : Int), .int .u32 (by' : Int), .int .u16 (cut' : Int), .slice B m d] w fun e w' => e = .returned (.bool true) ∧ Below w.heap.size w w' := by
  have hm := ha.2.1
  have hm2 := hz.2.1
  have HT := Lib.hid hT
  have HB := Lib.hid (Below.refl w.heap.size w)
  have k1 := ofs_ok ts (by rw [ha.1]; omega)
  rw [← hX] at k1
  have HK := Lib.hid k1
  have h1 := fun (W : World) (h : Below w.heap.size w W) => all_calls A n c ts W (ha.below h) hia (by omega)
  have e1 := fun (A : Option Addr) (c : Nat) (W : World) (h : OpsAt W A (ts.map ofT).length (ts.map ofT)) (hT : Tabs W) => encode_calls A _ c (ts.map ofT) W h ofs_small hT (by rw [← hX]; exact k1)
  rw [← hX] at e1
  simp only [← hX] at h1
  rw [← hE] at e1
  have HER := Lib.hid (show ∀ x ∈ E, 0 ≤ x ∧ x < 256 by rw [hE]; exact encB_range X)
  have HZ := Lib.hid (fun (W : World) (h : Below w.heap.size w W) => hz.below h)
  have HZL := Lib.hid hz.1
  have HZR := Lib.hid hzr
  have H1 := Lib.hid h1
  have HE1 := Lib.hid e1
  have HE := Lib.hid hE
  have HL := Lib.hid hL
  have HFF := Lib.hid hF
  clear ha hia hz hzr hT k1 h1 e1 hX hE hL hF
  have b0 : 0 ≤ E.getD 0 0 ∧ E.getD 0 0 < 256 := HER.out _ (by rw [List.getD_eq_getElem?_getD, List.getElem?_eq_getElem (by rw [HL.out]; omega)]; simp)
  generalize hx0 : E.getD 0 0 = x0 at *
  have HX0 := Lib.hid hx0
  clear hx0
  obtain ⟨bits, hbits⟩ : ∃ bits : Nat, bits = 8 * (L - 2) := ⟨_, rfl⟩
  have hk0 : at' % bits < bits := Nat.mod_lt _ (by omega)
  obtain ⟨K, hK⟩ : ∃ K, at' % bits = K := ⟨_, rfl⟩
  rw [hK] at hk0
  have hbI : 8 * ((L : Int) - 2) = (bits : Int) := by omega
  have hkI : (at' : Int) % (bits : Int) = (K : Int) := by rw [← hK]; omega
  obtain ⟨J, hJ⟩ : ∃ J, cut' % L = J := ⟨_, rfl⟩
  have hJL : J < L := by rw [← hJ]; exact Nat.mod_lt _ (by omega)
  have hcI : (cut' : Int) % (L : Int) = (J : Int) := by rw [← hJ]; omega
  have HBITS := Lib.hid hbits
  have qn : decide ((20 : Int) < (n : Int)) = false := decide_eq_false (by omega)
  have qm : decide ((20 : Int) < (m : Int)) = false := decide_eq_false (by omega)
  have qz : ((m : Int) == 0) = false := by rw [beq_eq_false_iff_ne]; omega
  have q7 : decide ((L : Int) < 7) = false := decide_eq_false (by omega)
  have q0 : decide ((128 : Int) ≤ x0) = true := decide_eq_true (by omega)
  clear hK hbits hJ
  go_enter Tryd.func6, Tryd.ntmps6
  go_wp2_with (first
    | (go_at_call 9; (with_reducible refine Calls.mono (awake_calls _ HT.out) ?_); rintro e w1 ⟨rfl, hb⟩; have HBn := Lib.hid (below_step (by repeat (first | (with_reducible exact HB.out) | apply below_alloc | apply pw_below_drewN | apply below_drew1 | exact HB.out)) hb); clear hb HB; have HB := HBn; clear HBn)
    | (go_at_call 19; (with_reducible refine Calls.mono (H1.out _ HB.out) ?_); rintro e w2 ⟨v2, rfl, ho, hb⟩; obtain ⟨A2, c2, rfl, _, hr2⟩ := OwnO.ops ho; have HR2 := Lib.hid hr2; clear ho hr2; have HBn := Lib.hid (below_step (by repeat (first | (with_reducible exact HB.out) | apply below_alloc | apply pw_below_drewN | apply below_drew1 | exact HB.out)) hb); clear hb HB; have HB := HBn; clear HBn)
    | (go_at_call 11; ((with_reducible refine Calls.mono (HE1.out _ _ _ HR2.out (HT.out.below (by repeat (first | (with_reducible exact HB.out) | apply below_alloc | apply pw_below_drewN | apply below_drew1 | exact HB.out)))) ?_); rintro e w4 ⟨v4, rfl, ho, hb⟩; rw [OwnB, HL.out] at ho; rcases ho.2 with ⟨_, hz0⟩ | ⟨g4, c4, cur4, rfl, hg4, hcur4, hcap4, hcapm4, _⟩; (exfalso; omega); have hb0 := (own_at ho 0 (by omega) (by omega)).1; have hgl4 := blk_lt hcur4; rw [show rd E 0 = x0 from HX0.out] at hb0; simp only [Int.toNat_zero] at hb0; have HO4 := Lib.hid ho; clear ho hcur4; have HBn := Lib.hid (below_step (by repeat (first | (with_reducible exact HB.out) | apply below_alloc | apply pw_below_drewN | apply below_drew1 | exact HB.out)) hb); clear hb HB; have HB := HBn; clear HBn))
    | (at_builtin; go_loud ((refine print_append_row (w0 := w4) w4.heap.size rfl (.tmp 67) (.tmp 68) 25 5 .u8 1 rfl Tryd.underlying25 pkInfo5 (by decide) _ [] E (some ⟨g4, 0, none⟩) L c4 rfl rfl ?cO ?cR ?cB ?cS ?cL ?_; (case cO => exact own_lit w4 w4.heap.size 5 .u8 [] (Nat.le_refl _) (by decide)); (case cR => exact (own_reads' HO4.out).below (below_alloc (Below.refl _ _) _)); (case cB => exact below_alloc (Below.refl _ _) _); (case cS => simp); (case cL => show (0 + L) * 1 ≤ _; omega); intro v6 w6 ho hb hg hat; rw [List.nil_append, HL.out] at ho; rcases ho.2 with ⟨_, hz0⟩ | ⟨g6, c6, cur6, rfl, hg6, hcur6, hcap6, hcapm6, _⟩; (exfalso; omega); clear hcur6; have HO6 := Lib.hid ho; have HB6 := Lib.hid hb; clear ho hb hg hat)))
    | (fail "no arm"))
  obtain ⟨fm, hfm⟩ : ∃ fm, fm = form (encS X).length := ⟨_, rfl⟩
  have HEF := Lib.hid (show E = fm ++ encS X by rw [HE.out, hfm]; rfl)
  have hfl : fm.length = 2 := by rw [hfm]; exact HFF.out.symm
  have HFM := Lib.hid hfm
  clear hfm
  have hsl : (encS X).length = L - 2 := by have := HL.out; rw [HEF.out, List.length_append] at this; omega
  have HSR := Lib.hid (show ∀ x ∈ encS X, 0 ≤ x ∧ x < 256 from fun x h => HER.out x (by rw [HEF.out]; exact List.mem_append_right _ h))
  obtain ⟨s, hs⟩ : ∃ s, s = encS X := ⟨_, rfl⟩
  rw [← hs] at hsl HSR HEF
  have HSX := Lib.hid hs
  clear hs
  go_loopw [18, 19] (fun vt vi W => ∃ (i : Nat) (tb : Bool) (si : List Int), vi = .int .i64 i ∧ vt = .bool tb ∧ i ≤ 32 ∧ K + i ≤ bits ∧ Hid (tb = decide (by' % 2 ^ i ≠ 0)) ∧ si.length = L - 2 ∧ Hid (∀ x ∈ si, 0 ≤ x ∧ x < 256) ∧ Hid (le si = le s ^^^ 2 ^ K * (by' % 2 ^ i)) ∧ Hid (tb = false → si = s) ∧ Hid (W.ownsRow w4.heap.size 5 1 (.slice (some ⟨g6, 0, none⟩) L c6) L (nums .u8 (fm ++ si))) ∧ Hid (Below w4.heap.size w4 W)) (fun _ vi _ => (32 - (RowKit.intOf vi).toNat))
  case atStart => exact ⟨0, false, s, rfl, rfl, by omega, by omega, Lib.hid (by simp [Nat.mod_one]), hsl, HSR, Lib.hid (by simp [Nat.mod_one]), Lib.hid (fun _ => rfl), Lib.hid (by rw [← HEF.out]; exact HO6.out), HB6⟩
  case round =>
    clear HB6 HO6
    obtain ⟨i, tb, si, rfl, rfl, hi, hKi, HTB, hsil, HSI, HLE, HSS, HO, HB5⟩ := hrel
    by_cases hgo : i < 32 ∧ K + i < bits
    · obtain ⟨hlt, hlt2⟩ := hgo
      have hi1 : (K : Int) + (i : Int) < (bits : Int) := by omega
      have hi2 : (i : Int) < 32 := by omega
      have hbt := bit_test by' i hby
      rcases Nat.mod_two_eq_zero_or_one (by' / 2 ^ i) with h2 | h2
      · rw [h2] at hbt
        have hbt2 : (Go.bits .and .u32 ((by' : Int) / 2 ^ i) 1 == 1) = false := hbt
        have HNB := Lib.hid h2
        clear hbt h2
        go_wp2_with (fail "no arm")
        go_roundw
        case rel => exact ⟨i + 1, tb, si, by go_num, rfl, by omega, by omega, Lib.hid (by rw [flip_not HNB.out]; exact HTB.out), hsil, HSI, Lib.hid (by rw [flip_not HNB.out]; exact HLE.out), HSS, HO, HB5⟩
        case measure => simp [RowKit.intOf] <;> omega
      · rw [h2] at hbt
        have hbt2 : (Go.bits .and .u32 ((by' : Int) / 2 ^ i) 1 == 1) = true := hbt
        have HNB := Lib.hid h2
        clear hbt h2
        have hjl : (K + i) / 8 < si.length := by rw [hsil]; have := HBITS.out; omega
        obtain ⟨hc6, hz6⟩ := own_at HO.out ((2 + (K + i) / 8 : Nat) : Int) (by omega) (by rw [hsil] at hjl; omega)
        rw [Int.toNat_natCast] at hc6 hz6
        have hrd : rd (fm ++ si) ((2 + (K + i) / 8 : Nat) : Int) = si[(K + i) / 8] := by
          unfold rd
          rw [Int.toNat_natCast, List.getD_eq_getElem?_getD, List.getElem?_append_right (by omega), hfl, show 2 + (K + i) / 8 - 2 = (K + i) / 8 by omega, List.getElem?_eq_getElem hjl]
          rfl
        rw [hrd] at hc6
        have hyr := HSI.out _ (List.getElem_mem hjl)
        have hst := flip_step HSI.out HLE.out HNB.out hjl
        generalize hy : si[(K + i) / 8] = y at *
        clear hrd hy
        obtain ⟨hv1, hv2⟩ := flip_byte y hyr (K + i)
        have HNEW := Lib.hid (hst _ hv1 hv2)
        have HOW := Lib.hid (own_store HO.out ((2 + (K + i) / 8 : Nat) : Int) (Go.bits .xor .u8 y (2 ^ ((K + i) % 8) % 256))).1
        have HV1 := Lib.hid hv1
        clear hst hv1 hv2 HO
        go_wp2_with (fail "no arm")
        go_region
        go_wp2_with (fail "no arm")
        go_roundw
        case rel =>
          refine ⟨i + 1, true, si.set ((K + i) / 8) (Go.bits .xor .u8 y (2 ^ ((K + i) % 8) % 256)), by go_num, rfl, by omega, by omega, Lib.hid (decide_eq_true (flip_on HNB.out)).symm, by rw [List.length_set]; exact hsil, Lib.hid (fun x hx => ?_), HNEW, Lib.hid (fun h => by cases h), Lib.hid ?_, Lib.hid (below_drew1 (HB5.out.setCell hg6 _))⟩
          · rcases List.mem_or_eq_of_mem_set hx with h | h
            · exact HSI.out x h
            · rw [h]; exact HV1.out
          · have ho := HOW.out
            rw [Int.toNat_natCast, List.set_append_right _ _ (by omega), hfl, show 2 + (K + i) / 8 - 2 = (K + i) / 8 by omega] at ho
            exact own_drew ho
        case measure => simp [RowKit.intOf] <;> omega
    · have hdec : decE (fm ++ si) = if tb then 3 else 0 := by
        cases htb : tb with
        | false =>
          rw [HSS.out htb, ← HEF.out, HE.out, decE_some (decR_encB HK.out)]; rfl
        | true =>
          have hne : by' % 2 ^ i ≠ 0 := by
            have := HTB.out
            rw [htb] at this
            exact of_decide_eq_true this.symm
          have hsx := HSX.out
          subst hsx
          rw [HFM.out, decE_none (turned_none HK.out HSI.out (by rw [hsil, hsl]) (k := K) (by rw [hsl]; have := HBITS.out; omega) hne (Nat.lt_of_le_of_lt (Nat.mod_le _ _) hby) HLE.out)]; rfl
      have hcr : ∀ x ∈ fm ++ si, 0 ≤ x ∧ x < 256 := by
        intro x hx
        rcases List.mem_append.1 hx with h | h
        · exact HER.out x (by rw [HEF.out]; exact List.mem_append_left _ h)
        · exact HSI.out x h
      have hrc := own_reads' HO.out
      have d1 := fun (W : World) (h : ReadsInt W .u8 (some ⟨g6, 0, none⟩) L (fm ++ si)) (hT : Tabs W) => decode_any (some ⟨g6, 0, none⟩) L c6 (fm ++ si) W h hcap6 (by omega) hcr hT
      rw [hdec] at d1
      have hd2 : decE (E.take J) = 3 := decE_none (by rw [HE.out]; exact cut_none HK.out J (by rw [← HE.out, HL.out]; exact hJL))
      have d2 := fun (W : World) (h : ReadsInt W .u8 (some ⟨g4, 0, none⟩) J (E.take J)) (hT : Tabs W) => decode_any (some ⟨g4, 0, none⟩) J c4 (E.take J) W h (by omega) (by omega) (range_take HER.out J) hT
      rw [hd2] at d2
      have hd3 : decE (E ++ zs) = 3 := decE_none (by rw [HE.out]; exact more_none HK.out zs (by rw [HZL.out]; exact hm0))
      have hzer : ∀ x ∈ E ++ zs, 0 ≤ x ∧ x < 256 := by
        intro x hx
        rcases List.mem_append.1 hx with h | h
        · exact HER.out x h
        · exact HZR.out x h
      have hel : (E ++ zs).length = L + m := by rw [List.length_append, HL.out, HZL.out]
      have d3 := fun (A : Option Addr) (c : Nat) (W : World) (h : ReadsInt W .u8 A (L + m) (E ++ zs)) (hc : L + m ≤ c) (hT : Tabs W) => decode_any A (L + m) c (E ++ zs) W h hc (by omega) hzer hT
      rw [hd3] at d3
      generalize decO (fm ++ si) = O1 at *
      generalize decO (E.take J) = O2 at *
      generalize decO (E ++ zs) = O3 at *
      have HD1 := Lib.hid d1
      have HD2 := Lib.hid d2
      have HD3 := Lib.hid d3
      have HRC := Lib.hid hrc
      have HEL := Lib.hid hel
      have HBB := Lib.hid (below_wide HB.out HB5.out HB.out.size)
      have HR4 := Lib.hid ((own_reads' HO4.out).below HB5.out)
      have HRJ := Lib.hid (((own_reads' HO4.out).take_ J (by omega)).below HB5.out)
      clear d1 d2 d3 hdec hcr hrc hd2 hd3 hzer hel HO HB5 HB
      have HB := HBB
      clear HBB
      have hj0 : (0 : Int) ≤ (J : Int) := by omega
      have hj1 : (J : Int) ≤ (c4 : Int) := by omega
      cases tb
      all_goals
        by_cases hlt : i < 32
        · have hlt2 : ¬ K + i < bits := fun h => hgo ⟨hlt, h⟩
          have hi1 : ¬ (K : Int) + (i : Int) < (bits : Int) := by omega
          have hi2 : (i : Int) < 32 := by omega
          clear hgo
          go_wp2_with (first
            | (go_at_call 14; ((with_reducible refine Calls.mono (HD1.out _ HRC.out (HT.out.below (by repeat (first | (with_reducible exact HB.out) | apply below_alloc | apply pw_below_drewN | apply below_drew1 | exact HB.out)))) ?_); rintro e w7 ⟨v7, rfl, ho, hb⟩; obtain ⟨A7, c7, rfl, _, _⟩ := OwnO.ops ho; have HR47 := Lib.hid (HR4.out.below hb); have HRJ7 := Lib.hid (HRJ.out.below hb); clear ho; have HBn := Lib.hid (below_step (by repeat (first | (with_reducible exact HB.out) | apply below_alloc | apply pw_below_drewN | apply below_drew1 | exact HB.out)) hb); clear hb HB; have HB := HBn; clear HBn))
            | (go_at_call 14; ((with_reducible refine Calls.mono (HD2.out _ HRJ7.out (HT.out.below (by repeat (first | (with_reducible exact HB.out) | apply below_alloc | apply pw_below_drewN | apply below_drew1 | exact HB.out)))) ?_); rintro e w8 ⟨v8, rfl, ho, hb⟩; obtain ⟨A8, c8, rfl, _, _⟩ := OwnO.ops ho; have HR48 := Lib.hid (HR47.out.below hb); clear ho; have HBn := Lib.hid (below_step (by repeat (first | (with_reducible exact HB.out) | apply below_alloc | apply pw_below_drewN | apply below_drew1 | exact HB.out)) hb); clear hb HB; have HB := HBn; clear HBn))
            | (at_builtin; ((refine print_append_row (w0 := w) w.heap.size rfl (.tmp 126) (.tmp 127) 25 5 .u8 1 rfl Tryd.underlying25 pkInfo5 (by decide) _ [] E (some ⟨g4, 0, none⟩) L c4 rfl rfl ?cO ?cR ?cB ?cS ?cL ?_; (case cO => exact own_lit w8 w.heap.size 5 .u8 [] HB.out.size (by decide)); (case cR => exact HR48.out.below (below_alloc (Below.refl _ _) _)); (case cB => exact below_alloc HB.out _); (case cS => rw [World.size_alloc]; exact Nat.le_succ_of_le HB.out.size); (case cL => show (0 + L) * 1 ≤ _; omega); intro v9 w9 ho hb hg hat; rw [List.nil_append, HL.out] at ho; have HO9 := Lib.hid ho; have HBn := Lib.hid hb; clear HB ho hb hg hat; have HB := HBn; clear HBn)))
            | (at_builtin; ((refine print_append_row (w0 := w) w.heap.size rfl (.tmp 128) (.tmp 129) 25 5 .u8 1 rfl Tryd.underlying25 pkInfo5 (by decide) _ E zs B m d rfl rfl ?cO ?cR ?cB ?cS ?cL ?_; (case cO => rw [HL.out]; exact HO9.out); (case cR => exact HZ.out _ HB.out); (case cB => exact HB.out); (case cS => exact HB.out.size); (case cL => rw [HL.out]; omega); intro v10 w10 ho hb hg hat; rw [HEL.out] at ho; obtain ⟨A10, c10, rfl, hr10⟩ := own_reads ho; have HR10 := Lib.hid hr10; have HC10 := Lib.hid (own_cap ho); have HBn := Lib.hid hb; clear HB ho hb hg hat hr10; have HB := HBn; clear HBn)))
            | (go_at_call 14; ((with_reducible refine Calls.mono (HD3.out _ _ _ HR10.out HC10.out (HT.out.below (by repeat (first | (with_reducible exact HB.out) | apply below_alloc | apply pw_below_drewN | apply below_drew1 | exact HB.out)))) ?_); rintro e w11 ⟨v11, rfl, ho, hb⟩; obtain ⟨A11, c11, rfl, _, _⟩ := OwnO.ops ho; clear ho; have HBn := Lib.hid (below_step (by repeat (first | (with_reducible exact HB.out) | apply below_alloc | apply pw_below_drewN | apply below_drew1 | exact HB.out)) hb); clear hb HB; have HB := HBn; clear HBn))
            | (fail "no arm"))
          go_ret
          exact ⟨by simp, (by repeat (first | (with_reducible exact HB.out) | apply below_alloc | apply pw_below_drewN | apply below_drew1 | exact HB.out))⟩
        · have hi2 : ¬ (i : Int) < 32 := by omega
          clear hgo
          go_wp2_with (first
            | (go_at_call 14; ((with_reducible refine Calls.mono (HD1.out _ HRC.out (HT.out.below (by repeat (first | (with_reducible exact HB.out) | apply below_alloc | apply pw_below_drewN | apply below_drew1 | exact HB.out)))) ?_); rintro e w7 ⟨v7, rfl, ho, hb⟩; obtain ⟨A7, c7, rfl, _, _⟩ := OwnO.ops ho; have HR47 := Lib.hid (HR4.out.below hb); have HRJ7 := Lib.hid (HRJ.out.below hb); clear ho; have HBn := Lib.hid (below_step (by repeat (first | (with_reducible exact HB.out) | apply below_alloc | apply pw_below_drewN | apply below_drew1 | exact HB.out)) hb); clear hb HB; have HB := HBn; clear HBn))
            | (go_at_call 14; ((with_reducible refine Calls.mono (HD2.out _ HRJ7.out (HT.out.below (by repeat (first | (with_reducible exact HB.out) | apply below_alloc | apply pw_below_drewN | apply below_drew1 | exact HB.out)))) ?_); rintro e w8 ⟨v8, rfl, ho, hb⟩; obtain ⟨A8, c8, rfl, _, _⟩ := OwnO.ops ho; have HR48 := Lib.hid (HR47.out.below hb); clear ho; have HBn := Lib.hid (below_step (by repeat (first | (with_reducible exact HB.out) | apply below_alloc | apply pw_below_drewN | apply below_drew1 | exact HB.out)) hb); clear hb HB; have HB := HBn; clear HBn))
            | (at_builtin; ((refine print_append_row (w0 := w) w.heap.size rfl (.tmp 126) (.tmp 127) 25 5 .u8 1 rfl Tryd.underlying25 pkInfo5 (by decide) _ [] E (some ⟨g4, 0, none⟩) L c4 rfl rfl ?cO ?cR ?cB ?cS ?cL ?_; (case cO => exact own_lit w8 w.heap.size 5 .u8 [] HB.out.size (by decide)); (case cR => exact HR48.out.below (below_alloc (Below.refl _ _) _)); (case cB => exact below_alloc HB.out _); (case cS => rw [World.size_alloc]; exact Nat.le_succ_of_le HB.out.size); (case cL => show (0 + L) * 1 ≤ _; omega); intro v9 w9 ho hb hg hat; rw [List.nil_append, HL.out] at ho; have HO9 := Lib.hid ho; have HBn := Lib.hid hb; clear HB ho hb hg hat; have HB := HBn; clear HBn)))
            | (at_builtin; ((refine print_append_row (w0 := w) w.heap.size rfl (.tmp 128) (.tmp 129) 25 5 .u8 1 rfl Tryd.underlying25 pkInfo5 (by decide) _ E zs B m d rfl rfl ?cO ?cR ?cB ?cS ?cL ?_; (case cO => rw [HL.out]; exact HO9.out); (case cR => exact HZ.out _ HB.out); (case cB => exact HB.out); (case cS => exact HB.out.size); (case cL => rw [HL.out]; omega); intro v10 w10 ho hb hg hat; rw [HEL.out] at ho; obtain ⟨A10, c10, rfl, hr10⟩ := own_reads ho; have HR10 := Lib.hid hr10; have HC10 := Lib.hid (own_cap ho); have HBn := Lib.hid hb; clear HB ho hb hg hat hr10; have HB := HBn; clear HBn)))
            | (go_at_call 14; ((with_reducible refine Calls.mono (HD3.out _ _ _ HR10.out HC10.out (HT.out.below (by repeat (first | (with_reducible exact HB.out) | apply below_alloc | apply pw_below_drewN | apply below_drew1 | exact HB.out)))) ?_); rintro e w11 ⟨v11, rfl, ho, hb⟩; obtain ⟨A11, c11, rfl, _, _⟩ := OwnO.ops ho; clear ho; have HBn := Lib.hid (below_step (by repeat (first | (with_reducible exact HB.out) | apply below_alloc | apply pw_below_drewN | apply below_drew1 | exact HB.out)) hb); clear hb HB; have HB := HBn; clear HBn))
            | (fail "no arm"))
          go_ret
          exact ⟨by simp, (by repeat (first | (with_reducible exact HB.out) | apply below_alloc | apply pw_below_drewN | apply below_drew1 | exact HB.out))⟩
theorem wireTurned_walk0 (A : Option Addr) (n c : Nat) (ts : List TinyT) (at' by' cut' : Nat) (B : Option Addr) (m d : Nat) (zs : List Int) (w : World) (ha : TinysAt w A n ts) (hia : ∀ x ∈ ts, TinyIn x) (hz : ReadsInt w .u8 B m zs) (hzr : ∀ x ∈ zs, 0 ≤ x ∧ x < 256) (hT : Tabs w) (hat : at' < 65536) (hby : by' < 4294967296) (hcut : cut' < 65536) :
    Calls Tryd.prog 6 #[.slice A n c, .int .u16 (at' : Int), .int .u32 (by' : Int), .int .u16 (cut' : Int), .slice B m d] w fun e w' => e = .returned (.bool true) ∧ Below w.heap.size w w' := by
  by_cases h20 : n ≤ 20
  · by_cases hm20 : m ≤ 20
    · by_cases hm0 : 0 < m
      · have k1 := ofs_ok ts (by rw [ha.1]; omega)
        have hl := encB_len _ k1
        have hl7 : 7 ≤ (encB (ts.map ofT)).length := by
          have h1 := encS_len (ts.map ofT)
          have h2 : 2 ≤ (encA (ts.map ofT)).length := by
            have := form_pos (ts.map ofT).length (by omega) (by rw [List.length_map, ha.1]; omega)
            simp only [encA, List.length_append, List.length_singleton]
            omega
          have h3 := form_pos (encS (ts.map ofT)).length (by omega) (by have : (encB (ts.map ofT)).length = (form (encS (ts.map ofT)).length).length + (encS (ts.map ofT)).length := by rw [encB, List.length_append]
                                                                        omega)
          rw [encB, List.length_append]
          omega
        rcases encB_head k1 with ⟨hf, hx⟩ | ⟨hf, hx⟩
        · exact wireTurned_main1 A n c ts at' by' cut' B m d zs w ha hia hz hzr hT h20 hm20 hm0 hat hby hcut _ _ _ rfl rfl rfl hl7 hl hf.symm hx
        · exact wireTurned_main2 A n c ts at' by' cut' B m d zs w ha hia hz hzr hT h20 hm20 hm0 hat hby hcut _ _ _ rfl rfl rfl hl7 hl hf.symm hx
      · obtain rfl : m = 0 := by omega
        have HT := Lib.hid hT
        have HB := Lib.hid (Below.refl w.heap.size w)
        clear ha hia hz hzr hT
        go_enter Tryd.func6, Tryd.ntmps6
        go_wp2_with (first
          | (go_at_call 9; (with_reducible refine Calls.mono (awake_calls _ HT.out) ?_); rintro e w1 ⟨rfl, hb⟩; have HBn := Lib.hid (below_step (by repeat (first | (with_reducible exact HB.out) | apply below_alloc | apply pw_below_drewN | apply below_drew1 | exact HB.out)) hb); clear hb HB; have HB := HBn; clear HBn)
          | (fail "no arm"))
        all_goals (go_ret; exact ⟨rfl, HB.out⟩)
    · have HT := Lib.hid hT
      have HB := Lib.hid (Below.refl w.heap.size w)
      have hm2 := hz.2.1
      have hmm : (20 : Int) < (m : Int) := by omega
      clear ha hia hz hzr hT
      go_enter Tryd.func6, Tryd.ntmps6
      go_wp2_with (first
        | (go_at_call 9; (with_reducible refine Calls.mono (awake_calls _ HT.out) ?_); rintro e w1 ⟨rfl, hb⟩; have HBn := Lib.hid (below_step (by repeat (first | (with_reducible exact HB.out) | apply below_alloc | apply pw_below_drewN | apply below_drew1 | exact HB.out)) hb); clear hb HB; have HB := HBn; clear HBn)
        | (fail "no arm"))
      all_goals (go_ret; exact ⟨rfl, HB.out⟩)
  · have HT := Lib.hid hT
    have HB := Lib.hid (Below.refl w.heap.size w)
    have hm2 := ha.2.1
    have hmm : (20 : Int) < (n : Int) := by omega
    clear ha hia hz hzr hT
    go_enter Tryd.func6, Tryd.ntmps6
    go_wp2_with (first
      | (go_at_call 9; (with_reducible refine Calls.mono (awake_calls _ HT.out) ?_); rintro e w1 ⟨rfl, hb⟩; have HBn := Lib.hid (below_step (by repeat (first | (with_reducible exact HB.out) | apply below_alloc | apply pw_below_drewN | apply below_drew1 | exact HB.out)) hb); clear hb HB; have HB := HBn; clear HBn)
      | (fail "no arm"))
    all_goals (go_ret; exact ⟨rfl, HB.out⟩)
theorem wireTurned_walk (A : Option Addr) (c : Nat) (ts : List TinyT) (a1 a2 a3 : Int) (B : Option Addr) (d : Nat) (zs : List Int) (W : World) (h0 : ReadsRow (tinyKd.K W) 5 W A ts.length ts) (_ : ts.length ≤ c) (k0 : ts.length ≤ maxLen ∧ ∀ x ∈ ts, tinyOk x) (w1 : (Lit.int .u16 a1).wf = true) (w2 : (Lit.int .u32 a2).wf = true) (w3 : (Lit.int .u16 a3).wf = true) (h1 : (Kd.int .u8).C W B zs.length zs) (_ : zs.length ≤ d) (k1 : zs.length ≤ maxLen ∧ ∀ x ∈ zs, (Lit.int .u8 x).wf = true) (hT : Tabs W) :
    Calls Tryd.prog 6 #[.slice A ts.length c, .int .u16 a1, .int .u32 a2, .int .u16 a3, .slice B zs.length d] W fun e w' => e = .returned (.bool true) ∧ Below W.heap.size W w' := by
  have r1 : 0 ≤ a1 ∧ a1 ≤ 65535 := by simpa [Lit.wf, IntKind.min, IntKind.max, IntKind.signed, IntKind.bits] using w1
  have r2 : 0 ≤ a2 ∧ a2 ≤ 4294967295 := by simpa [Lit.wf, IntKind.min, IntKind.max, IntKind.signed, IntKind.bits] using w2
  have r3 : 0 ≤ a3 ∧ a3 ≤ 65535 := by simpa [Lit.wf, IntKind.min, IntKind.max, IntKind.signed, IntKind.bits] using w3
  obtain ⟨b1, rfl⟩ := Int.eq_ofNat_of_zero_le r1.1
  obtain ⟨b2, rfl⟩ := Int.eq_ofNat_of_zero_le r2.1
  obtain ⟨b3, rfl⟩ := Int.eq_ofNat_of_zero_le r3.1
  exact wireTurned_walk0 A _ c ts b1 b2 b3 B _ d zs W (tinys_of_row h0) (fun x h => tinyIn (k0.2 x h)) (int_of_C h1) (fun x h => byte_wf (k1.2 x h)) hT (by omega) (by omega) (by omega)
end Go.Proofs.YtfnoegijkdhckaaDoor
/- The witness world whose listed tables read as laid; the tables of a world that is entered. -/
namespace Go.Proofs.YtfnoegijkdhckaaDoor
open Go.Shelf Go.RowKit Go.Lib

noncomputable def laidWorld (os : Os) : World :=
  let w0 := World.holding Tryd.prog os ⟨#[], #[], []⟩
  let put (h : Array Obj) (g : Nat) (cs : Array Value) : Array Obj := h.modify g fun
    | .cells _ t frozen => .cells cs t frozen
    | o => o
  let h1 := put w0.heap (Tryd.laysValid_ren.g 3) (Lib.firstTab.map fun z => Value.int .u8 z).toArray
  let h2 := put h1 (Tryd.laysValid_ren.g 4) ((List.range 16).flatMap fun i => [Value.int .u8 (Lib.accLo i), Value.int .u8 (Lib.accHi i)]).toArray
  { w0 with heap := h2 }
theorem laid_met (os : Os) (args : Array Value) : laidMet Tryd.prog Rows.wireEncodesRow.laid ((laidWorld os).forCall (fun _ _ => 0) ⟨#[], args, []⟩).memory :=
  (LaidIn.of_run (l := [("unicode/utf8.acceptRanges", Rows.laid_unicode_utf8_acceptRanges), ("unicode/utf8.first", Rows.laid_unicode_utf8_first)]) [Tryd.laysValid_ren.g 3, Tryd.laysValid_ren.g 4] 8 (by kernel_rfl) (by kernel_rfl) (by kernel_rfl) (by kernel_rfl)).met
theorem acc_eq : (Rows.laid_unicode_utf8_acceptRanges : DataW Unit) = acceptData := by kernel_rfl
theorem tabs_of {W : World} (h3 : VarReads Tryd.prog W "unicode/utf8.first" Rows.laid_unicode_utf8_first) (h4 : VarReads Tryd.prog W "unicode/utf8.acceptRanges" Rows.laid_unicode_utf8_acceptRanges) : Tabs W :=
  utf8Tabs_of_readsT (U8Types.of196 Tryd.laysValid) ⟨by kernel_rfl, by kernel_rfl, by kernel_rfl, by kernel_rfl, by kernel_rfl, by kernel_rfl, by kernel_rfl⟩
    (by rw [show firstData = Rows.laid_unicode_utf8_first from Pinned.utf8First_eq.symm]; exact h3) (by rw [← acc_eq]; exact h4)
end Go.Proofs.YtfnoegijkdhckaaDoor
/- The row and the card of the law WireTurned, out of its walk. -/
namespace Go.Proofs.YtfnoegijkdhckaaDoor.wireTurned
open Go.ChangeShapes Go.WideShapes Go.ChangeAt Go.RowKit Go.Lib
open Go.ChangeMaps (open_string shut_string)
open Go.Proofs.YtfnoegijkdhckaaDoorW.Open Go.Proofs.YtfnoegijkdhckaaDoorW.PrintWords
theorem own : ownKnob Tryd.prog.godebug = none := by kernel_rfl
theorem laidOut : laidOutB Tryd.prog = true := by kernel_rfl
theorem op0 : Opens Tryd.prog 36 (Kd.slice 71 tinyKd) (fun xs => xs.length ≤ maxLen ∧ ∀ x ∈ xs, tinyOk x) := Opens.slice Tryd.underlying36 (by kernel_rfl) tinyOpens
theorem op4 : Opens Tryd.prog 25 (Kd.slice 5 (Kd.int .u8)) (fun xs => xs.length ≤ maxLen ∧ ∀ x ∈ xs, (Lit.int .u8 x).wf = true) := Opens.slice Tryd.underlying25 (by kernel_rfl) (Opens.int Tryd.underlying5 (by kernel_rfl))
theorem witness_row (os : Os) {H : Type} (enc : TypeId × Value → H) :
    (OpenSpec.ofChange Rows.wireTurnedSpec).preRow enc Tryd.prog Tryd.f6 Rows.wireTurnedRow.domain false Rows.wireTurnedRow.laid ((laidWorld os).forCall (fun _ _ => 0) ⟨#[], #[.slice none 0 0, .int .u16 0, .int .u32 0, .int .u16 0, .slice none 0 0], []⟩).memory #[.slice none 0 0, .int .u16 0, .int .u32 0, .int .u16 0, .slice none 0 0] := by
  have hw : (DataW.whole enc Tryd.prog ((laidWorld os).forCall (fun _ _ => 0) ⟨#[], #[.slice none 0 0, .int .u16 0, .int .u32 0, .int .u16 0, .slice none 0 0], []⟩).memory Tryd.f6.params.toList (OpenSpec.ofChange Rows.wireTurnedSpec).vars false (#[.slice none 0 0, .int .u16 0, .int .u32 0, .int .u16 0, .slice none 0 0] : Array Value).toList 8).map (fun x => (x.1, x.2.1)) =
      some ([.nil, .lit (.int .u16 0), .lit (.int .u32 0), .lit (.int .u16 0), .nil], []) := by kernel_rfl
  obtain ⟨⟨x1, x2, x3⟩, hx, hx1⟩ := Option.map_eq_some_iff.1 hw
  simp only [Prod.mk.injEq] at hx1
  obtain ⟨rfl, rfl⟩ := hx1
  exact OpenSpec.preRow_of_cond 8 hx (by kernel_rfl) (fun k hk => by cases hk) (by kernel_rfl) (laid_met os _)
set_option maxRecDepth 100000 in
set_option maxHeartbeats 2000000 in
theorem lifted (os : Os) (started : os.Started) (H : Type) (enc : TypeId × Value → H) (F : Stop.Interp) :
    ReturnsInHanded {} Tryd.checked os 6 .any ((OpenSpec.ofChange Rows.wireTurnedSpec).preRow enc Tryd.prog Tryd.f6 Rows.wireTurnedRow.domain false Rows.wireTurnedRow.laid) (((OpenSpec.ofChange Rows.wireTurnedSpec).at F).post enc Tryd.prog Tryd.f6 false true false false) := by
  refine returnsInHanded_of_row (C := Tryd.checked) (s := OpenSpec.ofChange Rows.wireTurnedSpec) own started (by kernel_rfl) Tryd.func6
    (witness_row_atRef (enc := enc) (C := Tryd.checked) false (laidWorld os) #[.slice none 0 0, .int .u16 0, .int .u32 0, .int .u16 0, .slice none 0 0] rfl (by kernel_rfl) (by kernel_rfl) (by kernel_rfl) (witness_row os enc)) ?_
  intro W base args ds gs before hval0 hW _ _ _ hL _ _
  have hval : ∀ (j : Nat) t v, Tryd.f6.params[j]? = some t → args[j]? = some v → Value.okWide Tryd.prog W .any base t v := hval0
  have hW' := hW
  obtain ⟨p, q, hA0, hV, rfl, hfz, hnd⟩ := hW
  have hA : DataW.TrodAll enc Tryd.prog W 0 (fun _ => true) true Tryd.f6.params.toList args.toList ds p := hA0
  rw [Tryd.params6] at hA hval
  obtain ⟨v0, vs0, d0, ds0, p0, q0, hargs, rfl, rfl, h0, r0⟩ := trodAll_cons hA
  obtain ⟨v1, vs1, d1, ds1, p1, q1, rfl, rfl, rfl, h1, r1⟩ := trodAll_cons r0
  obtain ⟨v2, vs2, d2, ds2, p2, q2, rfl, rfl, rfl, h2, r2⟩ := trodAll_cons r1
  obtain ⟨v3, vs3, d3, ds3, p3, q3, rfl, rfl, rfl, h3, r3⟩ := trodAll_cons r2
  obtain ⟨v4, vs4, d4, ds4, p4, q4, rfl, rfl, rfl, h4, r4⟩ := trodAll_cons r3
  obtain ⟨rfl, rfl, rfl⟩ := trodAll_nil r4
  obtain rfl : args = #[v0, v1, v2, v3, v4] := by cases args; simp_all
  obtain ⟨rfl, rfl⟩ := trodVars_none hV
  have k0 := h0
  have lt0 : ∀ x ∈ p0, x.block < W.heap.size := by obtain ⟨m, hm⟩ := k0; exact DataW.trod_lt m _ _ _ hm
  obtain ⟨a0, len0, cap0, rfl⟩ := okWide_slice Tryd.underlying36 (hval 0 36 v0 rfl rfl)
  obtain ⟨l0, hK0, ok0⟩ := Opens.arg op0 h0
  obtain ⟨A0, c0, e0, hc0, hr0⟩ := hK0
  simp only [Value.cells, List.cons.injEq, Value.slice.injEq, and_true] at e0
  obtain ⟨rfl, rfl, rfl⟩ := e0
  obtain ⟨a1, rfl, rfl, rfl, w1⟩ := open_int Tryd.underlying39 (hval 1 39 v1 rfl rfl) h1
  obtain ⟨a2, rfl, rfl, rfl, w2⟩ := open_int Tryd.underlying40 (hval 2 40 v2 rfl rfl) h2
  obtain ⟨a3, rfl, rfl, rfl, w3⟩ := open_int Tryd.underlying39 (hval 3 39 v3 rfl rfl) h3
  have k4 := h4
  have lt4 : ∀ x ∈ p4, x.block < W.heap.size := by obtain ⟨m, hm⟩ := k4; exact DataW.trod_lt m _ _ _ hm
  obtain ⟨a4, len4, cap4, rfl⟩ := okWide_slice Tryd.underlying25 (hval 4 25 v4 rfl rfl)
  obtain ⟨l4, hK4, ok4⟩ := Opens.arg op4 h4
  obtain ⟨A4, c4, e4, hc4, hr4⟩ := hK4
  simp only [Value.cells, List.cons.injEq, Value.slice.injEq, and_true] at e4
  obtain ⟨rfl, rfl, rfl⟩ := e4
  clear hA0 hval0
  have htab : Tabs W := tabs_of (Lib.laidMet.reads hL (.tail _ (.head _))) (Lib.laidMet.reads hL (.head _))
  refine (wireTurned_walk a0 cap0 l0 a1 a2 a3 a4 cap4 l4 W hr0 hc0 ok0 w1 w2 w3 hr4 hc4 ok4 htab).mono fun e W' ⟨he, bel⟩ => ?_
  subst he
  exact ⟨_, rfl, _, _, _, [], _, [], hW', trodAll_mk1 (shut_bool Tryd.underlying4 _), (trodAll_cons_mk (Below.trod laidOut (by kernel_rfl) (of_decide_eq_true (by kernel_rfl)) k0 bel lt0) (trodAll_cons_mk (shut_int Tryd.underlying39 w1) (trodAll_cons_mk (shut_int Tryd.underlying40 w2) (trodAll_cons_mk (shut_int Tryd.underlying39 w3) (trodAll_cons_mk (Below.trod laidOut (by kernel_rfl) (of_decide_eq_true (by kernel_rfl)) k4 bel lt4) trodAll_mk0))))), rfl, bel.frame _, fun h => by cases h⟩
theorem row_holds : Rows.WireTurnedSaid :=
  OpenClaim.holds_of_cond 6 Tryd.f6 rfl rfl rfl rfl rfl rfl rfl ⟨rfl, rfl, rfl, rfl, rfl⟩ rfl rfl rfl rfl rfl (by kernel_rfl) Tryd.func6 (by kernel_rfl)
    (of_decide_eq_true (by kernel_rfl)) (by unfold Func.isWrapper; first | (rw [if_pos (by decide +kernel)]; kernel_rfl) | (rw [if_neg (by decide +kernel)]; exact ⟨rfl, rfl⟩))
    (fun os started H enc _ F0 => by rw [OpenClaim.pre_eq_preRow]; exact lifted os started H enc F0)
end Go.Proofs.YtfnoegijkdhckaaDoor.wireTurned
namespace Go.Proofs.YtfnoegijkdhckaaDoor
open Go
theorem wireTurned_holds : Rows.WireTurnedCardSaid :=
  Claim7.holds_tied_plain_at .later [] [.data, .pinned] true (true, "ee8ca45ab003daabe33b4090dfd4d1995736ae94f68a9bda058eacab5fc92003") false
    wireTurned.row_holds (fun _ h => by cases h) (by kernel_rfl) (fun _ h => by cases h) wireTurned_row_tie rfl ⟨rfl, rfl⟩ (by kernel_rfl) rfl
    (fun f fn hf hfn => by
      obtain rfl : f = 6 := Option.some.inj ((show Tryd.prog.funcNamed "holt/holtlaw06.WireTurned" = some 6 by kernel_rfl).symm.trans hf) |>.symm
      obtain rfl : fn = Tryd.f6 := (Option.some.inj (Tryd.func6.symm.trans hfn)).symm
      exact ⟨by kernel_rfl, fun j t ht => by
        have hm : t ∈ Tryd.f6.params.toList := List.mem_of_getElem? (by rw [Array.getElem?_toList]; exact ht)
        rw [Tryd.params6] at hm
        have hall : (Tryd.f6.params.toList.all fun t => !Tryd.prog.wantsStandIn t) = true := by kernel_rfl
        rw [Tryd.params6] at hall
        have := List.all_eq_true.1 hall t hm
        have h2 : Tryd.prog.wantsStandIn t = false := by simpa using this
        exact h2⟩)
    (by kernel_rfl)
#print axioms wireTurned_holds
end Go.Proofs.YtfnoegijkdhckaaDoor
