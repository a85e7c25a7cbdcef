/-
  holtlaw11.made; The references' calls as a law tells them
-/
import Derived.Test.YtmhfbpdahfepgaaB8
import Derived.Deep.CutBlock
/- holtlaw11.made. -/
namespace Go.Proofs.Ytmhfbpdahfepgaa.Pm
open Go.RowKit Go.Proofs.YtmhfbpdahfepgaaW.PrintWords
attribute [local go_sem high] eqHd
theorem cell_lt {w : World} {a : Addr} {v : Value} (h : w.cell? a = some v) : a.block < w.heap.size := by
  unfold World.cell? at h
  by_cases hlt : a.block < w.heap.size
  · exact hlt
  · rw [Array.getElem?_eq_none (by omega)] at h; cases h
/-- A byte lies in no block of whole numbers. -/
theorem byte_ne {w : World} {b : Nat} {cs : Array Value} {t : TypeId} {p : Addr} {x : Int} (hb : w.heap[b]? = some (.cells cs t (0, 0))) (hcs : ∀ u ∈ cs.toList, ∀ y, u ≠ .int .u8 y) (h : w.cell? p = some (.int .u8 x)) : p.block ≠ b := by
  intro e
  unfold World.cell? at h
  rw [e, hb] at h
  simp only at h
  split at h
  · cases h
  · obtain ⟨hi, he⟩ := Array.getElem?_eq_some_iff.mp h
    exact hcs _ (Array.mem_toList_iff.mpr (Array.getElem_mem hi)) x he
def madeP (l : List Int) : Nat → List (Int × Int)
  | 0 => []
  | n + 1 => lput cmpI (rd l n) n (madeP l n)
theorem lput_len (k v : Int) : ∀ l : List (Int × Int), (lput cmpI k v l).length ≤ l.length + 1
  | [] => by simp [lput]
  | p :: l => by
    have := lput_len k v l
    rw [lput]
    split
    · simp
    · split
      · simp; exact this
      · simp
theorem madeP_len (l : List Int) : ∀ n, (madeP l n).length ≤ n
  | 0 => Nat.le_refl _
  | n + 1 => by have := madeP_len l n; have h := lput_len (rd l n) n (madeP l n); rw [madeP]; omega
theorem rd_byte {l : List Int} (h : ∀ x ∈ l, 0 ≤ x ∧ x < 256) (i : Nat) (hi : i < l.length) : 0 ≤ rd l i ∧ rd l i < 256 := by
  have e : rd l i = l[i] := by unfold rd; rw [Int.toNat_natCast, List.getD_eq_getElem?_getD, List.getElem?_eq_getElem hi]; rfl
  rw [e]
  exact h _ (List.getElem_mem hi)
theorem reads_map {α β : Type} {R : α → List Value → Prop} {R' : β → List Value → Prop} {size : Nat} {W : World} {A : Option Addr} {n : Nat} {ps : List α} (f : α → β) (h : ReadsRow R size W A n ps) (hR : ∀ p c, R p c → R' (f p) c) : ReadsRow R' size W A n (ps.map f) := by
  refine ⟨by rw [List.length_map]; exact h.1, h.2.1, fun h0 => ?_⟩
  obtain ⟨ad, e, hc⟩ := h.2.2 h0
  refine ⟨ad, e, fun j p hj => ?_⟩
  rw [List.getElem?_map] at hj
  obtain ⟨q, hq, rfl⟩ := Option.map_eq_some_iff.mp hj
  obtain ⟨c, hl, hr, hcell⟩ := hc j q hq
  exact ⟨c, hl, hR _ _ hr, hcell⟩
/-- A row of pairs reads as the reference's. -/
theorem own_C {W : World} {B : Nat} {A : Option Addr} {n c : Nat} {ps : List (Int × Int)} (h : OwnP W B (.slice A n c) ps) : n = (ps.map sp).length ∧ n ≤ c ∧ Kd.C PPmapPlays.k64 W A (ps.map sp).length (ps.map sp) := by
  obtain ⟨A', c', e, hc, hr⟩ := OwnRow.reads h
  injection e with e1 e2 e3
  subst e1 e2 e3
  rw [List.length_map]
  exact ⟨rfl, hc, reads_map sp hr (fun p c hp => by subst hp; exact PPmapPlays.k64_mk W (sp p))⟩
theorem own_CH {W : World} {B : Nat} {A : Option Addr} {n c : Nat} {hs : List Hd} (h : OwnH W B (.slice A n c) hs) : n = (hs.map sh).length ∧ n ≤ c ∧ Kd.C PPmapPlays.k28 W A (hs.map sh).length (hs.map sh) := by
  obtain ⟨A', c', e, hc, hr⟩ := OwnRow.reads h
  injection e with e1 e2 e3
  subst e1 e2 e3
  rw [List.length_map]
  exact ⟨rfl, hc, reads_map sh hr (fun p c hp => by subst hp; exact PPmapPlays.k28_mk W (sh p))⟩
theorem reps_unmap {α β : Type} {R : α → List Value → Prop} {R' : β → List Value → Prop} {size : Nat} {ps : List α} {inner : List Value} (f : α → β) (h : Reps R' size (ps.map f) inner) (hR : ∀ p c, R' (f p) c → R p c) : Reps R size ps inner := by
  refine ⟨by rw [h.1, List.length_map], fun j p hj => hR _ _ (h.2 j (f p) (by rw [List.getElem?_map, hj]; rfl))⟩
theorem own_of_R {W : World} {B : Nat} {ok : Nat → Prop} {v : Value} {ps : List (Int × Int)} (h : Kd.R PPmapPlays.k64 64 W B ok v (ps.map sp)) : OwnP W B v ps := by
  obtain ⟨_, inner, ho, hr⟩ := h
  refine ⟨inner, by rw [List.length_map] at ho; exact ho, reps_unmap sp hr (fun p c hp => PPmapPlays.k64_openM hp)⟩
theorem with_law (W : World) (B : Nat) (A : Option Addr) (n c : Nat) (ps : List (Int × Int)) (k v : Int) (h : OwnP W B (.slice A n c) ps) (hs : Sorted cmpI ps) (hl : ps.length ≤ 1000) :
    Calls Try.prog 21 #[.slice A n c, .int .i64 k, .int .i64 v] W fun e w' => ∃ pv, e = .returned pv ∧ OwnP w' W.heap.size pv (lput cmpI k v ps) ∧ Below W.heap.size W w' := by
  obtain ⟨e, hc, hC⟩ := own_C h
  have := PPmapPlays.holtref11_With.calls 3000 A c (ps.map sp) k v _ W hC (by omega) (with_f k v ps hs hl)
  rw [← e] at this
  exact this.mono fun _ _ ⟨pv, h1, h2, h3⟩ => ⟨pv, h1, own_of_R h2, h3⟩
/-- A version was made, what is handed out lies in block eb. -/
def CutE (w0 wr wx : World) (B m aa G : Nat) (a : Ar N2) (t : T2) (ps : List (Int × Int)) (eb : Nat) : Prop :=
  ∃ a2 t2 made gone mv gv, Step G a t a2 t2 made gone ∧ pairs t2 = ps ∧ wx.heap[eb]? = some (.cells #[.int .i64 t2.h.s, .int .i64 t2.h.g, mv, gv] 39 (0, 0)) ∧ FS w0 wx B m aa gv mv a2 made gone ∧ Fr wr wx ∧ wr.heap.size ≤ eb
theorem cutE_alloc {w0 wr w3 : World} {B m aa G : Nat} {a a2 : Ar N2} {t t2 : T2} {ps : List (Int × Int)} {made gone : List Hd} {mv gv : Value} (S : Step G a t a2 t2 made gone) (hp : pairs t2 = ps) (hfs : FS w0 w3 B m aa gv mv a2 made gone) (hF : Fr wr w3) :
    CutE w0 wr (w3.alloc (.cells #[.int .i64 t2.h.s, .int .i64 t2.h.g, mv, gv] 39 (0, 0))) B m aa G a t ps w3.heap.size :=
  ⟨a2, t2, made, gone, mv, gv, S, hp, blk_new _ _, hfs.below (below_alloc (Below.refl _ _) _), hF.trans (Fr.below (below_alloc (Below.refl _ _) _)), hF.size⟩
theorem cutE_store {w0 wr w3 : World} {B m aa G n : Nat} {a a2 : Ar N2} {t t2 : T2} {ps : List (Int × Int)} {made gone : List Hd} {mv gv : Value} (S : Step G a t a2 t2 made gone) (hp : pairs t2 = ps) (hfs : FS w0 w3 B m aa gv mv a2 made gone) (hF : Fr wr w3) (hn : w3.heap[n]? = some (Obj.cells #[.int .i64 0, .int .i64 0, .slice none 0 0, .slice none 0 0] 39 (0, 0))) (hB : B ≤ n) (hr : wr.heap.size ≤ n) :
    CutE w0 wr ((((w3.setCell ⟨n, 0, none⟩ (.int .i64 t2.h.s)).setCell ⟨n, 1, none⟩ (.int .i64 t2.h.g)).setCell ⟨n, 2, none⟩ mv).setCell ⟨n, 3, none⟩ gv) B m aa G a t ps n := by
  obtain ⟨h1, h2, h3⟩ := hfs.box (root := t2.h) hn hB hF hr
  exact ⟨a2, t2, made, gone, mv, gv, S, hp, h1, h2, h3, hr⟩
theorem EditOut.open {w0 W w' : World} {B m aa G : Nat} {a : Ar N2} {t : T2} {ps : List (Int × Int)} {e : Ending} (h : EditOut w0 W B m aa G a t ps e w') :
    ∃ a' t' made gone Am cm Ag cg lm lg, Step G a t a' t' made gone ∧ pairs t' = ps ∧ e = .returned (.tuple #[.agg #[.int .i64 t'.h.s, .int .i64 t'.h.g, .slice Am lm cm, .slice Ag lg cg], .bool true]) ∧ FS w0 w' B m aa (.slice Ag lg cg) (.slice Am lm cm) a' made gone ∧ Fr W w' := by
  obtain ⟨a', t', made, gone, mv, gv, S, hp, he, hfs, hF⟩ := h
  obtain ⟨Am, cm, rfl, _⟩ := OwnRow.slice_ hfs.hmade
  obtain ⟨Ag, cg, rfl, _⟩ := OwnRow.slice_ hfs.hgone
  exact ⟨a', t', made, gone, Am, cm, Ag, cg, _, _, S, hp, he, hfs, hF⟩
theorem OwnP.fr {W W' : World} {B : Nat} {v : Value} {l : List (Int × Int)} (h : OwnP W B v l) (hF : Fr W W') : OwnP W' B v l := by
  obtain ⟨inner, ho, hr⟩ := h
  exact ⟨inner, own_fr ho hF (by decide) (by decide) (by decide), hr⟩
theorem MapB.setH {w0 W : World} {B m aa n : Nat} {a : Ar N2} {cs : Array Value} (h : MapB w0 W B m aa a) (hb : W.heap[n]? = some (.cells cs 28 (0, 0))) (hB : B ≤ n) (j : Nat) (u : Value) : MapB w0 (W.setCell ⟨n, j, none⟩ u) B m aa a :=
  ⟨by obtain ⟨sv, fv, h⟩ := h.at_; exact ⟨sv, fv, h.set hb (by decide) (by decide) (by decide) hB j u⟩, blk_far h.hm (typed_ne h.hm hb (by decide)) u, h.bm⟩
def MadeOut (w0 W : World) (B m aa : Nat) (l : List Int) (a : Ar N2) (e : Ending) (w' : World) : Prop :=
  ∃ (a' : Ar N2) (t : T2) (pv : Value), e = .returned (.tuple #[hdV t.h, pv, .bool true]) ∧ Ver a' t ∧ pairs t = madeP l l.length ∧ OwnP w' W.heap.size pv (pairs t) ∧ MapB w0 w' B m aa a' ∧ ArOk (30 * l.length) a' ∧ a.room - 25 * (l.length : Int) ≤ a'.room ∧ a'.most = a.most ∧ Fr W w'
set_option maxHeartbeats 8000000 in
theorem made_calls (w0 W : World) (B m aa : Nat) (A : Option Addr) (c : Nat) (l : List Int) (a : Ar N2) (HM : MapB w0 W B m aa a) (ok : ArOk 0 a) (hl : l.length ≤ 60) (hr : 25 * (l.length : Int) ≤ a.room) (hb : ∀ x ∈ l, 0 ≤ x ∧ x < 256) (_ : l.length ≤ c)
    (hrd : ∀ V, Fr W V → Below B w0 V → ReadsInt V .u8 A l.length l) :
    Calls Try.prog 12 #[.pointer (some ⟨m, 0, none⟩), .slice A l.length c] W (MadeOut w0 W B m aa l a) := by
  have HM0 := Lib.hid HM
  have HOK := Lib.hid ok
  have HRD := Lib.hid hrd
  have HBY := Lib.hid hb
  have HRM := Lib.hid hr
  have hsz := HM.sz
  clear HM ok hrd hb hr
  go_enter Try.func12, Try.ntmps12
  go_wp2
  go_loopw [8, 9] (fun v8 v9 W' => ∃ (i : Nat) (a' : Ar N2) (t : T2) (A8 : Option Addr) (n8 c8 : Nat), v9 = .int .i64 i ∧ v8 = .slice A8 n8 c8 ∧ i ≤ l.length ∧ Hid (Ver a' t) ∧ Hid (pairs t = madeP l i) ∧ Hid (OwnP W' W.heap.size (.slice A8 n8 c8) (pairs t)) ∧ Hid (MapB w0 W' B m aa a') ∧ Hid (ArOk (30 * i) a') ∧ Hid (a.room - 25 * (i : Int) ≤ a'.room) ∧ Hid (a'.most = a.most) ∧ Hid (W'.heap[W.heap.size]? = some (.cells #[.int .i64 0, .int .i64 0] 28 (0, 0))) ∧ Hid (W'.heap[W.heap.size + 1]? = some (.cells #[.int .i64 t.h.s, .int .i64 t.h.g] 28 (0, 0))) ∧ Hid (Fr W W')) (fun _ v9 _ => l.length - (RowKit.intOf v9).toNat)
  case atStart =>
    refine ⟨0, a, .leaf, none, 0, 0, rfl, rfl, Nat.zero_le _, Lib.hid (Ver.leaf _), Lib.hid rfl, Lib.hid (OwnRow.none_ _ _ _ _ _), Lib.hid (HM0.out.below (by repeat (first | exact Below.refl _ _ | apply below_drew1 | apply below_alloc | apply pw_below_drewN))), HOK, Lib.hid (by omega), Lib.hid rfl, Lib.hid (blk_below (blk_new W _) (by repeat (first | exact Below.refl _ _ | apply below_drew1 | apply below_alloc | apply pw_below_drewN))), Lib.hid (alloc_at (by simp [World.size_alloc])), Lib.hid (Fr.below (by repeat (first | exact Below.refl _ _ | apply below_drew1 | apply below_alloc | apply pw_below_drewN)))⟩
  case round =>
    obtain ⟨i, a', t, A8, n8, c8, rfl, rfl, hi, HV, HP, HO, HMB, HAK, HRO, HMO, HB0, HB1, HF⟩ := hrel
    by_cases hlt : i < l.length
    · have hpl := madeP_len l i
      have hplen : (pairs t).length ≤ 60 := by rw [HP.out]; omega
      have h8 := hi_60 HV.out.avl hplen
      have hroom : 3 * t.hi + 1 ≤ a'.room := by have := HRM.out; have := HRO.out; omega
      obtain ⟨ad, rfl, hcell⟩ := (HRD.out wr HF.out HMB.out.bel).at_ i (by omega) (by omega)
      rw [Int.toNat_natCast] at hcell
      have hadl := cell_lt hcell
      have hby := rd_byte HBY.out i hlt
      have hx0 := hby.1
      have hx1 := hby.2
      have HPU := Lib.hid (fun (V : World) (hb : Below wr.heap.size wr V) => mput_law w0 V B m aa a' t (rd l i) i (30 * i) (HMB.out.below hb) HV.out HAK.out (by omega) hplen hroom)
      simp only [hdV] at HPU
      have k0 := blk_cell HB1.out 0
      have k1 := blk_cell HB1.out 1
      simp at k0 k1
      have hlt1 := blk_lt HB1.out
      have hBW := HMB.out.sz
      have HB := Lib.hid (Below.refl wr.heap.size wr)
      have HMD := Lib.hid (show madeP l (i + 1) = lput cmpI (rd l i) (i : Int) (madeP l i) from rfl)
      clear hby hroom hplen h8 hpl
      generalize hxe : rd l i = x at *
      have HXE := Lib.hid hxe
      clear hxe
      have hwx : IntKind.i64.wrap x = x := by rw [IntKind.wrap_i64]; omega
      have hwi : IntKind.i64.wrap ((i : Int) + 1) = ((i + 1 : Nat) : Int) := by rw [IntKind.wrap_i64]; omega
      go_wp2
      go_cut [10, 11] from 19 to 31 (fun v10 v11 wx => ∃ eb : Nat, v10 = .pointer (some ⟨eb, 0, none⟩) ∧ v11 = .bool true ∧ Hid (CutE w0 wr wx B m aa (30 * i) a' t (lput cmpI x i (pairs t)) eb))
      case first =>
        go_region_with (first
          | (go_at_call 16; go_loud (
              (with_reducible refine Calls.mono (HPU.out _ (by repeat (first | (with_reducible exact HB.out) | apply below_alloc | apply pw_below_drewN | apply below_drew1 | exact HB.out))) ?_);
              rintro e w3 heo;
              obtain ⟨a2, t2, md, gn, Am, cm, Ag, cg, lm, lg, S, hp, rfl, hfs, hF⟩ := heo.open;
              have HS3 := Lib.hid S; have HP3 := Lib.hid hp; have HFS3 := Lib.hid hfs; have HF3 := Lib.hid (Fr.trans (Fr.below (W := wr) (by repeat (first | (with_reducible exact HB.out) | apply below_alloc | apply pw_below_drewN | apply below_drew1 | exact HB.out))) hF);
              (try (have GE := Lib.hid (FrX.typedF hF (k := wr.heap.size) (cs := #[.int .i64 0, .int .i64 0, .slice none 0 0, .slice none 0 0]) (t := 39) (by first | exact blk_new _ _ | exact blk_drew (blk_new _ _))); have p0 := blk_cell GE.out 0; have p1 := blk_cell GE.out 1; have p2 := blk_cell GE.out 2; have p3 := blk_cell GE.out 3; have z0 := blk_frozen GE.out 0; have z1 := blk_frozen GE.out 1; have z2 := blk_frozen GE.out 2; have z3 := blk_frozen GE.out 3; simp at p0 p1 p2 p3));
              clear S hp hfs hF heo))
          | (fail "no arm"))
        all_goals
          go_wp2
          go_meet
          refine ⟨_, rfl, rfl, ?_⟩
          first
            | with_reducible exact Lib.hid (cutE_alloc HS3.out HP3.out HFS3.out HF3.out)
            | with_reducible exact Lib.hid (cutE_store HS3.out HP3.out HFS3.out HF3.out GE.out hBW (Nat.le_refl _))
      case rest =>
        obtain ⟨eb, rfl, rfl, HCE⟩ := hcut
        obtain ⟨a2, t2, md, gn, mv, gv, S, hp, heb, hfs, hF, hge⟩ := HCE.out
        have HS2 := Lib.hid S
        have HP2 := Lib.hid hp
        have HM2 := Lib.hid hfs.mb
        have HF2 := Lib.hid (HF.out.trans hF)
        have HR2 := Lib.hid (FrX.typedF hF HB1.out)
        have HR3 := Lib.hid (FrX.typedF hF HB0.out)
        have HO2 := Lib.hid (HO.out.fr hF)
        have e0 := blk_cell heb 0
        have e1 := blk_cell heb 1
        have z0 := blk_frozen HR2.out 0
        have z1 := blk_frozen HR2.out 1
        have r0 := blk_cell HR2.out 0
        have r1 := blk_cell HR2.out 1
        simp at e0 e1 r0 r1
        have hlte := blk_lt heb
        have hltr := blk_lt HR2.out
        have hne1 : eb ≠ W.heap.size + 1 := by omega
        obtain ⟨ad2, e, hcell2⟩ := (HRD.out wc HF2.out HM2.out.bel).at_ i (by omega) (by omega)
        cases e
        rw [Int.toNat_natCast] at hcell2
        have HR4 := Lib.hid (blk_put (blk_put HR2.out 0 (.int .i64 t2.h.s) rfl) 1 (.int .i64 t2.h.g) rfl)
        have HR5 := Lib.hid (blk_far (blk_far HR3.out (show W.heap.size ≠ (Addr.mk (W.heap.size + 1) 0 none).block from Nat.ne_of_lt (Nat.lt_succ_self _)) (.int .i64 t2.h.s)) (show W.heap.size ≠ (Addr.mk (W.heap.size + 1) 1 none).block from Nat.ne_of_lt (Nat.lt_succ_self _)) (.int .i64 t2.h.g))
        have HM4 := Lib.hid ((HM2.out.setH HR2.out (Nat.le_succ_of_le hsz) 0 (.int .i64 t2.h.s)).setH (blk_put HR2.out 0 (.int .i64 t2.h.s) rfl) (Nat.le_succ_of_le hsz) 1 (.int .i64 t2.h.g))
        have HF4 := Lib.hid (Fr.new (Fr.new HF2.out (Nat.le_succ W.heap.size) 0 (.int .i64 t2.h.s)) (Nat.le_succ W.heap.size) 1 (.int .i64 t2.h.g))
        have HO4 := Lib.hid (OwnRow.set_ (OwnRow.set_ HO2.out HR2.out (by decide) 0 (.int .i64 t2.h.s)) (blk_put HR2.out 0 (.int .i64 t2.h.s) rfl) (by decide) 1 (.int .i64 t2.h.g))
        have HWI := Lib.hid (with_law _ W.heap.size A8 n8 c8 (pairs t) x i HO4.out HV.out.sorted (by have := madeP_len l i; rw [HP.out]; omega))
        have HPL := Lib.hid (show (pairs t2).length ≤ 60 by have := lput_len x i (pairs t); have h2 := madeP_len l i; rw [← HP.out] at h2; rw [HP2.out]; omega)
        clear HCE S hp heb hfs hF HB k0 k1 hcell
        clear hcell2
        go_upto_region 10 with (fail "no arm")
        obtain ⟨ad2, e, hcell2⟩ := (HRD.out _ HF4.out HM4.out.bel).at_ i (by omega) (by omega)
        cases e
        rw [Int.toNat_natCast, HXE.out] at hcell2
        generalize ((wc.setCell ⟨W.heap.size + 1, 0, none⟩ (.int .i64 t2.h.s)).setCell ⟨W.heap.size + 1, 1, none⟩ (.int .i64 t2.h.g)) = V at *
        go_wp2_with (first
          | (go_at_call 21; go_loud ((with_reducible refine Calls.mono HWI.out ?_); rintro e w5 ⟨pv, rfl, hop, hb⟩; obtain ⟨A9, c9, rfl, _⟩ := OwnRow.slice_ hop; have HB5 := Lib.hid hb; have HO5 := Lib.hid hop; clear hop hb))
          | (fail "no arm"))
        go_roundw
        case rel =>
          refine ⟨i + 1, a2, t2, A9, _, c9, by go_num, rfl, by omega, Lib.hid HS2.out.ver, Lib.hid (by rw [HP2.out, HMD.out, HP.out]), Lib.hid (by rw [HP2.out]; exact row_low HO5.out (by have := HM4.out.sz; have := HF4.out.size; exact this)), Lib.hid (HM4.out.below HB5.out), Lib.hid (HS2.out.ok.more (by omega)), Lib.hid ?_, Lib.hid (HS2.out.most.trans HMO.out), Lib.hid (blk_below HR5.out HB5.out), Lib.hid (blk_below HR4.out HB5.out), Lib.hid (HF4.out.trans (Fr.below HB5.out))⟩
          have h1 := HS2.out.room
          have h2 := HS2.out.len
          have h3 := hi_60 HV.out.avl (by have := madeP_len l i; rw [HP.out]; omega)
          have h4 := HRO.out
          omega
        case measure => simp [RowKit.intOf] <;> omega
    · obtain rfl : i = l.length := by omega
      have k0 := blk_cell HB1.out 0
      have k1 := blk_cell HB1.out 1
      have r0 := blk_cell HB0.out 0
      have r1 := blk_cell HB0.out 1
      have z0 := blk_frozen HB0.out 0
      have z1 := blk_frozen HB0.out 1
      simp at k0 k1 r0 r1
      have hlt1 := blk_lt HB1.out
      have hBW := HMB.out.sz
      go_wp2
      have HR4 := Lib.hid (blk_put (blk_put HB0.out 0 (.int .i64 t.h.s) rfl) 1 (.int .i64 t.h.g) rfl)
      have HM4 := Lib.hid ((HMB.out.setH HB0.out hsz 0 (.int .i64 t.h.s)).setH (blk_put HB0.out 0 (.int .i64 t.h.s) rfl) hsz 1 (.int .i64 t.h.g))
      have HF4 := Lib.hid (Fr.new (Fr.new HF.out (Nat.le_refl W.heap.size) 0 (.int .i64 t.h.s)) (Nat.le_refl W.heap.size) 1 (.int .i64 t.h.g))
      have HO4 := Lib.hid (OwnRow.set_ (OwnRow.set_ HO.out HB0.out (by decide) 0 (.int .i64 t.h.s)) (blk_put HB0.out 0 (.int .i64 t.h.s) rfl) (by decide) 1 (.int .i64 t.h.g))
      generalize ((wr.setCell ⟨W.heap.size, 0, none⟩ (.int .i64 t.h.s)).setCell ⟨W.heap.size, 1, none⟩ (.int .i64 t.h.g)) = V at *
      have q0 := blk_cell HR4.out 0
      have q1 := blk_cell HR4.out 1
      simp at q0 q1
      refine bodyPost_ret (v := .tuple #[hdV t.h, .slice A8 n8 c8, .bool true]) (by simp [results, Try.results12, hdV, go_sem, q0, q1]; try rfl) rfl ?_
      exact ⟨a', t, _, rfl, HV.out, HP.out, HO4.out, HM4.out, HAK.out, HRO.out, HMO.out, HF4.out⟩
end Go.Proofs.Ytmhfbpdahfepgaa.Pm
/- The references' calls as a law tells them. -/
namespace Go.Proofs.Ytmhfbpdahfepgaa.Pm
open Go.RowKit Go.Proofs.YtmhfbpdahfepgaaW.PrintWords
theorem int_of_C {w : World} {k : IntKind} {A : Option Addr} {n : Nat} {xs : List Int} (h : (Kd.int k).C w A n xs) : ReadsInt w k A n xs := Kd.reads_of_C (enc := Value.int k) (d := (0 : Int)) (h1 := fun _ => rfl) h
theorem byte_wf {n : Int} (h : (Lit.int .u8 n).wf = true) : 0 ≤ n ∧ n < 256 := by
  have : 0 ≤ n ∧ n ≤ 255 := by simpa [Lit.wf, IntKind.min, IntKind.max, IntKind.signed, IntKind.bits] using h
  omega
theorem same_law (W : World) (B B' : Nat) (A A' : Option Addr) (n n' c c' : Nat) (ps : List (Int × Int)) (h : OwnP W B (.slice A n c) ps) (h' : OwnP W B' (.slice A' n' c') ps) (hl : ps.length ≤ 1000) :
    Calls Try.prog 15 #[.slice A n c, .slice A' n' c'] W fun e w' => e = .returned (.bool true) ∧ ∃ k, w' = W.drewN k := by
  obtain ⟨e, hc, hC⟩ := own_C h
  obtain ⟨e', hc', hC'⟩ := own_C h'
  have := PPmapPlays.holtref11_Same.calls 3000 A c (ps.map sp) A' c' (ps.map sp) _ W hC (by omega) hC' (by omega) (same_f ps hl)
  rw [← e] at this
  have e2 : n = n' := e.trans e'.symm
  rw [← e2]
  exact this.mono fun _ _ ⟨h1, h2⟩ => ⟨h1, h2.out⟩
theorem minus_law (W : World) (B B' : Nat) (A A' : Option Addr) (n n' c c' : Nat) (hs rs : List Hd) (h : OwnH W B (.slice A n c) hs) (h' : OwnH W B' (.slice A' n' c') rs) (hl : hs.length ≤ 1000) (hr : rs.length ≤ 1000) :
    Calls Try.prog 25 #[.slice A n c, .slice A' n' c'] W fun e w' => ∃ pv, e = .returned pv ∧ OwnH w' W.heap.size pv (hminus hs rs) ∧ Below W.heap.size W w' := by
  obtain ⟨e, hc, hC⟩ := own_CH h
  obtain ⟨e', hc', hC'⟩ := own_CH h'
  have := PPmapPlays.holtref11_Minus.calls 3000 A c (hs.map sh) A' c' (rs.map sh) _ W hC (by omega) hC' (by omega) (minus_f hs rs hl hr)
  rw [← e, ← e'] at this
  refine this.mono fun _ _ ⟨pv, h1, h2, h3⟩ => ⟨pv, h1, ?_, h3⟩
  obtain ⟨_, inner, ho, hrr⟩ := h2
  exact ⟨inner, by rw [List.length_map] at ho; exact ho, reps_unmap sh hrr (fun p c hp => PPmapPlays.k28_openM hp)⟩
theorem sets_law (W : World) (B B' : Nat) (A A' : Option Addr) (n n' c c' : Nat) (hs rs : List Hd) (h : OwnH W B (.slice A n c) hs) (h' : OwnH W B' (.slice A' n' c') rs) (hl : hs.length ≤ 1000) (hr : rs.length ≤ 1000) (hx : hs.length = rs.length ∧ hminus hs rs = [] ∧ hminus rs hs = []) :
    Calls Try.prog 24 #[.slice A n c, .slice A' n' c'] W fun e w' => e = .returned (.bool true) ∧ Below W.heap.size W w' := by
  obtain ⟨e, hc, hC⟩ := own_CH h
  obtain ⟨e', hc', hC'⟩ := own_CH h'
  have := PPmapPlays.holtref11_Sets.calls 3000 A c (hs.map sh) A' c' (rs.map sh) _ W hC (by omega) hC' (by omega) (sets_f hs rs hl hr)
  rw [← e, ← e', show decide (hs.length = rs.length ∧ hminus hs rs = [] ∧ hminus rs hs = []) = true from decide_eq_true hx] at this
  exact this
theorem without_law (W : World) (B : Nat) (A : Option Addr) (n c : Nat) (ps : List (Int × Int)) (k : Int) (h : OwnP W B (.slice A n c) ps) (hl : ps.length ≤ 1000) :
    Calls Try.prog 22 #[.slice A n c, .int .i64 k] W fun e w' => ∃ pv, e = .returned (.tuple #[pv, .bool (decide (((ldel cmpI k ps).length : Int) < ps.length))]) ∧ OwnP w' W.heap.size pv (ldel cmpI k ps) ∧ Below W.heap.size W w' := by
  obtain ⟨e, hc, hC⟩ := own_C h
  have := PPmapPlays.holtref11_Without.calls 3000 A c (ps.map sp) k _ _ W hC (by omega) (without_f k ps hl)
  rw [← e] at this
  exact this.mono fun _ _ ⟨pv, h1, h2, h3⟩ => ⟨pv, h1, own_of_R h2, h3⟩
/-- Whether a key is there, and what is left without it. -/
theorem ldel_lt (k : Int) (ps : List (Int × Int)) : decide (((ldel cmpI k ps).length : Int) < ps.length) = (lhas cmpI k ps).isSome := by
  unfold lhas ldel
  rw [Option.isSome_map]
  induction ps with
  | nil => rfl
  | cons p l ih =>
    rw [List.filter_cons, List.find?_cons]
    by_cases h : cmpI k p.1 = 0
    · have := List.length_filter_le (fun p : Int × Int => decide (cmpI k p.1 ≠ 0)) l
      simp only [h, ne_eq, not_true_eq_false, decide_false, decide_true, Bool.false_eq_true, if_false, Option.isSome_some, decide_eq_true_eq, List.length_cons]
      simp only [ne_eq] at this
      omega
    · simp only [h, ne_eq, not_false_eq_true, decide_true, decide_false, if_true, List.length_cons]
      simp only [ne_eq] at ih
      rw [← ih]
      exact decide_eq_decide.mpr (by omega)
end Go.Proofs.Ytmhfbpdahfepgaa.Pm
