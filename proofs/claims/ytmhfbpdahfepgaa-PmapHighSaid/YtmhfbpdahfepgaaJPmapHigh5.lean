/-
  The row of the law PmapHigh, out of its walk.
-/
import Derived.Test.YtmhfbpdahfepgaaJPmapHigh4
import Derived.Deep.CutBlock
import Derived.Test.YtmhfbpdahfepgaaPPmapHighx2
import Derived.Test.YtmhfbpdahfepgaaWWords
import Derived.ProofKit
import Derived.OpenShut
import Derived.ChangeArms
import Derived.Test.YtmhfbpdahfepgaaRows
import Derived.WalkKit
import Derived.ShutString
import Derived.ChangeOld
import Derived.Below
/- holtlaw11.awake. -/
namespace Go.Proofs.Ytmhfbpdahfepgaa.Pm
open Go.RowKit Go.Proofs.YtmhfbpdahfepgaaW.PrintWords
attribute [local go_sem high] eqHd
theorem pairs_nil {t : T2} (h : (pairs t).length = 0) : t = .leaf := by
  cases t with
  | leaf => rfl
  | node h k v l r hi => simp [pairs] at h
theorem hi_1 {t : T2} (av : Avl t) (h : (pairs t).length = 1) : t.hi = 1 := by
  have h1 := avl_hi av 1 (by rw [h]; decide)
  cases t with
  | leaf => simp [pairs] at h
  | node _ _ _ _ _ hi => have := av.pos; show hi = 1; have h1' : hi ≤ 1 := h1; omega
theorem three {t : T2} (av : Avl t) {x y z : Int × Int} (h : pairs t = [x, y, z]) : ∃ hd l r, t = .node hd y.1 y.2 l r 2 := by
  cases t with
  | leaf => simp [pairs] at h
  | node hd k v l r hi =>
    have e : pairs l ++ (k, v) :: pairs r = [x, y, z] := h
    obtain ⟨e0, a1, a2, al, ar⟩ := av
    have hlen : (pairs l).length + (pairs r).length = 2 := by
      have := congrArg List.length e
      rw [List.length_append, List.length_cons] at this
      simp only [List.length_cons, List.length_nil] at this
      omega
    have hpos : ∀ {u : T2}, Avl u → (pairs u).length = 2 → 2 ≤ u.hi := by
      intro u au hu
      cases u with
      | leaf => simp [pairs] at hu
      | node h2 k2 v2 l2 r2 hi2 =>
        obtain ⟨f0, f1, f2, fl, fr⟩ := au
        have hl2 : (pairs l2 ++ (k2, v2) :: pairs r2).length = 2 := hu
        rw [List.length_append, List.length_cons] at hl2
        have m0 := mx_le l2.hi r2.hi
        have p1 := fl.nonneg
        have p2 := fr.nonneg
        have : 1 ≤ l2.hi ∨ 1 ≤ r2.hi := by
          cases l2 with
          | leaf =>
            cases r2 with
            | leaf => simp [pairs] at hl2
            | node => exact .inr fr.pos
          | node => exact .inl fl.pos
        show 2 ≤ hi2
        omega
    by_cases h0 : (pairs l).length = 0
    · have := pairs_nil h0
      subst this
      have := hpos ar (by omega)
      have a2' : r.hi - 0 ≤ 1 := a2
      omega
    · by_cases h2 : (pairs l).length = 2
      · have := pairs_nil (t := r) (by omega)
        subst this
        have := hpos al h2
        have a1' : l.hi - 0 ≤ 1 := a1
        omega
      · have c1 := hi_1 al (by omega)
        have c2 := hi_1 ar (by omega)
        obtain ⟨p, hp⟩ : ∃ p, pairs l = [p] := List.length_eq_one_iff.mp (by omega)
        rw [hp] at e
        simp only [List.cons_append, List.nil_append, List.cons.injEq] at e
        refine ⟨hd, l, r, ?_⟩
        rw [e0, c1, c2, ← e.2.1]
        rfl
theorem hdV_leaf : hdV (T.leaf : T2).h = .agg #[.int .i64 0, .int .i64 0] := rfl
def IsTrue (W : World) (e : Ending) (w' : World) : Prop := e = .returned (.bool true) ∧ Below W.heap.size W w'
set_option maxHeartbeats 8000000 in
set_option maxRecDepth 100000 in
theorem awake_calls (W : World) : Calls Try.prog 9 #[] W (IsTrue W) := by
  have HNW := Lib.hid (fun (V : World) (hb : Below W.heap.size W V) => pnew_ok W V W.heap.size 20 hb hb.size (by decide))
  simp only [cmpF] at HNW
  go_enter Try.func9, Try.ntmps9
  go_wp2_with (first
    | (go_at_call 10; go_loud (
        (with_reducible refine Calls.mono (HNW.out _ (Below.refl _ _)) ?_);
        rintro e w1 ⟨⟨m, aa, rfl, hm⟩, hb⟩;
        have HM1 := Lib.hid hm;
        have HB1 := Lib.hid hb;
        clear hm hb))
    | (fail "no arm"))
  have hP1 := mput_law W w1 W.heap.size m aa (arNew 20) .leaf 5 50 0 HM1.out (Ver.leaf _) (arNew_ok 20 (by decide)) (by decide) (by simp [pairs]) (by rw [arNew_room]; show 3 * 0 + 1 ≤ ((20 : Nat) : Int); decide)
  rw [hdV_leaf] at hP1
  have HP1 := Lib.hid hP1
  clear hP1
  (with_reducible refine Calls.mono HP1.out ?_)
  rintro e1 w2 ⟨a1, t1, md1, gn1, mv1, gv1, S1, hp1, rfl, hfs, hF⟩
  obtain ⟨Am1, cm1, rfl, _⟩ := OwnRow.slice_ hfs.hmade
  obtain ⟨Ag1, cg1, rfl, _⟩ := OwnRow.slice_ hfs.hgone
  have HS1 := Lib.hid S1
  have HPP1 := Lib.hid hp1
  have HMw1 := Lib.hid hfs.mb
  clear S1 hp1 hfs hF
  simp only [edV]
  go_wp2_with (fail "no arm")
  have HM2 := Lib.hid (HMw1.out.below (show Below w2.heap.size w2 (w2.alloc (.cells #[.int .i64 t1.h.s, .int .i64 t1.h.g, .slice Am1 md1.length cm1, .slice Ag1 gn1.length cg1] 39 (0, 0))) from (by repeat (first | exact Below.refl _ _ | apply below_drew1 | apply below_alloc | apply pw_below_drewN))))
  have HE1 := Lib.hid (blk_new w2 (.cells #[.int .i64 t1.h.s, .int .i64 t1.h.g, .slice Am1 md1.length cm1, .slice Ag1 gn1.length cg1] 39 (0, 0)))
  generalize (w2.alloc (.cells #[.int .i64 t1.h.s, .int .i64 t1.h.g, .slice Am1 md1.length cm1, .slice Ag1 gn1.length cg1] 39 (0, 0))) = V1 at *
  generalize w2.heap.size = b1 at *
  have e101 := blk_cell HE1.out 0
  have e111 := blk_cell HE1.out 1
  simp at e101 e111
  have hlen1 : (pairs t1).length = 1 := by rw [HPP1.out]; rfl
  have hi1 : t1.hi ≤ 1 := avl_hi HS1.out.ver.avl 1 (by rw [hlen1]; decide)
  have hlm1 : md1.length ≤ 1 := by have := HS1.out.len; have h0 : (T.leaf : T2).hi = 0 := rfl; omega
  have hr1 : a1.room ≥ 19 := by have := HS1.out.room; rw [arNew_room] at this; omega
  have hP2 := mput_law W V1 W.heap.size m aa a1 t1 3 30 (0 + 30) HM2.out HS1.out.ver HS1.out.ok (by decide) (by omega) (by omega)
  simp only [hdV] at hP2
  have HP2 := Lib.hid hP2
  clear hP2
  go_wp2_with (fail "no arm")
  (with_reducible refine Calls.mono HP2.out ?_)
  rintro e2 w3 ⟨a2, t2, md2, gn2, mv2, gv2, S2, hp2, rfl, hfs, hF⟩
  obtain ⟨Am2, cm2, rfl, _⟩ := OwnRow.slice_ hfs.hmade
  obtain ⟨Ag2, cg2, rfl, _⟩ := OwnRow.slice_ hfs.hgone
  have HS2 := Lib.hid S2
  have HPP2 := Lib.hid hp2
  have HMw2 := Lib.hid hfs.mb
  have HEw1 := Lib.hid (FrX.typedF hF HE1.out)
  clear S2 hp2 hfs hF
  simp only [edV]
  go_wp2_with (fail "no arm")
  have HM3 := Lib.hid (HMw2.out.below (show Below w3.heap.size w3 (w3.alloc (.cells #[.int .i64 t2.h.s, .int .i64 t2.h.g, .slice Am2 md2.length cm2, .slice Ag2 gn2.length cg2] 39 (0, 0))) from (by repeat (first | exact Below.refl _ _ | apply below_drew1 | apply below_alloc | apply pw_below_drewN))))
  have HE2 := Lib.hid (blk_new w3 (.cells #[.int .i64 t2.h.s, .int .i64 t2.h.g, .slice Am2 md2.length cm2, .slice Ag2 gn2.length cg2] 39 (0, 0)))
  have HEx1 := Lib.hid (blk_below HEw1.out (show Below w3.heap.size w3 (w3.alloc (.cells #[.int .i64 t2.h.s, .int .i64 t2.h.g, .slice Am2 md2.length cm2, .slice Ag2 gn2.length cg2] 39 (0, 0))) from (by repeat (first | exact Below.refl _ _ | apply below_drew1 | apply below_alloc | apply pw_below_drewN))))
  clear HE1 HEw1
  have HE1 := HEx1
  clear HEx1
  generalize (w3.alloc (.cells #[.int .i64 t2.h.s, .int .i64 t2.h.g, .slice Am2 md2.length cm2, .slice Ag2 gn2.length cg2] 39 (0, 0))) = V2 at *
  generalize w3.heap.size = b2 at *
  have e102 := blk_cell HE1.out 0
  have e112 := blk_cell HE1.out 1
  have e202 := blk_cell HE2.out 0
  have e212 := blk_cell HE2.out 1
  simp at e102 e112 e202 e212
  have hlen2 : (pairs t2).length = 2 := by rw [HPP2.out, HPP1.out]; rfl
  have hi2 : t2.hi ≤ 2 := avl_hi HS2.out.ver.avl 2 (by rw [hlen2]; decide)
  have hlm2 : md2.length ≤ 4 := by have := HS2.out.len; omega
  have hr2 : a2.room ≥ 15 := by have := HS2.out.room; omega
  have hP3 := mput_law W V2 W.heap.size m aa a2 t2 1 10 (0 + 30 + 30) HM3.out HS2.out.ver HS2.out.ok (by decide) (by omega) (by omega)
  simp only [hdV] at hP3
  have HP3 := Lib.hid hP3
  clear hP3
  clear e101 e111
  go_wp2_with (fail "no arm")
  (with_reducible refine Calls.mono HP3.out ?_)
  rintro e3 w4 ⟨a3, t3, md3, gn3, mv3, gv3, S3, hp3, rfl, hfs, hF⟩
  obtain ⟨Am3, cm3, rfl, _⟩ := OwnRow.slice_ hfs.hmade
  obtain ⟨Ag3, cg3, rfl, _⟩ := OwnRow.slice_ hfs.hgone
  have HS3 := Lib.hid S3
  have HPP3 := Lib.hid hp3
  have HMw3 := Lib.hid hfs.mb
  have HEw1 := Lib.hid (FrX.typedF hF HE1.out)
  clear S3 hp3 hfs hF
  simp only [edV]
  go_wp2_with (fail "no arm")
  have HM4 := Lib.hid (HMw3.out.below (show Below w4.heap.size w4 (w4.alloc (.cells #[.int .i64 t3.h.s, .int .i64 t3.h.g, .slice Am3 md3.length cm3, .slice Ag3 gn3.length cg3] 39 (0, 0))) from (by repeat (first | exact Below.refl _ _ | apply below_drew1 | apply below_alloc | apply pw_below_drewN))))
  have HE3 := Lib.hid (blk_new w4 (.cells #[.int .i64 t3.h.s, .int .i64 t3.h.g, .slice Am3 md3.length cm3, .slice Ag3 gn3.length cg3] 39 (0, 0)))
  have HEx1 := Lib.hid (blk_below HEw1.out (show Below w4.heap.size w4 (w4.alloc (.cells #[.int .i64 t3.h.s, .int .i64 t3.h.g, .slice Am3 md3.length cm3, .slice Ag3 gn3.length cg3] 39 (0, 0))) from (by repeat (first | exact Below.refl _ _ | apply below_drew1 | apply below_alloc | apply pw_below_drewN))))
  clear HE1 HEw1
  have HE1 := HEx1
  clear HEx1
  generalize (w4.alloc (.cells #[.int .i64 t3.h.s, .int .i64 t3.h.g, .slice Am3 md3.length cm3, .slice Ag3 gn3.length cg3] 39 (0, 0))) = V3 at *
  generalize w4.heap.size = b3 at *
  have e103 := blk_cell HE1.out 0
  have e113 := blk_cell HE1.out 1
  have e303 := blk_cell HE3.out 0
  have e313 := blk_cell HE3.out 1
  simp at e103 e113 e303 e313
  clear e102 e112 e202 e212
  have hp3 : pairs t3 = [(1, 10), (3, 30), (5, 50)] := by rw [HPP3.out, HPP2.out, HPP1.out]; rfl
  obtain ⟨hd3, l3, r3, he3⟩ := three HS3.out.ver.avl hp3
  have hls := HS3.out.ver.lies
  rw [he3] at hls
  have hh3 : t3.h = hd3 := by rw [he3]; rfl
  have HP33 := Lib.hid hp3
  clear hp3 hi2 hlen2 hlm2 hr2 hr1 hlm1 hi1 hlen1
  have hV1 : Ver a3 t1 := HS1.out.ver.keep (fun h n hg => HS3.out.keep h n (HS2.out.keep h n hg))
  have HLD := Lib.hid (show Calls Try.prog 18 #[.pointer (some ⟨m, 0, none⟩), .agg #[.int .i64 t3.h.s, .int .i64 t3.h.g]] V3 fun e w' => e = .returned (.tuple #[.agg #[.int .i64 3, .int .i64 30, .int .i64 l3.h.s, .int .i64 l3.h.g, .int .i64 r3.h.s, .int .i64 r3.h.g, .int .i64 2], .bool true]) ∧ Below V3.heap.size V3 w' by obtain ⟨sv, fv, h'⟩ := HM4.out.mapAt; have := load_calls V3 m aa _ sv fv a3 t3.h h'; rw [hh3, hls.2.1] at this; rw [hh3]; exact this)
  have HG5 := Lib.hid (fun (V : World) (hb : Below V3.heap.size V3 V) => show Calls Try.prog 26 #[.pointer (some ⟨m, 0, none⟩), .agg #[.int .i64 t1.h.s, .int .i64 t1.h.g], .int .i64 5] V fun e w' => e = .returned (.tuple #[.int .i64 50, .bool true]) ∧ Below V.heap.size V w' by have := mget_law W V W.heap.size m aa a3 t1 5 (HM4.out.below hb) hV1; rw [HPP1.out] at this; exact this)
  have HG3 := Lib.hid (fun (V : World) (hb : Below V3.heap.size V3 V) => show Calls Try.prog 26 #[.pointer (some ⟨m, 0, none⟩), .agg #[.int .i64 t1.h.s, .int .i64 t1.h.g], .int .i64 3] V fun e w' => e = .returned (.tuple #[.int .i64 0, .bool false]) ∧ Below V.heap.size V w' by have := mget_law W V W.heap.size m aa a3 t1 3 (HM4.out.below hb) hV1; rw [HPP1.out] at this; exact this)
  have HBL := Lib.hid HM4.out.bel
  have hlt1 := blk_lt HE1.out
  clear hV1 he3 hls hh3
  go_wp2_with (first
    | (go_at_call 18; go_loud (
        (with_reducible refine Calls.mono HLD.out ?_);
        rintro e4 w5 ⟨rfl, hb⟩;
        have HB5 := Lib.hid hb;
        have hz5 := hb.size;
        have hlt5 := Nat.lt_of_lt_of_le hlt1 hb.size;
        have f10 := (hb.cell (p := ⟨b1, 0, none⟩) hlt1).trans e103;
        have f11 := (hb.cell (p := ⟨b1, 1, none⟩) hlt1).trans e113;
        clear hb))
    | (go_at_call 26; go_loud (
        (with_reducible refine Calls.mono (HG5.out _ (below_alloc HB5.out _)) ?_);
        rintro e5 w6 ⟨rfl, hb⟩;
        have HB6 := Lib.hid ((below_alloc HB5.out _).trans (hb.mono (by simp [World.size_alloc]; omega)));
        have hz6 := hb.size;
        have hlt6 := Nat.lt_of_lt_of_le hlt1 HB6.out.size;
        have g10 := (HB6.out.cell (p := ⟨b1, 0, none⟩) hlt1).trans e103;
        have g11 := (HB6.out.cell (p := ⟨b1, 1, none⟩) hlt1).trans e113;
        have HNB := Lib.hid (blk_below (blk_new w5 (.cells #[.int .i64 3, .int .i64 30, .int .i64 l3.h.s, .int .i64 l3.h.g, .int .i64 r3.h.s, .int .i64 r3.h.g, .int .i64 2] 44 (0, 0))) hb);
        clear hb))
    | (go_at_call 26; go_loud (
        (with_reducible refine Calls.mono (HG3.out _ HB6.out) ?_);
        rintro e6 w7 ⟨rfl, hb⟩;
        have HB7 := Lib.hid (HB6.out.trans (hb.mono HB6.out.size));
        have HNC := Lib.hid (blk_below HNB.out hb);
        have n0 := blk_cell HNC.out 0; have n4 := blk_cell HNC.out 6;
        simp at n0 n4;
        clear hb))
    | (fail "no arm"))
  go_ret
  exact ⟨rfl, HBL.out.trans (HB7.out.mono HBL.out.size)⟩
end Go.Proofs.Ytmhfbpdahfepgaa.Pm
/- holtlaw11.made. -/
namespace Go.Proofs.Ytmhfbpdahfepgaa.Pm
open Go.RowKit Go.Proofs.YtmhfbpdahfepgaaW.PrintWords
attribute [local go_sem high] eqHd
theorem cell_lt {w : World} {a : Addr} {v : Value} (h : w.cell? a = some v) : a.block < w.heap.size := by
  unfold World.cell? at h
  by_cases hlt : a.block < w.heap.size
  · exact hlt
  · rw [Array.getElem?_eq_none (by omega)] at h; cases h
/-- A byte lies in no block of whole numbers. -/
theorem byte_ne {w : World} {b : Nat} {cs : Array Value} {t : TypeId} {p : Addr} {x : Int} (hb : w.heap[b]? = some (.cells cs t (0, 0))) (hcs : ∀ u ∈ cs.toList, ∀ y, u ≠ .int .u8 y) (h : w.cell? p = some (.int .u8 x)) : p.block ≠ b := by
  intro e
  unfold World.cell? at h
  rw [e, hb] at h
  simp only at h
  split at h
  · cases h
  · obtain ⟨hi, he⟩ := Array.getElem?_eq_some_iff.mp h
    exact hcs _ (Array.mem_toList_iff.mpr (Array.getElem_mem hi)) x he
def madeP (l : List Int) : Nat → List (Int × Int)
  | 0 => []
  | n + 1 => lput cmpI (rd l n) n (madeP l n)
theorem lput_len (k v : Int) : ∀ l : List (Int × Int), (lput cmpI k v l).length ≤ l.length + 1
  | [] => by simp [lput]
  | p :: l => by
    have := lput_len k v l
    rw [lput]
    split
    · simp
    · split
      · simp; exact this
      · simp
theorem madeP_len (l : List Int) : ∀ n, (madeP l n).length ≤ n
  | 0 => Nat.le_refl _
  | n + 1 => by have := madeP_len l n; have h := lput_len (rd l n) n (madeP l n); rw [madeP]; omega
theorem rd_byte {l : List Int} (h : ∀ x ∈ l, 0 ≤ x ∧ x < 256) (i : Nat) (hi : i < l.length) : 0 ≤ rd l i ∧ rd l i < 256 := by
  have e : rd l i = l[i] := by unfold rd; rw [Int.toNat_natCast, List.getD_eq_getElem?_getD, List.getElem?_eq_getElem hi]; rfl
  rw [e]
  exact h _ (List.getElem_mem hi)
theorem reads_map {α β : Type} {R : α → List Value → Prop} {R' : β → List Value → Prop} {size : Nat} {W : World} {A : Option Addr} {n : Nat} {ps : List α} (f : α → β) (h : ReadsRow R size W A n ps) (hR : ∀ p c, R p c → R' (f p) c) : ReadsRow R' size W A n (ps.map f) := by
  refine ⟨by rw [List.length_map]; exact h.1, h.2.1, fun h0 => ?_⟩
  obtain ⟨ad, e, hc⟩ := h.2.2 h0
  refine ⟨ad, e, fun j p hj => ?_⟩
  rw [List.getElem?_map] at hj
  obtain ⟨q, hq, rfl⟩ := Option.map_eq_some_iff.mp hj
  obtain ⟨c, hl, hr, hcell⟩ := hc j q hq
  exact ⟨c, hl, hR _ _ hr, hcell⟩
/-- A row of pairs reads as the reference's. -/
theorem own_C {W : World} {B : Nat} {A : Option Addr} {n c : Nat} {ps : List (Int × Int)} (h : OwnP W B (.slice A n c) ps) : n = (ps.map sp).length ∧ n ≤ c ∧ Kd.C PPmapPlays.k64 W A (ps.map sp).length (ps.map sp) := by
  obtain ⟨A', c', e, hc, hr⟩ := OwnRow.reads h
  injection e with e1 e2 e3
  subst e1 e2 e3
  rw [List.length_map]
  exact ⟨rfl, hc, reads_map sp hr (fun p c hp => by subst hp; exact PPmapPlays.k64_mk W (sp p))⟩
theorem own_CH {W : World} {B : Nat} {A : Option Addr} {n c : Nat} {hs : List Hd} (h : OwnH W B (.slice A n c) hs) : n = (hs.map sh).length ∧ n ≤ c ∧ Kd.C PPmapPlays.k28 W A (hs.map sh).length (hs.map sh) := by
  obtain ⟨A', c', e, hc, hr⟩ := OwnRow.reads h
  injection e with e1 e2 e3
  subst e1 e2 e3
  rw [List.length_map]
  exact ⟨rfl, hc, reads_map sh hr (fun p c hp => by subst hp; exact PPmapPlays.k28_mk W (sh p))⟩
theorem reps_unmap {α β : Type} {R : α → List Value → Prop} {R' : β → List Value → Prop} {size : Nat} {ps : List α} {inner : List Value} (f : α → β) (h : Reps R' size (ps.map f) inner) (hR : ∀ p c, R' (f p) c → R p c) : Reps R size ps inner := by
  refine ⟨by rw [h.1, List.length_map], fun j p hj => hR _ _ (h.2 j (f p) (by rw [List.getElem?_map, hj]; rfl))⟩
theorem own_of_R {W : World} {B : Nat} {ok : Nat → Prop} {v : Value} {ps : List (Int × Int)} (h : Kd.R PPmapPlays.k64 64 W B ok v (ps.map sp)) : OwnP W B v ps := by
  obtain ⟨_, inner, ho, hr⟩ := h
  refine ⟨inner, by rw [List.length_map] at ho; exact ho, reps_unmap sp hr (fun p c hp => PPmapPlays.k64_openM hp)⟩
theorem with_law (W : World) (B : Nat) (A : Option Addr) (n c : Nat) (ps : List (Int × Int)) (k v : Int) (h : OwnP W B (.slice A n c) ps) (hs : Sorted cmpI ps) (hl : ps.length ≤ 1000) :
    Calls Try.prog 21 #[.slice A n c, .int .i64 k, .int .i64 v] W fun e w' => ∃ pv, e = .returned pv ∧ OwnP w' W.heap.size pv (lput cmpI k v ps) ∧ Below W.heap.size W w' := by
  obtain ⟨e, hc, hC⟩ := own_C h
  have := PPmapPlays.holtref11_With.calls 3000 A c (ps.map sp) k v _ W hC (by omega) (with_f k v ps hs hl)
  rw [← e] at this
  exact this.mono fun _ _ ⟨pv, h1, h2, h3⟩ => ⟨pv, h1, own_of_R h2, h3⟩
/-- A version was made, what is handed out lies in block eb. -/
def CutE (w0 wr wx : World) (B m aa G : Nat) (a : Ar N2) (t : T2) (ps : List (Int × Int)) (eb : Nat) : Prop :=
  ∃ a2 t2 made gone mv gv, Step G a t a2 t2 made gone ∧ pairs t2 = ps ∧ wx.heap[eb]? = some (.cells #[.int .i64 t2.h.s, .int .i64 t2.h.g, mv, gv] 39 (0, 0)) ∧ FS w0 wx B m aa gv mv a2 made gone ∧ Fr wr wx ∧ wr.heap.size ≤ eb
theorem cutE_alloc {w0 wr w3 : World} {B m aa G : Nat} {a a2 : Ar N2} {t t2 : T2} {ps : List (Int × Int)} {made gone : List Hd} {mv gv : Value} (S : Step G a t a2 t2 made gone) (hp : pairs t2 = ps) (hfs : FS w0 w3 B m aa gv mv a2 made gone) (hF : Fr wr w3) :
    CutE w0 wr (w3.alloc (.cells #[.int .i64 t2.h.s, .int .i64 t2.h.g, mv, gv] 39 (0, 0))) B m aa G a t ps w3.heap.size :=
  ⟨a2, t2, made, gone, mv, gv, S, hp, blk_new _ _, hfs.below (below_alloc (Below.refl _ _) _), hF.trans (Fr.below (below_alloc (Below.refl _ _) _)), hF.size⟩
theorem cutE_store {w0 wr w3 : World} {B m aa G n : Nat} {a a2 : Ar N2} {t t2 : T2} {ps : List (Int × Int)} {made gone : List Hd} {mv gv : Value} (S : Step G a t a2 t2 made gone) (hp : pairs t2 = ps) (hfs : FS w0 w3 B m aa gv mv a2 made gone) (hF : Fr wr w3) (hn : w3.heap[n]? = some (Obj.cells #[.int .i64 0, .int .i64 0, .slice none 0 0, .slice none 0 0] 39 (0, 0))) (hB : B ≤ n) (hr : wr.heap.size ≤ n) :
    CutE w0 wr ((((w3.setCell ⟨n, 0, none⟩ (.int .i64 t2.h.s)).setCell ⟨n, 1, none⟩ (.int .i64 t2.h.g)).setCell ⟨n, 2, none⟩ mv).setCell ⟨n, 3, none⟩ gv) B m aa G a t ps n := by
  obtain ⟨h1, h2, h3⟩ := hfs.box (root := t2.h) hn hB hF hr
  exact ⟨a2, t2, made, gone, mv, gv, S, hp, h1, h2, h3, hr⟩
theorem EditOut.open {w0 W w' : World} {B m aa G : Nat} {a : Ar N2} {t : T2} {ps : List (Int × Int)} {e : Ending} (h : EditOut w0 W B m aa G a t ps e w') :
    ∃ a' t' made gone Am cm Ag cg lm lg, Step G a t a' t' made gone ∧ pairs t' = ps ∧ e = .returned (.tuple #[.agg #[.int .i64 t'.h.s, .int .i64 t'.h.g, .slice Am lm cm, .slice Ag lg cg], .bool true]) ∧ FS w0 w' B m aa (.slice Ag lg cg) (.slice Am lm cm) a' made gone ∧ Fr W w' := by
  obtain ⟨a', t', made, gone, mv, gv, S, hp, he, hfs, hF⟩ := h
  obtain ⟨Am, cm, rfl, _⟩ := OwnRow.slice_ hfs.hmade
  obtain ⟨Ag, cg, rfl, _⟩ := OwnRow.slice_ hfs.hgone
  exact ⟨a', t', made, gone, Am, cm, Ag, cg, _, _, S, hp, he, hfs, hF⟩
theorem OwnP.fr {W W' : World} {B : Nat} {v : Value} {l : List (Int × Int)} (h : OwnP W B v l) (hF : Fr W W') : OwnP W' B v l := by
  obtain ⟨inner, ho, hr⟩ := h
  exact ⟨inner, own_fr ho hF (by decide) (by decide) (by decide), hr⟩
theorem MapB.setH {w0 W : World} {B m aa n : Nat} {a : Ar N2} {cs : Array Value} (h : MapB w0 W B m aa a) (hb : W.heap[n]? = some (.cells cs 28 (0, 0))) (hB : B ≤ n) (j : Nat) (u : Value) : MapB w0 (W.setCell ⟨n, j, none⟩ u) B m aa a :=
  ⟨by obtain ⟨sv, fv, h⟩ := h.at_; exact ⟨sv, fv, h.set hb (by decide) (by decide) (by decide) hB j u⟩, blk_far h.hm (typed_ne h.hm hb (by decide)) u, h.bm⟩
def MadeOut (w0 W : World) (B m aa : Nat) (l : List Int) (a : Ar N2) (e : Ending) (w' : World) : Prop :=
  ∃ (a' : Ar N2) (t : T2) (pv : Value), e = .returned (.tuple #[hdV t.h, pv, .bool true]) ∧ Ver a' t ∧ pairs t = madeP l l.length ∧ OwnP w' W.heap.size pv (pairs t) ∧ MapB w0 w' B m aa a' ∧ ArOk (30 * l.length) a' ∧ a.room - 25 * (l.length : Int) ≤ a'.room ∧ a'.most = a.most ∧ Fr W w'
set_option maxHeartbeats 8000000 in
theorem made_calls (w0 W : World) (B m aa : Nat) (A : Option Addr) (c : Nat) (l : List Int) (a : Ar N2) (HM : MapB w0 W B m aa a) (ok : ArOk 0 a) (hl : l.length ≤ 60) (hr : 25 * (l.length : Int) ≤ a.room) (hb : ∀ x ∈ l, 0 ≤ x ∧ x < 256) (hc : l.length ≤ c)
    (hrd : ∀ V, Fr W V → Below B w0 V → ReadsInt V .u8 A l.length l) :
    Calls Try.prog 12 #[.pointer (some ⟨m, 0, none⟩), .slice A l.length c] W (MadeOut w0 W B m aa l a) := by
  have HM0 := Lib.hid HM
  have HOK := Lib.hid ok
  have HRD := Lib.hid hrd
  have HBY := Lib.hid hb
  have HRM := Lib.hid hr
  have hsz := HM.sz
  clear HM ok hrd hb hr
  go_enter Try.func12, Try.ntmps12
  go_wp2
  go_loopw [8, 9] (fun v8 v9 W' => ∃ (i : Nat) (a' : Ar N2) (t : T2) (A8 : Option Addr) (n8 c8 : Nat), v9 = .int .i64 i ∧ v8 = .slice A8 n8 c8 ∧ i ≤ l.length ∧ Hid (Ver a' t) ∧ Hid (pairs t = madeP l i) ∧ Hid (OwnP W' W.heap.size (.slice A8 n8 c8) (pairs t)) ∧ Hid (MapB w0 W' B m aa a') ∧ Hid (ArOk (30 * i) a') ∧ Hid (a.room - 25 * (i : Int) ≤ a'.room) ∧ Hid (a'.most = a.most) ∧ Hid (W'.heap[W.heap.size]? = some (.cells #[.int .i64 0, .int .i64 0] 28 (0, 0))) ∧ Hid (W'.heap[W.heap.size + 1]? = some (.cells #[.int .i64 t.h.s, .int .i64 t.h.g] 28 (0, 0))) ∧ Hid (Fr W W')) (fun _ v9 _ => l.length - (RowKit.intOf v9).toNat)
  case atStart =>
    refine ⟨0, a, .leaf, none, 0, 0, rfl, rfl, Nat.zero_le _, Lib.hid (Ver.leaf _), Lib.hid rfl, Lib.hid (OwnRow.none_ _ _ _ _ _), Lib.hid (HM0.out.below (by repeat (first | exact Below.refl _ _ | apply below_drew1 | apply below_alloc | apply pw_below_drewN))), HOK, Lib.hid (by omega), Lib.hid rfl, Lib.hid (blk_below (blk_new W _) (by repeat (first | exact Below.refl _ _ | apply below_drew1 | apply below_alloc | apply pw_below_drewN))), Lib.hid (alloc_at (by simp [World.size_alloc])), Lib.hid (Fr.below (by repeat (first | exact Below.refl _ _ | apply below_drew1 | apply below_alloc | apply pw_below_drewN)))⟩
  case round =>
    obtain ⟨i, a', t, A8, n8, c8, rfl, rfl, hi, HV, HP, HO, HMB, HAK, HRO, HMO, HB0, HB1, HF⟩ := hrel
    by_cases hlt : i < l.length
    · have hpl := madeP_len l i
      have hplen : (pairs t).length ≤ 60 := by rw [HP.out]; omega
      have h8 := hi_60 HV.out.avl hplen
      have hroom : 3 * t.hi + 1 ≤ a'.room := by have := HRM.out; have := HRO.out; omega
      obtain ⟨ad, rfl, hcell⟩ := (HRD.out wr HF.out HMB.out.bel).at_ i (by omega) (by omega)
      rw [Int.toNat_natCast] at hcell
      have hadl := cell_lt hcell
      have hby := rd_byte HBY.out i hlt
      have hx0 := hby.1
      have hx1 := hby.2
      have HPU := Lib.hid (fun (V : World) (hb : Below wr.heap.size wr V) => mput_law w0 V B m aa a' t (rd l i) i (30 * i) (HMB.out.below hb) HV.out HAK.out (by omega) hplen hroom)
      simp only [hdV] at HPU
      have k0 := blk_cell HB1.out 0
      have k1 := blk_cell HB1.out 1
      simp at k0 k1
      have hlt1 := blk_lt HB1.out
      have hBW := HMB.out.sz
      have HB := Lib.hid (Below.refl wr.heap.size wr)
      have HMD := Lib.hid (show madeP l (i + 1) = lput cmpI (rd l i) (i : Int) (madeP l i) from rfl)
      clear hby hroom hplen h8 hpl
      generalize hxe : rd l i = x at *
      have HXE := Lib.hid hxe
      clear hxe
      have hwx : IntKind.i64.wrap x = x := by rw [IntKind.wrap_i64]; omega
      have hwi : IntKind.i64.wrap ((i : Int) + 1) = ((i + 1 : Nat) : Int) := by rw [IntKind.wrap_i64]; omega
      go_wp2
      go_cut [10, 11] from 19 to 31 (fun v10 v11 wx => ∃ eb : Nat, v10 = .pointer (some ⟨eb, 0, none⟩) ∧ v11 = .bool true ∧ Hid (CutE w0 wr wx B m aa (30 * i) a' t (lput cmpI x i (pairs t)) eb))
      case first =>
        go_region_with (first
          | (go_at_call 16; go_loud (
              (with_reducible refine Calls.mono (HPU.out _ (by repeat (first | (with_reducible exact HB.out) | apply below_alloc | apply pw_below_drewN | apply below_drew1 | exact HB.out))) ?_);
              rintro e w3 heo;
              obtain ⟨a2, t2, md, gn, Am, cm, Ag, cg, lm, lg, S, hp, rfl, hfs, hF⟩ := heo.open;
              have HS3 := Lib.hid S; have HP3 := Lib.hid hp; have HFS3 := Lib.hid hfs; have HF3 := Lib.hid (Fr.trans (Fr.below (W := wr) (by repeat (first | (with_reducible exact HB.out) | apply below_alloc | apply pw_below_drewN | apply below_drew1 | exact HB.out))) hF);
              (try (have GE := Lib.hid (FrX.typedF hF (k := wr.heap.size) (cs := #[.int .i64 0, .int .i64 0, .slice none 0 0, .slice none 0 0]) (t := 39) (by first | exact blk_new _ _ | exact blk_drew (blk_new _ _))); have p0 := blk_cell GE.out 0; have p1 := blk_cell GE.out 1; have p2 := blk_cell GE.out 2; have p3 := blk_cell GE.out 3; have z0 := blk_frozen GE.out 0; have z1 := blk_frozen GE.out 1; have z2 := blk_frozen GE.out 2; have z3 := blk_frozen GE.out 3; simp at p0 p1 p2 p3));
              clear S hp hfs hF heo))
          | (fail "no arm"))
        all_goals
          go_wp2
          go_meet
          refine ⟨_, rfl, rfl, ?_⟩
          first
            | with_reducible exact Lib.hid (cutE_alloc HS3.out HP3.out HFS3.out HF3.out)
            | with_reducible exact Lib.hid (cutE_store HS3.out HP3.out HFS3.out HF3.out GE.out hBW (Nat.le_refl _))
      case rest =>
        obtain ⟨eb, rfl, rfl, HCE⟩ := hcut
        obtain ⟨a2, t2, md, gn, mv, gv, S, hp, heb, hfs, hF, hge⟩ := HCE.out
        have HS2 := Lib.hid S
        have HP2 := Lib.hid hp
        have HM2 := Lib.hid hfs.mb
        have HF2 := Lib.hid (HF.out.trans hF)
        have HR2 := Lib.hid (FrX.typedF hF HB1.out)
        have HR3 := Lib.hid (FrX.typedF hF HB0.out)
        have HO2 := Lib.hid (HO.out.fr hF)
        have e0 := blk_cell heb 0
        have e1 := blk_cell heb 1
        have z0 := blk_frozen HR2.out 0
        have z1 := blk_frozen HR2.out 1
        have r0 := blk_cell HR2.out 0
        have r1 := blk_cell HR2.out 1
        simp at e0 e1 r0 r1
        have hlte := blk_lt heb
        have hltr := blk_lt HR2.out
        have hne1 : eb ≠ W.heap.size + 1 := by omega
        obtain ⟨ad2, e, hcell2⟩ := (HRD.out wc HF2.out HM2.out.bel).at_ i (by omega) (by omega)
        cases e
        rw [Int.toNat_natCast] at hcell2
        have HR4 := Lib.hid (blk_put (blk_put HR2.out 0 (.int .i64 t2.h.s) rfl) 1 (.int .i64 t2.h.g) rfl)
        have HR5 := Lib.hid (blk_far (blk_far HR3.out (show W.heap.size ≠ (Addr.mk (W.heap.size + 1) 0 none).block from Nat.ne_of_lt (Nat.lt_succ_self _)) (.int .i64 t2.h.s)) (show W.heap.size ≠ (Addr.mk (W.heap.size + 1) 1 none).block from Nat.ne_of_lt (Nat.lt_succ_self _)) (.int .i64 t2.h.g))
        have HM4 := Lib.hid ((HM2.out.setH HR2.out (Nat.le_succ_of_le hsz) 0 (.int .i64 t2.h.s)).setH (blk_put HR2.out 0 (.int .i64 t2.h.s) rfl) (Nat.le_succ_of_le hsz) 1 (.int .i64 t2.h.g))
        have HF4 := Lib.hid (Fr.new (Fr.new HF2.out (Nat.le_succ W.heap.size) 0 (.int .i64 t2.h.s)) (Nat.le_succ W.heap.size) 1 (.int .i64 t2.h.g))
        have HO4 := Lib.hid (OwnRow.set_ (OwnRow.set_ HO2.out HR2.out (by decide) 0 (.int .i64 t2.h.s)) (blk_put HR2.out 0 (.int .i64 t2.h.s) rfl) (by decide) 1 (.int .i64 t2.h.g))
        have HWI := Lib.hid (with_law _ W.heap.size A8 n8 c8 (pairs t) x i HO4.out HV.out.sorted (by have := madeP_len l i; rw [HP.out]; omega))
        have HPL := Lib.hid (show (pairs t2).length ≤ 60 by have := lput_len x i (pairs t); have h2 := madeP_len l i; rw [← HP.out] at h2; rw [HP2.out]; omega)
        clear HCE S hp heb hfs hF HB k0 k1 hcell
        clear hcell2
        go_upto_region 10 with (fail "no arm")
        obtain ⟨ad2, e, hcell2⟩ := (HRD.out _ HF4.out HM4.out.bel).at_ i (by omega) (by omega)
        cases e
        rw [Int.toNat_natCast, HXE.out] at hcell2
        generalize ((wc.setCell ⟨W.heap.size + 1, 0, none⟩ (.int .i64 t2.h.s)).setCell ⟨W.heap.size + 1, 1, none⟩ (.int .i64 t2.h.g)) = V at *
        go_wp2_with (first
          | (go_at_call 21; go_loud ((with_reducible refine Calls.mono HWI.out ?_); rintro e w5 ⟨pv, rfl, hop, hb⟩; obtain ⟨A9, c9, rfl, _⟩ := OwnRow.slice_ hop; have HB5 := Lib.hid hb; have HO5 := Lib.hid hop; clear hop hb))
          | (fail "no arm"))
        go_roundw
        case rel =>
          refine ⟨i + 1, a2, t2, A9, _, c9, by go_num, rfl, by omega, Lib.hid HS2.out.ver, Lib.hid (by rw [HP2.out, HMD.out, HP.out]), Lib.hid (by rw [HP2.out]; exact row_low HO5.out (by have := HM4.out.sz; have := HF4.out.size; exact this)), Lib.hid (HM4.out.below HB5.out), Lib.hid (HS2.out.ok.more (by omega)), Lib.hid ?_, Lib.hid (HS2.out.most.trans HMO.out), Lib.hid (blk_below HR5.out HB5.out), Lib.hid (blk_below HR4.out HB5.out), Lib.hid (HF4.out.trans (Fr.below HB5.out))⟩
          have h1 := HS2.out.room
          have h2 := HS2.out.len
          have h3 := hi_60 HV.out.avl (by have := madeP_len l i; rw [HP.out]; omega)
          have h4 := HRO.out
          omega
        case measure => simp [RowKit.intOf] <;> omega
    · obtain rfl : i = l.length := by omega
      have k0 := blk_cell HB1.out 0
      have k1 := blk_cell HB1.out 1
      have r0 := blk_cell HB0.out 0
      have r1 := blk_cell HB0.out 1
      have z0 := blk_frozen HB0.out 0
      have z1 := blk_frozen HB0.out 1
      simp at k0 k1 r0 r1
      have hlt1 := blk_lt HB1.out
      have hBW := HMB.out.sz
      go_wp2
      have HR4 := Lib.hid (blk_put (blk_put HB0.out 0 (.int .i64 t.h.s) rfl) 1 (.int .i64 t.h.g) rfl)
      have HM4 := Lib.hid ((HMB.out.setH HB0.out hsz 0 (.int .i64 t.h.s)).setH (blk_put HB0.out 0 (.int .i64 t.h.s) rfl) hsz 1 (.int .i64 t.h.g))
      have HF4 := Lib.hid (Fr.new (Fr.new HF.out (Nat.le_refl W.heap.size) 0 (.int .i64 t.h.s)) (Nat.le_refl W.heap.size) 1 (.int .i64 t.h.g))
      have HO4 := Lib.hid (OwnRow.set_ (OwnRow.set_ HO.out HB0.out (by decide) 0 (.int .i64 t.h.s)) (blk_put HB0.out 0 (.int .i64 t.h.s) rfl) (by decide) 1 (.int .i64 t.h.g))
      generalize ((wr.setCell ⟨W.heap.size, 0, none⟩ (.int .i64 t.h.s)).setCell ⟨W.heap.size, 1, none⟩ (.int .i64 t.h.g)) = V at *
      have q0 := blk_cell HR4.out 0
      have q1 := blk_cell HR4.out 1
      simp at q0 q1
      refine bodyPost_ret (v := .tuple #[hdV t.h, .slice A8 n8 c8, .bool true]) (by simp [results, Try.results12, hdV, go_sem, q0, q1]; try rfl) rfl ?_
      exact ⟨a', t, _, rfl, HV.out, HP.out, HO4.out, HM4.out, HAK.out, HRO.out, HMO.out, HF4.out⟩
end Go.Proofs.Ytmhfbpdahfepgaa.Pm
/- The references' calls as a law tells them. -/
namespace Go.Proofs.Ytmhfbpdahfepgaa.Pm
open Go.RowKit Go.Proofs.YtmhfbpdahfepgaaW.PrintWords
theorem int_of_C {w : World} {k : IntKind} {A : Option Addr} {n : Nat} {xs : List Int} (h : (Kd.int k).C w A n xs) : ReadsInt w k A n xs := Kd.reads_of_C (enc := Value.int k) (d := (0 : Int)) (h1 := fun _ => rfl) h
theorem byte_wf {n : Int} (h : (Lit.int .u8 n).wf = true) : 0 ≤ n ∧ n < 256 := by
  have : 0 ≤ n ∧ n ≤ 255 := by simpa [Lit.wf, IntKind.min, IntKind.max, IntKind.signed, IntKind.bits] using h
  omega
theorem same_law (W : World) (B B' : Nat) (A A' : Option Addr) (n n' c c' : Nat) (ps : List (Int × Int)) (h : OwnP W B (.slice A n c) ps) (h' : OwnP W B' (.slice A' n' c') ps) (hl : ps.length ≤ 1000) :
    Calls Try.prog 15 #[.slice A n c, .slice A' n' c'] W fun e w' => e = .returned (.bool true) ∧ ∃ k, w' = W.drewN k := by
  obtain ⟨e, hc, hC⟩ := own_C h
  obtain ⟨e', hc', hC'⟩ := own_C h'
  have := PPmapPlays.holtref11_Same.calls 3000 A c (ps.map sp) A' c' (ps.map sp) _ W hC (by omega) hC' (by omega) (same_f ps hl)
  rw [← e] at this
  have e2 : n = n' := e.trans e'.symm
  rw [← e2]
  exact this.mono fun _ _ ⟨h1, h2⟩ => ⟨h1, h2.out⟩
theorem minus_law (W : World) (B B' : Nat) (A A' : Option Addr) (n n' c c' : Nat) (hs rs : List Hd) (h : OwnH W B (.slice A n c) hs) (h' : OwnH W B' (.slice A' n' c') rs) (hl : hs.length ≤ 1000) (hr : rs.length ≤ 1000) :
    Calls Try.prog 25 #[.slice A n c, .slice A' n' c'] W fun e w' => ∃ pv, e = .returned pv ∧ OwnH w' W.heap.size pv (hminus hs rs) ∧ Below W.heap.size W w' := by
  obtain ⟨e, hc, hC⟩ := own_CH h
  obtain ⟨e', hc', hC'⟩ := own_CH h'
  have := PPmapPlays.holtref11_Minus.calls 3000 A c (hs.map sh) A' c' (rs.map sh) _ W hC (by omega) hC' (by omega) (minus_f hs rs hl hr)
  rw [← e, ← e'] at this
  refine this.mono fun _ _ ⟨pv, h1, h2, h3⟩ => ⟨pv, h1, ?_, h3⟩
  obtain ⟨_, inner, ho, hrr⟩ := h2
  exact ⟨inner, by rw [List.length_map] at ho; exact ho, reps_unmap sh hrr (fun p c hp => PPmapPlays.k28_openM hp)⟩
theorem sets_law (W : World) (B B' : Nat) (A A' : Option Addr) (n n' c c' : Nat) (hs rs : List Hd) (h : OwnH W B (.slice A n c) hs) (h' : OwnH W B' (.slice A' n' c') rs) (hl : hs.length ≤ 1000) (hr : rs.length ≤ 1000) (hx : hs.length = rs.length ∧ hminus hs rs = [] ∧ hminus rs hs = []) :
    Calls Try.prog 24 #[.slice A n c, .slice A' n' c'] W fun e w' => e = .returned (.bool true) ∧ Below W.heap.size W w' := by
  obtain ⟨e, hc, hC⟩ := own_CH h
  obtain ⟨e', hc', hC'⟩ := own_CH h'
  have := PPmapPlays.holtref11_Sets.calls 3000 A c (hs.map sh) A' c' (rs.map sh) _ W hC (by omega) hC' (by omega) (sets_f hs rs hl hr)
  rw [← e, ← e', show decide (hs.length = rs.length ∧ hminus hs rs = [] ∧ hminus rs hs = []) = true from decide_eq_true hx] at this
  exact this
theorem without_law (W : World) (B : Nat) (A : Option Addr) (n c : Nat) (ps : List (Int × Int)) (k : Int) (h : OwnP W B (.slice A n c) ps) (hl : ps.length ≤ 1000) :
    Calls Try.prog 22 #[.slice A n c, .int .i64 k] W fun e w' => ∃ pv, e = .returned (.tuple #[pv, .bool (decide (((ldel cmpI k ps).length : Int) < ps.length))]) ∧ OwnP w' W.heap.size pv (ldel cmpI k ps) ∧ Below W.heap.size W w' := by
  obtain ⟨e, hc, hC⟩ := own_C h
  have := PPmapPlays.holtref11_Without.calls 3000 A c (ps.map sp) k _ _ W hC (by omega) (without_f k ps hl)
  rw [← e] at this
  exact this.mono fun _ _ ⟨pv, h1, h2, h3⟩ => ⟨pv, h1, own_of_R h2, h3⟩
/-- Whether a key is there, and what is left without it. -/
theorem ldel_lt (k : Int) (ps : List (Int × Int)) : decide (((ldel cmpI k ps).length : Int) < ps.length) = (lhas cmpI k ps).isSome := by
  unfold lhas ldel
  rw [Option.isSome_map]
  induction ps with
  | nil => rfl
  | cons p l ih =>
    rw [List.filter_cons, List.find?_cons]
    by_cases h : cmpI k p.1 = 0
    · have := List.length_filter_le (fun p : Int × Int => decide (cmpI k p.1 ≠ 0)) l
      simp only [h, ne_eq, not_true_eq_false, decide_false, decide_true, Bool.false_eq_true, if_false, Option.isSome_some, decide_eq_true_eq, List.length_cons]
      simp only [ne_eq] at this
      omega
    · simp only [h, ne_eq, not_false_eq_true, decide_true, decide_false, if_true, List.length_cons]
      simp only [ne_eq] at ih
      rw [← ih]
      exact decide_eq_decide.mpr (by omega)
end Go.Proofs.Ytmhfbpdahfepgaa.Pm
/- The walk of the law PmapHigh: whatever the input, the call returns true, and what was in memory stays. -/
namespace Go.Proofs.Ytmhfbpdahfepgaa
open Go.RowKit Go.Proofs.YtmhfbpdahfepgaaW.PrintWords Pm
attribute [local go_sem high] eqHd
def dg (n : Nat) : Nat := if n = 0 then 0 else Nat.log2 n + 1
theorem dg_f : ∀ n : Fin 61, PPmapHigh.holtref11_Digits.f 20 ((n.val : Nat) : Int) = some ((dg n.val : Nat) : Int) := by decide +kernel
theorem dg_high : ∀ (n : Fin 61) (h : Fin 9), minS h.val ≤ n.val → 2 * h.val ≤ 3 * dg n.val + 4 := by decide +kernel
theorem digits_law (n : Nat) (hn : n ≤ 60) (W : World) : Calls Try.prog 14 #[.int .i64 n] W fun e w' => e = .returned (.int .i64 (dg n : Nat)) ∧ ∃ k, w' = W.drewN k :=
  (PPmapHigh.holtref11_Digits.calls 20 n _ W (dg_f ⟨n, by omega⟩)).mono fun _ _ ⟨h1, h2⟩ => ⟨h1, h2.out⟩
theorem high_ok {t : T2} (av : Avl t) (h : (pairs t).length ≤ 60) : ∃ k : Nat, t.hi = k ∧ k ≤ 8 ∧ 2 * (k : Int) ≤ 3 * (dg (pairs t).length : Nat) + 4 := by
  have h1 := hi_60 av h
  have h2 := av.nonneg
  have h3 := avl_min av
  refine ⟨t.hi.toNat, by omega, by omega, ?_⟩
  have := dg_high ⟨(pairs t).length, by omega⟩ ⟨t.hi.toNat, by omega⟩ h3
  dsimp only at this
  omega
theorem dg_le1 : ∀ n : Fin 61, dg n.val ≤ 6 := by decide +kernel
theorem dg_le {n : Nat} (h : n ≤ 60) : dg n ≤ 6 := dg_le1 ⟨n, by omega⟩
theorem u8Info : (Try.prog.info? 5).map (fun i => (i.zero, i.size, i.bytes)) = some (some (.int .u8 0), 1, 1) := by kernel_rfl
/-- Keys as bytes, read whatever a map does. -/
def KeysAt (w0 V : World) (B : Nat) (A : Option Addr) (c : Nat) (l : List Int) : Prop := l.length ≤ 60 ∧ (∀ x ∈ l, 0 ≤ x ∧ x < 256) ∧ l.length ≤ c ∧ ∀ V', Fr V V' → Below B w0 V' → ReadsInt V' .u8 A l.length l
theorem keys_arg {w : World} {A : Option Addr} {c : Nat} {l : List Int} (V : World) (hr : ReadsInt w .u8 A l.length l) (hc : l.length ≤ c) (hl : l.length ≤ 60) (hb : ∀ x ∈ l, 0 ≤ x ∧ x < 256) : KeysAt w V w.heap.size A c l :=
  ⟨hl, hb, hc, fun _ _ hbel => hr.below hbel⟩
theorem keys_own {w0 V : World} {B B' n c : Nat} {A : Option Addr} {l : List Int} (ho : V.ownsRow B' 5 1 (.slice A n c) l.length (nums .u8 l)) (hn : n = l.length) (hl : l.length ≤ 60) (hb : ∀ x ∈ l, 0 ≤ x ∧ x < 256) : KeysAt w0 V B A c l := by
  subst hn
  exact ⟨hl, hb, own_le ho, fun V' hF _ => own_reads' (own_fr ho hF (by decide) (by decide) (by decide))⟩
theorem KeysAt.below {w0 V V' : World} {B c : Nat} {A : Option Addr} {l : List Int} (h : KeysAt w0 V B A c l) (hb : Below V.heap.size V V') : KeysAt w0 V' B A c l :=
  ⟨h.1, h.2.1, h.2.2.1, fun _ hF hbel => h.2.2.2 _ ((Fr.below hb).trans hF) hbel⟩
theorem KeysAt.made {w0 V : World} {B m aa c : Nat} {A : Option Addr} {l : List Int} (h : KeysAt w0 V B A c l) (HM : MapB w0 V B m aa (arNew 4000)) :
    Calls Try.prog 12 #[.pointer (some ⟨m, 0, none⟩), .slice A l.length c] V (MadeOut w0 V B m aa l (arNew 4000)) :=
  made_calls w0 V B m aa A c l (arNew 4000) HM (arNew_ok 4000 (by decide)) h.1 (by rw [arNew_room]; have := h.1; omega) h.2.1 h.2.2.1 (fun V' hF hb => h.2.2.2 V' hF hb)
/-- The keys that are put, rising or falling. -/
def kw (r : Int) (i : Nat) : List Int := (List.range i).map (fun (j : Nat) => if r = 1 then (j : Int) else 200 - (j : Int))
theorem kw_len (r : Int) (i : Nat) : (kw r i).length = i := by simp [kw]
theorem kw_succ (r : Int) (i : Nat) : kw r (i + 1) = kw r i ++ [if r = 1 then (i : Int) else 200 - (i : Int)] := by simp [kw, List.range_succ]
theorem kw_bnd (r : Int) (i : Nat) (hi : i ≤ 60) : ∀ x ∈ kw r i, 0 ≤ x ∧ x < 256 := by
  intro x hx
  simp only [kw, List.mem_map, List.mem_range] at hx
  obtain ⟨j, hj, rfl⟩ := hx
  split <;> omega
theorem pnew_law (w V : World) (hb : Below w.heap.size w V) : Calls Try.prog 10 #[.int .i64 4000, .func (.func 11) #[] #[]] V fun e w' => (∃ m aa, e = .returned (.pointer (some ⟨m, 0, none⟩)) ∧ MapB w w' w.heap.size m aa (arNew 4000)) ∧ Below V.heap.size V w' := pnew_ok w V w.heap.size 4000 hb hb.size (by decide)
set_option maxRecDepth 100000 in
set_option maxHeartbeats 8000000 in
theorem pmapHigh_0 (A : Option Addr) (c : Nat) (l : List Int) (n way : Int) (w : World) (hr : ReadsInt w .u8 A l.length l) (hc : l.length ≤ c) (hb : ∀ x ∈ l, 0 ≤ x ∧ x < 256) (hl : l.length ≤ 60) (hn : 0 ≤ n ∧ n < 256) (hw : 0 ≤ way ∧ way < 256) (h0 : way % 3 = 0) :
    Calls Try.prog 3 #[.slice A l.length c, .int .u8 n, .int .u8 way] w fun e w' => e = .returned (.bool true) ∧ Below w.heap.size w w' := by
  have HKA := Lib.hid (fun V => keys_arg V hr hc hl hb)
  have HB := Lib.hid (Below.refl w.heap.size w)
  have hn0 := hn.1
  have hn1 := hn.2
  have hw0 := hw.1
  have hw1 := hw.2
  clear hr hc hb hn hw
  go_enter Try.func3, Try.ntmps3
  go_wp2_with (first
    | (go_at_call 9; go_loud ((refine Calls.mono (awake_calls _) ?_); rintro e w1 ⟨rfl, hb⟩; have HBn := Lib.hid (below_step (by repeat (first | (with_reducible exact HB.out) | apply below_alloc | apply pw_below_drewN | apply below_drew1 | exact HB.out)) hb); clear hb HB; have HB := HBn; clear HBn))
    | (fail "no arm"))
  go_loopw [8, 9] (fun v8 v9 W => v8 = .slice none 0 0 ∧ v9 = .int .i64 0 ∧ Hid (Below w.heap.size w W)) (fun _ _ _ => 0)
  case atStart => exact ⟨rfl, rfl, HB⟩
  case round =>
    obtain ⟨rfl, rfl, HB⟩ := hrel
    obtain ⟨N, hN⟩ : ∃ N : Nat, n % 60 = N := ⟨(n % 60).toNat, by omega⟩
    have hN2 : (N : Int) < 60 := by omega
    have HK := Lib.hid (HKA.out wr)
    generalize hks : l = ks at *
    clear hks HKA
    go_wp2_with (first
      | (go_at_call 10; go_loud (
          (with_reducible refine Calls.mono (pnew_law w _ (by repeat (first | (with_reducible exact HB.out) | apply below_alloc | apply pw_below_drewN | apply below_drew1 | exact HB.out))) ?_);
          rintro e2 w2 ⟨⟨m, aa, rfl, hm⟩, hb2⟩;
          have HM2 := Lib.hid hm; have HK2 := Lib.hid (HK.out.below hb2);
          clear hm hb2))
      | (go_at_call 12; go_loud (
          (with_reducible refine Calls.mono (HK2.out.made HM2.out) ?_);
          rintro e3 w3 ⟨a', t, pv, rfl, hv, hp, ho, hm, hak, hro, hmo, hF⟩;
          obtain ⟨A4, c4, rfl, _⟩ := OwnRow.slice_ ho;
          have HV := Lib.hid hv; have HP := Lib.hid (show (pairs t).length ≤ 60 by have := madeP_len ks ks.length; have h2 := HK2.out.1; rw [hp]; omega); have HO3 := Lib.hid ho; have HM3 := Lib.hid hm;
          simp only [hdV];
          clear hv hp ho hm hak hro hmo hF))
      | (fail "no arm"))
    all_goals
      have HM4 := Lib.hid (HM3.out.below (show Below w3.heap.size w3 (w3.alloc (.cells #[.int .i64 t.h.s, .int .i64 t.h.g] 28 (0, 0))) from (by repeat (first | exact Below.refl _ _ | apply below_drew1 | apply below_alloc | apply pw_below_drewN))))
      have HO4 := Lib.hid (OwnRow.below HO3.out (show Below w3.heap.size w3 (w3.alloc (.cells #[.int .i64 t.h.s, .int .i64 t.h.g] 28 (0, 0))) from (by repeat (first | exact Below.refl _ _ | apply below_drew1 | apply below_alloc | apply pw_below_drewN))))
      generalize (w3.alloc (.cells #[.int .i64 t.h.s, .int .i64 t.h.g] 28 (0, 0))) = V4 at *
      have hpl := HP.out
      have HWK := Lib.hid (walk_law w V4 w.heap.size m aa a' t HM4.out HV.out hpl)
      obtain ⟨hk, ehi, hk8, hkd⟩ := high_ok HV.out.avl hpl
      have hd6 := dg_le hpl
      simp only [hdV] at HWK
      generalize hL : (pairs t).length = L at *
      have HL := Lib.hid hL
      have HEH := Lib.hid ehi
      clear hL ehi
      generalize hdg : dg L = D at *
      have HDG := Lib.hid hdg
      clear hdg
      (with_reducible refine Calls.mono HWK.out ?_)
      rintro e5 w5 ⟨p5, h5, rfl, hop, hoh, hb5⟩
      obtain ⟨A5, c5, rfl, _⟩ := OwnRow.slice_ hop
      obtain ⟨A6, c6, rfl, _⟩ := OwnRow.slice_ hoh
      rw [HL.out] at hop
      rw [HEH.out]
      simp only [HL.out]
      have HO5 := Lib.hid (OwnRow.below HO4.out hb5)
      have HP5 := Lib.hid hop
      have HB5 := Lib.hid (HM4.out.bel.trans (hb5.mono HM4.out.sz))
      have hm1 : IntKind.i64.wrap (2 * (hk : Int)) = 2 * (hk : Int) := by rw [IntKind.wrap_i64]; omega
      have hm2 : IntKind.i64.wrap (3 * (D : Int)) = 3 * (D : Int) := by rw [IntKind.wrap_i64]; omega
      have hm3 : IntKind.i64.wrap (3 * (D : Int) + 4) = 3 * (D : Int) + 4 := by rw [IntKind.wrap_i64]; omega
      have hm4 : decide (2 * (hk : Int) ≤ 3 * (D : Int) + 4) = true := decide_eq_true hkd
      clear hop hoh hb5
      have HDI := Lib.hid (fun (V : World) => digits_law L hpl V)
      rw [HDG.out] at HDI
      have HSA := Lib.hid (fun (V : World) (hb : Below w5.heap.size w5 V) => same_law V _ _ A5 A4 _ _ c5 c4 (pairs t) (OwnRow.below HP5.out hb) (OwnRow.below HO5.out hb) (by rw [HL.out]; omega))
      go_wp2_with (first
        | (go_at_call 14; go_loud ((with_reducible refine Calls.mono (HDI.out _) ?_); rintro e6 w6 ⟨rfl, k6, rfl⟩))
        | (go_at_call 15; go_loud ((with_reducible refine Calls.mono (HSA.out _ (by repeat (first | exact Below.refl _ _ | apply below_drew1 | apply below_alloc | apply pw_below_drewN))) ?_); rintro e7 w7 ⟨rfl, k7, rfl⟩))
        | (fail "no arm"))
      go_ret
      exact ⟨rfl, HB5.out.trans (show Below w.heap.size w5 _ from (pw_below_drewN (Below.refl _ _) _))⟩
set_option maxRecDepth 100000 in
set_option maxHeartbeats 8000000 in
theorem pmapHigh_1 (A : Option Addr) (c : Nat) (l : List Int) (n way : Int) (w : World) (hl : l.length ≤ 60) (hn : 0 ≤ n ∧ n < 256) (hw : 0 ≤ way ∧ way < 256) (h0 : way % 3 = 1) :
    Calls Try.prog 3 #[.slice A l.length c, .int .u8 n, .int .u8 way] w fun e w' => e = .returned (.bool true) ∧ Below w.heap.size w w' := by
  have HB := Lib.hid (Below.refl w.heap.size w)
  have hn0 := hn.1
  have hn1 := hn.2
  have hw0 := hw.1
  have hw1 := hw.2
  obtain ⟨N, hN⟩ : ∃ N : Nat, n % 60 = N := ⟨(n % 60).toNat, by omega⟩
  have hN2 : (N : Int) < 60 := by omega
  clear hn hw
  go_enter Try.func3, Try.ntmps3
  go_wp2_with (first
    | (go_at_call 9; go_loud ((refine Calls.mono (awake_calls _) ?_); rintro e w1 ⟨rfl, hb⟩; have HBn := Lib.hid (below_step (by repeat (first | (with_reducible exact HB.out) | apply below_alloc | apply pw_below_drewN | apply below_drew1 | exact HB.out)) hb); clear hb HB; have HB := HBn; clear HBn))
    | (fail "no arm"))
  go_loopw [8, 9] (fun v8 v9 W => ∃ (i : Nat) (A8 : Option Addr) (n8 c8 : Nat), v9 = .int .i64 i ∧ v8 = .slice A8 n8 c8 ∧ i ≤ N ∧ Hid (n8 = i) ∧ Hid (W.ownsRow w.heap.size 5 1 (.slice A8 n8 c8) (kw 1 i).length (nums .u8 (kw 1 i))) ∧ Hid (Below w.heap.size w W)) (fun _ v9 _ => N - (RowKit.intOf v9).toNat)
  case atStart => exact ⟨0, none, 0, 0, rfl, rfl, Nat.zero_le _, Lib.hid rfl, Lib.hid (own_nil _ _ _ _), HB⟩
  case round =>
    obtain ⟨i, A8, n8, c8, rfl, rfl, hi, HN8, HO8, HB⟩ := hrel
    by_cases hlt : i < N
    · have hd : decide ((i : Int) < (N : Int)) = true := decide_eq_true (by omega)
      have hwu : IntKind.u8.wrap ((i : Int)) = (i : Int) := by rw [IntKind.wrap_u8]; omega
      have hwi : IntKind.i64.wrap ((i : Int) + 1) = ((i + 1 : Nat) : Int) := by rw [IntKind.wrap_i64]; omega
      go_wp2_with (first
        | (at_builtin; go_loud (
            (refine print_append_num (w0 := w) (W := wr) w.heap.size rfl (.tmp 39) (.tmp 42) 22 5 .u8 1 rfl Try.underlying22 u8Info (by decide) (.slice A8 n8 c8) (kw 1 i) ((i : Int)) (by rfl) (by simp [Act.eval]) HO8.out HB.out HB.out.size ?hl ?_);
            (case hl => rw [kw_len]; omega);
            intro v9 w9 ho hb hg hat;
            obtain ⟨A9, c9, rfl⟩ := own_slice ho;
            have HO9 := Lib.hid ho; have HB9 := Lib.hid hb; clear ho hb hg hat))
        | (fail "no arm"))
      go_roundw
      case rel => exact ⟨i + 1, A9, _, c9, by go_num, rfl, by omega, Lib.hid (by rw [kw_len]), Lib.hid (by have h := HO9.out; rw [List.length_append, List.length_singleton] at h; rw [kw_succ, if_pos rfl, List.length_append, List.length_singleton]; exact h), HB9⟩
      case measure => simp [RowKit.intOf] <;> omega
    · obtain rfl : i = N := by omega
      have hd : decide ((i : Int) < (i : Int)) = false := decide_eq_false (by omega)
      have HK := Lib.hid (keys_own (w0 := w) (B := w.heap.size) (A := A8) (c := c8) HO8.out (by rw [kw_len]; exact HN8.out) (by rw [kw_len]; omega) (kw_bnd 1 i (by omega)))
      have hle8 : n8 = (kw 1 i).length := by rw [kw_len]; exact HN8.out
      subst hle8
      generalize hks : kw 1 i = ks at *
      clear hks HN8 HO8
      go_wp2_with (first
        | (go_at_call 10; go_loud (
            (with_reducible refine Calls.mono (pnew_law w _ (by repeat (first | (with_reducible exact HB.out) | apply below_alloc | apply pw_below_drewN | apply below_drew1 | exact HB.out))) ?_);
            rintro e2 w2 ⟨⟨m, aa, rfl, hm⟩, hb2⟩;
            have HM2 := Lib.hid hm; have HK2 := Lib.hid (HK.out.below hb2);
            clear hm hb2))
        | (go_at_call 12; go_loud (
            (with_reducible refine Calls.mono (HK2.out.made HM2.out) ?_);
            rintro e3 w3 ⟨a', t, pv, rfl, hv, hp, ho, hm, hak, hro, hmo, hF⟩;
            obtain ⟨A4, c4, rfl, _⟩ := OwnRow.slice_ ho;
            have HV := Lib.hid hv; have HP := Lib.hid (show (pairs t).length ≤ 60 by have := madeP_len ks ks.length; have h2 := HK2.out.1; rw [hp]; omega); have HO3 := Lib.hid ho; have HM3 := Lib.hid hm;
            simp only [hdV];
            clear hv hp ho hm hak hro hmo hF))
        | (fail "no arm"))
      all_goals
        have HM4 := Lib.hid (HM3.out.below (show Below w3.heap.size w3 (w3.alloc (.cells #[.int .i64 t.h.s, .int .i64 t.h.g] 28 (0, 0))) from (by repeat (first | exact Below.refl _ _ | apply below_drew1 | apply below_alloc | apply pw_below_drewN))))
        have HO4 := Lib.hid (OwnRow.below HO3.out (show Below w3.heap.size w3 (w3.alloc (.cells #[.int .i64 t.h.s, .int .i64 t.h.g] 28 (0, 0))) from (by repeat (first | exact Below.refl _ _ | apply below_drew1 | apply below_alloc | apply pw_below_drewN))))
        generalize (w3.alloc (.cells #[.int .i64 t.h.s, .int .i64 t.h.g] 28 (0, 0))) = V4 at *
        have hpl := HP.out
        have HWK := Lib.hid (walk_law w V4 w.heap.size m aa a' t HM4.out HV.out hpl)
        obtain ⟨hk, ehi, hk8, hkd⟩ := high_ok HV.out.avl hpl
        have hd6 := dg_le hpl
        simp only [hdV] at HWK
        generalize hL : (pairs t).length = L at *
        have HL := Lib.hid hL
        have HEH := Lib.hid ehi
        clear hL ehi
        generalize hdg : dg L = D at *
        have HDG := Lib.hid hdg
        clear hdg
        (with_reducible refine Calls.mono HWK.out ?_)
        rintro e5 w5 ⟨p5, h5, rfl, hop, hoh, hb5⟩
        obtain ⟨A5, c5, rfl, _⟩ := OwnRow.slice_ hop
        obtain ⟨A6, c6, rfl, _⟩ := OwnRow.slice_ hoh
        rw [HL.out] at hop
        rw [HEH.out]
        simp only [HL.out]
        have HO5 := Lib.hid (OwnRow.below HO4.out hb5)
        have HP5 := Lib.hid hop
        have HB5 := Lib.hid (HM4.out.bel.trans (hb5.mono HM4.out.sz))
        have hm1 : IntKind.i64.wrap (2 * (hk : Int)) = 2 * (hk : Int) := by rw [IntKind.wrap_i64]; omega
        have hm2 : IntKind.i64.wrap (3 * (D : Int)) = 3 * (D : Int) := by rw [IntKind.wrap_i64]; omega
        have hm3 : IntKind.i64.wrap (3 * (D : Int) + 4) = 3 * (D : Int) + 4 := by rw [IntKind.wrap_i64]; omega
        have hm4 : decide (2 * (hk : Int) ≤ 3 * (D : Int) + 4) = true := decide_eq_true hkd
        clear hop hoh hb5
        have HDI := Lib.hid (fun (V : World) => digits_law L hpl V)
        rw [HDG.out] at HDI
        have HSA := Lib.hid (fun (V : World) (hb : Below w5.heap.size w5 V) => same_law V _ _ A5 A4 _ _ c5 c4 (pairs t) (OwnRow.below HP5.out hb) (OwnRow.below HO5.out hb) (by rw [HL.out]; omega))
        go_wp2_with (first
          | (go_at_call 14; go_loud ((with_reducible refine Calls.mono (HDI.out _) ?_); rintro e6 w6 ⟨rfl, k6, rfl⟩))
          | (go_at_call 15; go_loud ((with_reducible refine Calls.mono (HSA.out _ (by repeat (first | exact Below.refl _ _ | apply below_drew1 | apply below_alloc | apply pw_below_drewN))) ?_); rintro e7 w7 ⟨rfl, k7, rfl⟩))
          | (fail "no arm"))
        go_ret
        exact ⟨rfl, HB5.out.trans (show Below w.heap.size w5 _ from (pw_below_drewN (Below.refl _ _) _))⟩
set_option maxRecDepth 100000 in
set_option maxHeartbeats 8000000 in
theorem pmapHigh_2 (A : Option Addr) (c : Nat) (l : List Int) (n way : Int) (w : World) (hl : l.length ≤ 60) (hn : 0 ≤ n ∧ n < 256) (hw : 0 ≤ way ∧ way < 256) (h0 : way % 3 = 2) :
    Calls Try.prog 3 #[.slice A l.length c, .int .u8 n, .int .u8 way] w fun e w' => e = .returned (.bool true) ∧ Below w.heap.size w w' := by
  have HB := Lib.hid (Below.refl w.heap.size w)
  have hn0 := hn.1
  have hn1 := hn.2
  have hw0 := hw.1
  have hw1 := hw.2
  obtain ⟨N, hN⟩ : ∃ N : Nat, n % 60 = N := ⟨(n % 60).toNat, by omega⟩
  have hN2 : (N : Int) < 60 := by omega
  clear hn hw
  go_enter Try.func3, Try.ntmps3
  go_wp2_with (first
    | (go_at_call 9; go_loud ((refine Calls.mono (awake_calls _) ?_); rintro e w1 ⟨rfl, hb⟩; have HBn := Lib.hid (below_step (by repeat (first | (with_reducible exact HB.out) | apply below_alloc | apply pw_below_drewN | apply below_drew1 | exact HB.out)) hb); clear hb HB; have HB := HBn; clear HBn))
    | (fail "no arm"))
  go_loopw [8, 9] (fun v8 v9 W => ∃ (i : Nat) (A8 : Option Addr) (n8 c8 : Nat), v9 = .int .i64 i ∧ v8 = .slice A8 n8 c8 ∧ i ≤ N ∧ Hid (n8 = i) ∧ Hid (W.ownsRow w.heap.size 5 1 (.slice A8 n8 c8) (kw 2 i).length (nums .u8 (kw 2 i))) ∧ Hid (Below w.heap.size w W)) (fun _ v9 _ => N - (RowKit.intOf v9).toNat)
  case atStart => exact ⟨0, none, 0, 0, rfl, rfl, Nat.zero_le _, Lib.hid rfl, Lib.hid (own_nil _ _ _ _), HB⟩
  case round =>
    obtain ⟨i, A8, n8, c8, rfl, rfl, hi, HN8, HO8, HB⟩ := hrel
    by_cases hlt : i < N
    · have hd : decide ((i : Int) < (N : Int)) = true := decide_eq_true (by omega)
      have hwu : IntKind.u8.wrap (200 - (i : Int)) = 200 - (i : Int) := by rw [IntKind.wrap_u8]; omega
      have hwi : IntKind.i64.wrap ((i : Int) + 1) = ((i + 1 : Nat) : Int) := by rw [IntKind.wrap_i64]; omega
      have hws : IntKind.i64.wrap (200 - (i : Int)) = 200 - (i : Int) := by rw [IntKind.wrap_i64]; omega
      go_wp2_with (first
        | (at_builtin; go_loud (
            (refine print_append_num (w0 := w) (W := wr) w.heap.size rfl (.tmp 44) (.tmp 48) 22 5 .u8 1 rfl Try.underlying22 u8Info (by decide) (.slice A8 n8 c8) (kw 2 i) (200 - (i : Int)) (by rfl) (by simp [Act.eval]) HO8.out HB.out HB.out.size ?hl ?_);
            (case hl => rw [kw_len]; omega);
            intro v9 w9 ho hb hg hat;
            obtain ⟨A9, c9, rfl⟩ := own_slice ho;
            have HO9 := Lib.hid ho; have HB9 := Lib.hid hb; clear ho hb hg hat))
        | (fail "no arm"))
      go_roundw
      case rel => exact ⟨i + 1, A9, _, c9, by go_num, rfl, by omega, Lib.hid (by rw [kw_len]), Lib.hid (by have h := HO9.out; rw [List.length_append, List.length_singleton] at h; rw [kw_succ, if_neg (by decide), List.length_append, List.length_singleton]; exact h), HB9⟩
      case measure => simp [RowKit.intOf] <;> omega
    · obtain rfl : i = N := by omega
      have hd : decide ((i : Int) < (i : Int)) = false := decide_eq_false (by omega)
      have HK := Lib.hid (keys_own (w0 := w) (B := w.heap.size) (A := A8) (c := c8) HO8.out (by rw [kw_len]; exact HN8.out) (by rw [kw_len]; omega) (kw_bnd 2 i (by omega)))
      have hle8 : n8 = (kw 2 i).length := by rw [kw_len]; exact HN8.out
      subst hle8
      generalize hks : kw 2 i = ks at *
      clear hks HN8 HO8
      go_wp2_with (first
        | (go_at_call 10; go_loud (
            (with_reducible refine Calls.mono (pnew_law w _ (by repeat (first | (with_reducible exact HB.out) | apply below_alloc | apply pw_below_drewN | apply below_drew1 | exact HB.out))) ?_);
            rintro e2 w2 ⟨⟨m, aa, rfl, hm⟩, hb2⟩;
            have HM2 := Lib.hid hm; have HK2 := Lib.hid (HK.out.below hb2);
            clear hm hb2))
        | (go_at_call 12; go_loud (
            (with_reducible refine Calls.mono (HK2.out.made HM2.out) ?_);
            rintro e3 w3 ⟨a', t, pv, rfl, hv, hp, ho, hm, hak, hro, hmo, hF⟩;
            obtain ⟨A4, c4, rfl, _⟩ := OwnRow.slice_ ho;
            have HV := Lib.hid hv; have HP := Lib.hid (show (pairs t).length ≤ 60 by have := madeP_len ks ks.length; have h2 := HK2.out.1; rw [hp]; omega); have HO3 := Lib.hid ho; have HM3 := Lib.hid hm;
            simp only [hdV];
            clear hv hp ho hm hak hro hmo hF))
        | (fail "no arm"))
      all_goals
        have HM4 := Lib.hid (HM3.out.below (show Below w3.heap.size w3 (w3.alloc (.cells #[.int .i64 t.h.s, .int .i64 t.h.g] 28 (0, 0))) from (by repeat (first | exact Below.refl _ _ | apply below_drew1 | apply below_alloc | apply pw_below_drewN))))
        have HO4 := Lib.hid (OwnRow.below HO3.out (show Below w3.heap.size w3 (w3.alloc (.cells #[.int .i64 t.h.s, .int .i64 t.h.g] 28 (0, 0))) from (by repeat (first | exact Below.refl _ _ | apply below_drew1 | apply below_alloc | apply pw_below_drewN))))
        generalize (w3.alloc (.cells #[.int .i64 t.h.s, .int .i64 t.h.g] 28 (0, 0))) = V4 at *
        have hpl := HP.out
        have HWK := Lib.hid (walk_law w V4 w.heap.size m aa a' t HM4.out HV.out hpl)
        obtain ⟨hk, ehi, hk8, hkd⟩ := high_ok HV.out.avl hpl
        have hd6 := dg_le hpl
        simp only [hdV] at HWK
        generalize hL : (pairs t).length = L at *
        have HL := Lib.hid hL
        have HEH := Lib.hid ehi
        clear hL ehi
        generalize hdg : dg L = D at *
        have HDG := Lib.hid hdg
        clear hdg
        (with_reducible refine Calls.mono HWK.out ?_)
        rintro e5 w5 ⟨p5, h5, rfl, hop, hoh, hb5⟩
        obtain ⟨A5, c5, rfl, _⟩ := OwnRow.slice_ hop
        obtain ⟨A6, c6, rfl, _⟩ := OwnRow.slice_ hoh
        rw [HL.out] at hop
        rw [HEH.out]
        simp only [HL.out]
        have HO5 := Lib.hid (OwnRow.below HO4.out hb5)
        have HP5 := Lib.hid hop
        have HB5 := Lib.hid (HM4.out.bel.trans (hb5.mono HM4.out.sz))
        have hm1 : IntKind.i64.wrap (2 * (hk : Int)) = 2 * (hk : Int) := by rw [IntKind.wrap_i64]; omega
        have hm2 : IntKind.i64.wrap (3 * (D : Int)) = 3 * (D : Int) := by rw [IntKind.wrap_i64]; omega
        have hm3 : IntKind.i64.wrap (3 * (D : Int) + 4) = 3 * (D : Int) + 4 := by rw [IntKind.wrap_i64]; omega
        have hm4 : decide (2 * (hk : Int) ≤ 3 * (D : Int) + 4) = true := decide_eq_true hkd
        clear hop hoh hb5
        have HDI := Lib.hid (fun (V : World) => digits_law L hpl V)
        rw [HDG.out] at HDI
        have HSA := Lib.hid (fun (V : World) (hb : Below w5.heap.size w5 V) => same_law V _ _ A5 A4 _ _ c5 c4 (pairs t) (OwnRow.below HP5.out hb) (OwnRow.below HO5.out hb) (by rw [HL.out]; omega))
        go_wp2_with (first
          | (go_at_call 14; go_loud ((with_reducible refine Calls.mono (HDI.out _) ?_); rintro e6 w6 ⟨rfl, k6, rfl⟩))
          | (go_at_call 15; go_loud ((with_reducible refine Calls.mono (HSA.out _ (by repeat (first | exact Below.refl _ _ | apply below_drew1 | apply below_alloc | apply pw_below_drewN))) ?_); rintro e7 w7 ⟨rfl, k7, rfl⟩))
          | (fail "no arm"))
        go_ret
        exact ⟨rfl, HB5.out.trans (show Below w.heap.size w5 _ from (pw_below_drewN (Below.refl _ _) _))⟩
set_option maxRecDepth 100000 in
theorem pmapHigh_walk (A : Option Addr) (c : Nat) (l : List Int) (n way : Int) (w : World) (hr : (Kd.int .u8).C w A l.length l) (hc : l.length ≤ c) (hok : l.length ≤ maxLen ∧ ∀ x ∈ l, (Lit.int .u8 x).wf = true) (wn : (Lit.int .u8 n).wf = true) (ww : (Lit.int .u8 way).wf = true) :
    Calls Try.prog 3 #[.slice A l.length c, .int .u8 n, .int .u8 way] w fun e w' => e = .returned (.bool true) ∧ Below w.heap.size w w' := by
  have hri := int_of_C hr
  have hb : ∀ x ∈ l, 0 ≤ x ∧ x < 256 := fun x hx => byte_wf (hok.2 x hx)
  have hn := byte_wf wn
  have hw := byte_wf ww
  by_cases hl : l.length ≤ 60
  · by_cases h0 : way % 3 = 0
    · exact pmapHigh_0 A c l n way w hri hc hb hl hn hw h0
    · by_cases h1 : way % 3 = 1
      · exact pmapHigh_1 A c l n way w hl hn hw h1
      · exact pmapHigh_2 A c l n way w hl hn hw (by omega)
  · have hgt : decide ((60 : Int) < (l.length : Int)) = true := decide_eq_true (by omega)
    have HB := Lib.hid (Below.refl w.heap.size w)
    have hm1 : l.length ≤ 9223372036854775807 := hri.2.1
    clear hri hb hn hw hok wn ww hr
    go_enter Try.func3, Try.ntmps3
    go_wp2_with (first
      | (go_at_call 9; go_loud ((refine Calls.mono (awake_calls _) ?_); rintro e w1 ⟨rfl, hb⟩; have HBn := Lib.hid (below_step (by repeat (first | (with_reducible exact HB.out) | apply below_alloc | apply pw_below_drewN | apply below_drew1 | exact HB.out)) hb); clear hb HB; have HB := HBn; clear HBn))
      | (fail "no arm"))
    go_ret
    exact ⟨rfl, (by repeat (first | (with_reducible exact HB.out) | apply below_alloc | apply pw_below_drewN | apply below_drew1 | exact HB.out))⟩
end Go.Proofs.Ytmhfbpdahfepgaa
/- Opening arguments of plain data, whatever their make: what a reading's cells say, kind by kind. -/
namespace Go.Proofs.YtmhfbpdahfepgaaW.Open
open Go.RowKit Go.Proofs.YtmhfbpdahfepgaaW.PrintWords Go.ChangeShapes

/-- What is read at type t is of the kind d, and ok. -/
def Opens {α : Type} (P : Program) (t : TypeId) (d : Kd α) (ok : α → Prop) : Prop :=
  P.cellsOf t = d.sz ∧ ∀ (H : Type) (enc : TypeId × Value → H) (w : World) (fuel : Nat) (cs : List Value) (x : DataW H × List MemPlace), DataW.trod enc P w 0 (fun _ => true) true fuel t cs = some x → ∃ y, d.K w y cs ∧ ok y

theorem Opens.int {P : Program} {t : TypeId} {k : IntKind} (ht : P.underlying t = some (.int k)) (hc : P.cellsOf t = 1) : Opens P t (Kd.int k) (fun n => (Lit.int k n).wf = true) :=
  ⟨hc, fun _ _ _ _ _ _ h => by obtain ⟨n, rfl, _, hw⟩ := DataW.trod_int ht h; exact ⟨n, rfl, hw⟩⟩
theorem Opens.bool {P : Program} {t : TypeId} (ht : P.underlying t = some .bool) (hc : P.cellsOf t = 1) : Opens P t Kd.bool (fun _ => True) :=
  ⟨hc, fun _ _ _ _ _ _ h => by obtain ⟨n, rfl, _⟩ := DataW.trod_bool ht h; exact ⟨n, rfl, trivial⟩⟩
theorem Opens.string {P : Program} {t : TypeId} (ht : P.underlying t = some .string) (hc : P.cellsOf t = 1) : Opens P t Kd.string (fun s => s.size ≤ maxLen) :=
  ⟨hc, fun _ _ _ _ _ _ h => by obtain ⟨n, rfl, _, hs⟩ := DataW.trod_string ht h; exact ⟨n, rfl, hs⟩⟩

theorem Opens.slice {α : Type} {P : Program} {t e : TypeId} {d : Kd α} {ok : α → Prop} (ht : P.underlying t = some (.slice e)) (hc : P.cellsOf t = 1) (he : Opens P e d ok) :
    Opens P t (Kd.slice e d) (fun xs => xs.length ≤ maxLen ∧ ∀ x ∈ xs, ok x) := by
  obtain ⟨hsz, hop⟩ := he
  refine ⟨hc, fun H enc w fuel cs x h => ?_⟩
  rcases DataW.trod_slice ht h with ⟨rfl, _⟩ | ⟨a, len, cap, elems, rest, n, _, rfl, _, _, hl, hm, hlen, hel, _, _⟩
  · exact ⟨[], ⟨none, 0, rfl, by simp, rfl, by simp, by simp⟩, by simp, by simp⟩
  · have each : ∀ i, i < len → ∃ y c, c.length = d.sz ∧ d.K w y c ∧ ok y ∧ ∀ j u, c[j]? = some u → w.cell? (a.add (i * d.sz + j)) = some u := by
      intro i hi
      have h1 := hel i hi
      rw [List.getElem?_eq_getElem (by omega)] at h1
      obtain ⟨c, hcs, hy⟩ := Option.bind_eq_some_iff.1 h1
      obtain ⟨_, hcl, hcell⟩ := World.cells?_some hcs
      obtain ⟨y, hK, hok⟩ := hop H enc w n c _ hy
      refine ⟨y, c, by rw [hcl, hsz], hK, hok, fun j u hu => ?_⟩
      have hj : j < c.length := (List.getElem?_eq_some_iff.1 hu).1
      have := hcell j (by omega)
      rw [hu, hsz, add_add] at this
      exact this
    have build : ∀ m, m ≤ len → ∃ xs : List α, xs.length = m ∧ (∀ x ∈ xs, ok x) ∧ ∀ j p, xs[j]? = some p → ∃ c, c.length = d.sz ∧ d.K w p c ∧ ∀ i u, c[i]? = some u → w.cell? (a.add (j * d.sz + i)) = some u := by
      intro m
      induction m with
      | zero => intro _; exact ⟨[], rfl, by simp, fun j p h => by simp at h⟩
      | succ m ih =>
        intro hm'
        obtain ⟨xs, hx, hok, hall⟩ := ih (by omega)
        obtain ⟨y, c, hcl, hK, hoky, hcell⟩ := each m (by omega)
        refine ⟨xs ++ [y], by simp [hx], ?_, ?_⟩
        · intro z hz
          rcases List.mem_append.1 hz with h' | h'
          · exact hok z h'
          · rw [List.mem_singleton.1 h']; exact hoky
        · intro j p hj
          rcases Nat.lt_or_ge j xs.length with h' | h'
          · rw [List.getElem?_append_left h'] at hj; exact hall j p hj
          · have hj' := (List.getElem?_eq_some_iff.1 hj).1
            obtain rfl : j = xs.length := by simp at hj'; omega
            have : y = p := by simpa using hj
            subst this
            rw [hx]
            exact ⟨c, hcl, hK, hcell⟩
    obtain ⟨xs, hx, hok, hall⟩ := build len (Nat.le_refl _)
    subst hx
    simp only [maxLen] at hm
    exact ⟨xs, ⟨some a, cap, rfl, hl, rfl, by omega, fun _ => ⟨a, rfl, hall⟩⟩, by simp only [maxLen]; omega, hok⟩

/-- Fields in line: from offset n on. -/
def OpensF {α : Type} (P : Program) (fs : List Field) (n : Nat) (d : Kd α) (ok : α → Prop) : Prop :=
  ∀ (H : Type) (enc : TypeId × Value → H) (w : World) (fuel : Nat) (cs : List Value), cs.length = n + d.sz → (∀ f ∈ fs, ∃ x, DataW.trod enc P w 0 (fun _ => true) true fuel f.type ((cs.drop f.offset).take (P.cellsOf f.type)) = some x) → ∃ y, d.K w y (cs.drop n) ∧ ok y
theorem OpensF.one {α : Type} {P : Program} {f : Field} {d : Kd α} {ok : α → Prop} (h : Opens P f.type d ok) : OpensF P [f] f.offset d ok := by
  intro H enc w fuel cs hl hall
  obtain ⟨x, hx⟩ := hall f (by simp)
  have := h.2 H enc w fuel _ _ hx
  rw [h.1, List.take_of_length_le (by simp; omega)] at this
  exact this
theorem OpensF.cons {α β : Type} {P : Program} {f : Field} {fs : List Field} {d : Kd α} {d' : Kd β} {ok : α → Prop} {ok' : β → Prop} {n : Nat} (h : Opens P f.type d ok) (hs : OpensF P fs n d' ok') (hn : n = f.offset + d.sz) : OpensF P (f :: fs) f.offset (Kd.pair d d') (fun y => ok y.1 ∧ ok' y.2) := by
  intro H enc w fuel cs hl hall
  obtain ⟨x, hx⟩ := hall f (by simp)
  obtain ⟨y, hK, hok⟩ := h.2 H enc w fuel _ _ hx
  have hl' : cs.length = n + d'.sz := by rw [hl, hn]; show f.offset + (d.sz + d'.sz) = _; omega
  obtain ⟨y', hK', hok'⟩ := hs H enc w fuel cs hl' (fun g hg => hall g (by simp [hg]))
  rw [h.1] at hK
  refine ⟨(y, y'), ⟨_, _, ?_, hK, hK'⟩, hok, hok'⟩
  rw [hn, ← List.drop_drop, List.take_append_drop]
theorem Opens.struct {α : Type} {P : Program} {t : TypeId} {fs : Array Field} {d : Kd α} {ok : α → Prop} (ht : P.underlying t = some (.struct fs)) (hc : P.cellsOf t = d.sz) (h : OpensF P fs.toList 0 d ok) : Opens P t d ok := by
  refine ⟨hc, fun H enc w fuel cs x hx => ?_⟩
  obtain ⟨xs, n, rfl, _, hl, hlen, hf⟩ := DataW.trod_struct ht hx
  have := h H enc w n cs (by rw [hl, hc]; omega) (fun f hf' => by
    obtain ⟨i, hi⟩ := List.getElem?_of_mem hf'
    have hi' : fs[i]? = some f := by simpa using hi
    have h2 := hf i f hi'
    have h3 : i < xs.length := by rw [hlen]; exact (Array.getElem?_eq_some_iff.1 hi').1
    rw [List.getElem?_eq_getElem h3] at h2
    exact ⟨_, h2⟩)
  simpa using this
theorem Opens.iso {α β : Type} {P : Program} {t : TypeId} {d : Kd α} {ok : α → Prop} (f : β → α) (g : α → β) (hfg : ∀ x, f (g x) = x) (h : Opens P t d ok) : Opens P t (Kd.iso d f) (fun y => ok (f y)) :=
  ⟨h.1, fun H enc w fuel cs x hx => by obtain ⟨y, hK, hok⟩ := h.2 H enc w fuel cs x hx; exact ⟨g y, by show d.K w (f (g y)) cs; rw [hfg]; exact hK, by show ok (f (g y)); rw [hfg]; exact hok⟩⟩

/-- An argument is opened: its value by its cells, and what these say. -/
theorem Opens.arg {α : Type} {H : Type} {enc : TypeId × Value → H} {P : Program} {w : World} {t : TypeId} {v : Value} {x : DataW H} {p : List MemPlace} {d : Kd α} {ok : α → Prop} (h : Opens P t d ok) (ht : DataW.Trod enc P w 0 (fun _ => true) true t v x p) : ∃ y, d.K w y v.cells.toList ∧ ok y := by
  obtain ⟨fuel, hf⟩ := ht
  exact h.2 H enc w fuel _ _ hf
end Go.Proofs.YtmhfbpdahfepgaaW.Open
/- The row of the law PmapHigh, out of its walk. -/
namespace Go.Proofs.Ytmhfbpdahfepgaa.pmapHigh
open Go.ChangeShapes Go.WideShapes Go.ChangeAt Go.RowKit
open Go.ChangeMaps (open_string shut_string)
open Go.Proofs.YtmhfbpdahfepgaaW.Open Go.Proofs.YtmhfbpdahfepgaaW.PrintWords
theorem own : ownKnob Try.prog.godebug = none := by kernel_rfl
theorem laidOut : laidOutB Try.prog = true := by kernel_rfl
theorem op0 : Opens Try.prog 22 (Kd.slice 5 (Kd.int .u8)) (fun xs => xs.length ≤ maxLen ∧ ∀ x ∈ xs, (Lit.int .u8 x).wf = true) := Opens.slice Try.underlying22 (by kernel_rfl) (Opens.int Try.underlying5 (by kernel_rfl))
set_option maxRecDepth 100000 in
theorem lifted (os : Os) (started : os.Started) (H : Type) (enc : TypeId × Value → H) :
    ReturnsInHanded {} Try.checked os 3 .any (Rows.pmapHighSpec.pre6 enc Try.prog Try.f3 Rows.pmapHighRow.domain false) (Rows.pmapHighSpec.post enc Try.prog Try.f3 false true false false) := by
  refine returnsInHanded_of_change (C := Try.checked) own started (by kernel_rfl) Try.func3
    (ChangeSpec.witness6 (enc := enc) (C := Try.checked) false ⟨#[], #[.slice none 0 0, .int .u8 0, .int .u8 0], []⟩ 8 (by kernel_rfl) (by kernel_rfl) (by kernel_rfl) (by kernel_rfl)) ?_
  intro W base args ds gs before hval0 hW hcnd _
  have hval : ∀ (j : Nat) t v, Try.f3.params[j]? = some t → args[j]? = some v → Value.okWide Try.prog W .any base t v := hval0
  have hW' := hW
  obtain ⟨p, q, hA0, hV, rfl, hfz, hnd⟩ := hW
  have hA : DataW.TrodAll enc Try.prog W 0 (fun _ => true) true Try.f3.params.toList args.toList ds p := hA0
  rw [Try.params3] at hA hval
  obtain ⟨v0, vs0, d0, ds0, p0, q0, hargs, rfl, rfl, h0, r0⟩ := trodAll_cons hA
  obtain ⟨v1, vs1, d1, ds1, p1, q1, rfl, rfl, rfl, h1, r1⟩ := trodAll_cons r0
  obtain ⟨v2, vs2, d2, ds2, p2, q2, rfl, rfl, rfl, h2, r2⟩ := trodAll_cons r1
  obtain ⟨rfl, rfl, rfl⟩ := trodAll_nil r2
  obtain rfl : args = #[v0, v1, v2] := by cases args; simp_all
  obtain ⟨rfl, rfl⟩ := trodVars_none hV
  have k0 := h0
  have lt0 : ∀ x ∈ p0, x.block < W.heap.size := by obtain ⟨m, hm⟩ := k0; exact DataW.trod_lt m _ _ _ hm
  obtain ⟨a0, len0, cap0, rfl⟩ := okWide_slice Try.underlying22 (hval 0 22 v0 rfl rfl)
  obtain ⟨l0, hK0, ok0⟩ := Opens.arg op0 h0
  obtain ⟨A0, c0, e0, hc0, hr0⟩ := hK0
  simp only [Value.cells, List.cons.injEq, Value.slice.injEq, and_true] at e0
  obtain ⟨rfl, rfl, rfl⟩ := e0
  obtain ⟨a1, rfl, rfl, rfl, w1⟩ := open_int Try.underlying5 (hval 1 5 v1 rfl rfl) h1
  obtain ⟨a2, rfl, rfl, rfl, w2⟩ := open_int Try.underlying5 (hval 2 5 v2 rfl rfl) h2
  clear hA0 hval0
  refine (pmapHigh_walk a0 cap0 l0 a1 a2 W hr0 hc0 ok0 w1 w2).mono fun e W' ⟨he, bel⟩ => ?_
  subst he
  exact ⟨_, rfl, _, _, _, [], _, [], hW', trodAll_mk1 (shut_bool Try.underlying4 _), (trodAll_cons_mk (Below.trod laidOut (by kernel_rfl) (of_decide_eq_true (by kernel_rfl)) k0 bel lt0) (trodAll_cons_mk (shut_int Try.underlying5 w1) (trodAll_cons_mk (shut_int Try.underlying5 w2) trodAll_mk0))), rfl, bel.frame _, fun h => by cases h⟩
end Go.Proofs.Ytmhfbpdahfepgaa.pmapHigh
namespace Go.Proofs.Ytmhfbpdahfepgaa
theorem pmapHigh_holds : Rows.PmapHighSaid :=
  OpenClaim.holds_of_wide 3 Try.f3 rfl rfl rfl rfl rfl rfl rfl ⟨rfl, rfl, rfl, rfl, rfl⟩ rfl rfl rfl rfl rfl (by kernel_rfl) Try.func3 (by kernel_rfl)
    (of_decide_eq_true (by kernel_rfl)) (by unfold Func.isWrapper; first | (rw [if_pos (by decide +kernel)]; kernel_rfl) | (rw [if_neg (by decide +kernel)]; exact ⟨rfl, rfl⟩))
    (fun os started H enc _ => pmapHigh.lifted os started H enc)
#print axioms pmapHigh_holds
end Go.Proofs.Ytmhfbpdahfepgaa
