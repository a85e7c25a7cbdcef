/-
  The row of the law PmapPlays, out of its walk.
-/
import Derived.Test.YtmhfbpdahfepgaaB9
import Derived.Deep.RegionHeld3
import Derived.Test.YtmhfbpdahfepgaaWRepsOne
import Derived.Deep.CutBlock
import Derived.Test.YtmhfbpdahfepgaaWWords
import Derived.ProofKit
import Derived.OpenShut
import Derived.ChangeArms
import Derived.Test.YtmhfbpdahfepgaaRows
import Derived.WalkKit
import Derived.ShutString
import Derived.ChangeOld
import Derived.Below
/- What is gone is freed: plain laws; acts as a law gets them. -/
namespace Go.Proofs.Ytmhfbpdahfepgaa.Pm
open Go.RowKit Go.Proofs.YtmhfbpdahfepgaaW.PrintWords
theorem ints_len : ∀ (n : Nat) (l : List Int), l.Nodup → (∀ x ∈ l, 1 ≤ x ∧ x ≤ (n : Int)) → l.length ≤ n
  | 0, l, _, h => by
    cases l with
    | nil => exact Nat.le_refl _
    | cons x l => have := h x (by simp); omega
  | n + 1, l, hn, h => by
    by_cases hm : ((n + 1 : Nat) : Int) ∈ l
    · have i := ints_len n (l.erase ((n + 1 : Nat) : Int)) (hn.erase _) (fun x hx => by
        have h1 := (hn.mem_erase_iff).mp hx
        have h2 := h x h1.2
        have h3 := h1.1
        omega)
      rw [List.length_erase_of_mem hm] at i
      omega
    · have i := ints_len n l hn (fun x hx => by
        have h2 := h x hx
        have h3 : x ≠ ((n + 1 : Nat) : Int) := fun e => hm (e ▸ hx)
        omega)
      omega
theorem del_ok {G : Nat} {a : Ar N2} {h : Hd} (ok : ArOk G a) (hh : (a.get h).isSome = true) : ArOk G (a.del nd0 h) ∧ (a.del nd0 h).room = a.room + 1 ∧ (a.del nd0 h).most = a.most := by
  unfold Ar.get at hh
  rw [Option.isSome_map] at hh
  obtain ⟨s, hs⟩ := Option.isSome_iff_exists.mp hh
  obtain ⟨j, hj, e1, e2, e3, e4⟩ := slot_at hs
  have hd : a.slots.getD j ⟨0, false, nd0⟩ = a.slots[j] := by rw [List.getD_eq_getElem?_getD, List.getElem?_eq_getElem hj]; rfl
  have hnot : h.s ∉ a.free := fun hm => by
    have := (ok.free h.s hm).2.2
    rw [show (h.s - 1).toNat = j by omega, hd, e2, e3] at this
    cases this
  have hnd : (a.free ++ [h.s]).Nodup := List.nodup_append.mpr ⟨ok.nodup, by simp, fun x hx y hy e => by simp at hy; subst e; rw [hy] at hx; exact hnot hx⟩
  have hin : ∀ x ∈ a.free ++ [h.s], 1 ≤ x ∧ x ≤ (a.slots.length : Int) := fun x hx => by
    rw [List.mem_append] at hx
    rcases hx with hx | hx
    · exact ⟨(ok.free x hx).1, (ok.free x hx).2.1⟩
    · simp at hx; subst hx; omega
  have hlen := ints_len _ _ hnd hin
  rw [del_some hs]
  have ej : (h.s - 1).toNat = j := by omega
  rw [ej]
  refine ⟨⟨⟨ok.small.most, by simpa using ok.small.slots, by simpa using hlen⟩, fun i hi => ?_, hnd, fun s' hs' => ?_⟩, by simp [Ar.room]; omega, rfl⟩
  · have := hin i hi
    refine ⟨this.1, by simpa using this.2, ?_⟩
    show ((a.slots.set j ⟨s.gen, false, nd0⟩).getD (i - 1).toNat ⟨0, false, nd0⟩).used = false
    by_cases e : (i - 1).toNat = j
    · rw [List.getD_eq_getElem?_getD, e, List.getElem?_set_self hj]; rfl
    · rw [List.getD_eq_getElem?_getD, List.getElem?_set_ne (by omega), ← List.getD_eq_getElem?_getD]
      rw [List.mem_append] at hi
      rcases hi with hi | hi
      · exact (ok.free i hi).2.2
      · simp at hi; subst hi; exact absurd ej e
  · rcases List.mem_or_eq_of_mem_set hs' with hs' | rfl
    · exact ok.gen s' hs'
    · have := ok.gen _ (List.getElem_mem hj); rw [e2] at this; exact this
/-- An arena in which the first k of these were freed. -/
structure Freed (G : Nat) (a2 : Ar N2) (gone : List Hd) (k : Nat) (a : Ar N2) : Prop where
  get : ∀ h, a.get h = if h ∈ gone.take k then none else a2.get h
  ok : ArOk G a
  room : a.room = a2.room + k
  most : a.most = a2.most
theorem Freed.start {G : Nat} {a2 : Ar N2} {gone : List Hd} (ok : ArOk G a2) : Freed G a2 gone 0 a2 := ⟨fun h => by simp, ok, by simp, rfl⟩
theorem Freed.next {G : Nat} {a2 a : Ar N2} {gone : List Hd} {k : Nat} (F : Freed G a2 gone k a) (hk : k < gone.length) (hl : (a2.get gone[k]).isSome = true) (hn : gone.Nodup) : (a.get gone[k]).isSome = true ∧ Freed G a2 gone (k + 1) (a.del nd0 gone[k]) := by
  have hnot : gone[k] ∉ gone.take k := fun hm => by
    have hn2 : (gone.take k ++ gone.drop k).Nodup := by rw [List.take_append_drop]; exact hn
    have hd : gone[k] ∈ gone.drop k := by rw [List.drop_eq_getElem_cons hk]; exact List.mem_cons_self
    exact (List.nodup_append.mp hn2).2.2 _ hm _ hd rfl
  have h1 : (a.get gone[k]).isSome = true := by rw [F.get, if_neg hnot]; exact hl
  obtain ⟨x1, x2, x3⟩ := del_ok F.ok h1
  refine ⟨h1, ⟨fun h => ?_, x1, by rw [x2, F.room]; omega, x3.trans F.most⟩⟩
  rw [del_get h1, F.get, List.take_succ_eq_append_getElem hk]
  by_cases e : h = gone[k]
  · rw [if_pos e, if_pos (by rw [e]; exact List.mem_append.mpr (.inr (List.mem_singleton.mpr rfl)))]
  · rw [if_neg e]
    by_cases hm : h ∈ gone.take k
    · rw [if_pos hm, if_pos (List.mem_append.mpr (.inl hm))]
    · rw [if_neg hm, if_neg (fun x => (List.mem_append.mp x).elim hm (fun y => e (List.mem_singleton.mp y)))]
theorem lies_congr {a a' : Ar N2} : ∀ {t : T2}, (∀ h ∈ hds t, a'.get h = a.get h) → Lies a t → Lies a' t
  | .leaf, _, _ => trivial
  | .node h k v l r hi, hk, H => ⟨H.1, by rw [hk h (by simp [hds])]; exact H.2.1, lies_congr (fun x hx => hk x (by simp [hds, hx])) H.2.2.1, lies_congr (fun x hx => hk x (by simp [hds, hx])) H.2.2.2⟩
/-- Of a step: how nodes of both versions stand to those that were made, and are gone. -/
theorem Step.perm {G : Nat} {a a' : Ar N2} {t t' : T2} {made gone : List Hd} (S : Step G a t a' t' made gone) : (hds t' ++ gone).Perm (hds t ++ made) := by
  rw [List.perm_iff_count]
  intro x
  have := S.cnt x
  rw [List.count_append, List.count_append]
  exact this
theorem Step.nodup2 {G : Nat} {a a' : Ar N2} {t t' : T2} {made gone : List Hd} (S : Step G a t a' t' made gone) (hv : Ver a t) : (hds t' ++ gone).Nodup := by
  refine S.perm.nodup_iff.mpr (List.nodup_append.mpr ⟨hds_nodup hv.lies hv.sorted, S.nodup, fun x hx y hy e => ?_⟩)
  subst e
  obtain ⟨n, hn, _⟩ := hds_get hv.lies x hx
  rw [S.new x hy] at hn; cases hn
theorem Step.goneIn {G : Nat} {a a' : Ar N2} {t t' : T2} {made gone : List Hd} (S : Step G a t a' t' made gone) (hv : Ver a t) : ∀ h ∈ gone, (a'.get h).isSome = true := by
  intro h hh
  have hm : h ∈ hds t ++ made := S.perm.mem_iff.mp (by simp [hh])
  rw [List.mem_append] at hm
  rcases hm with hm | hm
  · obtain ⟨n, hn, _⟩ := hds_get hv.lies h hm
    rw [S.keep h n hn]; rfl
  · exact S.isNew h hm
theorem Freed.ver {G G' : Nat} {a a2 a' : Ar N2} {t t2 : T2} {made gone : List Hd} (S : Step G' a t a2 t2 made gone) (hv : Ver a t) (F : Freed G a2 gone gone.length a') : Ver a' t2 ∧ a'.room = a.room + (pairs t).length - (pairs t2).length := by
  have nd := List.nodup_append.mp (S.nodup2 hv)
  have hg := F.get
  rw [List.take_length] at hg
  refine ⟨⟨lies_congr (fun h hh => by rw [hg, if_neg (fun hm => nd.2.2 h hh h hm rfl)]) S.ver.lies, S.ver.avl, S.ver.sorted⟩, ?_⟩
  have h1 := S.perm.length_eq
  rw [List.length_append, List.length_append, hds_len, hds_len] at h1
  have h2 := F.room
  have h3 := S.room
  omega
/-! ### Acts -/
abbrev ActT := Bool × Int × Int × Int × Bool
def actKd : Kd ActT := Kd.pair Kd.bool (Kd.pair (Kd.int .u8) (Kd.pair (Kd.int .u8) (Kd.pair (Kd.int .u8) Kd.bool)))
theorem act_open {w : World} {x : ActT} {cs : List Value} (h : actKd.K w x cs) : cs = [.bool x.1, .int .u8 x.2.1, .int .u8 x.2.2.1, .int .u8 x.2.2.2.1, .bool x.2.2.2.2] := by
  obtain ⟨_, _, rfl, rfl, _, _, rfl, rfl, _, _, rfl, rfl, _, _, rfl, rfl, rfl⟩ := h
  rfl
theorem act_at {w : World} {A : Option Addr} {l : List ActT} (h : Kd.C actKd w A l.length l) (i : Nat) (hi : i < l.length) :
    ∃ ad, A = some ad ∧ w.cell? (ad.add (i * 5)) = some (.bool l[i].1) ∧ w.cell? ⟨(ad.add (i * 5)).block, (ad.add (i * 5)).off + 1, none⟩ = some (.int .u8 l[i].2.1) ∧ w.cell? ⟨(ad.add (i * 5)).block, (ad.add (i * 5)).off + 2, none⟩ = some (.int .u8 l[i].2.2.1) ∧ w.cell? ⟨(ad.add (i * 5)).block, (ad.add (i * 5)).off + 3, none⟩ = some (.int .u8 l[i].2.2.2.1) ∧ w.cell? ⟨(ad.add (i * 5)).block, (ad.add (i * 5)).off + 4, none⟩ = some (.bool l[i].2.2.2.2) := by
  obtain ⟨ad, e, hc⟩ := h.2.2 (by omega)
  obtain ⟨cs, _, hK, hcell⟩ := hc i l[i] (List.getElem?_eq_getElem hi)
  have := act_open hK
  subst this
  have f : ∀ j u, ([.bool l[i].1, .int .u8 l[i].2.1, .int .u8 l[i].2.2.1, .int .u8 l[i].2.2.2.1, .bool l[i].2.2.2.2] : List Value)[j]? = some u → w.cell? (ad.add (i * 5 + j)) = some u := hcell
  exact ⟨ad, e, f 0 _ rfl, by rw [← add_field _ _ 1 (by omega)]; exact f 1 _ rfl, by rw [← add_field _ _ 2 (by omega)]; exact f 2 _ rfl, by rw [← add_field _ _ 3 (by omega)]; exact f 3 _ rfl, by rw [← add_field _ _ 4 (by omega)]; exact f 4 _ rfl⟩
theorem acts_below {w w' : World} {A : Option Addr} {l : List ActT} (h : Kd.C actKd w A l.length l) (hb : Below w.heap.size w w') : Kd.C actKd w' A l.length l := Kd.C_below h hb
end Go.Proofs.Ytmhfbpdahfepgaa.Pm
/- The law PmapPlays, plain parts: what is made and what is gone as sets; rows of rows; frames. -/
namespace Go.Proofs.Ytmhfbpdahfepgaa.Pm
open Go.RowKit Go.Proofs.YtmhfbpdahfepgaaW.PrintWords
theorem count_nodup {l : List Hd} (hl : l.Nodup) (x : Hd) : l.count x ≤ 1 := by
  induction l with
  | nil => simp
  | cons y l ih =>
    have h := List.nodup_cons.mp hl
    have i := ih h.2
    by_cases e : y = x
    · subst e
      have : l.count y = 0 := Nat.eq_zero_of_not_pos fun hp => h.1 (List.count_pos_iff.mp hp)
      rw [List.count_cons_self]; omega
    · rw [List.count_cons_of_ne e]; exact i
theorem perm_of_mem {l r : List Hd} (hl : l.Nodup) (hr : r.Nodup) (h : ∀ x, x ∈ l ↔ x ∈ r) : l.Perm r := by
  rw [List.perm_iff_count]
  intro x
  have h1 := count_nodup hl x
  have h2 := count_nodup hr x
  have h3 : 0 < l.count x ↔ 0 < r.count x := by rw [List.count_pos_iff, List.count_pos_iff]; exact h x
  omega
theorem mem_hminus {l r : List Hd} {x : Hd} : x ∈ hminus l r ↔ x ∈ l ∧ x ∉ r := by
  unfold hminus
  rw [List.mem_filter]
  simp
theorem hminus_nil {l r : List Hd} (h : ∀ x ∈ l, x ∈ r) : hminus l r = [] := by
  unfold hminus
  rw [List.filter_eq_nil_iff]
  intro x hx
  simp [h x hx]
theorem hminus_nodup {l r : List Hd} (h : l.Nodup) : (hminus l r).Nodup := List.Pairwise.filter _ h
theorem sets_of_mem {l r : List Hd} (hl : l.Nodup) (hr : r.Nodup) (h : ∀ x, x ∈ l ↔ x ∈ r) : l.length = r.length ∧ hminus l r = [] ∧ hminus r l = [] :=
  ⟨(perm_of_mem hl hr h).length_eq, hminus_nil fun x hx => (h x).mp hx, hminus_nil fun x hx => (h x).mpr hx⟩
theorem Step.sets {G : Nat} {a a' : Ar N2} {t t' : T2} {made gone : List Hd} (S : Step G a t a' t' made gone) (hv : Ver a t) (hg : ∀ x ∈ gone, x ∈ hds t) :
    (made.length = (hminus (hds t') (hds t)).length ∧ hminus made (hminus (hds t') (hds t)) = [] ∧ hminus (hminus (hds t') (hds t)) made = []) ∧
    (gone.length = (hminus (hds t) (hds t')).length ∧ hminus gone (hminus (hds t) (hds t')) = [] ∧ hminus (hminus (hds t) (hds t')) gone = []) := by
  have P : ∀ x, (x ∈ hds t' ∨ x ∈ gone) ↔ (x ∈ hds t ∨ x ∈ made) := fun x => by
    have := S.perm.mem_iff (a := x)
    simpa [List.mem_append] using this
  have nd := List.nodup_append.mp (S.nodup2 hv)
  have no := hds_nodup hv.lies hv.sorted
  have fresh : ∀ x ∈ made, x ∉ hds t := fun x hx hm => by
    obtain ⟨n, hn, _⟩ := hds_get hv.lies x hm
    rw [S.new x hx] at hn; cases hn
  refine ⟨sets_of_mem S.nodup (hminus_nodup nd.1) fun x => ?_, sets_of_mem nd.2.1 (hminus_nodup no) fun x => ?_⟩
  · rw [mem_hminus]
    constructor
    · intro hx
      refine ⟨?_, fresh x hx⟩
      rcases (P x).mpr (.inr hx) with h | h
      · exact h
      · exact absurd (hg x h) (fresh x hx)
    · rintro ⟨h1, h2⟩
      rcases (P x).mp (.inl h1) with h | h
      · exact absurd h h2
      · exact h
  · rw [mem_hminus]
    constructor
    · intro hx
      exact ⟨hg x hx, fun h => nd.2.2 x h x hx rfl⟩
    · rintro ⟨h1, h2⟩
      rcases (P x).mpr (.inl h1) with h | h
      · exact absurd h h2
      · exact h
theorem acted_gone {a : Ar N2} {t u : T2} {gone : List Hd} (H : Acted a t u gone) (hl : Lies a t) : ∀ x ∈ gone, x ∈ hds t := fun x hx => by
  have h1 := H.cnt x
  have h2 : 0 < Pm.cnt x gone := List.count_pos_iff.mpr hx
  rw [lies_ohds hl] at h1
  exact List.count_pos_iff.mp (show 0 < Pm.cnt x (hds t) by omega)
/-- As EditOut, and what is gone was there. -/
def EditOut3 (w0 W : World) (B m aa : Nat) (G : Nat) (a : Ar N2) (t : T2) (ps : List (Int × Int)) (e : Ending) (w' : World) : Prop :=
  ∃ a' t' made gone Am cm Ag cg lm lg, Step G a t a' t' made gone ∧ (∀ x ∈ gone, x ∈ hds t) ∧ pairs t' = ps ∧ e = .returned (.tuple #[.agg #[.int .i64 t'.h.s, .int .i64 t'.h.g, .slice Am lm cm, .slice Ag lg cg], .bool true]) ∧ FS w0 w' B m aa (.slice Ag lg cg) (.slice Am lm cm) a' made gone ∧ Fr W w'
theorem mput_law3 (w0 W : World) (B m aa : Nat) (a : Ar N2) (t : T2) (k v : Int) (G : Nat) (HM : MapB w0 W B m aa a) (hv : Ver a t) (ok : ArOk G a) (hG : G ≤ 900000) (hn : (pairs t).length ≤ 60) (hr : 3 * t.hi + 1 ≤ a.room) :
    Calls Try.prog 16 #[.pointer (some ⟨m, 0, none⟩), hdV t.h, .int .i64 k, .int .i64 v] W (EditOut3 w0 W B m aa G a t (lput cmpI k v (pairs t))) := by
  have h8 := hi_60 hv.avl hn
  obtain ⟨S, hp, hrt, hfr, hfr2⟩ := (acted_put hv k v).step hv ok hn hr
  refine (mput_calls w0 W B m aa a t k v G HM hv.lies hv.avl (by omega) ok (by omega) (by omega)).mono ?_
  rintro e w' ⟨mv, gv, rfl, hfs, hF⟩
  obtain ⟨Am, cm, rfl, _⟩ := OwnRow.slice_ hfs.hmade
  obtain ⟨Ag, cg, rfl, _⟩ := OwnRow.slice_ hfs.hgone
  exact ⟨_, _, _, _, Am, cm, Ag, cg, _, _, S, acted_gone (acted_put hv k v) hv.lies, by rw [hp, tput_pairs cmpI_ok k v t hv.sorted], by rw [hrt]; rfl, hfs, hF⟩
theorem mdel_law3 (w0 W : World) (B m aa : Nat) (a : Ar N2) (t : T2) (k : Int) (G : Nat) (HM : MapB w0 W B m aa a) (hv : Ver a t) (ok : ArOk G a) (hG : G ≤ 900000) (hn : (pairs t).length ≤ 60) (hr : 3 * t.hi + 1 ≤ a.room) (hk : (lhas cmpI k (pairs t)).isSome = true) :
    Calls Try.prog 23 #[.pointer (some ⟨m, 0, none⟩), hdV t.h, .int .i64 k] W (EditOut3 w0 W B m aa G a t (ldel cmpI k (pairs t))) := by
  have h8 := hi_60 hv.avl hn
  obtain ⟨S, hp, hrt, hfr, hfr2⟩ := (acted_del hv k).step hv ok hn hr
  refine (mdel_calls w0 W B m aa a t k G HM hv.lies hv.avl (by omega) (by rw [tget_pairs k t hv.sorted]; exact hk) ok (by omega) (by omega)).mono ?_
  rintro e w' ⟨mv, gv, rfl, hfs, hF⟩
  obtain ⟨Am, cm, rfl, _⟩ := OwnRow.slice_ hfs.hmade
  obtain ⟨Ag, cg, rfl, _⟩ := OwnRow.slice_ hfs.hgone
  exact ⟨_, _, _, _, Am, cm, Ag, cg, _, _, S, acted_gone (acted_del hv k) hv.lies, by rw [hp, tdel_pairs cmpI_ok k t hv.sorted], by rw [hrt]; rfl, hfs, hF⟩
/-- A version was made, what is handed out lies in a block of its own; of what the round began with nothing else was changed. -/
def CutE3 (w0 wr wx : World) (B m aa G eb : Nat) (a : Ar N2) (t : T2) (ps : List (Int × Int)) : Prop :=
  ∃ a2 t2 made gone Am cm Ag cg lm lg, Step G a t a2 t2 made gone ∧ (∀ x ∈ gone, x ∈ hds t) ∧ pairs t2 = ps ∧ wx.heap[eb]? = some (.cells #[.int .i64 t2.h.s, .int .i64 t2.h.g, .slice Am lm cm, .slice Ag lg cg] 39 (0, 0)) ∧ FS w0 wx B m aa (.slice Ag lg cg) (.slice Am lm cm) a2 made gone ∧ Fr wr wx
theorem cutE3_store {w0 wr w3 : World} {B m aa G eb : Nat} {a a2 : Ar N2} {t t2 : T2} {ps : List (Int × Int)} {made gone : List Hd} {Am Ag : Option Addr} {cm cg lm lg : Nat} (S : Step G a t a2 t2 made gone) (hg : ∀ x ∈ gone, x ∈ hds t) (hp : pairs t2 = ps) (hfs : FS w0 w3 B m aa (.slice Ag lg cg) (.slice Am lm cm) a2 made gone) (hF : Fr wr w3) (hn : w3.heap[eb]? = some (.cells #[.int .i64 0, .int .i64 0, .slice none 0 0, .slice none 0 0] 39 (0, 0))) (hB : B ≤ eb) (hr : wr.heap.size ≤ eb) :
    CutE3 w0 wr ((((w3.setCell ⟨eb, 0, none⟩ (.int .i64 t2.h.s)).setCell ⟨eb, 1, none⟩ (.int .i64 t2.h.g)).setCell ⟨eb, 2, none⟩ (.slice Am lm cm)).setCell ⟨eb, 3, none⟩ (.slice Ag lg cg)) B m aa G eb a t ps := by
  obtain ⟨h1, h2, h3⟩ := hfs.box (root := t2.h) hn hB hF hr
  exact ⟨a2, t2, made, gone, Am, cm, Ag, cg, lm, lg, S, hg, hp, h1, h2, h3⟩
theorem ownP_four {w3 : World} {B eb : Nat} {v u0 u1 u2 u3 : Value} {l : List (Int × Int)} (h : OwnP w3 B v l) {cs : Array Value} (hn : w3.heap[eb]? = some (.cells cs 39 (0, 0))) : OwnP ((((w3.setCell ⟨eb, 0, none⟩ u0).setCell ⟨eb, 1, none⟩ u1).setCell ⟨eb, 2, none⟩ u2).setCell ⟨eb, 3, none⟩ u3) B v l := by
  have hne := OwnRow.ne_block h hn (by decide)
  obtain ⟨inner, ho, hr⟩ := h
  exact ⟨inner, own_setCell (own_setCell (own_setCell (own_setCell ho hne u0) hne u1) hne u2) hne u3, hr⟩
theorem below_four {B eb : Nat} {w0 w1 : World} {u0 u1 u2 u3 : Value} (h : Below B w0 w1) (hB : B ≤ eb) : Below B w0 ((((w1.setCell ⟨eb, 0, none⟩ u0).setCell ⟨eb, 1, none⟩ u1).setCell ⟨eb, 2, none⟩ u2).setCell ⟨eb, 3, none⟩ u3) :=
  (((h.setCell (p := ⟨eb, 0, none⟩) hB _).setCell (p := ⟨eb, 1, none⟩) hB _).setCell (p := ⟨eb, 2, none⟩) hB _).setCell (p := ⟨eb, 3, none⟩) hB _
/-! ### Rows of rows -/
abbrev SlV := Option Addr × Nat × Nat
def slV (x : SlV) : Value := .slice x.1 x.2.1 x.2.2
abbrev OwnW (W : World) (B : Nat) (v : Value) (ws : List SlV) : Prop := OwnRow (fun x cs => cs = [slV x]) 29 1 W B v ws
theorem row_over {α β : Type} {R : α → List Value → Prop} {R' : β → List Value → Prop} {e e' size size' B B' : Nat} {W w1 : World} {v v' : Value} {ps : List α} {qs : List β} (h : OwnRow R e size W B v ps) (k : OwnRow R' e' size' W B' v' qs) (hne : e ≠ e') (hg : W.grownBy w1 v'.ownBlock) : OwnRow R e size w1 B v ps := by
  obtain ⟨i1, h1, _⟩ := id h
  obtain ⟨i2, h2, _⟩ := k
  exact h.other hg (own_type_ne h1 h2 hne)
theorem MapB.grown {α : Type} {R : α → List Value → Prop} {e size B' : Nat} {w0 W w1 : World} {B m aa : Nat} {a : Ar N2} {v : Value} {ps : List α} (H : MapB w0 W B m aa a) (k : OwnRow R e size W B' v ps) (hg : W.grownBy w1 v.ownBlock) (hb : Below B w0 w1) (h1 : e ≠ 84) (h2 : e ≠ 96) (h3 : e ≠ 3) (h4 : e ≠ 70) : MapB w0 w1 B m aa a := by
  obtain ⟨⟨sv, fv, A⟩, hm, hB⟩ := H
  obtain ⟨inner, hown, _⟩ := id k
  refine ⟨⟨sv, fv, hb, Nat.le_trans A.sz hg.size, A.ge, grown_blk hg k A.ha h1, row_over A.hs k (Ne.symm h2) hg, own_other A.hf hg (own_type_ne A.hf hown (Ne.symm h3))⟩, grown_blk hg k hm h4, hB⟩
theorem OwnW.fr {W W' : World} {B : Nat} {v : Value} {l : List SlV} (h : OwnW W B v l) (hF : Fr W W') : OwnW W' B v l := by
  obtain ⟨inner, ho, hr⟩ := h
  exact ⟨inner, own_fr ho hF (by decide) (by decide) (by decide), hr⟩
/-- The rows of the versions: each as its version's pairs. -/
def Wants (W : World) (B : Nat) (us : List (T2 × SlV)) : Prop := ∀ u ∈ us, OwnP W B (slV u.2) (pairs u.1)
theorem Wants.below {W W' : World} {B : Nat} {us : List (T2 × SlV)} (h : Wants W B us) (hb : Below W.heap.size W W') : Wants W' B us := fun u hu => OwnRow.below (h u hu) hb
theorem Wants.fr {W W' : World} {B : Nat} {us : List (T2 × SlV)} (h : Wants W B us) (hF : Fr W W') : Wants W' B us := fun u hu => OwnP.fr (h u hu) hF
theorem Wants.set_ {W : World} {B n : Nat} {us : List (T2 × SlV)} {cs : Array Value} {t : TypeId} (h : Wants W B us) (hb : W.heap[n]? = some (.cells cs t (0, 0))) (ht : 64 ≠ t) (j : Nat) (u : Value) : Wants (W.setCell ⟨n, j, none⟩ u) B us := fun x hx => OwnRow.set_ (h x hx) hb ht j u
theorem Wants.over {β : Type} {R' : β → List Value → Prop} {e' size' B' : Nat} {W w1 : World} {B : Nat} {v' : Value} {qs : List β} {us : List (T2 × SlV)} (h : Wants W B us) (k : OwnRow R' e' size' W B' v' qs) (hne : 64 ≠ e') (hg : W.grownBy w1 v'.ownBlock) : Wants w1 B us := fun u hu => row_over (h u hu) k hne hg
theorem Wants.snoc {W : World} {B : Nat} {us : List (T2 × SlV)} {t : T2} {x : SlV} (h : Wants W B us) (hx : OwnP W B (slV x) (pairs t)) : Wants W B (us ++ [(t, x)]) := fun u hu => by
  rw [List.mem_append] at hu
  rcases hu with hu | hu
  · exact h u hu
  · rw [List.mem_singleton.mp hu]; exact hx
theorem h_at {W : World} {B : Nat} {A : Option Addr} {n c : Nat} {hs : List Hd} (h : OwnH W B (.slice A n c) hs) (i : Nat) (hi : i < hs.length) : ∃ ad, A = some ad ∧ W.cell? (ad.add (i * 2)) = some (.int .i64 hs[i].s) ∧ W.cell? ⟨(ad.add (i * 2)).block, (ad.add (i * 2)).off + 1, none⟩ = some (.int .i64 hs[i].g) := by
  obtain ⟨A', c', e, hc, hr⟩ := OwnRow.reads h
  injection e with e1 e2 e3
  subst e1
  obtain ⟨ad, e, hcell⟩ := hr.2.2 (by omega)
  obtain ⟨cs, hl, hR, hcc⟩ := hcell i hs[i] (List.getElem?_eq_getElem hi)
  have h0 := hcc 0 (.int .i64 hs[i].s) (by rw [hR]; rfl)
  have h1 := hcc 1 (.int .i64 hs[i].g) (by rw [hR]; rfl)
  rw [Nat.add_zero] at h0
  rw [add_field _ _ 1 (by omega)] at h1
  exact ⟨ad, e, h0, h1⟩
theorem ldel_len' (k : Int) (ps : List (Int × Int)) : (ldel cmpI k ps).length ≤ ps.length := List.length_filter_le _ _
theorem w_at {W : World} {B : Nat} {A : Option Addr} {n c : Nat} {ws : List SlV} (h : OwnW W B (.slice A n c) ws) (i : Nat) (hi : i < ws.length) : ∃ ad, A = some ad ∧ W.cell? (ad.add i) = some (slV ws[i]) := by
  obtain ⟨A', c', e, hc, hr⟩ := OwnRow.reads h
  injection e with e1 e2 e3
  subst e1
  obtain ⟨ad, e, hcell⟩ := hr.2.2 (by omega)
  obtain ⟨cs, hl, hR, hcc⟩ := hcell i ws[i] (List.getElem?_eq_getElem hi)
  have h0 := hcc 0 (slV ws[i]) (by rw [hR]; rfl)
  simp only [Nat.mul_one, Nat.add_zero] at h0
  exact ⟨ad, e, h0⟩
end Go.Proofs.Ytmhfbpdahfepgaa.Pm
/- The walk of the law PmapPlays, at most thirty acts. -/
namespace Go.Proofs.Ytmhfbpdahfepgaa
open Go.RowKit Go.Proofs.YtmhfbpdahfepgaaW.PrintWords Pm
attribute [local go_sem high] eqHd
theorem pnew_law2000 (w V : World) (hb : Below w.heap.size w V) : Calls Try.prog 10 #[.int .i64 2000, .func (.func 11) #[] #[]] V fun e w' => (∃ m aa, e = .returned (.pointer (some ⟨m, 0, none⟩)) ∧ MapB w w' w.heap.size m aa (arNew 2000)) ∧ Below V.heap.size V w' := pnew_ok w V w.heap.size 2000 hb hb.size (by decide)
theorem psInfo : (Try.prog.info? 29).map (fun i => (i.zero, i.size, i.bytes)) = some (some (.slice none 0 0), 1, 24) := by kernel_rfl
theorem hminus_len (l r : List Hd) : (hminus l r).length ≤ l.length := List.length_filter_le _ _
set_option maxRecDepth 100000 in
set_option maxHeartbeats 60000000 in
theorem pmapPlays_walk0 (A : Option Addr) (c : Nat) (l : List ActT) (w : World) (hr : Kd.C actKd w A l.length l) (_ : l.length ≤ c) (hl : l.length ≤ 30) (hb : ∀ x ∈ l, (0 ≤ x.2.1 ∧ x.2.1 < 256) ∧ (0 ≤ x.2.2.1 ∧ x.2.2.1 < 256) ∧ 0 ≤ x.2.2.2.1 ∧ x.2.2.2.1 < 256) :
    Calls Try.prog 5 #[.slice A l.length c] w fun e w' => e = .returned (.bool true) ∧ Below w.heap.size w w' := by
  have HB := Lib.hid (Below.refl w.heap.size w)
  have HRI := Lib.hid hr
  have HBY := Lib.hid hb
  clear hr hb
  go_enter Try.func5, Try.ntmps5
  go_wp2_with (first
    | (go_at_call 9; go_loud ((refine Calls.mono (awake_calls _) ?_); rintro e w1 ⟨rfl, hb⟩; have HBn := Lib.hid (below_step (by repeat (first | (with_reducible exact HB.out) | apply below_alloc | apply pw_below_drewN | apply below_drew1 | exact HB.out)) hb); clear hb HB; have HB := HBn; clear HBn))
    | (go_at_call 10; go_loud (
        (with_reducible refine Calls.mono (pnew_law2000 w _ (by repeat (first | (with_reducible exact HB.out) | apply below_alloc | apply pw_below_drewN | apply below_drew1 | exact HB.out))) ?_);
        rintro e2 w2 ⟨⟨m, aa, rfl, hm⟩, hb2⟩;
        have HM2 := Lib.hid hm;
        clear hm hb2))
    | (fail "no arm"))
  have hsz2 := HM2.out.sz
  have HM4 := Lib.hid (HM2.out.below (show Below w2.heap.size w2 ((w2.alloc (.cells #[.int .i64 0, .int .i64 0] 28 (0, 0))).alloc (.cells #[.slice none 0 0] 29 (0, 0))) from (by repeat (first | exact Below.refl _ _ | apply below_drew1 | apply below_alloc | apply pw_below_drewN))))
  have HO4 := Lib.hid (OwnRow.below (OwnRow.lit (R := fun h cs => cs = hdC h) (ps := [H0]) (e := 28) (size := 2) w2 w.heap.size (inner := [.int .i64 0, .int .i64 0]) (Reps.c2 rfl (Reps.none _ _)) hsz2 (by simp)) (show Below (w2.alloc (.cells #[.int .i64 0, .int .i64 0] 28 (0, 0))).heap.size _ ((w2.alloc (.cells #[.int .i64 0, .int .i64 0] 28 (0, 0))).alloc (.cells #[.slice none 0 0] 29 (0, 0))) from (by repeat (first | exact Below.refl _ _ | apply below_drew1 | apply below_alloc | apply pw_below_drewN))))
  have HW4 := Lib.hid (OwnRow.lit (R := fun x cs => cs = [slV x]) (ps := [((none, 0, 0) : SlV)]) (e := 29) (size := 1) (w2.alloc (.cells #[.int .i64 0, .int .i64 0] 28 (0, 0))) w.heap.size (inner := [.slice none 0 0]) (Reps.one rfl (Reps.none _ _)) (by simp [World.size_alloc]; omega) (by simp))
  simp only [World.size_alloc] at HW4
  generalize ((w2.alloc (.cells #[.int .i64 0, .int .i64 0] 28 (0, 0))).alloc (.cells #[.slice none 0 0] 29 (0, 0))) = V4 at *
  clear HM2
  go_loopw [5, 6, 7] (fun v5 v6 v7 W' => ∃ (i : Nat) (a : Ar N2) (us : List (T2 × SlV)) (A5 A6 : Option Addr) (c5 c6 : Nat), v7 = .int .i64 i ∧ v5 = .slice A5 us.length c5 ∧ v6 = .slice A6 us.length c6 ∧ i ≤ l.length ∧ 1 ≤ us.length ∧ us.length ≤ i + 1 ∧ Hid (∀ u ∈ us, Ver a u.1 ∧ (pairs u.1).length ≤ i) ∧ Hid (OwnH W' w.heap.size (.slice A5 us.length c5) (us.map (fun u => u.1.h))) ∧ Hid (OwnW W' w.heap.size (.slice A6 us.length c6) (us.map (fun u => u.2))) ∧ Hid (Wants W' w.heap.size us) ∧ Hid (MapB w W' w.heap.size m aa a) ∧ Hid (ArOk (30 * i) a) ∧ Hid (2000 - 25 * (i : Int) ≤ a.room)) (fun _ _ v7 _ => l.length - (RowKit.intOf v7).toNat)
  case atStart => exact ⟨0, arNew 2000, [(.leaf, (none, 0, 0))], _, _, _, _, rfl, rfl, rfl, Nat.zero_le _, Nat.le_refl _, Nat.le_refl _, Lib.hid (fun u hu => by rw [List.mem_singleton.mp hu]; exact ⟨Ver.leaf _, Nat.le_refl _⟩), HO4, HW4, Lib.hid (fun u hu => by rw [List.mem_singleton.mp hu]; exact OwnRow.none_ _ _ _ _ _), HM4, Lib.hid (arNew_ok 2000 (by decide)), Lib.hid (by rw [arNew_room]; decide)⟩
  case round =>
    clear HM4 HO4 HW4 HB
    obtain ⟨i, a, us, A5, A6, c5, c6, rfl, rfl, rfl, hi, hu1, hu2, HV, HO, HW, HWS, HM, HAK, HRO⟩ := hrel
    by_cases hlt : i < l.length
    · obtain ⟨ad, e, c0, c1, c2, c3, c4⟩ := act_at (acts_below HRI.out HM.out.bel) i hlt
      subst e
      have hby := HBY.out _ (List.getElem_mem hlt)
      generalize hx : l[i] = x at *
      obtain ⟨dl, kx, vx, ox, old⟩ := x
      have HXI := Lib.hid hx
      clear hx
      dsimp only at c0 c1 c2 c3 c4 hby
      have hk0 := hby.1.1
      have hk1 := hby.1.2
      have hv0 := hby.2.1.1
      have hv1 := hby.2.1.2
      have ho0 := hby.2.2.1
      have ho1 := hby.2.2.2
      have hwk : IntKind.i64.wrap kx = kx := by rw [IntKind.wrap_i64]; omega
      have hwv : IntKind.i64.wrap vx = vx := by rw [IntKind.wrap_i64]; omega
      have hwo : IntKind.i64.wrap ox = ox := by rw [IntKind.wrap_i64]; omega
      have hwi : IntKind.i64.wrap ((i : Int) + 1) = ((i + 1 : Nat) : Int) := by rw [IntKind.wrap_i64]; omega
      have hadl := cell_lt c0
      have hBW := HM.out.sz
      clear hby
      obtain ⟨kk, hkk, hkn, hko⟩ : ∃ kk : Nat, kk < us.length ∧ (old = false → (us.length : Int) - 1 = kk) ∧ (old = true → ox % (us.length : Int) = kk) := by
        cases old with
        | false => exact ⟨us.length - 1, by omega, fun _ => by omega, fun h => (by cases h)⟩
        | true => exact ⟨(ox % (us.length : Int)).toNat, by have := Int.emod_lt_of_pos ox (show (0 : Int) < us.length by omega); have := Int.emod_nonneg ox (show (us.length : Int) ≠ 0 by omega); omega, fun h => (by cases h), fun _ => by have := Int.emod_nonneg ox (show (us.length : Int) ≠ 0 by omega); omega⟩
      have q2 : ((us.length : Int) == 0) = false := by rw [beq_eq_false_iff_ne]; omega
      go_upto_if 50 with fail
      go_cut [8] from 43 to 60 (fun v8 wx => v8 = .int .i64 kk ∧ wx = wr)
      case first =>
        as_aux_lemma =>
          cases old with
          | false =>
            have e := hkn rfl
            go_wp2
            go_meet
            exact ⟨rfl, rfl⟩
          | true =>
            have e := hko rfl
            go_wp2
            go_meet
            exact ⟨rfl, rfl⟩
      case rest =>
        obtain ⟨rfl, hcw⟩ := hcut
        have hcw2 := hcw.symm
        subst hcw2
        clear hcw hkn hko
        have HVK := Lib.hid (HV.out _ (List.getElem_mem hkk))
        have HWK := Lib.hid (HWS.out _ (List.getElem_mem hkk))
        generalize hus : us[kk] = u at *
        have HUS := Lib.hid hus
        clear hus
        obtain ⟨t, Ak, nk, ck⟩ := u
        dsimp only [slV] at HVK HWK
        have HVT := Lib.hid HVK.out.1
        have hp30 : (pairs t).length ≤ i := HVK.out.2
        have h8 := hi_60 HVT.out.avl (by omega)
        have HROOM := Lib.hid (show 3 * t.hi + 1 ≤ a.room by have := HRO.out; omega)
        clear HVK c0 c1 c2 c3 c4
        go_upto_region 17 with fail
        have HBE := Lib.hid (show Below wr.heap.size wr (wr.alloc (.cells #[.int .i64 0, .int .i64 0, .slice none 0 0, .slice none 0 0] 39 (0, 0))) from (by repeat (first | exact Below.refl _ _ | apply below_drew1 | apply below_alloc | apply pw_below_drewN)))
        have HE := Lib.hid (blk_new wr (.cells #[.int .i64 0, .int .i64 0, .slice none 0 0, .slice none 0 0] 39 (0, 0)))
        have HEB := Lib.hid (Nat.le_refl wr.heap.size)
        generalize (wr.alloc (.cells #[.int .i64 0, .int .i64 0, .slice none 0 0, .slice none 0 0] 39 (0, 0))) = wq at *
        generalize hebq : wr.heap.size = eb at HE HEB ⊢
        have HEQ := Lib.hid hebq
        clear hebq
        have HMQ := Lib.hid (HM.out.below HBE.out)
        have HOQ := Lib.hid (OwnRow.below HO.out HBE.out)
        have HWQ := Lib.hid (OwnRow.below HW.out HBE.out)
        have HWKQ := Lib.hid (OwnRow.below HWK.out HBE.out)
        obtain ⟨ad6, e6, k6⟩ := w_at HWQ.out kk (by rw [List.length_map]; exact hkk)
        subst e6
        simp only [List.getElem_map, HUS.out, slV] at k6
        have hlt6 := cell_lt k6
        obtain ⟨ad2, e2, c0, c1, c2, _, _⟩ := act_at (acts_below HRI.out HMQ.out.bel) i hlt
        cases e2
        rw [HXI.out] at c0 c1 c2
        dsimp only at c0 c1 c2
        have hadl2 := cell_lt c0
        have HB := Lib.hid (Below.refl wq.heap.size wq)
        have HWI := Lib.hid (fun (V : World) (hb : Below wq.heap.size wq V) => with_law V w.heap.size Ak nk ck (pairs t) kx vx (OwnRow.below HWKQ.out hb) HVT.out.sorted (by omega))
        have hpl := lput_len kx vx (pairs t)
        go_cut [11] from 60 to 77 (fun v11 wx => ∃ (A7 : Option Addr) (n7 c7 : Nat), v11 = .slice A7 n7 c7 ∧ Hid (OwnP wx wq.heap.size (.slice A7 n7 c7) (lput cmpI kx vx (pairs t))) ∧ Hid (Below wq.heap.size wq wx))
        case first =>
          go_region_with (first
            | (go_at_call 21; go_loud (
                (with_reducible refine Calls.mono (HWI.out _ (by repeat (first | (with_reducible exact HB.out) | apply below_alloc | apply pw_below_drewN | apply below_drew1 | exact HB.out))) ?_);
                rintro e5 w5 ⟨pv, rfl, hop, hb5⟩;
                obtain ⟨A7, c7, rfl, _⟩ := OwnRow.slice_ hop;
                have HO6 := Lib.hid (row_low hop (show wq.heap.size ≤ _ from Below.size (B := wq.heap.size) (w := wq) (by repeat (first | (with_reducible exact HB.out) | apply below_alloc | apply pw_below_drewN | apply below_drew1 | exact HB.out)))); have HB6 := Lib.hid (below_step (by repeat (first | (with_reducible exact HB.out) | apply below_alloc | apply pw_below_drewN | apply below_drew1 | exact HB.out)) hb5);
                clear hop hb5))
            | (fail "no arm"))
          all_goals
            go_wp2
            go_meet
            exact ⟨A7, _, c7, rfl, HO6, HB6⟩
        case rest =>
          obtain ⟨A7, n7, c7, rfl, HO7, HB7⟩ := hcut
          clear HB HWI c0 c1 c2 k6
          generalize wc = wd at *
          have HF7 := Lib.hid (Fr.below (HBE.out.trans (HB7.out.mono HBE.out.size)))
          have HM7 := Lib.hid (HMQ.out.below HB7.out)
          have HR7 := Lib.hid (OwnRow.below HOQ.out HB7.out)
          have HW7 := Lib.hid (OwnRow.below HWQ.out HB7.out)
          have HWK7 := Lib.hid (OwnRow.below HWKQ.out HB7.out)
          have HE7 := Lib.hid (blk_below HE.out HB7.out)
          clear HMQ HOQ HWQ HWKQ HE
          obtain ⟨ad2, e2, c0, c1, c2, _, _⟩ := act_at (acts_below HRI.out HM7.out.bel) i hlt
          cases e2
          rw [HXI.out] at c0 c1 c2
          dsimp only at c0 c1 c2
          have hadl3 := cell_lt c0
          obtain ⟨ad5, e5, k0, k1⟩ := h_at HR7.out kk (by rw [List.length_map]; exact hkk)
          subst e5
          simp only [List.getElem_map, HUS.out] at k0 k1
          have hlt5 := cell_lt k0
          obtain ⟨ad6', e6, k6⟩ := w_at HW7.out kk (by rw [List.length_map]; exact hkk)
          cases e6
          simp only [List.getElem_map, HUS.out, slV] at k6
          have hlt6' := cell_lt k6
          have hlte := blk_lt HE7.out
          have HB := Lib.hid (Below.refl wd.heap.size wd)
          have hqd : wq.heap.size ≤ wd.heap.size := HB7.out.size
          go_upto_if 81 with fail
          by_cases hcan : dl = true ∧ (lhas cmpI kx (pairs t)).isSome = false
          · obtain ⟨hdl, hno⟩ := hcan
            subst hdl
            have HWO := Lib.hid (fun (V : World) (hb : Below wd.heap.size wd V) => without_law V w.heap.size Ak nk ck (pairs t) kx (OwnRow.below HWK7.out hb) (by omega))
            rw [ldel_lt, hno] at HWO
            have HNO := Lib.hid hno
            clear hno
            go_cut [10, 11, 12] from 82 to 132 (fun v10 v11 v12 wx => ∃ (A8 : Option Addr) (n8 c8 : Nat), v10 = .bool false ∧ v12 = .bool false ∧ v11 = .slice A8 n8 c8 ∧ Hid (Below wr.heap.size wr wx) ∧ Hid (wx.heap[eb]? = some (.cells #[.int .i64 0, .int .i64 0, .slice none 0 0, .slice none 0 0] 39 (0, 0))))
            case first =>
              go_upto_region 20 with fail
              go_cut [11, 12] from 82 to 96 (fun v11 v12 wx => ∃ (A8 : Option Addr) (n8 c8 : Nat), v11 = .slice A8 n8 c8 ∧ v12 = .bool false ∧ Hid (Below wd.heap.size wd wx))
              case first =>
                go_region_with (first
                  | (go_at_call 22; go_loud (
                      (with_reducible refine Calls.mono (HWO.out _ (by repeat (first | (with_reducible exact HB.out) | apply below_alloc | apply pw_below_drewN | apply below_drew1 | exact HB.out))) ?_);
                      rintro e5 w5 ⟨pv, rfl, hop, hb5⟩;
                      obtain ⟨A8, c8, rfl, _⟩ := OwnRow.slice_ hop;
                      have HB8 := Lib.hid (below_step (by repeat (first | (with_reducible exact HB.out) | apply below_alloc | apply pw_below_drewN | apply below_drew1 | exact HB.out)) hb5);
                      clear hop hb5))
                  | (fail "no arm"))
                all_goals
                  go_wp2
                  go_meet
                  exact ⟨A8, _, c8, rfl, rfl, HB8⟩
              case rest =>
                obtain ⟨A8, n8, c8, rfl, rfl, HB8⟩ := hcut
                clear HB HWO c0 c1 c2 k0 k1 k6
                have HB78 := Lib.hid ((HBE.out.trans (HB7.out.mono HBE.out.size)).trans (HB8.out.mono (Nat.le_trans HBE.out.size HB7.out.size)))
                have HM8 := Lib.hid (HM7.out.below HB8.out)
                have HR8 := Lib.hid (OwnRow.below HR7.out HB8.out)
                have HE8 := Lib.hid (blk_below HE7.out HB8.out)
                obtain ⟨ad2, e2, c0, c1, c2, _, _⟩ := act_at (acts_below HRI.out HM8.out.bel) i hlt
                cases e2
                rw [HXI.out] at c0 c1 c2
                dsimp only at c0 c1 c2
                have hadl3 := cell_lt c0
                obtain ⟨ad5, e5, k0, k1⟩ := h_at HR8.out kk (by rw [List.length_map]; exact hkk)
                cases e5
                simp only [List.getElem_map, HUS.out] at k0 k1
                have hlt5 := cell_lt k0
                have hlte := blk_lt HE8.out
                have HB := Lib.hid (Below.refl wc.heap.size wc)
                have HPU := Lib.hid (fun (V : World) (hb : Below wc.heap.size wc V) => mdel_none w V w.heap.size m aa a t kx (HM8.out.below hb) HVT.out HNO.out)
                simp only [hdV] at HPU
                go_upto_region 21 with fail
                go_region_with (first
                  | (go_at_call 23; go_loud (
                      (with_reducible refine Calls.mono (HPU.out _ (by repeat (first | (with_reducible exact HB.out) | apply below_alloc | apply pw_below_drewN | apply below_drew1 | exact HB.out))) ?_);
                      rintro e w6 ⟨rfl, hb6⟩;
                      simp only [edV, H0];
                      have HB6 := Lib.hid (below_step (by repeat (first | (with_reducible exact HB.out) | apply below_alloc | apply pw_below_drewN | apply below_drew1 | exact HB.out)) hb6);
                      have GE := Lib.hid (blk_below HE8.out (below_step (by repeat (first | (with_reducible exact HB.out) | apply below_alloc | apply pw_below_drewN | apply below_drew1 | exact HB.out)) hb6)); have p0 := blk_cell GE.out 0; have p1 := blk_cell GE.out 1; have p2 := blk_cell GE.out 2; have p3 := blk_cell GE.out 3; have z0 := blk_frozen GE.out 0; have z1 := blk_frozen GE.out 1; have z2 := blk_frozen GE.out 2; have z3 := blk_frozen GE.out 3; simp at p0 p1 p2 p3;
                      have hltg := blk_lt GE.out;
                      clear hb6))
                  | (fail "no arm"))
                all_goals
                  go_wp2
                  go_meet
                  refine ⟨A8, n8, c8, rfl, rfl, rfl, ?_, ?_⟩
                  · exact Lib.hid (below_four (HB78.out.trans (HB6.out.mono (Nat.le_trans HBE.out.size (Nat.le_trans HB7.out.size HB8.out.size)))) (by rw [HEQ.out]; exact Nat.le_refl _))
                  · exact Lib.hid (blk_put (blk_put (blk_put (blk_put GE.out 0 _ rfl) 1 _ rfl) 2 _ rfl) 3 _ rfl)
            case rest =>
              obtain ⟨A8, n8, c8, rfl, rfl, rfl, HB6, HE6⟩ := hcut
              clear HB HWO c0 c1 c2 k0 k1 k6 hlte
              have e0 := blk_cell HE6.out 0
              have e1 := blk_cell HE6.out 1
              have e2 := blk_cell HE6.out 2
              have e3 := blk_cell HE6.out 3
              simp at e0 e1 e2 e3
              have hlte := blk_lt HE6.out
              go_wp2
              go_roundw
              case rel => exact ⟨i + 1, a, us, _, _, c5, c6, by go_num, rfl, rfl, by omega, hu1, by omega, Lib.hid (fun u hu => ⟨(HV.out u hu).1, Nat.le_trans (HV.out u hu).2 (Nat.le_succ _)⟩), Lib.hid (OwnRow.below HO.out HB6.out), Lib.hid (OwnRow.below HW.out HB6.out), Lib.hid (HWS.out.below HB6.out), Lib.hid (HM.out.below HB6.out), Lib.hid (HAK.out.more (by omega)), Lib.hid (by have := HRO.out; omega)⟩
              case measure => simp [RowKit.intOf] <;> omega
          · have HPU := Lib.hid (fun (V : World) (hb : Below wd.heap.size wd V) => mput_law3 w V w.heap.size m aa a t kx vx (30 * i) (HM7.out.below hb) HVT.out HAK.out (by omega) (by omega) HROOM.out)
            simp only [hdV] at HPU
            unfold EditOut3 at HPU
            go_cut [10, 11, 12] from 82 to 132 (fun v10 v11 v12 wx => ∃ (A8 : Option Addr) (n8 c8 : Nat), v10 = .bool true ∧ v12 = .bool true ∧ v11 = .slice A8 n8 c8 ∧ Hid (OwnP wx wq.heap.size (.slice A8 n8 c8) (if dl = true then ldel cmpI kx (pairs t) else lput cmpI kx vx (pairs t))) ∧ Hid (CutE3 w wr wx w.heap.size m aa (30 * i) eb a t (if dl = true then ldel cmpI kx (pairs t) else lput cmpI kx vx (pairs t))))
            case first =>
              cases dl with
              | true =>
                have hhas : (lhas cmpI kx (pairs t)).isSome = true := by
                  cases h : (lhas cmpI kx (pairs t)).isSome with
                  | true => rfl
                  | false => exact absurd ⟨rfl, h⟩ hcan
                have HWO := Lib.hid (fun (V : World) (hb : Below wd.heap.size wd V) => without_law V w.heap.size Ak nk ck (pairs t) kx (OwnRow.below HWK7.out hb) (by omega))
                rw [ldel_lt, hhas] at HWO
                clear HPU
                go_upto_region 20 with fail
                go_cut [11, 12] from 82 to 96 (fun v11 v12 wx => ∃ (A8 : Option Addr) (n8 c8 : Nat), v11 = .slice A8 n8 c8 ∧ v12 = .bool true ∧ Hid (OwnP wx wd.heap.size (.slice A8 n8 c8) (ldel cmpI kx (pairs t))) ∧ Hid (Below wd.heap.size wd wx))
                case first =>
                  go_region_with (first
                    | (go_at_call 22; go_loud (
                        (with_reducible refine Calls.mono (HWO.out _ (by repeat (first | (with_reducible exact HB.out) | apply below_alloc | apply pw_below_drewN | apply below_drew1 | exact HB.out))) ?_);
                        rintro e5 w5 ⟨pv, rfl, hop, hb5⟩;
                        obtain ⟨A8, c8, rfl, _⟩ := OwnRow.slice_ hop;
                        have HO8 := Lib.hid (row_low hop (show wd.heap.size ≤ _ from Below.size (B := wd.heap.size) (w := wd) (by repeat (first | (with_reducible exact HB.out) | apply below_alloc | apply pw_below_drewN | apply below_drew1 | exact HB.out)))); have HB8 := Lib.hid (below_step (by repeat (first | (with_reducible exact HB.out) | apply below_alloc | apply pw_below_drewN | apply below_drew1 | exact HB.out)) hb5);
                        clear hop hb5))
                    | (fail "no arm"))
                  all_goals
                    go_wp2
                    go_meet
                    exact ⟨A8, _, c8, rfl, rfl, HO8, HB8⟩
                case rest =>
                  obtain ⟨A8, n8, c8, rfl, rfl, HO8, HB8⟩ := hcut
                  clear HB HWO c0 c1 c2 k0 k1 k6
                  have HF8 := Lib.hid (HF7.out.trans (Fr.below HB8.out))
                  have HM8 := Lib.hid (HM7.out.below HB8.out)
                  have HR8 := Lib.hid (OwnRow.below HR7.out HB8.out)
                  have HE8 := Lib.hid (blk_below HE7.out HB8.out)
                  obtain ⟨ad2, e2, c0, c1, c2, _, _⟩ := act_at (acts_below HRI.out HM8.out.bel) i hlt
                  cases e2
                  rw [HXI.out] at c0 c1 c2
                  dsimp only at c0 c1 c2
                  have hadl3 := cell_lt c0
                  obtain ⟨ad5, e5, k0, k1⟩ := h_at HR8.out kk (by rw [List.length_map]; exact hkk)
                  cases e5
                  simp only [List.getElem_map, HUS.out] at k0 k1
                  have hlt5 := cell_lt k0
                  have hlte := blk_lt HE8.out
                  have HB := Lib.hid (Below.refl wc.heap.size wc)
                  have HPU := Lib.hid (fun (V : World) (hb : Below wc.heap.size wc V) => mdel_law3 w V w.heap.size m aa a t kx (30 * i) (HM8.out.below hb) HVT.out HAK.out (by omega) (by omega) HROOM.out hhas)
                  simp only [hdV] at HPU
                  unfold EditOut3 at HPU
                  go_upto_region 21 with fail
                  go_region_with (first
                    | (go_at_call 23; go_loud (
                    (with_reducible refine Calls.mono (HPU.out _ (by repeat (first | (with_reducible exact HB.out) | apply below_alloc | apply pw_below_drewN | apply below_drew1 | exact HB.out))) ?_);
                    rintro e w3 ⟨a2, t2, md, gn, Am, cm, Ag, cg, lm, lg, S, hgo, hp, rfl, hfs, hF0⟩;
                    have hF := Fr.trans (Fr.below (by repeat (first | (with_reducible exact HB.out) | apply below_alloc | apply pw_below_drewN | apply below_drew1 | exact HB.out))) hF0;
                    have HS3 := Lib.hid S; have HG3 := Lib.hid hgo; have HP3 := Lib.hid hp; have HFS3 := Lib.hid hfs; have HF3 := Lib.hid (Fr.trans HF8.out hF); have HFB3 := Lib.hid hF;
                    have GE := Lib.hid (FrX.typedF hF HE8.out); have p0 := blk_cell GE.out 0; have p1 := blk_cell GE.out 1; have p2 := blk_cell GE.out 2; have p3 := blk_cell GE.out 3; have z0 := blk_frozen GE.out 0; have z1 := blk_frozen GE.out 1; have z2 := blk_frozen GE.out 2; have z3 := blk_frozen GE.out 3; simp at p0 p1 p2 p3;
                    have hltg := blk_lt GE.out;
                    clear S hgo hp hfs hF hF0))
                    | (fail "no arm"))
                  all_goals
                    go_wp2
                    go_meet
                    refine ⟨A8, n8, c8, rfl, rfl, rfl, ?_, ?_⟩
                    · simp only [if_true]
                      exact Lib.hid (row_low (ownP_four (OwnP.fr HO8.out HFB3.out) GE.out) hqd)
                    · simp only [if_true]
                      with_reducible exact Lib.hid (cutE3_store HS3.out HG3.out HP3.out HFS3.out HF3.out GE.out (by rw [← HEQ.out]; exact hBW) (by rw [HEQ.out]; exact Nat.le_refl _))
              | false =>
                go_wp2
                go_goals
                go_region_with (first
                  | (go_at_call 16; go_loud (
                  (with_reducible refine Calls.mono (HPU.out _ (by repeat (first | (with_reducible exact HB.out) | apply below_alloc | apply pw_below_drewN | apply below_drew1 | exact HB.out))) ?_);
                  rintro e w3 ⟨a2, t2, md, gn, Am, cm, Ag, cg, lm, lg, S, hgo, hp, rfl, hfs, hF0⟩;
                  have hF := Fr.trans (Fr.below (by repeat (first | (with_reducible exact HB.out) | apply below_alloc | apply pw_below_drewN | apply below_drew1 | exact HB.out))) hF0;
                  have HS3 := Lib.hid S; have HG3 := Lib.hid hgo; have HP3 := Lib.hid hp; have HFS3 := Lib.hid hfs; have HF3 := Lib.hid (Fr.trans HF7.out hF); have HFB3 := Lib.hid hF;
                  have GE := Lib.hid (FrX.typedF hF HE7.out); have p0 := blk_cell GE.out 0; have p1 := blk_cell GE.out 1; have p2 := blk_cell GE.out 2; have p3 := blk_cell GE.out 3; have z0 := blk_frozen GE.out 0; have z1 := blk_frozen GE.out 1; have z2 := blk_frozen GE.out 2; have z3 := blk_frozen GE.out 3; simp at p0 p1 p2 p3;
                  have hltg := blk_lt GE.out;
                  clear S hgo hp hfs hF hF0))
                  | (fail "no arm"))
                all_goals
                  go_wp2
                  go_meet
                  refine ⟨A7, n7, c7, rfl, rfl, rfl, ?_, ?_⟩
                  · simp only [Bool.false_eq_true, if_false]
                    with_reducible exact Lib.hid (ownP_four (OwnP.fr HO7.out HFB3.out) GE.out)
                  · simp only [Bool.false_eq_true, if_false]
                    with_reducible exact Lib.hid (cutE3_store HS3.out HG3.out HP3.out HFS3.out HF3.out GE.out (by rw [← HEQ.out]; exact hBW) (by rw [HEQ.out]; exact Nat.le_refl _))
            case rest =>
              obtain ⟨A8, n8, c8, rfl, rfl, rfl, HO8, HCE⟩ := hcut
              clear HPU HB HE7 HWK7 HR7 HW7 HM7 HF7 HO7 HB7 c0 c1 c2 k0 k1 k6 hlte
              have hPSl : (if dl = true then ldel cmpI kx (pairs t) else lput cmpI kx vx (pairs t)).length ≤ i + 1 := by
                split
                · have := ldel_len' kx (pairs t); omega
                · omega
              generalize (if dl = true then ldel cmpI kx (pairs t) else lput cmpI kx vx (pairs t)) = PS at *
              obtain ⟨a2, t2, md, gn, Am, cm, Ag, cg, lm, lg, S, hgo, hp, heb, hfs, hF⟩ := HCE.out
              have HS2 := Lib.hid S
              have HG2 := Lib.hid hgo
              have HP2 := Lib.hid hp
              have HE2 := Lib.hid heb
              have HM2 := Lib.hid hfs.mb
              have HMD := Lib.hid hfs.hmade
              have HGN := Lib.hid hfs.hgone
              have HR2 := Lib.hid (OwnH.fr HO.out hF)
              have HW2 := Lib.hid (OwnW.fr HW.out hF)
              have HWS2 := Lib.hid (Wants.fr HWS.out hF)
              clear HCE S hgo hp heb hfs hF
              obtain ⟨ad5, e5, k0, k1⟩ := h_at HR2.out kk (by rw [List.length_map]; exact hkk)
              cases e5
              simp only [List.getElem_map, HUS.out] at k0 k1
              have hlt5 := cell_lt k0
              have hlte := blk_lt HE2.out
              have HK1 := Lib.hid (walk_law w wc w.heap.size m aa a2 t HM2.out (HVT.out.keep HS2.out.keep) (by omega))
              have HK2 := Lib.hid (fun (V : World) (hb : Below wc.heap.size wc V) => walk_law w V w.heap.size m aa a2 t2 (HM2.out.below hb) HS2.out.ver (by rw [HP2.out]; omega))
              simp only [hdV] at HK1 HK2
              go_upto_region 32 with (first
                | (go_at_call 13; go_loud (
                    (with_reducible refine Calls.mono HK1.out ?_);
                    rintro e5 w5 ⟨p5, h5, rfl, hop, hoh, hb5⟩;
                    obtain ⟨Ap5, cp5, rfl, _⟩ := OwnRow.slice_ hop;
                    obtain ⟨Ah5, ch5, rfl, _⟩ := OwnRow.slice_ hoh;
                    have HH5 := Lib.hid hoh; have HB5 := Lib.hid hb5;
                    have he5 := blk_below HE2.out hb5;
                    have e0 := blk_cell he5 0; have e1 := blk_cell he5 1; simp at e0 e1;
                    have hlt5e := blk_lt he5;
                    clear hop hoh hb5 he5))
                | (go_at_call 13; go_loud (
                    (with_reducible refine Calls.mono (HK2.out _ HB5.out) ?_);
                    rintro e6 w6 ⟨p6, h6, rfl, hop, hoh, hb6⟩;
                    obtain ⟨Ap6, cp6, rfl, _⟩ := OwnRow.slice_ hop;
                    obtain ⟨Ah6, ch6, rfl, _⟩ := OwnRow.slice_ hoh;
                    have HH6 := Lib.hid hoh; have HB6 := Lib.hid (HB5.out.trans (hb6.mono HB5.out.size)); have HH56 := Lib.hid (OwnRow.below HH5.out hb6);
                    have HSM := Lib.hid (same_law w6 _ _ Ap6 A8 _ _ cp6 c8 (pairs t2) hop (by rw [HP2.out]; exact OwnRow.below HO8.out (HB5.out.trans (hb6.mono HB5.out.size))) (by rw [HP2.out]; omega));
                    clear hop hoh hb6))
                | (go_at_call 15; go_loud ((with_reducible refine Calls.mono HSM.out ?_); rintro e7 w7 ⟨rfl, q7, rfl⟩))
                | (fail "no arm"))
              have HB7 := Lib.hid (pw_below_drewN HB6.out q7)
              have HR3 := Lib.hid (Below.refl wc.heap.size wc)
              have HE3 := Lib.hid (blk_below HE2.out HB7.out)
              have HMD3 := Lib.hid (OwnRow.below HMD.out HB7.out)
              have HGN3 := Lib.hid (OwnRow.below HGN.out HB7.out)
              have HHO := Lib.hid (OwnRow.below HH56.out (pw_below_drewN (Below.refl _ _) q7))
              have HHN := Lib.hid (OwnRow.below HH6.out (pw_below_drewN (Below.refl _ _) q7))
              have HM3 := Lib.hid (HM2.out.below HB7.out)
              have HRR := Lib.hid (OwnRow.below HR2.out HB7.out)
              have HWW := Lib.hid (OwnRow.below HW2.out HB7.out)
              have HWS3 := Lib.hid (HWS2.out.below HB7.out)
              have HOA := Lib.hid (OwnRow.below HO8.out HB7.out)
              generalize (w6.drewN q7) = V7 at *
              clear HK1 HK2 HH5 HB5 HB6 HH56 HH6 HSM HB7 HR3 HE2 HMD HGN HM2 HR2 HW2 HWS2 HO8 e0 e1 k0 k1 hlt5 hlte hlt5e
              have HST := HS2.out.sets HVT.out HG2.out
              have HST1 := Lib.hid HST.1
              have HST2 := Lib.hid HST.2
              clear HST
              have hlO : (hds t).length ≤ 1000 := by rw [hds_len]; omega
              have hlN : (hds t2).length ≤ 1000 := by rw [hds_len, HP2.out]; omega
              have hlm : (hminus (hds t2) (hds t)).length ≤ 1000 := Nat.le_trans (hminus_len _ _) hlN
              have hlg : (hminus (hds t) (hds t2)).length ≤ 1000 := Nat.le_trans (hminus_len _ _) hlO
              have hmm : md.length ≤ 1000 := by rw [HST1.out.1]; exact hlm
              have hgg : gn.length ≤ 1000 := by rw [HST2.out.1]; exact hlg
              have hlm1 : lm = md.length := by obtain ⟨A', c', e, _, _⟩ := OwnRow.reads HMD3.out; injection e
              have hsl := HS2.out.len
              have hhi0 : 0 ≤ t.hi := by omega
              have q8 : decide ((3 * t.hi + 1 : Int) < (lm : Int)) = false := decide_eq_false (by omega)
              have hw8 : IntKind.i64.wrap (3 * t.hi) = 3 * t.hi := by rw [IntKind.wrap_i64]; omega
              have hw9 : IntKind.i64.wrap (3 * t.hi + 1) = 3 * t.hi + 1 := by rw [IntKind.wrap_i64]; omega
              have HLM := Lib.hid hlm1
              clear hlm1 hsl
              have d1 := blk_cell HE3.out 2
              have d2 := blk_cell HE3.out 3
              simp at d1 d2
              have hlte := blk_lt HE3.out
              have HN1 := Lib.hid (fun (V : World) (hb : Below V7.heap.size V7 V) => minus_law V _ _ Ah6 Ah5 _ _ ch6 ch5 (hds t2) (hds t) (OwnRow.below HHN.out hb) (OwnRow.below HHO.out hb) hlN hlO)
              have HN2 := Lib.hid (fun (V : World) (hb : Below V7.heap.size V7 V) => minus_law V _ _ Ah5 Ah6 _ _ ch5 ch6 (hds t) (hds t2) (OwnRow.below HHO.out hb) (OwnRow.below HHN.out hb) hlO hlN)
              have HB := Lib.hid (Below.refl V7.heap.size V7)
              go_cut [207] from 183 to 208 (fun v wx => v = .bool false ∧ Hid (Below V7.heap.size V7 wx))
              case first =>
                as_aux_lemma =>
                  have D1 := Lib.hid d1
                  have D2 := Lib.hid d2
                  clear d1 d2
                  go_region_held3 (fun W' => W'.cell? ⟨eb, 2, none⟩ = some (.slice Am lm cm) ∧ W'.cell? ⟨eb, 3, none⟩ = some (.slice Ag lg cg)) (exact ⟨pw_cell_below (by repeat (first | (with_reducible exact HB.out) | apply below_alloc | apply pw_below_drewN | apply below_drew1 | exact HB.out)) D1.out, pw_cell_below (by repeat (first | (with_reducible exact HB.out) | apply below_alloc | apply pw_below_drewN | apply below_drew1 | exact HB.out)) D2.out⟩)
                    (first
                    | (go_at_call 25; go_loud (
                        (with_reducible refine Calls.mono (HN1.out _ (by repeat (first | (with_reducible exact HB.out) | apply below_alloc | apply pw_below_drewN | apply below_drew1 | exact HB.out))) ?_);
                        rintro e8 w8 ⟨pv, rfl, hop, hb8⟩;
                        obtain ⟨A9, c9, rfl, _⟩ := OwnRow.slice_ hop;
                        have HX1 := Lib.hid hop;
                        clear hop;
                        have HBn := Lib.hid (below_step (by repeat (first | (with_reducible exact HB.out) | apply below_alloc | apply pw_below_drewN | apply below_drew1 | exact HB.out)) hb8); clear hb8 HB; have HB := HBn; clear HBn))
                    | (go_at_call 25; go_loud (
                        (with_reducible refine Calls.mono (HN2.out _ (by repeat (first | (with_reducible exact HB.out) | apply below_alloc | apply pw_below_drewN | apply below_drew1 | exact HB.out))) ?_);
                        rintro e8 w9 ⟨pv, rfl, hop, hb8⟩;
                        obtain ⟨A9', c9', rfl, _⟩ := OwnRow.slice_ hop;
                        have HX2 := Lib.hid hop;
                        clear hop;
                        have HBn := Lib.hid (below_step (by repeat (first | (with_reducible exact HB.out) | apply below_alloc | apply pw_below_drewN | apply below_drew1 | exact HB.out)) hb8); clear hb8 HB; have HB := HBn; clear HBn))
                    | (go_at_call 24; go_loud (
                        (with_reducible refine Calls.mono (sets_law _ _ _ _ _ _ _ _ _ _ _ (OwnRow.below HMD3.out (by repeat (first | (with_reducible exact HB.out) | apply below_alloc | apply pw_below_drewN | apply below_drew1 | exact HB.out))) HX1.out hmm hlm HST1.out) ?_);
                        rintro e8 w10 ⟨rfl, hb8⟩;
                        have HBn := Lib.hid (below_step (by repeat (first | (with_reducible exact HB.out) | apply below_alloc | apply pw_below_drewN | apply below_drew1 | exact HB.out)) hb8); clear hb8 HB; have HB := HBn; clear HBn))
                    | (go_at_call 24; go_loud (
                        (with_reducible refine Calls.mono (sets_law _ _ _ _ _ _ _ _ _ _ _ (OwnRow.below HGN3.out (by repeat (first | (with_reducible exact HB.out) | apply below_alloc | apply pw_below_drewN | apply below_drew1 | exact HB.out))) HX2.out hgg hlg HST2.out) ?_);
                        rintro e8 w11 ⟨rfl, hb8⟩;
                        have HBn := Lib.hid (below_step (by repeat (first | (with_reducible exact HB.out) | apply below_alloc | apply pw_below_drewN | apply below_drew1 | exact HB.out)) hb8); clear hb8 HB; have HB := HBn; clear HBn))
                    | (fail "no arm"))
                  all_goals
                    go_wp2
                    go_meet
                    exact ⟨rfl, Lib.hid (by repeat (first | (with_reducible exact HB.out) | apply below_alloc | apply pw_below_drewN | apply below_drew1 | exact HB.out))⟩
              case rest =>
                obtain ⟨rfl, HB9⟩ := hcut
                have HE9 := Lib.hid (blk_below HE3.out HB9.out)
                have HM9 := Lib.hid (HM3.out.below HB9.out)
                have HR9 := Lib.hid (OwnRow.below HRR.out HB9.out)
                have HW9 := Lib.hid (OwnRow.below HWW.out HB9.out)
                have HWS9 := Lib.hid (HWS3.out.below HB9.out)
                have HO9 := Lib.hid (OwnRow.below HOA.out HB9.out)
                have HBL := Lib.hid HM9.out.bel
                have hszw := HM9.out.sz
                clear HB HN1 HN2 d1 d2 hlte hw8 hw9 HE3 HM3 HRR HWW HWS3 HOA HB9 HMD3 HGN3 HHO HHN HST1 HST2
                have d0 := blk_cell HE9.out 0
                have d1 := blk_cell HE9.out 1
                simp at d0 d1
                have hlte := blk_lt HE9.out
                have hnl : (us.map (fun u => u.1.h) ++ [t2.h]).length = us.length + 1 := by rw [List.length_append, List.length_map]; rfl
                have hnl2 : (us.map (fun u => u.2) ++ [((A8, n8, c8) : SlV)]).length = us.length + 1 := by rw [List.length_append, List.length_map]; rfl
                have HNL := Lib.hid hnl
                have HNL2 := Lib.hid hnl2
                clear hnl hnl2
                go_wp2_with (first
                  | (at_builtin; go_loud ((refine OwnRow.append (R := fun h cs => cs = hdC h) (w0 := w) (W := wc) w.heap.size rfl (.tmp 208) (.tmp 211) 32 28 _ 2 16 rfl Try.underlying32 hdInfo rfl (by decide) (by decide) _ (us.map (fun u => u.1.h)) t2.h [.int .i64 t2.h.s, .int .i64 t2.h.g] (by rfl) (by simp [Act.eval]) rfl rfl (by simp [Value.oneCell']) HR9.out HBL.out hszw ?hl ?_); (case hl => rw [List.length_map]; omega); intro v8 w8 ho hb hg hat; obtain ⟨A10, c10, rfl, _⟩ := OwnRow.slice_ ho; rw [HNL.out] at ho ⊢; have HR10 := Lib.hid ho; have HM10 := Lib.hid (HM9.out.grown HR9.out hg hb (by decide) (by decide) (by decide) (by decide)); have HW10 := Lib.hid (row_over HW9.out HR9.out (by decide) hg); have HWS10 := Lib.hid (HWS9.out.over HR9.out (by decide) hg); have HO10 := Lib.hid (row_over HO9.out HR9.out (by decide) hg); have hz10 : w.heap.size ≤ w8.heap.size := Nat.le_trans hszw hg.size; have HB10 := Lib.hid hb; clear ho hb hg hat))
                  | (at_builtin; go_loud ((refine OwnRow.append (R := fun x cs => cs = [slV x]) (w0 := w) (W := w8) w.heap.size rfl (.tmp 213) (.tmp 215) 50 29 _ 1 24 rfl Try.underlying50 psInfo rfl (by decide) (by decide) _ (us.map (fun u => u.2)) (A8, n8, c8) [.slice A8 n8 c8] (by rfl) (by simp [Act.eval]) rfl rfl (by simp [Value.oneCell']) HW10.out HB10.out hz10 ?hl ?_); (case hl => rw [List.length_map]; omega); intro v11 w9 ho hb hg hat; obtain ⟨A11, c11, rfl, _⟩ := OwnRow.slice_ ho; rw [HNL2.out] at ho ⊢; have HW11 := Lib.hid ho; have HM11 := Lib.hid (HM10.out.grown HW10.out hg hb (by decide) (by decide) (by decide) (by decide)); have HR11 := Lib.hid (row_over HR10.out HW10.out (by decide) hg); have HWS11 := Lib.hid (HWS10.out.over HW10.out (by decide) hg); have HO11 := Lib.hid (row_over HO10.out HW10.out (by decide) hg); clear ho hb hg hat))
                  | (fail "no arm"))
                have hqz : w.heap.size ≤ wq.heap.size := Nat.le_trans hBW HBE.out.size
                go_roundw
                case rel =>
                  have hln : (us ++ [(t2, ((A8, n8, c8) : SlV))]).length = us.length + 1 := by rw [List.length_append]; rfl
                  refine ⟨i + 1, a2, us ++ [(t2, (A8, n8, c8))], A10, A11, c10, c11, by go_num, by rw [hln], by rw [hln], by omega, by omega, by omega, Lib.hid ?_, Lib.hid (by rw [hln, List.map_append]; exact HR11.out), Lib.hid (by rw [hln, List.map_append]; exact HW11.out), Lib.hid (HWS11.out.snoc (by rw [HP2.out]; exact row_low HO11.out hqz)), HM11, Lib.hid (HS2.out.ok.more (by omega)), Lib.hid ?_⟩
                  · intro u hu
                    rw [List.mem_append] at hu
                    rcases hu with hu | hu
                    · exact ⟨(HV.out u hu).1.keep HS2.out.keep, Nat.le_trans (HV.out u hu).2 (Nat.le_succ _)⟩
                    · rw [List.mem_singleton.mp hu]; exact ⟨HS2.out.ver, by rw [HP2.out]; exact hPSl⟩
                  · have h1 := HS2.out.room
                    have h2 := HS2.out.len
                    have h4 := HRO.out
                    omega
                case measure => simp [RowKit.intOf] <;> omega
    · obtain rfl : i = l.length := by omega
      have HBL := Lib.hid HM.out.bel
      have hszr := HM.out.sz
      clear HAK HRO
      go_wp2
      generalize wr = wl at *
      go_loopw [21] (fun v21 W' => ∃ j : Nat, v21 = .int .i64 j ∧ j ≤ us.length ∧ Hid (Below wl.heap.size wl W')) (fun v21 _ => us.length - (RowKit.intOf v21).toNat)
      case atStart => exact ⟨0, rfl, Nat.zero_le _, Lib.hid (Below.refl _ _)⟩
      case round =>
        obtain ⟨j, rfl, hj, HBJ⟩ := hrel
        by_cases hlj : j < us.length
        · have HRJ := Lib.hid (OwnRow.below HO.out HBJ.out)
          have HWJ := Lib.hid (OwnRow.below HW.out HBJ.out)
          have HMJ := Lib.hid (HM.out.below HBJ.out)
          have HVK := Lib.hid (HV.out _ (List.getElem_mem hlj))
          have HWK := Lib.hid ((HWS.out.below HBJ.out) _ (List.getElem_mem hlj))
          obtain ⟨ad5, e5, k0, k1⟩ := h_at HRJ.out j (by rw [List.length_map]; exact hlj)
          subst e5
          simp only [List.getElem_map] at k0 k1
          have hlt5 := cell_lt k0
          generalize hus : us[j] = u at *
          have HUS := Lib.hid hus
          clear hus
          obtain ⟨t, Ak, nk, ck⟩ := u
          dsimp only [slV] at HVK HWK k0 k1
          have hp30 : (pairs t).length ≤ l.length := HVK.out.2
          have hwj : IntKind.i64.wrap ((j : Int) + 1) = ((j + 1 : Nat) : Int) := by rw [IntKind.wrap_i64]; omega
          have HK1 := Lib.hid (walk_law w wr w.heap.size m aa a t HMJ.out HVK.out.1 (by omega))
          simp only [hdV] at HK1
          go_wp2_with (first
            | (go_at_call 13; go_loud (
                (with_reducible refine Calls.mono HK1.out ?_);
                rintro e5 w5 ⟨p5, h5, rfl, hop, hoh, hb5⟩;
                obtain ⟨Ap5, cp5, rfl, _⟩ := OwnRow.slice_ hop;
                obtain ⟨Ah5, ch5, rfl, _⟩ := OwnRow.slice_ hoh;
                have HB5 := Lib.hid (HBJ.out.trans (hb5.mono HBJ.out.size));
                obtain ⟨ad6, e6, k6⟩ := w_at (OwnRow.below HWJ.out hb5) j (by rw [List.length_map]; exact hlj);
                subst e6;
                simp only [List.getElem_map, HUS.out, slV] at k6;
                have hlt6 := cell_lt k6;
                have HSM := Lib.hid (same_law w5 _ _ Ap5 Ak _ _ cp5 ck (pairs t) hop (OwnRow.below HWK.out hb5) (by omega));
                clear hop hoh hb5))
            | (go_at_call 15; go_loud ((with_reducible refine Calls.mono HSM.out ?_); rintro e7 w7 ⟨rfl, q7, rfl⟩))
            | (fail "no arm"))
          go_roundw
          case rel => exact ⟨j + 1, by go_num, by omega, Lib.hid (pw_below_drewN HB5.out q7)⟩
          case measure => simp [RowKit.intOf] <;> omega
        · obtain rfl : j = us.length := by omega
          go_wp2
          go_ret
          exact ⟨rfl, HBL.out.trans (HBJ.out.mono hszr)⟩
end Go.Proofs.Ytmhfbpdahfepgaa
/- The walk of the law PmapPlays, all inputs. -/
namespace Go.Proofs.Ytmhfbpdahfepgaa
open Go.RowKit Go.Proofs.YtmhfbpdahfepgaaW.PrintWords Pm
set_option maxRecDepth 100000 in
theorem pmapPlays_walk (A : Option Addr) (c : Nat) (l : List ActT) (w : World) (hr : Kd.C actKd w A l.length l) (hc : l.length ≤ c) (hok : l.length ≤ maxLen ∧ ∀ x ∈ l, True ∧ (Lit.int .u8 x.2.1).wf = true ∧ (Lit.int .u8 x.2.2.1).wf = true ∧ (Lit.int .u8 x.2.2.2.1).wf = true ∧ True) :
    Calls Try.prog 5 #[.slice A l.length c] w fun e w' => e = .returned (.bool true) ∧ Below w.heap.size w w' := by
  have HB := Lib.hid (Below.refl w.heap.size w)
  by_cases hl : l.length ≤ 30
  · exact pmapPlays_walk0 A c l w hr hc hl (fun x hx => ⟨byte_wf (hok.2 x hx).2.1, byte_wf (hok.2 x hx).2.2.1, byte_wf (hok.2 x hx).2.2.2.1⟩)
  · have q1 : decide ((30 : Int) < (l.length : Int)) = true := decide_eq_true (by omega)
    clear hok hr
    go_enter Try.func5, Try.ntmps5
    go_wp2_with (first
      | (go_at_call 9; go_loud ((refine Calls.mono (awake_calls _) ?_); rintro e w1 ⟨rfl, hb⟩; have HBn := Lib.hid (below_step (by repeat (first | (with_reducible exact HB.out) | apply below_alloc | apply pw_below_drewN | apply below_drew1 | exact HB.out)) hb); clear hb HB; have HB := HBn; clear HBn))
      | (fail "no arm"))
    go_ret
    exact ⟨rfl, (by repeat (first | (with_reducible exact HB.out) | apply below_alloc | apply pw_below_drewN | apply below_drew1 | exact HB.out))⟩
end Go.Proofs.Ytmhfbpdahfepgaa
/- Opening arguments of plain data, whatever their make: what a reading's cells say, kind by kind. -/
namespace Go.Proofs.YtmhfbpdahfepgaaW.Open
open Go.RowKit Go.Proofs.YtmhfbpdahfepgaaW.PrintWords Go.ChangeShapes

/-- What is read at type t is of the kind d, and ok. -/
def Opens {α : Type} (P : Program) (t : TypeId) (d : Kd α) (ok : α → Prop) : Prop :=
  P.cellsOf t = d.sz ∧ ∀ (H : Type) (enc : TypeId × Value → H) (w : World) (fuel : Nat) (cs : List Value) (x : DataW H × List MemPlace), DataW.trod enc P w 0 (fun _ => true) true fuel t cs = some x → ∃ y, d.K w y cs ∧ ok y

theorem Opens.int {P : Program} {t : TypeId} {k : IntKind} (ht : P.underlying t = some (.int k)) (hc : P.cellsOf t = 1) : Opens P t (Kd.int k) (fun n => (Lit.int k n).wf = true) :=
  ⟨hc, fun _ _ _ _ _ _ h => by obtain ⟨n, rfl, _, hw⟩ := DataW.trod_int ht h; exact ⟨n, rfl, hw⟩⟩
theorem Opens.bool {P : Program} {t : TypeId} (ht : P.underlying t = some .bool) (hc : P.cellsOf t = 1) : Opens P t Kd.bool (fun _ => True) :=
  ⟨hc, fun _ _ _ _ _ _ h => by obtain ⟨n, rfl, _⟩ := DataW.trod_bool ht h; exact ⟨n, rfl, trivial⟩⟩
theorem Opens.string {P : Program} {t : TypeId} (ht : P.underlying t = some .string) (hc : P.cellsOf t = 1) : Opens P t Kd.string (fun s => s.size ≤ maxLen) :=
  ⟨hc, fun _ _ _ _ _ _ h => by obtain ⟨n, rfl, _, hs⟩ := DataW.trod_string ht h; exact ⟨n, rfl, hs⟩⟩

theorem Opens.slice {α : Type} {P : Program} {t e : TypeId} {d : Kd α} {ok : α → Prop} (ht : P.underlying t = some (.slice e)) (hc : P.cellsOf t = 1) (he : Opens P e d ok) :
    Opens P t (Kd.slice e d) (fun xs => xs.length ≤ maxLen ∧ ∀ x ∈ xs, ok x) := by
  obtain ⟨hsz, hop⟩ := he
  refine ⟨hc, fun H enc w fuel cs x h => ?_⟩
  rcases DataW.trod_slice ht h with ⟨rfl, _⟩ | ⟨a, len, cap, elems, rest, n, _, rfl, _, _, hl, hm, hlen, hel, _, _⟩
  · exact ⟨[], ⟨none, 0, rfl, by simp, rfl, by simp, by simp⟩, by simp, by simp⟩
  · have each : ∀ i, i < len → ∃ y c, c.length = d.sz ∧ d.K w y c ∧ ok y ∧ ∀ j u, c[j]? = some u → w.cell? (a.add (i * d.sz + j)) = some u := by
      intro i hi
      have h1 := hel i hi
      rw [List.getElem?_eq_getElem (by omega)] at h1
      obtain ⟨c, hcs, hy⟩ := Option.bind_eq_some_iff.1 h1
      obtain ⟨_, hcl, hcell⟩ := World.cells?_some hcs
      obtain ⟨y, hK, hok⟩ := hop H enc w n c _ hy
      refine ⟨y, c, by rw [hcl, hsz], hK, hok, fun j u hu => ?_⟩
      have hj : j < c.length := (List.getElem?_eq_some_iff.1 hu).1
      have := hcell j (by omega)
      rw [hu, hsz, add_add] at this
      exact this
    have build : ∀ m, m ≤ len → ∃ xs : List α, xs.length = m ∧ (∀ x ∈ xs, ok x) ∧ ∀ j p, xs[j]? = some p → ∃ c, c.length = d.sz ∧ d.K w p c ∧ ∀ i u, c[i]? = some u → w.cell? (a.add (j * d.sz + i)) = some u := by
      intro m
      induction m with
      | zero => intro _; exact ⟨[], rfl, by simp, fun j p h => by simp at h⟩
      | succ m ih =>
        intro hm'
        obtain ⟨xs, hx, hok, hall⟩ := ih (by omega)
        obtain ⟨y, c, hcl, hK, hoky, hcell⟩ := each m (by omega)
        refine ⟨xs ++ [y], by simp [hx], ?_, ?_⟩
        · intro z hz
          rcases List.mem_append.1 hz with h' | h'
          · exact hok z h'
          · rw [List.mem_singleton.1 h']; exact hoky
        · intro j p hj
          rcases Nat.lt_or_ge j xs.length with h' | h'
          · rw [List.getElem?_append_left h'] at hj; exact hall j p hj
          · have hj' := (List.getElem?_eq_some_iff.1 hj).1
            obtain rfl : j = xs.length := by simp at hj'; omega
            have : y = p := by simpa using hj
            subst this
            rw [hx]
            exact ⟨c, hcl, hK, hcell⟩
    obtain ⟨xs, hx, hok, hall⟩ := build len (Nat.le_refl _)
    subst hx
    simp only [maxLen] at hm
    exact ⟨xs, ⟨some a, cap, rfl, hl, rfl, by omega, fun _ => ⟨a, rfl, hall⟩⟩, by simp only [maxLen]; omega, hok⟩

/-- Fields in line: from offset n on. -/
def OpensF {α : Type} (P : Program) (fs : List Field) (n : Nat) (d : Kd α) (ok : α → Prop) : Prop :=
  ∀ (H : Type) (enc : TypeId × Value → H) (w : World) (fuel : Nat) (cs : List Value), cs.length = n + d.sz → (∀ f ∈ fs, ∃ x, DataW.trod enc P w 0 (fun _ => true) true fuel f.type ((cs.drop f.offset).take (P.cellsOf f.type)) = some x) → ∃ y, d.K w y (cs.drop n) ∧ ok y
theorem OpensF.one {α : Type} {P : Program} {f : Field} {d : Kd α} {ok : α → Prop} (h : Opens P f.type d ok) : OpensF P [f] f.offset d ok := by
  intro H enc w fuel cs hl hall
  obtain ⟨x, hx⟩ := hall f (by simp)
  have := h.2 H enc w fuel _ _ hx
  rw [h.1, List.take_of_length_le (by simp; omega)] at this
  exact this
theorem OpensF.cons {α β : Type} {P : Program} {f : Field} {fs : List Field} {d : Kd α} {d' : Kd β} {ok : α → Prop} {ok' : β → Prop} {n : Nat} (h : Opens P f.type d ok) (hs : OpensF P fs n d' ok') (hn : n = f.offset + d.sz) : OpensF P (f :: fs) f.offset (Kd.pair d d') (fun y => ok y.1 ∧ ok' y.2) := by
  intro H enc w fuel cs hl hall
  obtain ⟨x, hx⟩ := hall f (by simp)
  obtain ⟨y, hK, hok⟩ := h.2 H enc w fuel _ _ hx
  have hl' : cs.length = n + d'.sz := by rw [hl, hn]; show f.offset + (d.sz + d'.sz) = _; omega
  obtain ⟨y', hK', hok'⟩ := hs H enc w fuel cs hl' (fun g hg => hall g (by simp [hg]))
  rw [h.1] at hK
  refine ⟨(y, y'), ⟨_, _, ?_, hK, hK'⟩, hok, hok'⟩
  rw [hn, ← List.drop_drop, List.take_append_drop]
theorem Opens.struct {α : Type} {P : Program} {t : TypeId} {fs : Array Field} {d : Kd α} {ok : α → Prop} (ht : P.underlying t = some (.struct fs)) (hc : P.cellsOf t = d.sz) (h : OpensF P fs.toList 0 d ok) : Opens P t d ok := by
  refine ⟨hc, fun H enc w fuel cs x hx => ?_⟩
  obtain ⟨xs, n, rfl, _, hl, hlen, hf⟩ := DataW.trod_struct ht hx
  have := h H enc w n cs (by rw [hl, hc]; omega) (fun f hf' => by
    obtain ⟨i, hi⟩ := List.getElem?_of_mem hf'
    have hi' : fs[i]? = some f := by simpa using hi
    have h2 := hf i f hi'
    have h3 : i < xs.length := by rw [hlen]; exact (Array.getElem?_eq_some_iff.1 hi').1
    rw [List.getElem?_eq_getElem h3] at h2
    exact ⟨_, h2⟩)
  simpa using this
theorem Opens.iso {α β : Type} {P : Program} {t : TypeId} {d : Kd α} {ok : α → Prop} (f : β → α) (g : α → β) (hfg : ∀ x, f (g x) = x) (h : Opens P t d ok) : Opens P t (Kd.iso d f) (fun y => ok (f y)) :=
  ⟨h.1, fun H enc w fuel cs x hx => by obtain ⟨y, hK, hok⟩ := h.2 H enc w fuel cs x hx; exact ⟨g y, by show d.K w (f (g y)) cs; rw [hfg]; exact hK, by show ok (f (g y)); rw [hfg]; exact hok⟩⟩

/-- An argument is opened: its value by its cells, and what these say. -/
theorem Opens.arg {α : Type} {H : Type} {enc : TypeId × Value → H} {P : Program} {w : World} {t : TypeId} {v : Value} {x : DataW H} {p : List MemPlace} {d : Kd α} {ok : α → Prop} (h : Opens P t d ok) (ht : DataW.Trod enc P w 0 (fun _ => true) true t v x p) : ∃ y, d.K w y v.cells.toList ∧ ok y := by
  obtain ⟨fuel, hf⟩ := ht
  exact h.2 H enc w fuel _ _ hf
end Go.Proofs.YtmhfbpdahfepgaaW.Open
/- The row of the law PmapPlays, out of its walk. -/
namespace Go.Proofs.Ytmhfbpdahfepgaa.pmapPlays
open Go.ChangeShapes Go.WideShapes Go.ChangeAt Go.RowKit
open Go.ChangeMaps (open_string shut_string)
open Go.Proofs.YtmhfbpdahfepgaaW.Open Go.Proofs.YtmhfbpdahfepgaaW.PrintWords
theorem own : ownKnob Try.prog.godebug = none := by kernel_rfl
theorem laidOut : laidOutB Try.prog = true := by kernel_rfl
theorem op0 : Opens Try.prog 49 (Kd.slice 52 (Kd.pair Kd.bool (Kd.pair (Kd.int .u8) (Kd.pair (Kd.int .u8) (Kd.pair (Kd.int .u8) Kd.bool))))) (fun xs => xs.length ≤ maxLen ∧ ∀ x ∈ xs, True ∧ (Lit.int .u8 x.2.1).wf = true ∧ (Lit.int .u8 x.2.2.1).wf = true ∧ (Lit.int .u8 x.2.2.2.1).wf = true ∧ True) := Opens.slice Try.underlying49 (by kernel_rfl) (Opens.struct Try.underlying52 (by kernel_rfl) (OpensF.cons (Opens.bool Try.underlying4 (by kernel_rfl)) (OpensF.cons (Opens.int Try.underlying5 (by kernel_rfl)) (OpensF.cons (Opens.int Try.underlying5 (by kernel_rfl)) (OpensF.cons (Opens.int Try.underlying5 (by kernel_rfl)) (OpensF.one (Opens.bool Try.underlying4 (by kernel_rfl))) rfl) rfl) rfl) rfl))
set_option maxRecDepth 100000 in
theorem lifted (os : Os) (started : os.Started) (H : Type) (enc : TypeId × Value → H) :
    ReturnsInHanded {} Try.checked os 5 .any (Rows.pmapPlaysSpec.pre6 enc Try.prog Try.f5 Rows.pmapPlaysRow.domain false) (Rows.pmapPlaysSpec.post enc Try.prog Try.f5 false true false false) := by
  refine returnsInHanded_of_change (C := Try.checked) own started (by kernel_rfl) Try.func5
    (ChangeSpec.witness6 (enc := enc) (C := Try.checked) false ⟨#[], #[.slice none 0 0], []⟩ 8 (by kernel_rfl) (by kernel_rfl) (by kernel_rfl) (by kernel_rfl)) ?_
  intro W base args ds gs before hval0 hW hcnd _
  have hval : ∀ (j : Nat) t v, Try.f5.params[j]? = some t → args[j]? = some v → Value.okWide Try.prog W .any base t v := hval0
  have hW' := hW
  obtain ⟨p, q, hA0, hV, rfl, hfz, hnd⟩ := hW
  have hA : DataW.TrodAll enc Try.prog W 0 (fun _ => true) true Try.f5.params.toList args.toList ds p := hA0
  rw [Try.params5] at hA hval
  obtain ⟨v0, vs0, d0, ds0, p0, q0, hargs, rfl, rfl, h0, r0⟩ := trodAll_cons hA
  obtain ⟨rfl, rfl, rfl⟩ := trodAll_nil r0
  obtain rfl : args = #[v0] := by cases args; simp_all
  obtain ⟨rfl, rfl⟩ := trodVars_none hV
  have k0 := h0
  have lt0 : ∀ x ∈ p0, x.block < W.heap.size := by obtain ⟨m, hm⟩ := k0; exact DataW.trod_lt m _ _ _ hm
  obtain ⟨a0, len0, cap0, rfl⟩ := okWide_slice Try.underlying49 (hval 0 49 v0 rfl rfl)
  obtain ⟨l0, hK0, ok0⟩ := Opens.arg op0 h0
  obtain ⟨A0, c0, e0, hc0, hr0⟩ := hK0
  simp only [Value.cells, List.cons.injEq, Value.slice.injEq, and_true] at e0
  obtain ⟨rfl, rfl, rfl⟩ := e0
  clear hA0 hval0
  refine (pmapPlays_walk a0 cap0 l0 W hr0 hc0 ok0).mono fun e W' ⟨he, bel⟩ => ?_
  subst he
  exact ⟨_, rfl, _, _, _, [], _, [], hW', trodAll_mk1 (shut_bool Try.underlying4 _), (trodAll_cons_mk (Below.trod laidOut (by kernel_rfl) (of_decide_eq_true (by kernel_rfl)) k0 bel lt0) trodAll_mk0), rfl, bel.frame _, fun h => by cases h⟩
end Go.Proofs.Ytmhfbpdahfepgaa.pmapPlays
namespace Go.Proofs.Ytmhfbpdahfepgaa
theorem pmapPlays_holds : Rows.PmapPlaysSaid :=
  OpenClaim.holds_of_wide 5 Try.f5 rfl rfl rfl rfl rfl rfl rfl ⟨rfl, rfl, rfl, rfl, rfl⟩ rfl rfl rfl rfl rfl (by kernel_rfl) Try.func5 (by kernel_rfl)
    (of_decide_eq_true (by kernel_rfl)) (by unfold Func.isWrapper; first | (rw [if_pos (by decide +kernel)]; kernel_rfl) | (rw [if_neg (by decide +kernel)]; exact ⟨rfl, rfl⟩))
    (fun os started H enc _ => pmapPlays.lifted os started H enc)
#print axioms pmapPlays_holds
end Go.Proofs.Ytmhfbpdahfepgaa
