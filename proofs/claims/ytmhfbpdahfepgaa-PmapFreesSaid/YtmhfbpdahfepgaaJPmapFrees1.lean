/-
  The row of the law PmapFrees, out of its walk.
-/
import Derived.Test.YtmhfbpdahfepgaaB9
import Derived.Deep.CutBlock
import Derived.Test.YtmhfbpdahfepgaaWWords
import Derived.ProofKit
import Derived.OpenShut
import Derived.ChangeArms
import Derived.Test.YtmhfbpdahfepgaaRows
import Derived.WalkKit
import Derived.ShutString
import Derived.ChangeOld
import Derived.Below
/- What is gone is freed: plain laws; acts as a law gets them. -/
namespace Go.Proofs.Ytmhfbpdahfepgaa.Pm
open Go.RowKit Go.Proofs.YtmhfbpdahfepgaaW.PrintWords
theorem ints_len : ∀ (n : Nat) (l : List Int), l.Nodup → (∀ x ∈ l, 1 ≤ x ∧ x ≤ (n : Int)) → l.length ≤ n
  | 0, l, _, h => by
    cases l with
    | nil => exact Nat.le_refl _
    | cons x l => have := h x (by simp); omega
  | n + 1, l, hn, h => by
    by_cases hm : ((n + 1 : Nat) : Int) ∈ l
    · have i := ints_len n (l.erase ((n + 1 : Nat) : Int)) (hn.erase _) (fun x hx => by
        have h1 := (hn.mem_erase_iff).mp hx
        have h2 := h x h1.2
        have h3 := h1.1
        omega)
      rw [List.length_erase_of_mem hm] at i
      omega
    · have i := ints_len n l hn (fun x hx => by
        have h2 := h x hx
        have h3 : x ≠ ((n + 1 : Nat) : Int) := fun e => hm (e ▸ hx)
        omega)
      omega
theorem del_ok {G : Nat} {a : Ar N2} {h : Hd} (ok : ArOk G a) (hh : (a.get h).isSome = true) : ArOk G (a.del nd0 h) ∧ (a.del nd0 h).room = a.room + 1 ∧ (a.del nd0 h).most = a.most := by
  unfold Ar.get at hh
  rw [Option.isSome_map] at hh
  obtain ⟨s, hs⟩ := Option.isSome_iff_exists.mp hh
  obtain ⟨j, hj, e1, e2, e3, e4⟩ := slot_at hs
  have hd : a.slots.getD j ⟨0, false, nd0⟩ = a.slots[j] := by rw [List.getD_eq_getElem?_getD, List.getElem?_eq_getElem hj]; rfl
  have hnot : h.s ∉ a.free := fun hm => by
    have := (ok.free h.s hm).2.2
    rw [show (h.s - 1).toNat = j by omega, hd, e2, e3] at this
    cases this
  have hnd : (a.free ++ [h.s]).Nodup := List.nodup_append.mpr ⟨ok.nodup, by simp, fun x hx y hy e => by simp at hy; subst e; rw [hy] at hx; exact hnot hx⟩
  have hin : ∀ x ∈ a.free ++ [h.s], 1 ≤ x ∧ x ≤ (a.slots.length : Int) := fun x hx => by
    rw [List.mem_append] at hx
    rcases hx with hx | hx
    · exact ⟨(ok.free x hx).1, (ok.free x hx).2.1⟩
    · simp at hx; subst hx; omega
  have hlen := ints_len _ _ hnd hin
  rw [del_some hs]
  have ej : (h.s - 1).toNat = j := by omega
  rw [ej]
  refine ⟨⟨⟨ok.small.most, by simpa using ok.small.slots, by simpa using hlen⟩, fun i hi => ?_, hnd, fun s' hs' => ?_⟩, by simp [Ar.room]; omega, rfl⟩
  · have := hin i hi
    refine ⟨this.1, by simpa using this.2, ?_⟩
    show ((a.slots.set j ⟨s.gen, false, nd0⟩).getD (i - 1).toNat ⟨0, false, nd0⟩).used = false
    by_cases e : (i - 1).toNat = j
    · rw [List.getD_eq_getElem?_getD, e, List.getElem?_set_self hj]; rfl
    · rw [List.getD_eq_getElem?_getD, List.getElem?_set_ne (by omega), ← List.getD_eq_getElem?_getD]
      rw [List.mem_append] at hi
      rcases hi with hi | hi
      · exact (ok.free i hi).2.2
      · simp at hi; subst hi; exact absurd ej e
  · rcases List.mem_or_eq_of_mem_set hs' with hs' | rfl
    · exact ok.gen s' hs'
    · have := ok.gen _ (List.getElem_mem hj); rw [e2] at this; exact this
/-- An arena in which the first k of these were freed. -/
structure Freed (G : Nat) (a2 : Ar N2) (gone : List Hd) (k : Nat) (a : Ar N2) : Prop where
  get : ∀ h, a.get h = if h ∈ gone.take k then none else a2.get h
  ok : ArOk G a
  room : a.room = a2.room + k
  most : a.most = a2.most
theorem Freed.start {G : Nat} {a2 : Ar N2} {gone : List Hd} (ok : ArOk G a2) : Freed G a2 gone 0 a2 := ⟨fun h => by simp, ok, by simp, rfl⟩
theorem Freed.next {G : Nat} {a2 a : Ar N2} {gone : List Hd} {k : Nat} (F : Freed G a2 gone k a) (hk : k < gone.length) (hl : (a2.get gone[k]).isSome = true) (hn : gone.Nodup) : (a.get gone[k]).isSome = true ∧ Freed G a2 gone (k + 1) (a.del nd0 gone[k]) := by
  have hnot : gone[k] ∉ gone.take k := fun hm => by
    have hn2 : (gone.take k ++ gone.drop k).Nodup := by rw [List.take_append_drop]; exact hn
    have hd : gone[k] ∈ gone.drop k := by rw [List.drop_eq_getElem_cons hk]; exact List.mem_cons_self
    exact (List.nodup_append.mp hn2).2.2 _ hm _ hd rfl
  have h1 : (a.get gone[k]).isSome = true := by rw [F.get, if_neg hnot]; exact hl
  obtain ⟨x1, x2, x3⟩ := del_ok F.ok h1
  refine ⟨h1, ⟨fun h => ?_, x1, by rw [x2, F.room]; omega, x3.trans F.most⟩⟩
  rw [del_get h1, F.get, List.take_succ_eq_append_getElem hk]
  by_cases e : h = gone[k]
  · rw [if_pos e, if_pos (by rw [e]; exact List.mem_append.mpr (.inr (List.mem_singleton.mpr rfl)))]
  · rw [if_neg e]
    by_cases hm : h ∈ gone.take k
    · rw [if_pos hm, if_pos (List.mem_append.mpr (.inl hm))]
    · rw [if_neg hm, if_neg (fun x => (List.mem_append.mp x).elim hm (fun y => e (List.mem_singleton.mp y)))]
theorem lies_congr {a a' : Ar N2} : ∀ {t : T2}, (∀ h ∈ hds t, a'.get h = a.get h) → Lies a t → Lies a' t
  | .leaf, _, _ => trivial
  | .node h k v l r hi, hk, H => ⟨H.1, by rw [hk h (by simp [hds])]; exact H.2.1, lies_congr (fun x hx => hk x (by simp [hds, hx])) H.2.2.1, lies_congr (fun x hx => hk x (by simp [hds, hx])) H.2.2.2⟩
/-- Of a step: how nodes of both versions stand to those that were made, and are gone. -/
theorem Step.perm {G : Nat} {a a' : Ar N2} {t t' : T2} {made gone : List Hd} (S : Step G a t a' t' made gone) : (hds t' ++ gone).Perm (hds t ++ made) := by
  rw [List.perm_iff_count]
  intro x
  have := S.cnt x
  rw [List.count_append, List.count_append]
  exact this
theorem Step.nodup2 {G : Nat} {a a' : Ar N2} {t t' : T2} {made gone : List Hd} (S : Step G a t a' t' made gone) (hv : Ver a t) : (hds t' ++ gone).Nodup := by
  refine S.perm.nodup_iff.mpr (List.nodup_append.mpr ⟨hds_nodup hv.lies hv.sorted, S.nodup, fun x hx y hy e => ?_⟩)
  subst e
  obtain ⟨n, hn, _⟩ := hds_get hv.lies x hx
  rw [S.new x hy] at hn; cases hn
theorem Step.goneIn {G : Nat} {a a' : Ar N2} {t t' : T2} {made gone : List Hd} (S : Step G a t a' t' made gone) (hv : Ver a t) : ∀ h ∈ gone, (a'.get h).isSome = true := by
  intro h hh
  have hm : h ∈ hds t ++ made := S.perm.mem_iff.mp (by simp [hh])
  rw [List.mem_append] at hm
  rcases hm with hm | hm
  · obtain ⟨n, hn, _⟩ := hds_get hv.lies h hm
    rw [S.keep h n hn]; rfl
  · exact S.isNew h hm
theorem Freed.ver {G G' : Nat} {a a2 a' : Ar N2} {t t2 : T2} {made gone : List Hd} (S : Step G' a t a2 t2 made gone) (hv : Ver a t) (F : Freed G a2 gone gone.length a') : Ver a' t2 ∧ a'.room = a.room + (pairs t).length - (pairs t2).length := by
  have nd := List.nodup_append.mp (S.nodup2 hv)
  have hg := F.get
  rw [List.take_length] at hg
  refine ⟨⟨lies_congr (fun h hh => by rw [hg, if_neg (fun hm => nd.2.2 h hh h hm rfl)]) S.ver.lies, S.ver.avl, S.ver.sorted⟩, ?_⟩
  have h1 := S.perm.length_eq
  rw [List.length_append, List.length_append, hds_len, hds_len] at h1
  have h2 := F.room
  have h3 := S.room
  omega
/-! ### Acts -/
abbrev ActT := Bool × Int × Int × Int × Bool
def actKd : Kd ActT := Kd.pair Kd.bool (Kd.pair (Kd.int .u8) (Kd.pair (Kd.int .u8) (Kd.pair (Kd.int .u8) Kd.bool)))
theorem act_open {w : World} {x : ActT} {cs : List Value} (h : actKd.K w x cs) : cs = [.bool x.1, .int .u8 x.2.1, .int .u8 x.2.2.1, .int .u8 x.2.2.2.1, .bool x.2.2.2.2] := by
  obtain ⟨_, _, rfl, rfl, _, _, rfl, rfl, _, _, rfl, rfl, _, _, rfl, rfl, rfl⟩ := h
  rfl
theorem act_at {w : World} {A : Option Addr} {l : List ActT} (h : Kd.C actKd w A l.length l) (i : Nat) (hi : i < l.length) :
    ∃ ad, A = some ad ∧ w.cell? (ad.add (i * 5)) = some (.bool l[i].1) ∧ w.cell? ⟨(ad.add (i * 5)).block, (ad.add (i * 5)).off + 1, none⟩ = some (.int .u8 l[i].2.1) ∧ w.cell? ⟨(ad.add (i * 5)).block, (ad.add (i * 5)).off + 2, none⟩ = some (.int .u8 l[i].2.2.1) ∧ w.cell? ⟨(ad.add (i * 5)).block, (ad.add (i * 5)).off + 3, none⟩ = some (.int .u8 l[i].2.2.2.1) ∧ w.cell? ⟨(ad.add (i * 5)).block, (ad.add (i * 5)).off + 4, none⟩ = some (.bool l[i].2.2.2.2) := by
  obtain ⟨ad, e, hc⟩ := h.2.2 (by omega)
  obtain ⟨cs, _, hK, hcell⟩ := hc i l[i] (List.getElem?_eq_getElem hi)
  have := act_open hK
  subst this
  have f : ∀ j u, ([.bool l[i].1, .int .u8 l[i].2.1, .int .u8 l[i].2.2.1, .int .u8 l[i].2.2.2.1, .bool l[i].2.2.2.2] : List Value)[j]? = some u → w.cell? (ad.add (i * 5 + j)) = some u := hcell
  exact ⟨ad, e, f 0 _ rfl, by rw [← add_field _ _ 1 (by omega)]; exact f 1 _ rfl, by rw [← add_field _ _ 2 (by omega)]; exact f 2 _ rfl, by rw [← add_field _ _ 3 (by omega)]; exact f 3 _ rfl, by rw [← add_field _ _ 4 (by omega)]; exact f 4 _ rfl⟩
theorem acts_below {w w' : World} {A : Option Addr} {l : List ActT} (h : Kd.C actKd w A l.length l) (hb : Below w.heap.size w w') : Kd.C actKd w' A l.length l := Kd.C_below h hb
end Go.Proofs.Ytmhfbpdahfepgaa.Pm
/- Package pmap's finish, Put, Del once more: the row of what is gone is a new one. -/
namespace Go.Proofs.Ytmhfbpdahfepgaa.Pm
open Go.RowKit Go.Proofs.YtmhfbpdahfepgaaW.PrintWords
attribute [local go_sem high] eqHd
def FinOut2 (w0 W : World) (B m aa : Nat) (a' : Ar N2) (root : Hd) (made g : List Hd) (gv : Value) (e : Ending) (w' : World) : Prop :=
  ∃ mv, e = .returned (.tuple #[edV root mv gv, .bool true]) ∧ FS w0 w' B m aa gv mv a' made g ∧ Fr W w'
def FinOut3 (w0 W : World) (B m aa : Nat) (a' : Ar N2) (root : Hd) (made g : List Hd) (e : Ending) (w' : World) : Prop :=
  ∃ mv gv, e = .returned (.tuple #[edV root mv gv, .bool true]) ∧ FS w0 w' B m aa gv mv a' made g ∧ Fr W w' ∧ OwnH w' W.heap.size gv g
set_option maxHeartbeats 4000000 in
theorem finish_calls2 (w0 W : World) (B B0 m aa eb : Nat) (a a0 : Ar N2) (t : T2) (p : Option Nat) (g : List Hd) (gv : Value) (G : Nat) (HM : MapB w0 W B m aa a) (he : W.heap[eb]? = some (.cells #[.pointer (some ⟨m, 0, none⟩), gv] 74 (0, 0))) (hg : OwnH W B gv g)
    (hd : Den B0 W a0 p t) (ok : ArOk G a) (hG : G + fresh t ≤ 1000000) (hr : (fresh t : Int) ≤ a.room) :
    Calls Try.prog 31 #[.pointer (some ⟨m, 0, none⟩), .pointer (some ⟨eb, 0, none⟩), .pointer (p.map fun b => ⟨b, 0, none⟩)] W (FinOut2 w0 W B m aa (store nd0 a t).1 (store nd0 a t).2.1 (store nd0 a t).2.2 g gv) := by
  obtain ⟨Ag, cg, rfl, _⟩ := OwnRow.slice_ hg
  generalize g.length = lg at *
  have e1 : W.cell? ⟨eb, 1, none⟩ = some (.slice Ag lg cg) := blk_cell he 1
  have hlt := blk_lt he
  have HFR := Lib.hid (fun (V : World) (hb : Below W.heap.size W V) => fresh_calls B0 eb a0 t V p ((Ext.below hb).den _ _ hd) (by omega))
  have HRM := Lib.hid (fun (V : World) (hb : Below W.heap.size W V) => mroom_calls w0 V B m aa a (HM.below hb) ok.small)
  have HST := Lib.hid (fun (V : World) (ob : Nat) (hs : SS w0 V B m aa eb ob cmpF (.slice Ag lg cg) (.slice none 0 0) a []) (hb : Below W.heap.size W V) => store_calls w0 B0 B m aa eb ob cmpF (.slice Ag lg cg) a0 t V (.slice none 0 0) p a [] G hs ((Ext.below hb).den _ _ hd) ok hG hr (by show 0 + _ ≤ _; omega))
  have HM0 := Lib.hid HM
  have HE0 := Lib.hid he
  have HG0 := Lib.hid hg
  have hsz := HM.sz
  have HBB := Lib.hid HM.bel
  have hq : decide (a.room < (fresh t : Int)) = false := decide_eq_false (by omega)
  clear HM he hg hd hG ok hr
  generalize (store nd0 a t) = ST at *
  generalize a.room = R at *
  generalize (fresh t : Int) = F at *
  simp only [hdV] at HST
  go_enter Try.func31, Try.ntmps31
  go_wp2_with (first
    | (go_at_call 40; go_loud ((with_reducible refine Calls.mono (HFR.out _ (by repeat (first | exact Below.refl _ _ | apply below_drew1 | apply below_alloc | apply pw_below_drewN))) ?_); rintro e w1 ⟨rfl, n1, rfl⟩))
    | (go_at_call 20; go_loud ((with_reducible refine Calls.mono (HRM.out _ (by repeat (first | exact Below.refl _ _ | apply below_drew1 | apply below_alloc | apply pw_below_drewN))) ?_); rintro e w1 ⟨rfl, n2, rfl⟩))
    | (go_at_call 41; go_loud (
        (have hb1 : Below W.heap.size W (((W.alloc (Obj.cells #[.int .i64 0, .int .i64 0, .slice none 0 0, .slice none 0 0] 39 (0, 0))).drewN (n1 + n2)).alloc (Obj.cells #[.int .i64 0, .int .i64 0, .slice none 0 0, .slice Ag lg cg] 39 (0, 0))) := (by repeat (first | exact Below.refl _ _ | apply below_drew1 | apply below_alloc | apply pw_below_drewN)));
        (have hbx : (((W.alloc (Obj.cells #[.int .i64 0, .int .i64 0, .slice none 0 0, .slice none 0 0] 39 (0, 0))).drewN (n1 + n2)).alloc (Obj.cells #[.int .i64 0, .int .i64 0, .slice none 0 0, .slice Ag lg cg] 39 (0, 0))).heap[W.heap.size]? = some (Obj.cells #[.int .i64 0, .int .i64 0, .slice none 0 0, .slice none 0 0] 39 (0, 0)) := blk_below (blk_new W _) (by repeat (first | exact Below.refl _ _ | apply below_drew1 | apply below_alloc | apply pw_below_drewN)));
        (have hob : (((W.alloc (Obj.cells #[.int .i64 0, .int .i64 0, .slice none 0 0, .slice none 0 0] 39 (0, 0))).drewN (n1 + n2)).alloc (Obj.cells #[.int .i64 0, .int .i64 0, .slice none 0 0, .slice Ag lg cg] 39 (0, 0))).heap[W.heap.size + 1]? = some (Obj.cells #[.int .i64 0, .int .i64 0, .slice none 0 0, .slice Ag lg cg] 39 (0, 0)) := alloc_at (by simp));
        (have hs0 : SS w0 (((W.alloc (Obj.cells #[.int .i64 0, .int .i64 0, .slice none 0 0, .slice none 0 0] 39 (0, 0))).drewN (n1 + n2)).alloc (Obj.cells #[.int .i64 0, .int .i64 0, .slice none 0 0, .slice Ag lg cg] 39 (0, 0))) B m aa eb (W.heap.size + 1) cmpF (.slice Ag lg cg) (.slice none 0 0) a [] := ⟨(HM0.out.below hb1).at_, by omega, (HM0.out.below hb1).hm, blk_below HE0.out hb1, hob, nilH _ _⟩);
        (with_reducible refine Calls.mono (HST.out _ _ hs0 hb1) ?_); rintro e w2 ⟨rfl, mv, hs, hx⟩; rw [List.nil_append] at hs;
        have HF2 := Lib.hid (Fr.of hx hs0.bel hs.bel hb1 (Nat.le_succ _) rfl);
        have HRB := Lib.hid (hx.block _ _ _ hbx (by decide) (by decide) (by decide) (Nat.ne_of_lt (Nat.lt_succ_self _)) (fun e => by injection e));
        have HFS := Lib.hid (show FS w0 w2 B m aa (.slice Ag lg cg) mv ST.1 ST.2.2 g from ⟨⟨hs.at_, hs.hm, HM0.out.bm⟩, hs.hmade, HG0.out.fr (Fr.of hx hs0.bel hs.bel hb1 (Nat.le_succ _) rfl)⟩);
        obtain ⟨Am, cm, rfl, _⟩ := OwnRow.slice_ hs.hmade;
        have HOB := Lib.hid hs.ho;
        have o0 := blk_cell hs.ho 0; have o1 := blk_cell hs.ho 1; have o2 := blk_cell hs.ho 2; have o3 := blk_cell hs.ho 3;
        have zo0 := blk_frozen hs.ho 0; have zo1 := blk_frozen hs.ho 1;
        have b0 := blk_cell HRB.out 0; have b1 := blk_cell HRB.out 1; have b2 := blk_cell HRB.out 2; have b3 := blk_cell HRB.out 3;
        have zb0 := blk_frozen HRB.out 0; have zb1 := blk_frozen HRB.out 1; have zb2 := blk_frozen HRB.out 2; have zb3 := blk_frozen HRB.out 3;
        simp at o0 o1 o2 o3 b0 b1 b2 b3;
        clear hb1 hbx hob hs0 hs hx))
    | (fail "no arm"))
  have HR1 := Lib.hid (blk_far (blk_far HRB.out (Nat.ne_of_lt (Nat.lt_succ_self W.heap.size)) (.int .i64 ST.2.1.s) : (w2.setCell ⟨W.heap.size + 1, 0, none⟩ (.int .i64 ST.2.1.s)).heap[W.heap.size]? = _) (Nat.ne_of_lt (Nat.lt_succ_self W.heap.size)) (.int .i64 ST.2.1.g) : ((w2.setCell ⟨W.heap.size + 1, 0, none⟩ (.int .i64 ST.2.1.s)).setCell ⟨W.heap.size + 1, 1, none⟩ (.int .i64 ST.2.1.g)).heap[W.heap.size]? = _)
  have HFS1 := Lib.hid ((HFS.out.setE HOB.out (Nat.le_succ_of_le hsz) 0 (.int .i64 ST.2.1.s)).setE (blk_put HOB.out 0 (.int .i64 ST.2.1.s) rfl) (Nat.le_succ_of_le hsz) 1 (.int .i64 ST.2.1.g))
  have HF1 := Lib.hid (Fr.new (Fr.new HF2.out (Nat.le_succ W.heap.size) 0 (.int .i64 ST.2.1.s)) (Nat.le_succ W.heap.size) 1 (.int .i64 ST.2.1.g))
  generalize ((w2.setCell ⟨W.heap.size + 1, 0, none⟩ (.int .i64 ST.2.1.s)).setCell ⟨W.heap.size + 1, 1, none⟩ (.int .i64 ST.2.1.g)) = V1 at *
  have HR2 := Lib.hid (blk_put (blk_put (blk_put (blk_put HR1.out 0 (.int .i64 ST.2.1.s) rfl) 1 (.int .i64 ST.2.1.g) rfl) 2 (.slice Am ST.2.2.length cm) rfl) 3 (.slice Ag lg cg) rfl)
  have HFS2 := Lib.hid ((((HFS1.out.setE HR1.out hsz 0 (.int .i64 ST.2.1.s)).setE (blk_put HR1.out 0 (.int .i64 ST.2.1.s) rfl) hsz 1 (.int .i64 ST.2.1.g)).setE (blk_put (blk_put HR1.out 0 (.int .i64 ST.2.1.s) rfl) 1 (.int .i64 ST.2.1.g) rfl) hsz 2 (.slice Am ST.2.2.length cm)).setE (blk_put (blk_put (blk_put HR1.out 0 (.int .i64 ST.2.1.s) rfl) 1 (.int .i64 ST.2.1.g) rfl) 2 (.slice Am ST.2.2.length cm) rfl) hsz 3 (.slice Ag lg cg))
  have HF3 := Lib.hid (Fr.new (Fr.new (Fr.new (Fr.new HF1.out (Nat.le_refl _) 0 (.int .i64 ST.2.1.s)) (Nat.le_refl _) 1 (.int .i64 ST.2.1.g)) (Nat.le_refl _) 2 (.slice Am ST.2.2.length cm)) (Nat.le_refl _) 3 (.slice Ag lg cg))
  generalize ((((V1.setCell ⟨W.heap.size, 0, none⟩ (.int .i64 ST.2.1.s)).setCell ⟨W.heap.size, 1, none⟩ (.int .i64 ST.2.1.g)).setCell ⟨W.heap.size, 2, none⟩ (.slice Am ST.2.2.length cm)).setCell ⟨W.heap.size, 3, none⟩ (.slice Ag lg cg)) = V2 at *
  have q0 : V2.cell? ⟨W.heap.size, 0, none⟩ = some (.int .i64 ST.2.1.s) := blk_cell HR2.out 0
  have q1 : V2.cell? ⟨W.heap.size, 1, none⟩ = some (.int .i64 ST.2.1.g) := blk_cell HR2.out 1
  have q2 : V2.cell? ⟨W.heap.size, 2, none⟩ = some (.slice Am ST.2.2.length cm) := blk_cell HR2.out 2
  have q3 : V2.cell? ⟨W.heap.size, 3, none⟩ = some (.slice Ag lg cg) := blk_cell HR2.out 3
  refine bodyPost_ret (v := .tuple #[edV ST.2.1 (.slice Am ST.2.2.length cm) (.slice Ag lg cg), .bool true]) (by simp [results, Try.results31, edV, go_sem, q0, q1, q2, q3]; try rfl) rfl ?_
  exact ⟨_, rfl, HFS2.out, HF3.out⟩
theorem own_four {W : World} {B n : Nat} {gv mv : Value} {g : List Hd} {root : Hd} (h : OwnH W B gv g) (hr : W.heap[n]? = some (Obj.cells #[.int .i64 0, .int .i64 0, .slice none 0 0, .slice none 0 0] 39 (0, 0))) :
    OwnH ((((W.setCell ⟨n, 0, none⟩ (.int .i64 root.s)).setCell ⟨n, 1, none⟩ (.int .i64 root.g)).setCell ⟨n, 2, none⟩ mv).setCell ⟨n, 3, none⟩ gv) B gv g := by
  have k0 := blk_put hr 0 (.int .i64 root.s) rfl
  have k1 := blk_put k0 1 (.int .i64 root.g) rfl
  have k2 := blk_put k1 2 mv rfl
  exact OwnRow.set_ (OwnRow.set_ (OwnRow.set_ (OwnRow.set_ h hr (by decide) 0 _) k0 (by decide) 1 _) k1 (by decide) 2 _) k2 (by decide) 3 _
set_option maxHeartbeats 4000000 in
theorem mput_calls2 (w0 W : World) (B m aa : Nat) (a : Ar N2) (t : T2) (k v : Int) (G : Nat) (HM : MapB w0 W B m aa a) (hl : Lies a t) (av : Avl t) (hh : t.hi ≤ 50000) (ok : ArOk G a) (hG : G + fresh (tput cmpI t k v).1 ≤ 1000000) (hr : (fresh (tput cmpI t k v).1 : Int) ≤ a.room) :
    Calls Try.prog 16 #[.pointer (some ⟨m, 0, none⟩), hdV t.h, .int .i64 k, .int .i64 v] W (FinOut3 w0 W B m aa (store nd0 a (tput cmpI t k v).1).1 (store nd0 a (tput cmpI t k v).1).2.1 (store nd0 a (tput cmpI t k v).1).2.2 (tput cmpI t k v).2) := by
  have hsz := HM.sz
  have HIT := Lib.hid (fun (V : World) (B0 eb : Nat) (hb : B0 ≤ V.heap.size) => item_calls B0 V eb a t hl hb)
  have HPU := Lib.hid (fun (V0 V : World) (eb : Nat) (p : Option Nat) (hb0 : Below W.heap.size W V0) (hs : St V0 V eb m []) (hd : Den V0.heap.size V a p t) => put_of V0 V m aa eb a t p k v (HM.below hb0).mapAt hs hd av hh)
  have HFI := Lib.hid (fun (V : World) (B0 eb b : Nat) (gv : Value) (hb : Below W.heap.size W V) (he : V.heap[eb]? = some (.cells #[.pointer (some ⟨m, 0, none⟩), gv] 74 (0, 0))) (hg : OwnH V B gv (tput cmpI t k v).2) (hd : Den B0 V a (some b) (tput cmpI t k v).1) => finish_calls2 w0 V B B0 m aa eb a a (tput cmpI t k v).1 (some b) (tput cmpI t k v).2 gv G (HM.below hb) he hg hd ok hG hr)
  simp only [Option.map_some] at HFI
  clear HM hl av hh ok hG hr
  generalize (store nd0 a (tput cmpI t k v).1) = ST at *
  generalize (tput cmpI t k v) = TT at *
  simp only [hdV, ptrV] at HIT ⊢
  go_enter Try.func16, Try.ntmps16
  go_wp2_with (first
    | (go_at_call 33; go_loud (
        (with_reducible refine Calls.mono (HIT.out _ (W.heap.size + 1 + 1) _ (by simp [World.size_alloc])) ?_);
        rintro e w1 ⟨⟨p, rfl, hc⟩, hb⟩;
        (have hb0 : Below W.heap.size W ((W.alloc (Obj.cells #[.int .i64 t.h.s, .int .i64 t.h.g] 28 (0, 0))).alloc (Obj.cells #[.int .i64 0, .int .i64 0, .slice none 0 0, .slice none 0 0] 39 (0, 0))) := (by repeat (first | exact Below.refl _ _ | apply below_drew1 | apply below_alloc | apply pw_below_drewN)));
        (have hz0 : ((W.alloc (Obj.cells #[.int .i64 t.h.s, .int .i64 t.h.g] 28 (0, 0))).alloc (Obj.cells #[.int .i64 0, .int .i64 0, .slice none 0 0, .slice none 0 0] 39 (0, 0))).heap.size = W.heap.size + 1 + 1 := (by simp [World.size_alloc]));
        (have hee : (((W.alloc (Obj.cells #[.int .i64 t.h.s, .int .i64 t.h.g] 28 (0, 0))).alloc (Obj.cells #[.int .i64 0, .int .i64 0, .slice none 0 0, .slice none 0 0] 39 (0, 0))).alloc (Obj.cells #[.pointer (some ⟨m, 0, none⟩), .slice none 0 0] 74 (0, 0))).heap[W.heap.size + 1 + 1]? = some (Obj.cells #[.pointer (some ⟨m, 0, none⟩), .slice none 0 0] 74 (0, 0)) := alloc_at hz0);
        (have hbx : ((W.alloc (Obj.cells #[.int .i64 t.h.s, .int .i64 t.h.g] 28 (0, 0))).alloc (Obj.cells #[.int .i64 0, .int .i64 0, .slice none 0 0, .slice none 0 0] 39 (0, 0))).heap[W.heap.size + 1]? = some (Obj.cells #[.int .i64 0, .int .i64 0, .slice none 0 0, .slice none 0 0] 39 (0, 0)) := alloc_at (by simp [World.size_alloc]));
        have HB0 := Lib.hid hb0;
        have HZ0 := Lib.hid hz0;
        have HBX0 := Lib.hid hbx;
        have HS1 := Lib.hid (show St ((W.alloc (Obj.cells #[.int .i64 t.h.s, .int .i64 t.h.g] 28 (0, 0))).alloc (Obj.cells #[.int .i64 0, .int .i64 0, .slice none 0 0, .slice none 0 0] 39 (0, 0))) w1 (W.heap.size + 1 + 1) m [] from ⟨(below_alloc (Below.refl _ _) _).trans (hb.mono (by simp [World.size_alloc])), (by rw [hz0]; omega), _, blk_below hee hb, nilH _ _⟩);
        have HD1 := Lib.hid (show Den ((W.alloc (Obj.cells #[.int .i64 t.h.s, .int .i64 t.h.g] 28 (0, 0))).alloc (Obj.cells #[.int .i64 0, .int .i64 0, .slice none 0 0, .slice none 0 0] 39 (0, 0))).heap.size w1 a p t from (hc.den (Nat.le_of_eq hz0)));
        generalize ((W.alloc (Obj.cells #[.int .i64 t.h.s, .int .i64 t.h.g] 28 (0, 0))).alloc (Obj.cells #[.int .i64 0, .int .i64 0, .slice none 0 0, .slice none 0 0] 39 (0, 0))) = V0 at *;
        clear hc hb hb0 hee hbx hz0))
    | (go_at_call 32; go_loud ((with_reducible refine Calls.mono (HPU.out V0 _ _ p HB0.out HS1.out HD1.out) ?_); rintro e w2 ⟨⟨b2, rfl, ho⟩, hx, hs⟩; rw [List.nil_append] at hs; obtain ⟨gv, he2, hg2⟩ := hs.ed; have HS2 := Lib.hid (HB0.out.trans (hs.bel.mono HB0.out.size)); have HD2 := Lib.hid ho.den; have HE2 := Lib.hid he2; have HG2 := Lib.hid hg2; have HBX2 := Lib.hid (blk_below HBX0.out hs.bel); clear hs ho hx he2 hg2))
    | (go_at_call 31; go_loud ((with_reducible refine Calls.mono (HFI.out _ _ _ b2 gv HS2.out HE2.out (HG2.out.low (by rw [HZ0.out]; omega)) HD2.out) ?_); rintro e w3 ⟨mv, rfl, hfs, hfr⟩; have HGR := Lib.hid (OwnH.fr HG2.out hfr); have HFR := Lib.hid ((Fr.below HS2.out).trans hfr); obtain ⟨Am, cm, rfl, _⟩ := OwnRow.slice_ hfs.hmade; obtain ⟨Ag, cg, hgv, _⟩ := OwnRow.slice_ hfs.hgone; subst hgv; simp only [edV]; have HFS := Lib.hid hfs; have HRB := Lib.hid (FrX.typedF hfr HBX2.out); have b0 := blk_cell HRB.out 0; have b1 := blk_cell HRB.out 1; have b2' := blk_cell HRB.out 2; have b3 := blk_cell HRB.out 3; have zb0 := blk_frozen HRB.out 0; have zb1 := blk_frozen HRB.out 1; have zb2 := blk_frozen HRB.out 2; have zb3 := blk_frozen HRB.out 3; simp at b0 b1 b2' b3; clear hfs hfr))
    | (fail "no arm"))
  have HGV := Lib.hid (own_four (root := ST.2.1) (mv := .slice Am ST.2.2.length cm) HGR.out HRB.out)
  have HV := Lib.hid (HFS.out.box (root := ST.2.1) HRB.out (Nat.le_succ_of_le hsz) HFR.out (Nat.le_succ W.heap.size))
  generalize ((((w3.setCell ⟨W.heap.size + 1, 0, none⟩ (.int .i64 ST.2.1.s)).setCell ⟨W.heap.size + 1, 1, none⟩ (.int .i64 ST.2.1.g)).setCell ⟨W.heap.size + 1, 2, none⟩ (.slice Am ST.2.2.length cm)).setCell ⟨W.heap.size + 1, 3, none⟩ (.slice Ag TT.2.length cg)) = V2 at *
  obtain ⟨hv1, hv2, hv3⟩ := HV.out
  have q0 : V2.cell? ⟨W.heap.size + 1, 0, none⟩ = some (.int .i64 ST.2.1.s) := blk_cell hv1 0
  have q1 : V2.cell? ⟨W.heap.size + 1, 1, none⟩ = some (.int .i64 ST.2.1.g) := blk_cell hv1 1
  have q2 : V2.cell? ⟨W.heap.size + 1, 2, none⟩ = some (.slice Am ST.2.2.length cm) := blk_cell hv1 2
  have q3 : V2.cell? ⟨W.heap.size + 1, 3, none⟩ = some (.slice Ag TT.2.length cg) := blk_cell hv1 3
  have HV2 := Lib.hid hv2
  have HV3 := Lib.hid hv3
  clear hv1 hv2 hv3
  refine bodyPost_ret (v := .tuple #[edV ST.2.1 (.slice Am ST.2.2.length cm) (.slice Ag TT.2.length cg), .bool true]) (by simp [results, Try.results16, edV, go_sem, q0, q1, q2, q3]; try rfl) rfl ?_
  exact ⟨_, _, rfl, HV2.out, HV3.out, HGV.out.low (by rw [HZ0.out]; omega)⟩
set_option maxHeartbeats 4000000 in
theorem mdel_calls2 (w0 W : World) (B m aa : Nat) (a : Ar N2) (t : T2) (k : Int) (G : Nat) (HM : MapB w0 W B m aa a) (hl : Lies a t) (av : Avl t) (hh : t.hi ≤ 50000) (hsome : (tget cmpI t k).isSome = true) (ok : ArOk G a) (hG : G + fresh (tdel cmpI t k).1 ≤ 1000000) (hr : (fresh (tdel cmpI t k).1 : Int) ≤ a.room) :
    Calls Try.prog 23 #[.pointer (some ⟨m, 0, none⟩), hdV t.h, .int .i64 k] W (FinOut3 w0 W B m aa (store nd0 a (tdel cmpI t k).1).1 (store nd0 a (tdel cmpI t k).1).2.1 (store nd0 a (tdel cmpI t k).1).2.2 (tdel cmpI t k).2) := by
  have hsz := HM.sz
  have hk := has_get k t hsome
  have HIT := Lib.hid (fun (V : World) (B0 eb : Nat) (hb : B0 ≤ V.heap.size) => item_calls B0 V eb a t hl hb)
  have HPU := Lib.hid (fun (V0 V : World) (eb : Nat) (p : Option Nat) (hb0 : Below W.heap.size W V0) (hs : St V0 V eb m []) (hd : Den V0.heap.size V a p t) => del_of V0 V m aa eb a t p k (HM.below hb0).mapAt hs hd av hh hk)
  have HFI := Lib.hid (fun (V : World) (B0 eb : Nat) (b : Option Nat) (gv : Value) (hb : Below W.heap.size W V) (he : V.heap[eb]? = some (.cells #[.pointer (some ⟨m, 0, none⟩), gv] 74 (0, 0))) (hg : OwnH V B gv (tdel cmpI t k).2) (hd : Den B0 V a b (tdel cmpI t k).1) => finish_calls2 w0 V B B0 m aa eb a a (tdel cmpI t k).1 b (tdel cmpI t k).2 gv G (HM.below hb) he hg hd ok hG hr)
  have hs := Lib.hid hsome
  have HGT := Lib.hid (fun (V : World) (hb : Below W.heap.size W V) => show Calls Try.prog 26 #[.pointer (some ⟨m, 0, none⟩), hdV t.h, .int .i64 k] V fun e w' => e = .returned (.tuple #[.int .i64 ((tget cmpI t k).getD 0), .bool true]) ∧ Below V.heap.size V w' by rw [← hsome]; exact mget_calls w0 V B m aa a t k (HM.below hb) hl av)
  generalize (tget cmpI t k).getD 0 = gd at *
  clear HM hl av hh hk hsome ok hG hr
  generalize (store nd0 a (tdel cmpI t k).1) = ST at *
  generalize (tdel cmpI t k) = TT at *
  simp only [hdV, ptrV] at HIT HGT ⊢
  go_enter Try.func23, Try.ntmps23
  go_wp2_with (first
    | (go_at_call 26; go_loud (
        (with_reducible refine Calls.mono (HGT.out _ (by repeat (first | exact Below.refl _ _ | apply below_drew1 | apply below_alloc | apply pw_below_drewN))) ?_);
        rintro e w1 ⟨rfl, hb⟩;
        (have hb0 : Below W.heap.size W ((W.alloc (Obj.cells #[.int .i64 t.h.s, .int .i64 t.h.g] 28 (0, 0))).alloc (Obj.cells #[.int .i64 0, .int .i64 0, .slice none 0 0, .slice none 0 0] 39 (0, 0))) := (by repeat (first | exact Below.refl _ _ | apply below_drew1 | apply below_alloc | apply pw_below_drewN)));
        (have hbx : ((W.alloc (Obj.cells #[.int .i64 t.h.s, .int .i64 t.h.g] 28 (0, 0))).alloc (Obj.cells #[.int .i64 0, .int .i64 0, .slice none 0 0, .slice none 0 0] 39 (0, 0))).heap[W.heap.size + 1]? = some (Obj.cells #[.int .i64 0, .int .i64 0, .slice none 0 0, .slice none 0 0] 39 (0, 0)) := alloc_at (by simp [World.size_alloc]));
        (have hhx : ((W.alloc (Obj.cells #[.int .i64 t.h.s, .int .i64 t.h.g] 28 (0, 0))).alloc (Obj.cells #[.int .i64 0, .int .i64 0, .slice none 0 0, .slice none 0 0] 39 (0, 0))).heap[W.heap.size]? = some (Obj.cells #[.int .i64 t.h.s, .int .i64 t.h.g] 28 (0, 0)) := blk_below (blk_new W (Obj.cells #[.int .i64 t.h.s, .int .i64 t.h.g] 28 (0, 0))) (below_alloc (Below.refl _ _) _));
        have HB0 := Lib.hid (hb0.trans (hb.mono (by simp [World.size_alloc]; omega)));
        have HBX0 := Lib.hid (blk_below hbx hb);
        (have hx0 : w1.cell? ⟨W.heap.size, 0, none⟩ = some (.int .i64 t.h.s) := blk_cell (blk_below hhx hb) 0);
        (have hx1 : w1.cell? ⟨W.heap.size, 1, none⟩ = some (.int .i64 t.h.g) := blk_cell (blk_below hhx hb) 1);
        have hlx := blk_lt (blk_below hhx hb);
        have hz1 := hb.size;
        clear hb hb0 hbx hhx))
    | (go_at_call 33; go_loud (
        (with_reducible refine Calls.mono (HIT.out _ w1.heap.size _ (by simp [World.size_alloc])) ?_);
        rintro e w4 ⟨⟨p, rfl, hc⟩, hb⟩;
        have HS1 := Lib.hid (show St w1 w4 w1.heap.size m [] from ⟨(below_alloc (Below.refl _ _) _).trans (hb.mono (by simp [World.size_alloc])), Nat.le_refl _, _, blk_below (blk_new w1 (Obj.cells #[.pointer (some ⟨m, 0, none⟩), .slice none 0 0] 74 (0, 0))) hb, nilH _ _⟩);
        have HD1 := Lib.hid (show Den w1.heap.size w4 a p t from (hc.den (Nat.le_refl _)));
        clear hc hb))
    | (go_at_call 37; go_loud ((with_reducible refine Calls.mono (HPU.out w1 _ _ p HB0.out HS1.out HD1.out) ?_); rintro e w2 ⟨⟨b2, rfl, ho⟩, hx, hs⟩; rw [List.nil_append] at hs; obtain ⟨gv, he2, hg2⟩ := hs.ed; have HS2 := Lib.hid (HB0.out.trans (hs.bel.mono HB0.out.size)); have HD2 := Lib.hid ho; have HE2 := Lib.hid he2; have HG2 := Lib.hid hg2; have HBX2 := Lib.hid (blk_below HBX0.out hs.bel); clear hs ho hx he2 hg2))
    | (go_at_call 31; go_loud ((with_reducible refine Calls.mono (HFI.out _ _ _ b2 gv HS2.out HE2.out (HG2.out.low (by have := HB0.out.size; omega)) HD2.out) ?_); rintro e w3 ⟨mv, rfl, hfs, hfr⟩; have HGR := Lib.hid (OwnH.fr HG2.out hfr); have HFR := Lib.hid ((Fr.below HS2.out).trans hfr); obtain ⟨Am, cm, rfl, _⟩ := OwnRow.slice_ hfs.hmade; obtain ⟨Ag, cg, hgv, _⟩ := OwnRow.slice_ hfs.hgone; subst hgv; simp only [edV]; have HFS := Lib.hid hfs; have HRB := Lib.hid (FrX.typedF hfr HBX2.out); have b0 := blk_cell HRB.out 0; have b1 := blk_cell HRB.out 1; have b2' := blk_cell HRB.out 2; have b3 := blk_cell HRB.out 3; have zb0 := blk_frozen HRB.out 0; have zb1 := blk_frozen HRB.out 1; have zb2 := blk_frozen HRB.out 2; have zb3 := blk_frozen HRB.out 3; simp at b0 b1 b2' b3; clear hfs hfr))
    | (fail "no arm"))
  have HGV := Lib.hid (own_four (root := ST.2.1) (mv := .slice Am ST.2.2.length cm) HGR.out HRB.out)
  have HV := Lib.hid (HFS.out.box (root := ST.2.1) HRB.out (Nat.le_succ_of_le hsz) HFR.out (Nat.le_succ W.heap.size))
  generalize ((((w3.setCell ⟨W.heap.size + 1, 0, none⟩ (.int .i64 ST.2.1.s)).setCell ⟨W.heap.size + 1, 1, none⟩ (.int .i64 ST.2.1.g)).setCell ⟨W.heap.size + 1, 2, none⟩ (.slice Am ST.2.2.length cm)).setCell ⟨W.heap.size + 1, 3, none⟩ (.slice Ag TT.2.length cg)) = V2 at *
  obtain ⟨hv1, hv2, hv3⟩ := HV.out
  have q0 : V2.cell? ⟨W.heap.size + 1, 0, none⟩ = some (.int .i64 ST.2.1.s) := blk_cell hv1 0
  have q1 : V2.cell? ⟨W.heap.size + 1, 1, none⟩ = some (.int .i64 ST.2.1.g) := blk_cell hv1 1
  have q2 : V2.cell? ⟨W.heap.size + 1, 2, none⟩ = some (.slice Am ST.2.2.length cm) := blk_cell hv1 2
  have q3 : V2.cell? ⟨W.heap.size + 1, 3, none⟩ = some (.slice Ag TT.2.length cg) := blk_cell hv1 3
  have HV2 := Lib.hid hv2
  have HV3 := Lib.hid hv3
  clear hv1 hv2 hv3
  refine bodyPost_ret (v := .tuple #[edV ST.2.1 (.slice Am ST.2.2.length cm) (.slice Ag TT.2.length cg), .bool true]) (by simp [results, Try.results23, edV, go_sem, q0, q1, q2, q3]; try rfl) rfl ?_
  exact ⟨_, _, rfl, HV2.out, HV3.out, HGV.out.low (by have := HB0.out.size; exact this)⟩
/-- What Put, and Del, hand out, and leave; the row of what is gone is new. -/
def EditOut2 (w0 W : World) (B m aa : Nat) (G : Nat) (a : Ar N2) (t : T2) (ps : List (Int × Int)) (e : Ending) (w' : World) : Prop :=
  ∃ a' t' made gone Am cm Ag cg lm lg, Step G a t a' t' made gone ∧ pairs t' = ps ∧ e = .returned (.tuple #[.agg #[.int .i64 t'.h.s, .int .i64 t'.h.g, .slice Am lm cm, .slice Ag lg cg], .bool true]) ∧ FS w0 w' B m aa (.slice Ag lg cg) (.slice Am lm cm) a' made gone ∧ Fr W w' ∧ OwnH w' W.heap.size (.slice Ag lg cg) gone
theorem mput_law2 (w0 W : World) (B m aa : Nat) (a : Ar N2) (t : T2) (k v : Int) (G : Nat) (HM : MapB w0 W B m aa a) (hv : Ver a t) (ok : ArOk G a) (hG : G ≤ 900000) (hn : (pairs t).length ≤ 60) (hr : 3 * t.hi + 1 ≤ a.room) :
    Calls Try.prog 16 #[.pointer (some ⟨m, 0, none⟩), hdV t.h, .int .i64 k, .int .i64 v] W (EditOut2 w0 W B m aa G a t (lput cmpI k v (pairs t))) := by
  have h8 := hi_60 hv.avl hn
  obtain ⟨S, hp, hrt, hfr, hfr2⟩ := (acted_put hv k v).step hv ok hn hr
  refine (mput_calls2 w0 W B m aa a t k v G HM hv.lies hv.avl (by omega) ok (by omega) (by omega)).mono ?_
  rintro e w' ⟨mv, gv, rfl, hfs, hF, hgn⟩
  obtain ⟨Am, cm, rfl, _⟩ := OwnRow.slice_ hfs.hmade
  obtain ⟨Ag, cg, rfl, _⟩ := OwnRow.slice_ hfs.hgone
  exact ⟨_, _, _, _, Am, cm, Ag, cg, _, _, S, by rw [hp, tput_pairs cmpI_ok k v t hv.sorted], by rw [hrt]; rfl, hfs, hF, hgn⟩
theorem mdel_law2 (w0 W : World) (B m aa : Nat) (a : Ar N2) (t : T2) (k : Int) (G : Nat) (HM : MapB w0 W B m aa a) (hv : Ver a t) (ok : ArOk G a) (hG : G ≤ 900000) (hn : (pairs t).length ≤ 60) (hr : 3 * t.hi + 1 ≤ a.room) (hk : (lhas cmpI k (pairs t)).isSome = true) :
    Calls Try.prog 23 #[.pointer (some ⟨m, 0, none⟩), hdV t.h, .int .i64 k] W (EditOut2 w0 W B m aa G a t (ldel cmpI k (pairs t))) := by
  have h8 := hi_60 hv.avl hn
  obtain ⟨S, hp, hrt, hfr, hfr2⟩ := (acted_del hv k).step hv ok hn hr
  refine (mdel_calls2 w0 W B m aa a t k G HM hv.lies hv.avl (by omega) (by rw [tget_pairs k t hv.sorted]; exact hk) ok (by omega) (by omega)).mono ?_
  rintro e w' ⟨mv, gv, rfl, hfs, hF, hgn⟩
  obtain ⟨Am, cm, rfl, _⟩ := OwnRow.slice_ hfs.hmade
  obtain ⟨Ag, cg, rfl, _⟩ := OwnRow.slice_ hfs.hgone
  exact ⟨_, _, _, _, Am, cm, Ag, cg, _, _, S, by rw [hp, tdel_pairs cmpI_ok k t hv.sorted], by rw [hrt]; rfl, hfs, hF, hgn⟩
end Go.Proofs.Ytmhfbpdahfepgaa.Pm
/- The walk of the law PmapFrees, at most thirty acts. -/
namespace Go.Proofs.Ytmhfbpdahfepgaa
open Go.RowKit Go.Proofs.YtmhfbpdahfepgaaW.PrintWords Pm
attribute [local go_sem high] eqHd
theorem pnew_law200 (w V : World) (hb : Below w.heap.size w V) : Calls Try.prog 10 #[.int .i64 200, .func (.func 11) #[] #[]] V fun e w' => (∃ m aa, e = .returned (.pointer (some ⟨m, 0, none⟩)) ∧ MapB w w' w.heap.size m aa (arNew 200)) ∧ Below V.heap.size V w' := pnew_ok w V w.heap.size 200 hb hb.size (by decide)
/-- A version was made, what is handed out lies in the block that is new next. -/
def CutE2 (w0 wr wx : World) (B m aa G : Nat) (a : Ar N2) (t : T2) (ps : List (Int × Int)) : Prop :=
  ∃ a2 t2 made gone Am cm Ag cg lm lg, Step G a t a2 t2 made gone ∧ pairs t2 = ps ∧ wx.heap[wr.heap.size]? = some (.cells #[.int .i64 t2.h.s, .int .i64 t2.h.g, .slice Am lm cm, .slice Ag lg cg] 39 (0, 0)) ∧ FS w0 wx B m aa (.slice Ag lg cg) (.slice Am lm cm) a2 made gone ∧ Fr wr wx ∧ OwnH wx wr.heap.size (.slice Ag lg cg) gone
theorem cutE2_store {w0 wr w3 : World} {B m aa G : Nat} {a a2 : Ar N2} {t t2 : T2} {ps : List (Int × Int)} {made gone : List Hd} {Am Ag : Option Addr} {cm cg lm lg : Nat} (S : Step G a t a2 t2 made gone) (hp : pairs t2 = ps) (hfs : FS w0 w3 B m aa (.slice Ag lg cg) (.slice Am lm cm) a2 made gone) (hF : Fr wr w3) (hgn : OwnH w3 wr.heap.size (.slice Ag lg cg) gone) (hn : w3.heap[wr.heap.size]? = some (.cells #[.int .i64 0, .int .i64 0, .slice none 0 0, .slice none 0 0] 39 (0, 0))) (hB : B ≤ wr.heap.size) :
    CutE2 w0 wr ((((w3.setCell ⟨wr.heap.size, 0, none⟩ (.int .i64 t2.h.s)).setCell ⟨wr.heap.size, 1, none⟩ (.int .i64 t2.h.g)).setCell ⟨wr.heap.size, 2, none⟩ (.slice Am lm cm)).setCell ⟨wr.heap.size, 3, none⟩ (.slice Ag lg cg)) B m aa G a t ps := by
  obtain ⟨h1, h2, h3⟩ := hfs.box (root := t2.h) hn hB hF (Nat.le_refl _)
  exact ⟨a2, t2, made, gone, Am, cm, Ag, cg, lm, lg, S, hp, h1, h2, h3, own_four hgn hn⟩
theorem own_base' {W : World} {B : Nat} {v : Value} {l : List Hd} (h : OwnH W B v l) (k : Nat) (hk : v.ownBlock = some k) : B ≤ k := by
  obtain ⟨inner, ho, _⟩ := h
  exact (ho.lt k hk).1
theorem ownH_set {W : World} {B n : Nat} {v : Value} {l : List Hd} (h : OwnH W B v l) (hn : some n ≠ v.ownBlock) (j : Nat) (u : Value) : OwnH (W.setCell ⟨n, j, none⟩ u) B v l := by
  obtain ⟨inner, ho, hr⟩ := h
  exact ⟨inner, own_setCell ho hn u, hr⟩
theorem h_at {W : World} {B : Nat} {A : Option Addr} {n c : Nat} {hs : List Hd} (h : OwnH W B (.slice A n c) hs) (i : Nat) (hi : i < hs.length) : ∃ ad, A = some ad ∧ W.cell? (ad.add (i * 2)) = some (.int .i64 hs[i].s) ∧ W.cell? ⟨(ad.add (i * 2)).block, (ad.add (i * 2)).off + 1, none⟩ = some (.int .i64 hs[i].g) := by
  obtain ⟨A', c', e, hc, hr⟩ := OwnRow.reads h
  injection e with e1 e2 e3
  subst e1
  obtain ⟨ad, e, hcell⟩ := hr.2.2 (by omega)
  obtain ⟨cs, hl, hR, hcc⟩ := hcell i hs[i] (List.getElem?_eq_getElem hi)
  have h0 := hcc 0 (.int .i64 hs[i].s) (by rw [hR]; rfl)
  have h1 := hcc 1 (.int .i64 hs[i].g) (by rw [hR]; rfl)
  rw [Nat.add_zero] at h0
  rw [add_field _ _ 1 (by omega)] at h1
  exact ⟨ad, e, h0, h1⟩
theorem ldel_len' (k : Int) (ps : List (Int × Int)) : (ldel cmpI k ps).length ≤ ps.length := List.length_filter_le _ _
theorem noedit_set {w5 w6 : World} {n : Nat} (hB : Below w5.heap.size w5 w6) (hn : w5.heap.size ≤ n) : Below w5.heap.size w5 ((((w6.setCell ⟨n, 0, none⟩ (.int .i64 0)).setCell ⟨n, 1, none⟩ (.int .i64 0)).setCell ⟨n, 2, none⟩ (.slice none 0 0)).setCell ⟨n, 3, none⟩ (.slice none 0 0)) :=
  (((hB.setCell (p := ⟨n, 0, none⟩) hn _).setCell (p := ⟨n, 1, none⟩) hn _).setCell (p := ⟨n, 2, none⟩) hn _).setCell (p := ⟨n, 3, none⟩) hn _
set_option maxRecDepth 100000 in
set_option maxHeartbeats 32000000 in
theorem pmapFrees_walk0 (A : Option Addr) (c : Nat) (l : List ActT) (w : World) (hr : Kd.C actKd w A l.length l) (_ : l.length ≤ c) (hl : l.length ≤ 30) (hb : ∀ x ∈ l, (0 ≤ x.2.1 ∧ x.2.1 < 256) ∧ 0 ≤ x.2.2.1 ∧ x.2.2.1 < 256) :
    Calls Try.prog 8 #[.slice A l.length c] w fun e w' => e = .returned (.bool true) ∧ Below w.heap.size w w' := by
  have HB := Lib.hid (Below.refl w.heap.size w)
  have HRI := Lib.hid hr
  have HBY := Lib.hid hb
  clear hr hb
  go_enter Try.func8, Try.ntmps8
  go_wp2_with (first
    | (go_at_call 9; go_loud ((refine Calls.mono (awake_calls _) ?_); rintro e w1 ⟨rfl, hb⟩; have HBn := Lib.hid (below_step (by repeat (first | (with_reducible exact HB.out) | apply below_alloc | apply pw_below_drewN | apply below_drew1 | exact HB.out)) hb); clear hb HB; have HB := HBn; clear HBn))
    | (go_at_call 10; go_loud (
        (with_reducible refine Calls.mono (pnew_law200 w _ (by repeat (first | (with_reducible exact HB.out) | apply below_alloc | apply pw_below_drewN | apply below_drew1 | exact HB.out))) ?_);
        rintro e2 w2 ⟨⟨m, aa, rfl, hm⟩, hb2⟩;
        have HM2 := Lib.hid hm;
        clear hm hb2))
    | (fail "no arm"))
  have HM4 := Lib.hid (HM2.out.below (show Below w2.heap.size w2 (w2.alloc (.cells #[.int .i64 0, .int .i64 0] 28 (0, 0))) from (by repeat (first | exact Below.refl _ _ | apply below_drew1 | apply below_alloc | apply pw_below_drewN))))
  have HR4 := Lib.hid (blk_new w2 (.cells #[.int .i64 0, .int .i64 0] 28 (0, 0)))
  have hrb : w.heap.size ≤ w2.heap.size := HM2.out.sz
  generalize (w2.alloc (.cells #[.int .i64 0, .int .i64 0] 28 (0, 0))) = V4 at *
  generalize w2.heap.size = rb at *
  clear HM2
  go_loopw [6, 7] (fun v6 v7 W' => ∃ (i : Nat) (a : Ar N2) (t : T2) (A6 : Option Addr) (n6 c6 : Nat), v7 = .int .i64 i ∧ v6 = .slice A6 n6 c6 ∧ i ≤ l.length ∧ Hid (Ver a t) ∧ Hid ((pairs t).length ≤ i) ∧ Hid (OwnP W' w.heap.size (.slice A6 n6 c6) (pairs t)) ∧ Hid (MapB w W' w.heap.size m aa a) ∧ Hid (ArOk (30 * i) a) ∧ Hid (a.room = 200 - (pairs t).length) ∧ Hid (a.most = 200) ∧ Hid (W'.heap[rb]? = some (.cells #[.int .i64 t.h.s, .int .i64 t.h.g] 28 (0, 0)))) (fun _ v7 _ => l.length - (RowKit.intOf v7).toNat)
  case atStart => exact ⟨0, arNew 200, .leaf, none, 0, 0, rfl, rfl, Nat.zero_le _, Lib.hid (Ver.leaf _), Lib.hid (Nat.le_refl _), Lib.hid (OwnRow.none_ _ _ _ _ _), HM4, Lib.hid (arNew_ok 200 (by decide)), Lib.hid (by rw [arNew_room]; rfl), Lib.hid rfl, HR4⟩
  case round =>
    clear HM4 HR4 HB
    obtain ⟨i, a, t, A6, n6, c6, rfl, rfl, hi, HV, HP, HO, HM, HAK, HRO, HMO, HRB⟩ := hrel
    by_cases hlt : i < l.length
    · have hp30 := HP.out
      have h8 := hi_60 HV.out.avl (by omega)
      obtain ⟨ad, e, c0, c1, c2, _, _⟩ := act_at (acts_below HRI.out HM.out.bel) i hlt
      subst e
      have hby := HBY.out _ (List.getElem_mem hlt)
      generalize hx : l[i] = x at *
      obtain ⟨dl, kx, vx, ox, old⟩ := x
      have HXI := Lib.hid hx
      clear hx
      dsimp only at c0 c1 c2 hby
      have hk0 := hby.1.1
      have hk1 := hby.1.2
      have hv0 := hby.2.1
      have hv1 := hby.2.2
      have hwk : IntKind.i64.wrap kx = kx := by rw [IntKind.wrap_i64]; omega
      have hwv : IntKind.i64.wrap vx = vx := by rw [IntKind.wrap_i64]; omega
      have hwi : IntKind.i64.wrap ((i : Int) + 1) = ((i + 1 : Nat) : Int) := by rw [IntKind.wrap_i64]; omega
      have hadl := cell_lt c0
      have HROOM := Lib.hid (show 3 * t.hi + 1 ≤ a.room by rw [HRO.out]; omega)
      have k0 := blk_cell HRB.out 0
      have k1 := blk_cell HRB.out 1
      simp at k0 k1
      have hltr := blk_lt HRB.out
      have hBW := HM.out.sz
      have HB := Lib.hid (Below.refl wr.heap.size wr)
      clear hby
      cases dl with
      | true =>
        by_cases hhas : (lhas cmpI kx (pairs t)).isSome = true
        · have HHAS := Lib.hid hhas
          clear hhas
          have HPU := Lib.hid (fun (V : World) (hb : Below wr.heap.size wr V) => mdel_law2 w V w.heap.size m aa a t kx (30 * i) (HM.out.below hb) HV.out HAK.out (by omega) (by omega) HROOM.out HHAS.out)
          simp only [hdV] at HPU
          unfold EditOut2 at HPU
          go_wp2
          go_cut [9] from 36 to 48 (fun v9 wx => v9 = .bool true ∧ Hid (CutE2 w wr wx w.heap.size m aa (30 * i) a t (ldel cmpI kx (pairs t))))
          case first =>
            go_region_with (first
              | (go_at_call 23; go_loud (
                  (with_reducible refine Calls.mono (HPU.out _ (by repeat (first | (with_reducible exact HB.out) | apply below_alloc | apply pw_below_drewN | apply below_drew1 | exact HB.out))) ?_);
                  rintro e w3 ⟨a2, t2, md, gn, Am, cm, Ag, cg, lm, lg, S, hp, rfl, hfs, hF, hgn⟩;
                  have HS3 := Lib.hid S; have HP3 := Lib.hid hp; have HFS3 := Lib.hid hfs; have HF3 := Lib.hid (Fr.trans (Fr.below (W := wr) (by repeat (first | (with_reducible exact HB.out) | apply below_alloc | apply pw_below_drewN | apply below_drew1 | exact HB.out))) hF); have HGN3 := Lib.hid (hgn.low (show wr.heap.size ≤ _ from Below.size (B := wr.heap.size) (w := wr) (by repeat (first | (with_reducible exact HB.out) | apply below_alloc | apply pw_below_drewN | apply below_drew1 | exact HB.out))));
                  have GE := Lib.hid (FrX.typedF hF (k := wr.heap.size) (cs := #[.int .i64 0, .int .i64 0, .slice none 0 0, .slice none 0 0]) (t := 39) (by first | exact blk_drew (blk_new _ _) | exact blk_new _ _)); have p0 := blk_cell GE.out 0; have p1 := blk_cell GE.out 1; have p2 := blk_cell GE.out 2; have p3 := blk_cell GE.out 3; have z0 := blk_frozen GE.out 0; have z1 := blk_frozen GE.out 1; have z2 := blk_frozen GE.out 2; have z3 := blk_frozen GE.out 3; simp at p0 p1 p2 p3;
                  clear S hp hfs hF hgn))
              | (fail "no arm"))
            all_goals
              go_wp2
              go_meet
              refine ⟨rfl, ?_⟩
              with_reducible exact Lib.hid (cutE2_store HS3.out HP3.out HFS3.out HF3.out HGN3.out GE.out hBW)
          case rest =>
            obtain ⟨rfl, HCE⟩ := hcut
            obtain ⟨a2, t2, md, gn, Am, cm, Ag, cg, lm, lg, S, hp, heb, hfs, hF, hgn⟩ := HCE.out
            have HS2 := Lib.hid S
            have HP2 := Lib.hid hp
            have HE5 := Lib.hid heb
            have HM5 := Lib.hid hfs.mb
            have HG5 := Lib.hid hgn
            have HR5 := Lib.hid (FrX.typedF hF HRB.out)
            have HO5 := Lib.hid (OwnP.fr HO.out hF)
            have HF5 := Lib.hid hF
            clear HCE S hp heb hfs hF hgn HB k0 k1
            obtain ⟨ad2, e, d0, d1, d2, _, _⟩ := act_at (acts_below HRI.out HM5.out.bel) i hlt
            cases e
            rw [HXI.out] at d0 d1 d2
            dsimp only at d0 d1 d2
            have hpl5 := ldel_len' kx (pairs t)
            have HWO := Lib.hid (without_law wc w.heap.size A6 n6 c6 (pairs t) kx HO5.out (by omega))
            go_wp2_with (first
              | (go_at_call 22; go_loud (
                  (with_reducible refine Calls.mono HWO.out ?_);
                  rintro e5 V6 ⟨pv, rfl, hop, hb5⟩;
                  obtain ⟨A7, c7, rfl, _⟩ := OwnRow.slice_ hop;
                  generalize hn7 : (ldel cmpI kx (pairs t)).length = n7 at *;
                  rw [← HP2.out] at hop;
                  have HO6 := Lib.hid (row_low hop HM5.out.sz); have HM6 := Lib.hid (HM5.out.below hb5); have HR6 := Lib.hid (blk_below HR5.out hb5); have HE6 := Lib.hid (blk_below HE5.out hb5); have HG6 := Lib.hid (OwnRow.below HG5.out hb5);
                  have hpl : (pairs t2).length ≤ i + 1 := (by rw [HP2.out, hn7]; omega);
                  have HN7 := Lib.hid (show n7 = (pairs t2).length by rw [HP2.out, hn7]);
                  have e0 := blk_cell HE6.out 0; have e1 := blk_cell HE6.out 1; have z0 := blk_frozen HR6.out 0; have z1 := blk_frozen HR6.out 1; have r0 := blk_cell HR6.out 0; have r1 := blk_cell HR6.out 1; simp at e0 e1 r0 r1; have hlte := blk_lt HE6.out; have hltr6 := blk_lt HR6.out; have hne1 := typed_ne HE6.out HR6.out (by decide);
                  clear hop hb5 hn7))
              | (fail "no arm"))
            have hplen : (pairs t2).length ≤ i + 1 := hpl
            have hnr : some rb ≠ (Value.slice Ag lg cg).ownBlock := fun e => by
              have h1 := own_base' HG6.out rb e.symm
              omega
            have HR7 := Lib.hid (blk_put (blk_put HR6.out 0 (.int .i64 t2.h.s) rfl) 1 (.int .i64 t2.h.g) rfl)
            have HM7 := Lib.hid ((HM6.out.setH HR6.out hrb 0 (.int .i64 t2.h.s)).setH (blk_put HR6.out 0 (.int .i64 t2.h.s) rfl) hrb 1 (.int .i64 t2.h.g))
            have HO7 := Lib.hid (OwnRow.set_ (OwnRow.set_ HO6.out HR6.out (by decide) 0 (.int .i64 t2.h.s)) (blk_put HR6.out 0 (.int .i64 t2.h.s) rfl) (by decide) 1 (.int .i64 t2.h.g))
            have HE7 := Lib.hid (blk_far (blk_far HE6.out (show wr.heap.size ≠ (Addr.mk rb 0 none).block from hne1) (.int .i64 t2.h.s)) (show wr.heap.size ≠ (Addr.mk rb 1 none).block from hne1) (.int .i64 t2.h.g))
            have HG7 := Lib.hid (ownH_set (ownH_set HG6.out hnr 0 (.int .i64 t2.h.s)) hnr 1 (.int .i64 t2.h.g))
            have HFD := Lib.hid (Freed.start (gone := gn) (HS2.out.ok.more (show 30 * i + 30 ≤ 30 * (i + 1) by omega)))
            have HGL := Lib.hid (show lg = gn.length by obtain ⟨A', c', e, _, _⟩ := OwnRow.reads HG6.out; injection e)
            clear HE6 HR6 HM6 HO6 HG6 e0 e1 r0 r1 z0 z1 hnr
            have hgm : gn.length ≤ 1000 := by
              have h1 := HS2.out.perm.length_eq
              rw [List.length_append, List.length_append, hds_len, hds_len] at h1
              have h2 := HS2.out.len
              omega
            generalize ((V6.setCell ⟨rb, 0, none⟩ (.int .i64 t2.h.s)).setCell ⟨rb, 1, none⟩ (.int .i64 t2.h.g)) = V7 at *
            generalize wr.heap.size = eb at *
            go_loopw [10] (fun v10 W' => ∃ (q : Nat) (a3 : Ar N2), v10 = .int .i64 q ∧ q ≤ gn.length ∧ Hid (Freed (30 * (i + 1)) a2 gn q a3) ∧ Hid (MapB w W' w.heap.size m aa a3) ∧ Hid (W'.heap[eb]? = some (.cells #[.int .i64 t2.h.s, .int .i64 t2.h.g, .slice Am lm cm, .slice Ag lg cg] 39 (0, 0))) ∧ Hid (OwnH W' eb (.slice Ag lg cg) gn) ∧ Hid (OwnP W' w.heap.size (.slice A7 n7 c7) (pairs t2)) ∧ Hid (W'.heap[rb]? = some (.cells #[.int .i64 t2.h.s, .int .i64 t2.h.g] 28 (0, 0)))) (fun v10 _ => gn.length - (RowKit.intOf v10).toNat)
            case atStart => exact ⟨0, a2, rfl, Nat.zero_le _, HFD, HM7, HE7, HG7, HO7, HR7⟩
            case round =>
              clear HFD HM7 HE7 HG7 HO7 HR7
              obtain ⟨q, a3, rfl, hq, HFD, HM7, HE7, HG7, HO7, HR7⟩ := hrel
              have e3 := blk_cell HE7.out 3
              simp at e3
              have hlte := blk_lt HE7.out
              have hgl := HGL.out
              subst hgl
              by_cases hlq : q < gn.length
              · obtain ⟨hs1, hs2⟩ := HFD.out.next hlq (HS2.out.goneIn HV.out _ (List.getElem_mem hlq)) (List.nodup_append.mp (HS2.out.nodup2 HV.out)).2.1
                obtain ⟨ad9, e9, h0, h1⟩ := h_at HG7.out q hlq
                subst e9
                have HFR := Lib.hid (mfree_calls w wr w.heap.size m aa a3 gn[q] HM7.out HFD.out.ok.small hs1)
                simp only [hdV] at HFR
                have HS9 := Lib.hid hs2
                have hwq : IntKind.i64.wrap ((q : Int) + 1) = ((q + 1 : Nat) : Int) := by rw [IntKind.wrap_i64]; omega
                clear hs1 hs2
                generalize gn[q] = gq at *
                go_wp2_with (first
                  | (go_at_call 28; go_loud ((with_reducible refine Calls.mono HFR.out ?_); rintro e8 w8 ⟨rfl, hm, hF⟩; have HM8 := Lib.hid hm; have HE8 := Lib.hid (FrX.typedF hF HE7.out); have HG8 := Lib.hid (OwnH.fr HG7.out hF); have HO8 := Lib.hid (OwnP.fr HO7.out hF); have HR8 := Lib.hid (FrX.typedF hF HR7.out); clear hm hF))
                  | (fail "no arm"))
                go_roundw
                case rel => exact ⟨q + 1, _, by go_num, by omega, HS9, HM8, HE8, HG8, HO8, HR8⟩
                case measure => simp [RowKit.intOf] <;> omega
              · obtain rfl : q = gn.length := by omega
                have hver := Freed.ver HS2.out HV.out HFD.out
                have HVF := Lib.hid hver.1
                have hrm : a3.room = 200 - (pairs t2).length := by have := hver.2; rw [HRO.out] at this; omega
                have hms : (a3.most : Int) = 200 := by rw [HFD.out.most, HS2.out.most, HMO.out]; rfl
                have HRM2 := Lib.hid hrm
                have HMS2 := Lib.hid (show a3.most = 200 by omega)
                have hl2 : (hds t2).length = (pairs t2).length := hds_len t2
                have hlv := fun (V : World) (hb : Below wr.heap.size wr V) => mlive_calls w V w.heap.size m aa a3 (HM7.out.below hb) HFD.out.ok.small
                rw [hrm, hms, show (200 : Int) - (200 - ((pairs t2).length : Int)) = (pairs t2).length by omega] at hlv
                have hrmc := fun (V : World) (hb : Below wr.heap.size wr V) => mroom_calls w V w.heap.size m aa a3 (HM7.out.below hb) HFD.out.ok.small
                rw [hrm] at hrmc
                have HLV := Lib.hid hlv
                have HRMC := Lib.hid hrmc
                have HWK := Lib.hid (walk_law w wr w.heap.size m aa a3 t2 HM7.out HVF.out (by omega))
                simp only [hdV] at HWK
                have hn7 := HN7.out
                subst hn7
                have g0 := blk_cell HR7.out 0
                have g1 := blk_cell HR7.out 1
                simp at g0 g1
                have hltg := blk_lt HR7.out
                have hszq := HM7.out.sz
                clear hver hrm hms hlv hrmc HN7
                have HH2 := Lib.hid hl2
                clear hl2
                generalize hL : (pairs t2).length = L at *
                have HL := Lib.hid hL
                clear hL
                have hw200 : IntKind.i64.wrap (200 - (L : Int)) = 200 - (L : Int) := by rw [IntKind.wrap_i64]; omega
                (go_wp2_with (first
                  | (go_at_call 13; go_loud (
                      (with_reducible refine Calls.mono HWK.out ?_);
                      rintro e9 w9 ⟨p9, h9, rfl, hop, hoh, hb9⟩;
                      obtain ⟨A9, c9, rfl, _⟩ := OwnRow.slice_ hop;
                      obtain ⟨Ah, ch, rfl, _⟩ := OwnRow.slice_ hoh;
                      rw [HL.out] at hop;
                      simp only [HH2.out, HL.out];
                      have HO9 := Lib.hid hop; have HB9 := Lib.hid hb9; have HO79 := Lib.hid (OwnRow.below HO7.out hb9);
                      have HSM := Lib.hid (same_law w9 _ _ A9 A7 _ _ c9 c7 (pairs t2) hop (OwnRow.below HO7.out hb9) (by rw [HL.out]; omega));
                      clear hop hoh hb9))
                  | (go_at_call 15; go_loud ((with_reducible refine Calls.mono HSM.out ?_); rintro e10 w10 ⟨rfl, q10, rfl⟩))
                  | (go_at_call 17; go_loud ((with_reducible refine Calls.mono (HLV.out _ (pw_below_drewN HB9.out _)) ?_); rintro e11 w11 ⟨rfl, q11, rfl⟩))
                  | (go_at_call 20; go_loud ((with_reducible refine Calls.mono (HRMC.out _ (pw_below_drewN HB9.out _)) ?_); rintro e12 w12 ⟨rfl, q12, rfl⟩))
                  | (fail "no arm")))
                have hbq := pw_below_drewN HB9.out (q10 + q11 + q12)
                refine ⟨⟨i + 1, a3, t2, A7, L, c7, by go_num, rfl, by omega, HVF, Lib.hid (by rw [HL.out]; omega), Lib.hid (OwnRow.below HO79.out (pw_below_drewN (Below.refl _ _) _)), Lib.hid (HM7.out.below hbq), Lib.hid HFD.out.ok, Lib.hid (by rw [HL.out]; exact HRM2.out), HMS2, Lib.hid (blk_below HR7.out hbq)⟩, by simp [RowKit.intOf]; omega⟩
        · have hhas' : (lhas cmpI kx (pairs t)).isSome = false := by simpa using hhas
          have HHAS := Lib.hid hhas'
          clear hhas hhas'
          have HPU := Lib.hid (fun (V : World) (hb : Below wr.heap.size wr V) => mdel_none w V w.heap.size m aa a t kx (HM.out.below hb) HV.out HHAS.out)
          simp only [hdV] at HPU
          go_wp2
          go_cut [9] from 36 to 48 (fun v9 wx => v9 = .bool false ∧ Hid (Below wr.heap.size wr wx))
          case first =>
            go_region_with (first
              | (go_at_call 23; go_loud (
                  (with_reducible refine Calls.mono (HPU.out _ (by repeat (first | (with_reducible exact HB.out) | apply below_alloc | apply pw_below_drewN | apply below_drew1 | exact HB.out))) ?_);
                  rintro e w6 ⟨rfl, hb6⟩;
                  simp only [edV, H0];
                  have HB6 := Lib.hid (below_step (by repeat (first | (with_reducible exact HB.out) | apply below_alloc | apply pw_below_drewN | apply below_drew1 | exact HB.out)) hb6);
                  have GE := Lib.hid (blk_below (g := wr.heap.size) (o := (.cells #[.int .i64 0, .int .i64 0, .slice none 0 0, .slice none 0 0] 39 (0, 0))) (by first | exact blk_drew (blk_new _ _) | exact blk_new _ _) hb6); have p0 := blk_cell GE.out 0; have p1 := blk_cell GE.out 1; have p2 := blk_cell GE.out 2; have p3 := blk_cell GE.out 3; have z0 := blk_frozen GE.out 0; have z1 := blk_frozen GE.out 1; have z2 := blk_frozen GE.out 2; have z3 := blk_frozen GE.out 3; simp at p0 p1 p2 p3;
                  clear hb6))
              | (fail "no arm"))
            all_goals
              go_wp2
              go_meet
              refine ⟨rfl, ?_⟩
              with_reducible exact Lib.hid (noedit_set HB6.out (Nat.le_refl _))
          case rest =>
            obtain ⟨rfl, HB6⟩ := hcut
            clear HB k0 k1
            go_wp2
            refine ⟨⟨i + 1, a, t, A6, n6, c6, by go_num, rfl, by omega, HV, Lib.hid (by omega), Lib.hid (OwnRow.below HO.out HB6.out), Lib.hid (HM.out.below HB6.out), Lib.hid (HAK.out.more (by omega)), HRO, HMO, Lib.hid (blk_below HRB.out HB6.out)⟩, by simp [RowKit.intOf]; omega⟩
      | false =>
        have HPU := Lib.hid (fun (V : World) (hb : Below wr.heap.size wr V) => mput_law2 w V w.heap.size m aa a t kx vx (30 * i) (HM.out.below hb) HV.out HAK.out (by omega) (by omega) HROOM.out)
        simp only [hdV] at HPU
        unfold EditOut2 at HPU
        go_wp2
        go_cut [9] from 61 to 78 (fun v9 wx => v9 = .bool true ∧ Hid (CutE2 w wr wx w.heap.size m aa (30 * i) a t (lput cmpI kx vx (pairs t))))
        case first =>
          go_region_with (first
            | (go_at_call 16; go_loud (
                (with_reducible refine Calls.mono (HPU.out _ (by repeat (first | (with_reducible exact HB.out) | apply below_alloc | apply pw_below_drewN | apply below_drew1 | exact HB.out))) ?_);
                rintro e w3 ⟨a2, t2, md, gn, Am, cm, Ag, cg, lm, lg, S, hp, rfl, hfs, hF, hgn⟩;
                have HS3 := Lib.hid S; have HP3 := Lib.hid hp; have HFS3 := Lib.hid hfs; have HF3 := Lib.hid (Fr.trans (Fr.below (W := wr) (by repeat (first | (with_reducible exact HB.out) | apply below_alloc | apply pw_below_drewN | apply below_drew1 | exact HB.out))) hF); have HGN3 := Lib.hid (hgn.low (show wr.heap.size ≤ _ from Below.size (B := wr.heap.size) (w := wr) (by repeat (first | (with_reducible exact HB.out) | apply below_alloc | apply pw_below_drewN | apply below_drew1 | exact HB.out))));
                have GE := Lib.hid (FrX.typedF hF (k := wr.heap.size) (cs := #[.int .i64 0, .int .i64 0, .slice none 0 0, .slice none 0 0]) (t := 39) (by first | exact blk_drew (blk_new _ _) | exact blk_new _ _)); have p0 := blk_cell GE.out 0; have p1 := blk_cell GE.out 1; have p2 := blk_cell GE.out 2; have p3 := blk_cell GE.out 3; have z0 := blk_frozen GE.out 0; have z1 := blk_frozen GE.out 1; have z2 := blk_frozen GE.out 2; have z3 := blk_frozen GE.out 3; simp at p0 p1 p2 p3;
                clear S hp hfs hF hgn))
            | (fail "no arm"))
          all_goals
            go_wp2
            go_meet
            refine ⟨rfl, ?_⟩
            with_reducible exact Lib.hid (cutE2_store HS3.out HP3.out HFS3.out HF3.out HGN3.out GE.out hBW)
        case rest =>
          obtain ⟨rfl, HCE⟩ := hcut
          obtain ⟨a2, t2, md, gn, Am, cm, Ag, cg, lm, lg, S, hp, heb, hfs, hF, hgn⟩ := HCE.out
          have HS2 := Lib.hid S
          have HP2 := Lib.hid hp
          have HE5 := Lib.hid heb
          have HM5 := Lib.hid hfs.mb
          have HG5 := Lib.hid hgn
          have HR5 := Lib.hid (FrX.typedF hF HRB.out)
          have HO5 := Lib.hid (OwnP.fr HO.out hF)
          have HF5 := Lib.hid hF
          clear HCE S hp heb hfs hF hgn HB k0 k1
          obtain ⟨ad2, e, d0, d1, d2, _, _⟩ := act_at (acts_below HRI.out HM5.out.bel) i hlt
          cases e
          rw [HXI.out] at d0 d1 d2
          dsimp only at d0 d1 d2
          have hadl5 := cell_lt d0
          have hpl5 := lput_len kx vx (pairs t)
          have HWI := Lib.hid (fun (V : World) (hb : Below wc.heap.size wc V) => with_law V w.heap.size A6 n6 c6 (pairs t) kx vx (OwnRow.below HO5.out hb) HV.out.sorted (by omega))
          have HB := Lib.hid (Below.refl wc.heap.size wc)
          have hsz5 := HM5.out.sz
          go_wp2
          go_cut [6] from 78 to 92 (fun v6 wx => ∃ (A7 : Option Addr) (n7 c7 : Nat), v6 = .slice A7 n7 c7 ∧ Hid (OwnP wx w.heap.size (.slice A7 n7 c7) (pairs t2)) ∧ Hid (n7 = (pairs t2).length) ∧ Hid (Below wc.heap.size wc wx))
          case first =>
            go_region_with (first
              | (go_at_call 21; go_loud (
                  (with_reducible refine Calls.mono (HWI.out _ (by repeat (first | (with_reducible exact HB.out) | apply below_alloc | apply pw_below_drewN | apply below_drew1 | exact HB.out))) ?_);
                  rintro e5 w5 ⟨pv, rfl, hop, hb5⟩;
                  rw [← HP2.out] at hop;
                  obtain ⟨A7, c7, rfl, _⟩ := OwnRow.slice_ hop;
                  have HO6 := Lib.hid (row_low hop (Nat.le_trans hsz5 (show wc.heap.size ≤ _ from Below.size (B := wc.heap.size) (w := wc) (by repeat (first | (with_reducible exact HB.out) | apply below_alloc | apply pw_below_drewN | apply below_drew1 | exact HB.out))))); have HB6 := Lib.hid (below_step (by repeat (first | (with_reducible exact HB.out) | apply below_alloc | apply pw_below_drewN | apply below_drew1 | exact HB.out)) hb5);
                  clear hop hb5))
              | (fail "no arm"))
            all_goals
              go_wp2
              go_meet
              exact ⟨A7, _, c7, rfl, HO6, Lib.hid rfl, HB6⟩
          case rest =>
            obtain ⟨A7, n7, c7, rfl, HO6, HN7, HB6⟩ := hcut
            have HM6 := Lib.hid (HM5.out.below HB6.out)
            have HR6 := Lib.hid (blk_below HR5.out HB6.out)
            have HE6 := Lib.hid (blk_below HE5.out HB6.out)
            have HG6 := Lib.hid (OwnRow.below HG5.out HB6.out)
            have hpl : (pairs t2).length ≤ i + 1 := by rw [HP2.out]; omega
            clear HB
            generalize wc = V6 at *
            have e0 := blk_cell HE6.out 0
            have e1 := blk_cell HE6.out 1
            have z0 := blk_frozen HR6.out 0
            have z1 := blk_frozen HR6.out 1
            have r0 := blk_cell HR6.out 0
            have r1 := blk_cell HR6.out 1
            simp at e0 e1 r0 r1
            have hlte := blk_lt HE6.out
            have hltr6 := blk_lt HR6.out
            have hne1 := typed_ne HE6.out HR6.out (by decide)
            go_wp2
            have hplen : (pairs t2).length ≤ i + 1 := hpl
            have hnr : some rb ≠ (Value.slice Ag lg cg).ownBlock := fun e => by
              have h1 := own_base' HG6.out rb e.symm
              omega
            have HR7 := Lib.hid (blk_put (blk_put HR6.out 0 (.int .i64 t2.h.s) rfl) 1 (.int .i64 t2.h.g) rfl)
            have HM7 := Lib.hid ((HM6.out.setH HR6.out hrb 0 (.int .i64 t2.h.s)).setH (blk_put HR6.out 0 (.int .i64 t2.h.s) rfl) hrb 1 (.int .i64 t2.h.g))
            have HO7 := Lib.hid (OwnRow.set_ (OwnRow.set_ HO6.out HR6.out (by decide) 0 (.int .i64 t2.h.s)) (blk_put HR6.out 0 (.int .i64 t2.h.s) rfl) (by decide) 1 (.int .i64 t2.h.g))
            have HE7 := Lib.hid (blk_far (blk_far HE6.out (show wr.heap.size ≠ (Addr.mk rb 0 none).block from hne1) (.int .i64 t2.h.s)) (show wr.heap.size ≠ (Addr.mk rb 1 none).block from hne1) (.int .i64 t2.h.g))
            have HG7 := Lib.hid (ownH_set (ownH_set HG6.out hnr 0 (.int .i64 t2.h.s)) hnr 1 (.int .i64 t2.h.g))
            have HFD := Lib.hid (Freed.start (gone := gn) (HS2.out.ok.more (show 30 * i + 30 ≤ 30 * (i + 1) by omega)))
            have HGL := Lib.hid (show lg = gn.length by obtain ⟨A', c', e, _, _⟩ := OwnRow.reads HG6.out; injection e)
            clear HE6 HR6 HM6 HO6 HG6 e0 e1 r0 r1 z0 z1 hnr
            have hgm : gn.length ≤ 1000 := by
              have h1 := HS2.out.perm.length_eq
              rw [List.length_append, List.length_append, hds_len, hds_len] at h1
              have h2 := HS2.out.len
              omega
            generalize ((V6.setCell ⟨rb, 0, none⟩ (.int .i64 t2.h.s)).setCell ⟨rb, 1, none⟩ (.int .i64 t2.h.g)) = V7 at *
            generalize wr.heap.size = eb at *
            go_loopw [10] (fun v10 W' => ∃ (q : Nat) (a3 : Ar N2), v10 = .int .i64 q ∧ q ≤ gn.length ∧ Hid (Freed (30 * (i + 1)) a2 gn q a3) ∧ Hid (MapB w W' w.heap.size m aa a3) ∧ Hid (W'.heap[eb]? = some (.cells #[.int .i64 t2.h.s, .int .i64 t2.h.g, .slice Am lm cm, .slice Ag lg cg] 39 (0, 0))) ∧ Hid (OwnH W' eb (.slice Ag lg cg) gn) ∧ Hid (OwnP W' w.heap.size (.slice A7 n7 c7) (pairs t2)) ∧ Hid (W'.heap[rb]? = some (.cells #[.int .i64 t2.h.s, .int .i64 t2.h.g] 28 (0, 0)))) (fun v10 _ => gn.length - (RowKit.intOf v10).toNat)
            case atStart => exact ⟨0, a2, rfl, Nat.zero_le _, HFD, HM7, HE7, HG7, HO7, HR7⟩
            case round =>
              clear HFD HM7 HE7 HG7 HO7 HR7
              obtain ⟨q, a3, rfl, hq, HFD, HM7, HE7, HG7, HO7, HR7⟩ := hrel
              have e3 := blk_cell HE7.out 3
              simp at e3
              have hlte := blk_lt HE7.out
              have hgl := HGL.out
              subst hgl
              by_cases hlq : q < gn.length
              · obtain ⟨hs1, hs2⟩ := HFD.out.next hlq (HS2.out.goneIn HV.out _ (List.getElem_mem hlq)) (List.nodup_append.mp (HS2.out.nodup2 HV.out)).2.1
                obtain ⟨ad9, e9, h0, h1⟩ := h_at HG7.out q hlq
                subst e9
                have HFR := Lib.hid (mfree_calls w wr w.heap.size m aa a3 gn[q] HM7.out HFD.out.ok.small hs1)
                simp only [hdV] at HFR
                have HS9 := Lib.hid hs2
                have hwq : IntKind.i64.wrap ((q : Int) + 1) = ((q + 1 : Nat) : Int) := by rw [IntKind.wrap_i64]; omega
                clear hs1 hs2
                generalize gn[q] = gq at *
                go_wp2_with (first
                  | (go_at_call 28; go_loud ((with_reducible refine Calls.mono HFR.out ?_); rintro e8 w8 ⟨rfl, hm, hF⟩; have HM8 := Lib.hid hm; have HE8 := Lib.hid (FrX.typedF hF HE7.out); have HG8 := Lib.hid (OwnH.fr HG7.out hF); have HO8 := Lib.hid (OwnP.fr HO7.out hF); have HR8 := Lib.hid (FrX.typedF hF HR7.out); clear hm hF))
                  | (fail "no arm"))
                go_roundw
                case rel => exact ⟨q + 1, _, by go_num, by omega, HS9, HM8, HE8, HG8, HO8, HR8⟩
                case measure => simp [RowKit.intOf] <;> omega
              · obtain rfl : q = gn.length := by omega
                have hver := Freed.ver HS2.out HV.out HFD.out
                have HVF := Lib.hid hver.1
                have hrm : a3.room = 200 - (pairs t2).length := by have := hver.2; rw [HRO.out] at this; omega
                have hms : (a3.most : Int) = 200 := by rw [HFD.out.most, HS2.out.most, HMO.out]; rfl
                have HRM2 := Lib.hid hrm
                have HMS2 := Lib.hid (show a3.most = 200 by omega)
                have hl2 : (hds t2).length = (pairs t2).length := hds_len t2
                have hlv := fun (V : World) (hb : Below wr.heap.size wr V) => mlive_calls w V w.heap.size m aa a3 (HM7.out.below hb) HFD.out.ok.small
                rw [hrm, hms, show (200 : Int) - (200 - ((pairs t2).length : Int)) = (pairs t2).length by omega] at hlv
                have hrmc := fun (V : World) (hb : Below wr.heap.size wr V) => mroom_calls w V w.heap.size m aa a3 (HM7.out.below hb) HFD.out.ok.small
                rw [hrm] at hrmc
                have HLV := Lib.hid hlv
                have HRMC := Lib.hid hrmc
                have HWK := Lib.hid (walk_law w wr w.heap.size m aa a3 t2 HM7.out HVF.out (by omega))
                simp only [hdV] at HWK
                have hn7 := HN7.out
                subst hn7
                have g0 := blk_cell HR7.out 0
                have g1 := blk_cell HR7.out 1
                simp at g0 g1
                have hltg := blk_lt HR7.out
                have hszq := HM7.out.sz
                clear hver hrm hms hlv hrmc HN7
                have HH2 := Lib.hid hl2
                clear hl2
                generalize hL : (pairs t2).length = L at *
                have HL := Lib.hid hL
                clear hL
                have hw200 : IntKind.i64.wrap (200 - (L : Int)) = 200 - (L : Int) := by rw [IntKind.wrap_i64]; omega
                (go_wp2_with (first
                  | (go_at_call 13; go_loud (
                      (with_reducible refine Calls.mono HWK.out ?_);
                      rintro e9 w9 ⟨p9, h9, rfl, hop, hoh, hb9⟩;
                      obtain ⟨A9, c9, rfl, _⟩ := OwnRow.slice_ hop;
                      obtain ⟨Ah, ch, rfl, _⟩ := OwnRow.slice_ hoh;
                      rw [HL.out] at hop;
                      simp only [HH2.out, HL.out];
                      have HO9 := Lib.hid hop; have HB9 := Lib.hid hb9; have HO79 := Lib.hid (OwnRow.below HO7.out hb9);
                      have HSM := Lib.hid (same_law w9 _ _ A9 A7 _ _ c9 c7 (pairs t2) hop (OwnRow.below HO7.out hb9) (by rw [HL.out]; omega));
                      clear hop hoh hb9))
                  | (go_at_call 15; go_loud ((with_reducible refine Calls.mono HSM.out ?_); rintro e10 w10 ⟨rfl, q10, rfl⟩))
                  | (go_at_call 17; go_loud ((with_reducible refine Calls.mono (HLV.out _ (pw_below_drewN HB9.out _)) ?_); rintro e11 w11 ⟨rfl, q11, rfl⟩))
                  | (go_at_call 20; go_loud ((with_reducible refine Calls.mono (HRMC.out _ (pw_below_drewN HB9.out _)) ?_); rintro e12 w12 ⟨rfl, q12, rfl⟩))
                  | (fail "no arm")))
                have hbq := pw_below_drewN HB9.out (q10 + q11 + q12)
                refine ⟨⟨i + 1, a3, t2, A7, L, c7, by go_num, rfl, by omega, HVF, Lib.hid (by rw [HL.out]; omega), Lib.hid (OwnRow.below HO79.out (pw_below_drewN (Below.refl _ _) _)), Lib.hid (HM7.out.below hbq), Lib.hid HFD.out.ok, Lib.hid (by rw [HL.out]; exact HRM2.out), HMS2, Lib.hid (blk_below HR7.out hbq)⟩, by simp [RowKit.intOf]; omega⟩
    · obtain rfl : i = l.length := by omega
      have HBE := Lib.hid HM.out.bel
      go_wp2
      go_ret
      exact ⟨rfl, HBE.out⟩
end Go.Proofs.Ytmhfbpdahfepgaa
/- The walk of the law PmapFrees, all inputs. -/
namespace Go.Proofs.Ytmhfbpdahfepgaa
open Go.RowKit Go.Proofs.YtmhfbpdahfepgaaW.PrintWords Pm
set_option maxRecDepth 100000 in
theorem pmapFrees_walk (A : Option Addr) (c : Nat) (l : List ActT) (w : World) (hr : Kd.C actKd w A l.length l) (hc : l.length ≤ c) (hok : l.length ≤ maxLen ∧ ∀ x ∈ l, True ∧ (Lit.int .u8 x.2.1).wf = true ∧ (Lit.int .u8 x.2.2.1).wf = true ∧ (Lit.int .u8 x.2.2.2.1).wf = true ∧ True) :
    Calls Try.prog 8 #[.slice A l.length c] w fun e w' => e = .returned (.bool true) ∧ Below w.heap.size w w' := by
  have HB := Lib.hid (Below.refl w.heap.size w)
  by_cases hl : l.length ≤ 30
  · exact pmapFrees_walk0 A c l w hr hc hl (fun x hx => ⟨byte_wf (hok.2 x hx).2.1, byte_wf (hok.2 x hx).2.2.1⟩)
  · have q1 : decide ((30 : Int) < (l.length : Int)) = true := decide_eq_true (by omega)
    clear hok hr
    go_enter Try.func8, Try.ntmps8
    go_wp2_with (first
      | (go_at_call 9; go_loud ((refine Calls.mono (awake_calls _) ?_); rintro e w1 ⟨rfl, hb⟩; have HBn := Lib.hid (below_step (by repeat (first | (with_reducible exact HB.out) | apply below_alloc | apply pw_below_drewN | apply below_drew1 | exact HB.out)) hb); clear hb HB; have HB := HBn; clear HBn))
      | (fail "no arm"))
    go_ret
    exact ⟨rfl, (by repeat (first | (with_reducible exact HB.out) | apply below_alloc | apply pw_below_drewN | apply below_drew1 | exact HB.out))⟩
end Go.Proofs.Ytmhfbpdahfepgaa
/- Opening arguments of plain data, whatever their make: what a reading's cells say, kind by kind. -/
namespace Go.Proofs.YtmhfbpdahfepgaaW.Open
open Go.RowKit Go.Proofs.YtmhfbpdahfepgaaW.PrintWords Go.ChangeShapes

/-- What is read at type t is of the kind d, and ok. -/
def Opens {α : Type} (P : Program) (t : TypeId) (d : Kd α) (ok : α → Prop) : Prop :=
  P.cellsOf t = d.sz ∧ ∀ (H : Type) (enc : TypeId × Value → H) (w : World) (fuel : Nat) (cs : List Value) (x : DataW H × List MemPlace), DataW.trod enc P w 0 (fun _ => true) true fuel t cs = some x → ∃ y, d.K w y cs ∧ ok y

theorem Opens.int {P : Program} {t : TypeId} {k : IntKind} (ht : P.underlying t = some (.int k)) (hc : P.cellsOf t = 1) : Opens P t (Kd.int k) (fun n => (Lit.int k n).wf = true) :=
  ⟨hc, fun _ _ _ _ _ _ h => by obtain ⟨n, rfl, _, hw⟩ := DataW.trod_int ht h; exact ⟨n, rfl, hw⟩⟩
theorem Opens.bool {P : Program} {t : TypeId} (ht : P.underlying t = some .bool) (hc : P.cellsOf t = 1) : Opens P t Kd.bool (fun _ => True) :=
  ⟨hc, fun _ _ _ _ _ _ h => by obtain ⟨n, rfl, _⟩ := DataW.trod_bool ht h; exact ⟨n, rfl, trivial⟩⟩
theorem Opens.string {P : Program} {t : TypeId} (ht : P.underlying t = some .string) (hc : P.cellsOf t = 1) : Opens P t Kd.string (fun s => s.size ≤ maxLen) :=
  ⟨hc, fun _ _ _ _ _ _ h => by obtain ⟨n, rfl, _, hs⟩ := DataW.trod_string ht h; exact ⟨n, rfl, hs⟩⟩

theorem Opens.slice {α : Type} {P : Program} {t e : TypeId} {d : Kd α} {ok : α → Prop} (ht : P.underlying t = some (.slice e)) (hc : P.cellsOf t = 1) (he : Opens P e d ok) :
    Opens P t (Kd.slice e d) (fun xs => xs.length ≤ maxLen ∧ ∀ x ∈ xs, ok x) := by
  obtain ⟨hsz, hop⟩ := he
  refine ⟨hc, fun H enc w fuel cs x h => ?_⟩
  rcases DataW.trod_slice ht h with ⟨rfl, _⟩ | ⟨a, len, cap, elems, rest, n, _, rfl, _, _, hl, hm, hlen, hel, _, _⟩
  · exact ⟨[], ⟨none, 0, rfl, by simp, rfl, by simp, by simp⟩, by simp, by simp⟩
  · have each : ∀ i, i < len → ∃ y c, c.length = d.sz ∧ d.K w y c ∧ ok y ∧ ∀ j u, c[j]? = some u → w.cell? (a.add (i * d.sz + j)) = some u := by
      intro i hi
      have h1 := hel i hi
      rw [List.getElem?_eq_getElem (by omega)] at h1
      obtain ⟨c, hcs, hy⟩ := Option.bind_eq_some_iff.1 h1
      obtain ⟨_, hcl, hcell⟩ := World.cells?_some hcs
      obtain ⟨y, hK, hok⟩ := hop H enc w n c _ hy
      refine ⟨y, c, by rw [hcl, hsz], hK, hok, fun j u hu => ?_⟩
      have hj : j < c.length := (List.getElem?_eq_some_iff.1 hu).1
      have := hcell j (by omega)
      rw [hu, hsz, add_add] at this
      exact this
    have build : ∀ m, m ≤ len → ∃ xs : List α, xs.length = m ∧ (∀ x ∈ xs, ok x) ∧ ∀ j p, xs[j]? = some p → ∃ c, c.length = d.sz ∧ d.K w p c ∧ ∀ i u, c[i]? = some u → w.cell? (a.add (j * d.sz + i)) = some u := by
      intro m
      induction m with
      | zero => intro _; exact ⟨[], rfl, by simp, fun j p h => by simp at h⟩
      | succ m ih =>
        intro hm'
        obtain ⟨xs, hx, hok, hall⟩ := ih (by omega)
        obtain ⟨y, c, hcl, hK, hoky, hcell⟩ := each m (by omega)
        refine ⟨xs ++ [y], by simp [hx], ?_, ?_⟩
        · intro z hz
          rcases List.mem_append.1 hz with h' | h'
          · exact hok z h'
          · rw [List.mem_singleton.1 h']; exact hoky
        · intro j p hj
          rcases Nat.lt_or_ge j xs.length with h' | h'
          · rw [List.getElem?_append_left h'] at hj; exact hall j p hj
          · have hj' := (List.getElem?_eq_some_iff.1 hj).1
            obtain rfl : j = xs.length := by simp at hj'; omega
            have : y = p := by simpa using hj
            subst this
            rw [hx]
            exact ⟨c, hcl, hK, hcell⟩
    obtain ⟨xs, hx, hok, hall⟩ := build len (Nat.le_refl _)
    subst hx
    simp only [maxLen] at hm
    exact ⟨xs, ⟨some a, cap, rfl, hl, rfl, by omega, fun _ => ⟨a, rfl, hall⟩⟩, by simp only [maxLen]; omega, hok⟩

/-- Fields in line: from offset n on. -/
def OpensF {α : Type} (P : Program) (fs : List Field) (n : Nat) (d : Kd α) (ok : α → Prop) : Prop :=
  ∀ (H : Type) (enc : TypeId × Value → H) (w : World) (fuel : Nat) (cs : List Value), cs.length = n + d.sz → (∀ f ∈ fs, ∃ x, DataW.trod enc P w 0 (fun _ => true) true fuel f.type ((cs.drop f.offset).take (P.cellsOf f.type)) = some x) → ∃ y, d.K w y (cs.drop n) ∧ ok y
theorem OpensF.one {α : Type} {P : Program} {f : Field} {d : Kd α} {ok : α → Prop} (h : Opens P f.type d ok) : OpensF P [f] f.offset d ok := by
  intro H enc w fuel cs hl hall
  obtain ⟨x, hx⟩ := hall f (by simp)
  have := h.2 H enc w fuel _ _ hx
  rw [h.1, List.take_of_length_le (by simp; omega)] at this
  exact this
theorem OpensF.cons {α β : Type} {P : Program} {f : Field} {fs : List Field} {d : Kd α} {d' : Kd β} {ok : α → Prop} {ok' : β → Prop} {n : Nat} (h : Opens P f.type d ok) (hs : OpensF P fs n d' ok') (hn : n = f.offset + d.sz) : OpensF P (f :: fs) f.offset (Kd.pair d d') (fun y => ok y.1 ∧ ok' y.2) := by
  intro H enc w fuel cs hl hall
  obtain ⟨x, hx⟩ := hall f (by simp)
  obtain ⟨y, hK, hok⟩ := h.2 H enc w fuel _ _ hx
  have hl' : cs.length = n + d'.sz := by rw [hl, hn]; show f.offset + (d.sz + d'.sz) = _; omega
  obtain ⟨y', hK', hok'⟩ := hs H enc w fuel cs hl' (fun g hg => hall g (by simp [hg]))
  rw [h.1] at hK
  refine ⟨(y, y'), ⟨_, _, ?_, hK, hK'⟩, hok, hok'⟩
  rw [hn, ← List.drop_drop, List.take_append_drop]
theorem Opens.struct {α : Type} {P : Program} {t : TypeId} {fs : Array Field} {d : Kd α} {ok : α → Prop} (ht : P.underlying t = some (.struct fs)) (hc : P.cellsOf t = d.sz) (h : OpensF P fs.toList 0 d ok) : Opens P t d ok := by
  refine ⟨hc, fun H enc w fuel cs x hx => ?_⟩
  obtain ⟨xs, n, rfl, _, hl, hlen, hf⟩ := DataW.trod_struct ht hx
  have := h H enc w n cs (by rw [hl, hc]; omega) (fun f hf' => by
    obtain ⟨i, hi⟩ := List.getElem?_of_mem hf'
    have hi' : fs[i]? = some f := by simpa using hi
    have h2 := hf i f hi'
    have h3 : i < xs.length := by rw [hlen]; exact (Array.getElem?_eq_some_iff.1 hi').1
    rw [List.getElem?_eq_getElem h3] at h2
    exact ⟨_, h2⟩)
  simpa using this
theorem Opens.iso {α β : Type} {P : Program} {t : TypeId} {d : Kd α} {ok : α → Prop} (f : β → α) (g : α → β) (hfg : ∀ x, f (g x) = x) (h : Opens P t d ok) : Opens P t (Kd.iso d f) (fun y => ok (f y)) :=
  ⟨h.1, fun H enc w fuel cs x hx => by obtain ⟨y, hK, hok⟩ := h.2 H enc w fuel cs x hx; exact ⟨g y, by show d.K w (f (g y)) cs; rw [hfg]; exact hK, by show ok (f (g y)); rw [hfg]; exact hok⟩⟩

/-- An argument is opened: its value by its cells, and what these say. -/
theorem Opens.arg {α : Type} {H : Type} {enc : TypeId × Value → H} {P : Program} {w : World} {t : TypeId} {v : Value} {x : DataW H} {p : List MemPlace} {d : Kd α} {ok : α → Prop} (h : Opens P t d ok) (ht : DataW.Trod enc P w 0 (fun _ => true) true t v x p) : ∃ y, d.K w y v.cells.toList ∧ ok y := by
  obtain ⟨fuel, hf⟩ := ht
  exact h.2 H enc w fuel _ _ hf
end Go.Proofs.YtmhfbpdahfepgaaW.Open
/- The row of the law PmapFrees, out of its walk. -/
namespace Go.Proofs.Ytmhfbpdahfepgaa.pmapFrees
open Go.ChangeShapes Go.WideShapes Go.ChangeAt Go.RowKit
open Go.ChangeMaps (open_string shut_string)
open Go.Proofs.YtmhfbpdahfepgaaW.Open Go.Proofs.YtmhfbpdahfepgaaW.PrintWords
theorem own : ownKnob Try.prog.godebug = none := by kernel_rfl
theorem laidOut : laidOutB Try.prog = true := by kernel_rfl
theorem op0 : Opens Try.prog 49 (Kd.slice 52 (Kd.pair Kd.bool (Kd.pair (Kd.int .u8) (Kd.pair (Kd.int .u8) (Kd.pair (Kd.int .u8) Kd.bool))))) (fun xs => xs.length ≤ maxLen ∧ ∀ x ∈ xs, True ∧ (Lit.int .u8 x.2.1).wf = true ∧ (Lit.int .u8 x.2.2.1).wf = true ∧ (Lit.int .u8 x.2.2.2.1).wf = true ∧ True) := Opens.slice Try.underlying49 (by kernel_rfl) (Opens.struct Try.underlying52 (by kernel_rfl) (OpensF.cons (Opens.bool Try.underlying4 (by kernel_rfl)) (OpensF.cons (Opens.int Try.underlying5 (by kernel_rfl)) (OpensF.cons (Opens.int Try.underlying5 (by kernel_rfl)) (OpensF.cons (Opens.int Try.underlying5 (by kernel_rfl)) (OpensF.one (Opens.bool Try.underlying4 (by kernel_rfl))) rfl) rfl) rfl) rfl))
set_option maxRecDepth 100000 in
theorem lifted (os : Os) (started : os.Started) (H : Type) (enc : TypeId × Value → H) :
    ReturnsInHanded {} Try.checked os 8 .any (Rows.pmapFreesSpec.pre6 enc Try.prog Try.f8 Rows.pmapFreesRow.domain false) (Rows.pmapFreesSpec.post enc Try.prog Try.f8 false true false false) := by
  refine returnsInHanded_of_change (C := Try.checked) own started (by kernel_rfl) Try.func8
    (ChangeSpec.witness6 (enc := enc) (C := Try.checked) false ⟨#[], #[.slice none 0 0], []⟩ 8 (by kernel_rfl) (by kernel_rfl) (by kernel_rfl) (by kernel_rfl)) ?_
  intro W base args ds gs before hval0 hW hcnd _
  have hval : ∀ (j : Nat) t v, Try.f8.params[j]? = some t → args[j]? = some v → Value.okWide Try.prog W .any base t v := hval0
  have hW' := hW
  obtain ⟨p, q, hA0, hV, rfl, hfz, hnd⟩ := hW
  have hA : DataW.TrodAll enc Try.prog W 0 (fun _ => true) true Try.f8.params.toList args.toList ds p := hA0
  rw [Try.params8] at hA hval
  obtain ⟨v0, vs0, d0, ds0, p0, q0, hargs, rfl, rfl, h0, r0⟩ := trodAll_cons hA
  obtain ⟨rfl, rfl, rfl⟩ := trodAll_nil r0
  obtain rfl : args = #[v0] := by cases args; simp_all
  obtain ⟨rfl, rfl⟩ := trodVars_none hV
  have k0 := h0
  have lt0 : ∀ x ∈ p0, x.block < W.heap.size := by obtain ⟨m, hm⟩ := k0; exact DataW.trod_lt m _ _ _ hm
  obtain ⟨a0, len0, cap0, rfl⟩ := okWide_slice Try.underlying49 (hval 0 49 v0 rfl rfl)
  obtain ⟨l0, hK0, ok0⟩ := Opens.arg op0 h0
  obtain ⟨A0, c0, e0, hc0, hr0⟩ := hK0
  simp only [Value.cells, List.cons.injEq, Value.slice.injEq, and_true] at e0
  obtain ⟨rfl, rfl, rfl⟩ := e0
  clear hA0 hval0
  refine (pmapFrees_walk a0 cap0 l0 W hr0 hc0 ok0).mono fun e W' ⟨he, bel⟩ => ?_
  subst he
  exact ⟨_, rfl, _, _, _, [], _, [], hW', trodAll_mk1 (shut_bool Try.underlying4 _), (trodAll_cons_mk (Below.trod laidOut (by kernel_rfl) (of_decide_eq_true (by kernel_rfl)) k0 bel lt0) trodAll_mk0), rfl, bel.frame _, fun h => by cases h⟩
end Go.Proofs.Ytmhfbpdahfepgaa.pmapFrees
namespace Go.Proofs.Ytmhfbpdahfepgaa
theorem pmapFrees_holds : Rows.PmapFreesSaid :=
  OpenClaim.holds_of_wide 8 Try.f8 rfl rfl rfl rfl rfl rfl rfl ⟨rfl, rfl, rfl, rfl, rfl⟩ rfl rfl rfl rfl rfl (by kernel_rfl) Try.func8 (by kernel_rfl)
    (of_decide_eq_true (by kernel_rfl)) (by unfold Func.isWrapper; first | (rw [if_pos (by decide +kernel)]; kernel_rfl) | (rw [if_neg (by decide +kernel)]; exact ⟨rfl, rfl⟩))
    (fun os started H enc _ => pmapFrees.lifted os started H enc)
#print axioms pmapFrees_holds
end Go.Proofs.Ytmhfbpdahfepgaa
