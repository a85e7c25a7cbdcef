/-
  Package pmap's trees: what put and del do to the pairs and to the handles. Plain lemmas; Package pmap's Map.Get; Package pmap's Map.Del; Package arena's Free, Map.Free
-/
import Derived.Test.YtmhfbpdahfepgaaB5
/- Package pmap's trees: what put and del do to the pairs and to the handles. Plain lemmas. -/
namespace Go.Proofs.Ytmhfbpdahfepgaa.Pm
variable {K V : Type}

/-- The handles of a tree's nodes that lie in the arena, in order. -/
def ohds : T K V → List Hd
  | .leaf => []
  | .node h _ _ l r _ => ohds l ++ (gh h ++ ohds r)
/-- All handles, in order. -/
def hds : T K V → List Hd
  | .leaf => []
  | .node h _ _ l r _ => hds l ++ h :: hds r
theorem gh0 : gh H0 = [] := if_pos rfl
theorem ohds_mk {k : K} {v : V} {l r : T K V} : ohds (mk k v l r) = ohds l ++ ohds r := by
  show ohds l ++ (gh H0 ++ ohds r) = _
  rw [gh0]; rfl
theorem pairs_mk {k : K} {v : V} {l r : T K V} : pairs (mk k v l r) = pairs l ++ (k, v) :: pairs r := rfl
theorem fromL_pairs {oh : Hd} {ok : K} {ov : V} {l r : T K V} : pairs (fromL oh ok ov l r).1 = pairs l ++ (ok, ov) :: pairs r := by
  cases l with
  | leaf => rfl
  | node lh lk lv ll lr lhi =>
    unfold fromL
    by_cases hc : lr.hi ≤ ll.hi
    · simp only [hc, if_true, pairs_mk, pairs, List.append_assoc, List.cons_append]
    · simp only [hc, if_false]
      cases lr with
      | leaf => rfl
      | node mh mkk mv ml mr mhi => simp only [pairs_mk, pairs, List.append_assoc, List.cons_append]
theorem fromR_pairs {oh : Hd} {ok : K} {ov : V} {l r : T K V} : pairs (fromR oh ok ov l r).1 = pairs l ++ (ok, ov) :: pairs r := by
  cases r with
  | leaf => rfl
  | node rh rk rv rl rr rhi =>
    unfold fromR
    by_cases hc : rl.hi ≤ rr.hi
    · simp only [hc, if_true, pairs_mk, pairs, List.append_assoc, List.cons_append]
    · simp only [hc, if_false]
      cases rl with
      | leaf => rfl
      | node mh mkk mv ml mr mhi => simp only [pairs_mk, pairs, List.append_assoc, List.cons_append]
theorem bal_pairs {oh : Hd} {ok : K} {ov : V} {l r : T K V} : pairs (bal oh ok ov l r).1 = pairs l ++ (ok, ov) :: pairs r := by
  unfold bal
  split
  · exact fromL_pairs
  · split
    · exact fromR_pairs
    · rfl
def cnt (x : Hd) (l : List Hd) : Nat := l.count x
theorem cnt_append (x : Hd) (a b : List Hd) : cnt x (a ++ b) = cnt x a + cnt x b := List.count_append
theorem cnt_nil (x : Hd) : cnt x [] = 0 := rfl
theorem fromL_cnt {oh : Hd} {ok : K} {ov : V} {l r : T K V} (x : Hd) : cnt x (ohds (fromL oh ok ov l r).1) + cnt x (fromL oh ok ov l r).2 = cnt x (ohds l) + cnt x (gh oh) + cnt x (ohds r) := by
  cases l with
  | leaf => simp only [fromL, ohds_mk, ohds, cnt_append, cnt_nil]; omega
  | node lh lk lv ll lr lhi =>
    unfold fromL
    by_cases hc : lr.hi ≤ ll.hi
    · simp only [hc, if_true, ohds_mk, ohds, cnt_append]; omega
    · simp only [hc, if_false]
      cases lr with
      | leaf => simp only [ohds_mk, ohds, cnt_append, cnt_nil]; omega
      | node mh mkk mv ml mr mhi => simp only [ohds_mk, ohds, cnt_append]; omega
theorem fromR_cnt {oh : Hd} {ok : K} {ov : V} {l r : T K V} (x : Hd) : cnt x (ohds (fromR oh ok ov l r).1) + cnt x (fromR oh ok ov l r).2 = cnt x (ohds l) + cnt x (gh oh) + cnt x (ohds r) := by
  cases r with
  | leaf => simp only [fromR, ohds_mk, ohds, cnt_append, cnt_nil]; omega
  | node rh rk rv rl rr rhi =>
    unfold fromR
    by_cases hc : rl.hi ≤ rr.hi
    · simp only [hc, if_true, ohds_mk, ohds, cnt_append]; omega
    · simp only [hc, if_false]
      cases rl with
      | leaf => simp only [ohds_mk, ohds, cnt_append, cnt_nil]; omega
      | node mh mkk mv ml mr mhi => simp only [ohds_mk, ohds, cnt_append]; omega
theorem bal_cnt {oh : Hd} {ok : K} {ov : V} {l r : T K V} (x : Hd) : cnt x (ohds (bal oh ok ov l r).1) + cnt x (bal oh ok ov l r).2 = cnt x (ohds l) + cnt x (gh oh) + cnt x (ohds r) := by
  unfold bal
  split
  · exact fromL_cnt x
  · split
    · exact fromR_cnt x
    · simp only [ohds_mk, cnt_append]; omega
theorem tput_cnt (cmp : K → K → Int) (k : K) (v : V) (x : Hd) : ∀ t : T K V, cnt x (ohds (tput cmp t k v).1) + cnt x (tput cmp t k v).2 = cnt x (ohds t)
  | .leaf => by simp only [tput, ohds, gh0, cnt_append, cnt_nil]
  | .node h k' v' l r hi => by
    have il := tput_cnt cmp k v x l
    have ir := tput_cnt cmp k v x r
    rw [tput]
    split
    · have b := bal_cnt (oh := h) (ok := k') (ov := v') (l := (tput cmp l k v).1) (r := r) x
      simp only [ohds, cnt_append] at b ⊢; omega
    · split
      · have b := bal_cnt (oh := h) (ok := k') (ov := v') (l := l) (r := (tput cmp r k v).1) x
        simp only [ohds, cnt_append] at b ⊢; omega
      · simp only [ohds, gh0, cnt_append, cnt_nil]; omega
theorem tleast_cnt (x : Hd) : ∀ (l : T K V) (h : Hd) (k : K) (v : V) (r : T K V), cnt x (gh (tleast h k v l r).1.1) + cnt x (ohds (tleast h k v l r).2.1) + cnt x (tleast h k v l r).2.2 = cnt x (ohds l) + cnt x (gh h) + cnt x (ohds r)
  | .leaf, h, k, v, r => by simp only [tleast, ohds, cnt_nil]; omega
  | .node h' k' v' l' r' hi', h, k, v, r => by
    have i := tleast_cnt x l' h' k' v' r'
    have b := bal_cnt (oh := h) (ok := k) (ov := v) (l := (tleast h' k' v' l' r').2.1) (r := r) x
    simp only [tleast, ohds, cnt_append] at b ⊢; omega
theorem tleast_pairs : ∀ (l : T K V) (h : Hd) (k : K) (v : V) (r : T K V), (tleast h k v l r).1.2 :: pairs (tleast h k v l r).2.1 = pairs l ++ (k, v) :: pairs r
  | .leaf, h, k, v, r => rfl
  | .node h' k' v' l' r' hi', h, k, v, r => by
    have i := tleast_pairs l' h' k' v' r'
    show (tleast h' k' v' l' r').1.2 :: pairs (bal h k v (tleast h' k' v' l' r').2.1 r).1 = (pairs l' ++ (k', v') :: pairs r') ++ (k, v) :: pairs r
    rw [bal_pairs, ← i]; rfl
theorem tdel_cnt (cmp : K → K → Int) (k : K) (x : Hd) : ∀ t : T K V, cnt x (ohds (tdel cmp t k).1) + cnt x (tdel cmp t k).2 = cnt x (ohds t)
  | .leaf => by simp only [tdel, ohds, cnt_nil]
  | .node h k' v' l r hi => by
    have il := tdel_cnt cmp k x l
    have ir := tdel_cnt cmp k x r
    by_cases h1 : cmp k k' < 0
    · rw [tdel_lt h1]
      have b := bal_cnt (oh := h) (ok := k') (ov := v') (l := (tdel cmp l k).1) (r := r) x
      simp only [ohds, cnt_append] at b ⊢; omega
    · by_cases h2 : 0 < cmp k k'
      · rw [tdel_gt h1 h2]
        have b := bal_cnt (oh := h) (ok := k') (ov := v') (l := l) (r := (tdel cmp r k).1) x
        simp only [ohds, cnt_append] at b ⊢; omega
      · cases l with
        | leaf => rw [tdel_l h1 h2]; simp only [ohds, cnt_append, cnt_nil]; omega
        | node lh lk lv ll lr lhi =>
          cases r with
          | leaf => rw [tdel_r h1 h2]; simp only [ohds, cnt_append, cnt_nil]; omega
          | node rh rk rv rl rr rhi =>
            rw [tdel_m h1 h2]
            have i := tleast_cnt x rl rh rk rv rr
            have b := bal_cnt (oh := (tleast rh rk rv rl rr).1.1) (ok := (tleast rh rk rv rl rr).1.2.1) (ov := (tleast rh rk rv rl rr).1.2.2) (l := .node lh lk lv ll lr lhi) (r := (tleast rh rk rv rl rr).2.1) x
            simp only [ohds, cnt_append] at b ⊢; omega
/-! ### Keys in order -/
structure CmpOk (cmp : K → K → Int) : Prop where
  eq : ∀ a b, ¬ cmp a b < 0 → ¬ 0 < cmp a b → a = b
  refl : ∀ a, cmp a a = 0
  flip : ∀ a b, cmp a b < 0 ↔ 0 < cmp b a
  trans : ∀ a b c, cmp a b < 0 → cmp b c < 0 → cmp a c < 0
abbrev Sorted (cmp : K → K → Int) (l : List (K × V)) : Prop := l.Pairwise (fun a b => cmp a.1 b.1 < 0)
def lput (cmp : K → K → Int) (k : K) (v : V) : List (K × V) → List (K × V)
  | [] => [(k, v)]
  | p :: l => if cmp k p.1 < 0 then (k, v) :: p :: l else if 0 < cmp k p.1 then p :: lput cmp k v l else (k, v) :: l
def ldel (cmp : K → K → Int) (k : K) (l : List (K × V)) : List (K × V) := l.filter (fun p => decide (cmp k p.1 ≠ 0))
def lhas (cmp : K → K → Int) (k : K) (l : List (K × V)) : Option V := (l.find? (fun p => decide (cmp k p.1 = 0))).map Prod.snd
section
variable {cmp : K → K → Int}
theorem lput_lt {k k' : K} {v v' : V} (h : cmp k k' < 0) : ∀ (l r : List (K × V)), lput cmp k v (l ++ (k', v') :: r) = lput cmp k v l ++ (k', v') :: r
  | [], r => by simp only [List.nil_append, lput, h, if_true, List.cons_append]
  | p :: l, r => by
    have i := lput_lt (v := v) (v' := v') h l r
    simp only [List.cons_append, lput]
    split
    · rfl
    · split
      · rw [i]; rfl
      · rfl
theorem lput_gt (ok : CmpOk cmp) {k k' : K} {v v' : V} (h : 0 < cmp k k') : ∀ (l r : List (K × V)), (∀ p ∈ l, cmp p.1 k' < 0) → lput cmp k v (l ++ (k', v') :: r) = l ++ (k', v') :: lput cmp k v r
  | [], r, _ => by
    have h1 : ¬ cmp k k' < 0 := by omega
    simp only [List.nil_append, lput, h1, h, if_true, if_false]
  | p :: l, r, hl => by
    have i := lput_gt ok (v := v) (v' := v') h l r (fun q hq => hl q (by simp [hq]))
    have h2 : cmp p.1 k < 0 := ok.trans _ _ _ (hl p (by simp)) ((ok.flip _ _).mpr h)
    have h3 : 0 < cmp k p.1 := (ok.flip _ _).mp h2
    have h1 : ¬ cmp k p.1 < 0 := by omega
    simp only [List.cons_append, lput, h1, h3, if_true, if_false, i]
theorem lput_eq (ok : CmpOk cmp) {k k' : K} {v v' : V} (h : k = k') : ∀ (l r : List (K × V)), (∀ p ∈ l, cmp p.1 k' < 0) → lput cmp k v (l ++ (k', v') :: r) = l ++ (k, v) :: r
  | [], r, _ => by
    subst h
    have h1 : ¬ cmp k k < 0 := by rw [ok.refl]; decide
    have h2 : ¬ 0 < cmp k k := by rw [ok.refl]; decide
    simp only [List.nil_append, lput, h1, h2, if_false]
  | p :: l, r, hl => by
    have i := lput_eq ok (v := v) (v' := v') h l r (fun q hq => hl q (by simp [hq]))
    have h2 : cmp p.1 k < 0 := by rw [h]; exact hl p (by simp)
    have h3 : 0 < cmp k p.1 := (ok.flip _ _).mp h2
    have h1 : ¬ cmp k p.1 < 0 := by omega
    simp only [List.cons_append, lput, h1, h3, if_true, if_false, i]
theorem lput_mem {k : K} {v : V} {p : K × V} : ∀ {l : List (K × V)}, p ∈ lput cmp k v l → p = (k, v) ∨ p ∈ l
  | [], h => by simp only [lput, List.mem_singleton] at h; exact .inl h
  | q :: l, h => by
    simp only [lput] at h
    split at h
    · simp only [List.mem_cons] at h ⊢; rcases h with h | h | h <;> simp [h]
    · split at h
      · simp only [List.mem_cons] at h ⊢
        rcases h with h | h
        · simp [h]
        · rcases lput_mem h with h | h <;> simp [h]
      · simp only [List.mem_cons] at h ⊢; rcases h with h | h <;> simp [h]
theorem lput_sorted (ok : CmpOk cmp) {k : K} {v : V} : ∀ {l : List (K × V)}, Sorted cmp l → Sorted cmp (lput cmp k v l)
  | [], _ => by simp [lput, Sorted]
  | q :: l, h => by
    obtain ⟨h1, h2⟩ := List.pairwise_cons.mp h
    simp only [lput]
    split
    · rename_i hc
      refine List.pairwise_cons.mpr ⟨fun p hp => ?_, h⟩
      simp only [List.mem_cons] at hp
      rcases hp with rfl | hp
      · exact hc
      · exact ok.trans _ _ _ hc (h1 p hp)
    · split
      · rename_i hc
        refine List.pairwise_cons.mpr ⟨fun p hp => ?_, lput_sorted ok h2⟩
        rcases lput_mem hp with rfl | hp
        · exact (ok.flip _ _).mpr hc
        · exact h1 p hp
      · rename_i c1 c2
        refine List.pairwise_cons.mpr ⟨fun p hp => ?_, h2⟩
        rw [ok.eq _ _ c1 c2]
        exact h1 p hp
theorem ldel_sorted {k : K} {l : List (K × V)} (h : Sorted cmp l) : Sorted cmp (ldel cmp k l) := List.Pairwise.filter _ h
theorem sorted_split {l r : List (K × V)} {p : K × V} (h : Sorted cmp (l ++ p :: r)) : Sorted cmp l ∧ Sorted cmp r ∧ (∀ q ∈ l, cmp q.1 p.1 < 0) ∧ (∀ q ∈ r, cmp p.1 q.1 < 0) := by
  obtain ⟨h1, h2, h3⟩ := List.pairwise_append.mp h
  obtain ⟨h4, h5⟩ := List.pairwise_cons.mp h2
  exact ⟨h1, h5, fun q hq => h3 q hq p (by simp), h4⟩
theorem tput_pairs (ok : CmpOk cmp) (k : K) (v : V) : ∀ t : T K V, Sorted cmp (pairs t) → pairs (tput cmp t k v).1 = lput cmp k v (pairs t)
  | .leaf, _ => rfl
  | .node h k' v' l r hi, hs => by
    obtain ⟨s1, s2, s3, s4⟩ := sorted_split (p := (k', v')) (show Sorted cmp (pairs l ++ (k', v') :: pairs r) from hs)
    rw [tput, pairs]
    split
    · rename_i hc
      rw [bal_pairs, tput_pairs ok k v l s1, lput_lt hc]
    · split
      · rename_i hc
        rw [bal_pairs, tput_pairs ok k v r s2, lput_gt ok hc _ _ s3]
      · rename_i c1 c2
        rw [lput_eq ok (ok.eq _ _ c1 c2) _ _ s3]; rfl
theorem ldel_all {k : K} {l : List (K × V)} (h : ∀ p ∈ l, cmp k p.1 ≠ 0) : ldel cmp k l = l := by
  unfold ldel
  rw [List.filter_eq_self]
  intro p hp
  simpa using h p hp
theorem tdel_pairs (ok : CmpOk cmp) (k : K) : ∀ t : T K V, Sorted cmp (pairs t) → pairs (tdel cmp t k).1 = ldel cmp k (pairs t)
  | .leaf, _ => rfl
  | .node h k' v' l r hi, hs => by
    obtain ⟨s1, s2, s3, s4⟩ := sorted_split (p := (k', v')) (show Sorted cmp (pairs l ++ (k', v') :: pairs r) from hs)
    have hsp : ldel cmp k (pairs l ++ (k', v') :: pairs r) = ldel cmp k (pairs l) ++ (if cmp k k' ≠ 0 then [(k', v')] else []) ++ ldel cmp k (pairs r) := by
      unfold ldel
      rw [List.filter_append, List.filter_cons]
      split <;> rename_i hh <;> simp at hh <;> simp [hh]
    rw [pairs, hsp]
    by_cases h1 : cmp k k' < 0
    · rw [tdel_lt h1, bal_pairs, tdel_pairs ok k l s1, if_pos (by omega), ldel_all (l := pairs r) (fun p hp => by have := ok.trans _ _ _ h1 (s4 p hp); omega)]
      simp
    · by_cases h2 : 0 < cmp k k'
      · rw [tdel_gt h1 h2, bal_pairs, tdel_pairs ok k r s2, if_pos (by omega), ldel_all (l := pairs l) (fun p hp => by
          have := (ok.flip _ _).mp (ok.trans _ _ _ (s3 p hp) ((ok.flip _ _).mpr h2)); omega)]
        simp
      · have he := ok.eq _ _ h1 h2
        rw [if_neg (by omega), ldel_all (l := pairs l) (fun p hp => by have := (ok.flip _ _).mp (s3 p hp); rw [he]; show cmp k' p.1 ≠ 0; dsimp only at this; omega), ldel_all (l := pairs r) (fun p hp => by have := s4 p hp; rw [he]; dsimp only at this; omega), List.append_nil]
        cases l with
        | leaf => rw [tdel_l h1 h2]; rfl
        | node lh lk lv ll lr lhi =>
          cases r with
          | leaf => rw [tdel_r h1 h2]; simp [pairs]
          | node rh rk rv rl rr rhi =>
            rw [tdel_m h1 h2, bal_pairs]
            have i := tleast_pairs rl rh rk rv rr
            rw [show ((tleast rh rk rv rl rr).1.2.1, (tleast rh rk rv rl rr).1.2.2) = (tleast rh rk rv rl rr).1.2 from rfl, i]; rfl
end
end Go.Proofs.Ytmhfbpdahfepgaa.Pm
/- Package pmap's Map.Get. -/
namespace Go.Proofs.Ytmhfbpdahfepgaa.Pm
open Go.RowKit Go.Proofs.YtmhfbpdahfepgaaW.PrintWords
attribute [local go_sem high] eqHd
theorem cmpI_ok : CmpOk cmpI :=
  ⟨fun a b h1 h2 => by unfold cmpI at h1 h2; split at h1 <;> rename_i x1 <;> (try simp at h1) <;> split at h2 <;> rename_i x2 <;> simp_all <;> omega,
   fun a => by unfold cmpI; simp, fun a b => by unfold cmpI; split <;> split <;> (try split) <;> (try split) <;> simp <;> omega,
   fun a b c h1 h2 => by unfold cmpI at *; split at h1 <;> split at h2 <;> (try split at h1) <;> (try split at h2) <;> simp at h1 h2 <;> (rw [if_pos (by omega)]; decide)⟩
/-- What Get finds. -/
def tget (cmp : Int → Int → Int) : T2 → Int → Option Int
  | .leaf, _ => none
  | .node _ k' v' l r _, k => if cmp k k' < 0 then tget cmp l k else if 0 < cmp k k' then tget cmp r k else some v'
/-- How high a handle's tree is. -/
def hiOf (a : Ar N2) (h : Hd) : Nat := match a.get h with | none => 0 | some n => n.hi.toNat
def hiW (a : Ar N2) (w : World) (b : Nat) : Nat := match w.cell? ⟨b, 0, none⟩, w.cell? ⟨b, 1, none⟩ with | some (.int _ s), some (.int _ g) => hiOf a ⟨s, g⟩ | _, _ => 0
theorem hiOf_lies {a : Ar N2} {t : T2} (hl : Lies a t) (h0 : a.get H0 = none) : hiOf a t.h = t.hi.toNat := by
  cases t with
  | leaf => show hiOf a H0 = _; unfold hiOf; rw [h0]; rfl
  | node h k v l r hi => show hiOf a h = _; unfold hiOf; rw [hl.2.1]; rfl
theorem get_H0 (a : Ar N2) : a.get H0 = none := by
  unfold Ar.get Ar.slot?
  rw [if_neg (by unfold H0; simp)]; rfl
theorem hiW_at {a : Ar N2} {w : World} {b : Nat} {h : Hd} {t : TypeId} (hb : w.heap[b]? = some (.cells #[.int .i64 h.s, .int .i64 h.g] t (0, 0))) : hiW a w b = hiOf a h := by
  unfold hiW
  rw [show w.cell? ⟨b, 0, none⟩ = some (.int .i64 h.s) from blk_cell hb 0, show w.cell? ⟨b, 1, none⟩ = some (.int .i64 h.g) from blk_cell hb 1]
set_option maxHeartbeats 4000000 in
theorem mget_calls (w0 W : World) (B m aa : Nat) (a : Ar N2) (t : T2) (k : Int) (HM : MapB w0 W B m aa a) (hl : Lies a t) (av : Avl t) :
    Calls Try.prog 26 #[.pointer (some ⟨m, 0, none⟩), hdV t.h, .int .i64 k] W fun e w' => e = .returned (.tuple #[.int .i64 ((tget cmpI t k).getD 0), .bool (tget cmpI t k).isSome]) ∧ Below W.heap.size W w' := by
  have HLD := Lib.hid (fun (V : World) (h : Hd) (hb : Below W.heap.size W V) => show Calls Try.prog 18 #[.pointer (some ⟨m, 0, none⟩), hdV h] V fun e w' => e = .returned (.tuple #[ndV ((a.get h).getD nd0), .bool (a.get h).isSome]) ∧ Below V.heap.size V w' by obtain ⟨sv, fv, h'⟩ := (HM.below hb).mapAt; exact load_calls V m aa _ sv fv a h h')
  have HMC := Lib.hid (fun (V : World) (hb : Below W.heap.size W V) => (show V.cell? ⟨m, 1, none⟩ = some cmpF from (blk_cell (blk_below HM.hm hb) 1).trans rfl))
  have hltm := blk_lt HM.hm
  have HL := Lib.hid hl
  have HA := Lib.hid av
  have HZ := Lib.hid (get_H0 a)
  have HB := Lib.hid (Below.refl W.heap.size W)
  clear HM hl av
  simp only [hdV, ndV, cmpF] at HLD HMC ⊢
  go_enter Try.func26, Try.ntmps26
  go_wp2
  go_loopw [] (fun W' => ∃ t' : T2, Hid (Lies a t') ∧ Hid (Avl t') ∧ Hid (tget cmpI t' k = tget cmpI t k) ∧ Hid (W'.heap[W.heap.size]? = some (.cells #[.int .i64 t'.h.s, .int .i64 t'.h.g] 28 (0, 0))) ∧ Hid (Below W.heap.size W W')) (fun W' => hiW a W' W.heap.size)
  case atStart => exact ⟨t, HL, HA, Lib.hid rfl, Lib.hid (blk_new _ _), Lib.hid (by repeat (first | exact Below.refl _ _ | apply below_drew1 | apply below_alloc | apply pw_below_drewN))⟩
  case round =>
    obtain ⟨t', HL', HA', HT', HX, HB'⟩ := hrel
    have k0 := blk_cell HX.out 0
    have k1 := blk_cell HX.out 1
    have zx0 := blk_frozen HX.out 0
    have zx1 := blk_frozen HX.out 1
    simp at k0 k1
    have hltx := blk_lt HX.out
    cases t' with
    | leaf =>
      have HG := Lib.hid (show Calls Try.prog 18 #[.pointer (some ⟨m, 0, none⟩), .agg #[.int .i64 0, .int .i64 0]] wr fun e w' => e = .returned (.tuple #[.agg #[.int .i64 0, .int .i64 0, .int .i64 0, .int .i64 0, .int .i64 0, .int .i64 0, .int .i64 0], .bool false]) ∧ Below wr.heap.size wr w' by have := HLD.out wr H0 HB'.out; rw [HZ.out] at this; exact this)
      simp only [T.h, H0] at k0 k1
      go_wp2_with (first
        | (go_at_call 18; go_loud ((with_reducible refine Calls.mono HG.out ?_); rintro e w1 ⟨rfl, hb⟩; have HB1 := Lib.hid (HB'.out.trans (hb.mono HB'.out.size)); have hz1 := HB1.out.size; clear hb))
        | (fail "no arm"))
      rw [← HT'.out]
      go_ret2
      exact ⟨rfl, HB1.out.alloc (HB1.out.size) _⟩
    | node h k' v' l r hi =>
      have hg : (a.get h) = some ⟨k', v', l.h, r.h, hi⟩ := HL'.out.2.1
      have HG := Lib.hid (show Calls Try.prog 18 #[.pointer (some ⟨m, 0, none⟩), .agg #[.int .i64 h.s, .int .i64 h.g]] wr fun e w' => e = .returned (.tuple #[.agg #[.int .i64 k', .int .i64 v', .int .i64 l.h.s, .int .i64 l.h.g, .int .i64 r.h.s, .int .i64 r.h.g, .int .i64 hi], .bool true]) ∧ Below wr.heap.size wr w' by have := HLD.out wr h HB'.out; rw [hg] at this; exact this)
      have HGH := Lib.hid hg
      clear hg
      simp only [T.h] at k0 k1
      go_wp2_with (first
        | (go_at_call 18; go_loud ((with_reducible refine Calls.mono HG.out ?_); rintro e w1 ⟨rfl, hb⟩; have HB1 := Lib.hid (HB'.out.trans (hb.mono HB'.out.size)); have hz1 := HB1.out.size; have HX1 := Lib.hid (blk_below HX.out hb); have cm := HMC.out w1 HB1.out; have hltx1 := blk_lt HX1.out; clear hb))
        | (fail "no arm"))
      have HNV := Lib.hid (blk_new w1 (.cells #[.int .i64 k', .int .i64 v', .int .i64 l.h.s, .int .i64 l.h.g, .int .i64 r.h.s, .int .i64 r.h.g, .int .i64 hi] 44 (0, 0)))
      have HXV := Lib.hid (blk_below HX1.out (below_alloc (Below.refl _ _) (.cells #[.int .i64 k', .int .i64 v', .int .i64 l.h.s, .int .i64 l.h.g, .int .i64 r.h.s, .int .i64 r.h.g, .int .i64 hi] 44 (0, 0))))
      have HBV := Lib.hid (HB1.out.alloc (HB1.out.size) (.cells #[.int .i64 k', .int .i64 v', .int .i64 l.h.s, .int .i64 l.h.g, .int .i64 r.h.s, .int .i64 r.h.g, .int .i64 hi] 44 (0, 0)))
      generalize (w1.alloc (.cells #[.int .i64 k', .int .i64 v', .int .i64 l.h.s, .int .i64 l.h.g, .int .i64 r.h.s, .int .i64 r.h.g, .int .i64 hi] 44 (0, 0))) = V at *
      clear cm k0 k1
      generalize hnb : w1.heap.size = nb at *
      clear hnb
      have cm := HMC.out V HBV.out
      have n0 := blk_cell HNV.out 0
      have n1 := blk_cell HNV.out 1
      have n2 := blk_cell HNV.out 2
      have n3 := blk_cell HNV.out 3
      have n4 := blk_cell HNV.out 4
      have n5 := blk_cell HNV.out 5
      have y0 := blk_cell HXV.out 0
      have y1 := blk_cell HXV.out 1
      have q0 := blk_frozen HXV.out 0
      have q1 := blk_frozen HXV.out 1
      simp at n0 n1 n2 n3 n4 n5 y0 y1
      obtain ⟨e, a1, a2, al, ar⟩ := HA'.out
      have pl := al.nonneg
      have pr := ar.nonneg
      have m0 := mx_le l.hi r.hi
      have hhi : hi = 1 + mx l.hi r.hi := e
      have HAL := Lib.hid al
      have HAR := Lib.hid ar
      have hil := hiOf_lies HL'.out.2.2.1 HZ.out
      have hir := hiOf_lies HL'.out.2.2.2 HZ.out
      have hih : hiOf a h = hi.toNat := hiOf_lies HL'.out HZ.out
      have hwr : hiW a wr W.heap.size = hi.toNat := by rw [← hih]; exact hiW_at HX.out
      have HW := Lib.hid hwr
      clear e a1 a2 al ar hwr
      have HT2 : tget cmpI (.node h k' v' l r hi) k = if cmpI k k' < 0 then tget cmpI l k else if 0 < cmpI k k' then tget cmpI r k else some v' := rfl
      by_cases h1 : k < k'
      · have hck : cmpI k k' = -1 := by unfold cmpI; rw [if_pos h1]
        clear h1
        rw [hck, if_pos (by decide)] at HT2
        have HT3 := Lib.hid (HT2.symm.trans HT'.out)
        have HCK := Lib.hid hck
        clear HT2 hck
        go_quiet ((go_at_call 11; exact Calls.quiet_of_same (cmp_calls _ _ _)))
        rw [HCK.out]
        go_wp2
        have HE := Lib.hid (blk_put (blk_put (blk_below HXV.out (pw_below_drewN (Below.refl _ _) nq)) 0 (.int .i64 l.h.s) rfl) 1 (.int .i64 l.h.g) rfl)
        exact ⟨⟨l, Lib.hid HL'.out.2.2.1, HAL, HT3, HE, Lib.hid (((pw_below_drewN HBV.out nq).setCell (p := ⟨W.heap.size, 0, none⟩) (Nat.le_refl _) _).setCell (p := ⟨W.heap.size, 1, none⟩) (Nat.le_refl _) _)⟩, by rw [hiW_at HE.out, HW.out, hil]; omega⟩
      · by_cases h2 : k' < k
        · have hck : cmpI k k' = 1 := by unfold cmpI; rw [if_neg h1, if_pos h2]
          clear h1 h2
          rw [hck, if_neg (by decide), if_pos (by decide)] at HT2
          have HT3 := Lib.hid (HT2.symm.trans HT'.out)
          have HCK := Lib.hid hck
          clear HT2 hck
          go_quiet ((go_at_call 11; exact Calls.quiet_of_same (cmp_calls _ _ _)))
          rw [HCK.out]
          go_wp2
          have HE := Lib.hid (blk_put (blk_put (blk_below HXV.out (pw_below_drewN (Below.refl _ _) nq)) 0 (.int .i64 r.h.s) rfl) 1 (.int .i64 r.h.g) rfl)
          exact ⟨⟨r, Lib.hid HL'.out.2.2.2, HAR, HT3, HE, Lib.hid (((pw_below_drewN HBV.out nq).setCell (p := ⟨W.heap.size, 0, none⟩) (Nat.le_refl _) _).setCell (p := ⟨W.heap.size, 1, none⟩) (Nat.le_refl _) _)⟩, by rw [hiW_at HE.out, HW.out, hir]; omega⟩
        · have hck : cmpI k k' = 0 := by unfold cmpI; rw [if_neg h1, if_neg h2]
          clear h1 h2
          rw [hck, if_neg (by decide), if_neg (by decide)] at HT2
          have HT3 := Lib.hid (HT2.symm.trans HT'.out)
          have HCK := Lib.hid hck
          clear HT2 hck
          go_quiet ((go_at_call 11; exact Calls.quiet_of_same (cmp_calls _ _ _)))
          rw [HCK.out]
          go_wp2
          rw [← HT3.out]
          go_ret2
          exact ⟨rfl, pw_below_drewN HBV.out nq⟩
end Go.Proofs.Ytmhfbpdahfepgaa.Pm
/- Package pmap's Map.Del. -/
namespace Go.Proofs.Ytmhfbpdahfepgaa.Pm
open Go.RowKit Go.Proofs.YtmhfbpdahfepgaaW.PrintWords
attribute [local go_sem high] eqHd
theorem has_get (k : Int) : ∀ (t : T2), (tget cmpI t k).isSome = true → Has cmpI k t
  | .leaf, h => by simp [tget] at h
  | .node h' k' v' l r hi, h => by
    rw [tget] at h
    refine ⟨fun h1 => has_get k l (by rwa [if_pos h1] at h), fun h1 h2 => has_get k r (by rwa [if_neg h1, if_pos h2] at h)⟩
theorem del_of (V0 V : World) (m aa eb : Nat) (a : Ar N2) (t : T2) (p : Option Nat) (k : Int) (HM : ∃ sv fv, MapAt V0 m aa cmpF sv fv a) (hs : St V0 V eb m []) (hd : Den V0.heap.size V a p t) (av : Avl t) (hh : t.hi ≤ 50000) (hk : Has cmpI k t) :
    Calls Try.prog 37 #[.pointer (some ⟨eb, 0, none⟩), .pointer (p.map fun b => ⟨b, 0, none⟩), .int .i64 k] V fun e w' => (∃ q : Option Nat, e = .returned (.pointer (q.map fun b => ⟨b, 0, none⟩)) ∧ Den V0.heap.size w' a q (tdel cmpI t k).1) ∧ Ext V0.heap.size a V w' ∧ St V0 w' eb m ([] ++ (tdel cmpI t k).2) := by
  obtain ⟨sv, fv, h⟩ := HM
  exact del_calls V0 m aa eb sv fv a h k t V p [] hs hd av hk hh (by have := av.nonneg; show ((0 : Nat) : Int) + _ ≤ _; omega)
set_option maxHeartbeats 4000000 in
theorem mdel_calls (w0 W : World) (B m aa : Nat) (a : Ar N2) (t : T2) (k : Int) (G : Nat) (HM : MapB w0 W B m aa a) (hl : Lies a t) (av : Avl t) (hh : t.hi ≤ 50000) (hsome : (tget cmpI t k).isSome = true) (ok : ArOk G a) (hG : G + fresh (tdel cmpI t k).1 ≤ 1000000) (hr : (fresh (tdel cmpI t k).1 : Int) ≤ a.room) :
    Calls Try.prog 23 #[.pointer (some ⟨m, 0, none⟩), hdV t.h, .int .i64 k] W (FinOut w0 W B m aa (store nd0 a (tdel cmpI t k).1).1 (store nd0 a (tdel cmpI t k).1).2.1 (store nd0 a (tdel cmpI t k).1).2.2 (tdel cmpI t k).2) := by
  have hsz := HM.sz
  have hk := has_get k t hsome
  have HIT := Lib.hid (fun (V : World) (B0 eb : Nat) (hb : B0 ≤ V.heap.size) => item_calls B0 V eb a t hl hb)
  have HPU := Lib.hid (fun (V0 V : World) (eb : Nat) (p : Option Nat) (hb0 : Below W.heap.size W V0) (hs : St V0 V eb m []) (hd : Den V0.heap.size V a p t) => del_of V0 V m aa eb a t p k (HM.below hb0).mapAt hs hd av hh hk)
  have HFI := Lib.hid (fun (V : World) (B0 eb : Nat) (b : Option Nat) (gv : Value) (hb : Below W.heap.size W V) (he : V.heap[eb]? = some (.cells #[.pointer (some ⟨m, 0, none⟩), gv] 74 (0, 0))) (hg : OwnH V B gv (tdel cmpI t k).2) (hd : Den B0 V a b (tdel cmpI t k).1) => finish_calls w0 V B B0 m aa eb a a (tdel cmpI t k).1 b (tdel cmpI t k).2 gv G (HM.below hb) he hg hd ok hG hr)
  have hs := Lib.hid hsome
  have HGT := Lib.hid (fun (V : World) (hb : Below W.heap.size W V) => show Calls Try.prog 26 #[.pointer (some ⟨m, 0, none⟩), hdV t.h, .int .i64 k] V fun e w' => e = .returned (.tuple #[.int .i64 ((tget cmpI t k).getD 0), .bool true]) ∧ Below V.heap.size V w' by rw [← hsome]; exact mget_calls w0 V B m aa a t k (HM.below hb) hl av)
  generalize (tget cmpI t k).getD 0 = gd at *
  clear HM hl av hh hk hsome ok hG hr
  generalize (store nd0 a (tdel cmpI t k).1) = ST at *
  generalize (tdel cmpI t k) = TT at *
  simp only [hdV, ptrV] at HIT HGT ⊢
  go_enter Try.func23, Try.ntmps23
  go_wp2_with (first
    | (go_at_call 26; go_loud (
        (with_reducible refine Calls.mono (HGT.out _ (by repeat (first | exact Below.refl _ _ | apply below_drew1 | apply below_alloc | apply pw_below_drewN))) ?_);
        rintro e w1 ⟨rfl, hb⟩;
        (have hb0 : Below W.heap.size W ((W.alloc (Obj.cells #[.int .i64 t.h.s, .int .i64 t.h.g] 28 (0, 0))).alloc (Obj.cells #[.int .i64 0, .int .i64 0, .slice none 0 0, .slice none 0 0] 39 (0, 0))) := (by repeat (first | exact Below.refl _ _ | apply below_drew1 | apply below_alloc | apply pw_below_drewN)));
        (have hbx : ((W.alloc (Obj.cells #[.int .i64 t.h.s, .int .i64 t.h.g] 28 (0, 0))).alloc (Obj.cells #[.int .i64 0, .int .i64 0, .slice none 0 0, .slice none 0 0] 39 (0, 0))).heap[W.heap.size + 1]? = some (Obj.cells #[.int .i64 0, .int .i64 0, .slice none 0 0, .slice none 0 0] 39 (0, 0)) := alloc_at (by simp [World.size_alloc]));
        (have hhx : ((W.alloc (Obj.cells #[.int .i64 t.h.s, .int .i64 t.h.g] 28 (0, 0))).alloc (Obj.cells #[.int .i64 0, .int .i64 0, .slice none 0 0, .slice none 0 0] 39 (0, 0))).heap[W.heap.size]? = some (Obj.cells #[.int .i64 t.h.s, .int .i64 t.h.g] 28 (0, 0)) := blk_below (blk_new W (Obj.cells #[.int .i64 t.h.s, .int .i64 t.h.g] 28 (0, 0))) (below_alloc (Below.refl _ _) _));
        have HB0 := Lib.hid (hb0.trans (hb.mono (by simp [World.size_alloc]; omega)));
        have HBX0 := Lib.hid (blk_below hbx hb);
        (have hx0 : w1.cell? ⟨W.heap.size, 0, none⟩ = some (.int .i64 t.h.s) := blk_cell (blk_below hhx hb) 0);
        (have hx1 : w1.cell? ⟨W.heap.size, 1, none⟩ = some (.int .i64 t.h.g) := blk_cell (blk_below hhx hb) 1);
        have hlx := blk_lt (blk_below hhx hb);
        have hz1 := hb.size;
        clear hb hb0 hbx hhx))
    | (go_at_call 33; go_loud (
        (with_reducible refine Calls.mono (HIT.out _ w1.heap.size _ (by simp [World.size_alloc])) ?_);
        rintro e w4 ⟨⟨p, rfl, hc⟩, hb⟩;
        have HS1 := Lib.hid (show St w1 w4 w1.heap.size m [] from ⟨(below_alloc (Below.refl _ _) _).trans (hb.mono (by simp [World.size_alloc])), Nat.le_refl _, _, blk_below (blk_new w1 (Obj.cells #[.pointer (some ⟨m, 0, none⟩), .slice none 0 0] 74 (0, 0))) hb, nilH _ _⟩);
        have HD1 := Lib.hid (show Den w1.heap.size w4 a p t from (hc.den (Nat.le_refl _)));
        clear hc hb))
    | (go_at_call 37; go_loud ((with_reducible refine Calls.mono (HPU.out w1 _ _ p HB0.out HS1.out HD1.out) ?_); rintro e w2 ⟨⟨b2, rfl, ho⟩, hx, hs⟩; rw [List.nil_append] at hs; obtain ⟨gv, he2, hg2⟩ := hs.ed; have HS2 := Lib.hid (HB0.out.trans (hs.bel.mono HB0.out.size)); have HD2 := Lib.hid ho; have HE2 := Lib.hid he2; have HG2 := Lib.hid hg2; have HBX2 := Lib.hid (blk_below HBX0.out hs.bel); clear hs ho hx he2 hg2))
    | (go_at_call 31; go_loud ((with_reducible refine Calls.mono (HFI.out _ _ _ b2 gv HS2.out HE2.out (HG2.out.low (by have := HB0.out.size; omega)) HD2.out) ?_); rintro e w3 ⟨mv, gv3, rfl, hfs, hfr⟩; have HFR := Lib.hid ((Fr.below HS2.out).trans hfr); obtain ⟨Am, cm, rfl, _⟩ := OwnRow.slice_ hfs.hmade; obtain ⟨Ag, cg, rfl, _⟩ := OwnRow.slice_ hfs.hgone; simp only [edV]; have HFS := Lib.hid hfs; have HRB := Lib.hid (FrX.typedF hfr HBX2.out); have b0 := blk_cell HRB.out 0; have b1 := blk_cell HRB.out 1; have b2' := blk_cell HRB.out 2; have b3 := blk_cell HRB.out 3; have zb0 := blk_frozen HRB.out 0; have zb1 := blk_frozen HRB.out 1; have zb2 := blk_frozen HRB.out 2; have zb3 := blk_frozen HRB.out 3; simp at b0 b1 b2' b3; clear hfs hfr))
    | (fail "no arm"))
  have HV := Lib.hid (HFS.out.box (root := ST.2.1) HRB.out (Nat.le_succ_of_le hsz) HFR.out (Nat.le_succ W.heap.size))
  generalize ((((w3.setCell ⟨W.heap.size + 1, 0, none⟩ (.int .i64 ST.2.1.s)).setCell ⟨W.heap.size + 1, 1, none⟩ (.int .i64 ST.2.1.g)).setCell ⟨W.heap.size + 1, 2, none⟩ (.slice Am ST.2.2.length cm)).setCell ⟨W.heap.size + 1, 3, none⟩ (.slice Ag TT.2.length cg)) = V2 at *
  obtain ⟨hv1, hv2, hv3⟩ := HV.out
  have q0 : V2.cell? ⟨W.heap.size + 1, 0, none⟩ = some (.int .i64 ST.2.1.s) := blk_cell hv1 0
  have q1 : V2.cell? ⟨W.heap.size + 1, 1, none⟩ = some (.int .i64 ST.2.1.g) := blk_cell hv1 1
  have q2 : V2.cell? ⟨W.heap.size + 1, 2, none⟩ = some (.slice Am ST.2.2.length cm) := blk_cell hv1 2
  have q3 : V2.cell? ⟨W.heap.size + 1, 3, none⟩ = some (.slice Ag TT.2.length cg) := blk_cell hv1 3
  have HV2 := Lib.hid hv2
  have HV3 := Lib.hid hv3
  clear hv1 hv2 hv3
  refine bodyPost_ret (v := .tuple #[edV ST.2.1 (.slice Am ST.2.2.length cm) (.slice Ag TT.2.length cg), .bool true]) (by simp [results, Try.results23, edV, go_sem, q0, q1, q2, q3]; try rfl) rfl ?_
  exact ⟨_, _, rfl, HV2.out, HV3.out⟩
/-- Nothing was made. -/
def NoEdit (W : World) (e : Ending) (w' : World) : Prop := e = .returned (.tuple #[edV H0 (.slice none 0 0) (.slice none 0 0), .bool false]) ∧ Below W.heap.size W w'
theorem edit_box {W V : World} {n : Nat} (hb : V.heap[n]? = some (Obj.cells #[.int .i64 0, .int .i64 0, .slice none 0 0, .slice none 0 0] 39 (0, 0))) (hB : Below W.heap.size W V) (hn : W.heap.size ≤ n) :
    let V' := (((V.setCell ⟨n, 0, none⟩ (.int .i64 0)).setCell ⟨n, 1, none⟩ (.int .i64 0)).setCell ⟨n, 2, none⟩ (.slice none 0 0)).setCell ⟨n, 3, none⟩ (.slice none 0 0)
    V'.heap[n]? = some (Obj.cells #[.int .i64 0, .int .i64 0, .slice none 0 0, .slice none 0 0] 39 (0, 0)) ∧ Below W.heap.size W V' := by
  intro V'
  exact ⟨blk_put (blk_put (blk_put (blk_put hb 0 (.int .i64 0) rfl) 1 (.int .i64 0) rfl) 2 (.slice none 0 0) rfl) 3 (.slice none 0 0) rfl, (((hB.setCell (p := ⟨n, 0, none⟩) hn _).setCell (p := ⟨n, 1, none⟩) hn _).setCell (p := ⟨n, 2, none⟩) hn _).setCell (p := ⟨n, 3, none⟩) hn _⟩
set_option maxHeartbeats 4000000 in
theorem mdel_no (w0 W : World) (B m aa : Nat) (a : Ar N2) (t : T2) (k : Int) (HM : MapB w0 W B m aa a) (hl : Lies a t) (av : Avl t) (hnone : (tget cmpI t k).isSome = false) :
    Calls Try.prog 23 #[.pointer (some ⟨m, 0, none⟩), hdV t.h, .int .i64 k] W (NoEdit W) := by
  have HGT := Lib.hid (fun (V : World) (hb : Below W.heap.size W V) => show Calls Try.prog 26 #[.pointer (some ⟨m, 0, none⟩), hdV t.h, .int .i64 k] V fun e w' => e = .returned (.tuple #[.int .i64 ((tget cmpI t k).getD 0), .bool false]) ∧ Below V.heap.size V w' by rw [← hnone]; exact mget_calls w0 V B m aa a t k (HM.below hb) hl av)
  generalize (tget cmpI t k).getD 0 = gd at *
  clear HM hl av hnone
  simp only [hdV] at HGT ⊢
  go_enter Try.func23, Try.ntmps23
  go_wp2_with (first
    | (go_at_call 26; go_loud (
        (with_reducible refine Calls.mono (HGT.out _ (by repeat (first | exact Below.refl _ _ | apply below_drew1 | apply below_alloc | apply pw_below_drewN))) ?_);
        rintro e w1 ⟨rfl, hb⟩;
        (have hb0 : Below W.heap.size W ((W.alloc (Obj.cells #[.int .i64 t.h.s, .int .i64 t.h.g] 28 (0, 0))).alloc (Obj.cells #[.int .i64 0, .int .i64 0, .slice none 0 0, .slice none 0 0] 39 (0, 0))) := (by repeat (first | exact Below.refl _ _ | apply below_drew1 | apply below_alloc | apply pw_below_drewN)));
        (have hbx : ((W.alloc (Obj.cells #[.int .i64 t.h.s, .int .i64 t.h.g] 28 (0, 0))).alloc (Obj.cells #[.int .i64 0, .int .i64 0, .slice none 0 0, .slice none 0 0] 39 (0, 0))).heap[W.heap.size + 1]? = some (Obj.cells #[.int .i64 0, .int .i64 0, .slice none 0 0, .slice none 0 0] 39 (0, 0)) := alloc_at (by simp [World.size_alloc]));
        have HB0 := Lib.hid (hb0.trans (hb.mono (by simp [World.size_alloc]; omega)));
        have HBX0 := Lib.hid (blk_below hbx hb);
        have zb0 := blk_frozen HBX0.out 0; have zb1 := blk_frozen HBX0.out 1; have zb2 := blk_frozen HBX0.out 2; have zb3 := blk_frozen HBX0.out 3;
        have b0 := blk_cell HBX0.out 0; have b1 := blk_cell HBX0.out 1; have b2' := blk_cell HBX0.out 2; have b3 := blk_cell HBX0.out 3;
        simp at b0 b1 b2' b3;
        clear hb hb0 hbx))
    | (fail "no arm"))
  have HV := Lib.hid (edit_box HBX0.out HB0.out (Nat.le_succ W.heap.size))
  generalize ((((w1.setCell ⟨W.heap.size + 1, 0, none⟩ (.int .i64 0)).setCell ⟨W.heap.size + 1, 1, none⟩ (.int .i64 0)).setCell ⟨W.heap.size + 1, 2, none⟩ (.slice none 0 0)).setCell ⟨W.heap.size + 1, 3, none⟩ (.slice none 0 0)) = V2 at *
  have q0 : V2.cell? ⟨W.heap.size + 1, 0, none⟩ = some (.int .i64 0) := blk_cell HV.out.1 0
  have q1 : V2.cell? ⟨W.heap.size + 1, 1, none⟩ = some (.int .i64 0) := blk_cell HV.out.1 1
  have q2 : V2.cell? ⟨W.heap.size + 1, 2, none⟩ = some (.slice none 0 0) := blk_cell HV.out.1 2
  have q3 : V2.cell? ⟨W.heap.size + 1, 3, none⟩ = some (.slice none 0 0) := blk_cell HV.out.1 3
  refine bodyPost_ret (v := .tuple #[edV H0 (.slice none 0 0) (.slice none 0 0), .bool false]) (by simp [results, Try.results23, edV, H0, go_sem, q0, q1, q2, q3]; try rfl) rfl ?_
  exact ⟨rfl, HV.out.2⟩
end Go.Proofs.Ytmhfbpdahfepgaa.Pm
/- Package arena's Free, Map.Free. -/
namespace Go.Proofs.Ytmhfbpdahfepgaa.Pm
open Go.RowKit Go.Proofs.YtmhfbpdahfepgaaW.PrintWords
theorem slot_at {a : Ar N2} {h : Hd} {s : Slot N2} (hs : a.slot? h = some s) : ∃ (j : Nat) (hj : j < a.slots.length), h.s = (j : Int) + 1 ∧ a.slots[j] = s ∧ s.used = true ∧ s.gen = h.g := by
  unfold Ar.slot? at hs
  split at hs
  · rename_i hc
    refine ⟨(h.s - 1).toNat, by omega, by omega, ?_⟩
    rw [List.getElem?_eq_getElem (show (h.s - 1).toNat < a.slots.length by omega)] at hs
    simp only [Option.bind_some] at hs
    split at hs
    · rename_i hu
      injection hs with hs
      rw [Bool.and_eq_true, beq_iff_eq] at hu
      exact ⟨hs, hs ▸ hu.1, hs ▸ hu.2⟩
    · cases hs
  · cases hs
theorem reps_put {ss : List (Slot N2)} {inner : List Value} (hr : Reps (fun s cs => cs = slotC s) 9 ss inner) (j : Nat) (hj : j < ss.length) (s : Slot N2) : Reps (fun s cs => cs = slotC s) 9 (ss.set j s) (sets inner (j * 9) (slotC s)) := by
  have hl := hr.1
  refine ⟨by rw [sets_length, List.length_set]; exact hl, fun i p hp => ?_⟩
  have hi : i < ss.length := by
    have := (List.getElem?_eq_some_iff.mp hp).1
    rwa [List.length_set] at this
  have h9 : (slotC s).length = 9 := rfl
  have hjl : j * 9 + 9 ≤ inner.length := by rw [hl]; omega
  have hil : i * 9 + 9 ≤ inner.length := by rw [hl]; omega
  by_cases e : i = j
  · subst e
    rw [List.getElem?_set_self hi] at hp
    injection hp with hp
    subst hp
    apply List.ext_getElem?
    intro k
    rw [List.getElem?_take]
    by_cases hk : k < 9
    · rw [if_pos hk, List.getElem?_drop, sets_in _ _ _ _ (by omega) (by omega)]
    · rw [if_neg hk, List.getElem?_eq_none (by omega)]
  · rw [List.getElem?_set_ne (by omega)] at hp
    show _ = _
    rw [← (show _ = _ from hr.2 i p hp)]
    apply List.ext_getElem?
    intro k
    rw [List.getElem?_take, List.getElem?_take]
    by_cases hk : k < 9
    · rw [if_pos hk, if_pos hk, List.getElem?_drop, List.getElem?_drop, sets_out _ _ _ _ (by omega)]
    · rw [if_neg hk, if_neg hk]
def goneC : List Value := [.bool false, .int .i64 0, .int .i64 0, .int .i64 0, .int .i64 0, .int .i64 0, .int .i64 0, .int .i64 0]
theorem OwnS.cut {W : World} {B g c : Nat} {ss : List (Slot N2)} (h : OwnS W B (.slice (some ⟨g, 0, none⟩) ss.length c) ss) (j : Nat) (hj : j < ss.length) : OwnS (wsets W g (j * 9 + 1) goneC) B (.slice (some ⟨g, 0, none⟩) ss.length c) (ss.set j ⟨ss[j].gen, false, nd0⟩) := by
  obtain ⟨inner, ho, hr⟩ := h
  have hr2 := reps_put hr j hj ⟨ss[j].gen, false, nd0⟩
  have hl := hr.1
  have e0 : inner[j * 9]? = some (.int .i64 ss[j].gen) := by
    have := congrArg (fun l => l[0]?) (show _ = slotC ss[j] from hr.2 j ss[j] (List.getElem?_eq_getElem hj))
    rw [List.getElem?_take, if_pos (by decide), List.getElem?_drop] at this
    exact this
  have hlt : j * 9 < inner.length := by rw [hl]; omega
  have e1 : sets inner (j * 9) (slotC ⟨ss[j].gen, false, nd0⟩) = sets inner (j * 9 + 1) goneC := by
    show sets (inner.set (j * 9) (.int .i64 ss[j].gen)) (j * 9 + 1) goneC = _
    rw [List.getElem?_eq_getElem hlt] at e0
    injection e0 with e0
    rw [← e0, List.set_getElem_self]
  rw [e1] at hr2
  exact ⟨_, by rw [List.length_set]; exact wsets_own _ _ _ _ ho, hr2⟩
theorem AtB.cut {w0 W : World} {B aa g c : Nat} {fv : Value} {a : Ar N2} {cs : Array Value} (H : AtB w0 W B aa (.slice (some ⟨g, 0, none⟩) a.slots.length c) fv a) (hg : W.heap[g]? = some (.cells cs 96 (0, 0))) (hB : B ≤ g) (j : Nat) (hj : j < a.slots.length) :
    AtB w0 (wsets W g (j * 9 + 1) goneC) B aa (.slice (some ⟨g, 0, none⟩) a.slots.length c) fv ⟨a.most, a.slots.set j ⟨a.slots[j].gen, false, nd0⟩, a.free⟩ :=
  ⟨wsets_below hB _ _ _ H.bel, Nat.le_trans H.sz (wsets_fr _ _ _ _ hg).size, H.ge, (wsets_block (typed_ne H.ha hg (by decide)) _ _ _).trans H.ha, by rw [show (Ar.slots ⟨a.most, a.slots.set j ⟨a.slots[j].gen, false, nd0⟩, a.free⟩) = a.slots.set j ⟨a.slots[j].gen, false, nd0⟩ from rfl]; exact OwnS.cut H.hs j hj, wsets_other (own_ne H.hf hg (by decide)) _ _ _ H.hf⟩
theorem find_any (w : World) (m aa : Nat) (f sv fv : Value) (a : Ar N2) (j : Nat) (H : MapAt w m aa f sv fv a) (hj : j < a.slots.length) (hu : a.slots[j].used = true) (g c : Nat) (hsv : sv = .slice (some ⟨g, 0, none⟩) a.slots.length c) :
    Calls Try.prog 45 #[.pointer (some ⟨aa, 0, none⟩), .agg #[.int .i64 ((j : Int) + 1), .int .i64 a.slots[j].gen]] w fun e w' => e = .returned (.pointer (some ⟨g, j * 9, none⟩)) ∧ Below w.heap.size w w' := by
  obtain ⟨g', c', e, h1, h2, h3, h4⟩ := H.slot j hj
  rw [hsv] at e
  injection e with e1 e2 e3
  injection e1 with e1
  injection e1 with e1
  subst e1 e3
  exact find_hit w m aa f sv fv a j _ H hj hu rfl g c hsv h1 h3 h4
theorem AtB.freed {w0 w5 w8 : World} {B aa : Nat} {sv fv fv8 : Value} {a : Ar N2} {i : Int} (H : AtB w0 w5 B aa sv fv a) (ho : w8.ownsRow B 3 1 fv8 (a.free.length + 1) (nums .i64 a.free ++ [.int .i64 i])) (hb : Below B w0 w8) (hg : w5.drew.grownBy w8 fv.ownBlock) :
    AtB w0 (w8.setCell ⟨aa, 2, none⟩ fv8) B aa sv fv8 ⟨a.most, a.slots, a.free ++ [i]⟩ ∧ Fr w5 (w8.setCell ⟨aa, 2, none⟩ fv8) := by
  have hz : w5.heap.size ≤ w8.heap.size := hg.size
  have ha8 : w8.heap[aa]? = _ := (hg.block aa (blk_lt H.ha) (own_ne H.hf H.ha (by decide))).trans H.ha
  obtain ⟨inner, hown, hrep⟩ := H.hs
  have hs8 : OwnS w8 B sv a.slots := ⟨inner, own_other (show w5.drew.ownsRow _ _ _ _ _ _ from hown) hg (own_type_ne hown H.hf (by decide)), hrep⟩
  refine ⟨⟨hb.setCell (p := ⟨aa, 2, none⟩) H.ge _, by have := H.sz; simp; omega, H.ge, blk_put ha8 2 fv8 rfl, OwnRow.set_ hs8 ha8 (by decide) 2 fv8, ?_⟩, ?_⟩
  · have e1 : (a.free ++ [i]).length = a.free.length + 1 := by rw [List.length_append, List.length_singleton]
    have e2 : nums .i64 (a.free ++ [i]) = nums .i64 a.free ++ [.int .i64 i] := by simp [nums]
    rw [show (Ar.free ⟨a.most, a.slots, a.free ++ [i]⟩ : List Int) = a.free ++ [i] from rfl, e1, e2]
    exact own_setCell ho (own_ne ho ha8 (by decide)) fv8
  · refine (show Fr w5 w8 from ⟨hg.os, hg.tape, hg.output, hz, fun j cs t hc _ _ h3 => (hg.block j (blk_lt hc) (own_ne H.hf hc (Ne.symm h3))).trans hc⟩).trans (Fr.set ha8 (.inl rfl) 2 fv8)
theorem intInfo : (Try.prog.info? 3).map (fun i => (i.zero, i.size, i.bytes)) = some (some (.int .i64 0), 1, 8) := by kernel_rfl
set_option maxHeartbeats 4000000 in
theorem afree_calls (w0 W : World) (B m aa : Nat) (a : Ar N2) (h : Hd) (j : Nat) (HM : MapB w0 W B m aa a) (hs : Small a) (hj : j < a.slots.length) (hh : h.s = (j : Int) + 1) (hu : a.slots[j].used = true) (hg : a.slots[j].gen = h.g) :
    Calls Try.prog 39 #[.pointer (some ⟨aa, 0, none⟩), hdV h] W fun e w' => e = .returned (.bool true) ∧ (∃ sv fv, AtB w0 w' B aa sv fv ⟨a.most, a.slots.set j ⟨a.slots[j].gen, false, nd0⟩, a.free ++ [h.s]⟩) ∧ Fr W w' := by
  obtain ⟨sv, fv, H⟩ := HM.at_
  obtain ⟨g, c, cs, rfl, hgb, hBg, hc, hm, hcell⟩ := OwnS.slot H.hs j hj
  have hMA : MapAt W m aa cmpF (.slice (some ⟨g, 0, none⟩) a.slots.length c) fv a := ⟨HM.hm, H.ha, by obtain ⟨inner, ho, hr⟩ := H.hs; exact ⟨inner, own_low ho (Nat.zero_le _), hr⟩, own_low H.hf (Nat.zero_le _)⟩
  have HFN := Lib.hid (fun (V : World) (hb : Below W.heap.size W V) => find_any V m aa cmpF _ fv a j (hMA.below hb) hj hu g c rfl)
  have HA := Lib.hid H
  have HG := Lib.hid hgb
  have HCE := Lib.hid hcell
  have h1 := hs.most
  have h2 := hs.slots
  have h3 := hs.free
  have hgl := blk_lt hgb
  have hal := blk_lt H.ha
  have hne := Lib.hid (typed_ne H.ha hgb (by decide))
  obtain ⟨hs', hg'⟩ := h
  dsimp only at hh hg
  subst hh hg
  simp only [hdV]
  have hsz := H.sz
  clear HM hs hMA H hgb hcell hu
  go_enter Try.func39, Try.ntmps39
  go_wp2_with (first
    | (go_at_call 45; go_loud (
        (with_reducible refine Calls.mono (HFN.out _ (by repeat (first | exact Below.refl _ _ | apply below_drew1 | apply below_alloc | apply pw_below_drewN))) ?_);
        rintro e w1 ⟨rfl, hb⟩;
        (have hb0 : Below W.heap.size W w1 := (below_alloc (Below.refl _ _) _).trans (hb.mono (by simp [World.size_alloc])));
        (have hhx := blk_below (blk_new W (.cells #[.int .i64 ((j : Int) + 1), .int .i64 a.slots[j].gen] 28 (0, 0))) hb);
        have x0 := blk_cell hhx 0; have x1 := blk_cell hhx 1; simp at x0 x1;
        have hlx := blk_lt hhx;
        have HB1 := Lib.hid hb0; have hz1 := hb0.size;
        have HA1 := Lib.hid (HA.out.below hb0); have HG1 := Lib.hid (blk_below HG.out hb0);
        have HHX := Lib.hid hhx;
        have hgl1 := blk_lt HG1.out;
        have z1 := blk_frozen HG1.out (j * 9 + 1); have z2 := blk_frozen HG1.out (j * 9 + 2); have z3 := blk_frozen HG1.out (j * 9 + 3); have z4 := blk_frozen HG1.out (j * 9 + 4); have z5 := blk_frozen HG1.out (j * 9 + 5); have z6 := blk_frozen HG1.out (j * 9 + 6); have z7 := blk_frozen HG1.out (j * 9 + 7); have z8 := blk_frozen HG1.out (j * 9 + 8);
        have k1 := pw_cell_below hb0 (HCE.out 1 _ rfl); have k2 := pw_cell_below hb0 (HCE.out 2 _ rfl); have k3 := pw_cell_below hb0 (HCE.out 3 _ rfl); have k4 := pw_cell_below hb0 (HCE.out 4 _ rfl); have k5 := pw_cell_below hb0 (HCE.out 5 _ rfl); have k6 := pw_cell_below hb0 (HCE.out 6 _ rfl); have k7 := pw_cell_below hb0 (HCE.out 7 _ rfl); have k8 := pw_cell_below hb0 (HCE.out 8 _ rfl);
        clear hb hb0 hhx))
    | (fail "no arm"))
  go_region
  change Exit.then _ _ _ _ (World.drew ((wsets w1 g (j * 9 + 1) goneC).alloc (.cells #[.int .i64 0, .int .i64 0, .int .i64 0, .int .i64 0, .int .i64 0, .int .i64 0, .int .i64 0] 44 (0, 0))))
  have H5 := Lib.hid ((AtB.cut HA1.out HG1.out hBg j hj).below (show Below (wsets w1 g (j * 9 + 1) goneC).heap.size (wsets w1 g (j * 9 + 1) goneC) (World.drew ((wsets w1 g (j * 9 + 1) goneC).alloc (.cells #[.int .i64 0, .int .i64 0, .int .i64 0, .int .i64 0, .int .i64 0, .int .i64 0, .int .i64 0] 44 (0, 0)))) from (below_drew1 (below_alloc (Below.refl _ _) _))))
  have F5 := Lib.hid ((Fr.below HB1.out).trans ((wsets_fr goneC _ (j * 9 + 1) _ HG1.out).trans (Fr.below (show Below (wsets w1 g (j * 9 + 1) goneC).heap.size (wsets w1 g (j * 9 + 1) goneC) (World.drew ((wsets w1 g (j * 9 + 1) goneC).alloc (.cells #[.int .i64 0, .int .i64 0, .int .i64 0, .int .i64 0, .int .i64 0, .int .i64 0, .int .i64 0] 44 (0, 0)))) from (below_drew1 (below_alloc (Below.refl _ _) _))))))
  have d1 := (wsets_block (show W.heap.size ≠ g by omega) goneC w1 (j * 9 + 1)).trans HHX.out
  have HY5 := Lib.hid (blk_drew (blk_alloc d1 (.cells #[.int .i64 0, .int .i64 0, .int .i64 0, .int .i64 0, .int .i64 0, .int .i64 0, .int .i64 0] 44 (0, 0))))
  clear d1 k1 k2 k3 k4 k5 k6 k7 k8 z1 z2 z3 z4 z5 z6 z7 z8 x0 x1
  generalize (World.drew ((wsets w1 g (j * 9 + 1) goneC).alloc (.cells #[.int .i64 0, .int .i64 0, .int .i64 0, .int .i64 0, .int .i64 0, .int .i64 0, .int .i64 0] 44 (0, 0)))) = w5 at *
  have x0 := blk_cell HY5.out 0
  simp at x0
  obtain ⟨A', c', rfl⟩ := own_slice H5.out.hf
  have HF5 := Lib.hid (show w5.drew.ownsRow B 3 1 (.slice A' a.free.length c') a.free.length (nums .i64 a.free) from H5.out.hf)
  have f2 : w5.cell? ⟨aa, 2, none⟩ = some (.slice A' a.free.length c') := blk_cell H5.out.ha 2
  have hsz5 := H5.out.sz
  have HB5 := Lib.hid H5.out.bel
  have hnef := Lib.hid (own_ne H5.out.hf H5.out.ha (by decide))
  have ha5 := blk_lt H5.out.ha
  generalize hFL : a.free.length = FL at *
  have HFL := Lib.hid hFL
  clear hFL
  go_wp2
  go_region_law (go_loud ((refine step_append_cells (w0 := w0) (W := w5.drew) B rfl (.tmp 23) (.tmp 26) 82 3 _ 1 8 rfl Try.underlying82 intInfo rfl (by decide) (by decide) _ FL (nums .i64 a.free) [.int .i64 ((j : Int) + 1)] (by rfl) (by simp [Act.eval]) rfl (by simp [Value.oneCell']) HF5.out (below_drew1 HB5.out) hsz5 ?hl ?_; (case hl => omega); intro v8 w8 ho hb hg hat; obtain ⟨A8, c8, rfl⟩ := own_slice ho; have HO8 := Lib.hid ho; have HB8 := Lib.hid hb; have HG8 := Lib.hid hg; have HE8 := Lib.hid (show w8.heap[aa]? = _ from (hg.block aa (by simpa using ha5) hnef.out).trans H5.out.ha); have zz1 := blk_frozen HE8.out 2; have kk1 := blk_cell HE8.out 2; simp at kk1; clear ho hb hg hat)))
  all_goals
    go_wp2
    go_ret
    have hfr := AtB.freed (i := (j : Int) + 1) H5.out (by rw [show (Ar.free ⟨a.most, a.slots.set j ⟨a.slots[j].gen, false, nd0⟩, a.free⟩ : List Int).length = FL from HFL.out]; exact HO8.out) HB8.out HG8.out
    exact ⟨rfl, ⟨_, _, hfr.1⟩, F5.out.trans hfr.2⟩
theorem del_some {a : Ar N2} {h : Hd} {s : Slot N2} (hs : a.slot? h = some s) : a.del nd0 h = ⟨a.most, a.slots.set (h.s - 1).toNat ⟨s.gen, false, nd0⟩, a.free ++ [h.s]⟩ := by
  unfold Ar.del
  rw [hs]
theorem afree_of (w0 W : World) (B m aa : Nat) (a : Ar N2) (h : Hd) (HM : MapB w0 W B m aa a) (hs : Small a) (hh : (a.get h).isSome = true) :
    Calls Try.prog 39 #[.pointer (some ⟨aa, 0, none⟩), hdV h] W fun e w' => e = .returned (.bool true) ∧ (∃ sv fv, AtB w0 w' B aa sv fv (a.del nd0 h)) ∧ Fr W w' := by
  unfold Ar.get at hh
  rw [Option.isSome_map] at hh
  obtain ⟨s, hs'⟩ := Option.isSome_iff_exists.mp hh
  rw [del_some hs']
  obtain ⟨j, hj, e1, e2, e3, e4⟩ := slot_at hs'
  have := afree_calls w0 W B m aa a h j HM hs hj e1 (by rw [e2]; exact e3) (by rw [e2]; exact e4)
  rw [show (h.s - 1).toNat = j by omega, ← e2]
  exact this
set_option maxHeartbeats 1000000 in
theorem mfree_calls (w0 W : World) (B m aa : Nat) (a : Ar N2) (h : Hd) (HM : MapB w0 W B m aa a) (hs : Small a) (hh : (a.get h).isSome = true) :
    Calls Try.prog 28 #[.pointer (some ⟨m, 0, none⟩), hdV h] W fun e w' => e = .returned (.bool true) ∧ MapB w0 w' B m aa (a.del nd0 h) ∧ Fr W w' := by
  have c0 : W.cell? ⟨m, 0, none⟩ = some (.pointer (some ⟨aa, 0, none⟩)) := blk_cell HM.hm 0
  have hlt := blk_lt HM.hm
  have HF := Lib.hid (fun (V : World) (hb : Below W.heap.size W V) => (afree_of w0 V B m aa a h (HM.below hb) hs hh).mono (R' := fun e w' => e = .returned (.bool true) ∧ MapB w0 w' B m aa (a.del nd0 h) ∧ Fr W w') fun _ _ ⟨x1, x2, x3⟩ => ⟨x1, ⟨x2, FrX.typedF x3 (blk_below HM.hm hb), HM.bm⟩, (Fr.below hb).trans x3⟩)
  clear HM hs hh
  simp only [hdV] at HF ⊢
  generalize a.del nd0 h = a' at *
  go_enter Try.func28, Try.ntmps28
  go_wp2
  go_region_with (first
    | (go_at_call 39; go_loud ((with_reducible refine Calls.mono (HF.out _ (by repeat (first | exact Below.refl _ _ | apply below_drew1 | apply below_alloc | apply pw_below_drewN))) ?_); rintro e w1 ⟨rfl, hm, hf⟩; have HM1 := Lib.hid hm; have HF1 := Lib.hid hf; clear hm hf))
    | (fail "no arm"))
  all_goals
    go_wp2
    go_ret
    exact ⟨rfl, HM1.out, HF1.out⟩
end Go.Proofs.Ytmhfbpdahfepgaa.Pm
