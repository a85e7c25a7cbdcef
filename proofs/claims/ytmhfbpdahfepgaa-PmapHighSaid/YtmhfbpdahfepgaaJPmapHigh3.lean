/-
  Package arena: Put, as the plain arena's put; what holds of an arena; Package pmap's store: state, frame, the easy cases; Package pmap's store: a new node; Package pmap's finish, Map.Put, Map.Del; Package pmap's finish; Package pmap's Map.Put; Package pmap's trees: what put and del do to the pairs and to the handles. Plain lemmas; Package pmap's Map.Get; Package pmap's Map.Del
-/
import Derived.Test.YtmhfbpdahfepgaaJPmapHigh2
/- Package arena: Put, as the plain arena's put; what holds of an arena. -/
namespace Go.Proofs.Ytmhfbpdahfepgaa.Pm
open Go.RowKit Go.Proofs.YtmhfbpdahfepgaaW.PrintWords
/-- What holds of an arena whose slots were used G times at most. -/
structure ArOk (G : Nat) (a : Ar N2) : Prop where
  small : Small a
  free : ∀ i ∈ a.free, 1 ≤ i ∧ i ≤ a.slots.length ∧ ((a.slots.getD (i - 1).toNat ⟨0, false, nd0⟩).used = false)
  nodup : a.free.Nodup
  gen : ∀ s ∈ a.slots, 0 ≤ s.gen ∧ s.gen ≤ G
theorem put_free_nil {a : Ar N2} {x : N2} (h : a.free = []) : a.put nd0 x = (⟨a.most, a.slots ++ [⟨1, true, x⟩], a.free⟩, ⟨a.slots.length + 1, 1⟩) := by unfold Ar.put; rw [h]; rfl
theorem put_free_snoc {a : Ar N2} {x : N2} {fs : List Int} {i : Int} (h : a.free = fs ++ [i]) : a.put nd0 x = (⟨a.most, a.slots.set (i - 1).toNat ⟨(a.slots.getD (i - 1).toNat ⟨0, false, nd0⟩).gen + 1, true, x⟩, fs⟩, ⟨i, (a.slots.getD (i - 1).toNat ⟨0, false, nd0⟩).gen + 1⟩) := by
  unfold Ar.put
  rw [h, List.getLast?_append, List.dropLast_concat]
  rfl
theorem arput_calls (w0 W : World) (B aa : Nat) (sv fv : Value) (a : Ar N2) (x : N2) (G : Nat) (H : AtB w0 W B aa sv fv a) (hG : G ≤ 1000000) (ok : ArOk G a) (hr : 0 < a.room) :
    Calls Try.prog 47 #[.pointer (some ⟨aa, 0, none⟩), ndV x] W fun e w' => e = .returned (.tuple #[hdV (a.put nd0 x).2, .bool true]) ∧ (∃ sv' fv', AtB w0 w' B aa sv' fv' (a.put nd0 x).1) ∧ Fr W w' := by
  have h1 := ok.small.most
  have h2 := ok.small.slots
  rcases List.eq_nil_or_concat a.free with hf | ⟨fs, i, hf⟩
  · rw [put_free_nil hf]
    have hl : a.slots.length < a.most := by
      have : a.room = (a.most : Int) - a.slots.length + a.free.length := rfl
      rw [hf] at this
      simp at this
      omega
    have hlen : (a.slots ++ [(⟨0, false, nd0⟩ : Slot N2)]).length = a.slots.length + 1 := by rw [List.length_append]; rfl
    have hj : a.slots.length < (a.slots ++ [(⟨0, false, nd0⟩ : Slot N2)]).length := by omega
    have hg : (a.slots ++ [(⟨0, false, nd0⟩ : Slot N2)])[a.slots.length] = ⟨0, false, nd0⟩ := by simp
    have K := put_core w0 W B aa sv fv a ⟨a.most, a.slots ++ [⟨0, false, nd0⟩], a.free⟩ x a.slots.length H ok.small (by omega) (by show (a.slots ++ [(⟨0, false, nd0⟩ : Slot N2)]).length ≤ _; omega) hj
      (by show 0 ≤ ((a.slots ++ [(⟨0, false, nd0⟩ : Slot N2)])[a.slots.length]).gen ∧ ((a.slots ++ [(⟨0, false, nd0⟩ : Slot N2)])[a.slots.length]).gen ≤ _; rw [hg]; decide)
      (fun V hV => (next_new w0 V B aa sv fv a hV ok.small hf hl).mono fun _ _ ⟨e1, ⟨sv', e2⟩, e3⟩ => ⟨e1, ⟨sv', fv, e2⟩, e3⟩)
    dsimp only at K
    rw [hg, List.set_append_right _ _ (Nat.le_refl _), Nat.sub_self] at K
    exact K
  · rw [List.concat_eq_append] at hf
    rw [put_free_snoc hf]
    obtain ⟨i1, i2, _⟩ := ok.free i (by rw [hf]; simp)
    obtain ⟨j, rfl⟩ : ∃ j : Nat, i = (j : Int) + 1 := ⟨(i - 1).toNat, by omega⟩
    have hj : j < a.slots.length := by omega
    have hjj : ((j : Int) + 1 - 1).toNat = j := by omega
    have hd : a.slots.getD j ⟨0, false, nd0⟩ = a.slots[j] := by simp [List.getD, hj]
    have hgj := ok.gen a.slots[j] (List.getElem_mem hj)
    rw [hjj, hd]
    exact put_core w0 W B aa sv fv a ⟨a.most, a.slots, fs⟩ x j H ok.small (by omega) (by show a.slots.length ≤ _; omega) hj (by show 0 ≤ a.slots[j].gen ∧ a.slots[j].gen ≤ _; omega)
      (fun V hV => (next_old w0 V B aa sv fv a fs _ hV ok.small hf).mono fun _ _ ⟨e1, ⟨fv', e2⟩, e3⟩ => ⟨e1, ⟨sv, fv', e2⟩, e3⟩)
theorem put_room {a : Ar N2} {x : N2} : (a.put nd0 x).1.room = a.room - 1 := by
  rcases List.eq_nil_or_concat a.free with hf | ⟨fs, i, hf⟩
  · rw [put_free_nil hf]; simp [Ar.room]; omega
  · rw [List.concat_eq_append] at hf
    rw [put_free_snoc hf]; simp [Ar.room, hf]; omega
theorem put_ok {G : Nat} {a : Ar N2} {x : N2} (ok : ArOk G a) (hr : 0 < a.room) : ArOk (G + 1) (a.put nd0 x).1 := by
  have h1 := ok.small.most
  have h2 := ok.small.slots
  have h3 := ok.small.free
  rcases List.eq_nil_or_concat a.free with hf | ⟨fs, i, hf⟩
  · have hl : a.slots.length < a.most := by
      have : a.room = (a.most : Int) - a.slots.length + a.free.length := rfl
      rw [hf] at this
      simp at this
      omega
    rw [put_free_nil hf]
    refine ⟨⟨h1, by simp; omega, by simp [hf]⟩, by simp [hf], by simp [hf], fun s hs => ?_⟩
    simp only [List.mem_append, List.mem_singleton] at hs
    rcases hs with hs | rfl
    · have := ok.gen s hs; omega
    · exact ⟨by show (0 : Int) ≤ 1; decide, by show (1 : Int) ≤ ((G + 1 : Nat) : Int); omega⟩
  · rw [List.concat_eq_append] at hf
    obtain ⟨i1, i2, _⟩ := ok.free i (by rw [hf]; simp)
    have hn := ok.nodup
    rw [hf] at hn h3
    rw [List.length_append] at h3
    rw [put_free_snoc hf]
    refine ⟨⟨h1, by simpa using h2, by simp at h3 ⊢; omega⟩, fun k hk => ?_, (List.nodup_append.mp hn).1, fun s hs => ?_⟩
    · obtain ⟨k1, k2, k3⟩ := ok.free k (by rw [hf]; simp [hk])
      have hne : k ≠ i := (List.nodup_append.mp hn).2.2 k hk i (by simp)
      refine ⟨k1, by simpa using k2, ?_⟩
      show ((a.slots.set (i - 1).toNat _).getD (k - 1).toNat _).used = false
      rw [List.getD_eq_getElem?_getD, List.getElem?_set_ne (by omega), ← List.getD_eq_getElem?_getD]
      exact k3
    · rcases List.mem_or_eq_of_mem_set hs with hs | rfl
      · have := ok.gen s hs; omega
      · have hj : (i - 1).toNat < a.slots.length := by omega
        have hd : a.slots.getD (i - 1).toNat ⟨0, false, nd0⟩ = a.slots[(i - 1).toNat] := by rw [List.getD_eq_getElem?_getD, List.getElem?_eq_getElem hj]; rfl
        have := ok.gen _ (List.getElem_mem hj)
        dsimp only
        rw [hd]; omega
end Go.Proofs.Ytmhfbpdahfepgaa.Pm
/- Package pmap's store: state, frame, the easy cases. -/
namespace Go.Proofs.Ytmhfbpdahfepgaa.Pm
open Go.RowKit Go.Proofs.YtmhfbpdahfepgaaW.PrintWords
attribute [local go_sem high] eqHd
/-- While a version is stored: the arena, the edit, what is handed out. -/
structure SS (w0 W : World) (B m aa eb ob : Nat) (f gv mv : Value) (a : Ar N2) (made : List Hd) : Prop where
  at_ : ∃ sv fv, AtB w0 W B aa sv fv a
  om : B ≤ ob
  hm : W.heap[m]? = some (.cells #[.pointer (some ⟨aa, 0, none⟩), f] 70 (0, 0))
  he : W.heap[eb]? = some (.cells #[.pointer (some ⟨m, 0, none⟩), gv] 74 (0, 0))
  ho : W.heap[ob]? = some (.cells #[.int .i64 0, .int .i64 0, mv, gv] 39 (0, 0))
  hmade : OwnH W B mv made
theorem SS.below {w0 W W' : World} {B m aa eb ob : Nat} {f gv mv : Value} {a : Ar N2} {made : List Hd} (h : SS w0 W B m aa eb ob f gv mv a made) (hb : Below W.heap.size W W') : SS w0 W' B m aa eb ob f gv mv a made :=
  ⟨by obtain ⟨sv, fv, h⟩ := h.at_; exact ⟨sv, fv, h.below hb⟩, h.om, blk_below h.hm hb, blk_below h.he hb, blk_below h.ho hb, OwnRow.below h.hmade hb⟩
/-- What store leaves as it was: mv, mv' are the row of what was made, ahead and behind. -/
structure FrX (ob : Nat) (mv mv' : Value) (W W' : World) : Prop where
  size : W.heap.size ≤ W'.heap.size
  row : mv'.ownBlock = mv.ownBlock ∨ ∃ b, mv'.ownBlock = some b ∧ W.heap.size ≤ b
  block : ∀ (k : Nat) (cs : Array Value) (t : TypeId), W.heap[k]? = some (.cells cs t (0, 0)) → t ≠ 84 → t ≠ 96 → t ≠ 3 → k ≠ ob → some k ≠ mv.ownBlock → W'.heap[k]? = some (.cells cs t (0, 0))
theorem FrX.refl (ob : Nat) (mv : Value) (W : World) : FrX ob mv mv W W := ⟨Nat.le_refl _, .inl rfl, fun _ _ _ h _ _ _ _ _ => h⟩
theorem FrX.trans {ob : Nat} {mv mv' mv'' : Value} {W W' W'' : World} (h : FrX ob mv mv' W W') (k : FrX ob mv' mv'' W' W'') : FrX ob mv mv'' W W'' :=
  ⟨Nat.le_trans h.size k.size, by
    rcases k.row with e | ⟨b, e, hb⟩
    · rw [e]; exact h.row
    · exact .inr ⟨b, e, Nat.le_trans h.size hb⟩,
   fun j cs t hc h1 h2 h3 h4 h5 => k.block j cs t (h.block j cs t hc h1 h2 h3 h4 h5) h1 h2 h3 h4 (by
    rcases h.row with e | ⟨b, e, hb⟩
    · rw [e]; exact h5
    · rw [e]
      have := blk_lt hc
      intro e2
      injection e2 with e2
      omega)⟩
theorem FrX.below {ob : Nat} {mv : Value} {W W' : World} (h : Below W.heap.size W W') : FrX ob mv mv W W' := ⟨h.size, .inl rfl, fun _ _ _ hc _ _ _ _ _ => blk_below hc h⟩
theorem FrX.fr {ob : Nat} {mv : Value} {W W' : World} (h : Fr W W') : FrX ob mv mv W W' := ⟨h.size, .inl rfl, fun k cs t hc h1 h2 h3 _ _ => h.block k cs t hc h1 h2 h3⟩
/-- A block of another type stays. -/
theorem FrX.typed {w0 : World} {ob B m aa eb : Nat} {f gv mv mv' : Value} {a : Ar N2} {made : List Hd} {W W' : World} (h : FrX ob mv mv' W W') (hs : SS w0 W B m aa eb ob f gv mv a made) {k : Nat} {cs : Array Value} {t : TypeId} (hc : W.heap[k]? = some (.cells cs t (0, 0))) (h1 : t ≠ 84) (h2 : t ≠ 96) (h3 : t ≠ 3) (h4 : t ≠ 39) (h5 : t ≠ 28) : W'.heap[k]? = some (.cells cs t (0, 0)) :=
  h.block k cs t hc h1 h2 h3 (typed_ne hc hs.ho h4) (OwnRow.ne_block hs.hmade hc (Ne.symm h5))
theorem FrX.den {w0 : World} {B0 ob B m aa eb : Nat} {f gv mv mv' : Value} {a a0 : Ar N2} {made : List Hd} {W W' : World} (h : FrX ob mv mv' W W') (hs : SS w0 W B m aa eb ob f gv mv a made) (t : T2) (p : Option Nat) (H : Den B0 W a0 p t) : Den B0 W' a0 p t :=
  den_keep (fun b cs hc => h.typed hs hc (by decide) (by decide) (by decide) (by decide) (by decide)) t p H
/-! ### store, plain -/
theorem store_new {a : Ar N2} {k v : Int} {l r : T2} {hi : Int} : store nd0 a (.node H0 k v l r hi) = (((store nd0 (store nd0 a l).1 r).1.put nd0 ⟨k, v, (store nd0 a l).2.1, (store nd0 (store nd0 a l).1 r).2.1, hi⟩).1, ((store nd0 (store nd0 a l).1 r).1.put nd0 ⟨k, v, (store nd0 a l).2.1, (store nd0 (store nd0 a l).1 r).2.1, hi⟩).2, (store nd0 a l).2.2 ++ (store nd0 (store nd0 a l).1 r).2.2 ++ [((store nd0 (store nd0 a l).1 r).1.put nd0 ⟨k, v, (store nd0 a l).2.1, (store nd0 (store nd0 a l).1 r).2.1, hi⟩).2]) := by
  rw [store, if_pos rfl]
theorem store_old {a : Ar N2} {h : Hd} {k v : Int} {l r : T2} {hi : Int} (hz : h ≠ H0) : store nd0 a (.node h k v l r hi) = (a, h, []) := by
  rw [store, if_neg hz]
theorem store_room : ∀ (t : T2) (a : Ar N2), (store nd0 a t).1.room = a.room - fresh t
  | .leaf, a => by simp [store, fresh]
  | .node h k v l r hi, a => by
    by_cases hz : h = H0
    · subst hz
      rw [store_new, fresh, if_pos rfl]
      dsimp only
      rw [put_room, store_room r, store_room l]
      omega
    · rw [store_old hz, fresh, if_neg hz]
      simp
theorem store_ok : ∀ (t : T2) (a : Ar N2) (G : Nat), ArOk G a → (fresh t : Int) ≤ a.room → ArOk (G + fresh t) (store nd0 a t).1
  | .leaf, a, G, ok, _ => ok
  | .node h k v l r hi, a, G, ok, hr => by
    by_cases hz : h = H0
    · subst hz
      rw [store_new]
      rw [fresh, if_pos rfl] at hr ⊢
      have h1 := store_ok l a G ok (by omega)
      have e1 := store_room l a
      have h2 := store_ok r _ _ h1 (by omega)
      have e2 := store_room r (store nd0 a l).1
      have h3 := put_ok (x := ⟨k, v, (store nd0 a l).2.1, (store nd0 (store nd0 a l).1 r).2.1, hi⟩) h2 (by omega)
      rw [show G + (1 + fresh l + fresh r) = G + fresh l + fresh r + 1 by omega]
      exact h3
    · rw [store_old hz, fresh, if_neg hz]
      exact ok
theorem store_len : ∀ (t : T2) (a : Ar N2), (store nd0 a t).2.2.length = fresh t
  | .leaf, a => rfl
  | .node h k v l r hi, a => by
    by_cases hz : h = H0
    · subst hz
      rw [store_new, fresh, if_pos rfl]
      dsimp only
      rw [List.length_append, List.length_append, store_len l, store_len r, List.length_singleton]
      omega
    · rw [store_old hz, fresh, if_neg hz]
      rfl
def StoreSays (w0 : World) (B0 B m aa eb ob : Nat) (f gv : Value) (a0 : Ar N2) (t : T2) : Prop :=
  ∀ (W : World) (mv : Value) (p : Option Nat) (a : Ar N2) (made : List Hd) (G : Nat), SS w0 W B m aa eb ob f gv mv a made → Den B0 W a0 p t → ArOk G a → G + fresh t ≤ 1000000 → (fresh t : Int) ≤ a.room → made.length + fresh t ≤ 1000000 →
    Calls Try.prog 41 #[.pointer (some ⟨eb, 0, none⟩), .pointer (p.map fun b => ⟨b, 0, none⟩), .pointer (some ⟨ob, 0, none⟩)] W fun e w' => e = .returned (hdV (store nd0 a t).2.1) ∧ ∃ mv', SS w0 w' B m aa eb ob f gv mv' (store nd0 a t).1 (made ++ (store nd0 a t).2.2) ∧ FrX ob mv mv' W w'
theorem store_leaf (w0 : World) (B0 B m aa eb ob : Nat) (f gv : Value) (a0 : Ar N2) : StoreSays w0 B0 B m aa eb ob f gv a0 .leaf := by
  intro W mv p a made G HS hd _ _ _ _
  cases hd
  have HSS := Lib.hid HS
  clear HS
  rw [show store nd0 a (.leaf : T2) = (a, H0, []) from rfl]
  simp only [Option.map_none, List.append_nil, hdV, H0]
  go_enter Try.func41, Try.ntmps41
  go_wp2
  refine (show ∀ V : World, (V.heap[W.heap.size]? = some (.cells #[.int .i64 0, .int .i64 0] 28 (0, 0)) ∧ Below W.heap.size W V) → bodyPost _ _ _ _ _ V from fun V h => ?_) _ ⟨blk_new _ _, (by repeat (first | exact Below.refl _ _ | apply below_drew1 | apply below_alloc | apply pw_below_drewN))⟩
  obtain ⟨hG, hB⟩ := h
  have q0 : V.cell? ⟨W.heap.size, 0, none⟩ = some (.int .i64 0) := blk_cell hG 0
  have q1 : V.cell? ⟨W.heap.size, 1, none⟩ = some (.int .i64 0) := blk_cell hG 1
  have HB := Lib.hid hB
  clear hG hB
  refine bodyPost_ret (by simp [results, Try.results41, go_sem, q0, q1]; try rfl) rfl ?_
  exact ⟨rfl, mv, HSS.out.below HB.out, FrX.below HB.out⟩
theorem store_old_calls (w0 : World) (B0 B m aa eb ob : Nat) (f gv : Value) (a0 : Ar N2) (h : Hd) (k v : Int) (l r : T2) (hi : Int) (hz : h ≠ H0) : StoreSays w0 B0 B m aa eb ob f gv a0 (.node h k v l r hi) := by
  intro W mv p a made G HS hd _ _ _ _
  obtain ⟨b, rfl, _, hlt, c0, c1⟩ := den_head hd
  have hne := hd_ne hz
  have HSS := Lib.hid HS
  rw [store_old hz]
  clear HS hz hd
  simp only [Option.map_some, List.append_nil, hdV]
  go_enter Try.func41, Try.ntmps41
  go_wp2
  refine (show ∀ V : World, (V.heap[W.heap.size]? = some (.cells #[.int .i64 h.s, .int .i64 h.g] 28 (0, 0)) ∧ Below W.heap.size W V) → bodyPost _ _ _ _ _ V from fun V hV => ?_) _ ⟨blk_new _ _, (by repeat (first | exact Below.refl _ _ | apply below_drew1 | apply below_alloc | apply pw_below_drewN))⟩
  obtain ⟨hG, hB⟩ := hV
  have q0 : V.cell? ⟨W.heap.size, 0, none⟩ = some (.int .i64 h.s) := blk_cell hG 0
  have q1 : V.cell? ⟨W.heap.size, 1, none⟩ = some (.int .i64 h.g) := blk_cell hG 1
  have HB := Lib.hid hB
  clear hG hB
  refine bodyPost_ret (by simp [results, Try.results41, go_sem, q0, q1]; try rfl) rfl ?_
  exact ⟨rfl, mv, HSS.out.below HB.out, FrX.below HB.out⟩
end Go.Proofs.Ytmhfbpdahfepgaa.Pm
/- Package pmap's store: a new node. -/
namespace Go.Proofs.Ytmhfbpdahfepgaa.Pm
open Go.RowKit Go.Proofs.YtmhfbpdahfepgaaW.PrintWords
attribute [local go_sem high] eqHd
theorem SS.setN {w0 W : World} {B m aa eb ob n : Nat} {f gv mv : Value} {a : Ar N2} {made : List Hd} {cs : Array Value} (h : SS w0 W B m aa eb ob f gv mv a made) (hb : W.heap[n]? = some (.cells cs 44 (0, 0))) (hB : B ≤ n) (j : Nat) (u : Value) : SS w0 (W.setCell ⟨n, j, none⟩ u) B m aa eb ob f gv mv a made :=
  ⟨by obtain ⟨sv, fv, h⟩ := h.at_; exact ⟨sv, fv, h.set hb (by decide) (by decide) (by decide) hB j u⟩, h.om,
   (Below.heap_setCell W ⟨n, j, none⟩ u m (typed_ne h.hm hb (by decide))).trans h.hm, (Below.heap_setCell W ⟨n, j, none⟩ u eb (typed_ne h.he hb (by decide))).trans h.he, (Below.heap_setCell W ⟨n, j, none⟩ u ob (typed_ne h.ho hb (by decide))).trans h.ho, OwnRow.set_ h.hmade hb (by decide) j u⟩
theorem FrX.new {ob : Nat} {mv mv' : Value} {W V : World} (h : FrX ob mv mv' W V) {b : Nat} (hb : W.heap.size ≤ b) (j : Nat) (u : Value) : FrX ob mv mv' W (V.setCell ⟨b, j, none⟩ u) :=
  ⟨by simpa using h.size, h.row, fun k cs t hc h1 h2 h3 h4 h5 => (Below.heap_setCell V ⟨b, j, none⟩ u k (by have := blk_lt hc; show k ≠ b; omega)).trans (h.block k cs t hc h1 h2 h3 h4 h5)⟩
theorem den_setN {B0 n : Nat} {W : World} {a0 : Ar N2} {cs : Array Value} (hb : W.heap[n]? = some (.cells cs 44 (0, 0))) (j : Nat) (u : Value) {t : T2} {p : Option Nat} (H : Den B0 W a0 p t) : Den B0 (W.setCell ⟨n, j, none⟩ u) a0 p t :=
  den_keep (fun b cs' hc => (Below.heap_setCell W ⟨n, j, none⟩ u b (typed_ne hc hb (by decide))).trans hc) t p H
theorem own_fr {W W' : World} {B size n : Nat} {e : TypeId} {v : Value} {xs : List Value} (h : W.ownsRow B e size v n xs) (hF : Fr W W') (h1 : e ≠ 84) (h2 : e ≠ 96) (h3 : e ≠ 3) : W'.ownsRow B e size v n xs := by
  obtain ⟨hl, h | ⟨g, cap, cur, hv, hg, hc, r⟩⟩ := h
  · exact ⟨hl, .inl h⟩
  · exact ⟨hl, .inr ⟨g, cap, cur, hv, hg, hF.block g cur e hc h1 h2 h3, r⟩⟩
theorem SS.fr {w0 W W' : World} {B m aa eb ob : Nat} {f gv mv sv fv : Value} {a a' : Ar N2} {made : List Hd} (h : SS w0 W B m aa eb ob f gv mv a made) (hF : Fr W W') (hA : AtB w0 W' B aa sv fv a') : SS w0 W' B m aa eb ob f gv mv a' made :=
  ⟨⟨sv, fv, hA⟩, h.om, hF.block _ _ _ h.hm (by decide) (by decide) (by decide), hF.block _ _ _ h.he (by decide) (by decide) (by decide), hF.block _ _ _ h.ho (by decide) (by decide) (by decide), by
    obtain ⟨inner, ho, hr⟩ := h.hmade
    exact ⟨inner, own_fr ho hF (by decide) (by decide) (by decide), hr⟩⟩
theorem own_not {W : World} {B : Nat} {mv : Value} {made : List Hd} (h : OwnH W B mv made) : some W.heap.size ≠ mv.ownBlock := by
  obtain ⟨inner, ho, _⟩ := h
  intro e
  have := (ho.lt W.heap.size e.symm).2
  omega
theorem SS.sz {w0 W : World} {B m aa eb ob : Nat} {f gv mv : Value} {a : Ar N2} {made : List Hd} (h : SS w0 W B m aa eb ob f gv mv a made) : B ≤ W.heap.size := by obtain ⟨_, _, h⟩ := h.at_; exact h.sz
theorem FrX.not {ob : Nat} {mv mv' : Value} {W W' : World} (h : FrX ob mv mv' W W') {b : Nat} (hb : b < W.heap.size) (hn : some b ≠ mv.ownBlock) : some b ≠ mv'.ownBlock := by
  rcases h.row with e | ⟨b', e, hb'⟩
  · rw [e]; exact hn
  · rw [e]
    intro e2
    injection e2 with e2
    omega
/-- A block that isn't the row of what was made, nor the box of what is handed out. -/
theorem FrX.box {w0 : World} {ob B m aa eb : Nat} {f gv mv mv' : Value} {a : Ar N2} {made : List Hd} {W W' : World} (h : FrX ob mv mv' W W') (hs : SS w0 W B m aa eb ob f gv mv a made) {k : Nat} {cs : Array Value} (hc : W.heap[k]? = some (.cells cs 28 (0, 0))) (hn : some k ≠ mv.ownBlock) : W'.heap[k]? = some (.cells cs 28 (0, 0)) ∧ some k ≠ mv'.ownBlock :=
  ⟨h.block k cs _ hc (by decide) (by decide) (by decide) (typed_ne hc hs.ho (by decide)) hn, h.not (blk_lt hc) hn⟩
theorem SS.setH {w0 W : World} {B m aa eb ob n : Nat} {f gv mv : Value} {a : Ar N2} {made : List Hd} {cs : Array Value} (h : SS w0 W B m aa eb ob f gv mv a made) (hb : W.heap[n]? = some (.cells cs 28 (0, 0))) (hB : B ≤ n) (hn : some n ≠ mv.ownBlock) (j : Nat) (u : Value) : SS w0 (W.setCell ⟨n, j, none⟩ u) B m aa eb ob f gv mv a made :=
  ⟨by obtain ⟨sv, fv, h⟩ := h.at_; exact ⟨sv, fv, h.set hb (by decide) (by decide) (by decide) hB j u⟩, h.om,
   blk_far h.hm (typed_ne h.hm hb (by decide)) u, blk_far h.he (typed_ne h.he hb (by decide)) u, blk_far h.ho (typed_ne h.ho hb (by decide)) u, by
    obtain ⟨inner, ho, hr⟩ := h.hmade
    exact ⟨inner, own_setCell ho hn u, hr⟩⟩
theorem SS.out_lt {w0 W : World} {B m aa eb ob : Nat} {f gv mv : Value} {a : Ar N2} {made : List Hd} (h : SS w0 W B m aa eb ob f gv mv a made) {n : Nat} (hn : W.heap.size ≤ n) : some n ≠ mv.ownBlock := by
  obtain ⟨inner, ho, _⟩ := h.hmade
  intro e
  have := (ho.lt n e.symm).2
  omega
/-- One more was made. -/
theorem SS.append {w0 wc w8 : World} {B m aa eb ob : Nat} {f gv mv v8 : Value} {a : Ar N2} {made : List Hd} {h : Hd} (hs : SS w0 wc B m aa eb ob f gv mv a made) (ho : OwnH w8 B v8 (made ++ [h])) (hb : Below B w0 w8) (hg : wc.drew.grownBy w8 mv.ownBlock) (hat : v8.ownBlock = mv.ownBlock ∨ ∃ b, v8.ownBlock = some b ∧ wc.heap.size ≤ b) :
    SS w0 (w8.setCell ⟨ob, 2, none⟩ v8) B m aa eb ob f gv v8 a (made ++ [h]) ∧ FrX ob mv v8 wc (w8.setCell ⟨ob, 2, none⟩ v8) := by
  have kb : ∀ (k : Nat) (cs : Array Value) (t : TypeId), wc.heap[k]? = some (.cells cs t (0, 0)) → some k ≠ mv.ownBlock → w8.heap[k]? = some (.cells cs t (0, 0)) := fun k cs t hc hn => (hg.block k (blk_lt hc) hn).trans hc
  have nH : ∀ {k : Nat} {cs : Array Value} {t : TypeId}, wc.heap[k]? = some (.cells cs t (0, 0)) → 28 ≠ t → w8.heap[k]? = some (.cells cs t (0, 0)) := fun hc ht => kb _ _ _ hc (OwnRow.ne_block hs.hmade hc ht)
  obtain ⟨sv, fv, H⟩ := hs.at_
  obtain ⟨inner, hown, hrep⟩ := H.hs
  obtain ⟨innm, hownm, _⟩ := hs.hmade
  have hz : wc.heap.size ≤ w8.heap.size := hg.size
  have ho8 := nH hs.ho (by decide)
  have A8 : AtB w0 w8 B aa sv fv a := ⟨hb, Nat.le_trans H.sz hz, H.ge, nH H.ha (by decide), ⟨inner, own_other (show wc.drew.ownsRow _ _ _ _ _ _ from hown) hg (own_type_ne hown hownm (by decide)), hrep⟩, own_other (show wc.drew.ownsRow _ _ _ _ _ _ from H.hf) hg (own_type_ne H.hf hownm (by decide))⟩
  exact ⟨⟨⟨sv, fv, A8.set ho8 (by decide) (by decide) (by decide) hs.om 2 v8⟩, hs.om, blk_far (nH hs.hm (by decide)) (typed_ne hs.hm hs.ho (by decide)) _, blk_far (nH hs.he (by decide)) (typed_ne hs.he hs.ho (by decide)) _, blk_put ho8 2 v8 rfl, OwnRow.set_ ho ho8 (by decide) 2 v8⟩,
    ⟨by simpa using hz, hat, fun k cs t hc _ _ _ h4 h5 => blk_far (kb k cs t hc h5) h4 _⟩⟩
set_option maxHeartbeats 16000000 in
theorem store_new_calls (w0 : World) (B0 B m aa eb ob : Nat) (f gv : Value) (a0 : Ar N2) (k v : Int) (l r : T2) (hi : Int) (il : StoreSays w0 B0 B m aa eb ob f gv a0 l) (ir : StoreSays w0 B0 B m aa eb ob f gv a0 r) : StoreSays w0 B0 B m aa eb ob f gv a0 (.node H0 k v l r hi) := by
  intro W mv p a made G HS hd ok hG hr hm
  obtain ⟨b, rfl, _, hlt, c0, c1⟩ := den_head hd
  obtain ⟨b', e, hB, pl, pr, h1, h2, h3⟩ := den_new hd
  cases e
  simp only [H0] at c0 c1
  have c3 : W.cell? ⟨b, 3, none⟩ = some (.int .i64 k) := blk_cell h1 3
  have c4 : W.cell? ⟨b, 4, none⟩ = some (.int .i64 v) := blk_cell h1 4
  have c5 := oc5 h1
  have c6 := oc6 h1
  have c7 : W.cell? ⟨b, 7, none⟩ = some (.int .i64 hi) := blk_cell h1 7
  rw [show fresh (.node H0 k v l r hi : T2) = 1 + fresh l + fresh r by rw [fresh, if_pos rfl]] at hG hr hm
  rw [store_new]
  dsimp only
  have er := store_room l a
  have okl := store_ok l a G ok (by omega)
  have lel := store_len l a
  have er2 := store_room r (store nd0 a l).1
  have okr := store_ok r _ _ okl (by omega)
  have ler := store_len r (store nd0 a l).1
  have HIL := Lib.hid (fun (V : World) (mv : Value) (hs : SS w0 V B m aa eb ob f gv mv a made) (hd : Den B0 V a0 pl l) => il V mv pl a made G hs hd ok (by omega) (by omega) (by omega))
  have HIR := Lib.hid (fun (V : World) (mv : Value) (hs : SS w0 V B m aa eb ob f gv mv (store nd0 a l).1 (made ++ (store nd0 a l).2.2)) (hd : Den B0 V a0 pr r) => ir V mv pr _ _ (G + fresh l) hs hd okl (by omega) (by omega) (by rw [List.length_append]; omega))
  have HPU := Lib.hid (fun (V : World) (sv fv : Value) (x : N2) (hs : AtB w0 V B aa sv fv (store nd0 (store nd0 a l).1 r).1) => arput_calls w0 V B aa sv fv _ x (G + fresh l + fresh r) hs (by omega) okr (by omega))
  have HS0 := Lib.hid HS
  have HI := Lib.hid h1
  have HL := Lib.hid h2
  have HR := Lib.hid h3
  have HB := Lib.hid (Below.refl W.heap.size W)
  have hBW := HS.sz
  have hll : (made ++ (store nd0 a l).2.2 ++ (store nd0 (store nd0 a l).1 r).2.2).length + 1 ≤ 1000000 := by rw [List.length_append, List.length_append]; omega
  clear er okl lel er2 okr ler HS h1 h2 h3 hd il ir ok hG hr hm
  generalize (store nd0 (store nd0 a l).1 r) = SR at *
  generalize (store nd0 a l) = SL at *
  simp only [Option.map_some, hdV] at *
  go_enter Try.func41, Try.ntmps41
  go_wp2
  go_region
  go_wp2_with (first
    | (go_at_call 41; go_loud ((with_reducible refine Calls.mono (HIL.out _ mv (HS0.out.below (by repeat (first | exact Below.refl _ _ | apply below_drew1 | apply below_alloc | apply pw_below_drewN))) ((Ext.below (by repeat (first | exact Below.refl _ _ | apply below_drew1 | apply below_alloc | apply pw_below_drewN))).den _ _ HL.out)) ?_); rintro e w1 ⟨rfl, mv1, hs1, hx1⟩; have hv0 := HS0.out.below (W' := ((W.alloc (.cells #[.int .i64 0, .int .i64 0] 28)).alloc (.cells #[.int .i64 k, .int .i64 v, .int .i64 0, .int .i64 0, .int .i64 0, .int .i64 0, .int .i64 hi] 44)).drew) (by repeat (first | exact Below.refl _ _ | apply below_drew1 | apply below_alloc | apply pw_below_drewN)); have HN1 := Lib.hid (hx1.typed hv0 (k := W.heap.size + 1) (cs := #[.int .i64 k, .int .i64 v, .int .i64 0, .int .i64 0, .int .i64 0, .int .i64 0, .int .i64 hi]) (t := 44) (by have h := blk_new (W.alloc (.cells #[.int .i64 0, .int .i64 0] 28)) (.cells #[.int .i64 k, .int .i64 v, .int .i64 0, .int .i64 0, .int .i64 0, .int .i64 0, .int .i64 hi] 44); rw [World.size_alloc] at h; exact h) (by decide) (by decide) (by decide) (by decide) (by decide)); have HI1 := Lib.hid (hx1.typed hv0 (blk_below HI.out (by repeat (first | exact Below.refl _ _ | apply below_drew1 | apply below_alloc | apply pw_below_drewN))) (by decide) (by decide) (by decide) (by decide) (by decide)); have HR1 := Lib.hid (hx1.den hv0 _ _ ((Ext.below (by repeat (first | exact Below.refl _ _ | apply below_drew1 | apply below_alloc | apply pw_below_drewN))).den _ _ HR.out)); have HRB := Lib.hid (hx1.block W.heap.size #[.int .i64 0, .int .i64 0] 28 (blk_drew (blk_alloc (blk_new _ _) _)) (by decide) (by decide) (by decide) (typed_ne (blk_drew (blk_alloc (blk_new _ _) _)) hv0.ho (by decide)) (own_not HS0.out.hmade)); have HO1 := Lib.hid (show some W.heap.size ≠ mv1.ownBlock by rcases hx1.row with e | ⟨b', e, hb'⟩; (rw [e]; exact own_not HS0.out.hmade); (rw [e]; intro e2; injection e2 with e2; simp [World.size_alloc] at hb'; omega)); have HS1 := Lib.hid hs1; have HX1 := Lib.hid (FrX.trans (FrX.below (W := W) (by repeat (first | exact Below.refl _ _ | apply below_drew1 | apply below_alloc | apply pw_below_drewN))) hx1); have d6 := oc6 HI1.out; have n2 := blk_cell HN1.out 2; have n3 := blk_cell HN1.out 3; have z2 := blk_frozen HN1.out 2; have z3 := blk_frozen HN1.out 3; clear hs1 hx1 hv0))
    | (go_at_call 41; go_loud ((have hv1 := (HS1.out.setN HN1.out (by omega) 2 (.int .i64 SL.2.1.s)).setN (blk_put HN1.out 2 (.int .i64 SL.2.1.s) rfl) (by omega) 3 (.int .i64 SL.2.1.g)); with_reducible refine Calls.mono (HIR.out _ mv1 hv1 (den_setN (blk_put HN1.out 2 (.int .i64 SL.2.1.s) rfl) 3 (.int .i64 SL.2.1.g) (den_setN HN1.out 2 (.int .i64 SL.2.1.s) HR1.out))) ?_; rintro e w2 ⟨rfl, mv2, hs2, hx2⟩; have HX9 := hx2.box hv1 (blk_far (blk_far HRB.out (Nat.ne_of_lt (Nat.lt_succ_self W.heap.size)) (.int .i64 SL.2.1.s)) (Nat.ne_of_lt (Nat.lt_succ_self W.heap.size)) (.int .i64 SL.2.1.g)) HO1.out; have HRB2 := Lib.hid HX9.1; have HO2 := Lib.hid HX9.2; clear HX9; have HN2 := Lib.hid (hx2.typed hv1 (blk_put (blk_put HN1.out 2 (.int .i64 SL.2.1.s) rfl) 3 (.int .i64 SL.2.1.g) rfl) (by decide) (by decide) (by decide) (by decide) (by decide)); have HS2 := Lib.hid hs2; clear hv1; have HX2 := Lib.hid hx2; have n4 := blk_cell HN2.out 4; have n5 := blk_cell HN2.out 5; have z4 := blk_frozen HN2.out 4; have z5 := blk_frozen HN2.out 5; clear hs2 hx2))
    | (fail "no arm"))
  have HNV := Lib.hid (blk_put (blk_put HN2.out 4 (.int .i64 SR.2.1.s) rfl) 5 (.int .i64 SR.2.1.g) rfl)
  have HSV := Lib.hid ((HS2.out.setN HN2.out (by omega) 4 (.int .i64 SR.2.1.s)).setN (blk_put HN2.out 4 (.int .i64 SR.2.1.s) rfl) (by omega) 5 (.int .i64 SR.2.1.g))
  have HXV := Lib.hid (FrX.new (FrX.new (FrX.trans (FrX.new (FrX.new HX1.out (Nat.le_succ W.heap.size) 2 (.int .i64 SL.2.1.s)) (Nat.le_succ W.heap.size) 3 (.int .i64 SL.2.1.g)) HX2.out) (Nat.le_succ W.heap.size) 4 (.int .i64 SR.2.1.s)) (Nat.le_succ W.heap.size) 5 (.int .i64 SR.2.1.g))
  have HRV := Lib.hid (blk_far (blk_far HRB2.out (show W.heap.size ≠ (Addr.mk (W.heap.size + 1) 4 none).block by show W.heap.size ≠ W.heap.size + 1; omega) (.int .i64 SR.2.1.s)) (show W.heap.size ≠ (Addr.mk (W.heap.size + 1) 5 none).block by show W.heap.size ≠ W.heap.size + 1; omega) (.int .i64 SR.2.1.g))
  generalize (World.setCell (World.setCell w2 ⟨W.heap.size + 1, 4, none⟩ (.int .i64 SR.2.1.s)) ⟨W.heap.size + 1, 5, none⟩ (.int .i64 SR.2.1.g)) = V2 at *
  have v0 := blk_cell HNV.out 0
  have v1 := blk_cell HNV.out 1
  have v2 := blk_cell HNV.out 2
  have v3 := blk_cell HNV.out 3
  have v4 := blk_cell HNV.out 4
  have v5 := blk_cell HNV.out 5
  have v6 := blk_cell HNV.out 6
  simp at v0 v1 v2 v3 v4 v5 v6
  have u0 := blk_cell HSV.out.he 0
  have u1 := blk_cell HSV.out.hm 0
  simp at u0 u1
  obtain ⟨sv2, fv2, hat2⟩ := HSV.out.at_
  have HAT := Lib.hid hat2
  clear hat2 HB
  have HB := Lib.hid (Below.refl V2.heap.size V2)
  have hlt1 := blk_lt HNV.out
  have hlt2 := blk_lt HSV.out.he
  have hlt3 := blk_lt HSV.out.hm
  have hB2 := HSV.out.sz
  have HPP := Lib.hid (HPU.out (x := ⟨k, v, SL.2.1, SR.2.1, hi⟩))
  generalize hPE : (SR.1.put nd0 ⟨k, v, SL.2.1, SR.2.1, hi⟩) = PP at *
  have HPE := Lib.hid hPE
  clear hPE
  simp only [hdV, ndV] at HPP
  go_cut [8] from 52 to 64 (fun v wx => ∃ hb sv3 fv3, v = .pointer (some ⟨hb, 0, none⟩) ∧ V2.heap.size ≤ hb ∧ Hid (wx.heap[hb]? = some (.cells #[.int .i64 PP.2.s, .int .i64 PP.2.g] 28 (0, 0))) ∧ Hid (Fr V2 wx) ∧ Hid (AtB w0 wx B aa sv3 fv3 PP.1))
  case first =>
    go_region_with (first
      | (go_at_call 47; go_loud ((refine Calls.mono (HPP.out _ sv2 fv2 (HAT.out.below (by repeat (first | (with_reducible exact HB.out) | apply below_alloc | apply pw_below_drewN | apply below_drew1 | exact HB.out)))) ?_); rintro e w3 ⟨rfl, ⟨sv3, fv3, hat3⟩, hfr⟩; have HA3 := Lib.hid hat3; have HF3 := Lib.hid (Fr.trans (Fr.below (W := V2) (by repeat (first | (with_reducible exact HB.out) | apply below_alloc | apply pw_below_drewN | apply below_drew1 | exact HB.out))) hfr); (try (have G := Lib.hid (show w3.heap[V2.heap.size]? = some (.cells #[.int .i64 0, .int .i64 0] 28 (0, 0)) by refine hfr.block _ _ _ ?_ (by decide) (by decide) (by decide); exact blk_new V2 _); have p0 := blk_cell G.out 0; have p1 := blk_cell G.out 1; have z0 := blk_frozen G.out 0; have z1 := blk_frozen G.out 1)); clear hat3 hfr))
      | (fail "no arm"))
    all_goals
      go_wp2
      go_meet
      first
        | exact ⟨w3.heap.size, sv3, fv3, rfl, HF3.out.size, Lib.hid (blk_new _ _), Lib.hid (HF3.out.trans (Fr.below (below_alloc (Below.refl _ _) _))), Lib.hid (HA3.out.below (below_alloc (Below.refl _ _) _))⟩
        | exact ⟨V2.heap.size, sv3, fv3, rfl, Nat.le_refl _, Lib.hid (blk_put (blk_put G.out 0 (.int .i64 PP.2.s) rfl) 1 (.int .i64 PP.2.g) rfl), Lib.hid (Fr.new (Fr.new HF3.out (Nat.le_refl _) 0 _) (Nat.le_refl _) 1 _), Lib.hid (AtB.set (AtB.set HA3.out G.out (by decide) (by decide) (by decide) hB2 0 (.int .i64 PP.2.s)) (blk_put G.out 0 (.int .i64 PP.2.s) rfl) (by decide) (by decide) (by decide) hB2 1 (.int .i64 PP.2.g))⟩
  case rest =>
    obtain ⟨hbk, sv3, fv3, rfl, hge, HRC, HFC, HAC⟩ := hcut
    have HSC := Lib.hid (HSV.out.fr HFC.out HAC.out)
    have HXC := Lib.hid (FrX.trans HXV.out (FrX.fr (mv := mv2) HFC.out))
    have HBC := Lib.hid (HFC.out.block _ _ _ HRV.out (by decide) (by decide) (by decide))
    have HM2 := Lib.hid HSC.out.hmade
    clear HB
    have HB := Lib.hid HAC.out.bel
    have hsz := HAC.out.sz
    have HOE := Lib.hid HSC.out.ho
    have g2 := blk_cell HOE.out 2
    have p0 := blk_cell HRC.out 0
    have p1 := blk_cell HRC.out 1
    simp at g2 p0 p1
    have hne2 := Lib.hid (OwnRow.ne_block HM2.out HOE.out (by decide))
    have hne3 := Lib.hid (typed_ne HRC.out HOE.out (by decide))
    have hlto := blk_lt HOE.out
    generalize hMD : made ++ SL.2.2 ++ SR.2.2 = MD at *
    have HMD := Lib.hid hMD
    clear hMD
    obtain ⟨A2, c2, rfl, _⟩ := OwnRow.slice_ HM2.out
    go_wp2
    go_region_law (go_loud ((refine OwnRow.append_step (R := fun h cs => cs = hdC h) (w0 := w0) (W := wc.drew) B rfl (.tmp 68) (.tmp 70) 32 28 _ 2 16 rfl Try.underlying32 hdInfo rfl (by decide) (by decide) _ MD PP.2 [.int .i64 PP.2.s, .int .i64 PP.2.g] (by rfl) (by simp [Act.eval, World.size_alloc]) rfl rfl (by simp [Value.oneCell']) HM2.out (below_drew1 HB.out) hsz ?hl ?_; (case hl => omega); intro v8 w8 ho hb hg hat; obtain ⟨A8, c8, rfl, _⟩ := OwnRow.slice_ ho; have HO8 := Lib.hid ho; have HB8 := Lib.hid hb; have HG8 := Lib.hid hg; have HT8 := Lib.hid hat; have HE8 := Lib.hid (show w8.heap[ob]? = _ from (hg.block ob (by simpa using hlto) hne2.out).trans HOE.out); have z1 := blk_frozen HE8.out 2; have k1 := blk_cell HE8.out 2; simp at k1; clear ho hb hg hat)))
    all_goals
      have hS9 := SS.append HSC.out HO8.out HB8.out HG8.out HT8.out
      rw [show (MD ++ [PP.2]).length = MD.length + 1 by rw [List.length_append, List.length_singleton]] at hS9
      have HS9 := Lib.hid hS9.1
      have HX9 := Lib.hid (HXC.out.trans hS9.2)
      have HR9 := Lib.hid (blk_far ((HG8.out.block hbk (blk_lt HRC.out) (HSV.out.out_lt hge)).trans HRC.out) (show hbk ≠ (Addr.mk ob 2 none).block from hne3.out) (.slice A8 (MD.length + 1) c8))
      have HY9 := Lib.hid (hS9.2.box HSC.out HBC.out HO2.out)
      clear hS9
      generalize (w8.setCell ⟨ob, 2, none⟩ (.slice A8 (MD.length + 1) c8)) = V9 at *
      have r0 := blk_cell HR9.out 0
      have r1 := blk_cell HR9.out 1
      have z0 := blk_frozen HY9.out.1 0
      have z1 := blk_frozen HY9.out.1 1
      have y0 := blk_cell HY9.out.1 0
      have y1 := blk_cell HY9.out.1 1
      simp at r0 r1 y0 y1
      have hltr := blk_lt HY9.out.1
      clear k1 g2 p0 p1 v0 v1 v2 v3 v4 v5 v6 u0 u1 d6 n2 n3 n4 n5
      go_wp2
      refine (show ∀ V : World, (V.heap[W.heap.size]? = some (.cells #[.int .i64 PP.2.s, .int .i64 PP.2.g] 28 (0, 0)) ∧ SS w0 V B m aa eb ob f gv (.slice A8 (MD.length + 1) c8) PP.1 (MD ++ [PP.2]) ∧ FrX ob mv (.slice A8 (MD.length + 1) c8) W V) → bodyPost _ _ _ _ _ V from fun V hV => ?_) _ ⟨blk_put (blk_put HY9.out.1 0 (.int .i64 PP.2.s) rfl) 1 (.int .i64 PP.2.g) rfl, (HS9.out.setH HY9.out.1 hBW HY9.out.2 0 (.int .i64 PP.2.s)).setH (blk_put HY9.out.1 0 (.int .i64 PP.2.s) rfl) hBW HY9.out.2 1 (.int .i64 PP.2.g), FrX.new (FrX.new HX9.out (Nat.le_refl _) 0 (.int .i64 PP.2.s)) (Nat.le_refl _) 1 (.int .i64 PP.2.g)⟩
      obtain ⟨hG, hS, hX⟩ := hV
      have q0 : V.cell? ⟨W.heap.size, 0, none⟩ = some (.int .i64 PP.2.s) := blk_cell hG 0
      have q1 : V.cell? ⟨W.heap.size, 1, none⟩ = some (.int .i64 PP.2.g) := blk_cell hG 1
      have HS' := Lib.hid hS
      have HX' := Lib.hid hX
      clear hG hS hX
      refine bodyPost_ret (by simp [results, Try.results41, go_sem, q0, q1]; try rfl) rfl ?_
      rw [HPE.out, show made ++ (SL.2.2 ++ SR.2.2 ++ [PP.2]) = MD ++ [PP.2] by rw [← HMD.out]; simp only [List.append_assoc]]
      exact ⟨rfl, _, HS'.out, HX'.out⟩
theorem store_calls (w0 : World) (B0 B m aa eb ob : Nat) (f gv : Value) (a0 : Ar N2) : ∀ t : T2, StoreSays w0 B0 B m aa eb ob f gv a0 t
  | .leaf => store_leaf w0 B0 B m aa eb ob f gv a0
  | .node h k v l r hi => by
    by_cases hz : h = H0
    · subst hz
      exact store_new_calls w0 B0 B m aa eb ob f gv a0 k v l r hi (store_calls w0 B0 B m aa eb ob f gv a0 l) (store_calls w0 B0 B m aa eb ob f gv a0 r)
    · exact store_old_calls w0 B0 B m aa eb ob f gv a0 h k v l r hi hz
end Go.Proofs.Ytmhfbpdahfepgaa.Pm
/- Package pmap's finish, Map.Put, Map.Del. -/
namespace Go.Proofs.Ytmhfbpdahfepgaa.Pm
open Go.RowKit Go.Proofs.YtmhfbpdahfepgaaW.PrintWords
attribute [local go_sem high] eqHd
/-- A map in block m, behind B; since w0 nothing ahead of B was changed. -/
structure MapB (w0 W : World) (B m aa : Nat) (a : Ar N2) : Prop where
  at_ : ∃ sv fv, AtB w0 W B aa sv fv a
  hm : W.heap[m]? = some (.cells #[.pointer (some ⟨aa, 0, none⟩), cmpF] 70 (0, 0))
  bm : B ≤ m
theorem MapB.below {w0 W W' : World} {B m aa : Nat} {a : Ar N2} (h : MapB w0 W B m aa a) (hb : Below W.heap.size W W') : MapB w0 W' B m aa a :=
  ⟨by obtain ⟨sv, fv, h⟩ := h.at_; exact ⟨sv, fv, h.below hb⟩, blk_below h.hm hb, h.bm⟩
theorem MapB.bel {w0 W : World} {B m aa : Nat} {a : Ar N2} (h : MapB w0 W B m aa a) : Below B w0 W := by obtain ⟨_, _, h⟩ := h.at_; exact h.bel
theorem MapB.sz {w0 W : World} {B m aa : Nat} {a : Ar N2} (h : MapB w0 W B m aa a) : B ≤ W.heap.size := by obtain ⟨_, _, h⟩ := h.at_; exact h.sz
theorem MapB.drew {w0 W : World} {B m aa : Nat} {a : Ar N2} (h : MapB w0 W B m aa a) (n : Nat) : MapB w0 (W.drewN n) B m aa a := h.below (pw_below_drewN (Below.refl _ _) n)
theorem own_low {W : World} {B B' size n : Nat} {e : TypeId} {v : Value} {xs : List Value} (h : W.ownsRow B e size v n xs) (hb : B' ≤ B) : W.ownsRow B' e size v n xs := by
  obtain ⟨hl, h | ⟨g, cap, cur, hv, hg, hc, r⟩⟩ := h
  · exact ⟨hl, .inl h⟩
  · exact ⟨hl, .inr ⟨g, cap, cur, hv, Nat.le_trans hb hg, hc, r⟩⟩
theorem MapB.mapAt {w0 W : World} {B m aa : Nat} {a : Ar N2} (h : MapB w0 W B m aa a) : ∃ sv fv, MapAt W m aa cmpF sv fv a := by
  obtain ⟨sv, fv, H⟩ := h.at_
  refine ⟨sv, fv, h.hm, H.ha, ?_, own_low H.hf (Nat.zero_le _)⟩
  obtain ⟨inner, ho, hr⟩ := H.hs
  exact ⟨inner, own_low ho (Nat.zero_le _), hr⟩
theorem mroom_calls (w0 W : World) (B m aa : Nat) (a : Ar N2) (H : MapB w0 W B m aa a) (hs : Small a) :
    Calls Try.prog 20 #[.pointer (some ⟨m, 0, none⟩)] W fun e w' => e = .returned (.int .i64 a.room) ∧ ∃ n, w' = W.drewN n := by
  have c0 : W.cell? ⟨m, 0, none⟩ = some (.pointer (some ⟨aa, 0, none⟩)) := blk_cell H.hm 0
  obtain ⟨sv, fv, h⟩ := H.at_
  have HR := Lib.hid (room_calls w0 W B aa sv fv a h hs)
  clear h H hs
  generalize a.room = R at *
  go_enter Try.func20, Try.ntmps20
  go_wp2_with (first
    | (go_at_call 36; go_loud ((with_reducible refine Calls.mono HR.out ?_); rintro e w1 ⟨rfl, n, rfl⟩))
    | (fail "no arm"))
  go_ret
  exact ⟨rfl, n, rfl⟩
theorem alive_calls (w0 W : World) (B aa : Nat) (sv fv : Value) (a : Ar N2) (H : AtB w0 W B aa sv fv a) (hs : Small a) :
    Calls Try.prog 34 #[.pointer (some ⟨aa, 0, none⟩)] W fun e w' => e = .returned (.int .i64 (a.most - a.room)) ∧ ∃ n, w' = W.drewN n := by
  have c0 : W.cell? ⟨aa, 0, none⟩ = some (.int .i64 a.most) := blk_cell H.ha 0
  have HR := Lib.hid (fun (n : Nat) => Calls.quiet_of (room_calls w0 (W.drewN n) B aa sv fv a (H.below (pw_below_drewN (Below.refl _ _) n)) hs))
  have e1 : IntKind.i64.wrap ((a.most : Int) - a.room) = (a.most : Int) - a.room := by
    obtain ⟨h1, h2, h3⟩ := hs
    rw [IntKind.wrap_i64]
    unfold Ar.room
    omega
  clear H hs
  generalize a.room = R at *
  generalize a.most = M at *
  go_enter Try.func34, Try.ntmps34
  go_wp2
  go_quiet ((go_at_call 36; with_reducible exact HR.out _))
  go_wp2
  go_ret
  exact ⟨rfl, _, rfl⟩
theorem mlive_calls (w0 W : World) (B m aa : Nat) (a : Ar N2) (H : MapB w0 W B m aa a) (hs : Small a) :
    Calls Try.prog 17 #[.pointer (some ⟨m, 0, none⟩)] W fun e w' => e = .returned (.int .i64 (a.most - a.room)) ∧ ∃ n, w' = W.drewN n := by
  have c0 : W.cell? ⟨m, 0, none⟩ = some (.pointer (some ⟨aa, 0, none⟩)) := blk_cell H.hm 0
  obtain ⟨sv, fv, h⟩ := H.at_
  have HR := Lib.hid (alive_calls w0 W B aa sv fv a h hs)
  clear h H hs
  generalize a.room = R at *
  go_enter Try.func17, Try.ntmps17
  go_wp2_with (first
    | (go_at_call 34; go_loud ((with_reducible refine Calls.mono HR.out ?_); rintro e w1 ⟨rfl, n, rfl⟩))
    | (fail "no arm"))
  go_ret
  exact ⟨rfl, n, rfl⟩
end Go.Proofs.Ytmhfbpdahfepgaa.Pm
/- Package pmap's finish. -/
namespace Go.Proofs.Ytmhfbpdahfepgaa.Pm
open Go.RowKit Go.Proofs.YtmhfbpdahfepgaaW.PrintWords
attribute [local go_sem high] eqHd
theorem alloc_at {V : World} {n : Nat} {o : Obj} (h : V.heap.size = n) : (V.alloc o).heap[n]? = some o := by subst h; exact blk_new V o
theorem SS.bel {w0 W : World} {B m aa eb ob : Nat} {f gv mv : Value} {a : Ar N2} {made : List Hd} (h : SS w0 W B m aa eb ob f gv mv a made) : Below B w0 W := by obtain ⟨_, _, h⟩ := h.at_; exact h.bel
/-- What finish hands out. -/
structure FS (w0 W : World) (B m aa : Nat) (gv mv : Value) (a : Ar N2) (made g : List Hd) : Prop where
  mb : MapB w0 W B m aa a
  hmade : OwnH W B mv made
  hgone : OwnH W B gv g
theorem FS.setE {w0 W : World} {B m aa n : Nat} {gv mv : Value} {a : Ar N2} {made g : List Hd} {cs : Array Value} (h : FS w0 W B m aa gv mv a made g) (hb : W.heap[n]? = some (.cells cs 39 (0, 0))) (hB : B ≤ n) (j : Nat) (u : Value) : FS w0 (W.setCell ⟨n, j, none⟩ u) B m aa gv mv a made g :=
  ⟨⟨by obtain ⟨sv, fv, h⟩ := h.mb.at_; exact ⟨sv, fv, h.set hb (by decide) (by decide) (by decide) hB j u⟩, blk_far h.mb.hm (typed_ne h.mb.hm hb (by decide)) u, h.mb.bm⟩,
   OwnRow.set_ h.hmade hb (by decide) j u, OwnRow.set_ h.hgone hb (by decide) j u⟩
theorem FS.below {w0 W W' : World} {B m aa : Nat} {gv mv : Value} {a : Ar N2} {made g : List Hd} (h : FS w0 W B m aa gv mv a made g) (hb : Below W.heap.size W W') : FS w0 W' B m aa gv mv a made g := ⟨h.mb.below hb, OwnRow.below h.hmade hb, OwnRow.below h.hgone hb⟩
theorem Fr.of {W W' : World} {ob : Nat} {mv mv' : Value} {w0 : World} {B : Nat} (h : FrX ob mv mv' W W') (h1 : Below B w0 W) (h2 : Below B w0 W') {V : World} (hV : Below V.heap.size V W) (ho : V.heap.size ≤ ob) (hm : mv.ownBlock = none) : Fr V W' :=
  ⟨h2.os.trans (h1.os.symm.trans hV.os), h2.tape.trans (h1.tape.symm.trans hV.tape), h2.output.trans (h1.output.symm.trans hV.output), Nat.le_trans hV.size h.size, fun k cs t hc x1 x2 x3 => h.block k cs t (blk_below hc hV) x1 x2 x3 (by have := blk_lt hc; omega) (by rw [hm]; exact fun e => by injection e)⟩
theorem Fr.blk {W W' : World} (h : Fr W W') {b : Nat} {cs : Array Value} {t : TypeId} (hc : W.heap[b]? = some (.cells cs t (0, 0))) (h1 : t ≠ 84 := by decide) (h2 : t ≠ 96 := by decide) (h3 : t ≠ 3 := by decide) : W'.heap[b]? = some (.cells cs t (0, 0)) := h.block b cs t hc h1 h2 h3
theorem OwnH.fr {W W' : World} {B : Nat} {v : Value} {l : List Hd} (h : OwnH W B v l) (hF : Fr W W') : OwnH W' B v l := by
  obtain ⟨inner, ho, hr⟩ := h
  exact ⟨inner, own_fr ho hF (by decide) (by decide) (by decide), hr⟩
theorem nilH (W : World) (B : Nat) : OwnH W B (.slice none 0 0) [] := ⟨[], ⟨rfl, .inl ⟨rfl, rfl⟩⟩, Reps.none _ _⟩
def edV (root : Hd) (mv gv : Value) : Value := .agg #[.int .i64 root.s, .int .i64 root.g, mv, gv]
/-- finish, where there is room. -/
def FinOut (w0 W : World) (B m aa : Nat) (a' : Ar N2) (root : Hd) (made g : List Hd) (e : Ending) (w' : World) : Prop :=
  ∃ mv gv, e = .returned (.tuple #[edV root mv gv, .bool true]) ∧ FS w0 w' B m aa gv mv a' made g ∧ Fr W w'
set_option maxHeartbeats 4000000 in
theorem finish_calls (w0 W : World) (B B0 m aa eb : Nat) (a a0 : Ar N2) (t : T2) (p : Option Nat) (g : List Hd) (gv : Value) (G : Nat) (HM : MapB w0 W B m aa a) (he : W.heap[eb]? = some (.cells #[.pointer (some ⟨m, 0, none⟩), gv] 74 (0, 0))) (hg : OwnH W B gv g)
    (hd : Den B0 W a0 p t) (ok : ArOk G a) (hG : G + fresh t ≤ 1000000) (hr : (fresh t : Int) ≤ a.room) :
    Calls Try.prog 31 #[.pointer (some ⟨m, 0, none⟩), .pointer (some ⟨eb, 0, none⟩), .pointer (p.map fun b => ⟨b, 0, none⟩)] W (FinOut w0 W B m aa (store nd0 a t).1 (store nd0 a t).2.1 (store nd0 a t).2.2 g) := by
  obtain ⟨Ag, cg, rfl, _⟩ := OwnRow.slice_ hg
  generalize g.length = lg at *
  have e1 : W.cell? ⟨eb, 1, none⟩ = some (.slice Ag lg cg) := blk_cell he 1
  have hlt := blk_lt he
  have HFR := Lib.hid (fun (V : World) (hb : Below W.heap.size W V) => fresh_calls B0 eb a0 t V p ((Ext.below hb).den _ _ hd) (by omega))
  have HRM := Lib.hid (fun (V : World) (hb : Below W.heap.size W V) => mroom_calls w0 V B m aa a (HM.below hb) ok.small)
  have HST := Lib.hid (fun (V : World) (ob : Nat) (hs : SS w0 V B m aa eb ob cmpF (.slice Ag lg cg) (.slice none 0 0) a []) (hb : Below W.heap.size W V) => store_calls w0 B0 B m aa eb ob cmpF (.slice Ag lg cg) a0 t V (.slice none 0 0) p a [] G hs ((Ext.below hb).den _ _ hd) ok hG hr (by show 0 + _ ≤ _; omega))
  have HM0 := Lib.hid HM
  have HE0 := Lib.hid he
  have HG0 := Lib.hid hg
  have hsz := HM.sz
  have HBB := Lib.hid HM.bel
  have hq : decide (a.room < (fresh t : Int)) = false := decide_eq_false (by omega)
  clear HM he hg hd hG ok hr
  generalize (store nd0 a t) = ST at *
  generalize a.room = R at *
  generalize (fresh t : Int) = F at *
  simp only [hdV] at HST
  go_enter Try.func31, Try.ntmps31
  go_wp2_with (first
    | (go_at_call 40; go_loud ((with_reducible refine Calls.mono (HFR.out _ (by repeat (first | exact Below.refl _ _ | apply below_drew1 | apply below_alloc | apply pw_below_drewN))) ?_); rintro e w1 ⟨rfl, n1, rfl⟩))
    | (go_at_call 20; go_loud ((with_reducible refine Calls.mono (HRM.out _ (by repeat (first | exact Below.refl _ _ | apply below_drew1 | apply below_alloc | apply pw_below_drewN))) ?_); rintro e w1 ⟨rfl, n2, rfl⟩))
    | (go_at_call 41; go_loud (
        (have hb1 : Below W.heap.size W (((W.alloc (Obj.cells #[.int .i64 0, .int .i64 0, .slice none 0 0, .slice none 0 0] 39 (0, 0))).drewN (n1 + n2)).alloc (Obj.cells #[.int .i64 0, .int .i64 0, .slice none 0 0, .slice Ag lg cg] 39 (0, 0))) := (by repeat (first | exact Below.refl _ _ | apply below_drew1 | apply below_alloc | apply pw_below_drewN)));
        (have hbx : (((W.alloc (Obj.cells #[.int .i64 0, .int .i64 0, .slice none 0 0, .slice none 0 0] 39 (0, 0))).drewN (n1 + n2)).alloc (Obj.cells #[.int .i64 0, .int .i64 0, .slice none 0 0, .slice Ag lg cg] 39 (0, 0))).heap[W.heap.size]? = some (Obj.cells #[.int .i64 0, .int .i64 0, .slice none 0 0, .slice none 0 0] 39 (0, 0)) := blk_below (blk_new W _) (by repeat (first | exact Below.refl _ _ | apply below_drew1 | apply below_alloc | apply pw_below_drewN)));
        (have hob : (((W.alloc (Obj.cells #[.int .i64 0, .int .i64 0, .slice none 0 0, .slice none 0 0] 39 (0, 0))).drewN (n1 + n2)).alloc (Obj.cells #[.int .i64 0, .int .i64 0, .slice none 0 0, .slice Ag lg cg] 39 (0, 0))).heap[W.heap.size + 1]? = some (Obj.cells #[.int .i64 0, .int .i64 0, .slice none 0 0, .slice Ag lg cg] 39 (0, 0)) := alloc_at (by simp));
        (have hs0 : SS w0 (((W.alloc (Obj.cells #[.int .i64 0, .int .i64 0, .slice none 0 0, .slice none 0 0] 39 (0, 0))).drewN (n1 + n2)).alloc (Obj.cells #[.int .i64 0, .int .i64 0, .slice none 0 0, .slice Ag lg cg] 39 (0, 0))) B m aa eb (W.heap.size + 1) cmpF (.slice Ag lg cg) (.slice none 0 0) a [] := ⟨(HM0.out.below hb1).at_, by omega, (HM0.out.below hb1).hm, blk_below HE0.out hb1, hob, nilH _ _⟩);
        (with_reducible refine Calls.mono (HST.out _ _ hs0 hb1) ?_); rintro e w2 ⟨rfl, mv, hs, hx⟩; rw [List.nil_append] at hs;
        have HF2 := Lib.hid (Fr.of hx hs0.bel hs.bel hb1 (Nat.le_succ _) rfl);
        have HRB := Lib.hid (hx.block _ _ _ hbx (by decide) (by decide) (by decide) (Nat.ne_of_lt (Nat.lt_succ_self _)) (fun e => by injection e));
        have HFS := Lib.hid (show FS w0 w2 B m aa (.slice Ag lg cg) mv ST.1 ST.2.2 g from ⟨⟨hs.at_, hs.hm, HM0.out.bm⟩, hs.hmade, HG0.out.fr (Fr.of hx hs0.bel hs.bel hb1 (Nat.le_succ _) rfl)⟩);
        obtain ⟨Am, cm, rfl, _⟩ := OwnRow.slice_ hs.hmade;
        have HOB := Lib.hid hs.ho;
        have o0 := blk_cell hs.ho 0; have o1 := blk_cell hs.ho 1; have o2 := blk_cell hs.ho 2; have o3 := blk_cell hs.ho 3;
        have zo0 := blk_frozen hs.ho 0; have zo1 := blk_frozen hs.ho 1;
        have b0 := blk_cell HRB.out 0; have b1 := blk_cell HRB.out 1; have b2 := blk_cell HRB.out 2; have b3 := blk_cell HRB.out 3;
        have zb0 := blk_frozen HRB.out 0; have zb1 := blk_frozen HRB.out 1; have zb2 := blk_frozen HRB.out 2; have zb3 := blk_frozen HRB.out 3;
        simp at o0 o1 o2 o3 b0 b1 b2 b3;
        clear hb1 hbx hob hs0 hs hx))
    | (fail "no arm"))
  have HR1 := Lib.hid (blk_far (blk_far HRB.out (Nat.ne_of_lt (Nat.lt_succ_self W.heap.size)) (.int .i64 ST.2.1.s) : (w2.setCell ⟨W.heap.size + 1, 0, none⟩ (.int .i64 ST.2.1.s)).heap[W.heap.size]? = _) (Nat.ne_of_lt (Nat.lt_succ_self W.heap.size)) (.int .i64 ST.2.1.g) : ((w2.setCell ⟨W.heap.size + 1, 0, none⟩ (.int .i64 ST.2.1.s)).setCell ⟨W.heap.size + 1, 1, none⟩ (.int .i64 ST.2.1.g)).heap[W.heap.size]? = _)
  have HFS1 := Lib.hid ((HFS.out.setE HOB.out (Nat.le_succ_of_le hsz) 0 (.int .i64 ST.2.1.s)).setE (blk_put HOB.out 0 (.int .i64 ST.2.1.s) rfl) (Nat.le_succ_of_le hsz) 1 (.int .i64 ST.2.1.g))
  have HF1 := Lib.hid (Fr.new (Fr.new HF2.out (Nat.le_succ W.heap.size) 0 (.int .i64 ST.2.1.s)) (Nat.le_succ W.heap.size) 1 (.int .i64 ST.2.1.g))
  generalize ((w2.setCell ⟨W.heap.size + 1, 0, none⟩ (.int .i64 ST.2.1.s)).setCell ⟨W.heap.size + 1, 1, none⟩ (.int .i64 ST.2.1.g)) = V1 at *
  have HR2 := Lib.hid (blk_put (blk_put (blk_put (blk_put HR1.out 0 (.int .i64 ST.2.1.s) rfl) 1 (.int .i64 ST.2.1.g) rfl) 2 (.slice Am ST.2.2.length cm) rfl) 3 (.slice Ag lg cg) rfl)
  have HFS2 := Lib.hid ((((HFS1.out.setE HR1.out hsz 0 (.int .i64 ST.2.1.s)).setE (blk_put HR1.out 0 (.int .i64 ST.2.1.s) rfl) hsz 1 (.int .i64 ST.2.1.g)).setE (blk_put (blk_put HR1.out 0 (.int .i64 ST.2.1.s) rfl) 1 (.int .i64 ST.2.1.g) rfl) hsz 2 (.slice Am ST.2.2.length cm)).setE (blk_put (blk_put (blk_put HR1.out 0 (.int .i64 ST.2.1.s) rfl) 1 (.int .i64 ST.2.1.g) rfl) 2 (.slice Am ST.2.2.length cm) rfl) hsz 3 (.slice Ag lg cg))
  have HF3 := Lib.hid (Fr.new (Fr.new (Fr.new (Fr.new HF1.out (Nat.le_refl _) 0 (.int .i64 ST.2.1.s)) (Nat.le_refl _) 1 (.int .i64 ST.2.1.g)) (Nat.le_refl _) 2 (.slice Am ST.2.2.length cm)) (Nat.le_refl _) 3 (.slice Ag lg cg))
  generalize ((((V1.setCell ⟨W.heap.size, 0, none⟩ (.int .i64 ST.2.1.s)).setCell ⟨W.heap.size, 1, none⟩ (.int .i64 ST.2.1.g)).setCell ⟨W.heap.size, 2, none⟩ (.slice Am ST.2.2.length cm)).setCell ⟨W.heap.size, 3, none⟩ (.slice Ag lg cg)) = V2 at *
  have q0 : V2.cell? ⟨W.heap.size, 0, none⟩ = some (.int .i64 ST.2.1.s) := blk_cell HR2.out 0
  have q1 : V2.cell? ⟨W.heap.size, 1, none⟩ = some (.int .i64 ST.2.1.g) := blk_cell HR2.out 1
  have q2 : V2.cell? ⟨W.heap.size, 2, none⟩ = some (.slice Am ST.2.2.length cm) := blk_cell HR2.out 2
  have q3 : V2.cell? ⟨W.heap.size, 3, none⟩ = some (.slice Ag lg cg) := blk_cell HR2.out 3
  refine bodyPost_ret (v := .tuple #[edV ST.2.1 (.slice Am ST.2.2.length cm) (.slice Ag lg cg), .bool true]) (by simp [results, Try.results31, edV, go_sem, q0, q1, q2, q3]; try rfl) rfl ?_
  exact ⟨_, _, rfl, HFS2.out, HF3.out⟩
end Go.Proofs.Ytmhfbpdahfepgaa.Pm
/- Package pmap's Map.Put. -/
namespace Go.Proofs.Ytmhfbpdahfepgaa.Pm
open Go.RowKit Go.Proofs.YtmhfbpdahfepgaaW.PrintWords
attribute [local go_sem high] eqHd
theorem FrX.typedF {W W' : World} (h : Fr W W') {k : Nat} {cs : Array Value} {t : TypeId} (hc : W.heap[k]? = some (.cells cs t (0, 0))) (h1 : t ≠ 84 := by decide) (h2 : t ≠ 96 := by decide) (h3 : t ≠ 3 := by decide) : W'.heap[k]? = some (.cells cs t (0, 0)) := h.block k cs t hc h1 h2 h3
/-- What an edit hands out is stored into the result's box. -/
theorem FS.box {w0 w2 W : World} {B m aa n : Nat} {gv mv : Value} {a : Ar N2} {made g : List Hd} {root : Hd} (h : FS w0 w2 B m aa gv mv a made g) (hr : w2.heap[n]? = some (Obj.cells #[.int .i64 0, .int .i64 0, .slice none 0 0, .slice none 0 0] 39 (0, 0))) (hB : B ≤ n) (hF : Fr W w2) (hn : W.heap.size ≤ n) :
    let V := (((w2.setCell ⟨n, 0, none⟩ (.int .i64 root.s)).setCell ⟨n, 1, none⟩ (.int .i64 root.g)).setCell ⟨n, 2, none⟩ mv).setCell ⟨n, 3, none⟩ gv
    V.heap[n]? = some (.cells #[.int .i64 root.s, .int .i64 root.g, mv, gv] 39 (0, 0)) ∧ FS w0 V B m aa gv mv a made g ∧ Fr W V := by
  intro V
  have k0 := blk_put hr 0 (.int .i64 root.s) rfl
  have k1 := blk_put k0 1 (.int .i64 root.g) rfl
  have k2 := blk_put k1 2 mv rfl
  exact ⟨blk_put k2 3 gv rfl, (((h.setE hr hB 0 _).setE k0 hB 1 _).setE k1 hB 2 _).setE k2 hB 3 _, Fr.new (Fr.new (Fr.new (Fr.new hF hn 0 _) hn 1 _) hn 2 _) hn 3 _⟩
theorem OwnH.low {W : World} {B B' : Nat} {v : Value} {l : List Hd} (h : OwnH W B v l) (hb : B' ≤ B) : OwnH W B' v l := by
  obtain ⟨inner, ho, hr⟩ := h
  exact ⟨inner, own_low ho hb, hr⟩
theorem St.sz {w0 W : World} {eb m : Nat} {g : List Hd} (h : St w0 W eb m g) : w0.heap.size ≤ W.heap.size := h.bel.size
theorem put_of (V0 V : World) (m aa eb : Nat) (a : Ar N2) (t : T2) (p : Option Nat) (k v : Int) (HM : ∃ sv fv, MapAt V0 m aa cmpF sv fv a) (hs : St V0 V eb m []) (hd : Den V0.heap.size V a p t) (av : Avl t) (hh : t.hi ≤ 50000) :
    Calls Try.prog 32 #[.pointer (some ⟨eb, 0, none⟩), .pointer (p.map fun b => ⟨b, 0, none⟩), .int .i64 k, .int .i64 v] V fun e w' => (∃ b', e = .returned (.pointer (some ⟨b', 0, none⟩)) ∧ OpenT V0.heap.size w' a b' (tput cmpI t k v).1) ∧ Ext V0.heap.size a V w' ∧ St V0 w' eb m ([] ++ (tput cmpI t k v).2) := by
  obtain ⟨sv, fv, h⟩ := HM
  exact put_calls V0 m aa eb sv fv a h t V p [] k v hs hd av hh (by have := av.nonneg; show ((0 : Nat) : Int) + _ ≤ _; omega)
set_option maxHeartbeats 4000000 in
theorem mput_calls (w0 W : World) (B m aa : Nat) (a : Ar N2) (t : T2) (k v : Int) (G : Nat) (HM : MapB w0 W B m aa a) (hl : Lies a t) (av : Avl t) (hh : t.hi ≤ 50000) (ok : ArOk G a) (hG : G + fresh (tput cmpI t k v).1 ≤ 1000000) (hr : (fresh (tput cmpI t k v).1 : Int) ≤ a.room) :
    Calls Try.prog 16 #[.pointer (some ⟨m, 0, none⟩), hdV t.h, .int .i64 k, .int .i64 v] W (FinOut w0 W B m aa (store nd0 a (tput cmpI t k v).1).1 (store nd0 a (tput cmpI t k v).1).2.1 (store nd0 a (tput cmpI t k v).1).2.2 (tput cmpI t k v).2) := by
  have hsz := HM.sz
  have HIT := Lib.hid (fun (V : World) (B0 eb : Nat) (hb : B0 ≤ V.heap.size) => item_calls B0 V eb a t hl hb)
  have HPU := Lib.hid (fun (V0 V : World) (eb : Nat) (p : Option Nat) (hb0 : Below W.heap.size W V0) (hs : St V0 V eb m []) (hd : Den V0.heap.size V a p t) => put_of V0 V m aa eb a t p k v (HM.below hb0).mapAt hs hd av hh)
  have HFI := Lib.hid (fun (V : World) (B0 eb b : Nat) (gv : Value) (hb : Below W.heap.size W V) (he : V.heap[eb]? = some (.cells #[.pointer (some ⟨m, 0, none⟩), gv] 74 (0, 0))) (hg : OwnH V B gv (tput cmpI t k v).2) (hd : Den B0 V a (some b) (tput cmpI t k v).1) => finish_calls w0 V B B0 m aa eb a a (tput cmpI t k v).1 (some b) (tput cmpI t k v).2 gv G (HM.below hb) he hg hd ok hG hr)
  simp only [Option.map_some] at HFI
  clear HM hl av hh ok hG hr
  generalize (store nd0 a (tput cmpI t k v).1) = ST at *
  generalize (tput cmpI t k v) = TT at *
  simp only [hdV, ptrV] at HIT ⊢
  go_enter Try.func16, Try.ntmps16
  go_wp2_with (first
    | (go_at_call 33; go_loud (
        (with_reducible refine Calls.mono (HIT.out _ (W.heap.size + 1 + 1) _ (by simp [World.size_alloc])) ?_);
        rintro e w1 ⟨⟨p, rfl, hc⟩, hb⟩;
        (have hb0 : Below W.heap.size W ((W.alloc (Obj.cells #[.int .i64 t.h.s, .int .i64 t.h.g] 28 (0, 0))).alloc (Obj.cells #[.int .i64 0, .int .i64 0, .slice none 0 0, .slice none 0 0] 39 (0, 0))) := (by repeat (first | exact Below.refl _ _ | apply below_drew1 | apply below_alloc | apply pw_below_drewN)));
        (have hz0 : ((W.alloc (Obj.cells #[.int .i64 t.h.s, .int .i64 t.h.g] 28 (0, 0))).alloc (Obj.cells #[.int .i64 0, .int .i64 0, .slice none 0 0, .slice none 0 0] 39 (0, 0))).heap.size = W.heap.size + 1 + 1 := (by simp [World.size_alloc]));
        (have hee : (((W.alloc (Obj.cells #[.int .i64 t.h.s, .int .i64 t.h.g] 28 (0, 0))).alloc (Obj.cells #[.int .i64 0, .int .i64 0, .slice none 0 0, .slice none 0 0] 39 (0, 0))).alloc (Obj.cells #[.pointer (some ⟨m, 0, none⟩), .slice none 0 0] 74 (0, 0))).heap[W.heap.size + 1 + 1]? = some (Obj.cells #[.pointer (some ⟨m, 0, none⟩), .slice none 0 0] 74 (0, 0)) := alloc_at hz0);
        (have hbx : ((W.alloc (Obj.cells #[.int .i64 t.h.s, .int .i64 t.h.g] 28 (0, 0))).alloc (Obj.cells #[.int .i64 0, .int .i64 0, .slice none 0 0, .slice none 0 0] 39 (0, 0))).heap[W.heap.size + 1]? = some (Obj.cells #[.int .i64 0, .int .i64 0, .slice none 0 0, .slice none 0 0] 39 (0, 0)) := alloc_at (by simp [World.size_alloc]));
        have HB0 := Lib.hid hb0;
        have HZ0 := Lib.hid hz0;
        have HBX0 := Lib.hid hbx;
        have HS1 := Lib.hid (show St ((W.alloc (Obj.cells #[.int .i64 t.h.s, .int .i64 t.h.g] 28 (0, 0))).alloc (Obj.cells #[.int .i64 0, .int .i64 0, .slice none 0 0, .slice none 0 0] 39 (0, 0))) w1 (W.heap.size + 1 + 1) m [] from ⟨(below_alloc (Below.refl _ _) _).trans (hb.mono (by simp [World.size_alloc])), (by rw [hz0]; omega), _, blk_below hee hb, nilH _ _⟩);
        have HD1 := Lib.hid (show Den ((W.alloc (Obj.cells #[.int .i64 t.h.s, .int .i64 t.h.g] 28 (0, 0))).alloc (Obj.cells #[.int .i64 0, .int .i64 0, .slice none 0 0, .slice none 0 0] 39 (0, 0))).heap.size w1 a p t from (hc.den (Nat.le_of_eq hz0)));
        generalize ((W.alloc (Obj.cells #[.int .i64 t.h.s, .int .i64 t.h.g] 28 (0, 0))).alloc (Obj.cells #[.int .i64 0, .int .i64 0, .slice none 0 0, .slice none 0 0] 39 (0, 0))) = V0 at *;
        clear hc hb hb0 hee hbx hz0))
    | (go_at_call 32; go_loud ((with_reducible refine Calls.mono (HPU.out V0 _ _ p HB0.out HS1.out HD1.out) ?_); rintro e w2 ⟨⟨b2, rfl, ho⟩, hx, hs⟩; rw [List.nil_append] at hs; obtain ⟨gv, he2, hg2⟩ := hs.ed; have HS2 := Lib.hid (HB0.out.trans (hs.bel.mono HB0.out.size)); have HD2 := Lib.hid ho.den; have HE2 := Lib.hid he2; have HG2 := Lib.hid hg2; have HBX2 := Lib.hid (blk_below HBX0.out hs.bel); clear hs ho hx he2 hg2))
    | (go_at_call 31; go_loud ((with_reducible refine Calls.mono (HFI.out _ _ _ b2 gv HS2.out HE2.out (HG2.out.low (by rw [HZ0.out]; omega)) HD2.out) ?_); rintro e w3 ⟨mv, gv3, rfl, hfs, hfr⟩; have HFR := Lib.hid ((Fr.below HS2.out).trans hfr); obtain ⟨Am, cm, rfl, _⟩ := OwnRow.slice_ hfs.hmade; obtain ⟨Ag, cg, rfl, _⟩ := OwnRow.slice_ hfs.hgone; simp only [edV]; have HFS := Lib.hid hfs; have HRB := Lib.hid (FrX.typedF hfr HBX2.out); have b0 := blk_cell HRB.out 0; have b1 := blk_cell HRB.out 1; have b2' := blk_cell HRB.out 2; have b3 := blk_cell HRB.out 3; have zb0 := blk_frozen HRB.out 0; have zb1 := blk_frozen HRB.out 1; have zb2 := blk_frozen HRB.out 2; have zb3 := blk_frozen HRB.out 3; simp at b0 b1 b2' b3; clear hfs hfr))
    | (fail "no arm"))
  have HV := Lib.hid (HFS.out.box (root := ST.2.1) HRB.out (Nat.le_succ_of_le hsz) HFR.out (Nat.le_succ W.heap.size))
  generalize ((((w3.setCell ⟨W.heap.size + 1, 0, none⟩ (.int .i64 ST.2.1.s)).setCell ⟨W.heap.size + 1, 1, none⟩ (.int .i64 ST.2.1.g)).setCell ⟨W.heap.size + 1, 2, none⟩ (.slice Am ST.2.2.length cm)).setCell ⟨W.heap.size + 1, 3, none⟩ (.slice Ag TT.2.length cg)) = V2 at *
  obtain ⟨hv1, hv2, hv3⟩ := HV.out
  have q0 : V2.cell? ⟨W.heap.size + 1, 0, none⟩ = some (.int .i64 ST.2.1.s) := blk_cell hv1 0
  have q1 : V2.cell? ⟨W.heap.size + 1, 1, none⟩ = some (.int .i64 ST.2.1.g) := blk_cell hv1 1
  have q2 : V2.cell? ⟨W.heap.size + 1, 2, none⟩ = some (.slice Am ST.2.2.length cm) := blk_cell hv1 2
  have q3 : V2.cell? ⟨W.heap.size + 1, 3, none⟩ = some (.slice Ag TT.2.length cg) := blk_cell hv1 3
  have HV2 := Lib.hid hv2
  have HV3 := Lib.hid hv3
  clear hv1 hv2 hv3
  refine bodyPost_ret (v := .tuple #[edV ST.2.1 (.slice Am ST.2.2.length cm) (.slice Ag TT.2.length cg), .bool true]) (by simp [results, Try.results16, edV, go_sem, q0, q1, q2, q3]; try rfl) rfl ?_
  exact ⟨_, _, rfl, HV2.out, HV3.out⟩
end Go.Proofs.Ytmhfbpdahfepgaa.Pm
/- Package pmap's trees: what put and del do to the pairs and to the handles. Plain lemmas. -/
namespace Go.Proofs.Ytmhfbpdahfepgaa.Pm
variable {K V : Type}

/-- The handles of a tree's nodes that lie in the arena, in order. -/
def ohds : T K V → List Hd
  | .leaf => []
  | .node h _ _ l r _ => ohds l ++ (gh h ++ ohds r)
/-- All handles, in order. -/
def hds : T K V → List Hd
  | .leaf => []
  | .node h _ _ l r _ => hds l ++ h :: hds r
theorem gh0 : gh H0 = [] := if_pos rfl
theorem ohds_mk {k : K} {v : V} {l r : T K V} : ohds (mk k v l r) = ohds l ++ ohds r := by
  show ohds l ++ (gh H0 ++ ohds r) = _
  rw [gh0]; rfl
theorem pairs_mk {k : K} {v : V} {l r : T K V} : pairs (mk k v l r) = pairs l ++ (k, v) :: pairs r := rfl
theorem fromL_pairs {oh : Hd} {ok : K} {ov : V} {l r : T K V} : pairs (fromL oh ok ov l r).1 = pairs l ++ (ok, ov) :: pairs r := by
  cases l with
  | leaf => rfl
  | node lh lk lv ll lr lhi =>
    unfold fromL
    by_cases hc : lr.hi ≤ ll.hi
    · simp only [hc, if_true, pairs_mk, pairs, List.append_assoc, List.cons_append]
    · simp only [hc, if_false]
      cases lr with
      | leaf => rfl
      | node mh mkk mv ml mr mhi => simp only [pairs_mk, pairs, List.append_assoc, List.cons_append]
theorem fromR_pairs {oh : Hd} {ok : K} {ov : V} {l r : T K V} : pairs (fromR oh ok ov l r).1 = pairs l ++ (ok, ov) :: pairs r := by
  cases r with
  | leaf => rfl
  | node rh rk rv rl rr rhi =>
    unfold fromR
    by_cases hc : rl.hi ≤ rr.hi
    · simp only [hc, if_true, pairs_mk, pairs, List.append_assoc, List.cons_append]
    · simp only [hc, if_false]
      cases rl with
      | leaf => rfl
      | node mh mkk mv ml mr mhi => simp only [pairs_mk, pairs, List.append_assoc, List.cons_append]
theorem bal_pairs {oh : Hd} {ok : K} {ov : V} {l r : T K V} : pairs (bal oh ok ov l r).1 = pairs l ++ (ok, ov) :: pairs r := by
  unfold bal
  split
  · exact fromL_pairs
  · split
    · exact fromR_pairs
    · rfl
def cnt (x : Hd) (l : List Hd) : Nat := l.count x
theorem cnt_append (x : Hd) (a b : List Hd) : cnt x (a ++ b) = cnt x a + cnt x b := List.count_append
theorem cnt_nil (x : Hd) : cnt x [] = 0 := rfl
theorem fromL_cnt {oh : Hd} {ok : K} {ov : V} {l r : T K V} (x : Hd) : cnt x (ohds (fromL oh ok ov l r).1) + cnt x (fromL oh ok ov l r).2 = cnt x (ohds l) + cnt x (gh oh) + cnt x (ohds r) := by
  cases l with
  | leaf => simp only [fromL, ohds_mk, ohds, cnt_append, cnt_nil]; omega
  | node lh lk lv ll lr lhi =>
    unfold fromL
    by_cases hc : lr.hi ≤ ll.hi
    · simp only [hc, if_true, ohds_mk, ohds, cnt_append]; omega
    · simp only [hc, if_false]
      cases lr with
      | leaf => simp only [ohds_mk, ohds, cnt_append, cnt_nil]; omega
      | node mh mkk mv ml mr mhi => simp only [ohds_mk, ohds, cnt_append]; omega
theorem fromR_cnt {oh : Hd} {ok : K} {ov : V} {l r : T K V} (x : Hd) : cnt x (ohds (fromR oh ok ov l r).1) + cnt x (fromR oh ok ov l r).2 = cnt x (ohds l) + cnt x (gh oh) + cnt x (ohds r) := by
  cases r with
  | leaf => simp only [fromR, ohds_mk, ohds, cnt_append, cnt_nil]; omega
  | node rh rk rv rl rr rhi =>
    unfold fromR
    by_cases hc : rl.hi ≤ rr.hi
    · simp only [hc, if_true, ohds_mk, ohds, cnt_append]; omega
    · simp only [hc, if_false]
      cases rl with
      | leaf => simp only [ohds_mk, ohds, cnt_append, cnt_nil]; omega
      | node mh mkk mv ml mr mhi => simp only [ohds_mk, ohds, cnt_append]; omega
theorem bal_cnt {oh : Hd} {ok : K} {ov : V} {l r : T K V} (x : Hd) : cnt x (ohds (bal oh ok ov l r).1) + cnt x (bal oh ok ov l r).2 = cnt x (ohds l) + cnt x (gh oh) + cnt x (ohds r) := by
  unfold bal
  split
  · exact fromL_cnt x
  · split
    · exact fromR_cnt x
    · simp only [ohds_mk, cnt_append]; omega
theorem tput_cnt (cmp : K → K → Int) (k : K) (v : V) (x : Hd) : ∀ t : T K V, cnt x (ohds (tput cmp t k v).1) + cnt x (tput cmp t k v).2 = cnt x (ohds t)
  | .leaf => by simp only [tput, ohds, gh0, cnt_append, cnt_nil]
  | .node h k' v' l r hi => by
    have il := tput_cnt cmp k v x l
    have ir := tput_cnt cmp k v x r
    rw [tput]
    split
    · have b := bal_cnt (oh := h) (ok := k') (ov := v') (l := (tput cmp l k v).1) (r := r) x
      simp only [ohds, cnt_append] at b ⊢; omega
    · split
      · have b := bal_cnt (oh := h) (ok := k') (ov := v') (l := l) (r := (tput cmp r k v).1) x
        simp only [ohds, cnt_append] at b ⊢; omega
      · simp only [ohds, gh0, cnt_append, cnt_nil]; omega
theorem tleast_cnt (x : Hd) : ∀ (l : T K V) (h : Hd) (k : K) (v : V) (r : T K V), cnt x (gh (tleast h k v l r).1.1) + cnt x (ohds (tleast h k v l r).2.1) + cnt x (tleast h k v l r).2.2 = cnt x (ohds l) + cnt x (gh h) + cnt x (ohds r)
  | .leaf, h, k, v, r => by simp only [tleast, ohds, cnt_nil]; omega
  | .node h' k' v' l' r' hi', h, k, v, r => by
    have i := tleast_cnt x l' h' k' v' r'
    have b := bal_cnt (oh := h) (ok := k) (ov := v) (l := (tleast h' k' v' l' r').2.1) (r := r) x
    simp only [tleast, ohds, cnt_append] at b ⊢; omega
theorem tleast_pairs : ∀ (l : T K V) (h : Hd) (k : K) (v : V) (r : T K V), (tleast h k v l r).1.2 :: pairs (tleast h k v l r).2.1 = pairs l ++ (k, v) :: pairs r
  | .leaf, h, k, v, r => rfl
  | .node h' k' v' l' r' hi', h, k, v, r => by
    have i := tleast_pairs l' h' k' v' r'
    show (tleast h' k' v' l' r').1.2 :: pairs (bal h k v (tleast h' k' v' l' r').2.1 r).1 = (pairs l' ++ (k', v') :: pairs r') ++ (k, v) :: pairs r
    rw [bal_pairs, ← i]; rfl
theorem tdel_cnt (cmp : K → K → Int) (k : K) (x : Hd) : ∀ t : T K V, cnt x (ohds (tdel cmp t k).1) + cnt x (tdel cmp t k).2 = cnt x (ohds t)
  | .leaf => by simp only [tdel, ohds, cnt_nil]
  | .node h k' v' l r hi => by
    have il := tdel_cnt cmp k x l
    have ir := tdel_cnt cmp k x r
    by_cases h1 : cmp k k' < 0
    · rw [tdel_lt h1]
      have b := bal_cnt (oh := h) (ok := k') (ov := v') (l := (tdel cmp l k).1) (r := r) x
      simp only [ohds, cnt_append] at b ⊢; omega
    · by_cases h2 : 0 < cmp k k'
      · rw [tdel_gt h1 h2]
        have b := bal_cnt (oh := h) (ok := k') (ov := v') (l := l) (r := (tdel cmp r k).1) x
        simp only [ohds, cnt_append] at b ⊢; omega
      · cases l with
        | leaf => rw [tdel_l h1 h2]; simp only [ohds, cnt_append, cnt_nil]; omega
        | node lh lk lv ll lr lhi =>
          cases r with
          | leaf => rw [tdel_r h1 h2]; simp only [ohds, cnt_append, cnt_nil]; omega
          | node rh rk rv rl rr rhi =>
            rw [tdel_m h1 h2]
            have i := tleast_cnt x rl rh rk rv rr
            have b := bal_cnt (oh := (tleast rh rk rv rl rr).1.1) (ok := (tleast rh rk rv rl rr).1.2.1) (ov := (tleast rh rk rv rl rr).1.2.2) (l := .node lh lk lv ll lr lhi) (r := (tleast rh rk rv rl rr).2.1) x
            simp only [ohds, cnt_append] at b ⊢; omega
/-! ### Keys in order -/
structure CmpOk (cmp : K → K → Int) : Prop where
  eq : ∀ a b, ¬ cmp a b < 0 → ¬ 0 < cmp a b → a = b
  refl : ∀ a, cmp a a = 0
  flip : ∀ a b, cmp a b < 0 ↔ 0 < cmp b a
  trans : ∀ a b c, cmp a b < 0 → cmp b c < 0 → cmp a c < 0
abbrev Sorted (cmp : K → K → Int) (l : List (K × V)) : Prop := l.Pairwise (fun a b => cmp a.1 b.1 < 0)
def lput (cmp : K → K → Int) (k : K) (v : V) : List (K × V) → List (K × V)
  | [] => [(k, v)]
  | p :: l => if cmp k p.1 < 0 then (k, v) :: p :: l else if 0 < cmp k p.1 then p :: lput cmp k v l else (k, v) :: l
def ldel (cmp : K → K → Int) (k : K) (l : List (K × V)) : List (K × V) := l.filter (fun p => decide (cmp k p.1 ≠ 0))
def lhas (cmp : K → K → Int) (k : K) (l : List (K × V)) : Option V := (l.find? (fun p => decide (cmp k p.1 = 0))).map Prod.snd
section
variable {cmp : K → K → Int}
theorem lput_lt {k k' : K} {v v' : V} (h : cmp k k' < 0) : ∀ (l r : List (K × V)), lput cmp k v (l ++ (k', v') :: r) = lput cmp k v l ++ (k', v') :: r
  | [], r => by simp only [List.nil_append, lput, h, if_true, List.cons_append]
  | p :: l, r => by
    have i := lput_lt (v := v) (v' := v') h l r
    simp only [List.cons_append, lput]
    split
    · rfl
    · split
      · rw [i]; rfl
      · rfl
theorem lput_gt (ok : CmpOk cmp) {k k' : K} {v v' : V} (h : 0 < cmp k k') : ∀ (l r : List (K × V)), (∀ p ∈ l, cmp p.1 k' < 0) → lput cmp k v (l ++ (k', v') :: r) = l ++ (k', v') :: lput cmp k v r
  | [], r, _ => by
    have h1 : ¬ cmp k k' < 0 := by omega
    simp only [List.nil_append, lput, h1, h, if_true, if_false]
  | p :: l, r, hl => by
    have i := lput_gt ok (v := v) (v' := v') h l r (fun q hq => hl q (by simp [hq]))
    have h2 : cmp p.1 k < 0 := ok.trans _ _ _ (hl p (by simp)) ((ok.flip _ _).mpr h)
    have h3 : 0 < cmp k p.1 := (ok.flip _ _).mp h2
    have h1 : ¬ cmp k p.1 < 0 := by omega
    simp only [List.cons_append, lput, h1, h3, if_true, if_false, i]
theorem lput_eq (ok : CmpOk cmp) {k k' : K} {v v' : V} (h : k = k') : ∀ (l r : List (K × V)), (∀ p ∈ l, cmp p.1 k' < 0) → lput cmp k v (l ++ (k', v') :: r) = l ++ (k, v) :: r
  | [], r, _ => by
    subst h
    have h1 : ¬ cmp k k < 0 := by rw [ok.refl]; decide
    have h2 : ¬ 0 < cmp k k := by rw [ok.refl]; decide
    simp only [List.nil_append, lput, h1, h2, if_false]
  | p :: l, r, hl => by
    have i := lput_eq ok (v := v) (v' := v') h l r (fun q hq => hl q (by simp [hq]))
    have h2 : cmp p.1 k < 0 := by rw [h]; exact hl p (by simp)
    have h3 : 0 < cmp k p.1 := (ok.flip _ _).mp h2
    have h1 : ¬ cmp k p.1 < 0 := by omega
    simp only [List.cons_append, lput, h1, h3, if_true, if_false, i]
theorem lput_mem {k : K} {v : V} {p : K × V} : ∀ {l : List (K × V)}, p ∈ lput cmp k v l → p = (k, v) ∨ p ∈ l
  | [], h => by simp only [lput, List.mem_singleton] at h; exact .inl h
  | q :: l, h => by
    simp only [lput] at h
    split at h
    · simp only [List.mem_cons] at h ⊢; rcases h with h | h | h <;> simp [h]
    · split at h
      · simp only [List.mem_cons] at h ⊢
        rcases h with h | h
        · simp [h]
        · rcases lput_mem h with h | h <;> simp [h]
      · simp only [List.mem_cons] at h ⊢; rcases h with h | h <;> simp [h]
theorem lput_sorted (ok : CmpOk cmp) {k : K} {v : V} : ∀ {l : List (K × V)}, Sorted cmp l → Sorted cmp (lput cmp k v l)
  | [], _ => by simp [lput, Sorted]
  | q :: l, h => by
    obtain ⟨h1, h2⟩ := List.pairwise_cons.mp h
    simp only [lput]
    split
    · rename_i hc
      refine List.pairwise_cons.mpr ⟨fun p hp => ?_, h⟩
      simp only [List.mem_cons] at hp
      rcases hp with rfl | hp
      · exact hc
      · exact ok.trans _ _ _ hc (h1 p hp)
    · split
      · rename_i hc
        refine List.pairwise_cons.mpr ⟨fun p hp => ?_, lput_sorted ok h2⟩
        rcases lput_mem hp with rfl | hp
        · exact (ok.flip _ _).mpr hc
        · exact h1 p hp
      · rename_i c1 c2
        refine List.pairwise_cons.mpr ⟨fun p hp => ?_, h2⟩
        rw [ok.eq _ _ c1 c2]
        exact h1 p hp
theorem ldel_sorted {k : K} {l : List (K × V)} (h : Sorted cmp l) : Sorted cmp (ldel cmp k l) := List.Pairwise.filter _ h
theorem sorted_split {l r : List (K × V)} {p : K × V} (h : Sorted cmp (l ++ p :: r)) : Sorted cmp l ∧ Sorted cmp r ∧ (∀ q ∈ l, cmp q.1 p.1 < 0) ∧ (∀ q ∈ r, cmp p.1 q.1 < 0) := by
  obtain ⟨h1, h2, h3⟩ := List.pairwise_append.mp h
  obtain ⟨h4, h5⟩ := List.pairwise_cons.mp h2
  exact ⟨h1, h5, fun q hq => h3 q hq p (by simp), h4⟩
theorem tput_pairs (ok : CmpOk cmp) (k : K) (v : V) : ∀ t : T K V, Sorted cmp (pairs t) → pairs (tput cmp t k v).1 = lput cmp k v (pairs t)
  | .leaf, _ => rfl
  | .node h k' v' l r hi, hs => by
    obtain ⟨s1, s2, s3, s4⟩ := sorted_split (p := (k', v')) (show Sorted cmp (pairs l ++ (k', v') :: pairs r) from hs)
    rw [tput, pairs]
    split
    · rename_i hc
      rw [bal_pairs, tput_pairs ok k v l s1, lput_lt hc]
    · split
      · rename_i hc
        rw [bal_pairs, tput_pairs ok k v r s2, lput_gt ok hc _ _ s3]
      · rename_i c1 c2
        rw [lput_eq ok (ok.eq _ _ c1 c2) _ _ s3]; rfl
theorem ldel_all {k : K} {l : List (K × V)} (h : ∀ p ∈ l, cmp k p.1 ≠ 0) : ldel cmp k l = l := by
  unfold ldel
  rw [List.filter_eq_self]
  intro p hp
  simpa using h p hp
theorem tdel_pairs (ok : CmpOk cmp) (k : K) : ∀ t : T K V, Sorted cmp (pairs t) → pairs (tdel cmp t k).1 = ldel cmp k (pairs t)
  | .leaf, _ => rfl
  | .node h k' v' l r hi, hs => by
    obtain ⟨s1, s2, s3, s4⟩ := sorted_split (p := (k', v')) (show Sorted cmp (pairs l ++ (k', v') :: pairs r) from hs)
    have hsp : ldel cmp k (pairs l ++ (k', v') :: pairs r) = ldel cmp k (pairs l) ++ (if cmp k k' ≠ 0 then [(k', v')] else []) ++ ldel cmp k (pairs r) := by
      unfold ldel
      rw [List.filter_append, List.filter_cons]
      split <;> rename_i hh <;> simp at hh <;> simp [hh]
    rw [pairs, hsp]
    by_cases h1 : cmp k k' < 0
    · rw [tdel_lt h1, bal_pairs, tdel_pairs ok k l s1, if_pos (by omega), ldel_all (l := pairs r) (fun p hp => by have := ok.trans _ _ _ h1 (s4 p hp); omega)]
      simp
    · by_cases h2 : 0 < cmp k k'
      · rw [tdel_gt h1 h2, bal_pairs, tdel_pairs ok k r s2, if_pos (by omega), ldel_all (l := pairs l) (fun p hp => by
          have := (ok.flip _ _).mp (ok.trans _ _ _ (s3 p hp) ((ok.flip _ _).mpr h2)); omega)]
        simp
      · have he := ok.eq _ _ h1 h2
        rw [if_neg (by omega), ldel_all (l := pairs l) (fun p hp => by have := (ok.flip _ _).mp (s3 p hp); rw [he]; show cmp k' p.1 ≠ 0; dsimp only at this; omega), ldel_all (l := pairs r) (fun p hp => by have := s4 p hp; rw [he]; dsimp only at this; omega), List.append_nil]
        cases l with
        | leaf => rw [tdel_l h1 h2]; rfl
        | node lh lk lv ll lr lhi =>
          cases r with
          | leaf => rw [tdel_r h1 h2]; simp [pairs]
          | node rh rk rv rl rr rhi =>
            rw [tdel_m h1 h2, bal_pairs]
            have i := tleast_pairs rl rh rk rv rr
            rw [show ((tleast rh rk rv rl rr).1.2.1, (tleast rh rk rv rl rr).1.2.2) = (tleast rh rk rv rl rr).1.2 from rfl, i]; rfl
end
end Go.Proofs.Ytmhfbpdahfepgaa.Pm
/- Package pmap's Map.Get. -/
namespace Go.Proofs.Ytmhfbpdahfepgaa.Pm
open Go.RowKit Go.Proofs.YtmhfbpdahfepgaaW.PrintWords
attribute [local go_sem high] eqHd
theorem cmpI_ok : CmpOk cmpI :=
  ⟨fun a b h1 h2 => by unfold cmpI at h1 h2; split at h1 <;> rename_i x1 <;> (try simp at h1) <;> split at h2 <;> rename_i x2 <;> simp_all <;> omega,
   fun a => by unfold cmpI; simp, fun a b => by unfold cmpI; split <;> split <;> (try split) <;> (try split) <;> simp <;> omega,
   fun a b c h1 h2 => by unfold cmpI at *; split at h1 <;> split at h2 <;> (try split at h1) <;> (try split at h2) <;> simp at h1 h2 <;> (rw [if_pos (by omega)]; decide)⟩
/-- What Get finds. -/
def tget (cmp : Int → Int → Int) : T2 → Int → Option Int
  | .leaf, _ => none
  | .node _ k' v' l r _, k => if cmp k k' < 0 then tget cmp l k else if 0 < cmp k k' then tget cmp r k else some v'
/-- How high a handle's tree is. -/
def hiOf (a : Ar N2) (h : Hd) : Nat := match a.get h with | none => 0 | some n => n.hi.toNat
def hiW (a : Ar N2) (w : World) (b : Nat) : Nat := match w.cell? ⟨b, 0, none⟩, w.cell? ⟨b, 1, none⟩ with | some (.int _ s), some (.int _ g) => hiOf a ⟨s, g⟩ | _, _ => 0
theorem hiOf_lies {a : Ar N2} {t : T2} (hl : Lies a t) (h0 : a.get H0 = none) : hiOf a t.h = t.hi.toNat := by
  cases t with
  | leaf => show hiOf a H0 = _; unfold hiOf; rw [h0]; rfl
  | node h k v l r hi => show hiOf a h = _; unfold hiOf; rw [hl.2.1]; rfl
theorem get_H0 (a : Ar N2) : a.get H0 = none := by
  unfold Ar.get Ar.slot?
  rw [if_neg (by unfold H0; simp)]; rfl
theorem hiW_at {a : Ar N2} {w : World} {b : Nat} {h : Hd} {t : TypeId} (hb : w.heap[b]? = some (.cells #[.int .i64 h.s, .int .i64 h.g] t (0, 0))) : hiW a w b = hiOf a h := by
  unfold hiW
  rw [show w.cell? ⟨b, 0, none⟩ = some (.int .i64 h.s) from blk_cell hb 0, show w.cell? ⟨b, 1, none⟩ = some (.int .i64 h.g) from blk_cell hb 1]
set_option maxHeartbeats 4000000 in
theorem mget_calls (w0 W : World) (B m aa : Nat) (a : Ar N2) (t : T2) (k : Int) (HM : MapB w0 W B m aa a) (hl : Lies a t) (av : Avl t) :
    Calls Try.prog 26 #[.pointer (some ⟨m, 0, none⟩), hdV t.h, .int .i64 k] W fun e w' => e = .returned (.tuple #[.int .i64 ((tget cmpI t k).getD 0), .bool (tget cmpI t k).isSome]) ∧ Below W.heap.size W w' := by
  have HLD := Lib.hid (fun (V : World) (h : Hd) (hb : Below W.heap.size W V) => show Calls Try.prog 18 #[.pointer (some ⟨m, 0, none⟩), hdV h] V fun e w' => e = .returned (.tuple #[ndV ((a.get h).getD nd0), .bool (a.get h).isSome]) ∧ Below V.heap.size V w' by obtain ⟨sv, fv, h'⟩ := (HM.below hb).mapAt; exact load_calls V m aa _ sv fv a h h')
  have HMC := Lib.hid (fun (V : World) (hb : Below W.heap.size W V) => (show V.cell? ⟨m, 1, none⟩ = some cmpF from (blk_cell (blk_below HM.hm hb) 1).trans rfl))
  have hltm := blk_lt HM.hm
  have HL := Lib.hid hl
  have HA := Lib.hid av
  have HZ := Lib.hid (get_H0 a)
  have HB := Lib.hid (Below.refl W.heap.size W)
  clear HM hl av
  simp only [hdV, ndV, cmpF] at HLD HMC ⊢
  go_enter Try.func26, Try.ntmps26
  go_wp2
  go_loopw [] (fun W' => ∃ t' : T2, Hid (Lies a t') ∧ Hid (Avl t') ∧ Hid (tget cmpI t' k = tget cmpI t k) ∧ Hid (W'.heap[W.heap.size]? = some (.cells #[.int .i64 t'.h.s, .int .i64 t'.h.g] 28 (0, 0))) ∧ Hid (Below W.heap.size W W')) (fun W' => hiW a W' W.heap.size)
  case atStart => exact ⟨t, HL, HA, Lib.hid rfl, Lib.hid (blk_new _ _), Lib.hid (by repeat (first | exact Below.refl _ _ | apply below_drew1 | apply below_alloc | apply pw_below_drewN))⟩
  case round =>
    obtain ⟨t', HL', HA', HT', HX, HB'⟩ := hrel
    have k0 := blk_cell HX.out 0
    have k1 := blk_cell HX.out 1
    have zx0 := blk_frozen HX.out 0
    have zx1 := blk_frozen HX.out 1
    simp at k0 k1
    have hltx := blk_lt HX.out
    cases t' with
    | leaf =>
      have HG := Lib.hid (show Calls Try.prog 18 #[.pointer (some ⟨m, 0, none⟩), .agg #[.int .i64 0, .int .i64 0]] wr fun e w' => e = .returned (.tuple #[.agg #[.int .i64 0, .int .i64 0, .int .i64 0, .int .i64 0, .int .i64 0, .int .i64 0, .int .i64 0], .bool false]) ∧ Below wr.heap.size wr w' by have := HLD.out wr H0 HB'.out; rw [HZ.out] at this; exact this)
      simp only [T.h, H0] at k0 k1
      go_wp2_with (first
        | (go_at_call 18; go_loud ((with_reducible refine Calls.mono HG.out ?_); rintro e w1 ⟨rfl, hb⟩; have HB1 := Lib.hid (HB'.out.trans (hb.mono HB'.out.size)); have hz1 := HB1.out.size; clear hb))
        | (fail "no arm"))
      rw [← HT'.out]
      go_ret2
      exact ⟨rfl, HB1.out.alloc (HB1.out.size) _⟩
    | node h k' v' l r hi =>
      have hg : (a.get h) = some ⟨k', v', l.h, r.h, hi⟩ := HL'.out.2.1
      have HG := Lib.hid (show Calls Try.prog 18 #[.pointer (some ⟨m, 0, none⟩), .agg #[.int .i64 h.s, .int .i64 h.g]] wr fun e w' => e = .returned (.tuple #[.agg #[.int .i64 k', .int .i64 v', .int .i64 l.h.s, .int .i64 l.h.g, .int .i64 r.h.s, .int .i64 r.h.g, .int .i64 hi], .bool true]) ∧ Below wr.heap.size wr w' by have := HLD.out wr h HB'.out; rw [hg] at this; exact this)
      have HGH := Lib.hid hg
      clear hg
      simp only [T.h] at k0 k1
      go_wp2_with (first
        | (go_at_call 18; go_loud ((with_reducible refine Calls.mono HG.out ?_); rintro e w1 ⟨rfl, hb⟩; have HB1 := Lib.hid (HB'.out.trans (hb.mono HB'.out.size)); have hz1 := HB1.out.size; have HX1 := Lib.hid (blk_below HX.out hb); have cm := HMC.out w1 HB1.out; have hltx1 := blk_lt HX1.out; clear hb))
        | (fail "no arm"))
      have HNV := Lib.hid (blk_new w1 (.cells #[.int .i64 k', .int .i64 v', .int .i64 l.h.s, .int .i64 l.h.g, .int .i64 r.h.s, .int .i64 r.h.g, .int .i64 hi] 44 (0, 0)))
      have HXV := Lib.hid (blk_below HX1.out (below_alloc (Below.refl _ _) (.cells #[.int .i64 k', .int .i64 v', .int .i64 l.h.s, .int .i64 l.h.g, .int .i64 r.h.s, .int .i64 r.h.g, .int .i64 hi] 44 (0, 0))))
      have HBV := Lib.hid (HB1.out.alloc (HB1.out.size) (.cells #[.int .i64 k', .int .i64 v', .int .i64 l.h.s, .int .i64 l.h.g, .int .i64 r.h.s, .int .i64 r.h.g, .int .i64 hi] 44 (0, 0)))
      generalize (w1.alloc (.cells #[.int .i64 k', .int .i64 v', .int .i64 l.h.s, .int .i64 l.h.g, .int .i64 r.h.s, .int .i64 r.h.g, .int .i64 hi] 44 (0, 0))) = V at *
      clear cm k0 k1
      generalize hnb : w1.heap.size = nb at *
      clear hnb
      have cm := HMC.out V HBV.out
      have n0 := blk_cell HNV.out 0
      have n1 := blk_cell HNV.out 1
      have n2 := blk_cell HNV.out 2
      have n3 := blk_cell HNV.out 3
      have n4 := blk_cell HNV.out 4
      have n5 := blk_cell HNV.out 5
      have y0 := blk_cell HXV.out 0
      have y1 := blk_cell HXV.out 1
      have q0 := blk_frozen HXV.out 0
      have q1 := blk_frozen HXV.out 1
      simp at n0 n1 n2 n3 n4 n5 y0 y1
      obtain ⟨e, a1, a2, al, ar⟩ := HA'.out
      have pl := al.nonneg
      have pr := ar.nonneg
      have m0 := mx_le l.hi r.hi
      have hhi : hi = 1 + mx l.hi r.hi := e
      have HAL := Lib.hid al
      have HAR := Lib.hid ar
      have hil := hiOf_lies HL'.out.2.2.1 HZ.out
      have hir := hiOf_lies HL'.out.2.2.2 HZ.out
      have hih : hiOf a h = hi.toNat := hiOf_lies HL'.out HZ.out
      have hwr : hiW a wr W.heap.size = hi.toNat := by rw [← hih]; exact hiW_at HX.out
      have HW := Lib.hid hwr
      clear e a1 a2 al ar hwr
      have HT2 : tget cmpI (.node h k' v' l r hi) k = if cmpI k k' < 0 then tget cmpI l k else if 0 < cmpI k k' then tget cmpI r k else some v' := rfl
      by_cases h1 : k < k'
      · have hck : cmpI k k' = -1 := by unfold cmpI; rw [if_pos h1]
        clear h1
        rw [hck, if_pos (by decide)] at HT2
        have HT3 := Lib.hid (HT2.symm.trans HT'.out)
        have HCK := Lib.hid hck
        clear HT2 hck
        go_quiet ((go_at_call 11; exact Calls.quiet_of_same (cmp_calls _ _ _)))
        rw [HCK.out]
        go_wp2
        have HE := Lib.hid (blk_put (blk_put (blk_below HXV.out (pw_below_drewN (Below.refl _ _) nq)) 0 (.int .i64 l.h.s) rfl) 1 (.int .i64 l.h.g) rfl)
        exact ⟨⟨l, Lib.hid HL'.out.2.2.1, HAL, HT3, HE, Lib.hid (((pw_below_drewN HBV.out nq).setCell (p := ⟨W.heap.size, 0, none⟩) (Nat.le_refl _) _).setCell (p := ⟨W.heap.size, 1, none⟩) (Nat.le_refl _) _)⟩, by rw [hiW_at HE.out, HW.out, hil]; omega⟩
      · by_cases h2 : k' < k
        · have hck : cmpI k k' = 1 := by unfold cmpI; rw [if_neg h1, if_pos h2]
          clear h1 h2
          rw [hck, if_neg (by decide), if_pos (by decide)] at HT2
          have HT3 := Lib.hid (HT2.symm.trans HT'.out)
          have HCK := Lib.hid hck
          clear HT2 hck
          go_quiet ((go_at_call 11; exact Calls.quiet_of_same (cmp_calls _ _ _)))
          rw [HCK.out]
          go_wp2
          have HE := Lib.hid (blk_put (blk_put (blk_below HXV.out (pw_below_drewN (Below.refl _ _) nq)) 0 (.int .i64 r.h.s) rfl) 1 (.int .i64 r.h.g) rfl)
          exact ⟨⟨r, Lib.hid HL'.out.2.2.2, HAR, HT3, HE, Lib.hid (((pw_below_drewN HBV.out nq).setCell (p := ⟨W.heap.size, 0, none⟩) (Nat.le_refl _) _).setCell (p := ⟨W.heap.size, 1, none⟩) (Nat.le_refl _) _)⟩, by rw [hiW_at HE.out, HW.out, hir]; omega⟩
        · have hck : cmpI k k' = 0 := by unfold cmpI; rw [if_neg h1, if_neg h2]
          clear h1 h2
          rw [hck, if_neg (by decide), if_neg (by decide)] at HT2
          have HT3 := Lib.hid (HT2.symm.trans HT'.out)
          have HCK := Lib.hid hck
          clear HT2 hck
          go_quiet ((go_at_call 11; exact Calls.quiet_of_same (cmp_calls _ _ _)))
          rw [HCK.out]
          go_wp2
          rw [← HT3.out]
          go_ret2
          exact ⟨rfl, pw_below_drewN HBV.out nq⟩
end Go.Proofs.Ytmhfbpdahfepgaa.Pm
/- Package pmap's Map.Del. -/
namespace Go.Proofs.Ytmhfbpdahfepgaa.Pm
open Go.RowKit Go.Proofs.YtmhfbpdahfepgaaW.PrintWords
attribute [local go_sem high] eqHd
theorem has_get (k : Int) : ∀ (t : T2), (tget cmpI t k).isSome = true → Has cmpI k t
  | .leaf, h => by simp [tget] at h
  | .node h' k' v' l r hi, h => by
    rw [tget] at h
    refine ⟨fun h1 => has_get k l (by rwa [if_pos h1] at h), fun h1 h2 => has_get k r (by rwa [if_neg h1, if_pos h2] at h)⟩
theorem del_of (V0 V : World) (m aa eb : Nat) (a : Ar N2) (t : T2) (p : Option Nat) (k : Int) (HM : ∃ sv fv, MapAt V0 m aa cmpF sv fv a) (hs : St V0 V eb m []) (hd : Den V0.heap.size V a p t) (av : Avl t) (hh : t.hi ≤ 50000) (hk : Has cmpI k t) :
    Calls Try.prog 37 #[.pointer (some ⟨eb, 0, none⟩), .pointer (p.map fun b => ⟨b, 0, none⟩), .int .i64 k] V fun e w' => (∃ q : Option Nat, e = .returned (.pointer (q.map fun b => ⟨b, 0, none⟩)) ∧ Den V0.heap.size w' a q (tdel cmpI t k).1) ∧ Ext V0.heap.size a V w' ∧ St V0 w' eb m ([] ++ (tdel cmpI t k).2) := by
  obtain ⟨sv, fv, h⟩ := HM
  exact del_calls V0 m aa eb sv fv a h k t V p [] hs hd av hk hh (by have := av.nonneg; show ((0 : Nat) : Int) + _ ≤ _; omega)
set_option maxHeartbeats 4000000 in
theorem mdel_calls (w0 W : World) (B m aa : Nat) (a : Ar N2) (t : T2) (k : Int) (G : Nat) (HM : MapB w0 W B m aa a) (hl : Lies a t) (av : Avl t) (hh : t.hi ≤ 50000) (hsome : (tget cmpI t k).isSome = true) (ok : ArOk G a) (hG : G + fresh (tdel cmpI t k).1 ≤ 1000000) (hr : (fresh (tdel cmpI t k).1 : Int) ≤ a.room) :
    Calls Try.prog 23 #[.pointer (some ⟨m, 0, none⟩), hdV t.h, .int .i64 k] W (FinOut w0 W B m aa (store nd0 a (tdel cmpI t k).1).1 (store nd0 a (tdel cmpI t k).1).2.1 (store nd0 a (tdel cmpI t k).1).2.2 (tdel cmpI t k).2) := by
  have hsz := HM.sz
  have hk := has_get k t hsome
  have HIT := Lib.hid (fun (V : World) (B0 eb : Nat) (hb : B0 ≤ V.heap.size) => item_calls B0 V eb a t hl hb)
  have HPU := Lib.hid (fun (V0 V : World) (eb : Nat) (p : Option Nat) (hb0 : Below W.heap.size W V0) (hs : St V0 V eb m []) (hd : Den V0.heap.size V a p t) => del_of V0 V m aa eb a t p k (HM.below hb0).mapAt hs hd av hh hk)
  have HFI := Lib.hid (fun (V : World) (B0 eb : Nat) (b : Option Nat) (gv : Value) (hb : Below W.heap.size W V) (he : V.heap[eb]? = some (.cells #[.pointer (some ⟨m, 0, none⟩), gv] 74 (0, 0))) (hg : OwnH V B gv (tdel cmpI t k).2) (hd : Den B0 V a b (tdel cmpI t k).1) => finish_calls w0 V B B0 m aa eb a a (tdel cmpI t k).1 b (tdel cmpI t k).2 gv G (HM.below hb) he hg hd ok hG hr)
  have hs := Lib.hid hsome
  have HGT := Lib.hid (fun (V : World) (hb : Below W.heap.size W V) => show Calls Try.prog 26 #[.pointer (some ⟨m, 0, none⟩), hdV t.h, .int .i64 k] V fun e w' => e = .returned (.tuple #[.int .i64 ((tget cmpI t k).getD 0), .bool true]) ∧ Below V.heap.size V w' by rw [← hsome]; exact mget_calls w0 V B m aa a t k (HM.below hb) hl av)
  generalize (tget cmpI t k).getD 0 = gd at *
  clear HM hl av hh hk hsome ok hG hr
  generalize (store nd0 a (tdel cmpI t k).1) = ST at *
  generalize (tdel cmpI t k) = TT at *
  simp only [hdV, ptrV] at HIT HGT ⊢
  go_enter Try.func23, Try.ntmps23
  go_wp2_with (first
    | (go_at_call 26; go_loud (
        (with_reducible refine Calls.mono (HGT.out _ (by repeat (first | exact Below.refl _ _ | apply below_drew1 | apply below_alloc | apply pw_below_drewN))) ?_);
        rintro e w1 ⟨rfl, hb⟩;
        (have hb0 : Below W.heap.size W ((W.alloc (Obj.cells #[.int .i64 t.h.s, .int .i64 t.h.g] 28 (0, 0))).alloc (Obj.cells #[.int .i64 0, .int .i64 0, .slice none 0 0, .slice none 0 0] 39 (0, 0))) := (by repeat (first | exact Below.refl _ _ | apply below_drew1 | apply below_alloc | apply pw_below_drewN)));
        (have hbx : ((W.alloc (Obj.cells #[.int .i64 t.h.s, .int .i64 t.h.g] 28 (0, 0))).alloc (Obj.cells #[.int .i64 0, .int .i64 0, .slice none 0 0, .slice none 0 0] 39 (0, 0))).heap[W.heap.size + 1]? = some (Obj.cells #[.int .i64 0, .int .i64 0, .slice none 0 0, .slice none 0 0] 39 (0, 0)) := alloc_at (by simp [World.size_alloc]));
        (have hhx : ((W.alloc (Obj.cells #[.int .i64 t.h.s, .int .i64 t.h.g] 28 (0, 0))).alloc (Obj.cells #[.int .i64 0, .int .i64 0, .slice none 0 0, .slice none 0 0] 39 (0, 0))).heap[W.heap.size]? = some (Obj.cells #[.int .i64 t.h.s, .int .i64 t.h.g] 28 (0, 0)) := blk_below (blk_new W (Obj.cells #[.int .i64 t.h.s, .int .i64 t.h.g] 28 (0, 0))) (below_alloc (Below.refl _ _) _));
        have HB0 := Lib.hid (hb0.trans (hb.mono (by simp [World.size_alloc]; omega)));
        have HBX0 := Lib.hid (blk_below hbx hb);
        (have hx0 : w1.cell? ⟨W.heap.size, 0, none⟩ = some (.int .i64 t.h.s) := blk_cell (blk_below hhx hb) 0);
        (have hx1 : w1.cell? ⟨W.heap.size, 1, none⟩ = some (.int .i64 t.h.g) := blk_cell (blk_below hhx hb) 1);
        have hlx := blk_lt (blk_below hhx hb);
        have hz1 := hb.size;
        clear hb hb0 hbx hhx))
    | (go_at_call 33; go_loud (
        (with_reducible refine Calls.mono (HIT.out _ w1.heap.size _ (by simp [World.size_alloc])) ?_);
        rintro e w4 ⟨⟨p, rfl, hc⟩, hb⟩;
        have HS1 := Lib.hid (show St w1 w4 w1.heap.size m [] from ⟨(below_alloc (Below.refl _ _) _).trans (hb.mono (by simp [World.size_alloc])), Nat.le_refl _, _, blk_below (blk_new w1 (Obj.cells #[.pointer (some ⟨m, 0, none⟩), .slice none 0 0] 74 (0, 0))) hb, nilH _ _⟩);
        have HD1 := Lib.hid (show Den w1.heap.size w4 a p t from (hc.den (Nat.le_refl _)));
        clear hc hb))
    | (go_at_call 37; go_loud ((with_reducible refine Calls.mono (HPU.out w1 _ _ p HB0.out HS1.out HD1.out) ?_); rintro e w2 ⟨⟨b2, rfl, ho⟩, hx, hs⟩; rw [List.nil_append] at hs; obtain ⟨gv, he2, hg2⟩ := hs.ed; have HS2 := Lib.hid (HB0.out.trans (hs.bel.mono HB0.out.size)); have HD2 := Lib.hid ho; have HE2 := Lib.hid he2; have HG2 := Lib.hid hg2; have HBX2 := Lib.hid (blk_below HBX0.out hs.bel); clear hs ho hx he2 hg2))
    | (go_at_call 31; go_loud ((with_reducible refine Calls.mono (HFI.out _ _ _ b2 gv HS2.out HE2.out (HG2.out.low (by have := HB0.out.size; omega)) HD2.out) ?_); rintro e w3 ⟨mv, gv3, rfl, hfs, hfr⟩; have HFR := Lib.hid ((Fr.below HS2.out).trans hfr); obtain ⟨Am, cm, rfl, _⟩ := OwnRow.slice_ hfs.hmade; obtain ⟨Ag, cg, rfl, _⟩ := OwnRow.slice_ hfs.hgone; simp only [edV]; have HFS := Lib.hid hfs; have HRB := Lib.hid (FrX.typedF hfr HBX2.out); have b0 := blk_cell HRB.out 0; have b1 := blk_cell HRB.out 1; have b2' := blk_cell HRB.out 2; have b3 := blk_cell HRB.out 3; have zb0 := blk_frozen HRB.out 0; have zb1 := blk_frozen HRB.out 1; have zb2 := blk_frozen HRB.out 2; have zb3 := blk_frozen HRB.out 3; simp at b0 b1 b2' b3; clear hfs hfr))
    | (fail "no arm"))
  have HV := Lib.hid (HFS.out.box (root := ST.2.1) HRB.out (Nat.le_succ_of_le hsz) HFR.out (Nat.le_succ W.heap.size))
  generalize ((((w3.setCell ⟨W.heap.size + 1, 0, none⟩ (.int .i64 ST.2.1.s)).setCell ⟨W.heap.size + 1, 1, none⟩ (.int .i64 ST.2.1.g)).setCell ⟨W.heap.size + 1, 2, none⟩ (.slice Am ST.2.2.length cm)).setCell ⟨W.heap.size + 1, 3, none⟩ (.slice Ag TT.2.length cg)) = V2 at *
  obtain ⟨hv1, hv2, hv3⟩ := HV.out
  have q0 : V2.cell? ⟨W.heap.size + 1, 0, none⟩ = some (.int .i64 ST.2.1.s) := blk_cell hv1 0
  have q1 : V2.cell? ⟨W.heap.size + 1, 1, none⟩ = some (.int .i64 ST.2.1.g) := blk_cell hv1 1
  have q2 : V2.cell? ⟨W.heap.size + 1, 2, none⟩ = some (.slice Am ST.2.2.length cm) := blk_cell hv1 2
  have q3 : V2.cell? ⟨W.heap.size + 1, 3, none⟩ = some (.slice Ag TT.2.length cg) := blk_cell hv1 3
  have HV2 := Lib.hid hv2
  have HV3 := Lib.hid hv3
  clear hv1 hv2 hv3
  refine bodyPost_ret (v := .tuple #[edV ST.2.1 (.slice Am ST.2.2.length cm) (.slice Ag TT.2.length cg), .bool true]) (by simp [results, Try.results23, edV, go_sem, q0, q1, q2, q3]; try rfl) rfl ?_
  exact ⟨_, _, rfl, HV2.out, HV3.out⟩
/-- Nothing was made. -/
def NoEdit (W : World) (e : Ending) (w' : World) : Prop := e = .returned (.tuple #[edV H0 (.slice none 0 0) (.slice none 0 0), .bool false]) ∧ Below W.heap.size W w'
theorem edit_box {W V : World} {n : Nat} (hb : V.heap[n]? = some (Obj.cells #[.int .i64 0, .int .i64 0, .slice none 0 0, .slice none 0 0] 39 (0, 0))) (hB : Below W.heap.size W V) (hn : W.heap.size ≤ n) :
    let V' := (((V.setCell ⟨n, 0, none⟩ (.int .i64 0)).setCell ⟨n, 1, none⟩ (.int .i64 0)).setCell ⟨n, 2, none⟩ (.slice none 0 0)).setCell ⟨n, 3, none⟩ (.slice none 0 0)
    V'.heap[n]? = some (Obj.cells #[.int .i64 0, .int .i64 0, .slice none 0 0, .slice none 0 0] 39 (0, 0)) ∧ Below W.heap.size W V' := by
  intro V'
  exact ⟨blk_put (blk_put (blk_put (blk_put hb 0 (.int .i64 0) rfl) 1 (.int .i64 0) rfl) 2 (.slice none 0 0) rfl) 3 (.slice none 0 0) rfl, (((hB.setCell (p := ⟨n, 0, none⟩) hn _).setCell (p := ⟨n, 1, none⟩) hn _).setCell (p := ⟨n, 2, none⟩) hn _).setCell (p := ⟨n, 3, none⟩) hn _⟩
set_option maxHeartbeats 4000000 in
theorem mdel_no (w0 W : World) (B m aa : Nat) (a : Ar N2) (t : T2) (k : Int) (HM : MapB w0 W B m aa a) (hl : Lies a t) (av : Avl t) (hnone : (tget cmpI t k).isSome = false) :
    Calls Try.prog 23 #[.pointer (some ⟨m, 0, none⟩), hdV t.h, .int .i64 k] W (NoEdit W) := by
  have HGT := Lib.hid (fun (V : World) (hb : Below W.heap.size W V) => show Calls Try.prog 26 #[.pointer (some ⟨m, 0, none⟩), hdV t.h, .int .i64 k] V fun e w' => e = .returned (.tuple #[.int .i64 ((tget cmpI t k).getD 0), .bool false]) ∧ Below V.heap.size V w' by rw [← hnone]; exact mget_calls w0 V B m aa a t k (HM.below hb) hl av)
  generalize (tget cmpI t k).getD 0 = gd at *
  clear HM hl av hnone
  simp only [hdV] at HGT ⊢
  go_enter Try.func23, Try.ntmps23
  go_wp2_with (first
    | (go_at_call 26; go_loud (
        (with_reducible refine Calls.mono (HGT.out _ (by repeat (first | exact Below.refl _ _ | apply below_drew1 | apply below_alloc | apply pw_below_drewN))) ?_);
        rintro e w1 ⟨rfl, hb⟩;
        (have hb0 : Below W.heap.size W ((W.alloc (Obj.cells #[.int .i64 t.h.s, .int .i64 t.h.g] 28 (0, 0))).alloc (Obj.cells #[.int .i64 0, .int .i64 0, .slice none 0 0, .slice none 0 0] 39 (0, 0))) := (by repeat (first | exact Below.refl _ _ | apply below_drew1 | apply below_alloc | apply pw_below_drewN)));
        (have hbx : ((W.alloc (Obj.cells #[.int .i64 t.h.s, .int .i64 t.h.g] 28 (0, 0))).alloc (Obj.cells #[.int .i64 0, .int .i64 0, .slice none 0 0, .slice none 0 0] 39 (0, 0))).heap[W.heap.size + 1]? = some (Obj.cells #[.int .i64 0, .int .i64 0, .slice none 0 0, .slice none 0 0] 39 (0, 0)) := alloc_at (by simp [World.size_alloc]));
        have HB0 := Lib.hid (hb0.trans (hb.mono (by simp [World.size_alloc]; omega)));
        have HBX0 := Lib.hid (blk_below hbx hb);
        have zb0 := blk_frozen HBX0.out 0; have zb1 := blk_frozen HBX0.out 1; have zb2 := blk_frozen HBX0.out 2; have zb3 := blk_frozen HBX0.out 3;
        have b0 := blk_cell HBX0.out 0; have b1 := blk_cell HBX0.out 1; have b2' := blk_cell HBX0.out 2; have b3 := blk_cell HBX0.out 3;
        simp at b0 b1 b2' b3;
        clear hb hb0 hbx))
    | (fail "no arm"))
  have HV := Lib.hid (edit_box HBX0.out HB0.out (Nat.le_succ W.heap.size))
  generalize ((((w1.setCell ⟨W.heap.size + 1, 0, none⟩ (.int .i64 0)).setCell ⟨W.heap.size + 1, 1, none⟩ (.int .i64 0)).setCell ⟨W.heap.size + 1, 2, none⟩ (.slice none 0 0)).setCell ⟨W.heap.size + 1, 3, none⟩ (.slice none 0 0)) = V2 at *
  have q0 : V2.cell? ⟨W.heap.size + 1, 0, none⟩ = some (.int .i64 0) := blk_cell HV.out.1 0
  have q1 : V2.cell? ⟨W.heap.size + 1, 1, none⟩ = some (.int .i64 0) := blk_cell HV.out.1 1
  have q2 : V2.cell? ⟨W.heap.size + 1, 2, none⟩ = some (.slice none 0 0) := blk_cell HV.out.1 2
  have q3 : V2.cell? ⟨W.heap.size + 1, 3, none⟩ = some (.slice none 0 0) := blk_cell HV.out.1 3
  refine bodyPost_ret (v := .tuple #[edV H0 (.slice none 0 0) (.slice none 0 0), .bool false]) (by simp [results, Try.results23, edV, H0, go_sem, q0, q1, q2, q3]; try rfl) rfl ?_
  exact ⟨rfl, HV.out.2⟩
end Go.Proofs.Ytmhfbpdahfepgaa.Pm
