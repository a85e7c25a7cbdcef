/-
  Package pmap's store: state, frame, the easy cases; Package pmap's store: a new node; Package pmap's finish, Map.Put, Map.Del; Package pmap's finish; Package pmap's Map.Put
-/
import Derived.Test.YtmhfbpdahfepgaaB4
/- Package pmap's store: state, frame, the easy cases. -/
namespace Go.Proofs.Ytmhfbpdahfepgaa.Pm
open Go.RowKit Go.Proofs.YtmhfbpdahfepgaaW.PrintWords
attribute [local go_sem high] eqHd
/-- While a version is stored: the arena, the edit, what is handed out. -/
structure SS (w0 W : World) (B m aa eb ob : Nat) (f gv mv : Value) (a : Ar N2) (made : List Hd) : Prop where
  at_ : ∃ sv fv, AtB w0 W B aa sv fv a
  om : B ≤ ob
  hm : W.heap[m]? = some (.cells #[.pointer (some ⟨aa, 0, none⟩), f] 70 (0, 0))
  he : W.heap[eb]? = some (.cells #[.pointer (some ⟨m, 0, none⟩), gv] 74 (0, 0))
  ho : W.heap[ob]? = some (.cells #[.int .i64 0, .int .i64 0, mv, gv] 39 (0, 0))
  hmade : OwnH W B mv made
theorem SS.below {w0 W W' : World} {B m aa eb ob : Nat} {f gv mv : Value} {a : Ar N2} {made : List Hd} (h : SS w0 W B m aa eb ob f gv mv a made) (hb : Below W.heap.size W W') : SS w0 W' B m aa eb ob f gv mv a made :=
  ⟨by obtain ⟨sv, fv, h⟩ := h.at_; exact ⟨sv, fv, h.below hb⟩, h.om, blk_below h.hm hb, blk_below h.he hb, blk_below h.ho hb, OwnRow.below h.hmade hb⟩
/-- What store leaves as it was: mv, mv' are the row of what was made, ahead and behind. -/
structure FrX (ob : Nat) (mv mv' : Value) (W W' : World) : Prop where
  size : W.heap.size ≤ W'.heap.size
  row : mv'.ownBlock = mv.ownBlock ∨ ∃ b, mv'.ownBlock = some b ∧ W.heap.size ≤ b
  block : ∀ (k : Nat) (cs : Array Value) (t : TypeId), W.heap[k]? = some (.cells cs t (0, 0)) → t ≠ 84 → t ≠ 96 → t ≠ 3 → k ≠ ob → some k ≠ mv.ownBlock → W'.heap[k]? = some (.cells cs t (0, 0))
theorem FrX.refl (ob : Nat) (mv : Value) (W : World) : FrX ob mv mv W W := ⟨Nat.le_refl _, .inl rfl, fun _ _ _ h _ _ _ _ _ => h⟩
theorem FrX.trans {ob : Nat} {mv mv' mv'' : Value} {W W' W'' : World} (h : FrX ob mv mv' W W') (k : FrX ob mv' mv'' W' W'') : FrX ob mv mv'' W W'' :=
  ⟨Nat.le_trans h.size k.size, by
    rcases k.row with e | ⟨b, e, hb⟩
    · rw [e]; exact h.row
    · exact .inr ⟨b, e, Nat.le_trans h.size hb⟩,
   fun j cs t hc h1 h2 h3 h4 h5 => k.block j cs t (h.block j cs t hc h1 h2 h3 h4 h5) h1 h2 h3 h4 (by
    rcases h.row with e | ⟨b, e, hb⟩
    · rw [e]; exact h5
    · rw [e]
      have := blk_lt hc
      intro e2
      injection e2 with e2
      omega)⟩
theorem FrX.below {ob : Nat} {mv : Value} {W W' : World} (h : Below W.heap.size W W') : FrX ob mv mv W W' := ⟨h.size, .inl rfl, fun _ _ _ hc _ _ _ _ _ => blk_below hc h⟩
theorem FrX.fr {ob : Nat} {mv : Value} {W W' : World} (h : Fr W W') : FrX ob mv mv W W' := ⟨h.size, .inl rfl, fun k cs t hc h1 h2 h3 _ _ => h.block k cs t hc h1 h2 h3⟩
/-- A block of another type stays. -/
theorem FrX.typed {w0 : World} {ob B m aa eb : Nat} {f gv mv mv' : Value} {a : Ar N2} {made : List Hd} {W W' : World} (h : FrX ob mv mv' W W') (hs : SS w0 W B m aa eb ob f gv mv a made) {k : Nat} {cs : Array Value} {t : TypeId} (hc : W.heap[k]? = some (.cells cs t (0, 0))) (h1 : t ≠ 84) (h2 : t ≠ 96) (h3 : t ≠ 3) (h4 : t ≠ 39) (h5 : t ≠ 28) : W'.heap[k]? = some (.cells cs t (0, 0)) :=
  h.block k cs t hc h1 h2 h3 (typed_ne hc hs.ho h4) (OwnRow.ne_block hs.hmade hc (Ne.symm h5))
theorem FrX.den {w0 : World} {B0 ob B m aa eb : Nat} {f gv mv mv' : Value} {a a0 : Ar N2} {made : List Hd} {W W' : World} (h : FrX ob mv mv' W W') (hs : SS w0 W B m aa eb ob f gv mv a made) (t : T2) (p : Option Nat) (H : Den B0 W a0 p t) : Den B0 W' a0 p t :=
  den_keep (fun b cs hc => h.typed hs hc (by decide) (by decide) (by decide) (by decide) (by decide)) t p H
/-! ### store, plain -/
theorem store_new {a : Ar N2} {k v : Int} {l r : T2} {hi : Int} : store nd0 a (.node H0 k v l r hi) = (((store nd0 (store nd0 a l).1 r).1.put nd0 ⟨k, v, (store nd0 a l).2.1, (store nd0 (store nd0 a l).1 r).2.1, hi⟩).1, ((store nd0 (store nd0 a l).1 r).1.put nd0 ⟨k, v, (store nd0 a l).2.1, (store nd0 (store nd0 a l).1 r).2.1, hi⟩).2, (store nd0 a l).2.2 ++ (store nd0 (store nd0 a l).1 r).2.2 ++ [((store nd0 (store nd0 a l).1 r).1.put nd0 ⟨k, v, (store nd0 a l).2.1, (store nd0 (store nd0 a l).1 r).2.1, hi⟩).2]) := by
  rw [store, if_pos rfl]
theorem store_old {a : Ar N2} {h : Hd} {k v : Int} {l r : T2} {hi : Int} (hz : h ≠ H0) : store nd0 a (.node h k v l r hi) = (a, h, []) := by
  rw [store, if_neg hz]
theorem store_room : ∀ (t : T2) (a : Ar N2), (store nd0 a t).1.room = a.room - fresh t
  | .leaf, a => by simp [store, fresh]
  | .node h k v l r hi, a => by
    by_cases hz : h = H0
    · subst hz
      rw [store_new, fresh, if_pos rfl]
      dsimp only
      rw [put_room, store_room r, store_room l]
      omega
    · rw [store_old hz, fresh, if_neg hz]
      simp
theorem store_ok : ∀ (t : T2) (a : Ar N2) (G : Nat), ArOk G a → (fresh t : Int) ≤ a.room → ArOk (G + fresh t) (store nd0 a t).1
  | .leaf, a, G, ok, _ => ok
  | .node h k v l r hi, a, G, ok, hr => by
    by_cases hz : h = H0
    · subst hz
      rw [store_new]
      rw [fresh, if_pos rfl] at hr ⊢
      have h1 := store_ok l a G ok (by omega)
      have e1 := store_room l a
      have h2 := store_ok r _ _ h1 (by omega)
      have e2 := store_room r (store nd0 a l).1
      have h3 := put_ok (x := ⟨k, v, (store nd0 a l).2.1, (store nd0 (store nd0 a l).1 r).2.1, hi⟩) h2 (by omega)
      rw [show G + (1 + fresh l + fresh r) = G + fresh l + fresh r + 1 by omega]
      exact h3
    · rw [store_old hz, fresh, if_neg hz]
      exact ok
theorem store_len : ∀ (t : T2) (a : Ar N2), (store nd0 a t).2.2.length = fresh t
  | .leaf, a => rfl
  | .node h k v l r hi, a => by
    by_cases hz : h = H0
    · subst hz
      rw [store_new, fresh, if_pos rfl]
      dsimp only
      rw [List.length_append, List.length_append, store_len l, store_len r, List.length_singleton]
      omega
    · rw [store_old hz, fresh, if_neg hz]
      rfl
def StoreSays (w0 : World) (B0 B m aa eb ob : Nat) (f gv : Value) (a0 : Ar N2) (t : T2) : Prop :=
  ∀ (W : World) (mv : Value) (p : Option Nat) (a : Ar N2) (made : List Hd) (G : Nat), SS w0 W B m aa eb ob f gv mv a made → Den B0 W a0 p t → ArOk G a → G + fresh t ≤ 1000000 → (fresh t : Int) ≤ a.room → made.length + fresh t ≤ 1000000 →
    Calls Try.prog 41 #[.pointer (some ⟨eb, 0, none⟩), .pointer (p.map fun b => ⟨b, 0, none⟩), .pointer (some ⟨ob, 0, none⟩)] W fun e w' => e = .returned (hdV (store nd0 a t).2.1) ∧ ∃ mv', SS w0 w' B m aa eb ob f gv mv' (store nd0 a t).1 (made ++ (store nd0 a t).2.2) ∧ FrX ob mv mv' W w'
theorem store_leaf (w0 : World) (B0 B m aa eb ob : Nat) (f gv : Value) (a0 : Ar N2) : StoreSays w0 B0 B m aa eb ob f gv a0 .leaf := by
  intro W mv p a made G HS hd _ _ _ _
  cases hd
  have HSS := Lib.hid HS
  clear HS
  rw [show store nd0 a (.leaf : T2) = (a, H0, []) from rfl]
  simp only [Option.map_none, List.append_nil, hdV, H0]
  go_enter Try.func41, Try.ntmps41
  go_wp2
  refine (show ∀ V : World, (V.heap[W.heap.size]? = some (.cells #[.int .i64 0, .int .i64 0] 28 (0, 0)) ∧ Below W.heap.size W V) → bodyPost _ _ _ _ _ V from fun V h => ?_) _ ⟨blk_new _ _, (by repeat (first | exact Below.refl _ _ | apply below_drew1 | apply below_alloc | apply pw_below_drewN))⟩
  obtain ⟨hG, hB⟩ := h
  have q0 : V.cell? ⟨W.heap.size, 0, none⟩ = some (.int .i64 0) := blk_cell hG 0
  have q1 : V.cell? ⟨W.heap.size, 1, none⟩ = some (.int .i64 0) := blk_cell hG 1
  have HB := Lib.hid hB
  clear hG hB
  refine bodyPost_ret (by simp [results, Try.results41, go_sem, q0, q1]; try rfl) rfl ?_
  exact ⟨rfl, mv, HSS.out.below HB.out, FrX.below HB.out⟩
theorem store_old_calls (w0 : World) (B0 B m aa eb ob : Nat) (f gv : Value) (a0 : Ar N2) (h : Hd) (k v : Int) (l r : T2) (hi : Int) (hz : h ≠ H0) : StoreSays w0 B0 B m aa eb ob f gv a0 (.node h k v l r hi) := by
  intro W mv p a made G HS hd _ _ _ _
  obtain ⟨b, rfl, _, hlt, c0, c1⟩ := den_head hd
  have hne := hd_ne hz
  have HSS := Lib.hid HS
  rw [store_old hz]
  clear HS hz hd
  simp only [Option.map_some, List.append_nil, hdV]
  go_enter Try.func41, Try.ntmps41
  go_wp2
  refine (show ∀ V : World, (V.heap[W.heap.size]? = some (.cells #[.int .i64 h.s, .int .i64 h.g] 28 (0, 0)) ∧ Below W.heap.size W V) → bodyPost _ _ _ _ _ V from fun V hV => ?_) _ ⟨blk_new _ _, (by repeat (first | exact Below.refl _ _ | apply below_drew1 | apply below_alloc | apply pw_below_drewN))⟩
  obtain ⟨hG, hB⟩ := hV
  have q0 : V.cell? ⟨W.heap.size, 0, none⟩ = some (.int .i64 h.s) := blk_cell hG 0
  have q1 : V.cell? ⟨W.heap.size, 1, none⟩ = some (.int .i64 h.g) := blk_cell hG 1
  have HB := Lib.hid hB
  clear hG hB
  refine bodyPost_ret (by simp [results, Try.results41, go_sem, q0, q1]; try rfl) rfl ?_
  exact ⟨rfl, mv, HSS.out.below HB.out, FrX.below HB.out⟩
end Go.Proofs.Ytmhfbpdahfepgaa.Pm
/- Package pmap's store: a new node. -/
namespace Go.Proofs.Ytmhfbpdahfepgaa.Pm
open Go.RowKit Go.Proofs.YtmhfbpdahfepgaaW.PrintWords
attribute [local go_sem high] eqHd
theorem SS.setN {w0 W : World} {B m aa eb ob n : Nat} {f gv mv : Value} {a : Ar N2} {made : List Hd} {cs : Array Value} (h : SS w0 W B m aa eb ob f gv mv a made) (hb : W.heap[n]? = some (.cells cs 44 (0, 0))) (hB : B ≤ n) (j : Nat) (u : Value) : SS w0 (W.setCell ⟨n, j, none⟩ u) B m aa eb ob f gv mv a made :=
  ⟨by obtain ⟨sv, fv, h⟩ := h.at_; exact ⟨sv, fv, h.set hb (by decide) (by decide) (by decide) hB j u⟩, h.om,
   (Below.heap_setCell W ⟨n, j, none⟩ u m (typed_ne h.hm hb (by decide))).trans h.hm, (Below.heap_setCell W ⟨n, j, none⟩ u eb (typed_ne h.he hb (by decide))).trans h.he, (Below.heap_setCell W ⟨n, j, none⟩ u ob (typed_ne h.ho hb (by decide))).trans h.ho, OwnRow.set_ h.hmade hb (by decide) j u⟩
theorem FrX.new {ob : Nat} {mv mv' : Value} {W V : World} (h : FrX ob mv mv' W V) {b : Nat} (hb : W.heap.size ≤ b) (j : Nat) (u : Value) : FrX ob mv mv' W (V.setCell ⟨b, j, none⟩ u) :=
  ⟨by simpa using h.size, h.row, fun k cs t hc h1 h2 h3 h4 h5 => (Below.heap_setCell V ⟨b, j, none⟩ u k (by have := blk_lt hc; show k ≠ b; omega)).trans (h.block k cs t hc h1 h2 h3 h4 h5)⟩
theorem den_setN {B0 n : Nat} {W : World} {a0 : Ar N2} {cs : Array Value} (hb : W.heap[n]? = some (.cells cs 44 (0, 0))) (j : Nat) (u : Value) {t : T2} {p : Option Nat} (H : Den B0 W a0 p t) : Den B0 (W.setCell ⟨n, j, none⟩ u) a0 p t :=
  den_keep (fun b cs' hc => (Below.heap_setCell W ⟨n, j, none⟩ u b (typed_ne hc hb (by decide))).trans hc) t p H
theorem own_fr {W W' : World} {B size n : Nat} {e : TypeId} {v : Value} {xs : List Value} (h : W.ownsRow B e size v n xs) (hF : Fr W W') (h1 : e ≠ 84) (h2 : e ≠ 96) (h3 : e ≠ 3) : W'.ownsRow B e size v n xs := by
  obtain ⟨hl, h | ⟨g, cap, cur, hv, hg, hc, r⟩⟩ := h
  · exact ⟨hl, .inl h⟩
  · exact ⟨hl, .inr ⟨g, cap, cur, hv, hg, hF.block g cur e hc h1 h2 h3, r⟩⟩
theorem SS.fr {w0 W W' : World} {B m aa eb ob : Nat} {f gv mv sv fv : Value} {a a' : Ar N2} {made : List Hd} (h : SS w0 W B m aa eb ob f gv mv a made) (hF : Fr W W') (hA : AtB w0 W' B aa sv fv a') : SS w0 W' B m aa eb ob f gv mv a' made :=
  ⟨⟨sv, fv, hA⟩, h.om, hF.block _ _ _ h.hm (by decide) (by decide) (by decide), hF.block _ _ _ h.he (by decide) (by decide) (by decide), hF.block _ _ _ h.ho (by decide) (by decide) (by decide), by
    obtain ⟨inner, ho, hr⟩ := h.hmade
    exact ⟨inner, own_fr ho hF (by decide) (by decide) (by decide), hr⟩⟩
theorem own_not {W : World} {B : Nat} {mv : Value} {made : List Hd} (h : OwnH W B mv made) : some W.heap.size ≠ mv.ownBlock := by
  obtain ⟨inner, ho, _⟩ := h
  intro e
  have := (ho.lt W.heap.size e.symm).2
  omega
theorem SS.sz {w0 W : World} {B m aa eb ob : Nat} {f gv mv : Value} {a : Ar N2} {made : List Hd} (h : SS w0 W B m aa eb ob f gv mv a made) : B ≤ W.heap.size := by obtain ⟨_, _, h⟩ := h.at_; exact h.sz
theorem FrX.not {ob : Nat} {mv mv' : Value} {W W' : World} (h : FrX ob mv mv' W W') {b : Nat} (hb : b < W.heap.size) (hn : some b ≠ mv.ownBlock) : some b ≠ mv'.ownBlock := by
  rcases h.row with e | ⟨b', e, hb'⟩
  · rw [e]; exact hn
  · rw [e]
    intro e2
    injection e2 with e2
    omega
/-- A block that isn't the row of what was made, nor the box of what is handed out. -/
theorem FrX.box {w0 : World} {ob B m aa eb : Nat} {f gv mv mv' : Value} {a : Ar N2} {made : List Hd} {W W' : World} (h : FrX ob mv mv' W W') (hs : SS w0 W B m aa eb ob f gv mv a made) {k : Nat} {cs : Array Value} (hc : W.heap[k]? = some (.cells cs 28 (0, 0))) (hn : some k ≠ mv.ownBlock) : W'.heap[k]? = some (.cells cs 28 (0, 0)) ∧ some k ≠ mv'.ownBlock :=
  ⟨h.block k cs _ hc (by decide) (by decide) (by decide) (typed_ne hc hs.ho (by decide)) hn, h.not (blk_lt hc) hn⟩
theorem SS.setH {w0 W : World} {B m aa eb ob n : Nat} {f gv mv : Value} {a : Ar N2} {made : List Hd} {cs : Array Value} (h : SS w0 W B m aa eb ob f gv mv a made) (hb : W.heap[n]? = some (.cells cs 28 (0, 0))) (hB : B ≤ n) (hn : some n ≠ mv.ownBlock) (j : Nat) (u : Value) : SS w0 (W.setCell ⟨n, j, none⟩ u) B m aa eb ob f gv mv a made :=
  ⟨by obtain ⟨sv, fv, h⟩ := h.at_; exact ⟨sv, fv, h.set hb (by decide) (by decide) (by decide) hB j u⟩, h.om,
   blk_far h.hm (typed_ne h.hm hb (by decide)) u, blk_far h.he (typed_ne h.he hb (by decide)) u, blk_far h.ho (typed_ne h.ho hb (by decide)) u, by
    obtain ⟨inner, ho, hr⟩ := h.hmade
    exact ⟨inner, own_setCell ho hn u, hr⟩⟩
theorem SS.out_lt {w0 W : World} {B m aa eb ob : Nat} {f gv mv : Value} {a : Ar N2} {made : List Hd} (h : SS w0 W B m aa eb ob f gv mv a made) {n : Nat} (hn : W.heap.size ≤ n) : some n ≠ mv.ownBlock := by
  obtain ⟨inner, ho, _⟩ := h.hmade
  intro e
  have := (ho.lt n e.symm).2
  omega
/-- One more was made. -/
theorem SS.append {w0 wc w8 : World} {B m aa eb ob : Nat} {f gv mv v8 : Value} {a : Ar N2} {made : List Hd} {h : Hd} (hs : SS w0 wc B m aa eb ob f gv mv a made) (ho : OwnH w8 B v8 (made ++ [h])) (hb : Below B w0 w8) (hg : wc.drew.grownBy w8 mv.ownBlock) (hat : v8.ownBlock = mv.ownBlock ∨ ∃ b, v8.ownBlock = some b ∧ wc.heap.size ≤ b) :
    SS w0 (w8.setCell ⟨ob, 2, none⟩ v8) B m aa eb ob f gv v8 a (made ++ [h]) ∧ FrX ob mv v8 wc (w8.setCell ⟨ob, 2, none⟩ v8) := by
  have kb : ∀ (k : Nat) (cs : Array Value) (t : TypeId), wc.heap[k]? = some (.cells cs t (0, 0)) → some k ≠ mv.ownBlock → w8.heap[k]? = some (.cells cs t (0, 0)) := fun k cs t hc hn => (hg.block k (blk_lt hc) hn).trans hc
  have nH : ∀ {k : Nat} {cs : Array Value} {t : TypeId}, wc.heap[k]? = some (.cells cs t (0, 0)) → 28 ≠ t → w8.heap[k]? = some (.cells cs t (0, 0)) := fun hc ht => kb _ _ _ hc (OwnRow.ne_block hs.hmade hc ht)
  obtain ⟨sv, fv, H⟩ := hs.at_
  obtain ⟨inner, hown, hrep⟩ := H.hs
  obtain ⟨innm, hownm, _⟩ := hs.hmade
  have hz : wc.heap.size ≤ w8.heap.size := hg.size
  have ho8 := nH hs.ho (by decide)
  have A8 : AtB w0 w8 B aa sv fv a := ⟨hb, Nat.le_trans H.sz hz, H.ge, nH H.ha (by decide), ⟨inner, own_other (show wc.drew.ownsRow _ _ _ _ _ _ from hown) hg (own_type_ne hown hownm (by decide)), hrep⟩, own_other (show wc.drew.ownsRow _ _ _ _ _ _ from H.hf) hg (own_type_ne H.hf hownm (by decide))⟩
  exact ⟨⟨⟨sv, fv, A8.set ho8 (by decide) (by decide) (by decide) hs.om 2 v8⟩, hs.om, blk_far (nH hs.hm (by decide)) (typed_ne hs.hm hs.ho (by decide)) _, blk_far (nH hs.he (by decide)) (typed_ne hs.he hs.ho (by decide)) _, blk_put ho8 2 v8 rfl, OwnRow.set_ ho ho8 (by decide) 2 v8⟩,
    ⟨by simpa using hz, hat, fun k cs t hc _ _ _ h4 h5 => blk_far (kb k cs t hc h5) h4 _⟩⟩
set_option maxHeartbeats 16000000 in
theorem store_new_calls (w0 : World) (B0 B m aa eb ob : Nat) (f gv : Value) (a0 : Ar N2) (k v : Int) (l r : T2) (hi : Int) (il : StoreSays w0 B0 B m aa eb ob f gv a0 l) (ir : StoreSays w0 B0 B m aa eb ob f gv a0 r) : StoreSays w0 B0 B m aa eb ob f gv a0 (.node H0 k v l r hi) := by
  intro W mv p a made G HS hd ok hG hr hm
  obtain ⟨b, rfl, _, hlt, c0, c1⟩ := den_head hd
  obtain ⟨b', e, hB, pl, pr, h1, h2, h3⟩ := den_new hd
  cases e
  simp only [H0] at c0 c1
  have c3 : W.cell? ⟨b, 3, none⟩ = some (.int .i64 k) := blk_cell h1 3
  have c4 : W.cell? ⟨b, 4, none⟩ = some (.int .i64 v) := blk_cell h1 4
  have c5 := oc5 h1
  have c6 := oc6 h1
  have c7 : W.cell? ⟨b, 7, none⟩ = some (.int .i64 hi) := blk_cell h1 7
  rw [show fresh (.node H0 k v l r hi : T2) = 1 + fresh l + fresh r by rw [fresh, if_pos rfl]] at hG hr hm
  rw [store_new]
  dsimp only
  have er := store_room l a
  have okl := store_ok l a G ok (by omega)
  have lel := store_len l a
  have er2 := store_room r (store nd0 a l).1
  have okr := store_ok r _ _ okl (by omega)
  have ler := store_len r (store nd0 a l).1
  have HIL := Lib.hid (fun (V : World) (mv : Value) (hs : SS w0 V B m aa eb ob f gv mv a made) (hd : Den B0 V a0 pl l) => il V mv pl a made G hs hd ok (by omega) (by omega) (by omega))
  have HIR := Lib.hid (fun (V : World) (mv : Value) (hs : SS w0 V B m aa eb ob f gv mv (store nd0 a l).1 (made ++ (store nd0 a l).2.2)) (hd : Den B0 V a0 pr r) => ir V mv pr _ _ (G + fresh l) hs hd okl (by omega) (by omega) (by rw [List.length_append]; omega))
  have HPU := Lib.hid (fun (V : World) (sv fv : Value) (x : N2) (hs : AtB w0 V B aa sv fv (store nd0 (store nd0 a l).1 r).1) => arput_calls w0 V B aa sv fv _ x (G + fresh l + fresh r) hs (by omega) okr (by omega))
  have HS0 := Lib.hid HS
  have HI := Lib.hid h1
  have HL := Lib.hid h2
  have HR := Lib.hid h3
  have HB := Lib.hid (Below.refl W.heap.size W)
  have hBW := HS.sz
  have hll : (made ++ (store nd0 a l).2.2 ++ (store nd0 (store nd0 a l).1 r).2.2).length + 1 ≤ 1000000 := by rw [List.length_append, List.length_append]; omega
  clear er okl lel er2 okr ler HS h1 h2 h3 hd il ir ok hG hr hm
  generalize (store nd0 (store nd0 a l).1 r) = SR at *
  generalize (store nd0 a l) = SL at *
  simp only [Option.map_some, hdV] at *
  go_enter Try.func41, Try.ntmps41
  go_wp2
  go_region
  go_wp2_with (first
    | (go_at_call 41; go_loud ((with_reducible refine Calls.mono (HIL.out _ mv (HS0.out.below (by repeat (first | exact Below.refl _ _ | apply below_drew1 | apply below_alloc | apply pw_below_drewN))) ((Ext.below (by repeat (first | exact Below.refl _ _ | apply below_drew1 | apply below_alloc | apply pw_below_drewN))).den _ _ HL.out)) ?_); rintro e w1 ⟨rfl, mv1, hs1, hx1⟩; have hv0 := HS0.out.below (W' := ((W.alloc (.cells #[.int .i64 0, .int .i64 0] 28)).alloc (.cells #[.int .i64 k, .int .i64 v, .int .i64 0, .int .i64 0, .int .i64 0, .int .i64 0, .int .i64 hi] 44)).drew) (by repeat (first | exact Below.refl _ _ | apply below_drew1 | apply below_alloc | apply pw_below_drewN)); have HN1 := Lib.hid (hx1.typed hv0 (k := W.heap.size + 1) (cs := #[.int .i64 k, .int .i64 v, .int .i64 0, .int .i64 0, .int .i64 0, .int .i64 0, .int .i64 hi]) (t := 44) (by have h := blk_new (W.alloc (.cells #[.int .i64 0, .int .i64 0] 28)) (.cells #[.int .i64 k, .int .i64 v, .int .i64 0, .int .i64 0, .int .i64 0, .int .i64 0, .int .i64 hi] 44); rw [World.size_alloc] at h; exact h) (by decide) (by decide) (by decide) (by decide) (by decide)); have HI1 := Lib.hid (hx1.typed hv0 (blk_below HI.out (by repeat (first | exact Below.refl _ _ | apply below_drew1 | apply below_alloc | apply pw_below_drewN))) (by decide) (by decide) (by decide) (by decide) (by decide)); have HR1 := Lib.hid (hx1.den hv0 _ _ ((Ext.below (by repeat (first | exact Below.refl _ _ | apply below_drew1 | apply below_alloc | apply pw_below_drewN))).den _ _ HR.out)); have HRB := Lib.hid (hx1.block W.heap.size #[.int .i64 0, .int .i64 0] 28 (blk_drew (blk_alloc (blk_new _ _) _)) (by decide) (by decide) (by decide) (typed_ne (blk_drew (blk_alloc (blk_new _ _) _)) hv0.ho (by decide)) (own_not HS0.out.hmade)); have HO1 := Lib.hid (show some W.heap.size ≠ mv1.ownBlock by rcases hx1.row with e | ⟨b', e, hb'⟩; (rw [e]; exact own_not HS0.out.hmade); (rw [e]; intro e2; injection e2 with e2; simp [World.size_alloc] at hb'; omega)); have HS1 := Lib.hid hs1; have HX1 := Lib.hid (FrX.trans (FrX.below (W := W) (by repeat (first | exact Below.refl _ _ | apply below_drew1 | apply below_alloc | apply pw_below_drewN))) hx1); have d6 := oc6 HI1.out; have n2 := blk_cell HN1.out 2; have n3 := blk_cell HN1.out 3; have z2 := blk_frozen HN1.out 2; have z3 := blk_frozen HN1.out 3; clear hs1 hx1 hv0))
    | (go_at_call 41; go_loud ((have hv1 := (HS1.out.setN HN1.out (by omega) 2 (.int .i64 SL.2.1.s)).setN (blk_put HN1.out 2 (.int .i64 SL.2.1.s) rfl) (by omega) 3 (.int .i64 SL.2.1.g)); with_reducible refine Calls.mono (HIR.out _ mv1 hv1 (den_setN (blk_put HN1.out 2 (.int .i64 SL.2.1.s) rfl) 3 (.int .i64 SL.2.1.g) (den_setN HN1.out 2 (.int .i64 SL.2.1.s) HR1.out))) ?_; rintro e w2 ⟨rfl, mv2, hs2, hx2⟩; have HX9 := hx2.box hv1 (blk_far (blk_far HRB.out (Nat.ne_of_lt (Nat.lt_succ_self W.heap.size)) (.int .i64 SL.2.1.s)) (Nat.ne_of_lt (Nat.lt_succ_self W.heap.size)) (.int .i64 SL.2.1.g)) HO1.out; have HRB2 := Lib.hid HX9.1; have HO2 := Lib.hid HX9.2; clear HX9; have HN2 := Lib.hid (hx2.typed hv1 (blk_put (blk_put HN1.out 2 (.int .i64 SL.2.1.s) rfl) 3 (.int .i64 SL.2.1.g) rfl) (by decide) (by decide) (by decide) (by decide) (by decide)); have HS2 := Lib.hid hs2; clear hv1; have HX2 := Lib.hid hx2; have n4 := blk_cell HN2.out 4; have n5 := blk_cell HN2.out 5; have z4 := blk_frozen HN2.out 4; have z5 := blk_frozen HN2.out 5; clear hs2 hx2))
    | (fail "no arm"))
  have HNV := Lib.hid (blk_put (blk_put HN2.out 4 (.int .i64 SR.2.1.s) rfl) 5 (.int .i64 SR.2.1.g) rfl)
  have HSV := Lib.hid ((HS2.out.setN HN2.out (by omega) 4 (.int .i64 SR.2.1.s)).setN (blk_put HN2.out 4 (.int .i64 SR.2.1.s) rfl) (by omega) 5 (.int .i64 SR.2.1.g))
  have HXV := Lib.hid (FrX.new (FrX.new (FrX.trans (FrX.new (FrX.new HX1.out (Nat.le_succ W.heap.size) 2 (.int .i64 SL.2.1.s)) (Nat.le_succ W.heap.size) 3 (.int .i64 SL.2.1.g)) HX2.out) (Nat.le_succ W.heap.size) 4 (.int .i64 SR.2.1.s)) (Nat.le_succ W.heap.size) 5 (.int .i64 SR.2.1.g))
  have HRV := Lib.hid (blk_far (blk_far HRB2.out (show W.heap.size ≠ (Addr.mk (W.heap.size + 1) 4 none).block by show W.heap.size ≠ W.heap.size + 1; omega) (.int .i64 SR.2.1.s)) (show W.heap.size ≠ (Addr.mk (W.heap.size + 1) 5 none).block by show W.heap.size ≠ W.heap.size + 1; omega) (.int .i64 SR.2.1.g))
  generalize (World.setCell (World.setCell w2 ⟨W.heap.size + 1, 4, none⟩ (.int .i64 SR.2.1.s)) ⟨W.heap.size + 1, 5, none⟩ (.int .i64 SR.2.1.g)) = V2 at *
  have v0 := blk_cell HNV.out 0
  have v1 := blk_cell HNV.out 1
  have v2 := blk_cell HNV.out 2
  have v3 := blk_cell HNV.out 3
  have v4 := blk_cell HNV.out 4
  have v5 := blk_cell HNV.out 5
  have v6 := blk_cell HNV.out 6
  simp at v0 v1 v2 v3 v4 v5 v6
  have u0 := blk_cell HSV.out.he 0
  have u1 := blk_cell HSV.out.hm 0
  simp at u0 u1
  obtain ⟨sv2, fv2, hat2⟩ := HSV.out.at_
  have HAT := Lib.hid hat2
  clear hat2 HB
  have HB := Lib.hid (Below.refl V2.heap.size V2)
  have hlt1 := blk_lt HNV.out
  have hlt2 := blk_lt HSV.out.he
  have hlt3 := blk_lt HSV.out.hm
  have hB2 := HSV.out.sz
  have HPP := Lib.hid (HPU.out (x := ⟨k, v, SL.2.1, SR.2.1, hi⟩))
  generalize hPE : (SR.1.put nd0 ⟨k, v, SL.2.1, SR.2.1, hi⟩) = PP at *
  have HPE := Lib.hid hPE
  clear hPE
  simp only [ndV] at HPP
  go_cut [8] from 52 to 64 (fun v wx => ∃ hb sv3 fv3, v = .pointer (some ⟨hb, 0, none⟩) ∧ V2.heap.size ≤ hb ∧ Hid (wx.heap[hb]? = some (.cells #[.int .i64 PP.2.s, .int .i64 PP.2.g] 28 (0, 0))) ∧ Hid (Fr V2 wx) ∧ Hid (AtB w0 wx B aa sv3 fv3 PP.1))
  case first =>
    go_region_with (first
      | (go_at_call 47; go_loud ((refine Calls.mono (HPP.out _ sv2 fv2 (HAT.out.below (by repeat (first | (with_reducible exact HB.out) | apply below_alloc | apply pw_below_drewN | apply below_drew1 | exact HB.out)))) ?_); rintro e w3 ⟨rfl, ⟨sv3, fv3, hat3⟩, hfr⟩; have HA3 := Lib.hid hat3; have HF3 := Lib.hid (Fr.trans (Fr.below (W := V2) (by repeat (first | (with_reducible exact HB.out) | apply below_alloc | apply pw_below_drewN | apply below_drew1 | exact HB.out))) hfr); (try (have G := Lib.hid (show w3.heap[V2.heap.size]? = some (.cells #[.int .i64 0, .int .i64 0] 28 (0, 0)) by refine hfr.block _ _ _ ?_ (by decide) (by decide) (by decide); exact blk_new V2 _); have p0 := blk_cell G.out 0; have p1 := blk_cell G.out 1; have z0 := blk_frozen G.out 0; have z1 := blk_frozen G.out 1)); clear hat3 hfr))
      | (fail "no arm"))
    all_goals
      go_wp2
      go_meet
      first
        | exact ⟨w3.heap.size, sv3, fv3, rfl, HF3.out.size, Lib.hid (blk_new _ _), Lib.hid (HF3.out.trans (Fr.below (below_alloc (Below.refl _ _) _))), Lib.hid (HA3.out.below (below_alloc (Below.refl _ _) _))⟩
        | exact ⟨V2.heap.size, sv3, fv3, rfl, Nat.le_refl _, Lib.hid (blk_put (blk_put G.out 0 (.int .i64 PP.2.s) rfl) 1 (.int .i64 PP.2.g) rfl), Lib.hid (Fr.new (Fr.new HF3.out (Nat.le_refl _) 0 _) (Nat.le_refl _) 1 _), Lib.hid (AtB.set (AtB.set HA3.out G.out (by decide) (by decide) (by decide) hB2 0 (.int .i64 PP.2.s)) (blk_put G.out 0 (.int .i64 PP.2.s) rfl) (by decide) (by decide) (by decide) hB2 1 (.int .i64 PP.2.g))⟩
  case rest =>
    obtain ⟨hbk, sv3, fv3, rfl, hge, HRC, HFC, HAC⟩ := hcut
    have HSC := Lib.hid (HSV.out.fr HFC.out HAC.out)
    have HXC := Lib.hid (FrX.trans HXV.out (FrX.fr (mv := mv2) HFC.out))
    have HBC := Lib.hid (HFC.out.block _ _ _ HRV.out (by decide) (by decide) (by decide))
    have HM2 := Lib.hid HSC.out.hmade
    clear HB
    have HB := Lib.hid HAC.out.bel
    have hsz := HAC.out.sz
    have HOE := Lib.hid HSC.out.ho
    have g2 := blk_cell HOE.out 2
    have p0 := blk_cell HRC.out 0
    have p1 := blk_cell HRC.out 1
    simp at g2 p0 p1
    have hne2 := Lib.hid (OwnRow.ne_block HM2.out HOE.out (by decide))
    have hne3 := Lib.hid (typed_ne HRC.out HOE.out (by decide))
    have hlto := blk_lt HOE.out
    generalize hMD : made ++ SL.2.2 ++ SR.2.2 = MD at *
    have HMD := Lib.hid hMD
    clear hMD
    obtain ⟨A2, c2, rfl, _⟩ := OwnRow.slice_ HM2.out
    go_wp2
    go_region_law (go_loud ((refine OwnRow.append_step (R := fun h cs => cs = hdC h) (w0 := w0) (W := wc.drew) B rfl (.tmp 68) (.tmp 70) 32 28 _ 2 16 rfl Try.underlying32 hdInfo rfl (by decide) (by decide) _ MD PP.2 [.int .i64 PP.2.s, .int .i64 PP.2.g] (by rfl) (by simp [Act.eval]) rfl rfl (by simp [Value.oneCell']) HM2.out (below_drew1 HB.out) hsz ?hl ?_; (case hl => omega); intro v8 w8 ho hb hg hat; obtain ⟨A8, c8, rfl, _⟩ := OwnRow.slice_ ho; have HO8 := Lib.hid ho; have HB8 := Lib.hid hb; have HG8 := Lib.hid hg; have HT8 := Lib.hid hat; have HE8 := Lib.hid (show w8.heap[ob]? = _ from (hg.block ob (by simpa using hlto) hne2.out).trans HOE.out); have z1 := blk_frozen HE8.out 2; have k1 := blk_cell HE8.out 2; simp at k1; clear ho hb hg hat)))
    all_goals
      have hS9 := SS.append HSC.out HO8.out HB8.out HG8.out HT8.out
      rw [show (MD ++ [PP.2]).length = MD.length + 1 by rw [List.length_append, List.length_singleton]] at hS9
      have HS9 := Lib.hid hS9.1
      have HX9 := Lib.hid (HXC.out.trans hS9.2)
      have HR9 := Lib.hid (blk_far ((HG8.out.block hbk (blk_lt HRC.out) (HSV.out.out_lt hge)).trans HRC.out) (show hbk ≠ (Addr.mk ob 2 none).block from hne3.out) (.slice A8 (MD.length + 1) c8))
      have HY9 := Lib.hid (hS9.2.box HSC.out HBC.out HO2.out)
      clear hS9
      generalize (w8.setCell ⟨ob, 2, none⟩ (.slice A8 (MD.length + 1) c8)) = V9 at *
      have r0 := blk_cell HR9.out 0
      have r1 := blk_cell HR9.out 1
      have z0 := blk_frozen HY9.out.1 0
      have z1 := blk_frozen HY9.out.1 1
      have y0 := blk_cell HY9.out.1 0
      have y1 := blk_cell HY9.out.1 1
      simp at r0 r1 y0 y1
      have hltr := blk_lt HY9.out.1
      clear k1 g2 p0 p1 v0 v1 v2 v3 v4 v5 v6 u0 u1 d6 n2 n3 n4 n5
      go_wp2
      refine (show ∀ V : World, (V.heap[W.heap.size]? = some (.cells #[.int .i64 PP.2.s, .int .i64 PP.2.g] 28 (0, 0)) ∧ SS w0 V B m aa eb ob f gv (.slice A8 (MD.length + 1) c8) PP.1 (MD ++ [PP.2]) ∧ FrX ob mv (.slice A8 (MD.length + 1) c8) W V) → bodyPost _ _ _ _ _ V from fun V hV => ?_) _ ⟨blk_put (blk_put HY9.out.1 0 (.int .i64 PP.2.s) rfl) 1 (.int .i64 PP.2.g) rfl, (HS9.out.setH HY9.out.1 hBW HY9.out.2 0 (.int .i64 PP.2.s)).setH (blk_put HY9.out.1 0 (.int .i64 PP.2.s) rfl) hBW HY9.out.2 1 (.int .i64 PP.2.g), FrX.new (FrX.new HX9.out (Nat.le_refl _) 0 (.int .i64 PP.2.s)) (Nat.le_refl _) 1 (.int .i64 PP.2.g)⟩
      obtain ⟨hG, hS, hX⟩ := hV
      have q0 : V.cell? ⟨W.heap.size, 0, none⟩ = some (.int .i64 PP.2.s) := blk_cell hG 0
      have q1 : V.cell? ⟨W.heap.size, 1, none⟩ = some (.int .i64 PP.2.g) := blk_cell hG 1
      have HS' := Lib.hid hS
      have HX' := Lib.hid hX
      clear hG hS hX
      refine bodyPost_ret (by simp [results, Try.results41, go_sem, q0, q1]; try rfl) rfl ?_
      rw [HPE.out, show made ++ (SL.2.2 ++ SR.2.2 ++ [PP.2]) = MD ++ [PP.2] by rw [← HMD.out]; simp only [List.append_assoc]]
      exact ⟨rfl, _, HS'.out, HX'.out⟩
theorem store_calls (w0 : World) (B0 B m aa eb ob : Nat) (f gv : Value) (a0 : Ar N2) : ∀ t : T2, StoreSays w0 B0 B m aa eb ob f gv a0 t
  | .leaf => store_leaf w0 B0 B m aa eb ob f gv a0
  | .node h k v l r hi => by
    by_cases hz : h = H0
    · subst hz
      exact store_new_calls w0 B0 B m aa eb ob f gv a0 k v l r hi (store_calls w0 B0 B m aa eb ob f gv a0 l) (store_calls w0 B0 B m aa eb ob f gv a0 r)
    · exact store_old_calls w0 B0 B m aa eb ob f gv a0 h k v l r hi hz
end Go.Proofs.Ytmhfbpdahfepgaa.Pm
/- Package pmap's finish, Map.Put, Map.Del. -/
namespace Go.Proofs.Ytmhfbpdahfepgaa.Pm
open Go.RowKit Go.Proofs.YtmhfbpdahfepgaaW.PrintWords
attribute [local go_sem high] eqHd
/-- A map in block m, behind B; since w0 nothing ahead of B was changed. -/
structure MapB (w0 W : World) (B m aa : Nat) (a : Ar N2) : Prop where
  at_ : ∃ sv fv, AtB w0 W B aa sv fv a
  hm : W.heap[m]? = some (.cells #[.pointer (some ⟨aa, 0, none⟩), cmpF] 70 (0, 0))
  bm : B ≤ m
theorem MapB.below {w0 W W' : World} {B m aa : Nat} {a : Ar N2} (h : MapB w0 W B m aa a) (hb : Below W.heap.size W W') : MapB w0 W' B m aa a :=
  ⟨by obtain ⟨sv, fv, h⟩ := h.at_; exact ⟨sv, fv, h.below hb⟩, blk_below h.hm hb, h.bm⟩
theorem MapB.bel {w0 W : World} {B m aa : Nat} {a : Ar N2} (h : MapB w0 W B m aa a) : Below B w0 W := by obtain ⟨_, _, h⟩ := h.at_; exact h.bel
theorem MapB.sz {w0 W : World} {B m aa : Nat} {a : Ar N2} (h : MapB w0 W B m aa a) : B ≤ W.heap.size := by obtain ⟨_, _, h⟩ := h.at_; exact h.sz
theorem MapB.drew {w0 W : World} {B m aa : Nat} {a : Ar N2} (h : MapB w0 W B m aa a) (n : Nat) : MapB w0 (W.drewN n) B m aa a := h.below (pw_below_drewN (Below.refl _ _) n)
theorem own_low {W : World} {B B' size n : Nat} {e : TypeId} {v : Value} {xs : List Value} (h : W.ownsRow B e size v n xs) (hb : B' ≤ B) : W.ownsRow B' e size v n xs := by
  obtain ⟨hl, h | ⟨g, cap, cur, hv, hg, hc, r⟩⟩ := h
  · exact ⟨hl, .inl h⟩
  · exact ⟨hl, .inr ⟨g, cap, cur, hv, Nat.le_trans hb hg, hc, r⟩⟩
theorem MapB.mapAt {w0 W : World} {B m aa : Nat} {a : Ar N2} (h : MapB w0 W B m aa a) : ∃ sv fv, MapAt W m aa cmpF sv fv a := by
  obtain ⟨sv, fv, H⟩ := h.at_
  refine ⟨sv, fv, h.hm, H.ha, ?_, own_low H.hf (Nat.zero_le _)⟩
  obtain ⟨inner, ho, hr⟩ := H.hs
  exact ⟨inner, own_low ho (Nat.zero_le _), hr⟩
theorem mroom_calls (w0 W : World) (B m aa : Nat) (a : Ar N2) (H : MapB w0 W B m aa a) (hs : Small a) :
    Calls Try.prog 20 #[.pointer (some ⟨m, 0, none⟩)] W fun e w' => e = .returned (.int .i64 a.room) ∧ ∃ n, w' = W.drewN n := by
  have c0 : W.cell? ⟨m, 0, none⟩ = some (.pointer (some ⟨aa, 0, none⟩)) := blk_cell H.hm 0
  obtain ⟨sv, fv, h⟩ := H.at_
  have HR := Lib.hid (room_calls w0 W B aa sv fv a h hs)
  clear h H hs
  generalize a.room = R at *
  go_enter Try.func20, Try.ntmps20
  go_wp2_with (first
    | (go_at_call 36; go_loud ((with_reducible refine Calls.mono HR.out ?_); rintro e w1 ⟨rfl, n, rfl⟩))
    | (fail "no arm"))
  go_ret
  exact ⟨rfl, n, rfl⟩
theorem alive_calls (w0 W : World) (B aa : Nat) (sv fv : Value) (a : Ar N2) (H : AtB w0 W B aa sv fv a) (hs : Small a) :
    Calls Try.prog 34 #[.pointer (some ⟨aa, 0, none⟩)] W fun e w' => e = .returned (.int .i64 (a.most - a.room)) ∧ ∃ n, w' = W.drewN n := by
  have c0 : W.cell? ⟨aa, 0, none⟩ = some (.int .i64 a.most) := blk_cell H.ha 0
  have HR := Lib.hid (fun (n : Nat) => Calls.quiet_of (room_calls w0 (W.drewN n) B aa sv fv a (H.below (pw_below_drewN (Below.refl _ _) n)) hs))
  have e1 : IntKind.i64.wrap ((a.most : Int) - a.room) = (a.most : Int) - a.room := by
    obtain ⟨h1, h2, h3⟩ := hs
    rw [IntKind.wrap_i64]
    unfold Ar.room
    omega
  clear H hs
  generalize a.room = R at *
  generalize a.most = M at *
  go_enter Try.func34, Try.ntmps34
  go_wp2
  go_quiet ((go_at_call 36; with_reducible exact HR.out _))
  go_wp2
  go_ret
  exact ⟨rfl, _, rfl⟩
theorem mlive_calls (w0 W : World) (B m aa : Nat) (a : Ar N2) (H : MapB w0 W B m aa a) (hs : Small a) :
    Calls Try.prog 17 #[.pointer (some ⟨m, 0, none⟩)] W fun e w' => e = .returned (.int .i64 (a.most - a.room)) ∧ ∃ n, w' = W.drewN n := by
  have c0 : W.cell? ⟨m, 0, none⟩ = some (.pointer (some ⟨aa, 0, none⟩)) := blk_cell H.hm 0
  obtain ⟨sv, fv, h⟩ := H.at_
  have HR := Lib.hid (alive_calls w0 W B aa sv fv a h hs)
  clear h H hs
  generalize a.room = R at *
  go_enter Try.func17, Try.ntmps17
  go_wp2_with (first
    | (go_at_call 34; go_loud ((with_reducible refine Calls.mono HR.out ?_); rintro e w1 ⟨rfl, n, rfl⟩))
    | (fail "no arm"))
  go_ret
  exact ⟨rfl, n, rfl⟩
end Go.Proofs.Ytmhfbpdahfepgaa.Pm
/- Package pmap's finish. -/
namespace Go.Proofs.Ytmhfbpdahfepgaa.Pm
open Go.RowKit Go.Proofs.YtmhfbpdahfepgaaW.PrintWords
attribute [local go_sem high] eqHd
theorem alloc_at {V : World} {n : Nat} {o : Obj} (h : V.heap.size = n) : (V.alloc o).heap[n]? = some o := by subst h; exact blk_new V o
theorem SS.bel {w0 W : World} {B m aa eb ob : Nat} {f gv mv : Value} {a : Ar N2} {made : List Hd} (h : SS w0 W B m aa eb ob f gv mv a made) : Below B w0 W := by obtain ⟨_, _, h⟩ := h.at_; exact h.bel
/-- What finish hands out. -/
structure FS (w0 W : World) (B m aa : Nat) (gv mv : Value) (a : Ar N2) (made g : List Hd) : Prop where
  mb : MapB w0 W B m aa a
  hmade : OwnH W B mv made
  hgone : OwnH W B gv g
theorem FS.setE {w0 W : World} {B m aa n : Nat} {gv mv : Value} {a : Ar N2} {made g : List Hd} {cs : Array Value} (h : FS w0 W B m aa gv mv a made g) (hb : W.heap[n]? = some (.cells cs 39 (0, 0))) (hB : B ≤ n) (j : Nat) (u : Value) : FS w0 (W.setCell ⟨n, j, none⟩ u) B m aa gv mv a made g :=
  ⟨⟨by obtain ⟨sv, fv, h⟩ := h.mb.at_; exact ⟨sv, fv, h.set hb (by decide) (by decide) (by decide) hB j u⟩, blk_far h.mb.hm (typed_ne h.mb.hm hb (by decide)) u, h.mb.bm⟩,
   OwnRow.set_ h.hmade hb (by decide) j u, OwnRow.set_ h.hgone hb (by decide) j u⟩
theorem FS.below {w0 W W' : World} {B m aa : Nat} {gv mv : Value} {a : Ar N2} {made g : List Hd} (h : FS w0 W B m aa gv mv a made g) (hb : Below W.heap.size W W') : FS w0 W' B m aa gv mv a made g := ⟨h.mb.below hb, OwnRow.below h.hmade hb, OwnRow.below h.hgone hb⟩
theorem Fr.of {W W' : World} {ob : Nat} {mv mv' : Value} {w0 : World} {B : Nat} (h : FrX ob mv mv' W W') (h1 : Below B w0 W) (h2 : Below B w0 W') {V : World} (hV : Below V.heap.size V W) (ho : V.heap.size ≤ ob) (hm : mv.ownBlock = none) : Fr V W' :=
  ⟨h2.os.trans (h1.os.symm.trans hV.os), h2.tape.trans (h1.tape.symm.trans hV.tape), h2.output.trans (h1.output.symm.trans hV.output), Nat.le_trans hV.size h.size, fun k cs t hc x1 x2 x3 => h.block k cs t (blk_below hc hV) x1 x2 x3 (by have := blk_lt hc; omega) (by rw [hm]; exact fun e => by injection e)⟩
theorem Fr.blk {W W' : World} (h : Fr W W') {b : Nat} {cs : Array Value} {t : TypeId} (hc : W.heap[b]? = some (.cells cs t (0, 0))) (h1 : t ≠ 84 := by decide) (h2 : t ≠ 96 := by decide) (h3 : t ≠ 3 := by decide) : W'.heap[b]? = some (.cells cs t (0, 0)) := h.block b cs t hc h1 h2 h3
theorem OwnH.fr {W W' : World} {B : Nat} {v : Value} {l : List Hd} (h : OwnH W B v l) (hF : Fr W W') : OwnH W' B v l := by
  obtain ⟨inner, ho, hr⟩ := h
  exact ⟨inner, own_fr ho hF (by decide) (by decide) (by decide), hr⟩
theorem nilH (W : World) (B : Nat) : OwnH W B (.slice none 0 0) [] := ⟨[], ⟨rfl, .inl ⟨rfl, rfl⟩⟩, Reps.none _ _⟩
def edV (root : Hd) (mv gv : Value) : Value := .agg #[.int .i64 root.s, .int .i64 root.g, mv, gv]
/-- finish, where there is room. -/
def FinOut (w0 W : World) (B m aa : Nat) (a' : Ar N2) (root : Hd) (made g : List Hd) (e : Ending) (w' : World) : Prop :=
  ∃ mv gv, e = .returned (.tuple #[edV root mv gv, .bool true]) ∧ FS w0 w' B m aa gv mv a' made g ∧ Fr W w'
set_option maxHeartbeats 4000000 in
theorem finish_calls (w0 W : World) (B B0 m aa eb : Nat) (a a0 : Ar N2) (t : T2) (p : Option Nat) (g : List Hd) (gv : Value) (G : Nat) (HM : MapB w0 W B m aa a) (he : W.heap[eb]? = some (.cells #[.pointer (some ⟨m, 0, none⟩), gv] 74 (0, 0))) (hg : OwnH W B gv g)
    (hd : Den B0 W a0 p t) (ok : ArOk G a) (hG : G + fresh t ≤ 1000000) (hr : (fresh t : Int) ≤ a.room) :
    Calls Try.prog 31 #[.pointer (some ⟨m, 0, none⟩), .pointer (some ⟨eb, 0, none⟩), .pointer (p.map fun b => ⟨b, 0, none⟩)] W (FinOut w0 W B m aa (store nd0 a t).1 (store nd0 a t).2.1 (store nd0 a t).2.2 g) := by
  obtain ⟨Ag, cg, rfl, _⟩ := OwnRow.slice_ hg
  generalize g.length = lg at *
  have e1 : W.cell? ⟨eb, 1, none⟩ = some (.slice Ag lg cg) := blk_cell he 1
  have hlt := blk_lt he
  have HFR := Lib.hid (fun (V : World) (hb : Below W.heap.size W V) => fresh_calls B0 eb a0 t V p ((Ext.below hb).den _ _ hd) (by omega))
  have HRM := Lib.hid (fun (V : World) (hb : Below W.heap.size W V) => mroom_calls w0 V B m aa a (HM.below hb) ok.small)
  have HST := Lib.hid (fun (V : World) (ob : Nat) (hs : SS w0 V B m aa eb ob cmpF (.slice Ag lg cg) (.slice none 0 0) a []) (hb : Below W.heap.size W V) => store_calls w0 B0 B m aa eb ob cmpF (.slice Ag lg cg) a0 t V (.slice none 0 0) p a [] G hs ((Ext.below hb).den _ _ hd) ok hG hr (by show 0 + _ ≤ _; omega))
  have HM0 := Lib.hid HM
  have HE0 := Lib.hid he
  have HG0 := Lib.hid hg
  have hsz := HM.sz
  have HBB := Lib.hid HM.bel
  have hq : decide (a.room < (fresh t : Int)) = false := decide_eq_false (by omega)
  clear HM he hg hd hG ok hr
  generalize (store nd0 a t) = ST at *
  generalize a.room = R at *
  generalize (fresh t : Int) = F at *
  simp only [hdV] at HST
  go_enter Try.func31, Try.ntmps31
  go_wp2_with (first
    | (go_at_call 40; go_loud ((with_reducible refine Calls.mono (HFR.out _ (by repeat (first | exact Below.refl _ _ | apply below_drew1 | apply below_alloc | apply pw_below_drewN))) ?_); rintro e w1 ⟨rfl, n1, rfl⟩))
    | (go_at_call 20; go_loud ((with_reducible refine Calls.mono (HRM.out _ (by repeat (first | exact Below.refl _ _ | apply below_drew1 | apply below_alloc | apply pw_below_drewN))) ?_); rintro e w1 ⟨rfl, n2, rfl⟩))
    | (go_at_call 41; go_loud (
        (have hb1 : Below W.heap.size W (((W.alloc (Obj.cells #[.int .i64 0, .int .i64 0, .slice none 0 0, .slice none 0 0] 39 (0, 0))).drewN (n1 + n2)).alloc (Obj.cells #[.int .i64 0, .int .i64 0, .slice none 0 0, .slice Ag lg cg] 39 (0, 0))) := (by repeat (first | exact Below.refl _ _ | apply below_drew1 | apply below_alloc | apply pw_below_drewN)));
        (have hbx : (((W.alloc (Obj.cells #[.int .i64 0, .int .i64 0, .slice none 0 0, .slice none 0 0] 39 (0, 0))).drewN (n1 + n2)).alloc (Obj.cells #[.int .i64 0, .int .i64 0, .slice none 0 0, .slice Ag lg cg] 39 (0, 0))).heap[W.heap.size]? = some (Obj.cells #[.int .i64 0, .int .i64 0, .slice none 0 0, .slice none 0 0] 39 (0, 0)) := blk_below (blk_new W _) (by repeat (first | exact Below.refl _ _ | apply below_drew1 | apply below_alloc | apply pw_below_drewN)));
        (have hob : (((W.alloc (Obj.cells #[.int .i64 0, .int .i64 0, .slice none 0 0, .slice none 0 0] 39 (0, 0))).drewN (n1 + n2)).alloc (Obj.cells #[.int .i64 0, .int .i64 0, .slice none 0 0, .slice Ag lg cg] 39 (0, 0))).heap[W.heap.size + 1]? = some (Obj.cells #[.int .i64 0, .int .i64 0, .slice none 0 0, .slice Ag lg cg] 39 (0, 0)) := alloc_at (by simp));
        (have hs0 : SS w0 (((W.alloc (Obj.cells #[.int .i64 0, .int .i64 0, .slice none 0 0, .slice none 0 0] 39 (0, 0))).drewN (n1 + n2)).alloc (Obj.cells #[.int .i64 0, .int .i64 0, .slice none 0 0, .slice Ag lg cg] 39 (0, 0))) B m aa eb (W.heap.size + 1) cmpF (.slice Ag lg cg) (.slice none 0 0) a [] := ⟨(HM0.out.below hb1).at_, by omega, (HM0.out.below hb1).hm, blk_below HE0.out hb1, hob, nilH _ _⟩);
        (with_reducible refine Calls.mono (HST.out _ _ hs0 hb1) ?_); rintro e w2 ⟨rfl, mv, hs, hx⟩; rw [List.nil_append] at hs;
        have HF2 := Lib.hid (Fr.of hx hs0.bel hs.bel hb1 (Nat.le_succ _) rfl);
        have HRB := Lib.hid (hx.block _ _ _ hbx (by decide) (by decide) (by decide) (Nat.ne_of_lt (Nat.lt_succ_self _)) (fun e => by injection e));
        have HFS := Lib.hid (show FS w0 w2 B m aa (.slice Ag lg cg) mv ST.1 ST.2.2 g from ⟨⟨hs.at_, hs.hm, HM0.out.bm⟩, hs.hmade, HG0.out.fr (Fr.of hx hs0.bel hs.bel hb1 (Nat.le_succ _) rfl)⟩);
        obtain ⟨Am, cm, rfl, _⟩ := OwnRow.slice_ hs.hmade;
        have HOB := Lib.hid hs.ho;
        have o0 := blk_cell hs.ho 0; have o1 := blk_cell hs.ho 1; have o2 := blk_cell hs.ho 2; have o3 := blk_cell hs.ho 3;
        have zo0 := blk_frozen hs.ho 0; have zo1 := blk_frozen hs.ho 1;
        have b0 := blk_cell HRB.out 0; have b1 := blk_cell HRB.out 1; have b2 := blk_cell HRB.out 2; have b3 := blk_cell HRB.out 3;
        have zb0 := blk_frozen HRB.out 0; have zb1 := blk_frozen HRB.out 1; have zb2 := blk_frozen HRB.out 2; have zb3 := blk_frozen HRB.out 3;
        simp at o0 o1 o2 o3 b0 b1 b2 b3;
        clear hb1 hbx hob hs0 hs hx))
    | (fail "no arm"))
  have HR1 := Lib.hid (blk_far (blk_far HRB.out (Nat.ne_of_lt (Nat.lt_succ_self W.heap.size)) (.int .i64 ST.2.1.s) : (w2.setCell ⟨W.heap.size + 1, 0, none⟩ (.int .i64 ST.2.1.s)).heap[W.heap.size]? = _) (Nat.ne_of_lt (Nat.lt_succ_self W.heap.size)) (.int .i64 ST.2.1.g) : ((w2.setCell ⟨W.heap.size + 1, 0, none⟩ (.int .i64 ST.2.1.s)).setCell ⟨W.heap.size + 1, 1, none⟩ (.int .i64 ST.2.1.g)).heap[W.heap.size]? = _)
  have HFS1 := Lib.hid ((HFS.out.setE HOB.out (Nat.le_succ_of_le hsz) 0 (.int .i64 ST.2.1.s)).setE (blk_put HOB.out 0 (.int .i64 ST.2.1.s) rfl) (Nat.le_succ_of_le hsz) 1 (.int .i64 ST.2.1.g))
  have HF1 := Lib.hid (Fr.new (Fr.new HF2.out (Nat.le_succ W.heap.size) 0 (.int .i64 ST.2.1.s)) (Nat.le_succ W.heap.size) 1 (.int .i64 ST.2.1.g))
  generalize ((w2.setCell ⟨W.heap.size + 1, 0, none⟩ (.int .i64 ST.2.1.s)).setCell ⟨W.heap.size + 1, 1, none⟩ (.int .i64 ST.2.1.g)) = V1 at *
  have HR2 := Lib.hid (blk_put (blk_put (blk_put (blk_put HR1.out 0 (.int .i64 ST.2.1.s) rfl) 1 (.int .i64 ST.2.1.g) rfl) 2 (.slice Am ST.2.2.length cm) rfl) 3 (.slice Ag lg cg) rfl)
  have HFS2 := Lib.hid ((((HFS1.out.setE HR1.out hsz 0 (.int .i64 ST.2.1.s)).setE (blk_put HR1.out 0 (.int .i64 ST.2.1.s) rfl) hsz 1 (.int .i64 ST.2.1.g)).setE (blk_put (blk_put HR1.out 0 (.int .i64 ST.2.1.s) rfl) 1 (.int .i64 ST.2.1.g) rfl) hsz 2 (.slice Am ST.2.2.length cm)).setE (blk_put (blk_put (blk_put HR1.out 0 (.int .i64 ST.2.1.s) rfl) 1 (.int .i64 ST.2.1.g) rfl) 2 (.slice Am ST.2.2.length cm) rfl) hsz 3 (.slice Ag lg cg))
  have HF3 := Lib.hid (Fr.new (Fr.new (Fr.new (Fr.new HF1.out (Nat.le_refl _) 0 (.int .i64 ST.2.1.s)) (Nat.le_refl _) 1 (.int .i64 ST.2.1.g)) (Nat.le_refl _) 2 (.slice Am ST.2.2.length cm)) (Nat.le_refl _) 3 (.slice Ag lg cg))
  generalize ((((V1.setCell ⟨W.heap.size, 0, none⟩ (.int .i64 ST.2.1.s)).setCell ⟨W.heap.size, 1, none⟩ (.int .i64 ST.2.1.g)).setCell ⟨W.heap.size, 2, none⟩ (.slice Am ST.2.2.length cm)).setCell ⟨W.heap.size, 3, none⟩ (.slice Ag lg cg)) = V2 at *
  have q0 : V2.cell? ⟨W.heap.size, 0, none⟩ = some (.int .i64 ST.2.1.s) := blk_cell HR2.out 0
  have q1 : V2.cell? ⟨W.heap.size, 1, none⟩ = some (.int .i64 ST.2.1.g) := blk_cell HR2.out 1
  have q2 : V2.cell? ⟨W.heap.size, 2, none⟩ = some (.slice Am ST.2.2.length cm) := blk_cell HR2.out 2
  have q3 : V2.cell? ⟨W.heap.size, 3, none⟩ = some (.slice Ag lg cg) := blk_cell HR2.out 3
  refine bodyPost_ret (v := .tuple #[edV ST.2.1 (.slice Am ST.2.2.length cm) (.slice Ag lg cg), .bool true]) (by simp [results, Try.results31, edV, go_sem, q0, q1, q2, q3]; try rfl) rfl ?_
  exact ⟨_, _, rfl, HFS2.out, HF3.out⟩
end Go.Proofs.Ytmhfbpdahfepgaa.Pm
/- Package pmap's Map.Put. -/
namespace Go.Proofs.Ytmhfbpdahfepgaa.Pm
open Go.RowKit Go.Proofs.YtmhfbpdahfepgaaW.PrintWords
attribute [local go_sem high] eqHd
theorem FrX.typedF {W W' : World} (h : Fr W W') {k : Nat} {cs : Array Value} {t : TypeId} (hc : W.heap[k]? = some (.cells cs t (0, 0))) (h1 : t ≠ 84 := by decide) (h2 : t ≠ 96 := by decide) (h3 : t ≠ 3 := by decide) : W'.heap[k]? = some (.cells cs t (0, 0)) := h.block k cs t hc h1 h2 h3
/-- What an edit hands out is stored into the result's box. -/
theorem FS.box {w0 w2 W : World} {B m aa n : Nat} {gv mv : Value} {a : Ar N2} {made g : List Hd} {root : Hd} (h : FS w0 w2 B m aa gv mv a made g) (hr : w2.heap[n]? = some (Obj.cells #[.int .i64 0, .int .i64 0, .slice none 0 0, .slice none 0 0] 39 (0, 0))) (hB : B ≤ n) (hF : Fr W w2) (hn : W.heap.size ≤ n) :
    let V := (((w2.setCell ⟨n, 0, none⟩ (.int .i64 root.s)).setCell ⟨n, 1, none⟩ (.int .i64 root.g)).setCell ⟨n, 2, none⟩ mv).setCell ⟨n, 3, none⟩ gv
    V.heap[n]? = some (.cells #[.int .i64 root.s, .int .i64 root.g, mv, gv] 39 (0, 0)) ∧ FS w0 V B m aa gv mv a made g ∧ Fr W V := by
  intro V
  have k0 := blk_put hr 0 (.int .i64 root.s) rfl
  have k1 := blk_put k0 1 (.int .i64 root.g) rfl
  have k2 := blk_put k1 2 mv rfl
  exact ⟨blk_put k2 3 gv rfl, (((h.setE hr hB 0 _).setE k0 hB 1 _).setE k1 hB 2 _).setE k2 hB 3 _, Fr.new (Fr.new (Fr.new (Fr.new hF hn 0 _) hn 1 _) hn 2 _) hn 3 _⟩
theorem OwnH.low {W : World} {B B' : Nat} {v : Value} {l : List Hd} (h : OwnH W B v l) (hb : B' ≤ B) : OwnH W B' v l := by
  obtain ⟨inner, ho, hr⟩ := h
  exact ⟨inner, own_low ho hb, hr⟩
theorem St.sz {w0 W : World} {eb m : Nat} {g : List Hd} (h : St w0 W eb m g) : w0.heap.size ≤ W.heap.size := h.bel.size
theorem put_of (V0 V : World) (m aa eb : Nat) (a : Ar N2) (t : T2) (p : Option Nat) (k v : Int) (HM : ∃ sv fv, MapAt V0 m aa cmpF sv fv a) (hs : St V0 V eb m []) (hd : Den V0.heap.size V a p t) (av : Avl t) (hh : t.hi ≤ 50000) :
    Calls Try.prog 32 #[.pointer (some ⟨eb, 0, none⟩), .pointer (p.map fun b => ⟨b, 0, none⟩), .int .i64 k, .int .i64 v] V fun e w' => (∃ b', e = .returned (.pointer (some ⟨b', 0, none⟩)) ∧ OpenT V0.heap.size w' a b' (tput cmpI t k v).1) ∧ Ext V0.heap.size a V w' ∧ St V0 w' eb m ([] ++ (tput cmpI t k v).2) := by
  obtain ⟨sv, fv, h⟩ := HM
  exact put_calls V0 m aa eb sv fv a h t V p [] k v hs hd av hh (by have := av.nonneg; show ((0 : Nat) : Int) + _ ≤ _; omega)
set_option maxHeartbeats 4000000 in
theorem mput_calls (w0 W : World) (B m aa : Nat) (a : Ar N2) (t : T2) (k v : Int) (G : Nat) (HM : MapB w0 W B m aa a) (hl : Lies a t) (av : Avl t) (hh : t.hi ≤ 50000) (ok : ArOk G a) (hG : G + fresh (tput cmpI t k v).1 ≤ 1000000) (hr : (fresh (tput cmpI t k v).1 : Int) ≤ a.room) :
    Calls Try.prog 16 #[.pointer (some ⟨m, 0, none⟩), hdV t.h, .int .i64 k, .int .i64 v] W (FinOut w0 W B m aa (store nd0 a (tput cmpI t k v).1).1 (store nd0 a (tput cmpI t k v).1).2.1 (store nd0 a (tput cmpI t k v).1).2.2 (tput cmpI t k v).2) := by
  have hsz := HM.sz
  have HIT := Lib.hid (fun (V : World) (B0 eb : Nat) (hb : B0 ≤ V.heap.size) => item_calls B0 V eb a t hl hb)
  have HPU := Lib.hid (fun (V0 V : World) (eb : Nat) (p : Option Nat) (hb0 : Below W.heap.size W V0) (hs : St V0 V eb m []) (hd : Den V0.heap.size V a p t) => put_of V0 V m aa eb a t p k v (HM.below hb0).mapAt hs hd av hh)
  have HFI := Lib.hid (fun (V : World) (B0 eb b : Nat) (gv : Value) (hb : Below W.heap.size W V) (he : V.heap[eb]? = some (.cells #[.pointer (some ⟨m, 0, none⟩), gv] 74 (0, 0))) (hg : OwnH V B gv (tput cmpI t k v).2) (hd : Den B0 V a (some b) (tput cmpI t k v).1) => finish_calls w0 V B B0 m aa eb a a (tput cmpI t k v).1 (some b) (tput cmpI t k v).2 gv G (HM.below hb) he hg hd ok hG hr)
  simp only [Option.map_some] at HFI
  clear HM hl av hh ok hG hr
  generalize (store nd0 a (tput cmpI t k v).1) = ST at *
  generalize (tput cmpI t k v) = TT at *
  simp only [hdV, ptrV] at HIT ⊢
  go_enter Try.func16, Try.ntmps16
  go_wp2_with (first
    | (go_at_call 33; go_loud (
        (with_reducible refine Calls.mono (HIT.out _ (W.heap.size + 1 + 1) _ (by simp [World.size_alloc])) ?_);
        rintro e w1 ⟨⟨p, rfl, hc⟩, hb⟩;
        (have hb0 : Below W.heap.size W ((W.alloc (Obj.cells #[.int .i64 t.h.s, .int .i64 t.h.g] 28 (0, 0))).alloc (Obj.cells #[.int .i64 0, .int .i64 0, .slice none 0 0, .slice none 0 0] 39 (0, 0))) := (by repeat (first | exact Below.refl _ _ | apply below_drew1 | apply below_alloc | apply pw_below_drewN)));
        (have hz0 : ((W.alloc (Obj.cells #[.int .i64 t.h.s, .int .i64 t.h.g] 28 (0, 0))).alloc (Obj.cells #[.int .i64 0, .int .i64 0, .slice none 0 0, .slice none 0 0] 39 (0, 0))).heap.size = W.heap.size + 1 + 1 := (by simp [World.size_alloc]));
        (have hee : (((W.alloc (Obj.cells #[.int .i64 t.h.s, .int .i64 t.h.g] 28 (0, 0))).alloc (Obj.cells #[.int .i64 0, .int .i64 0, .slice none 0 0, .slice none 0 0] 39 (0, 0))).alloc (Obj.cells #[.pointer (some ⟨m, 0, none⟩), .slice none 0 0] 74 (0, 0))).heap[W.heap.size + 1 + 1]? = some (Obj.cells #[.pointer (some ⟨m, 0, none⟩), .slice none 0 0] 74 (0, 0)) := alloc_at hz0);
        (have hbx : ((W.alloc (Obj.cells #[.int .i64 t.h.s, .int .i64 t.h.g] 28 (0, 0))).alloc (Obj.cells #[.int .i64 0, .int .i64 0, .slice none 0 0, .slice none 0 0] 39 (0, 0))).heap[W.heap.size + 1]? = some (Obj.cells #[.int .i64 0, .int .i64 0, .slice none 0 0, .slice none 0 0] 39 (0, 0)) := alloc_at (by simp [World.size_alloc]));
        have HB0 := Lib.hid hb0;
        have HZ0 := Lib.hid hz0;
        have HBX0 := Lib.hid hbx;
        have HS1 := Lib.hid (show St ((W.alloc (Obj.cells #[.int .i64 t.h.s, .int .i64 t.h.g] 28 (0, 0))).alloc (Obj.cells #[.int .i64 0, .int .i64 0, .slice none 0 0, .slice none 0 0] 39 (0, 0))) w1 (W.heap.size + 1 + 1) m [] from ⟨(below_alloc (Below.refl _ _) _).trans (hb.mono (by simp [World.size_alloc])), (by rw [hz0]; omega), _, blk_below hee hb, nilH _ _⟩);
        have HD1 := Lib.hid (show Den ((W.alloc (Obj.cells #[.int .i64 t.h.s, .int .i64 t.h.g] 28 (0, 0))).alloc (Obj.cells #[.int .i64 0, .int .i64 0, .slice none 0 0, .slice none 0 0] 39 (0, 0))).heap.size w1 a p t from (hc.den (Nat.le_of_eq hz0)));
        generalize ((W.alloc (Obj.cells #[.int .i64 t.h.s, .int .i64 t.h.g] 28 (0, 0))).alloc (Obj.cells #[.int .i64 0, .int .i64 0, .slice none 0 0, .slice none 0 0] 39 (0, 0))) = V0 at *;
        clear hc hb hb0 hee hbx hz0))
    | (go_at_call 32; go_loud ((with_reducible refine Calls.mono (HPU.out V0 _ _ p HB0.out HS1.out HD1.out) ?_); rintro e w2 ⟨⟨b2, rfl, ho⟩, hx, hs⟩; rw [List.nil_append] at hs; obtain ⟨gv, he2, hg2⟩ := hs.ed; have HS2 := Lib.hid (HB0.out.trans (hs.bel.mono HB0.out.size)); have HD2 := Lib.hid ho.den; have HE2 := Lib.hid he2; have HG2 := Lib.hid hg2; have HBX2 := Lib.hid (blk_below HBX0.out hs.bel); clear hs ho hx he2 hg2))
    | (go_at_call 31; go_loud ((with_reducible refine Calls.mono (HFI.out _ _ _ b2 gv HS2.out HE2.out (HG2.out.low (by rw [HZ0.out]; omega)) HD2.out) ?_); rintro e w3 ⟨mv, gv3, rfl, hfs, hfr⟩; have HFR := Lib.hid ((Fr.below HS2.out).trans hfr); obtain ⟨Am, cm, rfl, _⟩ := OwnRow.slice_ hfs.hmade; obtain ⟨Ag, cg, rfl, _⟩ := OwnRow.slice_ hfs.hgone; simp only [edV]; have HFS := Lib.hid hfs; have HRB := Lib.hid (FrX.typedF hfr HBX2.out); have b0 := blk_cell HRB.out 0; have b1 := blk_cell HRB.out 1; have b2' := blk_cell HRB.out 2; have b3 := blk_cell HRB.out 3; have zb0 := blk_frozen HRB.out 0; have zb1 := blk_frozen HRB.out 1; have zb2 := blk_frozen HRB.out 2; have zb3 := blk_frozen HRB.out 3; simp at b0 b1 b2' b3; clear hfs hfr))
    | (fail "no arm"))
  have HV := Lib.hid (HFS.out.box (root := ST.2.1) HRB.out (Nat.le_succ_of_le hsz) HFR.out (Nat.le_succ W.heap.size))
  generalize ((((w3.setCell ⟨W.heap.size + 1, 0, none⟩ (.int .i64 ST.2.1.s)).setCell ⟨W.heap.size + 1, 1, none⟩ (.int .i64 ST.2.1.g)).setCell ⟨W.heap.size + 1, 2, none⟩ (.slice Am ST.2.2.length cm)).setCell ⟨W.heap.size + 1, 3, none⟩ (.slice Ag TT.2.length cg)) = V2 at *
  obtain ⟨hv1, hv2, hv3⟩ := HV.out
  have q0 : V2.cell? ⟨W.heap.size + 1, 0, none⟩ = some (.int .i64 ST.2.1.s) := blk_cell hv1 0
  have q1 : V2.cell? ⟨W.heap.size + 1, 1, none⟩ = some (.int .i64 ST.2.1.g) := blk_cell hv1 1
  have q2 : V2.cell? ⟨W.heap.size + 1, 2, none⟩ = some (.slice Am ST.2.2.length cm) := blk_cell hv1 2
  have q3 : V2.cell? ⟨W.heap.size + 1, 3, none⟩ = some (.slice Ag TT.2.length cg) := blk_cell hv1 3
  have HV2 := Lib.hid hv2
  have HV3 := Lib.hid hv3
  clear hv1 hv2 hv3
  refine bodyPost_ret (v := .tuple #[edV ST.2.1 (.slice Am ST.2.2.length cm) (.slice Ag TT.2.length cg), .bool true]) (by simp [results, Try.results16, edV, go_sem, q0, q1, q2, q3]; try rfl) rfl ?_
  exact ⟨_, _, rfl, HV2.out, HV3.out⟩
end Go.Proofs.Ytmhfbpdahfepgaa.Pm
