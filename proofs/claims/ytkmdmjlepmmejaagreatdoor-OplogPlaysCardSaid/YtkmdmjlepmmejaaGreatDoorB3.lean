/-
  Trees in memory: blocks that alone were changed; a map of spots; Trees in memory: Known, Spot, Above, set as package tree has them
-/
import Derived.Test.YtkmdmjlepmmejaaGreatDoorB2
import Derived.Maps.OwnOps
import Derived.Maps.OwnSet
import Derived.Maps.RangeWalk
import Derived.Maps.Ext
/- Trees in memory: blocks that alone were changed; a map of spots. -/
namespace Go.Proofs.YtkmdmjlepmmejaaGreatDoor.Tr
open Go.RowKit Go.Maps Go.Proofs.YtkmdmjlepmmejaaGreatDoorW.PrintWords
open Go.WideElems (rg)

/-- Of the old blocks those of F alone were changed. -/
structure Touch (F : Nat → Prop) (W W' : World) : Prop where
  os : W'.os = W.os
  tape : W'.tape = W.tape
  output : W'.output = W.output
  size : W.heap.size ≤ W'.heap.size
  block : ∀ k, k < W.heap.size → ¬ F k → W'.heap[k]? = W.heap[k]?
theorem Touch.refl (F : Nat → Prop) (W : World) : Touch F W W := ⟨rfl, rfl, rfl, Nat.le_refl _, fun _ _ _ => rfl⟩
theorem Touch.below {F : Nat → Prop} {W W' : World} (h : Below W.heap.size W W') : Touch F W W' := ⟨h.os, h.tape, h.output, h.size, fun k hk _ => h.block k hk⟩
theorem Touch.toBelow {F : Nat → Prop} {W W' : World} (h : Touch F W W') {B : Nat} (hB : B ≤ W.heap.size) (hF : ∀ k, F k → B ≤ k) : Below B W W' :=
  ⟨h.os, h.tape, h.output, h.size, fun k hk => h.block k (by omega) fun hf => by have := hF k hf; omega⟩
theorem Touch.of_belowB {F : Nat → Prop} {W W' : World} {B : Nat} (h : Below B W W') (hF : ∀ k, B ≤ k → k < W.heap.size → F k) : Touch F W W' :=
  ⟨h.os, h.tape, h.output, h.size, fun k hk hn => h.block k (Nat.lt_of_not_le fun hb => hn (hF k hb hk))⟩
theorem Touch.trans {F G : Nat → Prop} {W W1 W2 : World} (h : Touch F W W1) (k : Touch G W1 W2) (hG : ∀ b, b < W.heap.size → G b → F b) : Touch F W W2 :=
  ⟨k.os.trans h.os, k.tape.trans h.tape, k.output.trans h.output, Nat.le_trans h.size k.size, fun b hb hn => (k.block b (Nat.lt_of_lt_of_le hb h.size) fun hg => hn (hG b hb hg)).trans (h.block b hb hn)⟩
theorem Touch.mono {F G : Nat → Prop} {W W' : World} (h : Touch F W W') (hF : ∀ b, F b → G b) : Touch G W W' := ⟨h.os, h.tape, h.output, h.size, fun k hk hn => h.block k hk fun hf => hn (hF k hf)⟩
theorem Touch.grown {F : Nat → Prop} {W W' : World} {row : Option Nat} (h : W.grownBy W' row) (hr : ∀ b, row = some b → F b) : Touch F W W' :=
  ⟨h.os, h.tape, h.output, h.size, fun k hk hn => h.block k hk fun e => hn (hr k e.symm)⟩
theorem Touch.grown1 {W W' : World} {m : Nat} (h : W.grownBy W' (some m)) : Touch (fun b => b = m) W W' := Touch.grown h fun _ e => (Option.some.inj e).symm
theorem Touch.set_ {F : Nat → Prop} {W : World} {b : Nat} (hb : F b) (j : Nat) (u : Value) : Touch F W (W.setCell ⟨b, j, none⟩ u) :=
  ⟨rfl, rfl, rfl, by simp, fun k _ hn => Below.heap_setCell W ⟨b, j, none⟩ u k (fun e => hn (by subst e; exact hb))⟩
theorem Touch.blk {F : Nat → Prop} {W W' : World} (h : Touch F W W') {k : Nat} {o : Obj} (hb : W.heap[k]? = some o) (hk : ¬ F k) : W'.heap[k]? = some o := (h.block k (blk_lt hb) hk).trans hb
theorem Touch.cell {F : Nat → Prop} {W W' : World} (h : Touch F W W') {a : Addr} {v : Value} (hc : W.cell? a = some v) (hk : ¬ F a.block) : W'.cell? a = some v :=
  (World.cell?_of_block (h.block a.block (World.block_lt_of_cell? W a hc) hk)).trans hc
theorem Touch.own {F : Nat → Prop} {W W' : World} (h : Touch F W W') {base : Nat} {e : TypeId} {size n : Nat} {v : Value} {xs : List Value} (ho : W.ownsRow base e size v n xs) (hn : ∀ b, v.ownBlock = some b → ¬ F b) : W'.ownsRow base e size v n xs := by
  obtain ⟨h1, h2⟩ := ho
  refine ⟨h1, ?_⟩
  rcases h2 with h2 | ⟨g, cap, cur, rfl, hb, hg, h3⟩
  · exact .inl h2
  · exact .inr ⟨g, cap, cur, rfl, hb, h.blk hg (hn g rfl), h3⟩
theorem Touch.row {α : Type} {R : α → List Value → Prop} {F : Nat → Prop} {W W' : World} (h : Touch F W W') {base : Nat} {e : TypeId} {size : Nat} {v : Value} {ps : List α} (ho : OwnRow R e size W base v ps) (hn : ∀ b, v.ownBlock = some b → ¬ F b) : OwnRow R e size W' base v ps := by
  obtain ⟨inner, ho, hr⟩ := ho
  exact ⟨inner, h.own ho hn, hr⟩

/-- A spot as a value, as what is read of it. -/
def osV : Option Sp → Value
  | none => .agg #[.bool false, .int .i64 0, .string ⟨#[]⟩]
  | some s => .agg #[.bool true, .int .i64 s.1, .string s.2]
def osC : Option Sp → List Value
  | none => [.bool false, .int .i64 0, .string ⟨#[]⟩]
  | some s => [.bool true, .int .i64 s.1, .string s.2]
def spD : Option Sp → DataW Unit
  | none => .agg [.lit (.bool false), .lit (.int .i64 0), .lit (.string [])]
  | some s => .agg [.lit (.bool true), .lit (.int .i64 s.1), .lit (.string s.2.data.toList)]
def spR (v : Value) : Option (DataW Unit × List MemPlace) :=
  match v with
  | .agg cs => match cs.toList with
    | [.bool i, .int .i64 t, .string s] => some (.agg [.lit (.bool i), .lit (.int .i64 t), .lit (.string s.data.toList)], [])
    | _ => none
  | _ => none
theorem spR_osV (o : Option Sp) : spR (osV o) = some (spD o, []) := by cases o <;> rfl
theorem spR_inv {v : Value} {y : DataW Unit × List MemPlace} (h : spR v = some y) : ∃ i t s, v = .agg #[.bool i, .int .i64 t, .string s] ∧ y = (.agg [.lit (.bool i), .lit (.int .i64 t), .lit (.string s.data.toList)], []) := by
  unfold spR at h
  split at h
  · rename_i cs
    split at h
    · rename_i i t s he
      injection h with h
      refine ⟨i, t, s, ?_, h.symm⟩
      congr 1
      exact Array.toList_inj.1 he
    · cases h
  · cases h
theorem bytes_inj {s t : ByteArray} (h : s.data.toList = t.data.toList) : s = t := by
  cases s; cases t
  congr 1
  exact Array.toList_inj.1 h
theorem spR_spD {v : Value} {o : Option Sp} {ps : List MemPlace} (h : spR v = some (spD o, ps)) : v = osV o := by
  obtain ⟨i, t, s, rfl, hy⟩ := spR_inv h
  injection hy with hy _
  cases o with
  | none =>
    simp only [spD, DataW.agg.injEq, List.cons.injEq, DataW.lit.injEq, Lit.bool.injEq, Lit.int.injEq, Lit.string.injEq] at hy
    obtain ⟨rfl, ⟨_, rfl⟩, hs, _⟩ := hy
    have : s = ⟨#[]⟩ := bytes_inj hs.symm
    rw [this]; rfl
  | some x =>
    simp only [spD, DataW.agg.injEq, List.cons.injEq, DataW.lit.injEq, Lit.bool.injEq, Lit.int.injEq, Lit.string.injEq] at hy
    obtain ⟨rfl, ⟨_, rfl⟩, hs, _⟩ := hy
    have : s = x.2 := bytes_inj hs.symm
    rw [this]; rfl
theorem spD_inj {o o' : Option Sp} (h : spD o = spD o') : o = o' := by
  have h1 := spR_osV o
  rw [h] at h1
  have h2 := spR_spD h1
  cases o with
  | none =>
    cases o' with
    | none => rfl
    | some y => simp [osV] at h2
  | some x =>
    cases o' with
    | none => simp [osV] at h2
    | some y =>
      simp [osV] at h2
      exact congrArg some (Prod.ext h2.1 h2.2)

abbrev Wf (x : Int) : Prop := (Lit.int .i64 x).wf = true
theorem wf_of {x : Int} (h : -9223372036854775808 ≤ x ∧ x ≤ 9223372036854775807) : Wf x := WalkArith.wf_i64 (by omega)
theorem keysI : Keyed Tryz.prog 3 := int_keyed Tryz.underlying3
theorem zeroSp (w : World) : (zeroValue 73).run Tryz.prog w = .ok (osV none) w := by kernel_rfl
/-- What a map of spots says of each node. -/
def View (D : DataW Unit) (l : List KidR) : Prop := ∀ x : Int, Wf x → D.atKey (.int .i64 x) (spD none) = spD (lookT l x) ∧ Maps.has D (.int .i64 x) = (lookT l x).isSome
/-- Block b is the map of a tree's spots. -/
def MapAt (W : World) (b : Nat) (l : List KidR) : Prop := ∃ D, W.ownsMap Tryz.prog 3 spR b l.length D ∧ View D l
theorem nodup_le : ∀ {l m : List Int}, l.Nodup → (∀ x ∈ l, x ∈ m) → l.length ≤ m.length
  | [], _, _, _ => Nat.zero_le _
  | a :: l, m, hl, h => by
    have hl' := List.nodup_cons.1 hl
    have ha := h a (List.mem_cons_self ..)
    have := nodup_le (l := l) (m := m.erase a) hl'.2 fun x hx => by
      rw [List.mem_erase_of_ne]
      · exact h x (List.mem_cons_of_mem _ hx)
      · rintro rfl; exact hl'.1 hx
    rw [List.length_erase_of_mem ha] at this
    have h0 : 0 < m.length := List.length_pos_of_mem ha
    simp only [List.length_cons]
    omega
/-- A map that reads as a tree has no more entries than that has nodes. -/
theorem own_len {W : World} {b n : Nat} {D : DataW Unit} {l : List KidR} (h : W.ownsMap Tryz.prog 3 spR b n D) (v : View D l) : W.ownsMap Tryz.prog 3 spR b l.length D := by
  have hD := h.entries keysI
  obtain ⟨es, clock, hb, F, hs, rfl⟩ := h
  refine ⟨es, clock, hb, F, ?_, rfl⟩
  obtain ⟨E, hE, hp, _⟩ := hD
  injection hE with hE
  have hlen : E.length = es.size := by rw [← hE, length_sorted]; simp
  have hkeys : ∀ p ∈ E, ∃ x : Int, p.1 = .int .i64 x ∧ Wf x := by
    intro p hpE
    rw [← hE, mem_sorted] at hpE
    obtain ⟨v, hv⟩ := fit_keys F p hpE
    obtain ⟨x, _, hx, hw⟩ := Maps.keyOf_int_inv Tryz.underlying3 hv
    exact ⟨x, hx, hw⟩
  let f : Lit × DataW Unit → Int := fun p => match p.1 with
    | .int _ x => x
    | _ => 0
  have hf : ∀ p ∈ E, p.1 = .int .i64 (f p) ∧ Wf (f p) := by
    intro p hpE
    obtain ⟨x, hx, hw⟩ := hkeys p hpE
    have : f p = x := by show (match p.1 with | .int _ x => x | _ => 0) = x; rw [hx]
    rw [this]; exact ⟨hx, hw⟩
  have hnd : (E.map f).Nodup := by
    rw [List.Nodup, List.pairwise_map]
    refine List.Pairwise.imp_of_mem (fun {a c} ha hc hne => ?_) hp
    intro e
    apply hne
    rw [(hf a ha).1, (hf c hc).1, e]
  have hsub : ∀ x ∈ E.map f, x ∈ l.map KidR.node := by
    intro x hx
    obtain ⟨p, hpE, rfl⟩ := List.mem_map.1 hx
    have hhas := (v (f p) (hf p hpE).2).2
    have h1 : Maps.has (DataW.map ((es.toList.map (rg Tryz.prog 3 spR)).foldr DataW.insert [])) (.int .i64 (f p)) = true := by
      rw [has_eq, hE, List.any_eq_true]
      exact ⟨p, hpE, by rw [(hf p hpE).1]; simp [Lit.sameKey]⟩
    rw [h1] at hhas
    cases hl : lookT l (f p) with
    | none => rw [hl] at hhas; cases hhas
    | some s => exact List.mem_map.2 ⟨_, lookT_mem hl, rfl⟩
  have := nodup_le hnd hsub
  simp at this
  omega
theorem MapAt.lt {W : World} {b : Nat} {l : List KidR} (h : MapAt W b l) : b < W.heap.size := by obtain ⟨D, ho, _⟩ := h; exact ho.lt
theorem MapAt.keep {W W' : World} {b : Nat} {l : List KidR} (h : MapAt W b l) (hb : W'.heap[b]? = W.heap[b]?) : MapAt W' b l := by
  obtain ⟨D, ⟨es, clock, h1, h2⟩, hv⟩ := h
  exact ⟨D, ⟨es, clock, hb.trans h1, h2⟩, hv⟩
theorem MapAt.below {W W' : World} {b : Nat} {l : List KidR} (h : MapAt W b l) (hb : Below W.heap.size W W') : MapAt W' b l := h.keep (hb.block b h.lt)
theorem MapAt.touch {F : Nat → Prop} {W W' : World} {b : Nat} {l : List KidR} (h : MapAt W b l) (ht : Touch F W W') (hn : ¬ F b) : MapAt W' b l := h.keep (ht.block b h.lt hn)
theorem MapAt.made (W : World) : MapAt (W.alloc (.map #[] 0)) W.heap.size [] :=
  ⟨.map [], World.ownsMap_made .., fun _ _ => ⟨rfl, rfl⟩⟩
/-- A map holds no block of cells. -/
theorem MapAt.ne_cells {W : World} {b p : Nat} {l : List KidR} (h : MapAt W b l) {cs : Array Value} {t : TypeId} {f : Nat × Nat} (hp : W.heap[p]? = some (.cells cs t f)) : p ≠ b := by
  rintro rfl
  obtain ⟨D, ⟨es, clock, h1, _⟩, _⟩ := h
  rw [h1] at hp
  cases hp
theorem MapAt.ne_row {W : World} {b : Nat} {l : List KidR} (h : MapAt W b l) {base : Nat} {e : TypeId} {size n : Nat} {v : Value} {xs : List Value} (ho : W.ownsRow base e size v n xs) : v.ownBlock ≠ some b := by
  rcases ho.2 with ⟨rfl, _⟩ | ⟨g, cap, cur, rfl, _, hg, _⟩
  · simp [Value.ownBlock]
  · intro e
    simp [Value.ownBlock] at e
    exact h.ne_cells hg e
theorem MapAt.look {W : World} {b : Nat} {l : List KidR} (h : MapAt W b l) {x : Int} (hx : Wf x) : (Instr.lookup 91 (.map (some b)) (.int .i64 x) false).run Tryz.prog W = .ok (osV (lookT l x)) W := by
  obtain ⟨D, ho, hv⟩ := h
  obtain ⟨v, ps, hr, hR⟩ := ho.lookup keysI Tryz.underlying91 (zeroSp W) (spR_osV none) (keyOf_int_mk Tryz.underlying3 hx)
  rw [(hv x hx).1] at hR
  rw [hr, spR_spD hR]
theorem MapAt.look_ok {W : World} {b : Nat} {l : List KidR} (h : MapAt W b l) {x : Int} (hx : Wf x) : (Instr.lookup 91 (.map (some b)) (.int .i64 x) true).run Tryz.prog W = .ok (.tuple #[osV (lookT l x), .bool (lookT l x).isSome]) W := by
  obtain ⟨D, ho, hv⟩ := h
  obtain ⟨v, ps, hr, hR⟩ := ho.look_ok keysI Tryz.underlying91 (zeroSp W) (spR_osV none) (keyOf_int_mk Tryz.underlying3 hx)
  rw [(hv x hx).1] at hR
  rw [hr, spR_spD hR, (hv x hx).2]
theorem lit_ne {x y : Int} (h : x ≠ y) : (Lit.int .i64 x) ≠ Lit.int .i64 y := fun e => by injection e with _ e; exact h e
theorem isKey (x : Int) (hx : Wf x) : WideAt.IsKeyLit (.int .i64 x) := keysI.key (keyOf_int_mk Tryz.underlying3 hx)
theorem MapAt.store {W : World} {b : Nat} {l l' : List KidR} (h : MapAt W b l) {x : Int} (hx : Wf x) {s : Sp} (hl : l.length < maxLen) (hl' : ∀ y, lookT l' y = if y = x then some s else lookT l y) :
    ∃ w', (Instr.mapUpdate 91 (.map (some b)) (.int .i64 x) (.agg #[.bool true, .int .i64 s.1, .string s.2])).run Tryz.prog W = .ok () w' ∧ MapAt w' b l' ∧ W.grownBy w' (some b) := by
  obtain ⟨D, ho, hv⟩ := h
  obtain ⟨w', hr, ho', hg⟩ := ho.update keysI Tryz.underlying91 hl (keyOf_int_mk Tryz.underlying3 hx) (spR_osV (some s))
  have hv' : View (D.put (.int .i64 x) (spD (some s))) l' := by
    intro y hy
    rw [hl']
    by_cases e : y = x
    · subst e
      rw [if_pos rfl, atKey_put_same ho.isMap (isKey _ hx), has_put_same ho.isMap (isKey _ hx)]
      exact ⟨rfl, rfl⟩
    · rw [if_neg e, atKey_put_other (lit_ne e), has_put_other (lit_ne e)]
      exact hv y hy
  exact ⟨w', hr, ⟨_, own_len ho' hv', hv'⟩, hg⟩
theorem MapAt.deleted {w' : World} {b : Nat} {l l' : List KidR} {D : DataW Unit} {n : Nat} (hv : View D l) {x : Int} (hl' : ∀ y, lookT l' y = if y = x then none else lookT l y) (ho' : w'.ownsMap Tryz.prog 3 spR b n (D.del (.int .i64 x))) : MapAt w' b l' := by
  have hv' : View (D.del (.int .i64 x)) l' := by
    intro y hy
    rw [hl']
    by_cases e : y = x
    · subst e
      rw [if_pos rfl, atKey_del_same, has_del_same]
      exact ⟨rfl, rfl⟩
    · rw [if_neg e, atKey_del_other (lit_ne e), has_del_other (lit_ne e)]
      exact hv y hy
  exact ⟨_, own_len ho' hv', hv'⟩
end Go.Proofs.YtkmdmjlepmmejaaGreatDoor.Tr
/- Trees in memory: Known, Spot, Above, set as package tree has them. -/
namespace Go.Proofs.YtkmdmjlepmmejaaGreatDoor.Tr
open Go.RowKit Go.Maps Go.Proofs.YtkmdmjlepmmejaaGreatDoorW.PrintWords

/-- A tree's own block, and its map. -/
structure TB (W : World) (p mb : Nat) (dv : Value) (l : List KidR) : Prop where
  hp : W.heap[p]? = some (.cells #[.map (some mb), dv] 93 (0, 0))
  hm : MapAt W mb l
theorem TB.below {W W' : World} {p mb : Nat} {dv : Value} {l : List KidR} (h : TB W p mb dv l) (hb : Below W.heap.size W W') : TB W' p mb dv l := ⟨blk_below h.hp hb, h.hm.below hb⟩

set_option maxHeartbeats 1000000 in
theorem known_calls (W : World) (p mb : Nat) (dv : Value) (l : List KidR) (n : Int) (H : TB W p mb dv l) (hn : Wf n) :
    Calls Tryz.prog 48 #[.pointer (some ⟨p, 0, none⟩), .int .i64 n] W fun e w' => e = .returned (.bool (known l n)) ∧ Below W.heap.size W w' := by
  have hk : known l n = ((lookT l n).isSome || (n == 0 || n == 1)) := rfl
  have c0 := blk_cell H.hp 0
  simp at c0
  have hr := H.hm.look_ok hn
  have HB := Lib.hid (Below.refl W.heap.size W)
  clear H
  cases hl : lookT l n with
  | none =>
    rw [hl] at hr hk
    simp only [osV, Option.isSome_none, Bool.false_or] at hr hk
    rw [hk]
    clear hk hl
    by_cases h0 : n = 0
    · subst h0
      go_enter Tryz.func48, Tryz.ntmps48
      go_wp2
      go_ret
      exact ⟨rfl, (by repeat (first | (with_reducible exact HB.out) | apply below_alloc | apply pw_below_drewN | apply below_drew1 | exact HB.out))⟩
    · have q0 : (n == 0) = false := by simpa using h0
      go_enter Tryz.func48, Tryz.ntmps48
      go_wp2
      go_ret
      exact ⟨by rw [q0]; rfl, (by repeat (first | (with_reducible exact HB.out) | apply below_alloc | apply pw_below_drewN | apply below_drew1 | exact HB.out))⟩
  | some s =>
    rw [hl] at hr hk
    simp only [osV, Option.isSome_some, Bool.true_or] at hr hk
    rw [hk]
    clear hk hl
    go_enter Tryz.func48, Tryz.ntmps48
    go_wp2
    go_ret
    exact ⟨rfl, (by repeat (first | (with_reducible exact HB.out) | apply below_alloc | apply pw_below_drewN | apply below_drew1 | exact HB.out))⟩
set_option maxHeartbeats 1000000 in
theorem spot_calls (W : World) (p mb : Nat) (dv : Value) (l : List KidR) (n : Int) (H : TB W p mb dv l) (hn : Wf n) :
    Calls Tryz.prog 36 #[.pointer (some ⟨p, 0, none⟩), .int .i64 n] W fun e w' => e = .returned (osV (lookT l n)) ∧ Below W.heap.size W w' := by
  have hlt := blk_lt H.hp
  have c0 := blk_cell (blk_alloc H.hp (.cells #[.bool false, .int .i64 0, .string ⟨#[]⟩] 73)) 0
  simp at c0
  have hr := (H.hm.below ((Below.refl _ W).alloc (Nat.le_refl _) (.cells #[.bool false, .int .i64 0, .string ⟨#[]⟩] 73))).look hn
  have HB := Lib.hid (Below.refl W.heap.size W)
  clear H
  cases hl : lookT l n with
  | none =>
    rw [hl] at hr
    simp only [osV] at hr ⊢
    go_enter Tryz.func36, Tryz.ntmps36
    go_wp2
    exact bodyPost_ret (by simp [results, Tryz.results36, go_sem]; try rfl) rfl ⟨rfl, (by repeat (first | (with_reducible exact HB.out) | apply below_alloc | apply pw_below_drewN | apply below_drew1 | exact HB.out))⟩
  | some s =>
    obtain ⟨t, nm⟩ := s
    rw [hl] at hr
    simp only [osV] at hr ⊢
    go_enter Tryz.func36, Tryz.ntmps36
    go_wp2
    exact bodyPost_ret (by simp [results, Tryz.results36, go_sem]; try rfl) rfl ⟨rfl, (by repeat (first | (with_reducible exact HB.out) | apply below_alloc | apply pw_below_drewN | apply below_drew1 | exact HB.out))⟩
set_option maxHeartbeats 2000000 in
theorem above_calls (W : World) (p mb : Nat) (dv : Value) (l : List KidR) (a b : Int) (q : Int → Nat) (H : TB W p mb dv l) (hb : Wf b) (hw : ∀ k ∈ l, Wf k.par) (hq : Rank l q) :
    Calls Tryz.prog 49 #[.pointer (some ⟨p, 0, none⟩), .int .i64 a, .int .i64 b] W fun e w' => e = .returned (.bool (above l a b)) ∧ Below W.heap.size W w' := by
  have HA := Lib.hid (show above l a b = (known l b && upN l a (l.length + 1) b) from rfl)
  have HK := Lib.hid (fun (V : World) (h : Below W.heap.size W V) => known_calls V p mb dv l b (H.below h) hb)
  have HC := Lib.hid (fun (V : World) (h : Below W.heap.size W V) => blk_cell (H.below h).hp 0)
  have HL := Lib.hid (fun (V : World) (h : Below W.heap.size W V) (x : Int) (hx : Wf x) => (H.below h).hm.look hx)
  have HF := Lib.hid hq.1
  have HS := Lib.hid (show ∀ x s, lookT l x = some s → Wf s.1 from fun x s h => hw _ (lookT_mem h))
  have h0 : q b < l.length + 1 := by have := hq.2 b; omega
  have HB := Lib.hid (Below.refl W.heap.size W)
  generalize above l a b = R at *
  clear H hw hq
  cases hk : known l b with
  | false =>
    rw [hk] at HA HK
    go_enter Tryz.func49, Tryz.ntmps49
    go_wp2_with (go_at_call 48; refine (HK.out _ (by repeat (first | (with_reducible exact HB.out) | apply below_alloc | apply pw_below_drewN | apply below_drew1 | exact HB.out))).mono ?_; rintro e w1 ⟨rfl, hb1⟩; have HBn := Lib.hid (below_step (by repeat (first | (with_reducible exact HB.out) | apply below_alloc | apply pw_below_drewN | apply below_drew1 | exact HB.out)) hb1); clear hb1 HB; have HB := HBn; clear HBn)
    go_ret
    exact ⟨by rw [HA.out]; rfl, (by repeat (first | (with_reducible exact HB.out) | apply below_alloc | apply pw_below_drewN | apply below_drew1 | exact HB.out))⟩
  | true =>
    rw [hk] at HA HK
    have HA2 := Lib.hid (show R = upN l a (l.length + 1) b by rw [HA.out]; rfl)
    clear hk HA
    generalize l.length + 1 = N at *
    go_enter Tryz.func49, Tryz.ntmps49
    go_wp2_with (go_at_call 48; refine (HK.out _ (by repeat (first | (with_reducible exact HB.out) | apply below_alloc | apply pw_below_drewN | apply below_drew1 | exact HB.out))).mono ?_; rintro e w1 ⟨rfl, hb1⟩; have HBn := Lib.hid (below_step (by repeat (first | (with_reducible exact HB.out) | apply below_alloc | apply pw_below_drewN | apply below_drew1 | exact HB.out)) hb1); clear hb1 HB; have HB := HBn; clear HBn)
    clear HK
    go_loopw [2] (fun v wr => ∃ (x : Int) (k : Nat), v = .int .i64 x ∧ Wf x ∧ q x < k ∧ Hid (R = upN l a k x) ∧ Hid (Below W.heap.size W wr)) (fun v _ => q (intOf v))
    case atStart => exact ⟨b, N, rfl, hb, h0, HA2, HB⟩
    case round =>
      clear HB HA2
      obtain ⟨x, k, rfl, hx, hk, HE, HB⟩ := hrel
      by_cases e : x = a
      · have q1 : (x != a) = false := by simpa using e
        go_wp2
        go_ret
        refine ⟨?_, (by repeat (first | (with_reducible exact HB.out) | apply below_alloc | apply pw_below_drewN | apply below_drew1 | exact HB.out))⟩
        obtain ⟨j, rfl⟩ : ∃ j, k = j + 1 := ⟨k - 1, by omega⟩
        rw [HE.out, e, upN_hit]; rfl
      · have q1 : (x != a) = true := by simpa using e
        obtain ⟨j, rfl⟩ : ∃ j, k = j + 1 := ⟨k - 1, by omega⟩
        have c0 := HC.out _ HB.out
        simp at c0
        have hr := HL.out _ HB.out x hx
        cases hl : lookT l x with
        | none =>
          have HE2 := Lib.hid (show R = false by rw [HE.out, upN_stop e hl])
          rw [hl] at hr
          simp only [osV] at hr
          clear hl
          go_wp2
          go_ret
          exact ⟨by rw [HE2.out]; rfl, (by repeat (first | (with_reducible exact HB.out) | apply below_alloc | apply pw_below_drewN | apply below_drew1 | exact HB.out))⟩
        | some s =>
          have HE2 := Lib.hid (show R = upN l a j s.1 by rw [HE.out, upN_step e hl])
          have hlt := HF.out x s hl
          have hws := HS.out x s hl
          obtain ⟨t, nm⟩ := s
          rw [hl] at hr
          simp only [osV] at hr hlt hws HE2
          clear hl
          go_wp2
          go_roundw
          case rel => exact ⟨t, j, rfl, hws, by omega, HE2, Lib.hid (by repeat (first | (with_reducible exact HB.out) | apply below_alloc | apply pw_below_drewN | apply below_drew1 | exact HB.out))⟩
          case measure => simpa [intOf] using hlt
/-- A node's spot is set, or it is taken out. -/
theorem set_some (W : World) (p mb : Nat) (dv : Value) (l l' : List KidR) (n : Int) (s : Sp) (H : TB W p mb dv l) (hn : Wf n) (hlen : l.length < maxLen) (hl' : ∀ y, lookT l' y = if y = n then some s else lookT l y) :
    Calls Tryz.prog 50 #[.pointer (some ⟨p, 0, none⟩), .int .i64 n, osV (some s)] W fun e w' => e = .returned (.tuple #[]) ∧ TB w' p mb dv l' ∧ Touch (fun b => b = mb) W w' := by
  obtain ⟨t, nm⟩ := s
  simp only [osV]
  have hne := H.hm.ne_cells H.hp
  have hb1 : Below W.heap.size W ((W.alloc (.cells #[.bool true, .int .i64 t, .string nm] 73)).drew) := below_drew1 (below_alloc (Below.refl _ _) _)
  have H1 := H.below hb1
  have c0 := blk_cell (H.below (below_alloc (Below.refl _ _) (.cells #[.bool true, .int .i64 t, .string nm] 73))).hp 0
  simp at c0
  obtain ⟨w1, hr, hm1, hg1⟩ := H1.hm.store hn (s := (t, nm)) hlen hl'
  have HM := Lib.hid hm1
  have HG := Lib.hid hg1
  have HP := Lib.hid (blk_grown H1.hp hg1 (by simpa using hne))
  have HT := Lib.hid ((Touch.below hb1).trans (Touch.grown1 hg1) (fun b _ h => h))
  clear hm1 hg1 H1 H hb1 hl'
  go_enter Tryz.func50, Tryz.ntmps50
  go_wp2
  go_region
  all_goals (go_wp2; go_end0; exact ⟨rfl, ⟨HP.out, HM.out⟩, HT.out⟩)
theorem set_none (W : World) (p mb : Nat) (dv : Value) (l l' : List KidR) (n : Int) (H : TB W p mb dv l) (hn : Wf n) (hl' : ∀ y, lookT l' y = if y = n then none else lookT l y) :
    Calls Tryz.prog 50 #[.pointer (some ⟨p, 0, none⟩), .int .i64 n, osV none] W fun e w' => e = .returned (.tuple #[]) ∧ TB w' p mb dv l' ∧ Touch (fun b => b = mb) W w' := by
  simp only [osV]
  have hne := H.hm.ne_cells H.hp
  have hb1 : Below W.heap.size W (W.alloc (.cells #[.bool false, .int .i64 0, .string ⟨#[]⟩] 73)) := below_alloc (Below.refl _ _) _
  have H1 := H.below hb1
  have c0 := blk_cell H1.hp 0
  simp at c0
  obtain ⟨D, ho, hv⟩ := H1.hm
  have HP0 := Lib.hid H1.hp
  have HV := Lib.hid (fun (w1 : World) (h : w1.ownsMap Tryz.prog 3 spR mb l.length (D.del (.int .i64 n))) => MapAt.deleted hv hl' h)
  have HBb := Lib.hid hb1
  clear H1 H hb1 hl' hv
  go_enter Tryz.func50, Tryz.ntmps50
  go_wp2_with (first
    | (at_delete; go_loud ((refine wpList_delete_own _ rfl _ _ 91 3 rfl 73 keysI Tryz.underlying91 spR mb l.length D rfl ho _ _ rfl (keyOf_int_mk Tryz.underlying3 hn) ?_); intro w1 ho1 ht1; have HO1 := Lib.hid ho1; have HT1 := Lib.hid ht1; clear ho1 ht1))
    | (fail "no arm"))
  go_end0
  exact ⟨rfl, ⟨blk_grown HP0.out HT1.out.grown (by simpa using hne), HV.out _ HO1.out⟩, (Touch.below HBb.out).trans (Touch.grown1 HT1.out.grown) (fun b _ h => h)⟩
end Go.Proofs.YtkmdmjlepmmejaaGreatDoor.Tr
