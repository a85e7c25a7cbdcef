/-
  Package pmap's trees, as plain data: what put, del, least, balance make of a tree, and which handles they let go; Package arena in memory; what find, Get, Load come to; What the map's Load comes to; Package pmap's items in memory: which tree an item stands for; Package pmap's item, opened, high, leave
-/
import Derived.Lib.Hide
import Derived.WalkKit
import Derived.WalkSpells
import Derived.WalkLawsBesides
import Derived.BigQuiet
import Derived.Handy
import Derived.Test.YtmhfbpdahfepgaaWWords
import Derived.Test.YtmhfbpdahfepgaaPPmapPlaysx3
import Derived.Test.YtmhfbpdahfepgaaPPmapPlaysx4
import Derived.Deep.RegionWith
import Derived.Deep.RegionHeld3
import Derived.Deep.RegionLaw
import Derived.Test.YtmhfbpdahfepgaaWEqStruct
/- Package pmap's trees, as plain data: what put, del, least, balance make of a tree, and which handles they let go. -/
namespace Go.Proofs.Ytmhfbpdahfepgaa.Pm

structure Hd where
  s : Int
  g : Int
deriving DecidableEq
def H0 : Hd := ⟨0, 0⟩

inductive T (K V : Type) where
  | leaf : T K V
  | node (h : Hd) (k : K) (v : V) (l r : T K V) (hi : Int) : T K V
variable {K V : Type}
def T.h : T K V → Hd
  | .leaf => H0
  | .node h _ _ _ _ _ => h
def T.hi : T K V → Int
  | .leaf => 0
  | .node _ _ _ _ _ hi => hi
def mx (a b : Int) : Int := if a < b then b else a
def gh (h : Hd) : List Hd := if h = H0 then [] else [h]
def mk (k : K) (v : V) (l r : T K V) : T K V := .node H0 k v l r (1 + mx l.hi r.hi)
def fromL (oh : Hd) (ok : K) (ov : V) (l r : T K V) : T K V × List Hd :=
  match l with
  | .leaf => (mk ok ov l r, gh oh)
  | .node lh lk lv ll lr _ =>
    if lr.hi ≤ ll.hi then (mk lk lv ll (mk ok ov lr r), gh oh ++ gh lh)
    else match lr with
      | .leaf => (mk ok ov l r, gh oh)
      | .node mh mkk mv ml mr _ => (mk mkk mv (mk lk lv ll ml) (mk ok ov mr r), gh lh ++ gh oh ++ gh mh)
def fromR (oh : Hd) (ok : K) (ov : V) (l r : T K V) : T K V × List Hd :=
  match r with
  | .leaf => (mk ok ov l r, gh oh)
  | .node rh rk rv rl rr _ =>
    if rl.hi ≤ rr.hi then (mk rk rv (mk ok ov l rl) rr, gh oh ++ gh rh)
    else match rl with
      | .leaf => (mk ok ov l r, gh oh)
      | .node mh mkk mv ml mr _ => (mk mkk mv (mk ok ov l ml) (mk rk rv mr rr), gh oh ++ gh rh ++ gh mh)
def bal (oh : Hd) (ok : K) (ov : V) (l r : T K V) : T K V × List Hd :=
  if 1 < l.hi - r.hi then fromL oh ok ov l r
  else if l.hi - r.hi < -1 then fromR oh ok ov l r
  else (mk ok ov l r, gh oh)
def tput (cmp : K → K → Int) (t : T K V) (k : K) (v : V) : T K V × List Hd :=
  match t with
  | .leaf => (.node H0 k v .leaf .leaf 1, [])
  | .node h k' v' l r hi =>
    if cmp k k' < 0 then ((bal h k' v' (tput cmp l k v).1 r).1, (tput cmp l k v).2 ++ (bal h k' v' (tput cmp l k v).1 r).2)
    else if 0 < cmp k k' then ((bal h k' v' l (tput cmp r k v).1).1, (tput cmp r k v).2 ++ (bal h k' v' l (tput cmp r k v).1).2)
    else (.node H0 k v l r hi, gh h)
/-- The least node (its handle, key, value), and the tree without it, and what is let go. -/
def tleast (h : Hd) (k : K) (v : V) (l r : T K V) : (Hd × K × V) × T K V × List Hd :=
  match l with
  | .leaf => ((h, k, v), r, [])
  | .node h' k' v' l' r' _ => ((tleast h' k' v' l' r').1, (bal h k v (tleast h' k' v' l' r').2.1 r).1, (tleast h' k' v' l' r').2.2 ++ (bal h k v (tleast h' k' v' l' r').2.1 r).2)
def tdel (cmp : K → K → Int) (t : T K V) (k : K) : T K V × List Hd :=
  match t with
  | .leaf => (.leaf, [])
  | .node h k' v' l r _ =>
    if cmp k k' < 0 then ((bal h k' v' (tdel cmp l k).1 r).1, (tdel cmp l k).2 ++ (bal h k' v' (tdel cmp l k).1 r).2)
    else if 0 < cmp k k' then ((bal h k' v' l (tdel cmp r k).1).1, (tdel cmp r k).2 ++ (bal h k' v' l (tdel cmp r k).1).2)
    else match l, r with
      | .leaf, r => (r, gh h)
      | l, .leaf => (l, gh h)
      | l, .node rh rk rv rl rr _ => ((bal (tleast rh rk rv rl rr).1.1 (tleast rh rk rv rl rr).1.2.1 (tleast rh rk rv rl rr).1.2.2 l (tleast rh rk rv rl rr).2.1).1,
          gh h ++ (tleast rh rk rv rl rr).2.2 ++ (bal (tleast rh rk rv rl rr).1.1 (tleast rh rk rv rl rr).1.2.1 (tleast rh rk rv rl rr).1.2.2 l (tleast rh rk rv rl rr).2.1).2)
def fresh : T K V → Nat
  | .leaf => 0
  | .node h _ _ l r _ => if h = H0 then 1 + fresh l + fresh r else 0
def pairs : T K V → List (K × V)
  | .leaf => []
  | .node _ k v l r _ => pairs l ++ (k, v) :: pairs r

/-! ### The arena -/
structure Nd (K V : Type) where
  k : K
  v : V
  l : Hd
  r : Hd
  hi : Int
structure Slot (N : Type) where
  gen : Int
  used : Bool
  x : N
structure Ar (N : Type) where
  most : Nat
  slots : List (Slot N)
  free : List Int
variable {N : Type}
def Ar.room (a : Ar N) : Int := a.most - a.slots.length + a.free.length
def Ar.slot? (a : Ar N) (h : Hd) : Option (Slot N) :=
  if 1 ≤ h.s ∧ h.s ≤ a.slots.length then (a.slots[(h.s - 1).toNat]?).bind (fun s => if s.used && (s.gen == h.g) then some s else none) else none
def Ar.get (a : Ar N) (h : Hd) : Option N := (a.slot? h).map Slot.x
/-- The arena with one more, and its handle. -/
def Ar.put (z : N) (a : Ar N) (x : N) : Ar N × Hd :=
  match a.free.getLast? with
  | none => (⟨a.most, a.slots ++ [⟨1, true, x⟩], a.free⟩, ⟨a.slots.length + 1, 1⟩)
  | some i => let s := a.slots.getD (i - 1).toNat ⟨0, false, z⟩
              (⟨a.most, a.slots.set (i - 1).toNat ⟨s.gen + 1, true, x⟩, a.free.dropLast⟩, ⟨i, s.gen + 1⟩)
def Ar.del (z : N) (a : Ar N) (h : Hd) : Ar N :=
  match a.slot? h with
  | none => a
  | some s => ⟨a.most, a.slots.set (h.s - 1).toNat ⟨s.gen, false, z⟩, a.free ++ [h.s]⟩
/-- The new nodes are laid down. -/
def store (z : Nd K V) (a : Ar (Nd K V)) : T K V → Ar (Nd K V) × Hd × List Hd
  | .leaf => (a, H0, [])
  | .node h k v l r hi =>
    if h = H0 then
      let p := store z a l
      let q := store z p.1 r
      let s := q.1.put z ⟨k, v, p.2.1, q.2.1, hi⟩
      (s.1, s.2, p.2.2 ++ q.2.2 ++ [s.2])
    else (a, h, [])
/-- A tree lies in the arena. -/
def Lies (a : Ar (Nd K V)) : T K V → Prop
  | .leaf => True
  | .node h k v l r hi => h ≠ H0 ∧ a.get h = some ⟨k, v, l.h, r.h, hi⟩ ∧ Lies a l ∧ Lies a r
end Go.Proofs.Ytmhfbpdahfepgaa.Pm
/- Package arena in memory; what find, Get, Load come to. -/
namespace Go.Proofs.Ytmhfbpdahfepgaa.Pm
open Go.RowKit Go.Proofs.YtmhfbpdahfepgaaW.PrintWords

abbrev N2 := Nd Int Int
def slotC (s : Slot N2) : List Value := [.int .i64 s.gen, .bool s.used, .int .i64 s.x.k, .int .i64 s.x.v, .int .i64 s.x.l.s, .int .i64 s.x.l.g, .int .i64 s.x.r.s, .int .i64 s.x.r.g, .int .i64 s.x.hi]
def hdV (h : Hd) : Value := .agg #[.int .i64 h.s, .int .i64 h.g]
def ndV (n : N2) : Value := .agg #[.int .i64 n.k, .int .i64 n.v, .int .i64 n.l.s, .int .i64 n.l.g, .int .i64 n.r.s, .int .i64 n.r.g, .int .i64 n.hi]
def nd0 : N2 := ⟨0, 0, H0, H0, 0⟩
/-- A map lies in block m, its arena in block aa. -/
structure MapAt (w : World) (m aa : Nat) (f sv fv : Value) (a : Ar N2) : Prop where
  hm : w.heap[m]? = some (.cells #[.pointer (some ⟨aa, 0, none⟩), f] 70 (0, 0))
  ha : w.heap[aa]? = some (.cells #[.int .i64 a.most, sv, fv] 84 (0, 0))
  hs : OwnRow (fun s cs => cs = slotC s) 96 9 w 0 sv a.slots
  hf : w.ownsRow 0 3 1 fv a.free.length (nums .i64 a.free)
theorem MapAt.below {w w1 : World} {m aa : Nat} {f sv fv : Value} {a : Ar N2} (h : MapAt w m aa f sv fv a) (hb : Below w.heap.size w w1) : MapAt w1 m aa f sv fv a :=
  ⟨blk_below h.hm hb, blk_below h.ha hb, OwnRow.below h.hs hb, pw_own_below h.hf hb⟩
/-- Where the slots lie. -/
theorem MapAt.slot {w : World} {m aa : Nat} {f sv fv : Value} {a : Ar N2} (h : MapAt w m aa f sv fv a) (i : Nat) (hi : i < a.slots.length) :
    ∃ g c, sv = .slice (some ⟨g, 0, none⟩) a.slots.length c ∧ g < w.heap.size ∧ a.slots.length ≤ c ∧ a.slots.length ≤ 9223372036854775807 ∧ ∀ (j : Nat) (u : Value), (slotC a.slots[i])[j]? = some u → w.cell? ⟨g, i * 9 + j, none⟩ = some u := by
  obtain ⟨inner, ho, hr⟩ := h.hs
  obtain ⟨A, c, he, hc, hrd⟩ := OwnRow.reads h.hs
  rcases ho.2 with ⟨_, h0⟩ | ⟨g, c', cur, he', hg, hcur, h1, h2, _⟩
  · omega
  · rw [he'] at he
    injection he with e1 e2 e3
    subst e1 e3
    refine ⟨g, c', he', blk_lt hcur, hc, hrd.2.1, fun j u hj => ?_⟩
    obtain ⟨ad, e, hcell⟩ := hrd.2.2 (by omega)
    cases e
    obtain ⟨cs, hl, rfl, hcc⟩ := hcell i a.slots[i] (List.getElem?_eq_getElem hi)
    have := hcc j u hj
    rw [show (Addr.mk g 0 none).add (i * 9 + j) = ⟨g, i * 9 + j, none⟩ by unfold Addr.add; split <;> simp_all] at this
    exact this
theorem MapAt.slen {w : World} {m aa : Nat} {f sv fv : Value} {a : Ar N2} (h : MapAt w m aa f sv fv a) : ∃ A c, sv = .slice A a.slots.length c ∧ a.slots.length ≤ 9223372036854775807 := by
  obtain ⟨A, c, he, hc, hrd⟩ := OwnRow.reads h.hs
  exact ⟨A, c, he, hrd.2.1⟩

set_option maxHeartbeats 2000000 in
theorem find_low (w : World) (m aa : Nat) (f sv fv : Value) (a : Ar N2) (s g : Int) (h : MapAt w m aa f sv fv a) (hs : s < 1) :
    Calls Try.prog 45 #[.pointer (some ⟨aa, 0, none⟩), .agg #[.int .i64 s, .int .i64 g]] w fun e w' => e = .returned (.pointer none) ∧ Below w.heap.size w w' := by
  have q : decide (s < 1) = true := decide_eq_true hs
  have c1 := blk_cell h.ha 1
  simp at c1
  have hlt := blk_lt h.ha
  clear h
  go_enter Try.func45, Try.ntmps45
  go_wp2
  go_quiet (fail)
  go_wp2
  go_ret
  exact ⟨rfl, by repeat (first | exact Below.refl _ _ | apply below_alloc | apply pw_below_drewN | apply below_drew1)⟩
set_option maxHeartbeats 2000000 in
theorem find_high (w : World) (m aa : Nat) (f sv fv : Value) (a : Ar N2) (s g : Int) (h : MapAt w m aa f sv fv a) (hs : ¬ s < 1) (hs2 : (a.slots.length : Int) < s) :
    Calls Try.prog 45 #[.pointer (some ⟨aa, 0, none⟩), .agg #[.int .i64 s, .int .i64 g]] w fun e w' => e = .returned (.pointer none) ∧ Below w.heap.size w w' := by
  have q : decide (s < 1) = false := decide_eq_false hs
  obtain ⟨A, c, rfl, hm⟩ := h.slen
  have c1 := blk_cell h.ha 1
  simp at c1
  have hlt := blk_lt h.ha
  clear h
  go_enter Try.func45, Try.ntmps45
  go_wp2
  go_quiet (fail)
  go_wp2
  go_ret
  exact ⟨rfl, by repeat (first | exact Below.refl _ _ | apply below_alloc | apply pw_below_drewN | apply below_drew1)⟩
set_option maxHeartbeats 2000000 in
theorem find_unused (w : World) (m aa : Nat) (f sv fv : Value) (a : Ar N2) (i : Nat) (g : Int) (h : MapAt w m aa f sv fv a) (hi : i < a.slots.length) (hu : a.slots[i].used = false) (b c : Nat) (hsv : sv = .slice (some ⟨b, 0, none⟩) a.slots.length c) (hb : b < w.heap.size) (hm : a.slots.length ≤ 9223372036854775807) (hcell : ∀ (j : Nat) (u : Value), (slotC a.slots[i])[j]? = some u → w.cell? ⟨b, i * 9 + j, none⟩ = some u) :
    Calls Try.prog 45 #[.pointer (some ⟨aa, 0, none⟩), .agg #[.int .i64 ((i : Int) + 1), .int .i64 g]] w fun e w' => e = .returned (.pointer none) ∧ Below w.heap.size w w' := by
  subst hsv
  have c1 := blk_cell h.ha 1
  simp at c1
  have hlt := blk_lt h.ha
  have k0 := hcell 0 _ rfl
  have k1 := hcell 1 _ rfl
  simp only [Nat.add_zero] at k0
  clear h hcell
  rw [hu] at k1
  clear hu
  generalize a.slots[i].gen = gn at *
  generalize a.slots.length = L at *
  have q : decide ((i : Int) + 1 < 1) = false := decide_eq_false (by omega)
  have q2 : decide ((L : Int) < (i : Int) + 1) = false := decide_eq_false (by omega)
  have hi1 : (i : Int) < (L : Int) := by omega
  have e1 : IntKind.i64.wrap ((i : Int) + 1 - 1) = (i : Int) := by rw [IntKind.wrap_i64]; omega
  go_enter Try.func45, Try.ntmps45
  go_wp2
  go_quiet (fail)
  go_wp2
  go_quiet (fail)
  go_wp2
  go_quiet (fail)
  go_wp2
  go_ret
  exact ⟨rfl, by repeat (first | exact Below.refl _ _ | apply below_alloc | apply pw_below_drewN | apply below_drew1)⟩
set_option maxHeartbeats 2000000 in
theorem find_hit (w : World) (m aa : Nat) (f sv fv : Value) (a : Ar N2) (i : Nat) (g : Int) (h : MapAt w m aa f sv fv a) (hi : i < a.slots.length) (hu : a.slots[i].used = true) (hg : a.slots[i].gen = g) (b c : Nat) (hsv : sv = .slice (some ⟨b, 0, none⟩) a.slots.length c) (hb : b < w.heap.size) (hm : a.slots.length ≤ 9223372036854775807) (hcell : ∀ (j : Nat) (u : Value), (slotC a.slots[i])[j]? = some u → w.cell? ⟨b, i * 9 + j, none⟩ = some u) :
    Calls Try.prog 45 #[.pointer (some ⟨aa, 0, none⟩), .agg #[.int .i64 ((i : Int) + 1), .int .i64 g]] w fun e w' => e = .returned (.pointer (some ⟨b, i * 9, none⟩)) ∧ Below w.heap.size w w' := by
  subst hsv
  have c1 := blk_cell h.ha 1
  simp at c1
  have hlt := blk_lt h.ha
  have k0 := hcell 0 _ rfl
  have k1 := hcell 1 _ rfl
  simp only [Nat.add_zero] at k0
  clear h hcell
  rw [hu] at k1
  rw [hg] at k0
  clear hu hg
  generalize a.slots.length = L at *
  have q : decide ((i : Int) + 1 < 1) = false := decide_eq_false (by omega)
  have q2 : decide ((L : Int) < (i : Int) + 1) = false := decide_eq_false (by omega)
  have hi1 : (i : Int) < (L : Int) := by omega
  have e1 : IntKind.i64.wrap ((i : Int) + 1 - 1) = (i : Int) := by rw [IntKind.wrap_i64]; omega
  have q3 : (g != g) = false := by simp
  go_enter Try.func45, Try.ntmps45
  go_wp2
  go_quiet (fail)
  go_wp2
  go_quiet (fail)
  go_wp2
  go_quiet (fail)
  go_wp2
  go_ret
  exact ⟨rfl, by repeat (first | exact Below.refl _ _ | apply below_alloc | apply pw_below_drewN | apply below_drew1)⟩
set_option maxHeartbeats 2000000 in
theorem find_stale (w : World) (m aa : Nat) (f sv fv : Value) (a : Ar N2) (i : Nat) (g : Int) (h : MapAt w m aa f sv fv a) (hi : i < a.slots.length) (hu : a.slots[i].used = true) (hg : a.slots[i].gen ≠ g) (b c : Nat) (hsv : sv = .slice (some ⟨b, 0, none⟩) a.slots.length c) (hb : b < w.heap.size) (hm : a.slots.length ≤ 9223372036854775807) (hcell : ∀ (j : Nat) (u : Value), (slotC a.slots[i])[j]? = some u → w.cell? ⟨b, i * 9 + j, none⟩ = some u) :
    Calls Try.prog 45 #[.pointer (some ⟨aa, 0, none⟩), .agg #[.int .i64 ((i : Int) + 1), .int .i64 g]] w fun e w' => e = .returned (.pointer none) ∧ Below w.heap.size w w' := by
  subst hsv
  have c1 := blk_cell h.ha 1
  simp at c1
  have hlt := blk_lt h.ha
  have k0 := hcell 0 _ rfl
  have k1 := hcell 1 _ rfl
  simp only [Nat.add_zero] at k0
  clear h hcell
  rw [hu] at k1
  clear hu
  generalize a.slots[i].gen = gn at *
  generalize a.slots.length = L at *
  have q : decide ((i : Int) + 1 < 1) = false := decide_eq_false (by omega)
  have q2 : decide ((L : Int) < (i : Int) + 1) = false := decide_eq_false (by omega)
  have hi1 : (i : Int) < (L : Int) := by omega
  have e1 : IntKind.i64.wrap ((i : Int) + 1 - 1) = (i : Int) := by rw [IntKind.wrap_i64]; omega
  have q3 : (gn != g) = true := by rw [bne_iff_ne]; exact hg
  clear hg
  go_enter Try.func45, Try.ntmps45
  go_wp2
  go_quiet (fail)
  go_wp2
  go_quiet (fail)
  go_wp2
  go_quiet (fail)
  go_wp2
  go_ret
  exact ⟨rfl, by repeat (first | exact Below.refl _ _ | apply below_alloc | apply pw_below_drewN | apply below_drew1)⟩
/-- What find answers: nothing, or where the slot lies. -/
theorem find_calls (w : World) (m aa : Nat) (f sv fv : Value) (a : Ar N2) (h : Hd) (H : MapAt w m aa f sv fv a) :
    (a.slot? h = none ∧ Calls Try.prog 45 #[.pointer (some ⟨aa, 0, none⟩), hdV h] w fun e w' => e = .returned (.pointer none) ∧ Below w.heap.size w w') ∨
    ∃ (i b c : Nat) (hi : i < a.slots.length), a.slot? h = some a.slots[i] ∧ h.s = (i : Int) + 1 ∧ a.slots[i].used = true ∧ a.slots[i].gen = h.g ∧ sv = .slice (some ⟨b, 0, none⟩) a.slots.length c ∧ b < w.heap.size ∧ (∀ (j : Nat) (u : Value), (slotC a.slots[i])[j]? = some u → w.cell? ⟨b, i * 9 + j, none⟩ = some u) ∧
      Calls Try.prog 45 #[.pointer (some ⟨aa, 0, none⟩), hdV h] w fun e w' => e = .returned (.pointer (some ⟨b, i * 9, none⟩)) ∧ Below w.heap.size w w' := by
  unfold Ar.slot?
  by_cases h1 : h.s < 1
  · rw [if_neg (by omega)]
    exact .inl ⟨rfl, find_low w m aa f sv fv a h.s h.g H h1⟩
  · by_cases h2 : (a.slots.length : Int) < h.s
    · rw [if_neg (by omega)]
      exact .inl ⟨rfl, find_high w m aa f sv fv a h.s h.g H h1 h2⟩
    · rw [if_pos (by omega)]
      obtain ⟨i, hi⟩ : ∃ i : Nat, h.s = (i : Int) + 1 := ⟨(h.s - 1).toNat, by omega⟩
      have hil : i < a.slots.length := by omega
      obtain ⟨b, c, hsv, hb, hc, hm, hcell⟩ := H.slot i hil
      rw [hdV, hi, show ((i : Int) + 1 - 1).toNat = i by omega, List.getElem?_eq_getElem hil, Option.bind_some]
      cases hu : a.slots[i].used with
      | false => exact .inl ⟨rfl, find_unused w m aa f sv fv a i h.g H hil hu b c hsv hb hm hcell⟩
      | true =>
        by_cases hg : a.slots[i].gen = h.g
        · exact .inr ⟨i, b, c, hil, by simp [hg], rfl, hu, hg, hsv, hb, hcell, find_hit w m aa f sv fv a i h.g H hil hu hg b c hsv hb hm hcell⟩
        · exact .inl ⟨by simp [hg], find_stale w m aa f sv fv a i h.g H hil hu hg b c hsv hb hm hcell⟩
set_option maxHeartbeats 2000000 in
theorem get_calls (w : World) (m aa : Nat) (f sv fv : Value) (a : Ar N2) (h : Hd) (H : MapAt w m aa f sv fv a) :
    Calls Try.prog 35 #[.pointer (some ⟨aa, 0, none⟩), hdV h] w fun e w' =>
      e = .returned (.tuple #[ndV ((a.get h).getD nd0), .bool (a.get h).isSome]) ∧ Below w.heap.size w w' := by
  have hget : a.get h = (a.slot? h).map Slot.x := rfl
  have HB := Lib.hid (Below.refl w.heap.size w)
  have H0 := Lib.hid H
  have hw0 : Below w.heap.size w (((w.alloc (.cells #[.int .i64 h.s, .int .i64 h.g] 28))).alloc (.cells #[.int .i64 0, .int .i64 0, .int .i64 0, .int .i64 0, .int .i64 0, .int .i64 0, .int .i64 0] 44)) := below_alloc (below_alloc (Below.refl _ _) _) _
  rcases find_calls _ m aa f sv fv a h (H.below hw0) with ⟨hn, hc⟩ | ⟨i, b, c, hi, hn, hs, hu, hg, hsv, hb, hcell, hc⟩
  · rw [hget, hn]
    have HC := Lib.hid hc
    clear hget hn hc H hw0
    simp only [hdV, ndV, nd0, Option.map_none, Option.getD_none, Option.isSome_none] at HC ⊢
    go_enter Try.func35, Try.ntmps35
    go_upto_region 4 with (first
      | (go_at_call 45; go_loud ((refine Calls.mono HC.out ?_); rintro e w1 ⟨rfl, hb⟩; have G := Lib.hid (show w1.heap[w.heap.size + 1]? = some (.cells #[.int .i64 0, .int .i64 0, .int .i64 0, .int .i64 0, .int .i64 0, .int .i64 0, .int .i64 0] 44 (0, 0)) from blk_below (by have := blk_new (w.alloc (.cells #[.int .i64 h.s, .int .i64 h.g] 28)) (.cells #[.int .i64 0, .int .i64 0, .int .i64 0, .int .i64 0, .int .i64 0, .int .i64 0, .int .i64 0] 44); rw [World.size_alloc] at this; exact this) hb); have HBn := Lib.hid (below_step (by repeat (first | (with_reducible exact HB.out) | apply below_alloc | apply pw_below_drewN | apply below_drew1 | exact HB.out)) hb); clear hb HB; have HB := HBn; clear HBn))
      | (fail "no arm"))
    have G2 := Lib.hid (blk_alloc G.out (.cells #[.int .i64 0, .int .i64 0, .int .i64 0, .int .i64 0, .int .i64 0, .int .i64 0, .int .i64 0] 44))
    have HB2 := Lib.hid (below_alloc HB.out (.cells #[.int .i64 0, .int .i64 0, .int .i64 0, .int .i64 0, .int .i64 0, .int .i64 0, .int .i64 0] 44))
    have hn2 : (w1.alloc (.cells #[.int .i64 0, .int .i64 0, .int .i64 0, .int .i64 0, .int .i64 0, .int .i64 0, .int .i64 0] 44)).cell? ⟨w1.heap.size, 0, none⟩ = some (.int .i64 0) ∧ (w1.alloc (.cells #[.int .i64 0, .int .i64 0, .int .i64 0, .int .i64 0, .int .i64 0, .int .i64 0, .int .i64 0] 44)).cell? ⟨w1.heap.size, 1, none⟩ = some (.int .i64 0) ∧ (w1.alloc (.cells #[.int .i64 0, .int .i64 0, .int .i64 0, .int .i64 0, .int .i64 0, .int .i64 0, .int .i64 0] 44)).cell? ⟨w1.heap.size, 2, none⟩ = some (.int .i64 0) ∧ (w1.alloc (.cells #[.int .i64 0, .int .i64 0, .int .i64 0, .int .i64 0, .int .i64 0, .int .i64 0, .int .i64 0] 44)).cell? ⟨w1.heap.size, 3, none⟩ = some (.int .i64 0) ∧ (w1.alloc (.cells #[.int .i64 0, .int .i64 0, .int .i64 0, .int .i64 0, .int .i64 0, .int .i64 0, .int .i64 0] 44)).cell? ⟨w1.heap.size, 4, none⟩ = some (.int .i64 0) ∧ (w1.alloc (.cells #[.int .i64 0, .int .i64 0, .int .i64 0, .int .i64 0, .int .i64 0, .int .i64 0, .int .i64 0] 44)).cell? ⟨w1.heap.size, 5, none⟩ = some (.int .i64 0) ∧ (w1.alloc (.cells #[.int .i64 0, .int .i64 0, .int .i64 0, .int .i64 0, .int .i64 0, .int .i64 0, .int .i64 0] 44)).cell? ⟨w1.heap.size, 6, none⟩ = some (.int .i64 0) := ⟨blk_cell (blk_new _ _) 0, blk_cell (blk_new _ _) 1, blk_cell (blk_new _ _) 2, blk_cell (blk_new _ _) 3, blk_cell (blk_new _ _) 4, blk_cell (blk_new _ _) 5, blk_cell (blk_new _ _) 6⟩
    generalize w1.alloc (.cells #[.int .i64 0, .int .i64 0, .int .i64 0, .int .i64 0, .int .i64 0, .int .i64 0, .int .i64 0] 44) = W2 at *
    obtain ⟨n0, n1, n2, n3, n4, n5, n6⟩ := hn2
    have p0 : W2.cell? ⟨w.heap.size + 1, 0, none⟩ = some (.int .i64 0) := blk_cell G2.out 0; have z0 := blk_frozen G2.out 0; have p1 : W2.cell? ⟨w.heap.size + 1, 1, none⟩ = some (.int .i64 0) := blk_cell G2.out 1; have z1 := blk_frozen G2.out 1; have p2 : W2.cell? ⟨w.heap.size + 1, 2, none⟩ = some (.int .i64 0) := blk_cell G2.out 2; have z2 := blk_frozen G2.out 2; have p3 : W2.cell? ⟨w.heap.size + 1, 3, none⟩ = some (.int .i64 0) := blk_cell G2.out 3; have z3 := blk_frozen G2.out 3; have p4 : W2.cell? ⟨w.heap.size + 1, 4, none⟩ = some (.int .i64 0) := blk_cell G2.out 4; have z4 := blk_frozen G2.out 4; have p5 : W2.cell? ⟨w.heap.size + 1, 5, none⟩ = some (.int .i64 0) := blk_cell G2.out 5; have z5 := blk_frozen G2.out 5; have p6 : W2.cell? ⟨w.heap.size + 1, 6, none⟩ = some (.int .i64 0) := blk_cell G2.out 6; have z6 := blk_frozen G2.out 6
    go_wp2
    refine (show ∀ W : World, (W.heap[w.heap.size + 1]? = some (.cells #[.int .i64 0, .int .i64 0, .int .i64 0, .int .i64 0, .int .i64 0, .int .i64 0, .int .i64 0] 44 (0, 0)) ∧ Below w.heap.size w W) → bodyPost _ _ _ _ _ W from fun W h => ?_) _ ⟨(blk_put (blk_put (blk_put (blk_put (blk_put (blk_put (blk_put G2.out 0 (.int .i64 0) rfl) 1 (.int .i64 0) rfl) 2 (.int .i64 0) rfl) 3 (.int .i64 0) rfl) 4 (.int .i64 0) rfl) 5 (.int .i64 0) rfl) 6 (.int .i64 0) rfl), (((((((HB2.out.setCell (p := ⟨w.heap.size + 1, 0, none⟩) (by simp) (.int .i64 0)).setCell (p := ⟨w.heap.size + 1, 1, none⟩) (by simp) (.int .i64 0)).setCell (p := ⟨w.heap.size + 1, 2, none⟩) (by simp) (.int .i64 0)).setCell (p := ⟨w.heap.size + 1, 3, none⟩) (by simp) (.int .i64 0)).setCell (p := ⟨w.heap.size + 1, 4, none⟩) (by simp) (.int .i64 0)).setCell (p := ⟨w.heap.size + 1, 5, none⟩) (by simp) (.int .i64 0)).setCell (p := ⟨w.heap.size + 1, 6, none⟩) (by simp) (.int .i64 0))⟩
    obtain ⟨hG, hBW⟩ := h
    have k0 : W.cell? ⟨w.heap.size + 1, 0, none⟩ = some (.int .i64 0) := blk_cell hG 0
    have k1 : W.cell? ⟨w.heap.size + 1, 1, none⟩ = some (.int .i64 0) := blk_cell hG 1
    have k2 : W.cell? ⟨w.heap.size + 1, 2, none⟩ = some (.int .i64 0) := blk_cell hG 2
    have k3 : W.cell? ⟨w.heap.size + 1, 3, none⟩ = some (.int .i64 0) := blk_cell hG 3
    have k4 : W.cell? ⟨w.heap.size + 1, 4, none⟩ = some (.int .i64 0) := blk_cell hG 4
    have k5 : W.cell? ⟨w.heap.size + 1, 5, none⟩ = some (.int .i64 0) := blk_cell hG 5
    have k6 : W.cell? ⟨w.heap.size + 1, 6, none⟩ = some (.int .i64 0) := blk_cell hG 6
    have HG := Lib.hid hG
    clear hG
    refine bodyPost_ret (by simp [results, Try.results35, go_sem, k0, k1, k2, k3, k4, k5, k6]; try rfl) rfl ?_
    exact ⟨rfl, hBW⟩
  · have hx : a.get h = some a.slots[i].x := by rw [hget, hn]; rfl
    rw [hx]
    have HC := Lib.hid hc
    have k2 := hcell 2 _ rfl
    have k3 := hcell 3 _ rfl
    have k4 := hcell 4 _ rfl
    have k5 := hcell 5 _ rfl
    have k6 := hcell 6 _ rfl
    have k7 := hcell 7 _ rfl
    have k8 := hcell 8 _ rfl
    clear hget hn hc H hw0 hcell hsv hu hg hs hx H0
    generalize a.slots[i].x = n at *
    simp only [hdV, ndV, Option.getD_some, Option.isSome_some] at HC ⊢
    go_enter Try.func35, Try.ntmps35
    go_wp2_with (first
      | (go_at_call 45; go_loud ((refine Calls.mono HC.out ?_); rintro e w1 ⟨rfl, hb⟩; have m2 := pw_cell_below hb k2; have m3 := pw_cell_below hb k3; have m4 := pw_cell_below hb k4; have m5 := pw_cell_below hb k5; have m6 := pw_cell_below hb k6; have m7 := pw_cell_below hb k7; have m8 := pw_cell_below hb k8; clear k2 k3 k4 k5 k6 k7 k8; have G := Lib.hid (show w1.heap[w.heap.size + 1]? = some (.cells #[.int .i64 0, .int .i64 0, .int .i64 0, .int .i64 0, .int .i64 0, .int .i64 0, .int .i64 0] 44 (0, 0)) from blk_below (by have := blk_new (w.alloc (.cells #[.int .i64 h.s, .int .i64 h.g] 28)) (.cells #[.int .i64 0, .int .i64 0, .int .i64 0, .int .i64 0, .int .i64 0, .int .i64 0, .int .i64 0] 44); rw [World.size_alloc] at this; exact this) hb); have p0 : w1.cell? ⟨w.heap.size + 1, 0, none⟩ = some (.int .i64 0) := blk_cell G.out 0; have z0 := blk_frozen G.out 0; have p1 : w1.cell? ⟨w.heap.size + 1, 1, none⟩ = some (.int .i64 0) := blk_cell G.out 1; have z1 := blk_frozen G.out 1; have p2 : w1.cell? ⟨w.heap.size + 1, 2, none⟩ = some (.int .i64 0) := blk_cell G.out 2; have z2 := blk_frozen G.out 2; have p3 : w1.cell? ⟨w.heap.size + 1, 3, none⟩ = some (.int .i64 0) := blk_cell G.out 3; have z3 := blk_frozen G.out 3; have p4 : w1.cell? ⟨w.heap.size + 1, 4, none⟩ = some (.int .i64 0) := blk_cell G.out 4; have z4 := blk_frozen G.out 4; have p5 : w1.cell? ⟨w.heap.size + 1, 5, none⟩ = some (.int .i64 0) := blk_cell G.out 5; have z5 := blk_frozen G.out 5; have p6 : w1.cell? ⟨w.heap.size + 1, 6, none⟩ = some (.int .i64 0) := blk_cell G.out 6; have z6 := blk_frozen G.out 6; have HBn := Lib.hid (below_step (by repeat (first | (with_reducible exact HB.out) | apply below_alloc | apply pw_below_drewN | apply below_drew1 | exact HB.out)) hb); clear hb HB; have HB := HBn; clear HBn))
      | (fail "no arm"))
    refine (show ∀ W : World, (W.heap[w.heap.size + 1]? = some (.cells #[.int .i64 n.k, .int .i64 n.v, .int .i64 n.l.s, .int .i64 n.l.g, .int .i64 n.r.s, .int .i64 n.r.g, .int .i64 n.hi] 44 (0, 0)) ∧ Below w.heap.size w W) → bodyPost _ _ _ _ _ W from fun W h => ?_) _ ⟨(blk_put (blk_put (blk_put (blk_put (blk_put (blk_put (blk_put G.out 0 (.int .i64 n.k) rfl) 1 (.int .i64 n.v) rfl) 2 (.int .i64 n.l.s) rfl) 3 (.int .i64 n.l.g) rfl) 4 (.int .i64 n.r.s) rfl) 5 (.int .i64 n.r.g) rfl) 6 (.int .i64 n.hi) rfl), (((((((HB.out.setCell (p := ⟨w.heap.size + 1, 0, none⟩) (by simp) (.int .i64 n.k)).setCell (p := ⟨w.heap.size + 1, 1, none⟩) (by simp) (.int .i64 n.v)).setCell (p := ⟨w.heap.size + 1, 2, none⟩) (by simp) (.int .i64 n.l.s)).setCell (p := ⟨w.heap.size + 1, 3, none⟩) (by simp) (.int .i64 n.l.g)).setCell (p := ⟨w.heap.size + 1, 4, none⟩) (by simp) (.int .i64 n.r.s)).setCell (p := ⟨w.heap.size + 1, 5, none⟩) (by simp) (.int .i64 n.r.g)).setCell (p := ⟨w.heap.size + 1, 6, none⟩) (by simp) (.int .i64 n.hi))⟩
    obtain ⟨hG, hBW⟩ := h
    have k0 : W.cell? ⟨w.heap.size + 1, 0, none⟩ = some (.int .i64 n.k) := blk_cell hG 0
    have k1 : W.cell? ⟨w.heap.size + 1, 1, none⟩ = some (.int .i64 n.v) := blk_cell hG 1
    have k2 : W.cell? ⟨w.heap.size + 1, 2, none⟩ = some (.int .i64 n.l.s) := blk_cell hG 2
    have k3 : W.cell? ⟨w.heap.size + 1, 3, none⟩ = some (.int .i64 n.l.g) := blk_cell hG 3
    have k4 : W.cell? ⟨w.heap.size + 1, 4, none⟩ = some (.int .i64 n.r.s) := blk_cell hG 4
    have k5 : W.cell? ⟨w.heap.size + 1, 5, none⟩ = some (.int .i64 n.r.g) := blk_cell hG 5
    have k6 : W.cell? ⟨w.heap.size + 1, 6, none⟩ = some (.int .i64 n.hi) := blk_cell hG 6
    have HG := Lib.hid hG
    clear hG
    refine bodyPost_ret (by simp [results, Try.results35, go_sem, k0, k1, k2, k3, k4, k5, k6]; try rfl) rfl ?_
    exact ⟨rfl, hBW⟩
end Go.Proofs.Ytmhfbpdahfepgaa.Pm
/- What the map's Load comes to. -/
namespace Go.Proofs.Ytmhfbpdahfepgaa.Pm
open Go.RowKit Go.Proofs.YtmhfbpdahfepgaaW.PrintWords

set_option maxHeartbeats 2000000 in
theorem load_calls (w : World) (m aa : Nat) (f sv fv : Value) (a : Ar N2) (h : Hd) (H : MapAt w m aa f sv fv a) :
    Calls Try.prog 18 #[.pointer (some ⟨m, 0, none⟩), hdV h] w fun e w' =>
      e = .returned (.tuple #[ndV ((a.get h).getD nd0), .bool (a.get h).isSome]) ∧ Below w.heap.size w w' := by
  have HB := Lib.hid (Below.refl w.heap.size w)
  have HG := Lib.hid (fun (W : World) (hb : Below w.heap.size w W) => get_calls W m aa f sv fv a h (H.below hb))
  have c0 := blk_cell H.hm 0
  simp at c0
  have hlt := blk_lt H.hm
  generalize (a.get h).getD nd0 = n at *
  generalize (a.get h).isSome = ok at *
  clear H
  simp only [hdV, ndV] at HG ⊢
  go_enter Try.func18, Try.ntmps18
  go_wp2
  go_region_with (first
    | (go_at_call 35; go_loud ((refine Calls.mono (HG.out _ (by repeat (first | (with_reducible exact HB.out) | apply below_alloc | apply pw_below_drewN | apply below_drew1 | exact HB.out))) ?_); rintro e w1 ⟨rfl, hb⟩; have G := Lib.hid (show w1.heap[w.heap.size + 1]? = some (.cells #[.int .i64 0, .int .i64 0, .int .i64 0, .int .i64 0, .int .i64 0, .int .i64 0, .int .i64 0] 44 (0, 0)) from blk_below (by have := blk_new (w.alloc (.cells #[.int .i64 h.s, .int .i64 h.g] 28)) (.cells #[.int .i64 0, .int .i64 0, .int .i64 0, .int .i64 0, .int .i64 0, .int .i64 0, .int .i64 0] 44); rw [World.size_alloc] at this; exact this) hb); have p0 : w1.cell? ⟨w.heap.size + 1, 0, none⟩ = some (.int .i64 0) := blk_cell G.out 0; have z0 := blk_frozen G.out 0; have p1 : w1.cell? ⟨w.heap.size + 1, 1, none⟩ = some (.int .i64 0) := blk_cell G.out 1; have z1 := blk_frozen G.out 1; have p2 : w1.cell? ⟨w.heap.size + 1, 2, none⟩ = some (.int .i64 0) := blk_cell G.out 2; have z2 := blk_frozen G.out 2; have p3 : w1.cell? ⟨w.heap.size + 1, 3, none⟩ = some (.int .i64 0) := blk_cell G.out 3; have z3 := blk_frozen G.out 3; have p4 : w1.cell? ⟨w.heap.size + 1, 4, none⟩ = some (.int .i64 0) := blk_cell G.out 4; have z4 := blk_frozen G.out 4; have p5 : w1.cell? ⟨w.heap.size + 1, 5, none⟩ = some (.int .i64 0) := blk_cell G.out 5; have z5 := blk_frozen G.out 5; have p6 : w1.cell? ⟨w.heap.size + 1, 6, none⟩ = some (.int .i64 0) := blk_cell G.out 6; have z6 := blk_frozen G.out 6; have HBn := Lib.hid (below_step (by repeat (first | (with_reducible exact HB.out) | apply below_alloc | apply pw_below_drewN | apply below_drew1 | exact HB.out)) hb); clear hb HB; have HB := HBn; clear HBn))
    | (fail "no arm"))
  go_wp2
  all_goals
    refine (show ∀ W : World, (W.heap[w.heap.size + 1]? = some (.cells #[.int .i64 n.k, .int .i64 n.v, .int .i64 n.l.s, .int .i64 n.l.g, .int .i64 n.r.s, .int .i64 n.r.g, .int .i64 n.hi] 44 (0, 0)) ∧ Below w.heap.size w W) → bodyPost _ _ _ _ _ W from fun W h => ?_) _ ⟨(blk_put (blk_put (blk_put (blk_put (blk_put (blk_put (blk_put G.out 0 (.int .i64 n.k) rfl) 1 (.int .i64 n.v) rfl) 2 (.int .i64 n.l.s) rfl) 3 (.int .i64 n.l.g) rfl) 4 (.int .i64 n.r.s) rfl) 5 (.int .i64 n.r.g) rfl) 6 (.int .i64 n.hi) rfl), (((((((HB.out.setCell (p := ⟨w.heap.size + 1, 0, none⟩) (by simp) (.int .i64 n.k)).setCell (p := ⟨w.heap.size + 1, 1, none⟩) (by simp) (.int .i64 n.v)).setCell (p := ⟨w.heap.size + 1, 2, none⟩) (by simp) (.int .i64 n.l.s)).setCell (p := ⟨w.heap.size + 1, 3, none⟩) (by simp) (.int .i64 n.l.g)).setCell (p := ⟨w.heap.size + 1, 4, none⟩) (by simp) (.int .i64 n.r.s)).setCell (p := ⟨w.heap.size + 1, 5, none⟩) (by simp) (.int .i64 n.r.g)).setCell (p := ⟨w.heap.size + 1, 6, none⟩) (by simp) (.int .i64 n.hi))⟩
    obtain ⟨hG, hBW⟩ := h
    have k0 : W.cell? ⟨w.heap.size + 1, 0, none⟩ = some (.int .i64 n.k) := blk_cell hG 0
    have k1 : W.cell? ⟨w.heap.size + 1, 1, none⟩ = some (.int .i64 n.v) := blk_cell hG 1
    have k2 : W.cell? ⟨w.heap.size + 1, 2, none⟩ = some (.int .i64 n.l.s) := blk_cell hG 2
    have k3 : W.cell? ⟨w.heap.size + 1, 3, none⟩ = some (.int .i64 n.l.g) := blk_cell hG 3
    have k4 : W.cell? ⟨w.heap.size + 1, 4, none⟩ = some (.int .i64 n.r.s) := blk_cell hG 4
    have k5 : W.cell? ⟨w.heap.size + 1, 5, none⟩ = some (.int .i64 n.r.g) := blk_cell hG 5
    have k6 : W.cell? ⟨w.heap.size + 1, 6, none⟩ = some (.int .i64 n.hi) := blk_cell hG 6
    have HG := Lib.hid hG
    clear hG
    refine bodyPost_ret (by simp [results, Try.results18, go_sem, k0, k1, k2, k3, k4, k5, k6]; try rfl) rfl ?_
    exact ⟨rfl, hBW⟩
end Go.Proofs.Ytmhfbpdahfepgaa.Pm
/- Package pmap's items in memory: which tree an item stands for. -/
namespace Go.Proofs.Ytmhfbpdahfepgaa.Pm
open Go.RowKit Go.Proofs.YtmhfbpdahfepgaaW.PrintWords

abbrev T2 := T Int Int
def ptrV (p : Option Nat) : Value := .pointer (p.map fun b => ⟨b, 0, none⟩)
def closedC (h : Hd) : Array Value := #[.int .i64 h.s, .int .i64 h.g, .bool false, .int .i64 0, .int .i64 0, .pointer none, .pointer none, .int .i64 0]
def openC (h : Hd) (k v : Int) (pl pr : Option Nat) (hi : Int) : Array Value := #[.int .i64 h.s, .int .i64 h.g, .bool true, .int .i64 k, .int .i64 v, ptrV pl, ptrV pr, .int .i64 hi]
/-- An item stands for a tree: one that lies in the arena, and isn't opened, or an opened one. -/
def Den (B : Nat) (W : World) (a : Ar N2) : Option Nat → T2 → Prop
  | p, .leaf => p = none
  | p, .node h k v l r hi => ∃ b, p = some b ∧ B ≤ b ∧ ((W.heap[b]? = some (.cells (closedC h) 89 (0, 0)) ∧ Lies a (.node h k v l r hi)) ∨
      ∃ pl pr, W.heap[b]? = some (.cells (openC h k v pl pr hi) 89 (0, 0)) ∧ Den B W a pl l ∧ Den B W a pr r)
/-- An item is open. -/
def OpenAt (B : Nat) (W : World) (a : Ar N2) (b : Nat) (h : Hd) (k v : Int) (l r : T2) (hi : Int) : Prop :=
  B ≤ b ∧ ∃ pl pr, W.heap[b]? = some (.cells (openC h k v pl pr hi) 89 (0, 0)) ∧ Den B W a pl l ∧ Den B W a pr r
theorem OpenAt.den {B : Nat} {W : World} {a : Ar N2} {b : Nat} {h : Hd} {k v : Int} {l r : T2} {hi : Int} (H : OpenAt B W a b h k v l r hi) : Den B W a (some b) (.node h k v l r hi) := ⟨b, rfl, H.1, .inr H.2⟩
theorem closed_ne_open {h h' : Hd} {k v : Int} {pl pr : Option Nat} {hi : Int} : closedC h ≠ openC h' k v pl pr hi := by
  intro e
  have := congrArg (fun x => x[2]?) e
  simp [closedC, openC] at this
theorem lies_unique {a : Ar N2} : ∀ (t t' : T2), Lies a t → Lies a t' → t.h = t'.h → t = t'
  | .leaf, .leaf, _, _, _ => rfl
  | .leaf, .node h _ _ _ _ _, _, h2, e => absurd e.symm h2.1
  | .node h _ _ _ _ _, .leaf, h1, _, e => absurd e h1.1
  | .node h k v l r hi, .node h' k' v' l' r' hi', h1, h2, e => by
    obtain ⟨_, g1, l1, r1⟩ := h1
    obtain ⟨_, g2, l2, r2⟩ := h2
    have e' : h = h' := e
    subst e'
    rw [g1] at g2
    injection g2 with g2
    injection g2 with e1 e2 e3 e4 e5
    subst e1 e2 e5
    rw [lies_unique l l' l1 l2 e3, lies_unique r r' r1 r2 e4]
/-- All items that stand for a tree go on to do so; open ones stay as they are. -/
structure Ext (B : Nat) (a : Ar N2) (W W' : World) : Prop where
  den : ∀ p t, Den B W a p t → Den B W' a p t
  opn : ∀ (b : Nat) (h : Hd) (k v : Int) (pl pr : Option Nat) (hi : Int), W.heap[b]? = some (.cells (openC h k v pl pr hi) 89 (0, 0)) → W'.heap[b]? = some (.cells (openC h k v pl pr hi) 89 (0, 0))
theorem Ext.refl (B : Nat) (a : Ar N2) (W : World) : Ext B a W W := ⟨fun _ _ h => h, fun _ _ _ _ _ _ _ h => h⟩
theorem Ext.trans {B : Nat} {a : Ar N2} {W W' W'' : World} (h : Ext B a W W') (k : Ext B a W' W'') : Ext B a W W'' := ⟨fun p t x => k.den p t (h.den p t x), fun _ _ _ _ _ _ _ x => k.opn _ _ _ _ _ _ _ (h.opn _ _ _ _ _ _ _ x)⟩
theorem Ext.openAt {B : Nat} {a : Ar N2} {W W' : World} (e : Ext B a W W') {b : Nat} {h : Hd} {k v : Int} {l r : T2} {hi : Int} (H : OpenAt B W a b h k v l r hi) : OpenAt B W' a b h k v l r hi := by
  obtain ⟨h0, pl, pr, h1, h2, h3⟩ := H
  exact ⟨h0, pl, pr, e.opn _ _ _ _ _ _ _ h1, e.den _ _ h2, e.den _ _ h3⟩
theorem den_keep {B : Nat} {a : Ar N2} {W W' : World} (hk : ∀ (b : Nat) cs, W.heap[b]? = some (.cells cs 89 (0, 0)) → W'.heap[b]? = some (.cells cs 89 (0, 0))) : ∀ (t : T2) (p : Option Nat), Den B W a p t → Den B W' a p t
  | .leaf, _, h => h
  | .node h k v l r hi, p, H => by
    obtain ⟨b, rfl, h0, H⟩ := H
    rcases H with ⟨h1, h2⟩ | ⟨pl, pr, h1, h2, h3⟩
    · exact ⟨b, rfl, h0, .inl ⟨hk _ _ h1, h2⟩⟩
    · exact ⟨b, rfl, h0, .inr ⟨pl, pr, hk _ _ h1, den_keep hk l pl h2, den_keep hk r pr h3⟩⟩
theorem Ext.keep {B : Nat} {a : Ar N2} {W W' : World} (hk : ∀ (b : Nat) cs, W.heap[b]? = some (.cells cs 89 (0, 0)) → W'.heap[b]? = some (.cells cs 89 (0, 0))) : Ext B a W W' :=
  ⟨fun p t => den_keep hk t p, fun _ _ _ _ _ _ _ h => hk _ _ h⟩
theorem Ext.below {B : Nat} {a : Ar N2} {W W' : World} (hb : Below W.heap.size W W') : Ext B a W W' := Ext.keep fun _ _ h => blk_below h hb
/-- An item is opened. -/
theorem den_open {B : Nat} {a : Ar N2} {W W' : World} {b : Nat} {h : Hd} {k v : Int} {l r : T2} {hi : Int} (hc : W.heap[b]? = some (.cells (closedC h) 89 (0, 0))) (hl : Lies a (.node h k v l r hi))
    (hk : ∀ (b' : Nat) cs, b' ≠ b → W.heap[b']? = some (.cells cs 89 (0, 0)) → W'.heap[b']? = some (.cells cs 89 (0, 0)))
    (ho : OpenAt B W' a b h k v l r hi) : ∀ (t : T2) (p : Option Nat), Den B W a p t → Den B W' a p t
  | .leaf, _, H => H
  | .node h' k' v' l' r' hi', p, H => by
    obtain ⟨b', rfl, h0, H⟩ := H
    rcases H with ⟨h1, h2⟩ | ⟨pl, pr, h1, h2, h3⟩
    · by_cases e : b' = b
      · subst e
        rw [hc] at h1
        have e1 : closedC h = closedC h' := by injection h1 with h1; injection h1
        have e2 : h = h' := by
          have x0 := congrArg (fun x => x[0]?) e1
          have x1 := congrArg (fun x => x[1]?) e1
          simp [closedC] at x0 x1
          obtain ⟨s, g⟩ := h
          obtain ⟨s', g'⟩ := h'
          simp at x0 x1
          rw [x0, x1]
        have e3 := lies_unique _ _ hl h2 e2
        rw [← e3]
        exact ho.den
      · exact ⟨b', rfl, h0, .inl ⟨hk _ _ e h1, h2⟩⟩
    · have e : b' ≠ b := by
        intro e
        subst e
        rw [hc] at h1
        have e1 : closedC h = openC h' k' v' pl pr hi' := by injection h1 with h1; injection h1
        exact closed_ne_open e1
      exact ⟨b', rfl, h0, .inr ⟨pl, pr, hk _ _ e h1, den_open hc hl hk ho l' pl h2, den_open hc hl hk ho r' pr h3⟩⟩
theorem Ext.opened {B : Nat} {a : Ar N2} {W W' : World} {b : Nat} {h : Hd} {k v : Int} {l r : T2} {hi : Int} (hc : W.heap[b]? = some (.cells (closedC h) 89 (0, 0))) (hl : Lies a (.node h k v l r hi))
    (hk : ∀ (b' : Nat) cs, b' ≠ b → W.heap[b']? = some (.cells cs 89 (0, 0)) → W'.heap[b']? = some (.cells cs 89 (0, 0)))
    (ho : OpenAt B W' a b h k v l r hi) : Ext B a W W' :=
  ⟨fun p t => den_open hc hl hk ho t p, fun b' h' k' v' pl pr hi' H => hk _ _ (by
    intro e
    subst e
    rw [hc] at H
    have e1 : closedC h = openC h' k' v' pl pr hi' := by injection H with H; injection H
    exact closed_ne_open e1) H⟩
theorem undrew {W w : World} (h : Below W.drew.heap.size W.drew w) : Below W.heap.size W w := ⟨h.os, h.tape, h.output, h.size, h.block⟩
/-- Only block b may have been written; blocks may be new. -/
structure Wd (b : Nat) (w w' : World) : Prop where
  os : w'.os = w.os
  tape : w'.tape = w.tape
  output : w'.output = w.output
  size : w.heap.size ≤ w'.heap.size
  block : ∀ k, k < w.heap.size → k ≠ b → w'.heap[k]? = w.heap[k]?
theorem Wd.more {b : Nat} {w w1 w2 : World} (h : Wd b w w1) (k : Below w1.heap.size w1 w2) : Wd b w w2 :=
  ⟨k.os.trans h.os, k.tape.trans h.tape, k.output.trans h.output, Nat.le_trans h.size k.size, fun j hj hne => (k.block j (Nat.lt_of_lt_of_le hj h.size)).trans (h.block j hj hne)⟩
theorem Wd.of {b : Nat} {w w1 : World} (k : Below w.heap.size w w1) : Wd b w w1 := ⟨k.os, k.tape, k.output, k.size, fun j hj _ => k.block j hj⟩
theorem Wd.set {b : Nat} {w w1 : World} (h : Wd b w w1) (j : Nat) (u : Value) : Wd b w (w1.setCell ⟨b, j, none⟩ u) :=
  ⟨h.os, h.tape, h.output, by simpa using h.size, fun k hk hne => (Below.heap_setCell w1 ⟨b, j, none⟩ u k hne).trans (h.block k hk hne)⟩
theorem Wd.drew {b : Nat} {w w1 : World} (h : Wd b w w1) : Wd b w w1.drew := ⟨h.os, h.tape, h.output, h.size, h.block⟩
theorem Wd.below {b B : Nat} {w0 w w1 : World} (h : Wd b w w1) (k : Below B w0 w) (hB : B ≤ b) (hw : B ≤ w.heap.size) : Below B w0 w1 :=
  ⟨h.os.trans k.os, h.tape.trans k.tape, h.output.trans k.output, Nat.le_trans k.size h.size, fun j hj => (h.block j (Nat.lt_of_lt_of_le hj hw) (by omega)).trans (k.block j hj)⟩

def hdC (h : Hd) : List Value := [.int .i64 h.s, .int .i64 h.g]
abbrev OwnH (W : World) (base : Nat) (v : Value) (hs : List Hd) : Prop := OwnRow (fun h cs => cs = hdC h) 28 2 W base v hs
/-- A version is made: since w0 nothing old was changed; the edit lies in block eb, these nodes are gone. -/
structure St (w0 W : World) (eb m : Nat) (g : List Hd) : Prop where
  bel : Below w0.heap.size w0 W
  ge : w0.heap.size ≤ eb
  ed : ∃ gv, W.heap[eb]? = some (.cells #[.pointer (some ⟨m, 0, none⟩), gv] 74 (0, 0)) ∧ OwnH W w0.heap.size gv g
theorem St.below {w0 W W' : World} {eb m : Nat} {g : List Hd} (h : St w0 W eb m g) (hb : Below W.heap.size W W') : St w0 W' eb m g :=
  ⟨h.bel.trans (hb.mono h.bel.size), h.ge, by
    obtain ⟨gv, h1, h2⟩ := h.ed
    exact ⟨gv, blk_below h1 hb, OwnRow.below h2 hb⟩⟩
/-- An item that isn't opened, or none, behind block B. -/
def Cls (B : Nat) (W : World) (a : Ar N2) : Option Nat → T2 → Prop
  | p, .leaf => p = none
  | p, .node h k v l r hi => ∃ b, p = some b ∧ B ≤ b ∧ W.heap[b]? = some (.cells (closedC h) 89 (0, 0)) ∧ Lies a (.node h k v l r hi)
theorem Cls.below {B : Nat} {W W' : World} {a : Ar N2} {p : Option Nat} {t : T2} (h : Cls B W a p t) (hb : Below W.heap.size W W') : Cls B W' a p t := by
  cases t with
  | leaf => exact h
  | node =>
    obtain ⟨b, e, h0, h1, h2⟩ := h
    exact ⟨b, e, h0, blk_below h1 hb, h2⟩
theorem Cls.set {B : Nat} {W : World} {a : Ar N2} {p : Option Nat} {t : T2} (h : Cls B W a p t) {b : Nat} (hb : b < B) (j : Nat) (u : Value) : Cls B (W.setCell ⟨b, j, none⟩ u) a p t := by
  cases t with
  | leaf => exact h
  | node =>
    obtain ⟨b', e, h0, h1, h2⟩ := h
    exact ⟨b', e, h0, blk_far h1 (show b' ≠ b by omega) _, h2⟩
theorem Cls.den {B B0 : Nat} {W : World} {a : Ar N2} {p : Option Nat} {t : T2} (h : Cls B W a p t) (hb : B0 ≤ B) : Den B0 W a p t := by
  cases t with
  | leaf => exact h
  | node =>
    obtain ⟨b', e, h0, h1, h2⟩ := h
    exact ⟨b', e, by omega, .inl ⟨h1, h2⟩⟩
theorem typed_ne {W : World} {b b' : Nat} {cs cs' : Array Value} {t t' : TypeId} (h : W.heap[b]? = some (.cells cs t (0, 0))) (h' : W.heap[b']? = some (.cells cs' t' (0, 0))) (hne : t ≠ t') : b ≠ b' := by
  intro e
  subst e
  rw [h] at h'
  injection h' with h'
  injection h' with _ h'
  exact hne h'
theorem St.wd {w0 W W' : World} {eb m b : Nat} {g : List Hd} {cs : Array Value} (h : St w0 W eb m g) (hb : W.heap[b]? = some (.cells cs 89 (0, 0))) (hB : w0.heap.size ≤ b) (hw : Wd b W W') : St w0 W' eb m g :=
  ⟨hw.below h.bel hB h.bel.size, h.ge, by
    obtain ⟨gv, h1, h2⟩ := h.ed
    refine ⟨gv, (hw.block eb (blk_lt h1) (typed_ne h1 hb (by decide))).trans h1, ?_⟩
    obtain ⟨inner, ho, hr⟩ := h2
    exact ⟨inner, own_move ho (fun k hk => hw.block k (own_lt ho k hk) (by
      obtain ⟨cur, hc⟩ := own_typed ho k hk
      exact typed_ne hc hb (by decide))), hr⟩⟩
end Go.Proofs.Ytmhfbpdahfepgaa.Pm
/- Package pmap's item, opened, high, leave. -/
namespace Go.Proofs.Ytmhfbpdahfepgaa.Pm
open Go.RowKit Go.Proofs.YtmhfbpdahfepgaaW.PrintWords

theorem eqHd (d : Nat) (w : World) (n r n' r' : Int) :
    (Op.equalIn (d + 2) 28 (.agg #[.int .i64 n, .int .i64 r]) (.agg #[.int .i64 n', .int .i64 r'])).run Try.prog w = .ok ((n == n') && (r == r')) w := by
  refine eqA_of Try.underlying28 (by kernel_rfl) ?_
  refine eqf_cons (by rfl) (by go_simp; rfl) (by go_simp; rfl) (by go_simp) ?_
  exact eqf_last (by rfl) (by go_simp; rfl) (by go_simp; rfl) (by go_simp)
attribute [local go_sem high] eqHd
theorem bcellP {W w1 : World} (hb : Below W.heap.size W w1) : (∀ b o, b < W.heap.size → w1.cell? ⟨b, o, none⟩ = W.cell? ⟨b, o, none⟩) ∧ (∀ b o, b < W.heap.size → w1.frozen? ⟨b, o, none⟩ = W.frozen? ⟨b, o, none⟩) :=
  ⟨fun b o h => hb.cell (p := ⟨b, o, none⟩) h, fun b o h => hb.frozen (p := ⟨b, o, none⟩) h⟩
theorem alloc2 (W : World) (x y : Obj) : ((W.alloc x).alloc y).heap[W.heap.size + 1]? = some y := by
  have := blk_new (W.alloc x) y
  rw [World.size_alloc] at this
  exact this

set_option maxHeartbeats 2000000 in
theorem item_calls (B : Nat) (W : World) (eb : Nat) (a : Ar N2) (t : T2) (hl : Lies a t) (hB : B ≤ W.heap.size) :
    Calls Try.prog 33 #[.pointer (some ⟨eb, 0, none⟩), hdV t.h] W fun e w' => (∃ p, e = .returned (ptrV p) ∧ Cls B w' a p t) ∧ Below W.heap.size W w' := by
  cases t with
  | leaf =>
    clear hl
    simp only [hdV, T.h, H0]
    go_enter Try.func33, Try.ntmps33
    go_wp2
    go_ret
    exact ⟨⟨none, rfl, rfl⟩, below_alloc (Below.refl _ _) _⟩
  | node h k v l r hi =>
    have HL := Lib.hid hl
    have hne : ((h.s == 0) && (h.g == 0)) = false := by
      have := hl.1
      obtain ⟨s, g⟩ := h
      rw [Bool.eq_false_iff]
      intro e
      simp only [Bool.and_eq_true, beq_iff_eq] at e
      exact this (by rw [e.1, e.2]; rfl)
    clear hl
    simp only [hdV, T.h]
    go_enter Try.func33, Try.ntmps33
    go_wp2
    go_ret
    exact ⟨⟨some _, rfl, ⟨_, rfl, by omega, alloc2 _ _ _, HL.out⟩⟩, below_alloc (below_alloc (Below.refl _ _) _) _⟩

theorem opened_open (W : World) (eb b : Nat) (h : Hd) (k v : Int) (pl pr : Option Nat) (hi : Int) (hb : W.heap[b]? = some (.cells (openC h k v pl pr hi) 89 (0, 0))) :
    Calls Try.prog 42 #[.pointer (some ⟨eb, 0, none⟩), .pointer (some ⟨b, 0, none⟩)] W fun e w' => e = .returned (.pointer (some ⟨b, 0, none⟩)) ∧ W = w' := by
  have c2 : W.cell? ⟨b, 2, none⟩ = some (.bool true) := blk_cell hb 2
  clear hb
  go_enter Try.func42, Try.ntmps42
  go_wp2
  go_ret
  exact ⟨rfl, rfl⟩
set_option maxHeartbeats 4000000 in
theorem opened_closed (w0 W : World) (m aa : Nat) (f sv fv : Value) (a : Ar N2) (eb b : Nat) (g : List Hd) (h : Hd) (k v' : Int) (l r : T2) (hi : Int) (HM : MapAt w0 m aa f sv fv a) (HS : St w0 W eb m g)
    (hb : W.heap[b]? = some (.cells (closedC h) 89 (0, 0))) (hl : Lies a (.node h k v' l r hi)) (hB : w0.heap.size ≤ b) :
    Calls Try.prog 42 #[.pointer (some ⟨eb, 0, none⟩), .pointer (some ⟨b, 0, none⟩)] W fun e w' => e = .returned (.pointer (some ⟨b, 0, none⟩)) ∧ OpenAt w0.heap.size w' a b h k v' l r hi ∧ Ext w0.heap.size a W w' ∧ St w0 w' eb m g := by
  obtain ⟨gv, he, ho⟩ := HS.ed
  have HLD := Lib.hid (fun (V : World) (hb : Below W.heap.size W V) => load_calls V m aa f sv fv a h ((HM.below HS.bel).below hb))
  have hlt1 := blk_lt hb
  have hlt2 := blk_lt he
  have e0 : W.cell? ⟨eb, 0, none⟩ = some (.pointer (some ⟨m, 0, none⟩)) := blk_cell he 0
  have c0 : W.cell? ⟨b, 0, none⟩ = some (.int .i64 h.s) := blk_cell hb 0
  have c1 : W.cell? ⟨b, 1, none⟩ = some (.int .i64 h.g) := blk_cell hb 1
  have c2 : W.cell? ⟨b, 2, none⟩ = some (.bool false) := blk_cell hb 2
  have HB := Lib.hid (Below.refl W.heap.size W)
  have HBB := Lib.hid hb
  have HL := Lib.hid hl
  have HSS := Lib.hid HS
  have HI1 := Lib.hid (fun V => item_calls (b + 1) V eb a l hl.2.2.1)
  have HI2 := Lib.hid (fun V => item_calls (b + 1) V eb a r hl.2.2.2)
  have HBW := HS.bel.size
  rw [hl.2.1] at HLD
  simp only [Option.getD_some, Option.isSome_some, hdV, ndV] at HLD
  simp only [hdV, ptrV] at HI1 HI2
  clear hb hl HS he ho HM
  go_enter Try.func42, Try.ntmps42
  go_upto_region 3 with (fail)
  go_cut [5] from 6 to 23 (fun v wx => ∃ nb, v = .pointer (some ⟨nb, 0, none⟩) ∧ W.heap.size ≤ nb ∧ Hid (wx.heap[nb]? = some (.cells #[.int .i64 k, .int .i64 v', .int .i64 l.h.s, .int .i64 l.h.g, .int .i64 r.h.s, .int .i64 r.h.g, .int .i64 hi] 44 (0, 0))) ∧ Hid (Below W.heap.size W wx))
  case first =>
    go_region_with (first
      | (go_at_call 18; go_loud ((refine Calls.mono (HLD.out _ (by repeat (first | (with_reducible exact HB.out) | apply below_alloc | apply pw_below_drewN | apply below_drew1 | exact HB.out))) ?_); rintro e w1 ⟨rfl, hb⟩; (try (have G := Lib.hid (show w1.heap[W.heap.size]? = some (.cells #[.int .i64 0, .int .i64 0, .int .i64 0, .int .i64 0, .int .i64 0, .int .i64 0, .int .i64 0] 44 (0, 0)) by refine blk_below ?_ hb; exact blk_new W _); have p0 : w1.cell? ⟨W.heap.size, 0, none⟩ = some (.int .i64 0) := blk_cell G.out 0; have z0 := blk_frozen G.out 0; have p1 : w1.cell? ⟨W.heap.size, 1, none⟩ = some (.int .i64 0) := blk_cell G.out 1; have z1 := blk_frozen G.out 1; have p2 : w1.cell? ⟨W.heap.size, 2, none⟩ = some (.int .i64 0) := blk_cell G.out 2; have z2 := blk_frozen G.out 2; have p3 : w1.cell? ⟨W.heap.size, 3, none⟩ = some (.int .i64 0) := blk_cell G.out 3; have z3 := blk_frozen G.out 3; have p4 : w1.cell? ⟨W.heap.size, 4, none⟩ = some (.int .i64 0) := blk_cell G.out 4; have z4 := blk_frozen G.out 4; have p5 : w1.cell? ⟨W.heap.size, 5, none⟩ = some (.int .i64 0) := blk_cell G.out 5; have z5 := blk_frozen G.out 5; have p6 : w1.cell? ⟨W.heap.size, 6, none⟩ = some (.int .i64 0) := blk_cell G.out 6; have z6 := blk_frozen G.out 6)); have HBn := Lib.hid (below_step (by repeat (first | (with_reducible exact HB.out) | apply below_alloc | apply pw_below_drewN | apply below_drew1 | exact HB.out)) hb); clear hb HB; have HB := HBn; clear HBn))
      | (fail "no arm"))
    all_goals
      go_wp2
      go_meet
      first
        | exact ⟨_, rfl, HB.out.size, Lib.hid (blk_new _ _), Lib.hid (below_alloc HB.out _)⟩
        | exact ⟨_, rfl, Nat.le_refl _, Lib.hid (blk_put (blk_put (blk_put (blk_put (blk_put (blk_put (blk_put G.out 0 (.int .i64 k) rfl) 1 (.int .i64 v') rfl) 2 (.int .i64 l.h.s) rfl) 3 (.int .i64 l.h.g) rfl) 4 (.int .i64 r.h.s) rfl) 5 (.int .i64 r.h.g) rfl) 6 (.int .i64 hi) rfl), Lib.hid (((((((HB.out.setCell (p := ⟨W.heap.size, 0, none⟩) (Nat.le_refl _) (.int .i64 k)).setCell (p := ⟨W.heap.size, 1, none⟩) (Nat.le_refl _) (.int .i64 v')).setCell (p := ⟨W.heap.size, 2, none⟩) (Nat.le_refl _) (.int .i64 l.h.s)).setCell (p := ⟨W.heap.size, 3, none⟩) (Nat.le_refl _) (.int .i64 l.h.g)).setCell (p := ⟨W.heap.size, 4, none⟩) (Nat.le_refl _) (.int .i64 r.h.s)).setCell (p := ⟨W.heap.size, 5, none⟩) (Nat.le_refl _) (.int .i64 r.h.g)).setCell (p := ⟨W.heap.size, 6, none⟩) (Nat.le_refl _) (.int .i64 hi))⟩
  case rest =>
    obtain ⟨nb, rfl, hnb, HN, HB2⟩ := hcut
    have n0 := blk_cell HN.out 0
    have n1 := blk_cell HN.out 1
    have n2 := blk_cell HN.out 2
    have n3 := blk_cell HN.out 3
    have n4 := blk_cell HN.out 4
    have n5 := blk_cell HN.out 5
    have n6 := blk_cell HN.out 6
    simp at n0 n1 n2 n3 n4 n5 n6
    have HI := Lib.hid (blk_below HBB.out HB2.out)
    have i2 := blk_cell HI.out 2
    have i3 := blk_cell HI.out 3
    have i4 := blk_cell HI.out 4
    have i7 := blk_cell HI.out 7
    simp [closedC] at i2 i3 i4 i7
    have y2 := blk_frozen HI.out 2
    have y3 := blk_frozen HI.out 3
    have y4 := blk_frozen HI.out 4
    have y7 := blk_frozen HI.out 7
    clear c0 c1 c2 e0
    go_wp2
    go_region
    have hnb2 : nb ≠ b := by omega
    have HN4 := Lib.hid (show (((((wc.setCell ⟨b, 2, none⟩ (.bool true)).setCell ⟨b, 3, none⟩ (.int .i64 k)).setCell ⟨b, 4, none⟩ (.int .i64 v')).setCell ⟨b, 7, none⟩ (.int .i64 hi)).drew).heap[nb]? = _ from blk_far (blk_far (blk_far (blk_far HN.out hnb2 _) hnb2 _) hnb2 _) hnb2 _)
    have HI4 := Lib.hid (show (((((wc.setCell ⟨b, 2, none⟩ (.bool true)).setCell ⟨b, 3, none⟩ (.int .i64 k)).setCell ⟨b, 4, none⟩ (.int .i64 v')).setCell ⟨b, 7, none⟩ (.int .i64 hi)).drew).heap[b]? = some (.cells #[.int .i64 h.s, .int .i64 h.g, .bool true, .int .i64 k, .int .i64 v', .pointer none, .pointer none, .int .i64 hi] 89 (0, 0)) from blk_put (blk_put (blk_put (blk_put HI.out 2 (.bool true) rfl) 3 (.int .i64 k) rfl) 4 (.int .i64 v') rfl) 7 (.int .i64 hi) rfl)
    have HD4 := Lib.hid (show Wd b W (((((wc.setCell ⟨b, 2, none⟩ (.bool true)).setCell ⟨b, 3, none⟩ (.int .i64 k)).setCell ⟨b, 4, none⟩ (.int .i64 v')).setCell ⟨b, 7, none⟩ (.int .i64 hi)).drew) from (((((Wd.of HB2.out).set 2 _).set 3 _).set 4 _).set 7 _).drew)
    clear HN HI HB2 n0 n1 n2 n3 n4 n5 n6 i2 i3 i4 i7 y2 y3 y4 y7
    generalize ((((wc.setCell ⟨b, 2, none⟩ (.bool true)).setCell ⟨b, 3, none⟩ (.int .i64 k)).setCell ⟨b, 4, none⟩ (.int .i64 v')).setCell ⟨b, 7, none⟩ (.int .i64 hi)).drew = V4 at *
    have n2 := blk_cell HN4.out 2
    have n3 := blk_cell HN4.out 3
    have n4 := blk_cell HN4.out 4
    have n5 := blk_cell HN4.out 5
    simp at n2 n3 n4 n5
    have i5 : V4.cell? ⟨b, 5, none⟩ = some (.pointer none) := blk_cell HI4.out 5
    have i6 : V4.cell? ⟨b, 6, none⟩ = some (.pointer none) := blk_cell HI4.out 6
    have y5 := blk_frozen HI4.out 5
    have y6 := blk_frozen HI4.out 6
    have hl4 := blk_lt HI4.out
    have hl5 := blk_lt HN4.out
    have hs4 := HD4.out.size
    have HB := Lib.hid (Below.refl V4.heap.size V4)
    go_wp2
    go_region_with (first
      | (go_at_call 33; go_loud ((with_reducible refine Calls.mono (HI1.out _ (by first | omega | (simp; omega))) ?_); rintro e w5 ⟨⟨p5, rfl, hd5⟩, hb⟩; have hz5 := hb.size; simp at hz5; have m4 : w5.cell? ⟨nb, 4, none⟩ = some (.int .i64 r.h.s) := (hb.cell (p := ⟨nb, 4, none⟩) (by simp; omega)).trans n4; have m5 : w5.cell? ⟨nb, 5, none⟩ = some (.int .i64 r.h.g) := (hb.cell (p := ⟨nb, 5, none⟩) (by simp; omega)).trans n5; have HI5 := Lib.hid (blk_below HI4.out (undrew hb)); have HDN := Lib.hid (HD4.out.more (undrew hb)); have HD5 := Lib.hid hd5; have HBn := Lib.hid (below_step (by repeat (first | (with_reducible exact HB.out) | apply below_alloc | apply pw_below_drewN | apply below_drew1 | exact HB.out)) hb); clear hb HB; have HB := HBn; clear HBn))
      | (go_at_call 33; (with_reducible refine Calls.mono (HI2.out _ (by first | omega | (simp; omega))) ?_); rintro e w6 ⟨⟨p6, rfl, hd6⟩, hb⟩; have hz6 := hb.size; have HI6 := Lib.hid (blk_below HI5.out hb); have x5 : w6.cell? ⟨b, 5, none⟩ = some (.pointer none) := blk_cell HI6.out 5; have x6 : w6.cell? ⟨b, 6, none⟩ = some (.pointer none) := blk_cell HI6.out 6; have q5 := blk_frozen HI6.out 5; have q6 := blk_frozen HI6.out 6; have HDM := Lib.hid (HDN.out.more hb); have HD6 := Lib.hid hd6; have HB6 := Lib.hid hb; have HBn := Lib.hid (below_step (by repeat (first | (with_reducible exact HB.out) | apply below_alloc | apply pw_below_drewN | apply below_drew1 | exact HB.out)) hb); clear hb HB; have HB := HBn; clear HBn)
      | (fail "no arm"))
    go_wp2
    all_goals
      go_ret
      have ho : OpenAt w0.heap.size ((w6.setCell ⟨b, 5, none⟩ (.pointer (p5.map fun b => ⟨b, 0, none⟩))).setCell ⟨b, 6, none⟩ (.pointer (p6.map fun b => ⟨b, 0, none⟩))) a b h k v' l r hi :=
        ⟨hB, p5, p6, blk_put (blk_put HI6.out 5 (.pointer (p5.map fun b => ⟨b, 0, none⟩)) rfl) 6 (.pointer (p6.map fun b => ⟨b, 0, none⟩)) rfl, (((HD5.out.below HB6.out).set (Nat.lt_succ_self b) 5 _).set (Nat.lt_succ_self b) 6 _).den (by omega), ((HD6.out.set (Nat.lt_succ_self b) 5 _).set (Nat.lt_succ_self b) 6 _).den (by omega)⟩
      have hw := (HDM.out.set 5 (.pointer (p5.map fun b => ⟨b, 0, none⟩))).set 6 (.pointer (p6.map fun b => ⟨b, 0, none⟩))
      exact ⟨rfl, ho, Ext.opened HBB.out HL.out (fun b' cs hne hc => (hw.block b' (blk_lt hc) hne).trans hc) ho, HSS.out.wd HBB.out hB hw⟩
end Go.Proofs.Ytmhfbpdahfepgaa.Pm
