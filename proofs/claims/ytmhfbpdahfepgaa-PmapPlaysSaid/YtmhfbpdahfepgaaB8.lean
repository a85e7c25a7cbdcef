/-
  Package pmap's versions: plain laws. What a store makes of a tree; versions; Package holtref11's With, Without, Same, In, Minus, Sets: plain laws of what the print says that they compute; Package pmap's versions: heights, what Get finds, one step (a put, a del) as a law tells it; holtlaw11.awake
-/
import Derived.Test.YtmhfbpdahfepgaaB7
import Derived.Test.YtmhfbpdahfepgaaPPmapPlaysx3
import Derived.Test.YtmhfbpdahfepgaaPPmapPlaysx4
import Derived.IntWalk
/- Package pmap's versions: plain laws. What a store makes of a tree; versions. -/
namespace Go.Proofs.Ytmhfbpdahfepgaa.Pm
open Go.RowKit Go.Proofs.YtmhfbpdahfepgaaW.PrintWords

/-- The tree that is stored, with its handles. -/
def stT (a : Ar N2) : T2 → T2
  | .leaf => .leaf
  | .node h k v l r hi =>
    if h = H0 then .node ((store nd0 (store nd0 a l).1 r).1.put nd0 ⟨k, v, (store nd0 a l).2.1, (store nd0 (store nd0 a l).1 r).2.1, hi⟩).2 k v (stT a l) (stT (store nd0 a l).1 r) hi
    else .node h k v l r hi
theorem stT_new {a : Ar N2} {k v : Int} {l r : T2} {hi : Int} : stT a (.node H0 k v l r hi) = .node ((store nd0 (store nd0 a l).1 r).1.put nd0 ⟨k, v, (store nd0 a l).2.1, (store nd0 (store nd0 a l).1 r).2.1, hi⟩).2 k v (stT a l) (stT (store nd0 a l).1 r) hi := by
  rw [stT, if_pos rfl]
theorem stT_old {a : Ar N2} {h : Hd} {k v : Int} {l r : T2} {hi : Int} (hz : h ≠ H0) : stT a (.node h k v l r hi) = .node h k v l r hi := by
  rw [stT, if_neg hz]
theorem stT_hi (a : Ar N2) (t : T2) : (stT a t).hi = t.hi := by
  cases t with
  | leaf => rfl
  | node h k v l r hi =>
    by_cases hz : h = H0
    · subst hz; rw [stT_new]; rfl
    · rw [stT_old hz]
theorem stT_pairs : ∀ (t : T2) (a : Ar N2), pairs (stT a t) = pairs t
  | .leaf, _ => rfl
  | .node h k v l r hi, a => by
    by_cases hz : h = H0
    · subst hz; rw [stT_new, pairs, pairs, stT_pairs l, stT_pairs r]
    · rw [stT_old hz]
theorem stT_avl : ∀ (t : T2) (a : Ar N2), Avl t → Avl (stT a t)
  | .leaf, _, _ => trivial
  | .node h k v l r hi, a, av => by
    by_cases hz : h = H0
    · subst hz
      rw [stT_new]
      obtain ⟨e, a1, a2, al, ar⟩ := av
      refine ⟨?_, ?_, ?_, stT_avl l a al, stT_avl r _ ar⟩
      · rw [stT_hi, stT_hi]; exact e
      · rw [stT_hi, stT_hi]; exact a1
      · rw [stT_hi, stT_hi]; exact a2
    · rw [stT_old hz]; exact av
theorem lies_keep {a a' : Ar N2} (hk : ∀ h n, a.get h = some n → a'.get h = some n) : ∀ {t : T2}, Lies a t → Lies a' t
  | .leaf, _ => trivial
  | .node .., H => ⟨H.1, hk _ _ H.2.1, lies_keep hk H.2.2.1, lies_keep hk H.2.2.2⟩
theorem half_keep {a a' : Ar N2} (hk : ∀ h n, a.get h = some n → a'.get h = some n) : ∀ {t : T2}, Half a t → Half a' t
  | .leaf, _ => trivial
  | .node h k v l r hi, H => by
    rcases H with ⟨e, h1, h2⟩ | H
    · exact .inl ⟨e, half_keep hk h1, half_keep hk h2⟩
    · exact .inr (lies_keep hk H)
theorem lies_ohds {a : Ar N2} : ∀ {t : T2}, Lies a t → ohds t = hds t
  | .leaf, _ => rfl
  | .node h k v l r hi, H => by
    show ohds l ++ (gh h ++ ohds r) = hds l ++ h :: hds r
    rw [lies_ohds H.2.2.1, lies_ohds H.2.2.2, gh, if_neg H.1]; rfl
/-- What a store makes. -/
structure StOk (a : Ar N2) (t : T2) : Prop where
  old : ∀ h, h ∉ (store nd0 a t).2.2 → (store nd0 a t).1.get h = a.get h
  new : ∀ h ∈ (store nd0 a t).2.2, a.get h = none ∧ ((store nd0 a t).1.get h).isSome = true
  nodup : (store nd0 a t).2.2.Nodup
  lies : Lies (store nd0 a t).1 (stT a t)
  root : (stT a t).h = (store nd0 a t).2.1
  cnt : ∀ x, Pm.cnt x (hds (stT a t)) = Pm.cnt x (ohds t) + Pm.cnt x (store nd0 a t).2.2
theorem StOk.keep {a : Ar N2} {t : T2} (H : StOk a t) (h : Hd) (n : N2) (hg : a.get h = some n) : (store nd0 a t).1.get h = some n := by
  rw [H.old h (fun hm => by rw [(H.new h hm).1] at hg; cases hg), hg]
theorem cnt_cons (x h : Hd) (l : List Hd) : cnt x (h :: l) = cnt x [h] + cnt x l := by
  rw [show h :: l = [h] ++ l from rfl, cnt_append]
theorem store_stok : ∀ (t : T2) (a : Ar N2) (G : Nat), ArOk G a → Half a t → (fresh t : Int) ≤ a.room → StOk a t
  | .leaf, a, G, ok, _, _ => ⟨fun _ _ => rfl, fun _ h => by simp [store] at h, by simp [store], trivial, rfl, fun x => by simp [stT, store, hds, ohds, cnt]⟩
  | .node h k v l r hi, a, G, ok, hf, hr => by
    by_cases hz : h = H0
    · subst hz
      obtain ⟨hl, hrr⟩ := hf.sub
      rw [fresh, if_pos rfl] at hr
      have okl := store_ok l a G ok (by omega)
      have erl := store_room l a
      have sl := store_stok l a G ok hl (by omega)
      have hrr' := half_keep (fun h n hg => sl.keep h n hg) hrr
      have okr := store_ok r (store nd0 a l).1 _ okl (by omega)
      have err := store_room r (store nd0 a l).1
      have sr := store_stok r (store nd0 a l).1 _ okl hrr' (by omega)
      have pg := fun h' => put_get (x := ⟨k, v, (store nd0 a l).2.1, (store nd0 (store nd0 a l).1 r).2.1, hi⟩) okr h'
      have pf := put_fresh (x := ⟨k, v, (store nd0 a l).2.1, (store nd0 (store nd0 a l).1 r).2.1, hi⟩) okr
      have root1 := sl.root
      have root2 := sr.root
      have hkp : ∀ h n, (store nd0 (store nd0 a l).1 r).1.get h = some n → ((store nd0 (store nd0 a l).1 r).1.put nd0 ⟨k, v, (store nd0 a l).2.1, (store nd0 (store nd0 a l).1 r).2.1, hi⟩).1.get h = some n := fun h n hg => by
        rw [pg, if_neg (fun e => by rw [e, pf] at hg; cases hg), hg]
      have e1 : ∀ h, ((store nd0 (store nd0 a l).1 r).1.get h = none) → h ∉ (store nd0 a l).2.2 ∧ h ∉ (store nd0 (store nd0 a l).1 r).2.2 ∧ a.get h = none := fun h hn => by
        have n2 : h ∉ (store nd0 (store nd0 a l).1 r).2.2 := fun hm => by have := (sr.new h hm).2; rw [hn] at this; cases this
        have g2 : (store nd0 a l).1.get h = none := by rw [← sr.old h n2, hn]
        have n1 : h ∉ (store nd0 a l).2.2 := fun hm => by have := (sl.new h hm).2; rw [g2] at this; cases this
        exact ⟨n1, n2, by rw [← sl.old h n1, g2]⟩
      have hpf := e1 _ pf
      refine ⟨?_, ?_, ?_, ?_, ?_, ?_⟩
      · intro h hm
        rw [store_new] at hm ⊢
        dsimp only at hm ⊢
        simp only [List.mem_append, List.mem_singleton, not_or] at hm
        rw [pg, if_neg hm.2, sr.old h hm.1.2, sl.old h hm.1.1]
      · intro h hm
        rw [store_new] at hm ⊢
        dsimp only at hm ⊢
        simp only [List.mem_append, List.mem_singleton] at hm
        rcases hm with (hm | hm) | rfl
        · obtain ⟨x1, x2⟩ := sl.new h hm
          obtain ⟨n, hn⟩ := Option.isSome_iff_exists.mp x2
          exact ⟨x1, by rw [hkp h n (sr.keep h n hn)]; rfl⟩
        · obtain ⟨x1, x2⟩ := sr.new h hm
          obtain ⟨n, hn⟩ := Option.isSome_iff_exists.mp x2
          refine ⟨?_, by rw [hkp h n hn]; rfl⟩
          cases hg : a.get h with
          | none => rfl
          | some n => rw [sl.keep h n hg] at x1; cases x1
        · exact ⟨hpf.2.2, by rw [pg, if_pos rfl]; rfl⟩
      · rw [store_new]
        dsimp only
        refine List.nodup_append.mpr ⟨List.nodup_append.mpr ⟨sl.nodup, sr.nodup, fun x hx y hy e => ?_⟩, by simp, fun x hx y hy e => ?_⟩
        · subst e
          have h1 := (sl.new x hx).2
          rw [(sr.new x hy).1] at h1; cases h1
        · simp only [List.mem_singleton] at hy
          subst e
          rw [List.mem_append] at hx
          rcases hx with hx | hx
          · rw [hy] at hx; exact hpf.1 hx
          · rw [hy] at hx; exact hpf.2.1 hx
      · rw [stT_new, store_new]
        dsimp only
        refine ⟨fun e => ?_, ?_, lies_keep hkp (lies_keep (fun h n hg => sr.keep h n hg) sl.lies), lies_keep hkp sr.lies⟩
        · have := pg ((store nd0 (store nd0 a l).1 r).1.put nd0 ⟨k, v, (store nd0 a l).2.1, (store nd0 (store nd0 a l).1 r).2.1, hi⟩).2
          rw [if_pos rfl, e, get_H0] at this
          cases this
        · rw [pg, if_pos rfl, root1, root2]
      · rw [stT_new, store_new]; rfl
      · intro x
        rw [stT_new, store_new]
        dsimp only
        rw [hds, ohds, gh0]
        have c1 := sl.cnt x
        have c2 := sr.cnt x
        rw [cnt_append, cnt_cons, cnt_append, cnt_append, cnt_append, cnt_append, cnt_nil]
        omega
    · have hl : Lies a (.node h k v l r hi) := by
        rcases hf with ⟨e, _⟩ | hf
        · exact absurd e hz
        · exact hf
      refine ⟨?_, ?_, ?_, ?_, ?_, ?_⟩
      · intro x _; rw [store_old hz]
      · intro x hm; rw [store_old hz] at hm; cases hm
      · rw [store_old hz]; exact List.nodup_nil
      · rw [stT_old hz, store_old hz]; exact hl
      · rw [stT_old hz, store_old hz]; rfl
      · intro x; rw [stT_old hz, store_old hz, lies_ohds hl]; rfl
/-! ### Versions -/
/-- A version: its nodes lie in the arena, it stands, its keys are in order. -/
structure Ver (a : Ar N2) (t : T2) : Prop where
  lies : Lies a t
  avl : Avl t
  sorted : Sorted cmpI (pairs t)
theorem Ver.leaf (a : Ar N2) : Ver a .leaf := ⟨trivial, trivial, List.Pairwise.nil⟩
theorem Ver.keep {a a' : Ar N2} {t : T2} (H : Ver a t) (hk : ∀ h n, a.get h = some n → a'.get h = some n) : Ver a' t := ⟨lies_keep hk H.lies, H.avl, H.sorted⟩
/-- All nodes of a version are unlike. -/
theorem hds_get {a : Ar N2} : ∀ {t : T2}, Lies a t → ∀ x ∈ hds t, ∃ n, a.get x = some n ∧ (n.k, n.v) ∈ pairs t
  | .leaf, _, x, hx => by simp [hds] at hx
  | .node h k v l r hi, H, x, hx => by
    simp only [hds, List.mem_append, List.mem_cons] at hx
    rcases hx with hx | rfl | hx
    · obtain ⟨n, h1, h2⟩ := hds_get H.2.2.1 x hx
      exact ⟨n, h1, by simp [pairs, h2]⟩
    · exact ⟨_, H.2.1, by simp [pairs]⟩
    · obtain ⟨n, h1, h2⟩ := hds_get H.2.2.2 x hx
      exact ⟨n, h1, by simp [pairs, h2]⟩
theorem hds_nodup {a : Ar N2} : ∀ {t : T2}, Lies a t → Sorted cmpI (pairs t) → (hds t).Nodup
  | .leaf, _, _ => by simp [hds]
  | .node h k v l r hi, H, hs => by
    obtain ⟨s1, s2, s3, s4⟩ := sorted_split (p := (k, v)) (show Sorted cmpI (pairs l ++ (k, v) :: pairs r) from hs)
    have n1 := hds_nodup H.2.2.1 s1
    have n2 := hds_nodup H.2.2.2 s2
    have irr : ∀ a, ¬ cmpI a a < 0 := fun a => by rw [cmpI_ok.refl]; decide
    rw [hds]
    refine List.nodup_append.mpr ⟨n1, List.nodup_cons.mpr ⟨fun hx => ?_, n2⟩, fun x hx y hy e => ?_⟩
    · obtain ⟨n, h1, h2⟩ := hds_get H.2.2.2 h hx
      rw [H.2.1] at h1; injection h1 with h1; subst h1
      exact irr _ (s4 _ h2)
    · subst e
      obtain ⟨n, h1, h2⟩ := hds_get H.2.2.1 x hx
      simp only [List.mem_cons] at hy
      rcases hy with rfl | hy
      · rw [H.2.1] at h1; injection h1 with h1; subst h1
        exact irr _ (s3 _ h2)
      · obtain ⟨n', h1', h2'⟩ := hds_get H.2.2.2 x hy
        rw [h1] at h1'; injection h1' with h1'; subst h1'
        exact irr _ (cmpI_ok.trans _ _ _ (s3 _ h2) (s4 _ h2'))
/-- What an act makes of a version: a tree u (of tput, tdel), what is gone. -/
structure Acted (a : Ar N2) (t : T2) (u : T2) (gone : List Hd) : Prop where
  half : Half a u
  avl : Avl u
  sorted : Sorted cmpI (pairs u)
  cnt : ∀ x, Pm.cnt x (ohds u) + Pm.cnt x gone = Pm.cnt x (ohds t)
  fresh : (Pm.fresh u : Int) ≤ 3 * t.hi + 1
theorem acted_put {a : Ar N2} {t : T2} (H : Ver a t) (k v : Int) : Acted a t (tput cmpI t k v).1 (tput cmpI t k v).2 :=
  ⟨tput_half cmpI k v t H.lies, (tput_avl cmpI k v t H.avl).1, by rw [tput_pairs cmpI_ok k v t H.sorted]; exact lput_sorted cmpI_ok H.sorted, fun x => tput_cnt cmpI k v x t, tput_fresh cmpI k v t H.lies H.avl⟩
theorem acted_del {a : Ar N2} {t : T2} (H : Ver a t) (k : Int) : Acted a t (tdel cmpI t k).1 (tdel cmpI t k).2 :=
  ⟨tdel_half cmpI k t H.lies, (tdel_avl cmpI k t H.avl).1, by rw [tdel_pairs cmpI_ok k t H.sorted]; exact ldel_sorted H.sorted, fun x => tdel_cnt cmpI k x t, by have := tdel_fresh cmpI k t H.lies H.avl; omega⟩
structure ActOk (a : Ar N2) (t u : T2) (gone : List Hd) : Prop where
  st : StOk a u
  ver : Ver (store nd0 a u).1 (stT a u)
  pairs : Pm.pairs (stT a u) = Pm.pairs u
  cnt : ∀ x, Pm.cnt x (hds (stT a u)) + Pm.cnt x gone = Pm.cnt x (hds t) + Pm.cnt x (store nd0 a u).2.2
theorem Acted.ok {a : Ar N2} {t u : T2} {gone : List Hd} {G : Nat} (H : Acted a t u gone) (hl : Lies a t) (ok : ArOk G a) (hr : (Pm.fresh u : Int) ≤ a.room) : ActOk a t u gone := by
  have st := store_stok u a G ok H.half hr
  refine ⟨st, ⟨st.lies, stT_avl u a H.avl, by rw [stT_pairs]; exact H.sorted⟩, stT_pairs u a, fun x => ?_⟩
  have c1 := st.cnt x
  have c2 := H.cnt x
  rw [lies_ohds hl] at c2
  omega
end Go.Proofs.Ytmhfbpdahfepgaa.Pm
/- Package holtref11's With, Without, Same, In, Minus, Sets: plain laws of what the print says that they compute. -/
namespace Go.Proofs.Ytmhfbpdahfepgaa.Pm
open Go.RowKit Go.Proofs.YtmhfbpdahfepgaaW.PrintWords
def sp (p : Int × Int) : PPmapPlays.S64 := ⟨p.1, p.2⟩
def sh (h : Hd) : PPmapPlays.S28 := ⟨h.s, h.g⟩
theorem rdP (ps : List (Int × Int)) (i : Nat) (h : i < ps.length) : PPmapPlays.rd_T64 (ps.map sp) (i : Int) = sp ps[i] := by
  unfold PPmapPlays.rd_T64
  rw [Int.toNat_natCast, List.getD_eq_getElem?_getD, List.getElem?_eq_getElem (by simpa using h)]
  simp
theorem rdH (hs : List Hd) (i : Nat) (h : i < hs.length) : PPmapPlays.rd_T28 (hs.map sh) (i : Int) = sh hs[i] := by
  unfold PPmapPlays.rd_T28
  rw [Int.toNat_natCast, List.getD_eq_getElem?_getD, List.getElem?_eq_getElem (by simpa using h)]
  simp
theorem w64 (i : Nat) (h : i ≤ 9000000000000000000) : wrap64 ((i : Int) + 1) = ((i + 1 : Nat) : Int) := by
  rw [IntWalk.wrap64_in _ (by omega)]; omega
/-- What With puts behind what is there already. -/
def wsuf (k v : Int) (put : Bool) : List (Int × Int) → List (Int × Int)
  | [] => if put then [] else [(k, v)]
  | p :: l => (if k ≤ p.1 ∧ put = false then [(k, v)] else []) ++ ((if p.1 = k then [] else [p]) ++ wsuf k v (put || decide (k ≤ p.1)) l)
theorem wsuf_len (k v : Int) : ∀ (l : List (Int × Int)) (put : Bool), (wsuf k v put l).length ≤ l.length + 1
  | [], put => by cases put <;> simp [wsuf]
  | p :: l, put => by
    have i := wsuf_len k v l (put || decide (k ≤ p.1))
    have it := wsuf_lent k v l
    rw [wsuf]
    simp only [List.length_append, List.length_cons]
    by_cases h1 : k ≤ p.1
    · have : (put || decide (k ≤ p.1)) = true := by simp [h1]
      rw [this] at i ⊢
      split <;> split <;> simp only [List.length_nil, List.length_singleton] <;> omega
    · rw [if_neg (by simp [h1])]
      split <;> simp only [List.length_nil, List.length_singleton] <;> omega
where
  wsuf_lent (k v : Int) : ∀ (l : List (Int × Int)), (wsuf k v true l).length ≤ l.length
  | [] => by simp [wsuf]
  | p :: l => by
    have i := wsuf_lent k v l
    rw [wsuf]
    simp only [Bool.true_or, List.length_append, List.length_cons]
    rw [if_neg (by simp)]
    split <;> simp only [List.length_nil, List.length_singleton] <;> omega
theorem with_l0 (k v : Int) (ps : List (Int × Int)) : ∀ (n i : Nat) (out : List (Int × Int)) (put : Bool) (fuel : Nat), n = ps.length - i → i ≤ ps.length → 2 * n + 1 ≤ fuel → out.length + 2 * n ≤ 1000000 → ps.length ≤ 1000000 →
    PPmapPlays.holtref11_With.l0 fuel (ps.map sp) k v (out.map sp) put i = some ((out ++ wsuf k v put (ps.drop i)).map sp)
  | 0, i, out, put, fuel, hn, hi, hf, ho, hl => by
    obtain ⟨f, rfl⟩ : ∃ f, fuel = f + 1 := ⟨fuel - 1, by omega⟩
    have e : i = ps.length := by omega
    rw [PPmapPlays.holtref11_With.l0, if_neg (by simp; omega), List.drop_eq_nil_of_le (by omega)]
    cases put
    · rw [if_neg (by simp), if_pos (by simp; omega)]
      simp [wsuf, sp]
    · rw [if_pos rfl]; simp [wsuf]
  | n + 1, i, out, put, fuel, hn, hi, hf, ho, hl => by
    obtain ⟨f, rfl⟩ : ∃ f, fuel = f + 2 := ⟨fuel - 2, by omega⟩
    have hlt : i < ps.length := by omega
    have hw := w64 i (by omega)
    have hd : ps.drop i = ps[i] :: ps.drop (i + 1) := List.drop_eq_getElem_cons hlt
    have hr := rdP ps i hlt
    rw [hd, wsuf, PPmapPlays.holtref11_With.l0, if_pos (by simpa using hlt), if_pos (by omega)]
    have ih := fun (out : List (Int × Int)) (put : Bool) (h : out.length + 2 * n ≤ 1000000) => with_l0 k v ps n (i + 1) out put f (by omega) (by omega) (by omega) h hl
    have key : ∀ (out : List (Int × Int)) (b : Bool), out.length + 2 * n + 1 ≤ 1000000 → PPmapPlays.holtref11_With.j1 (f + 1) (ps.map sp) k v (out.map sp) b i false = some ((out ++ ((if ps[i].1 = k then [] else [ps[i]]) ++ wsuf k v b (ps.drop (i + 1)))).map sp) := by
      intro out b hlen
      rw [PPmapPlays.holtref11_With.j1, if_neg (by decide), if_pos (by omega), if_pos (by simpa using hlt), hr]
      by_cases h1 : ps[i].1 = k
      · rw [if_pos (show (sp ps[i]).f0 = k from h1), if_pos h1, hw, ih out b (by omega)]; simp
      · rw [if_neg (show ¬ (sp ps[i]).f0 = k from h1), if_neg h1, if_pos (by simp; omega), hw]
        have := ih (out ++ [ps[i]]) b (by simp; omega)
        rw [List.map_append] at this
        rw [show out.map sp ++ [(⟨(sp ps[i]).f0, (sp ps[i]).f1⟩ : PPmapPlays.S64)] = out.map sp ++ [ps[i]].map sp from rfl, this]
        simp
    have key2 : ∀ (out : List (Int × Int)), out.length + 2 * n + 2 ≤ 1000000 → k ≤ ps[i].1 → PPmapPlays.holtref11_With.j1 (f + 1) (ps.map sp) k v (out.map sp) false i true = some ((out ++ [(k, v)] ++ ((if ps[i].1 = k then [] else [ps[i]]) ++ wsuf k v true (ps.drop (i + 1)))).map sp) := by
      intro out hlen hk
      rw [PPmapPlays.holtref11_With.j1, if_pos rfl, if_pos (by simp; omega), Option.bind_some, if_pos (by omega), if_pos (by simpa using hlt), hr]
      have e : out.map sp ++ [(⟨k, v⟩ : PPmapPlays.S64)] = (out ++ [(k, v)]).map sp := by simp [sp]
      rw [e]
      by_cases h1 : ps[i].1 = k
      · rw [if_pos (show (sp ps[i]).f0 = k from h1), if_pos h1, hw, ih (out ++ [(k, v)]) true (by simp; omega)]; simp
      · rw [if_neg (show ¬ (sp ps[i]).f0 = k from h1), if_neg h1, if_pos (by simp; omega), hw]
        have := ih (out ++ [(k, v)] ++ [ps[i]]) true (by simp; omega)
        rw [List.map_append (l₁ := out ++ [(k, v)])] at this
        rw [show (out ++ [(k, v)]).map sp ++ [(⟨(sp ps[i]).f0, (sp ps[i]).f1⟩ : PPmapPlays.S64)] = (out ++ [(k, v)]).map sp ++ [ps[i]].map sp from rfl, this]
        simp
    rw [hr]
    by_cases h1 : k ≤ ps[i].1
    · rw [if_pos (show (sp ps[i]).f0 ≥ k from h1)]
      cases put
      · rw [show (!false) = true from rfl, key2 out (by omega) h1, show (if k ≤ ps[i].1 ∧ false = false then [(k, v)] else []) = [(k, v)] from if_pos ⟨h1, rfl⟩]
        simp [h1]
      · rw [show (!true) = false from rfl, key out true (by omega), show (if k ≤ ps[i].1 ∧ true = false then [(k, v)] else []) = [] from if_neg (by simp)]
        simp
    · rw [if_neg (show ¬ (sp ps[i]).f0 ≥ k from h1), key out put (by omega), show (if k ≤ ps[i].1 ∧ put = false then [(k, v)] else []) = [] from if_neg (by simp [h1])]
      simp [h1]
theorem cmpI_lt {a b : Int} : cmpI a b < 0 ↔ a < b := by unfold cmpI; split <;> (try split) <;> simp <;> omega
theorem cmpI_gt {a b : Int} : 0 < cmpI a b ↔ b < a := by unfold cmpI; split <;> (try split) <;> simp <;> omega
theorem cmpI_ne {a b : Int} : cmpI a b ≠ 0 ↔ a ≠ b := by unfold cmpI; split <;> (try split) <;> simp <;> omega
theorem wsuf_true {k v : Int} : ∀ {l : List (Int × Int)}, (∀ p ∈ l, k < p.1) → wsuf k v true l = l
  | [], _ => rfl
  | p :: l, h => by
    have h1 := h p (by simp)
    rw [wsuf, if_neg (by simp), if_neg (by omega), Bool.true_or, wsuf_true (fun q hq => h q (by simp [hq]))]; rfl
theorem wsuf_lput {k v : Int} : ∀ {l : List (Int × Int)}, Sorted cmpI l → wsuf k v false l = lput cmpI k v l
  | [], _ => rfl
  | p :: l, h => by
    obtain ⟨h1, h2⟩ := List.pairwise_cons.mp h
    rw [wsuf, lput, Bool.false_or]
    by_cases c1 : k < p.1
    · rw [if_pos ⟨by omega, rfl⟩, if_neg (by omega), if_pos (cmpI_lt.mpr c1), show decide (k ≤ p.1) = true from decide_eq_true (by omega), wsuf_true (fun q hq => by have := cmpI_lt.mp (h1 q hq); omega)]; rfl
    · rw [if_neg (show ¬ cmpI k p.1 < 0 by rw [cmpI_lt]; exact c1)]
      by_cases c2 : p.1 < k
      · rw [if_neg (by omega), if_neg (by omega), if_pos (cmpI_gt.mpr c2), show decide (k ≤ p.1) = false from decide_eq_false (by omega), wsuf_lput h2]; rfl
      · rw [if_pos ⟨by omega, rfl⟩, if_pos (by omega), if_neg (by rw [cmpI_gt]; exact c2), show decide (k ≤ p.1) = true from decide_eq_true (by omega), wsuf_true (fun q hq => by have := cmpI_lt.mp (h1 q hq); omega)]; rfl
theorem with_f (k v : Int) (ps : List (Int × Int)) (hs : Sorted cmpI ps) (hl : ps.length ≤ 1000) : PPmapPlays.holtref11_With.f 3000 (ps.map sp) k v = some ((lput cmpI k v ps).map sp) := by
  have := with_l0 k v ps ps.length 0 [] false 3000 rfl (Nat.zero_le _) (by omega) (by simp; omega) (by omega)
  rw [List.drop_zero, wsuf_lput hs, List.nil_append] at this
  exact this
theorem without_l0 (k : Int) (ps : List (Int × Int)) : ∀ (n i : Nat) (out : List (Int × Int)) (fuel : Nat), n = ps.length - i → i ≤ ps.length → n + 1 ≤ fuel → out.length + n ≤ 1000000 → ps.length ≤ 1000000 →
    PPmapPlays.holtref11_Without.l0 fuel (ps.map sp) k (out.map sp) i = some ((out ++ ldel cmpI k (ps.drop i)).map sp, decide (((out ++ ldel cmpI k (ps.drop i)).length : Int) < ps.length))
  | 0, i, out, fuel, hn, hi, hf, ho, hl => by
    obtain ⟨f, rfl⟩ : ∃ f, fuel = f + 1 := ⟨fuel - 1, by omega⟩
    rw [PPmapPlays.holtref11_Without.l0, if_neg (by simp; omega), List.drop_eq_nil_of_le (by omega)]
    simp [ldel]
  | n + 1, i, out, fuel, hn, hi, hf, ho, hl => by
    obtain ⟨f, rfl⟩ : ∃ f, fuel = f + 1 := ⟨fuel - 1, by omega⟩
    have hlt : i < ps.length := by omega
    have hw := w64 i (by omega)
    have hd : ps.drop i = ps[i] :: ps.drop (i + 1) := List.drop_eq_getElem_cons hlt
    have hr := rdP ps i hlt
    rw [hd, PPmapPlays.holtref11_Without.l0, if_pos (by simpa using hlt), if_pos (by omega), hr]
    by_cases h1 : ps[i].1 = k
    · rw [if_pos (show (sp ps[i]).f0 = k from h1), hw, without_l0 k ps n (i + 1) out f (by omega) (by omega) (by omega) (by omega) hl]
      rw [show ldel cmpI k (ps[i] :: ps.drop (i + 1)) = ldel cmpI k (ps.drop (i + 1)) by unfold ldel; rw [List.filter_cons, if_neg (by simp; rw [h1]; exact cmpI_ok.refl k)]]
    · rw [if_neg (show ¬ (sp ps[i]).f0 = k from h1), if_pos (by simp; omega), hw]
      have := without_l0 k ps n (i + 1) (out ++ [ps[i]]) f (by omega) (by omega) (by omega) (by simp; omega) hl
      rw [List.map_append] at this
      rw [show out.map sp ++ [(⟨(sp ps[i]).f0, (sp ps[i]).f1⟩ : PPmapPlays.S64)] = out.map sp ++ [ps[i]].map sp from rfl, this]
      rw [show ldel cmpI k (ps[i] :: ps.drop (i + 1)) = ps[i] :: ldel cmpI k (ps.drop (i + 1)) by unfold ldel; rw [List.filter_cons, if_pos (by simp; exact cmpI_ne.mpr (fun e => h1 e.symm))]]
      simp
theorem without_f (k : Int) (ps : List (Int × Int)) (hl : ps.length ≤ 1000) : PPmapPlays.holtref11_Without.f 3000 (ps.map sp) k = some ((ldel cmpI k ps).map sp, decide (((ldel cmpI k ps).length : Int) < ps.length)) := by
  have := without_l0 k ps ps.length 0 [] 3000 rfl (Nat.zero_le _) (by omega) (by simp; omega) (by omega)
  rw [List.drop_zero, List.nil_append] at this
  exact this
theorem same_l0 (ps : List (Int × Int)) : ∀ (n i : Nat) (fuel : Nat), n = ps.length - i → i ≤ ps.length → n + 1 ≤ fuel → ps.length ≤ 1000000 → PPmapPlays.holtref11_Same.l0 fuel (ps.map sp) (ps.map sp) i = some true
  | 0, i, fuel, hn, hi, hf, hl => by
    obtain ⟨f, rfl⟩ : ∃ f, fuel = f + 1 := ⟨fuel - 1, by omega⟩
    rw [PPmapPlays.holtref11_Same.l0, if_neg (by simp; omega)]
  | n + 1, i, fuel, hn, hi, hf, hl => by
    obtain ⟨f, rfl⟩ : ∃ f, fuel = f + 1 := ⟨fuel - 1, by omega⟩
    have hlt : i < ps.length := by omega
    rw [PPmapPlays.holtref11_Same.l0, if_pos (by simpa using hlt), if_pos (by omega), if_pos (by simpa using hlt), if_neg (by simp), w64 i (by omega)]
    exact same_l0 ps n (i + 1) f (by omega) (by omega) (by omega) hl
theorem same_f (ps : List (Int × Int)) (hl : ps.length ≤ 1000) : PPmapPlays.holtref11_Same.f 3000 (ps.map sp) (ps.map sp) = some true := by
  unfold PPmapPlays.holtref11_Same.f
  rw [if_pos rfl]
  exact same_l0 ps ps.length 0 3000 rfl (Nat.zero_le _) (by omega) (by omega)
theorem in_l0 (h : Hd) (hs : List Hd) : ∀ (n i : Nat) (fuel : Nat), n = hs.length - i → i ≤ hs.length → n + 1 ≤ fuel → hs.length ≤ 1000000 → PPmapPlays.holtref09_In.l0 fuel (hs.map sh) i h.s h.g = some (decide (h ∈ hs.drop i))
  | 0, i, fuel, hn, hi, hf, hl => by
    obtain ⟨f, rfl⟩ : ∃ f, fuel = f + 1 := ⟨fuel - 1, by omega⟩
    rw [PPmapPlays.holtref09_In.l0, if_neg (by simp; omega), List.drop_eq_nil_of_le (by omega)]; simp
  | n + 1, i, fuel, hn, hi, hf, hl => by
    obtain ⟨f, rfl⟩ : ∃ f, fuel = f + 1 := ⟨fuel - 1, by omega⟩
    have hlt : i < hs.length := by omega
    have hd : hs.drop i = hs[i] :: hs.drop (i + 1) := List.drop_eq_getElem_cons hlt
    have hr := rdH hs i hlt
    rw [hd, PPmapPlays.holtref09_In.l0, if_pos (by simpa using hlt), if_pos (by omega), hr]
    by_cases he : h = hs[i]
    · rw [if_pos (by rw [he]; simp [sh]), show decide (h ∈ hs[i] :: hs.drop (i + 1)) = true from decide_eq_true (by rw [he]; exact List.mem_cons_self)]
    · rw [if_neg (by simp only [Bool.and_eq_true, beq_iff_eq]; rintro ⟨a, b⟩; exact he (hd_ext a.symm b.symm)), w64 i (by omega), in_l0 h hs n (i + 1) f (by omega) (by omega) (by omega) hl]
      exact congrArg some (decide_eq_decide.mpr ⟨fun x => List.mem_cons_of_mem _ x, fun x => (List.mem_cons.mp x).resolve_left he⟩)
theorem in_f (h : Hd) (hs : List Hd) (fuel : Nat) (hf : hs.length + 1 ≤ fuel) (hl : hs.length ≤ 1000000) : PPmapPlays.holtref09_In.f fuel (hs.map sh) h.s h.g = some (decide (h ∈ hs)) :=
  (in_l0 h hs hs.length 0 fuel rfl (Nat.zero_le _) hf hl).trans (by rw [List.drop_zero])
def hminus (l r : List Hd) : List Hd := l.filter (fun h => !decide (h ∈ r))
theorem minus_l0 (hs rs : List Hd) (hr : rs.length ≤ 1000) : ∀ (n i : Nat) (out : List Hd) (fuel : Nat), n = hs.length - i → i ≤ hs.length → n + 1001 + 1 ≤ fuel → out.length + n ≤ 1000000 → hs.length ≤ 1000000 →
    PPmapPlays.holtref11_Minus.l0 fuel (hs.map sh) (rs.map sh) (out.map sh) i = some ((out ++ hminus (hs.drop i) rs).map sh)
  | 0, i, out, fuel, hn, hi, hf, ho, hl => by
    obtain ⟨f, rfl⟩ : ∃ f, fuel = f + 1 := ⟨fuel - 1, by omega⟩
    rw [PPmapPlays.holtref11_Minus.l0, if_neg (by simp; omega), List.drop_eq_nil_of_le (by omega)]; simp [hminus]
  | n + 1, i, out, fuel, hn, hi, hf, ho, hl => by
    obtain ⟨f, rfl⟩ : ∃ f, fuel = f + 1 := ⟨fuel - 1, by omega⟩
    have hlt : i < hs.length := by omega
    have hw := w64 i (by omega)
    have hd : hs.drop i = hs[i] :: hs.drop (i + 1) := List.drop_eq_getElem_cons hlt
    have hrd := rdH hs i hlt
    have hin := in_f hs[i] rs f (by omega) (by omega)
    rw [hd, PPmapPlays.holtref11_Minus.l0, if_pos (by simpa using hlt), if_pos (by omega), hrd, show (sh hs[i]).f0 = hs[i].s from rfl, show (sh hs[i]).f1 = hs[i].g from rfl, hin, Option.bind_some, hw]
    by_cases he : hs[i] ∈ rs
    · rw [if_pos (by simpa using he), minus_l0 hs rs hr n (i + 1) out f (by omega) (by omega) (by omega) (by omega) hl]
      rw [show hminus (hs[i] :: hs.drop (i + 1)) rs = hminus (hs.drop (i + 1)) rs by unfold hminus; rw [List.filter_cons, if_neg (by simp [he])]]
    · rw [if_neg (by simpa using he), if_pos (by simp; omega)]
      have := minus_l0 hs rs hr n (i + 1) (out ++ [hs[i]]) f (by omega) (by omega) (by omega) (by simp; omega) hl
      rw [List.map_append] at this
      rw [show out.map sh ++ [(⟨hs[i].s, hs[i].g⟩ : PPmapPlays.S28)] = out.map sh ++ [hs[i]].map sh from rfl, this]
      rw [show hminus (hs[i] :: hs.drop (i + 1)) rs = hs[i] :: hminus (hs.drop (i + 1)) rs by unfold hminus; rw [List.filter_cons, if_pos (by simp [he])]]
      simp
theorem minus_f (hs rs : List Hd) (hl : hs.length ≤ 1000) (hr : rs.length ≤ 1000) : PPmapPlays.holtref11_Minus.f 3000 (hs.map sh) (rs.map sh) = some ((hminus hs rs).map sh) := by
  have := minus_l0 hs rs hr hs.length 0 [] 3000 rfl (Nat.zero_le _) (by omega) (by simp; omega) (by omega)
  rw [List.drop_zero, List.nil_append] at this
  exact this
theorem sets_f (hs rs : List Hd) (hl : hs.length ≤ 1000) (hr : rs.length ≤ 1000) : PPmapPlays.holtref11_Sets.f 3000 (hs.map sh) (rs.map sh) = some (decide (hs.length = rs.length ∧ hminus hs rs = [] ∧ hminus rs hs = [])) := by
  unfold PPmapPlays.holtref11_Sets.f
  rw [minus_f hs rs hl hr, minus_f rs hs hr hl]
  simp only [List.length_map, Option.bind_some]
  by_cases h1 : hs.length = rs.length
  · rw [if_pos (by omega)]
    by_cases h2 : hminus hs rs = []
    · rw [if_pos (by rw [h2]; rfl)]
      by_cases h3 : hminus rs hs = []
      · simp [h1, h2, h3]
      · have : ((hminus rs hs).length : Int) ≠ 0 := by
          intro e; exact h3 (List.eq_nil_of_length_eq_zero (by omega))
        simp [h1, h2, h3]
    · rw [if_neg (by intro e; exact h2 (List.eq_nil_of_length_eq_zero (by omega)))]
      simp [h2]
  · rw [if_neg (by omega)]; simp [h1]
end Go.Proofs.Ytmhfbpdahfepgaa.Pm
/- Package pmap's versions: heights, what Get finds, one step (a put, a del) as a law tells it. -/
namespace Go.Proofs.Ytmhfbpdahfepgaa.Pm
open Go.RowKit Go.Proofs.YtmhfbpdahfepgaaW.PrintWords
/-- How many keys a version of a height has at least. -/
def minS : Nat → Nat
  | 0 => 0
  | 1 => 1
  | n + 2 => minS (n + 1) + minS n + 1
theorem minS_mono (n : Nat) : minS n ≤ minS (n + 1) := by
  cases n with
  | zero => decide
  | succ n => show minS (n + 1) ≤ minS (n + 1) + minS n + 1; omega
theorem minS_le {m n : Nat} (h : m ≤ n) : minS m ≤ minS n := by
  induction h with
  | refl => exact Nat.le_refl _
  | step _ ih => exact Nat.le_trans ih (minS_mono _)
theorem avl_min : ∀ {t : T2}, Avl t → minS t.hi.toNat ≤ (pairs t).length
  | .leaf, _ => Nat.le_refl _
  | .node h k v l r hi, av => by
    obtain ⟨e, a1, a2, al, ar⟩ := av
    have il := avl_min al
    have ir := avl_min ar
    have l0 := al.nonneg
    have r0 := ar.nonneg
    have m0 := mx_le l.hi r.hi
    have hh : (T.node h k v l r hi).hi = hi := rfl
    have hp : (pairs (T.node h k v l r hi)).length = (pairs l).length + 1 + (pairs r).length := by
      show (pairs l ++ (k, v) :: pairs r).length = _
      rw [List.length_append, List.length_cons]; omega
    rw [hh, hp]
    by_cases h0 : hi = 1
    · rw [h0]; show 1 ≤ _; omega
    · obtain ⟨n, hn⟩ : ∃ n : Nat, hi.toNat = n + 2 := ⟨hi.toNat - 2, by omega⟩
      rw [hn]
      show minS (n + 1) + minS n + 1 ≤ _
      rcases m0.2.2 with m | m
      · have x1 : l.hi.toNat = n + 1 := by omega
        have x2 : n ≤ r.hi.toNat := by omega
        have := minS_le x2
        rw [x1] at il; omega
      · have x1 : r.hi.toNat = n + 1 := by omega
        have x2 : n ≤ l.hi.toNat := by omega
        have := minS_le x2
        rw [x1] at ir; omega
theorem avl_hi {t : T2} (av : Avl t) (n : Nat) (h : (pairs t).length < minS (n + 1)) : t.hi ≤ n := by
  have h1 := avl_min av
  have h0 := av.nonneg
  by_cases hc : t.hi ≤ n
  · exact hc
  · have := minS_le (show n + 1 ≤ t.hi.toNat by omega)
    omega
theorem minS_9 : minS 9 = 88 := by decide
theorem hi_60 {t : T2} (av : Avl t) (h : (pairs t).length ≤ 60) : t.hi ≤ 8 := avl_hi av 8 (by rw [minS_9]; omega)
theorem find_app {α : Type} (p : α → Bool) (l r : List α) (x : α) (h1 : ∀ y ∈ l, p y = false) : (l ++ x :: r).find? p = if p x then some x else r.find? p := by
  rw [List.find?_append, List.find?_eq_none.mpr (by intro y hy; rw [h1 y hy]; decide), Option.none_or, List.find?_cons]
  split <;> rename_i h <;> simp [h]
theorem tget_pairs (k : Int) : ∀ t : T2, Sorted cmpI (pairs t) → tget cmpI t k = lhas cmpI k (pairs t)
  | .leaf, _ => rfl
  | .node h k' v' l r hi, hs => by
    obtain ⟨s1, s2, s3, s4⟩ := sorted_split (p := (k', v')) (show Sorted cmpI (pairs l ++ (k', v') :: pairs r) from hs)
    have il := tget_pairs k l s1
    have ir := tget_pairs k r s2
    rw [tget, pairs]
    unfold lhas at il ir ⊢
    have c3 : ∀ q ∈ pairs l, q.1 < k' := fun q hq => cmpI_lt.mp (s3 q hq)
    have c4 : ∀ q ∈ pairs r, k' < q.1 := fun q hq => cmpI_lt.mp (s4 q hq)
    have ne : ∀ a : Int, a ≠ k → decide (cmpI k a = 0) = false := fun a h => decide_eq_false (cmpI_ne.mpr (Ne.symm h))
    by_cases h1 : k < k'
    · rw [if_pos (cmpI_lt.mpr h1), il, List.find?_append]
      have : ((k', v') :: pairs r).find? (fun p => decide (cmpI k p.1 = 0)) = none := List.find?_eq_none.mpr (by
        intro y hy
        simp only [List.mem_cons] at hy
        rcases hy with rfl | hy
        · rw [ne _ (by dsimp only; omega)]; decide
        · have := c4 y hy
          rw [ne _ (by omega)]; decide)
      rw [this, Option.or_none]
    · by_cases h2 : k' < k
      · rw [if_neg (by rw [cmpI_lt]; exact h1), if_pos (cmpI_gt.mpr h2), ir, find_app _ _ _ _ (fun q hq => ne _ (by have := c3 q hq; omega)), if_neg (by rw [ne _ (by dsimp only; omega)]; decide)]
      · have e : k = k' := by omega
        rw [if_neg (by rw [cmpI_lt]; exact h1), if_neg (by rw [cmpI_gt]; exact h2), find_app _ _ _ _ (fun q hq => ne _ (by have := c3 q hq; omega)), if_pos (by rw [e]; simp [cmpI_ok.refl])]
        rfl
/-- One step: of version t a version t' is made. -/
structure Step (G : Nat) (a : Ar N2) (t : T2) (a' : Ar N2) (t' : T2) (made gone : List Hd) : Prop where
  ver : Ver a' t'
  keep : ∀ h n, a.get h = some n → a'.get h = some n
  cnt : ∀ x, Pm.cnt x (hds t') + Pm.cnt x gone = Pm.cnt x (hds t) + Pm.cnt x made
  new : ∀ h ∈ made, a.get h = none
  isNew : ∀ h ∈ made, (a'.get h).isSome = true
  nodup : made.Nodup
  room : a'.room = a.room - made.length
  most : a'.most = a.most
  ok : ArOk (G + 30) a'
  len : (made.length : Int) ≤ 3 * t.hi + 1
theorem ArOk.more {G G' : Nat} {a : Ar N2} (h : ArOk G a) (hg : G ≤ G') : ArOk G' a := ⟨h.small, h.free, h.nodup, fun s hs => by have := h.gen s hs; omega⟩
theorem put_most {a : Ar N2} {x : N2} : (a.put nd0 x).1.most = a.most := by
  rcases List.eq_nil_or_concat a.free with hf | ⟨fs, i, hf⟩
  · rw [put_free_nil hf]
  · rw [List.concat_eq_append] at hf; rw [put_free_snoc hf]
theorem store_most : ∀ (t : T2) (a : Ar N2), (store nd0 a t).1.most = a.most
  | .leaf, _ => rfl
  | .node h k v l r hi, a => by
    by_cases hz : h = H0
    · subst hz; rw [store_new]; dsimp only; rw [put_most, store_most r, store_most l]
    · rw [store_old hz]
theorem Acted.step {G : Nat} {a : Ar N2} {t u : T2} {gone : List Hd} (H : Acted a t u gone) (hv : Ver a t) (ok : ArOk G a) (hn : (pairs t).length ≤ 60) (hr : 3 * t.hi + 1 ≤ a.room) :
    Step G a t (store nd0 a u).1 (stT a u) (store nd0 a u).2.2 gone ∧ pairs (stT a u) = pairs u ∧ (store nd0 a u).2.1 = (stT a u).h ∧ Pm.fresh u ≤ 25 ∧ (Pm.fresh u : Int) ≤ 3 * t.hi + 1 := by
  have h8 := hi_60 hv.avl hn
  have hf := H.fresh
  have O := H.ok hv.lies ok (by omega)
  have hl := store_len u a
  refine ⟨⟨O.ver, fun h n hg => O.st.keep h n hg, O.cnt, fun h hm => (O.st.new h hm).1, fun h hm => (O.st.new h hm).2, O.st.nodup, by rw [store_room, hl], store_most u a, (store_ok u a G ok (by omega)).more (by omega), by rw [hl]; exact hf⟩, O.pairs, O.st.root.symm, by omega, hf⟩
/-- What Put, and Del, hand out, and leave. -/
def EditOut (w0 W : World) (B m aa : Nat) (G : Nat) (a : Ar N2) (t : T2) (ps : List (Int × Int)) (e : Ending) (w' : World) : Prop :=
  ∃ a' t' made gone mv gv, Step G a t a' t' made gone ∧ pairs t' = ps ∧ e = .returned (.tuple #[edV t'.h mv gv, .bool true]) ∧ FS w0 w' B m aa gv mv a' made gone ∧ Fr W w'
theorem mput_law (w0 W : World) (B m aa : Nat) (a : Ar N2) (t : T2) (k v : Int) (G : Nat) (HM : MapB w0 W B m aa a) (hv : Ver a t) (ok : ArOk G a) (hG : G ≤ 900000) (hn : (pairs t).length ≤ 60) (hr : 3 * t.hi + 1 ≤ a.room) :
    Calls Try.prog 16 #[.pointer (some ⟨m, 0, none⟩), hdV t.h, .int .i64 k, .int .i64 v] W (EditOut w0 W B m aa G a t (lput cmpI k v (pairs t))) := by
  have h8 := hi_60 hv.avl hn
  obtain ⟨S, hp, hrt, hfr, hfr2⟩ := (acted_put hv k v).step hv ok hn hr
  refine (mput_calls w0 W B m aa a t k v G HM hv.lies hv.avl (by omega) ok (by omega) (by omega)).mono ?_
  rintro e w' ⟨mv, gv, rfl, hfs, hF⟩
  exact ⟨_, _, _, _, mv, gv, S, by rw [hp, tput_pairs cmpI_ok k v t hv.sorted], by rw [hrt], hfs, hF⟩
theorem mdel_law (w0 W : World) (B m aa : Nat) (a : Ar N2) (t : T2) (k : Int) (G : Nat) (HM : MapB w0 W B m aa a) (hv : Ver a t) (ok : ArOk G a) (hG : G ≤ 900000) (hn : (pairs t).length ≤ 60) (hr : 3 * t.hi + 1 ≤ a.room) (hk : (lhas cmpI k (pairs t)).isSome = true) :
    Calls Try.prog 23 #[.pointer (some ⟨m, 0, none⟩), hdV t.h, .int .i64 k] W (EditOut w0 W B m aa G a t (ldel cmpI k (pairs t))) := by
  have h8 := hi_60 hv.avl hn
  obtain ⟨S, hp, hrt, hfr, hfr2⟩ := (acted_del hv k).step hv ok hn hr
  refine (mdel_calls w0 W B m aa a t k G HM hv.lies hv.avl (by omega) (by rw [tget_pairs k t hv.sorted]; exact hk) ok (by omega) (by omega)).mono ?_
  rintro e w' ⟨mv, gv, rfl, hfs, hF⟩
  exact ⟨_, _, _, _, mv, gv, S, by rw [hp, tdel_pairs cmpI_ok k t hv.sorted], by rw [hrt], hfs, hF⟩
theorem mdel_none (w0 W : World) (B m aa : Nat) (a : Ar N2) (t : T2) (k : Int) (HM : MapB w0 W B m aa a) (hv : Ver a t) (hk : (lhas cmpI k (pairs t)).isSome = false) :
    Calls Try.prog 23 #[.pointer (some ⟨m, 0, none⟩), hdV t.h, .int .i64 k] W (NoEdit W) :=
  mdel_no w0 W B m aa a t k HM hv.lies hv.avl (by rw [tget_pairs k t hv.sorted]; exact hk)
theorem mget_law (w0 W : World) (B m aa : Nat) (a : Ar N2) (t : T2) (k : Int) (HM : MapB w0 W B m aa a) (hv : Ver a t) :
    Calls Try.prog 26 #[.pointer (some ⟨m, 0, none⟩), hdV t.h, .int .i64 k] W fun e w' => e = .returned (.tuple #[.int .i64 ((lhas cmpI k (pairs t)).getD 0), .bool (lhas cmpI k (pairs t)).isSome]) ∧ Below W.heap.size W w' := by
  rw [← tget_pairs k t hv.sorted]
  exact mget_calls w0 W B m aa a t k HM hv.lies hv.avl
theorem walk_law (w0 W : World) (B m aa : Nat) (a : Ar N2) (t : T2) (HM : MapB w0 W B m aa a) (hv : Ver a t) (hn : (pairs t).length ≤ 60) :
    Calls Try.prog 13 #[.pointer (some ⟨m, 0, none⟩), hdV t.h, .int .i64 40] W (WalkOut W t) :=
  walk_calls w0 B m aa a t W 40 HM hv.lies hv.avl (by have := hi_60 hv.avl hn; omega) (by omega) (by omega)
end Go.Proofs.Ytmhfbpdahfepgaa.Pm
/- holtlaw11.awake. -/
namespace Go.Proofs.Ytmhfbpdahfepgaa.Pm
open Go.RowKit Go.Proofs.YtmhfbpdahfepgaaW.PrintWords
attribute [local go_sem high] eqHd
theorem pairs_nil {t : T2} (h : (pairs t).length = 0) : t = .leaf := by
  cases t with
  | leaf => rfl
  | node h k v l r hi => simp [pairs] at h
theorem hi_1 {t : T2} (av : Avl t) (h : (pairs t).length = 1) : t.hi = 1 := by
  have h1 := avl_hi av 1 (by rw [h]; decide)
  cases t with
  | leaf => simp [pairs] at h
  | node _ _ _ _ _ hi => have := av.pos; show hi = 1; have h1' : hi ≤ 1 := h1; omega
theorem three {t : T2} (av : Avl t) {x y z : Int × Int} (h : pairs t = [x, y, z]) : ∃ hd l r, t = .node hd y.1 y.2 l r 2 := by
  cases t with
  | leaf => simp [pairs] at h
  | node hd k v l r hi =>
    have e : pairs l ++ (k, v) :: pairs r = [x, y, z] := h
    obtain ⟨e0, a1, a2, al, ar⟩ := av
    have hlen : (pairs l).length + (pairs r).length = 2 := by
      have := congrArg List.length e
      rw [List.length_append, List.length_cons] at this
      simp only [List.length_cons, List.length_nil] at this
      omega
    have hpos : ∀ {u : T2}, Avl u → (pairs u).length = 2 → 2 ≤ u.hi := by
      intro u au hu
      cases u with
      | leaf => simp [pairs] at hu
      | node h2 k2 v2 l2 r2 hi2 =>
        obtain ⟨f0, f1, f2, fl, fr⟩ := au
        have hl2 : (pairs l2 ++ (k2, v2) :: pairs r2).length = 2 := hu
        rw [List.length_append, List.length_cons] at hl2
        have m0 := mx_le l2.hi r2.hi
        have p1 := fl.nonneg
        have p2 := fr.nonneg
        have : 1 ≤ l2.hi ∨ 1 ≤ r2.hi := by
          cases l2 with
          | leaf =>
            cases r2 with
            | leaf => simp [pairs] at hl2
            | node => exact .inr fr.pos
          | node => exact .inl fl.pos
        show 2 ≤ hi2
        omega
    by_cases h0 : (pairs l).length = 0
    · have := pairs_nil h0
      subst this
      have := hpos ar (by omega)
      have a2' : r.hi - 0 ≤ 1 := a2
      omega
    · by_cases h2 : (pairs l).length = 2
      · have := pairs_nil (t := r) (by omega)
        subst this
        have := hpos al h2
        have a1' : l.hi - 0 ≤ 1 := a1
        omega
      · have c1 := hi_1 al (by omega)
        have c2 := hi_1 ar (by omega)
        obtain ⟨p, hp⟩ : ∃ p, pairs l = [p] := List.length_eq_one_iff.mp (by omega)
        rw [hp] at e
        simp only [List.cons_append, List.nil_append, List.cons.injEq] at e
        refine ⟨hd, l, r, ?_⟩
        rw [e0, c1, c2, ← e.2.1]
        rfl
theorem hdV_leaf : hdV (T.leaf : T2).h = .agg #[.int .i64 0, .int .i64 0] := rfl
def IsTrue (W : World) (e : Ending) (w' : World) : Prop := e = .returned (.bool true) ∧ Below W.heap.size W w'
set_option maxHeartbeats 8000000 in
set_option maxRecDepth 100000 in
theorem awake_calls (W : World) : Calls Try.prog 9 #[] W (IsTrue W) := by
  have HNW := Lib.hid (fun (V : World) (hb : Below W.heap.size W V) => pnew_ok W V W.heap.size 20 hb hb.size (by decide))
  simp only [cmpF] at HNW
  go_enter Try.func9, Try.ntmps9
  go_wp2_with (first
    | (go_at_call 10; go_loud (
        (with_reducible refine Calls.mono (HNW.out _ (Below.refl _ _)) ?_);
        rintro e w1 ⟨⟨m, aa, rfl, hm⟩, hb⟩;
        have HM1 := Lib.hid hm;
        have HB1 := Lib.hid hb;
        clear hm hb))
    | (fail "no arm"))
  have hP1 := mput_law W w1 W.heap.size m aa (arNew 20) .leaf 5 50 0 HM1.out (Ver.leaf _) (arNew_ok 20 (by decide)) (by decide) (by simp [pairs]) (by rw [arNew_room]; show 3 * 0 + 1 ≤ ((20 : Nat) : Int); decide)
  rw [hdV_leaf] at hP1
  have HP1 := Lib.hid hP1
  clear hP1
  (with_reducible refine Calls.mono HP1.out ?_)
  rintro e1 w2 ⟨a1, t1, md1, gn1, mv1, gv1, S1, hp1, rfl, hfs, hF⟩
  obtain ⟨Am1, cm1, rfl, _⟩ := OwnRow.slice_ hfs.hmade
  obtain ⟨Ag1, cg1, rfl, _⟩ := OwnRow.slice_ hfs.hgone
  have HS1 := Lib.hid S1
  have HPP1 := Lib.hid hp1
  have HMw1 := Lib.hid hfs.mb
  clear S1 hp1 hfs hF
  simp only [edV]
  go_wp2_with (fail "no arm")
  have HM2 := Lib.hid (HMw1.out.below (show Below w2.heap.size w2 (w2.alloc (.cells #[.int .i64 t1.h.s, .int .i64 t1.h.g, .slice Am1 md1.length cm1, .slice Ag1 gn1.length cg1] 39 (0, 0))) from (by repeat (first | exact Below.refl _ _ | apply below_drew1 | apply below_alloc | apply pw_below_drewN))))
  have HE1 := Lib.hid (blk_new w2 (.cells #[.int .i64 t1.h.s, .int .i64 t1.h.g, .slice Am1 md1.length cm1, .slice Ag1 gn1.length cg1] 39 (0, 0)))
  generalize (w2.alloc (.cells #[.int .i64 t1.h.s, .int .i64 t1.h.g, .slice Am1 md1.length cm1, .slice Ag1 gn1.length cg1] 39 (0, 0))) = V1 at *
  generalize w2.heap.size = b1 at *
  have e101 := blk_cell HE1.out 0
  have e111 := blk_cell HE1.out 1
  simp at e101 e111
  have hlen1 : (pairs t1).length = 1 := by rw [HPP1.out]; rfl
  have hi1 : t1.hi ≤ 1 := avl_hi HS1.out.ver.avl 1 (by rw [hlen1]; decide)
  have hlm1 : md1.length ≤ 1 := by have := HS1.out.len; have h0 : (T.leaf : T2).hi = 0 := rfl; omega
  have hr1 : a1.room ≥ 19 := by have := HS1.out.room; rw [arNew_room] at this; omega
  have hP2 := mput_law W V1 W.heap.size m aa a1 t1 3 30 (0 + 30) HM2.out HS1.out.ver HS1.out.ok (by decide) (by omega) (by omega)
  simp only [hdV] at hP2
  have HP2 := Lib.hid hP2
  clear hP2
  go_wp2_with (fail "no arm")
  (with_reducible refine Calls.mono HP2.out ?_)
  rintro e2 w3 ⟨a2, t2, md2, gn2, mv2, gv2, S2, hp2, rfl, hfs, hF⟩
  obtain ⟨Am2, cm2, rfl, _⟩ := OwnRow.slice_ hfs.hmade
  obtain ⟨Ag2, cg2, rfl, _⟩ := OwnRow.slice_ hfs.hgone
  have HS2 := Lib.hid S2
  have HPP2 := Lib.hid hp2
  have HMw2 := Lib.hid hfs.mb
  have HEw1 := Lib.hid (FrX.typedF hF HE1.out)
  clear S2 hp2 hfs hF
  simp only [edV]
  go_wp2_with (fail "no arm")
  have HM3 := Lib.hid (HMw2.out.below (show Below w3.heap.size w3 (w3.alloc (.cells #[.int .i64 t2.h.s, .int .i64 t2.h.g, .slice Am2 md2.length cm2, .slice Ag2 gn2.length cg2] 39 (0, 0))) from (by repeat (first | exact Below.refl _ _ | apply below_drew1 | apply below_alloc | apply pw_below_drewN))))
  have HE2 := Lib.hid (blk_new w3 (.cells #[.int .i64 t2.h.s, .int .i64 t2.h.g, .slice Am2 md2.length cm2, .slice Ag2 gn2.length cg2] 39 (0, 0)))
  have HEx1 := Lib.hid (blk_below HEw1.out (show Below w3.heap.size w3 (w3.alloc (.cells #[.int .i64 t2.h.s, .int .i64 t2.h.g, .slice Am2 md2.length cm2, .slice Ag2 gn2.length cg2] 39 (0, 0))) from (by repeat (first | exact Below.refl _ _ | apply below_drew1 | apply below_alloc | apply pw_below_drewN))))
  clear HE1 HEw1
  have HE1 := HEx1
  clear HEx1
  generalize (w3.alloc (.cells #[.int .i64 t2.h.s, .int .i64 t2.h.g, .slice Am2 md2.length cm2, .slice Ag2 gn2.length cg2] 39 (0, 0))) = V2 at *
  generalize w3.heap.size = b2 at *
  have e102 := blk_cell HE1.out 0
  have e112 := blk_cell HE1.out 1
  have e202 := blk_cell HE2.out 0
  have e212 := blk_cell HE2.out 1
  simp at e102 e112 e202 e212
  have hlen2 : (pairs t2).length = 2 := by rw [HPP2.out, HPP1.out]; rfl
  have hi2 : t2.hi ≤ 2 := avl_hi HS2.out.ver.avl 2 (by rw [hlen2]; decide)
  have hlm2 : md2.length ≤ 4 := by have := HS2.out.len; omega
  have hr2 : a2.room ≥ 15 := by have := HS2.out.room; omega
  have hP3 := mput_law W V2 W.heap.size m aa a2 t2 1 10 (0 + 30 + 30) HM3.out HS2.out.ver HS2.out.ok (by decide) (by omega) (by omega)
  simp only [hdV] at hP3
  have HP3 := Lib.hid hP3
  clear hP3
  clear e101 e111
  go_wp2_with (fail "no arm")
  (with_reducible refine Calls.mono HP3.out ?_)
  rintro e3 w4 ⟨a3, t3, md3, gn3, mv3, gv3, S3, hp3, rfl, hfs, hF⟩
  obtain ⟨Am3, cm3, rfl, _⟩ := OwnRow.slice_ hfs.hmade
  obtain ⟨Ag3, cg3, rfl, _⟩ := OwnRow.slice_ hfs.hgone
  have HS3 := Lib.hid S3
  have HPP3 := Lib.hid hp3
  have HMw3 := Lib.hid hfs.mb
  have HEw1 := Lib.hid (FrX.typedF hF HE1.out)
  clear S3 hp3 hfs hF
  simp only [edV]
  go_wp2_with (fail "no arm")
  have HM4 := Lib.hid (HMw3.out.below (show Below w4.heap.size w4 (w4.alloc (.cells #[.int .i64 t3.h.s, .int .i64 t3.h.g, .slice Am3 md3.length cm3, .slice Ag3 gn3.length cg3] 39 (0, 0))) from (by repeat (first | exact Below.refl _ _ | apply below_drew1 | apply below_alloc | apply pw_below_drewN))))
  have HE3 := Lib.hid (blk_new w4 (.cells #[.int .i64 t3.h.s, .int .i64 t3.h.g, .slice Am3 md3.length cm3, .slice Ag3 gn3.length cg3] 39 (0, 0)))
  have HEx1 := Lib.hid (blk_below HEw1.out (show Below w4.heap.size w4 (w4.alloc (.cells #[.int .i64 t3.h.s, .int .i64 t3.h.g, .slice Am3 md3.length cm3, .slice Ag3 gn3.length cg3] 39 (0, 0))) from (by repeat (first | exact Below.refl _ _ | apply below_drew1 | apply below_alloc | apply pw_below_drewN))))
  clear HE1 HEw1
  have HE1 := HEx1
  clear HEx1
  generalize (w4.alloc (.cells #[.int .i64 t3.h.s, .int .i64 t3.h.g, .slice Am3 md3.length cm3, .slice Ag3 gn3.length cg3] 39 (0, 0))) = V3 at *
  generalize w4.heap.size = b3 at *
  have e103 := blk_cell HE1.out 0
  have e113 := blk_cell HE1.out 1
  have e303 := blk_cell HE3.out 0
  have e313 := blk_cell HE3.out 1
  simp at e103 e113 e303 e313
  clear e102 e112 e202 e212
  have hp3 : pairs t3 = [(1, 10), (3, 30), (5, 50)] := by rw [HPP3.out, HPP2.out, HPP1.out]; rfl
  obtain ⟨hd3, l3, r3, he3⟩ := three HS3.out.ver.avl hp3
  have hls := HS3.out.ver.lies
  rw [he3] at hls
  have hh3 : t3.h = hd3 := by rw [he3]; rfl
  have HP33 := Lib.hid hp3
  clear hp3 hi2 hlen2 hlm2 hr2 hr1 hlm1 hi1 hlen1
  have hV1 : Ver a3 t1 := HS1.out.ver.keep (fun h n hg => HS3.out.keep h n (HS2.out.keep h n hg))
  have HLD := Lib.hid (show Calls Try.prog 18 #[.pointer (some ⟨m, 0, none⟩), .agg #[.int .i64 t3.h.s, .int .i64 t3.h.g]] V3 fun e w' => e = .returned (.tuple #[.agg #[.int .i64 3, .int .i64 30, .int .i64 l3.h.s, .int .i64 l3.h.g, .int .i64 r3.h.s, .int .i64 r3.h.g, .int .i64 2], .bool true]) ∧ Below V3.heap.size V3 w' by obtain ⟨sv, fv, h'⟩ := HM4.out.mapAt; have := load_calls V3 m aa _ sv fv a3 t3.h h'; rw [hh3, hls.2.1] at this; rw [hh3]; exact this)
  have HG5 := Lib.hid (fun (V : World) (hb : Below V3.heap.size V3 V) => show Calls Try.prog 26 #[.pointer (some ⟨m, 0, none⟩), .agg #[.int .i64 t1.h.s, .int .i64 t1.h.g], .int .i64 5] V fun e w' => e = .returned (.tuple #[.int .i64 50, .bool true]) ∧ Below V.heap.size V w' by have := mget_law W V W.heap.size m aa a3 t1 5 (HM4.out.below hb) hV1; rw [HPP1.out] at this; exact this)
  have HG3 := Lib.hid (fun (V : World) (hb : Below V3.heap.size V3 V) => show Calls Try.prog 26 #[.pointer (some ⟨m, 0, none⟩), .agg #[.int .i64 t1.h.s, .int .i64 t1.h.g], .int .i64 3] V fun e w' => e = .returned (.tuple #[.int .i64 0, .bool false]) ∧ Below V.heap.size V w' by have := mget_law W V W.heap.size m aa a3 t1 3 (HM4.out.below hb) hV1; rw [HPP1.out] at this; exact this)
  have HBL := Lib.hid HM4.out.bel
  have hlt1 := blk_lt HE1.out
  clear hV1 he3 hls hh3
  go_wp2_with (first
    | (go_at_call 18; go_loud (
        (with_reducible refine Calls.mono HLD.out ?_);
        rintro e4 w5 ⟨rfl, hb⟩;
        have HB5 := Lib.hid hb;
        have hz5 := hb.size;
        have hlt5 := Nat.lt_of_lt_of_le hlt1 hb.size;
        have f10 := (hb.cell (p := ⟨b1, 0, none⟩) hlt1).trans e103;
        have f11 := (hb.cell (p := ⟨b1, 1, none⟩) hlt1).trans e113;
        clear hb))
    | (go_at_call 26; go_loud (
        (with_reducible refine Calls.mono (HG5.out _ (below_alloc HB5.out _)) ?_);
        rintro e5 w6 ⟨rfl, hb⟩;
        have HB6 := Lib.hid ((below_alloc HB5.out _).trans (hb.mono (by simp [World.size_alloc]; omega)));
        have hz6 := hb.size;
        have hlt6 := Nat.lt_of_lt_of_le hlt1 HB6.out.size;
        have g10 := (HB6.out.cell (p := ⟨b1, 0, none⟩) hlt1).trans e103;
        have g11 := (HB6.out.cell (p := ⟨b1, 1, none⟩) hlt1).trans e113;
        have HNB := Lib.hid (blk_below (blk_new w5 (.cells #[.int .i64 3, .int .i64 30, .int .i64 l3.h.s, .int .i64 l3.h.g, .int .i64 r3.h.s, .int .i64 r3.h.g, .int .i64 2] 44 (0, 0))) hb);
        clear hb))
    | (go_at_call 26; go_loud (
        (with_reducible refine Calls.mono (HG3.out _ HB6.out) ?_);
        rintro e6 w7 ⟨rfl, hb⟩;
        have HB7 := Lib.hid (HB6.out.trans (hb.mono HB6.out.size));
        have HNC := Lib.hid (blk_below HNB.out hb);
        have n0 := blk_cell HNC.out 0; have n4 := blk_cell HNC.out 6;
        simp at n0 n4;
        clear hb))
    | (fail "no arm"))
  go_ret
  exact ⟨rfl, HBL.out.trans (HB7.out.mono HBL.out.size)⟩
end Go.Proofs.Ytmhfbpdahfepgaa.Pm
