/-
  Operations in order, each once: the walk of slices.Compact; A log in memory: New, All, Has, Top, Tree, Clone; A log in memory: redo
-/
import Derived.Test.YtkmdmjlepmmejaaGreatDoorB5
import Derived.Deep.RegionHeld3
import Derived.Deep.QuietTactic
import Derived.Outline
/- Operations in order, each once: the walk of slices.Compact. -/
namespace Go.Proofs.YtkmdmjlepmmejaaGreatDoor.Ol
open Go.RowKit Go.Proofs.YtkmdmjlepmmejaaGreatDoorW.PrintWords Tr

attribute [local go_sem high] eqOp
theorem ops_prefix {W0 W : World} {g : Nat} {ls xs : List OpR} (h : RowG W0 W g ls) (hx : ls.take xs.length = xs) (hm : xs.length ≤ 1000000) : OpsAt W (some ⟨g, 0, none⟩) xs.length xs := by
  refine ⟨rfl, by omega, fun _ => ⟨g, 0, rfl, fun i hi => ?_⟩⟩
  have hlen : xs.length ≤ ls.length := by have := congrArg List.length hx; rw [List.length_take] at this; omega
  have hi2 : i < ls.length := by omega
  have : xs[i] = ls[i] := by
    have h1 : (ls.take xs.length)[i]? = xs[i]? := by rw [hx]
    rw [List.getElem?_take_of_lt hi, List.getElem?_eq_getElem hi2, List.getElem?_eq_getElem hi] at h1
    exact (Option.some.inj h1).symm
  rw [this, Nat.zero_add]
  exact h.at_ i hi2
theorem ops_prefix2 {W0 W : World} {g : Nat} {ls xs : List OpR} (h : RowG W0 W g ls) (hx : ls.take xs.length = xs) (hm : xs.length ≤ 1000000) (zs : List Value) : OpsAt (W.setCells g (xs.length * 5) zs) (some ⟨g, 0, none⟩) xs.length xs := by
  have hp := ops_prefix h hx hm
  refine ⟨rfl, by omega, fun hn => ⟨g, 0, rfl, fun i hi => ?_⟩⟩
  obtain ⟨b, o, e, hc⟩ := hp.2.2 hn
  injection e with e
  injection e with e1 e2
  subst e1 e2
  obtain ⟨h0, h1, h2, h3, h4⟩ := hc i hi
  have ho : ∀ o, o < 5 → (W.setCells g (xs.length * 5) zs).cell? ⟨g, 0 + i * 5 + o, none⟩ = W.cell? ⟨g, 0 + i * 5 + o, none⟩ := fun o ho => World.cell?_setCells_out g _ _ W _ (fun _ _ => .inl (by show 0 + i * 5 + o < xs.length * 5; omega))
  exact ⟨(ho 0 (by decide)).trans h0, (ho 1 (by decide)).trans h1, (ho 2 (by decide)).trans h2, (ho 3 (by decide)).trans h3, (ho 4 (by decide)).trans h4⟩
/-- The second part's state: read up to r, written up to m. -/
structure CptInv (W V : World) (g n r m : Nat) (l ls : List OpR) : Prop where
  row : RowG W V g ls
  len : ls.length = n
  pre : ls.take m = cpt opCmp (l.take r)
  cnt : m = (cpt opCmp (l.take r)).length
  lt : m < r
  rest : ∀ i, r ≤ i + 1 → ls[i]? = l[i]?
theorem CptInv.drewN {W V : World} {g n r m : Nat} {l ls : List OpR} (h : CptInv W V g n r m l ls) (q : Nat) : CptInv W (V.drewN q) g n r m l ls := ⟨h.row.drewN q, h.len, h.pre, h.cnt, h.lt, h.rest⟩
theorem CptInv.skip {W V : World} {g n r m : Nat} {l ls : List OpR} (h : CptInv W V g n (r + 1) m l ls) (hl : l.length = n) (hr : r + 1 < n) (he : opCmp l[r] l[r + 1] = 0) : CptInv W V g n (r + 2) m l ls := by
  have e := cpt_take (l := l) (t := r) (by omega)
  rw [if_pos he] at e
  exact ⟨h.row, h.len, by rw [e]; exact h.pre, by rw [e]; exact h.cnt, by have := h.lt; omega, fun i hi => h.rest i (by omega)⟩
theorem CptInv.keep {W V : World} {g n r m : Nat} {l ls : List OpR} (h : CptInv W V g n (r + 1) m l ls) (hl : l.length = n) (hr : r + 1 < n) (he : opCmp l[r] l[r + 1] ≠ 0) (q : Nat) : CptInv W ((V.drewN q).setCells g (m * 5) (opCells l[r + 1])) g n (r + 2) (m + 1) l (ls.set m l[r + 1]) := by
  have e := cpt_take (l := l) (t := r) (by omega)
  rw [if_neg he] at e
  have hlt := h.lt
  have hm : m < ls.length := by rw [h.len]; omega
  refine ⟨(h.row.drewN q).set5 hm _, by rw [List.length_set]; exact h.len, ?_, by rw [e, List.length_append, ← h.cnt]; rfl, by omega, fun i hi => ?_⟩
  · rw [e, ← h.pre, List.take_succ_eq_append_getElem (by rw [List.length_set]; exact hm), List.getElem_set_self, List.take_set_of_le (Nat.le_refl _)]
  · rw [List.getElem?_set_ne (by omega)]
    exact h.rest i (by omega)
set_option maxRecDepth 20000 in
set_option maxHeartbeats 8000000 in
theorem compact_calls (W : World) (g c : Nat) (l : List OpR) (H : RowG W W g l) (hc : l.length ≤ c) (hl : l.length ≤ 1000000) :
    Calls Tryz.prog 59 #[.slice (some ⟨g, 0, none⟩) l.length c] W fun e w' => ∃ c', e = .returned (.slice (some ⟨g, 0, none⟩) (cpt opCmp l).length c') ∧ OpsAt w' (some ⟨g, 0, none⟩) (cpt opCmp l).length (cpt opCmp l) ∧ Tr.Touch (fun b => b = g) W w' := by
  have hcl := cpt_length_le l
  obtain ⟨n, hn⟩ : ∃ n, n = l.length := ⟨_, rfl⟩
  rw [← hn] at hc hl hcl
  rw [show l.length = n from hn.symm]
  have HN := Lib.hid hn.symm
  have HH := Lib.hid H
  clear H hn
  by_cases h2 : n < 2
  · have HE := Lib.hid (show cpt opCmp l = l by
      have := HN.out
      match l, this with
      | [], _ => rfl
      | [a], _ => rfl
      | a :: b :: r, this => simp at this; omega)
    go_enter Tryz.func59, Tryz.ntmps59
    go_wp2
    go_ret
    refine ⟨c, by rw [HE.out, HN.out]; rfl, by rw [HE.out]; exact ops_prefix HH.out (List.take_length ..) (by rw [HN.out]; exact hl), Tr.Touch.refl _ _⟩
  · go_enter Tryz.func59, Tryz.ntmps59
    go_wp2
    go_loopw [3] (fun v3 V => ∃ k q : Nat, v3 = .int .i64 k ∧ 1 ≤ k ∧ k ≤ n ∧ V = W.drewN q ∧ Hid (cpt opCmp (l.take k) = l.take k)) (fun v3 _ => n - (RowKit.intOf v3).toNat)
    case atStart => exact ⟨1, 0, rfl, Nat.le_refl _, by omega, rfl, Lib.hid (by
      cases l with
      | nil => rfl
      | cons a r => rfl)⟩
    case round =>
      obtain ⟨k, q, rfl, h1k, hkn, rfl, HP⟩ := hrel
      obtain ⟨t, ht⟩ : ∃ t, k = t + 1 := ⟨k - 1, by omega⟩
      have htk : t < k := by omega
      have e2 : (k : Int) - 1 = (t : Int) := by omega
      have HK := Lib.hid ht
      clear ht
      by_cases hlt : k < n
      · have hlt1 : k < l.length := by rw [HN.out]; exact hlt
        have a0 : W.cell? ⟨g, k * 5, none⟩ = some (.int .i64 l[k].n) := (HH.out.at_ k hlt1).1
        have a1 : W.cell? ⟨g, k * 5 + 1, none⟩ = some (.int .i64 l[k].r) := (HH.out.at_ k hlt1).2.1
        have a2 : W.cell? ⟨g, k * 5 + 2, none⟩ = some (.int .i64 l[k].node) := (HH.out.at_ k hlt1).2.2.1
        have a3 : W.cell? ⟨g, k * 5 + 3, none⟩ = some (.int .i64 l[k].par) := (HH.out.at_ k hlt1).2.2.2.1
        have a4 : W.cell? ⟨g, k * 5 + 4, none⟩ = some (.string l[k].name) := (HH.out.at_ k hlt1).2.2.2.2
        have b0 : W.cell? ⟨g, t * 5, none⟩ = some (.int .i64 l[t].n) := (HH.out.at_ t (by omega)).1
        have b1 : W.cell? ⟨g, t * 5 + 1, none⟩ = some (.int .i64 l[t].r) := (HH.out.at_ t (by omega)).2.1
        have b2 : W.cell? ⟨g, t * 5 + 2, none⟩ = some (.int .i64 l[t].node) := (HH.out.at_ t (by omega)).2.2.1
        have b3 : W.cell? ⟨g, t * 5 + 3, none⟩ = some (.int .i64 l[t].par) := (HH.out.at_ t (by omega)).2.2.2.1
        have b4 : W.cell? ⟨g, t * 5 + 4, none⟩ = some (.string l[t].name) := (HH.out.at_ t (by omega)).2.2.2.2
        have HQ := Lib.hid (eqB_cmp l[k] l[t])
        by_cases he : opCmp l[t] l[k] = 0
        · have hq : eqB l[k].n l[k].r l[k].node l[k].par l[k].name l[t].n l[t].r l[t].node l[t].par l[t].name = true := by rw [HQ.out]; exact decide_eq_true he
          have HS := Lib.hid (show ∀ q', CptInv W (W.drewN q') g n (k + 1) k l l from by
            intro q'
            have := HK.out
            subst this
            have e := cpt_take (l := l) (t := t) hlt1
            rw [if_pos he] at e
            exact ⟨HH.out.drewN q', HN.out, by rw [e, HP.out], by rw [e, HP.out, List.length_take]; omega, by omega, fun _ _ => rfl⟩)
          have hck : ¬ c = k := by omega
          clear HQ he HP
          go_wp2
          go_quiet (fail)
          go_wp2
          go_loopw [3, 5] (fun v3 v5 V => ∃ (m s : Nat) (ls : List OpR), v3 = .int .i64 m ∧ v5 = .int .i64 s ∧ 1 ≤ s ∧ k + s ≤ n ∧ Hid (CptInv W V g n (k + s) m l ls)) (fun _ v5 _ => n - (RowKit.intOf v5).toNat)
          case atStart => exact ⟨k, 1, l, rfl, rfl, Nat.le_refl _, by omega, Lib.hid (HS.out _)⟩
          case round =>
            clear HS a0 a1 a2 a3 a4 b0 b1 b2 b3 b4 hq
            obtain ⟨m, s, ls, rfl, rfl, hs1, hsn, HI⟩ := hrel
            obtain ⟨u, hu⟩ : ∃ u, s = u + 1 := ⟨s - 1, by omega⟩
            have hus : u < s := by omega
            have e3 : (s : Int) - 1 = (u : Int) := by omega
            have HU := Lib.hid hu
            have hmr := HI.out.lt
            have hmn : m < n := by omega
            clear hu
            by_cases hlt2 : k + s < n
            · have q2 : decide ((s : Int) < ((n - k : Nat) : Int)) = true := decide_eq_true (by omega)
              have hsk : s < n - k := by omega
              have hks : k + s < l.length := by rw [HN.out]; exact hlt2
              have hls : k + s < ls.length := by rw [HI.out.len]; exact hlt2
              have hx0 : ls[k + s] = l[k + s] := by
                have := HI.out.rest (k + s) (by omega)
                rw [List.getElem?_eq_getElem hls, List.getElem?_eq_getElem hks] at this
                exact Option.some.inj this
              have hy0 : ls[k + u]'(by omega) = l[k + u]'(by omega) := by
                have hh := HU.out
                have := HI.out.rest (k + u) (by omega)
                rw [List.getElem?_eq_getElem (by omega), List.getElem?_eq_getElem (by omega)] at this
                exact Option.some.inj this
              have hx : OpIn g (k * 5 + s * 5) l[k + s] wr := by have := HI.out.row.at_ (k + s) hls; rw [hx0, Nat.add_mul] at this; exact this
              have hy : OpIn g (k * 5 + u * 5) (l[k + u]'(by omega)) wr := by have := HI.out.row.at_ (k + u) (by omega); rw [hy0, Nat.add_mul] at this; exact this
              have hz : OpIn g (m * 5) (ls[m]'(by rw [HI.out.len]; exact hmn)) wr := HI.out.row.at_ m (by rw [HI.out.len]; exact hmn)
              have HQ := Lib.hid (eqB_cmp l[k + s] (l[k + u]'(by omega)))
              have HSK := Lib.hid (fun (he : opCmp (l[k + u]'(by omega)) l[k + s] = 0) (q : Nat) => by
                have hh := HU.out
                subst hh
                exact (HI.out.skip HN.out (by omega) he).drewN q : (he : opCmp (l[k + u]'(by omega)) l[k + s] = 0) → ∀ q : Nat, CptInv W (wr.drewN q) g n (k + (s + 1)) m l ls)
              have HKP := Lib.hid (fun (he : opCmp (l[k + u]'(by omega)) l[k + s] ≠ 0) (q : Nat) => by
                have hh := HU.out
                subst hh
                exact HI.out.keep HN.out (by omega) he q : (he : opCmp (l[k + u]'(by omega)) l[k + s] ≠ 0) → ∀ q : Nat, CptInv W ((wr.drewN q).setCells g (m * 5) (opCells l[k + s])) g n (k + (s + 1)) (m + 1) l (ls.set m l[k + s]))
              have hfz := HI.out.row.fz
              have f0 := hfz (m * 5)
              have f1 := hfz (m * 5 + 1)
              have f2 := hfz (m * 5 + 2)
              have f3 := hfz (m * 5 + 3)
              have f4 := hfz (m * 5 + 4)
              clear hx0 hy0 hfz
              generalize l[k + s] = x at *
              generalize l[k + u]'(by omega) = y at *
              generalize ls[m]'(by rw [HI.out.len]; exact hmn) = z at *
              obtain ⟨x0, x1, x2, x3, x4⟩ := hx
              obtain ⟨y0, y1, y2, y3, y4⟩ := hy
              obtain ⟨z0, z1, z2, z3, z4⟩ := hz
              by_cases he : opCmp y x = 0
              · have hq : eqB x.n x.r x.node x.par x.name y.n y.r y.node y.par y.name = true := by rw [HQ.out]; exact decide_eq_true he
                have HSK2 := Lib.hid (HSK.out he)
                clear HQ he HSK HKP HI
                go_wp2
                go_quiet (fail)
                go_wp2
                go_roundw
                case rel => exact ⟨m, s + 1, ls, rfl, by go_num, by omega, by omega, Lib.hid (HSK2.out _)⟩
                case measure => simp [RowKit.intOf]; omega
              · have hq : eqB x.n x.r x.node x.par x.name y.n y.r y.node y.par y.name = false := by rw [HQ.out]; exact decide_eq_false he
                have HKP2 := Lib.hid (HKP.out he)
                clear HQ he HSK HKP HI
                go_wp2
                go_quiet (fail)
                go_wp2
                go_roundw
                case rel => exact ⟨m + 1, s + 1, ls.set m x, by go_num, by go_num, by omega, by omega, Lib.hid (HKP2.out _)⟩
                case measure => simp [RowKit.intOf]; omega
            · have hkn2 : k + s = n := by omega
              have q2 : decide ((s : Int) < ((n - k : Nat) : Int)) = false := decide_eq_false (by omega)
              have hsk : ¬ s < n - k := by omega
              have hcm : ¬ c = m := by omega
              obtain ⟨zs, hz1, hz2⟩ := run_clear_ops wr g (m * 5) (n - m) (c - m) (by omega) (fun j hj => HI.out.row.cells (by rw [HI.out.len]; omega)) (fun j _ => HI.out.row.fz _)
              have HM := Lib.hid (show m = (cpt opCmp l).length by have h1 := HI.out.cnt; rw [hkn2, ← HN.out, List.take_length] at h1; exact h1)
              have HX := Lib.hid (show ls.take (cpt opCmp l).length = cpt opCmp l by rw [← HM.out]; have h1 := HI.out.pre; rw [hkn2, ← HN.out, List.take_length] at h1; exact h1)
              have HR := Lib.hid HI.out.row
              clear hz1 HI HU
              go_wp2
              go_ret
              refine ⟨c, by rw [← HM.out]; rfl, ?_, HR.out.tch.trans (touch_setCells g _ _ _) (fun _ _ e => e)⟩
              have := ops_prefix2 HR.out HX.out (by omega) zs
              rw [← HM.out] at this ⊢
              exact this
        · have hq : eqB l[k].n l[k].r l[k].node l[k].par l[k].name l[t].n l[t].r l[t].node l[t].par l[t].name = false := by rw [HQ.out]; exact decide_eq_false he
          have HP2 := Lib.hid (show cpt opCmp (l.take (k + 1)) = l.take (k + 1) by
            have := HK.out
            subst this
            rw [cpt_take (l := l) (t := t) hlt1, if_neg he, HP.out, ← List.take_succ_eq_append_getElem hlt1])
          clear HQ he HP
          go_wp2
          go_quiet (fail)
          go_wp2
          go_roundw
          case rel => exact ⟨k + 1, _, by go_num, by omega, by omega, rfl, HP2⟩
          case measure => simp [RowKit.intOf]; omega
      · obtain rfl : k = n := by omega
        have HE := Lib.hid (show cpt opCmp l = l by have := HP.out; rw [← HN.out, List.take_length] at this; exact this)
        go_wp2
        go_ret
        exact ⟨c, by rw [HE.out, HN.out]; rfl, by rw [HE.out]; exact ops_prefix (HH.out.drewN q) (List.take_length ..) (by rw [HN.out]; exact hl), Tr.Touch.below (pw_below_drewN (Below.refl _ _) q)⟩
end Go.Proofs.YtkmdmjlepmmejaaGreatDoor.Ol
/- A log in memory: New, All, Has, Top, Tree, Clone. -/
namespace Go.Proofs.YtkmdmjlepmmejaaGreatDoor.Ol
open Go.RowKit Go.Sort Go.Proofs.YtkmdmjlepmmejaaGreatDoorW.PrintWords Tr

theorem TreeAt.trim {W : World} {F : Nat → Prop} {p : Nat} {os : List OpR} (h : TreeAt W F p os) : TreeAt W (fun b => F b ∧ b < W.heap.size) p os := by
  obtain ⟨mb, dv, h1, h2, h3, h4, h5⟩ := h
  refine ⟨mb, dv, h1, h2, ⟨h3, blk_lt h1.hp⟩, ⟨h4, h1.hm.lt⟩, fun b e => ⟨h5 b e, ?_⟩⟩
  obtain ⟨inner, ho, _⟩ := h2
  exact own_lt ho b e
/-- A log in memory; F: blocks that are its own. -/
def LogAt (W : World) (F : Nat → Prop) (p : Nat) (most : Int) (l : List OpR) : Prop :=
  ∃ (v : Value) (tp : Nat) (FT : Nat → Prop), W.heap[p]? = some (.cells #[.int .i64 most, v, .pointer (some ⟨tp, 0, none⟩)] 64 (0, 0)) ∧ OwnO W 0 v l ∧ TreeAt W FT tp l ∧
    F p ∧ (∀ b, v.ownBlock = some b → F b) ∧ (∀ b, FT b → F b ∧ b ≠ p ∧ v.ownBlock ≠ some b) ∧ ∀ b, F b → b < W.heap.size
theorem LogAt.touch {G : Nat → Prop} {W W' : World} {F : Nat → Prop} {p : Nat} {most : Int} {l : List OpR} (h : LogAt W F p most l) (ht : Tr.Touch G W W') (hn : ∀ b, F b → ¬ G b) : LogAt W' F p most l := by
  obtain ⟨v, tp, FT, h1, h2, h3, h4, h5, h6, h7⟩ := h
  exact ⟨v, tp, FT, ht.blk h1 (hn _ h4), ht.row h2 (fun b e => hn b (h5 b e)), h3.touch ht (fun b e => hn b (h6 b e).1), h4, h5, h6, fun b e => Nat.lt_of_lt_of_le (h7 b e) ht.size⟩
theorem LogAt.below {W W' : World} {F : Nat → Prop} {p : Nat} {most : Int} {l : List OpR} (h : LogAt W F p most l) (hb : Below W.heap.size W W') : LogAt W' F p most l := h.touch (Tr.Touch.below (F := fun _ => False) hb) (fun _ _ h => h)
theorem LogAt.lt {W : World} {F : Nat → Prop} {p : Nat} {most : Int} {l : List OpR} (h : LogAt W F p most l) : ∀ b, F b → b < W.heap.size := by
  obtain ⟨v, tp, FT, _, _, _, _, _, _, h7⟩ := h
  exact h7
theorem opIn_at {b o : Nat} {p : OpR} {W : World} (h : OpIn b o p W) {j : Nat} (hj : j < 5) : W.cell? ⟨b, o + j, none⟩ = some ((opCells p)[j]'hj) := by
  obtain ⟨h0, h1, h2, h3, h4⟩ := h
  match j, hj with
  | 0, _ => exact h0
  | 1, _ => exact h1
  | 2, _ => exact h2
  | 3, _ => exact h3
  | 4, _ => exact h4
theorem ops_flat {W : World} {b o : Nat} {os : List OpR} (hc : ∀ (i : Nat) (hi : i < os.length), OpIn b (o + i * 5) os[i] W) : ∀ j u, (flatK opCells 5 os.toArray).toList[j]? = some u → W.cell? ⟨b, o + j, none⟩ = some u := by
  intro j u hj
  have hlt : j < os.length * 5 := by have := (List.getElem?_eq_some_iff.1 hj).1; simpa using this
  obtain ⟨h1, h2, he⟩ := flat_at opCells opCells_length os hlt
  rw [Array.getElem?_toList, getElem?_pos _ _ (by simpa using hlt), ← getElem!_pos _ _ (by simpa using hlt), he] at hj
  have h5 := Nat.mod_lt j (show 0 < 5 by decide)
  have := opIn_at (hc (j / 5) h1) h5
  rw [show o + j / 5 * 5 + j % 5 = o + j by omega] at this
  rw [this]
  exact hj
set_option maxRecDepth 20000 in
/-- A list that came in, copied. -/
theorem cloneops_calls (W : World) (A : Option Addr) (n c : Nat) (os : List OpR) (hr : OpsAt W A n os) (hn : n ≤ 1000000) :
    Calls Tryz.prog 41 #[.slice A n c] W fun e w' => ∃ v', e = .returned v' ∧ ((0 < n ∧ OwnO w' W.heap.size v' os) ∨ (os = [] ∧ ∃ A', v' = .slice A' 0 0)) ∧ Below W.heap.size W w' := by
  rcases Nat.eq_zero_or_pos n with h0 | h0
  · have he : os = [] := List.eq_nil_of_length_eq_zero (hr.1.trans h0)
    have HE := Lib.hid he
    clear hr hn he
    subst h0
    cases A with
    | none => exact (AnyE.slices_Clone_nil Tryz.laysCloneOp 0 c W).mono fun e w' ⟨he, hw⟩ => by subst hw; exact ⟨_, he, .inr ⟨HE.out, none, rfl⟩, Below.refl _ _⟩
    | some ad =>
      have HB := Lib.hid (Below.refl W.heap.size W)
      have q22 : ∀ (w : World) (a : Option Addr) (n c n' c' : Nat), (binOp .eql 27 (.slice a n c) (.slice none n' c')).run Tryz.prog w = .ok (.bool a.isNone) w := fun w a n c n' c' => Lib.run_eql_slice_nil w _ _ a n c n' c' Tryz.underlying27
      go_enter Tryz.func41, Tryz.ntmps41
      go_wp2
      go_ret
      exact ⟨_, rfl, .inr ⟨HE.out, _, rfl⟩, (by repeat (first | (with_reducible exact HB.out) | apply below_alloc | apply pw_below_drewN | apply below_drew1 | exact HB.out))⟩
  · obtain ⟨b, o, rfl, hc⟩ := hr.2.2 h0
    obtain ⟨i0, hi, hz0, hz1, hz2⟩ := info_parts opInfo
    have hlen := hr.1
    have hrep := reps_flat opCells_length os
    refine (AnyE.slices_Clone Tryz.laysCloneOp i0 _ 5 48 hi hz0 hz1 hz2 rfl (by decide) (fun w => by kernel_rfl) b o n c _ W (by rw [hrep.1, hlen]) (by unfold maxLen; omega) (by omega) (ops_flat hc) (reps_one hrep (by decide) (fun p c hp => by subst hp; exact opCells_one p))).mono ?_
    rintro e w' ⟨v', he, ho, _, hb⟩
    exact ⟨v', he, .inl ⟨h0, _, by rw [hlen]; exact ho, hrep⟩, hb⟩
theorem LogAt.fields {W : World} {F : Nat → Prop} {p : Nat} {most : Int} {l : List OpR} (h : LogAt W F p most l) : ∃ A c tp, W.heap[p]? = some (.cells #[.int .i64 most, .slice A l.length c, .pointer (some ⟨tp, 0, none⟩)] 64 (0, 0)) ∧ l.length ≤ c ∧ OwnO W 0 (.slice A l.length c) l ∧ OpsAt W A l.length l ∧ ∃ FT, TreeAt W FT tp l := by
  obtain ⟨v, tp, FT, h1, h2, h3, _⟩ := h
  obtain ⟨A, c, rfl, hc, ho⟩ := OwnO.ops h2
  exact ⟨A, c, tp, h1, hc, h2, ho, FT, h3⟩
/-- The log's own list, copied. -/
theorem cloneown_calls (W : World) (v : Value) (l : List OpR) (how : OwnO W 0 v l) (hl : l.length ≤ 1000000) :
    Calls Tryz.prog 41 #[v] W fun e w' => ∃ v', e = .returned v' ∧ OwnO w' W.heap.size v' l ∧ Below W.heap.size W w' := by
  obtain ⟨inner, hr, h⟩ := row_cells how
  rcases h with ⟨rfl, rfl⟩ | ⟨g, c, rfl, hc⟩
  · exact (AnyE.slices_Clone_nil Tryz.laysCloneOp 0 0 W).mono fun e w' ⟨he, hw⟩ => by subst hw; exact ⟨_, he, OwnRow.none_ _ _ _ _ _, Below.refl _ _⟩
  · obtain ⟨i0, hi, hz0, hz1, hz2⟩ := info_parts opInfo
    refine (AnyE.slices_Clone Tryz.laysCloneOp i0 _ 5 48 hi hz0 hz1 hz2 rfl (by decide) (fun w => by kernel_rfl) g 0 l.length c inner W hr.1 (by unfold maxLen; omega) (by omega) (fun j u hj => by rw [Nat.zero_add]; exact hc j u hj) (reps_one hr (by decide) (fun p c hp => by subst hp; exact opCells_one p))).mono ?_
    rintro e w' ⟨v', he, ho, _, hb⟩
    exact ⟨v', he, ⟨inner, ho, hr⟩, hb⟩
theorem log_all (W : World) (F : Nat → Prop) (p : Nat) (most : Int) (l : List OpR) (H : LogAt W F p most l) (hl : l.length ≤ 1000000) :
    Calls Tryz.prog 15 #[.pointer (some ⟨p, 0, none⟩)] W fun e w' => ∃ v', e = .returned v' ∧ OwnO w' W.heap.size v' l ∧ Below W.heap.size W w' := by
  obtain ⟨A, c, tp, hp, hc, how, ho, _⟩ := H.fields
  have c1 := blk_cell hp 1
  simp at c1
  have HCL := Lib.hid (fun (V : World) (hV : Below W.heap.size W V) => cloneown_calls V _ l (OwnRow.below how hV) hl)
  have HB := Lib.hid (Below.refl W.heap.size W)
  clear hp how ho H hl
  go_enter Tryz.func15, Tryz.ntmps15
  go_wp2_with (first
    | (go_at_call 41; go_loud ((refine (HCL.out _ (by repeat (first | (with_reducible exact HB.out) | apply below_alloc | apply pw_below_drewN | apply below_drew1 | exact HB.out))).mono ?_); rintro e w1 ⟨v', rfl, ho, hb⟩; obtain ⟨A', c', rfl, _⟩ := OwnRow.slice_ ho; have HO := Lib.hid ho; have HBn := Lib.hid (below_step (by repeat (first | (with_reducible exact HB.out) | apply below_alloc | apply pw_below_drewN | apply below_drew1 | exact HB.out)) hb); clear hb HB; have HB := HBn; clear HBn))
    | (fail "no arm"))
  go_ret
  exact ⟨_, rfl, HO.out, (by repeat (first | (with_reducible exact HB.out) | apply below_alloc | apply pw_below_drewN | apply below_drew1 | exact HB.out))⟩
set_option maxHeartbeats 1000000 in
theorem log_has (W : World) (F : Nat → Prop) (p : Nat) (most : Int) (l : List OpR) (o : OpR) (H : LogAt W F p most l) (ha : AscO l) (hl : l.length ≤ 1000000) :
    Calls Tryz.prog 22 #[.pointer (some ⟨p, 0, none⟩), opV o] W fun e w' => e = .returned (.bool (hasO l o)) ∧ Below W.heap.size W w' := by
  obtain ⟨A, c, tp, hp, hc, how, ho, _⟩ := H.fields
  have c1 := blk_cell hp 1
  simp at c1
  have C1 := Lib.hid c1
  have hlt := blk_lt hp
  have HBS := Lib.hid (fun (V : World) (hV : Below W.heap.size W V) => bsearch_calls A l.length c l o V (ho.below hV) ha hl)
  have HB := Lib.hid (Below.refl W.heap.size W)
  generalize hasO l o = R at *
  generalize atO l o = Q at *
  clear hp how ho H hl ha c1
  simp only [opV] at *
  have K : ∀ V : World, Below W.heap.size W V → True := fun _ _ => trivial
  clear K
  go_enter Tryz.func22, Tryz.ntmps22
  go_wp2
  have b0 : (W.alloc (.cells #[.int .i64 o.n, .int .i64 o.r, .int .i64 o.node, .int .i64 o.par, .string o.name] 50)).cell? ⟨W.heap.size, 0, none⟩ = some (.int .i64 o.n) := by go_cell
  go_region_held3 (fun V => V.cell? ⟨p, 1, none⟩ = some (.slice A l.length c) ∧ V.cell? ⟨W.heap.size, 0, none⟩ = some (.int .i64 o.n) ∧ V.cell? ⟨W.heap.size, 1, none⟩ = some (.int .i64 o.r) ∧ V.cell? ⟨W.heap.size, 2, none⟩ = some (.int .i64 o.node) ∧ V.cell? ⟨W.heap.size, 3, none⟩ = some (.int .i64 o.par) ∧ V.cell? ⟨W.heap.size, 4, none⟩ = some (.string o.name)) (refine ⟨pw_cell_below (by repeat (first | (with_reducible exact HB.out) | apply below_alloc | apply pw_below_drewN | apply below_drew1 | exact HB.out)) C1.out, ?_, ?_, ?_, ?_, ?_⟩ <;> go_cell)
    (first
      | (go_at_call 46; go_loud ((refine (HBS.out _ (by repeat (first | (with_reducible exact HB.out) | apply below_alloc | apply pw_below_drewN | apply below_drew1 | exact HB.out))).mono ?_); rintro e w1 ⟨rfl, hb⟩; have k0 : w1.cell? ⟨W.heap.size, 0, none⟩ = some (.int .i64 o.n) := pw_cell_below hb (by go_cell); have k1 : w1.cell? ⟨W.heap.size, 1, none⟩ = some (.int .i64 o.r) := pw_cell_below hb (by go_cell); have k2 : w1.cell? ⟨W.heap.size, 2, none⟩ = some (.int .i64 o.node) := pw_cell_below hb (by go_cell); have k3 : w1.cell? ⟨W.heap.size, 3, none⟩ = some (.int .i64 o.par) := pw_cell_below hb (by go_cell); have k4 : w1.cell? ⟨W.heap.size, 4, none⟩ = some (.string o.name) := pw_cell_below hb (by go_cell); have HBn := Lib.hid (below_step (by repeat (first | (with_reducible exact HB.out) | apply below_alloc | apply pw_below_drewN | apply below_drew1 | exact HB.out)) hb); clear hb HB; have HB := HBn; clear HBn))
      | (fail "no arm"))
  go_wp2
  go_ret
  exact ⟨rfl, (by repeat (first | (with_reducible exact HB.out) | apply below_alloc | apply pw_below_drewN | apply below_drew1 | exact HB.out))⟩
theorem topO_at {l : List OpR} (h : 0 < l.length) : topO l = (l[l.length - 1]'(by omega)).n := by
  unfold topO
  rw [List.getLast?_eq_getElem?, List.getElem?_eq_getElem (by omega)]
set_option maxHeartbeats 1000000 in
theorem log_top (W : World) (F : Nat → Prop) (p : Nat) (most : Int) (l : List OpR) (H : LogAt W F p most l) (hl : l.length ≤ 1000000) :
    Calls Tryz.prog 16 #[.pointer (some ⟨p, 0, none⟩)] W fun e w' => e = .returned (.int .i64 (topO l)) ∧ Below W.heap.size W w' := by
  obtain ⟨A, c, tp, hp, hc, how, ho, _⟩ := H.fields
  have c1 := blk_cell hp 1
  simp at c1
  have hlt := blk_lt hp
  have HB := Lib.hid (Below.refl W.heap.size W)
  rcases Nat.eq_zero_or_pos l.length with h0 | h0
  · have HT := Lib.hid (show topO l = 0 by rw [List.eq_nil_of_length_eq_zero h0]; rfl)
    clear hp how ho H
    rw [h0] at c1
    go_enter Tryz.func16, Tryz.ntmps16
    go_wp2
    go_ret
    exact ⟨by rw [HT.out]; rfl, (by repeat (first | (with_reducible exact HB.out) | apply below_alloc | apply pw_below_drewN | apply below_drew1 | exact HB.out))⟩
  · obtain ⟨b, o, rfl, hcell⟩ := ho.2.2 h0
    obtain ⟨N, hN⟩ : ∃ N, l.length = N + 1 := ⟨l.length - 1, by omega⟩
    have hk := (hcell (l.length - 1) (by omega)).1
    have HT := Lib.hid (topO_at h0)
    generalize (l[l.length - 1]'(by omega)).n = t at *
    rw [hN] at c1 hk hl
    rw [Nat.add_sub_cancel] at hk
    have q0 : (((N + 1 : Nat) : Int) == 0) = false := by rw [Bool.eq_false_iff]; simp; omega
    have e1 : IntKind.i64.wrap (((N + 1 : Nat) : Int) - 1) = (N : Int) := by rw [IntKind.wrap_i64]; omega
    have e2 : ((N + 1 : Nat) : Int) - 1 = (N : Int) := by omega
    have hb1 : (0 : Int) ≤ (N : Int) := by omega
    have hb2 : (N : Int) < ((N + 1 : Nat) : Int) := by omega
    clear hp how ho H hcell hN
    go_enter Tryz.func16, Tryz.ntmps16
    go_wp2
    go_quiet (fail)
    go_wp2
    go_ret
    exact ⟨by rw [HT.out]; rfl, (by repeat (first | (with_reducible exact HB.out) | apply below_alloc | apply pw_below_drewN | apply below_drew1 | exact HB.out))⟩
theorem log_tree (W : World) (F : Nat → Prop) (p : Nat) (most : Int) (l : List OpR) (H : LogAt W F p most l) (hl : l.length ≤ 1000000) :
    Calls Tryz.prog 12 #[.pointer (some ⟨p, 0, none⟩)] W fun e w' => ∃ p', e = .returned (.pointer (some ⟨p', 0, none⟩)) ∧ TreeAt w' (fun b => W.heap.size ≤ b) p' l ∧ Below W.heap.size W w' := by
  obtain ⟨A, c, tp, hp, hc, how, ho, FT, ht⟩ := H.fields
  have c2 := blk_cell hp 2
  simp at c2
  have HC := Lib.hid (treeclone_calls W FT tp l ht hl)
  clear hp how ho H ht
  go_enter Tryz.func12, Tryz.ntmps12
  go_wp2_with (first
    | (go_at_call 40; go_loud ((refine HC.out.mono ?_); rintro e w1 ⟨p', rfl, ht, hb⟩; have HT := Lib.hid ht; have HB := Lib.hid hb; clear ht hb))
    | (fail "no arm"))
  go_ret
  exact ⟨_, rfl, HT.out, HB.out⟩
theorem log_new (W : World) (most : Int) (hm : 0 ≤ most) :
    Calls Tryz.prog 8 #[.int .i64 most] W fun e w' => ∃ p F, e = .returned (.pointer (some ⟨p, 0, none⟩)) ∧ LogAt w' F p most [] ∧ (∀ b, F b → W.heap.size ≤ b) ∧ Below W.heap.size W w' := by
  have q0 : decide (most < 0) = false := decide_eq_false (by omega)
  have HN := Lib.hid (treenew_calls W)
  clear hm
  go_enter Tryz.func8, Tryz.ntmps8
  go_wp2_with (first
    | (go_at_call 29; go_loud ((refine HN.out.mono ?_); rintro e w1 ⟨p', rfl, ht, hb⟩; have HT := Lib.hid ht; have HB := Lib.hid hb; clear ht hb))
    | (fail "no arm"))
  go_ret
  have hs := HB.out.size
  refine ⟨_, fun b => W.heap.size ≤ b ∧ b < w1.heap.size + 1, rfl, ⟨.slice none 0 0, p', fun b => W.heap.size ≤ b ∧ b < w1.heap.size, blk_new _ _, OwnRow.none_ _ _ _ _ _, Tr.TreeAt.below (TreeAt.trim HT.out) (below_alloc (Below.refl _ _) _), ⟨hs, by omega⟩, fun b e => by simp [Value.ownBlock] at e, fun b e => ⟨⟨e.1, by omega⟩, by omega, by simp [Value.ownBlock]⟩, fun b e => by simpa using e.2⟩, fun b e => e.1, (by repeat (first | (with_reducible exact HB.out) | apply below_alloc | apply pw_below_drewN | apply below_drew1 | exact HB.out))⟩
end Go.Proofs.YtkmdmjlepmmejaaGreatDoor.Ol
/- A log in memory: redo. -/
namespace Go.Proofs.YtkmdmjlepmmejaaGreatDoor.Ol
open Go.RowKit Go.Sort Go.Proofs.YtkmdmjlepmmejaaGreatDoorW.PrintWords Tr

theorem own_head {W : World} {B : Nat} {v : Value} {l : List OpR} (h : OwnO W B v l) (hl : 0 < l.length) : ∃ g c, v = .slice (some ⟨g, 0, none⟩) l.length c ∧ l.length ≤ c ∧ g < W.heap.size ∧ B ≤ g ∧ ∀ (i : Nat) (hi : i < l.length), OpIn g (i * 5) l[i] W := by
  obtain ⟨A, c, rfl, hc, ho⟩ := OwnO.ops h
  obtain ⟨inner, hrow, _⟩ := h
  rcases hrow.2 with ⟨h', _⟩ | ⟨g, cap, cur, h', hb, hg, _⟩
  · injection h' with h'
    obtain ⟨b, o, e, _⟩ := ho.2.2 hl
    rw [h'] at e; cases e
  · injection h' with h1 h2 h3
    subst h1
    obtain ⟨b, o, e, hcell⟩ := ho.2.2 hl
    injection e with e
    injection e with e1 e2
    subst e1 e2
    exact ⟨g, c, rfl, hc, blk_lt hg, hb, fun i hi => by have := hcell i hi; rwa [Nat.zero_add] at this⟩
theorem cut_ops (A : Option Addr) (n c m : Nat) (hm : m ≤ n) : ∃ A' : Option Addr, A' = (if c = m then A else A.map (·.add (m * 5))) ∧ ∀ W : World, (Instr.slice 27 (.slice A n c) (some (.int .i64 (m : Int))) none none).run Tryz.prog W = .ok (.slice A' (n - m) (c - m)) W := by
  refine ⟨_, rfl, fun W => ?_⟩
  obtain ⟨i, hi, _, hz1, _⟩ := info_parts opInfo
  have ht : Tryz.prog.underlying 27 = some (.slice 50) := Tryz.underlying27
  have hel : Tryz.prog.elem 27 = 50 := by simp [Program.elem, ht]
  have hu : Tryz.prog.underlying 27 = some (.slice (Tryz.prog.elem 27)) := by rw [hel]; exact ht
  rw [run_slice_l W 27 A n c hu .i64 (m : Int) (Int.natCast_nonneg _) (by omega), hel]
  simp [sizeOf, typeInfo, hi, hz1, sliced, Result.andThen]
theorem reps_append {α : Type} {R : α → List Value → Prop} {size : Nat} {ps qs : List α} {cs ds : List Value} (h : Reps R size ps cs) (k : Reps R size qs ds) : Reps R size (ps ++ qs) (cs ++ ds) := by
  refine ⟨by rw [List.length_append, List.length_append, h.1, k.1, Nat.add_mul], fun j p hj => ?_⟩
  rcases Nat.lt_or_ge j ps.length with h1 | h1
  · rw [List.getElem?_append_left h1] at hj
    have h2 : j * size + size ≤ cs.length := by rw [h.1, ← Nat.succ_mul]; exact Nat.mul_le_mul_right _ h1
    rw [List.drop_append_of_le_length (by omega), List.take_append_of_le_length (by rw [List.length_drop]; omega)]
    exact h.2 j p hj
  · rw [List.getElem?_append_right h1] at hj
    have := k.2 _ p hj
    rw [List.drop_append, List.drop_eq_nil_of_le (by rw [h.1]; exact Nat.mul_le_mul_right _ h1), List.nil_append, h.1, ← Nat.sub_mul]
    exact this
/-- append(s, news...), at operations. -/
theorem append_ops {w : World} {ops : Array Oper} {rest : List Oper} {o : Oper} {a : Act} {Q : Exit → Act → World → Prop} (hgd : o.guard = none) (s x : Operand)
    (ho : o.op = .call { callee := .builtin .append, args := #[s, x], argTypes := #[27, 27] }) (base : Nat) (v : Value) (l : List OpR) (hs : a.eval s = v) (how : OwnO w base v l) (g f c : Nat) (news : List OpR)
    (hx : a.eval x = .slice (some ⟨g, f, none⟩) news.length c) (hc : ∀ (i : Nat) (hi : i < news.length), OpIn g (f + i * 5) news[i] w) (hlen : l.length + news.length ≤ 1000000) (hbase : base ≤ w.heap.size)
    (h : ∀ v' w', OwnO w' base v' (l ++ news) → w.grownBy w' v.ownBlock → wpList Tryz.prog ops Q rest (a.put o.dst v') w') : wpList Tryz.prog ops Q (o :: rest) a w := by
  obtain ⟨i0, hi, hz0, hz1, hz2⟩ := info_parts opInfo
  obtain ⟨inner, hrow, hr⟩ := how
  have hrep := reps_flat opCells_length news
  refine wpList_append_own w hgd s x 27 ho base 50 i0 _ 5 48 Tryz.underlying27 hi hz0 hz1 hz2 rfl (by decide) v l.length inner hs hrow ⟨g, f, none⟩ news.length c _ hx hrep.1 (fun j u hj => by rw [addO]; exact ops_flat hc j u hj) (reps_one hrep (by decide) (fun p c hp => by subst hp; exact opCells_one p)) (by unfold maxLen; omega) (by omega) hbase ?_
  intro v' w' h1 h2 _
  exact h v' w' ⟨_, by rw [List.length_append]; exact h1, reps_append hr hrep⟩ h2
theorem OpIn.touch {F : Nat → Prop} {W W' : World} {b o : Nat} {p : OpR} (h : OpIn b o p W) (ht : Tr.Touch F W W') (hn : ¬ F b) : OpIn b o p W' :=
  ⟨ht.cell h.1 hn, ht.cell h.2.1 hn, ht.cell h.2.2.1 hn, ht.cell h.2.2.2.1 hn, ht.cell h.2.2.2.2 hn⟩
set_option maxRecDepth 20000 in
set_option maxHeartbeats 8000000 in
theorem redo_calls (w0 W : World) (F : Nat → Prop) (p : Nat) (most : Int) (l ops : List OpR) (n0 : OpR) (r : List OpR) (B : Nat) (vn : Value) (H : LogAt W F p most l) (ha : AscO l) (hr : ∀ o ∈ joinO l ops, opRight o = true) (hnew : newOf l ops = n0 :: r)
    (hvn : OwnO W B vn (newOf l ops)) (hvF : ∀ b, vn.ownBlock = some b → ¬ F b) (hT : Tabs w0) (hB : Below w0.heap.size w0 W) (hF : ∀ b, F b → w0.heap.size ≤ b) (hl : l.length + (newOf l ops).length ≤ 1000000) :
    Calls Tryz.prog 34 #[.pointer (some ⟨p, 0, none⟩), vn] W fun e w' => e = .returned (.tuple #[]) ∧ ∃ F', LogAt w' F' p most (joinO l ops) ∧ (∀ b, F' b → F b ∨ W.heap.size ≤ b) ∧ Tr.Touch F W w' := by
  obtain ⟨v, tp, FT, hp, hv, ht, hFp, hFv, hFT, hFlt⟩ := H
  obtain ⟨A, c, rfl, hc, hao⟩ := OwnO.ops hv
  have hn0 : 0 < (newOf l ops).length := by rw [hnew]; simp
  obtain ⟨gn, cn, rfl, hcn, hgnl, _, hnc⟩ := own_head hvn hn0
  have hgn : ¬ F gn := hvF gn rfl
  have hx0 := hnc 0 hn0
  rw [Nat.zero_mul] at hx0
  have hn00 : (newOf l ops)[0]'hn0 = n0 := by simp [hnew]
  rw [hn00] at hx0
  have HJ := Lib.hid (join_take ha hnew)
  have hfl := fromO_le l n0
  have HBS := Lib.hid (fun (V : World) (hV : Below W.heap.size W V) => bsearch_calls A l.length c l n0 V (hao.below hV) ha (by omega))
  have HX0 := Lib.hid hx0
  have c1 := blk_cell hp 1
  have c2 := blk_cell hp 2
  simp at c1 c2
  have C1 := Lib.hid c1
  have hlt := blk_lt hp
  have HP := Lib.hid hp
  have HB := Lib.hid (Below.refl W.heap.size W)
  generalize hR : hasO l n0 = R at *
  clear hR
  have hfrom : atO l n0 = fromO l n0 := rfl
  rw [hfrom] at HBS
  clear hfrom hnc hn00 hx0 hp c1 hvF hnew
  generalize fromO l n0 = fr at *
  simp only [opV] at HBS
  obtain ⟨x0, x1, x2, x3, x4⟩ := HX0.out
  go_enter Tryz.func34, Tryz.ntmps34
  go_wp2
  go_region_held3 (fun V => V.cell? ⟨p, 1, none⟩ = some (.slice A l.length c) ∧ V.cell? ⟨gn, 0, none⟩ = some (.int .i64 n0.n) ∧ V.cell? ⟨gn, 1, none⟩ = some (.int .i64 n0.r) ∧ V.cell? ⟨gn, 2, none⟩ = some (.int .i64 n0.node) ∧ V.cell? ⟨gn, 3, none⟩ = some (.int .i64 n0.par) ∧ V.cell? ⟨gn, 4, none⟩ = some (.string n0.name))
    (exact ⟨pw_cell_below (by repeat (first | (with_reducible exact HB.out) | apply below_alloc | apply pw_below_drewN | apply below_drew1 | exact HB.out)) C1.out, pw_cell_below (by repeat (first | (with_reducible exact HB.out) | apply below_alloc | apply pw_below_drewN | apply below_drew1 | exact HB.out)) (HX0.out.1.trans (by rfl)), pw_cell_below (by repeat (first | (with_reducible exact HB.out) | apply below_alloc | apply pw_below_drewN | apply below_drew1 | exact HB.out)) HX0.out.2.1, pw_cell_below (by repeat (first | (with_reducible exact HB.out) | apply below_alloc | apply pw_below_drewN | apply below_drew1 | exact HB.out)) HX0.out.2.2.1, pw_cell_below (by repeat (first | (with_reducible exact HB.out) | apply below_alloc | apply pw_below_drewN | apply below_drew1 | exact HB.out)) HX0.out.2.2.2.1, pw_cell_below (by repeat (first | (with_reducible exact HB.out) | apply below_alloc | apply pw_below_drewN | apply below_drew1 | exact HB.out)) HX0.out.2.2.2.2⟩)
    (first
      | (go_at_call 46; go_loud ((refine (HBS.out _ (by repeat (first | (with_reducible exact HB.out) | apply below_alloc | apply pw_below_drewN | apply below_drew1 | exact HB.out))).mono ?_); rintro e w1 ⟨rfl, hb⟩; have HBn := Lib.hid (below_step (by repeat (first | (with_reducible exact HB.out) | apply below_alloc | apply pw_below_drewN | apply below_drew1 | exact HB.out)) hb); clear hb HB; have HB := HBn; clear HBn; have k1 := pw_cell_below HB.out C1.out))
      | (fail "no arm"))
  have HT0 := Lib.hid (show TreeAt w1 FT tp (l.take (l.length - 0)) by rw [Nat.sub_zero, List.take_length]; exact Tr.TreeAt.below ht HB.out)
  have HV0 := Lib.hid (OwnRow.below hv HB.out)
  have HP0 := Lib.hid (blk_below HP.out HB.out)
  have HN0 := Lib.hid (OwnRow.below hvn HB.out)
  have HFT := Lib.hid hFT
  have HFV := Lib.hid hFv
  have HRT := Lib.hid (show ∀ o ∈ l, opRight o = true from fun o ho => hr o (mem_joinO.2 (.inl ho)))
  have HRJ := Lib.hid hr
  have hk2 := blk_cell HP0.out 2
  simp at hk2
  have hls : l.length ≤ 1000000 := by omega
  have HTB := Lib.hid hT
  have HBB := Lib.hid hB
  have HFF := Lib.hid hF
  have HLEN := Lib.hid hl
  have HA := Lib.hid ha
  have HFLT := Lib.hid hFlt
  clear hv hvn hFT hFv hr ht c2 hao hT hB hF hl ha hFlt HBS HX0 x0 x1 x2 x3 x4 C1
  by_cases hcf : c = fr
  all_goals
    go_wp2
    clear hc hcf
    go_loopw [26] (fun v V => ∃ i : Nat, v = .int .i64 i ∧ i ≤ l.length - fr ∧ Hid (TreeAt V FT tp (l.take (l.length - i))) ∧ Hid (Tr.Touch FT w1 V)) (fun v _ => (l.length - fr) - (RowKit.intOf v).toNat)
    case atStart => exact ⟨0, rfl, Nat.zero_le _, HT0, Lib.hid (Tr.Touch.refl _ _)⟩
    case round =>
      obtain ⟨i, rfl, hi, HTi, HTo⟩ := hrel
      by_cases hlt2 : i < l.length - fr
      · have q2 : decide ((i : Int) < ((l.length - fr : Nat) : Int)) = true := decide_eq_true (by omega)
        obtain ⟨j, hj⟩ : ∃ j, l.length - i = j + 1 := ⟨l.length - i - 1, by omega⟩
        have hjl : j < l.length := by omega
        have HU := Lib.hid (show TreeAt wr FT tp (l.take j ++ [l[j]]) by have := HTi.out; rw [hj, List.take_succ_eq_append_getElem hjl] at this; exact this)
        have HC := Lib.hid (undo_calls wr FT tp (l.take j) l[j] HU.out (HRT.out _ (List.getElem_mem hjl)) (by rw [List.length_take]; omega))
        have hk3 := HTo.out.cell hk2 (fun h => (HFT.out _ h).2.1 rfl)
        have HJ2 := Lib.hid (show l.length - (i + 1) = j by omega)
        clear hj HTi HU
        go_wp2_with (first
          | (go_at_call 27; go_loud ((refine HC.out.mono ?_); rintro e w2 ⟨rfl, ht2, hto2⟩; have HT2 := Lib.hid ht2; have HTO2 := Lib.hid (HTo.out.trans hto2 (fun _ _ h => h)); clear ht2 hto2))
          | (fail "no arm"))
        go_roundw
        case rel => exact ⟨i + 1, by go_num, by omega, by rw [HJ2.out]; exact HT2, HTO2⟩
        case measure => simp [RowKit.intOf]; omega
      · have hie : i = l.length - fr := by omega
        have q2 : decide ((i : Int) < ((l.length - fr : Nat) : Int)) = false := decide_eq_false (by omega)
        have HT1 := Lib.hid (show TreeAt wr FT tp (l.take fr) by have := HTi.out; rw [hie, show l.length - (l.length - fr) = fr by omega] at this; exact this)
        have HPr := Lib.hid (HTo.out.blk HP0.out (fun h => (HFT.out _ h).2.1 rfl))
        have HVr := Lib.hid (HTo.out.row HV0.out (fun b e h => (HFT.out b h).2.2 e))
        have HCL := Lib.hid (cloneown_calls wr _ l HVr.out hls)
        have hk3 := blk_cell HPr.out 1
        simp at hk3
        have HNr := Lib.hid (HTo.out.row HN0.out (fun b e h => hgn ((Option.some.inj (show some gn = some b from e)) ▸ (HFT.out b h).1)))
        have hplr : p < wr.heap.size := blk_lt HPr.out
        have HLL := Lib.hid (show l.length + (newOf l ops).length ≤ 1000000 from HLEN.out)
        have hfr2 : fr < l.length + (newOf l ops).length := by omega
        clear hie HTi HT0 hi
        go_wp2_with (first
          | (go_at_call 41; go_loud ((refine HCL.out.mono ?_); rintro e w2 ⟨v2, rfl, ho, hb⟩; obtain ⟨A2, c2, rfl, _⟩ := OwnRow.slice_ ho; have HO2 := Lib.hid ho; have HB2 := Lib.hid hb; have HP2 := Lib.hid (blk_below HPr.out hb); have HN2 := Lib.hid (OwnRow.below HNr.out hb); have hs2 := hb.size; clear ho hb))
          | (at_builtin; go_loud ((refine append_ops (by rfl) (.tmp 39) (.tmp 40) (by rfl) wr.heap.size _ l (by rfl) HO2.out gn 0 cn (newOf l ops) (by rfl) (by obtain ⟨g', c', e, _, _, _, hcell⟩ := own_head HN2.out hn0; injection e with e; injection e with e; injection e with e; subst e; exact (fun i hi => by have := hcell i hi; rwa [Nat.zero_add])) HLL.out hs2 ?_); intro v3 w3 ho3 hg3; obtain ⟨g3, c3, rfl, hc3, hg3l, hb3, _⟩ := own_head ho3 (by rw [List.length_append]; omega); rw [List.length_append] at ho3 hc3; have HO3 := Lib.hid ho3; have HG3 := Lib.hid hg3; have HP3 := Lib.hid (show w3.heap[p]? = _ from (hg3.block p (by omega) (by obtain ⟨inner, hrow, _⟩ := HO2.out; intro e; have := own_base hrow p e.symm; omega)).trans HP2.out); have k31 := blk_cell HP3.out 1; have z31 := blk_frozen HP3.out 1; simp at k31; clear ho3 hg3))
          | (go_at_call 58; go_loud ((refine (sortops_calls _ wr.heap.size _ (l ++ newOf l ops) (OwnRow.set_ HO3.out HP3.out (by decide) 1 _) (by rw [List.length_append]; exact HLL.out)).mono ?_); rintro e w5 ⟨rfl, ho5, ht5⟩; have HO5 := Lib.hid ho5; have HT5 := Lib.hid ht5; have HP5 := Lib.hid (ht5.blk (blk_put HP3.out 1 _ rfl) (fun e => by have := Option.some.inj (show some g3 = some p from e); omega)); clear ho5 ht5; have k51 := blk_cell HP5.out 1; simp at k51))
          | (fail "no arm"))
        have HT5b := Lib.hid (show Tr.Touch (fun b => b = p ∨ wr.heap.size ≤ b) wr w5 by
          refine (Tr.Touch.below HB2.out).trans (G := fun b => b = p ∨ wr.heap.size ≤ b) (((Tr.Touch.grown HG3.out (F := fun b => b = p ∨ wr.heap.size ≤ b) (fun b e => by obtain ⟨inner, hrow, _⟩ := HO2.out; exact .inr (own_base hrow b e))).trans (G := fun b => b = p ∨ wr.heap.size ≤ b) ((Tr.Touch.set_ (F := fun b => b = p ∨ wr.heap.size ≤ b) (Or.inl rfl) 1 _).trans (G := fun b => b = p ∨ wr.heap.size ≤ b) (HT5.out.mono (fun b e => Or.inr (by have := Option.some.inj (show some g3 = some b from e); omega))) (fun _ _ h => h)) (fun _ _ h => h))) (fun _ _ h => h))
        have hsr : w1.heap.size ≤ wr.heap.size := HTo.out.size
        have hs1 : W.heap.size ≤ w1.heap.size := HB.out.size
        have HJL := Lib.hid (show (joinO l ops).length = l.length + (newOf l ops).length from joinO_length l ops)
        have HTR := Lib.hid (show ∃ FT', TreeAt w5 FT' tp ((joinO l ops).take (fr + 0)) ∧ ∀ b, FT' b → FT b ∨ w5.heap.size ≤ b from ⟨FT, by rw [Nat.add_zero, HJ.out]; exact HT1.out.touch HT5b.out (fun b h e => by have h1 := (HFT.out b h).2.1; have h2 := HFLT.out b (HFT.out b h).1; exact e.elim h1 (fun e => by omega)), fun b h => Or.inl h⟩)
        have k52 := blk_cell HP5.out 2
        simp at k52
        have HC5 := Lib.hid (show ∀ (i : Nat) (hi : i < (joinO l ops).length), OpIn g3 (i * 5) (joinO l ops)[i] w5 by
          obtain ⟨g', c', e, _, _, _, hcell⟩ := own_head HO5.out (show 0 < (joinO l ops).length by rw [HJL.out]; omega)
          injection e with e; injection e with e; injection e with e; subst e; exact hcell)
        have HNN := Lib.hid (show fr + (l.length + (newOf l ops).length - fr) = (joinO l ops).length by rw [HJL.out]; omega)
        have hF6 := Lib.hid (show ∀ b, FT b → b < w5.heap.size ∧ b ≠ p ∧ w0.heap.size ≤ b from fun b h => ⟨by have h2 := HFLT.out b (HFT.out b h).1; have h3 := HT5b.out.size; omega, (HFT.out b h).2.1, HFF.out b (HFT.out b h).1⟩)
        have hg3F := Lib.hid (show ¬ FT g3 from fun h => by have h2 := HFLT.out g3 (HFT.out g3 h).1; omega)
        have hg3w : g3 < w5.heap.size := by
          have := HT5.out.size
          have h4 : g3 < w3.heap.size := hg3l
          have h5 : (w3.setCell ⟨p, 1, none⟩ (.slice (some ⟨g3, 0, none⟩) (l.length + (newOf l ops).length) c3)).heap.size = w3.heap.size := by simp [World.setCell]
          omega
        have HC6 := Lib.hid (show ∀ i, i < (l.length + (newOf l ops).length) - fr → ∃ o : OpR, (joinO l ops).take (fr + (i + 1)) = (joinO l ops).take (fr + i) ++ [o] ∧ opRight o = true ∧ OpIn g3 (fr * 5 + i * 5) o w5 from fun i hi => by
          have h1 : fr + i < (joinO l ops).length := by have := HNN.out; omega
          refine ⟨(joinO l ops)[fr + i], ?_, HRJ.out _ (List.getElem_mem h1), ?_⟩
          · rw [← Nat.add_assoc, List.take_succ_eq_append_getElem h1]
          · have := HC5.out (fr + i) h1; rwa [Nat.add_mul] at this)
        have hb0 : Below w0.heap.size w0 w5 := by
          have z1 := HBB.out.size
          have z2 : w0.heap.size ≤ wr.heap.size := by omega
          have z3 : w0.heap.size ≤ p := HFF.out p (by assumption)
          exact HBB.out.trans ((HB.out.mono z1).trans ((HTo.out.toBelow (by omega) (fun b h => HFF.out b (HFT.out b h).1)).trans (HT5b.out.toBelow z2 (fun b e => e.elim (fun e => e ▸ z3) (fun e => by omega)))))
        have hnb : l.length + (newOf l ops).length - fr ≤ 1000000 := by have := HLEN.out; omega
        clear HC5 HLL hfr2
        generalize (l.length + (newOf l ops).length) - fr = n at *
        clear k31 k51 z31
        go_loopw [56] (fun v V => ∃ i : Nat, v = .int .i64 i ∧ i ≤ n ∧ Hid (∃ FT', TreeAt V FT' tp ((joinO l ops).take (fr + i)) ∧ ∀ b, FT' b → FT b ∨ w5.heap.size ≤ b) ∧ Hid (Tr.Touch FT w5 V)) (fun v _ => n - (RowKit.intOf v).toNat)
        case atStart => exact ⟨0, rfl, Nat.zero_le _, HTR, Lib.hid (Tr.Touch.refl _ _)⟩
        case round =>
          obtain ⟨i, rfl, hi, HTi, HTo2⟩ := hrel
          by_cases hlt3 : i < n
          · have q3 : decide ((i : Int) < ((n : Nat) : Int)) = true := decide_eq_true (by omega)
            obtain ⟨o, hto, hro, hco⟩ := HC6.out i hlt3
            obtain ⟨y0, y1, y2, y3, y4⟩ := OpIn.touch hco HTo2.out hg3F.out
            have HL3 := Lib.hid hlt3
            have hkp := HTo2.out.cell k52 (fun h => (hF6.out _ h).2.1 rfl)
            clear HB
            have HB := Lib.hid (Below.refl wr.heap.size wr)
            have HAP := Lib.hid (fun (V : World) (hV : Below wr.heap.size wr V) (FT' : Nat → Prop) (hTT : TreeAt wr FT' tp ((joinO l ops).take (fr + i))) => apply_calls w0 V FT' tp _ o (hTT.below hV) hro (fun x hx => HRJ.out x (List.mem_of_mem_take hx)) HTB.out (hb0.trans ((HTo2.out.toBelow hb0.size (fun b h => (hF6.out b h).2.2)).trans (hV.mono (Nat.le_trans hb0.size HTo2.out.size)))) (by rw [List.length_take]; have := HNN.out; have := HLEN.out; have := HJL.out; omega))
            simp only [opV] at HAP
            have HTK := Lib.hid hto
            have HK52 := Lib.hid k52
            clear k52 hto
            go_wp2
            go_region_held3 (fun V => V.cell? ⟨p, 2, none⟩ = some (.pointer (some ⟨tp, 0, none⟩)) ∧ V.cell? ⟨wr.heap.size, 0, none⟩ = some (.int .i64 o.n) ∧ V.cell? ⟨wr.heap.size, 1, none⟩ = some (.int .i64 o.r) ∧ V.cell? ⟨wr.heap.size, 2, none⟩ = some (.int .i64 o.node) ∧ V.cell? ⟨wr.heap.size, 3, none⟩ = some (.int .i64 o.par) ∧ V.cell? ⟨wr.heap.size, 4, none⟩ = some (.string o.name)) (first | exact ⟨kp6, q0, q1, q2, q3, q4⟩ | (refine ⟨pw_cell_below (by repeat (first | (with_reducible exact HB.out) | apply below_alloc | apply pw_below_drewN | apply below_drew1 | exact HB.out)) hkp, ?_, ?_, ?_, ?_, ?_⟩ <;> go_cell))
              (first
                | (go_at_call 25; go_loud (obtain ⟨FT', hta, hfa⟩ := HTi.out; (refine (HAP.out _ (by repeat (first | (with_reducible exact HB.out) | apply below_alloc | apply pw_below_drewN | apply below_drew1 | exact HB.out)) _ (TreeAt.trim hta)).mono ?_); rintro e w6 ⟨rfl, F2, ht6, hf6, hto6⟩; have hbw : Below wr.heap.size wr (wr.alloc (.cells #[.int .i64 o.n, .int .i64 o.r, .int .i64 o.node, .int .i64 o.par, .string o.name] 50)).drew := (by repeat (first | (with_reducible exact HB.out) | apply below_alloc | apply pw_below_drewN | apply below_drew1 | exact HB.out)); have HT6 := Lib.hid (show ∃ FT', TreeAt w6 FT' tp ((joinO l ops).take (fr + (i + 1))) ∧ ∀ b, FT' b → FT b ∨ w5.heap.size ≤ b from ⟨F2, by rw [HTK.out]; exact ht6, fun b h => (hf6 b h).elim (fun h => hfa b h.1) (fun h => .inr (Nat.le_trans (Nat.le_trans HTo2.out.size hbw.size) h))⟩); have HTO6 := Lib.hid (show Tr.Touch FT w5 w6 from (HTo2.out.trans (G := FT) (Tr.Touch.below hbw) (fun _ _ h => h)).trans hto6 (fun b h1 h2 => (hfa b h2.1).elim id (fun h => absurd h (Nat.not_le.2 h1)))); have kp6 := HTO6.out.cell HK52.out (fun h => (hF6.out _ h).2.1 rfl); have q0 := hto6.cell (a := ⟨wr.heap.size, 0, none⟩) (v := .int .i64 o.n) (by go_cell) (fun h => absurd h.2 (Nat.lt_irrefl _)); have q1 := hto6.cell (a := ⟨wr.heap.size, 1, none⟩) (v := .int .i64 o.r) (by go_cell) (fun h => absurd h.2 (Nat.lt_irrefl _)); have q2 := hto6.cell (a := ⟨wr.heap.size, 2, none⟩) (v := .int .i64 o.node) (by go_cell) (fun h => absurd h.2 (Nat.lt_irrefl _)); have q3 := hto6.cell (a := ⟨wr.heap.size, 3, none⟩) (v := .int .i64 o.par) (by go_cell) (fun h => absurd h.2 (Nat.lt_irrefl _)); have q4 := hto6.cell (a := ⟨wr.heap.size, 4, none⟩) (v := .string o.name) (by go_cell) (fun h => absurd h.2 (Nat.lt_irrefl _)); clear ht6 hto6 hbw))
                | (fail "no arm"))
            go_wp2
            go_roundw
            case rel => have := HL3.out; exact ⟨i + 1, by go_num, HL3.out, HT6, HTO6⟩
            case measure => have := HL3.out; simp [RowKit.intOf]; omega
          · have hie : i = n := by omega
            have q3 : decide ((i : Int) < ((n : Nat) : Int)) = false := decide_eq_false (by omega)
            have HE := Lib.hid HTi.out
            rw [hie] at HE
            go_wp2
            go_returns
            obtain ⟨FT', hta, hfa⟩ := HE.out
            rw [HNN.out, List.take_length] at hta
            have hpt := HTo2.out.blk HP5.out (fun h => (hF6.out _ h).2.1 rfl)
            have hpl := blk_lt hpt
            have hgl : g3 < wr.heap.size := Nat.lt_of_lt_of_le hg3w HTo2.out.size
            have hrow := HTo2.out.row HO5.out (fun b e h => hg3F.out ((Option.some.inj (show some g3 = some b from e)) ▸ h))
            have hsz := HT5b.out.size
            refine ⟨rfl, fun b => (F b ∨ W.heap.size ≤ b) ∧ b < wr.heap.size, ⟨_, tp, fun b => FT' b ∧ b < wr.heap.size, hpt, ?_, TreeAt.trim hta, ⟨.inl (by assumption), hpl⟩, fun b e => ?_, fun b h => ⟨⟨?_, h.2⟩, ?_, ?_⟩, fun b h => h.2⟩, fun b h => h.1, ?_⟩
            · obtain ⟨inner, h1, h2⟩ := hrow
              exact ⟨inner, ⟨h1.1, h1.2.imp id fun ⟨g, cap, cur, e1, e2, e3⟩ => ⟨g, cap, cur, e1, Nat.zero_le _, e3⟩⟩, h2⟩
            · have := Option.some.inj (show some g3 = some b from e); subst this; exact ⟨.inr (by omega), hgl⟩
            · exact (hfa b h.1).elim (fun h => .inl (HFT.out b h).1) (fun h => .inr (by omega))
            · exact (hfa b h.1).elim (fun h => (HFT.out b h).2.1) (fun h => by omega)
            · intro e
              have := Option.some.inj (show some g3 = some b from e)
              subst this
              exact (hfa _ h.1).elim hg3F.out (fun h => by omega)
            · exact ((Tr.Touch.below HB.out).trans (G := F) ((HTo.out.mono (fun b h => (HFT.out b h).1)).trans HT5b.out (fun b h1 h2 => h2.elim (fun h => h ▸ by assumption) (fun h => by omega))) (fun _ _ h => h)).trans (G := F) (HTo2.out.mono (fun b h => (HFT.out b h).1)) (fun _ _ h => h)
end Go.Proofs.YtkmdmjlepmmejaaGreatDoor.Ol
