/-
  holtlaw11.walk: rows that are appended whole; what walk tells; Package arena's and pmap's New; Package arena and pmap's store: plain laws. What lies where, which handles are new, which are gone
-/
import Derived.Test.YtmhfbpdahfepgaaB6
/- holtlaw11.walk: rows that are appended whole; what walk tells. -/
namespace Go.Proofs.Ytmhfbpdahfepgaa.Pm
open Go.RowKit Go.Proofs.YtmhfbpdahfepgaaW.PrintWords
attribute [local go_sem high] eqHd
section
variable {P : Program} {ops : Array Oper} {o : Oper} {a : Act} {Q : Exit → Act → World → Prop} {Kc : Act → World → Prop} {α : Type}
/-- append(v, ys...), both rows being made here. -/
theorem OwnRow.rows_step {R : α → List Value → Prop} {w0 W : World} (base : Nat) (hw : Region.wanted o (yielded ops a.tmps) = true) (s x : Operand) (t e : TypeId) (z : Value) (size bytes : Nat)
    (ho : o.op = .call { callee := .builtin .append, args := #[s, x], argTypes := #[t, t] })
    (ht : P.underlying t = some (.slice e)) (hinfo : (P.info? e).map (fun i => (i.zero, i.size, i.bytes)) = some (some z, size, bytes)) (hz : z.cells.size = size) (hs0 : 0 < size) (hb0 : 0 < bytes)
    (v u : Value) (ps qs : List α) (hs : a.eval s = v) (hx : a.eval x = u) (hone : ∀ p cs, R p cs → ∀ y ∈ cs, y.oneCell' = true)
    (HO : OwnRow R e size W base v ps) (HR : OwnRow R e size W base u qs)
    (HB : Below base w0 W) (hbase : base ≤ W.heap.size) (hl : (ps.length + qs.length) * bytes ≤ 140737488355328)
    (h : ∀ v1 w1, OwnRow R e size w1 base v1 (ps ++ qs) → Below base w0 w1 → W.grownBy w1 v.ownBlock → (v1.ownBlock = v.ownBlock ∨ ∃ b, v1.ownBlock = some b ∧ W.heap.size ≤ b) → Kc (a.put o.dst v1) w1) :
    if Region.wanted o (yielded ops a.tmps) = true then Oper.wp P o a W Kc Q else Kc (a.put o.dst undef) W := by
  obtain ⟨i0, hi, hzz⟩ := Option.map_eq_some_iff.1 hinfo
  simp only [Prod.mk.injEq] at hzz
  obtain ⟨hz0, hz1, hz2⟩ := hzz
  obtain ⟨A, c, rfl, hac, hrd⟩ := OwnRow.reads HR
  have hlen : ps.length + qs.length ≤ 140737488355328 := Nat.le_trans (Nat.le_mul_of_pos_right _ hb0) hl
  obtain ⟨inner, hown, hr⟩ := HO
  have hrun : ∃ v1 w1, (Builtin.append_ #[t, t] o.type #[v, .slice A qs.length c]).run P W = .ok v1 w1 ∧ OwnRow R e size w1 base v1 (ps ++ qs) ∧ W.grownBy w1 v.ownBlock ∧ (v1.ownBlock = v.ownBlock ∨ ∃ b, v1.ownBlock = some b ∧ W.heap.size ≤ b) := by
    rcases A with _ | ad
    · have h0 : qs.length = 0 := by
        rcases Nat.eq_zero_or_pos qs.length with h0 | h0
        · exact h0
        · obtain ⟨ad, h, _⟩ := hrd.2.2 h0
          cases h
      obtain rfl : qs = [] := List.eq_nil_of_length_eq_zero h0
      refine ⟨v, W, ?_, by rw [List.append_nil]; exact ⟨inner, hown, hr⟩, World.grownBy.refl W _, .inl rfl⟩
      rcases hown.2 with ⟨rfl, hn⟩ | ⟨g, cap, cur, rfl, _, _, hnc, _⟩
      · simp [Builtin.append_, run_underlying ht, sizeOf, typeInfo, hi, Builtin.lenOf, Builtin.firstCells]
      · simp [Builtin.append_, run_underlying ht, sizeOf, typeInfo, hi, Builtin.lenOf, Builtin.firstCells, hnc, storeCells]
    · obtain ⟨news, hnr, hnc⟩ := ReadsRow.inner_ hrd
      have hone : ∀ u ∈ news, u.oneCell' = true := by
        intro u hu
        obtain ⟨q, hq, rfl⟩ := List.mem_iff_getElem.1 hu
        have hql : q / size < qs.length := by
          rw [Nat.div_lt_iff_lt_mul hs0]
          rw [← hnr.1]
          exact hq
        have hc := hnr.2 (q / size) _ (List.getElem?_eq_getElem hql)
        refine hone _ _ hc _ ?_
        rw [List.mem_iff_getElem?]
        refine ⟨q % size, ?_⟩
        rw [List.getElem?_take, if_pos (Nat.mod_lt _ hs0), List.getElem?_drop, Nat.mul_comm, Nat.div_add_mod, List.getElem?_eq_getElem hq]
      obtain ⟨v1, w1, hrun, h2, hg, _, hat⟩ := run_append_own_at (P := P) W base t o.type e i0 z size bytes ht hi hz0 hz1 hz2 hz hs0 v ps.length inner hown ad qs.length c news hnr.1 hnc hone (by simp only [maxLen]; omega) hl hbase
      have hat' : v1.ownBlock = v.ownBlock ∨ ∃ b, v1.ownBlock = some b ∧ W.heap.size ≤ b := by
        rcases hat with hat | hat
        · exact .inl hat
        · exact .inr ⟨_, hat, Nat.le_refl _⟩
      exact ⟨v1, w1, hrun, ⟨inner ++ news, by rw [List.length_append]; exact h2, Kd.reps_append hr hnr⟩, hg, hat'⟩
  obtain ⟨v1, w1, hrun, hR, hg, hat⟩ := hrun
  rw [if_pos hw]
  unfold Oper.wp execOp
  simp only [ho, resolve, invoke, builtin, Sem.run_bind, Sem.run_pure, Result.andThen_ok, List.map_toArray, List.map_cons, List.map_nil, hs, hx, hrun]
  exact h v1 w1 hR (HB.grown hg hbase (own_base hown)) hg hat
end
def pc (p : Int × Int) : List Value := [.int .i64 p.1, .int .i64 p.2]
abbrev OwnP (W : World) (base : Nat) (v : Value) (ps : List (Int × Int)) : Prop := OwnRow (fun p cs => cs = pc p) 64 2 W base v ps
theorem row_low {α : Type} {R : α → List Value → Prop} {e : TypeId} {size : Nat} {W : World} {B B' : Nat} {v : Value} {l : List α} (h : OwnRow R e size W B v l) (hb : B' ≤ B) : OwnRow R e size W B' v l := by
  obtain ⟨inner, ho, hr⟩ := h
  exact ⟨inner, own_low ho hb, hr⟩
theorem hds_len : ∀ t : T2, (hds t).length = (pairs t).length
  | .leaf => rfl
  | .node h k v l r hi => by show (hds l ++ h :: hds r).length = (pairs l ++ (k, v) :: pairs r).length; rw [List.length_append, List.length_append, List.length_cons, List.length_cons, hds_len l, hds_len r]
def Apart (v u : Value) : Prop := v.ownBlock = none ∨ v.ownBlock ≠ u.ownBlock
theorem apart_of {α β : Type} {R : α → List Value → Prop} {R' : β → List Value → Prop} {e e' size size' B B' : Nat} {w w' : World} {v u : Value} {ps : List α} {qs : List β} (h : OwnRow R e size w B u ps) (h' : OwnRow R' e' size' w' B' v qs) (hB : w.heap.size ≤ B') : Apart v u := by
  obtain ⟨i1, o1, _⟩ := h
  obtain ⟨i2, o2, _⟩ := h'
  rcases o2.2 with ⟨rfl, _⟩ | ⟨g, cap, cur, rfl, hg, _, _⟩
  · exact .inl rfl
  · refine .inr fun he => ?_
    have := (o1.lt g he.symm).2
    omega
theorem apart_step {β : Type} {R' : β → List Value → Prop} {e' size' B' : Nat} {w' : World} {v u u1 : Value} {qs : List β} (h : Apart v u) (h' : OwnRow R' e' size' w' B' v qs) (hat : u1.ownBlock = u.ownBlock ∨ ∃ b, u1.ownBlock = some b ∧ w'.heap.size ≤ b) : Apart v u1 := by
  obtain ⟨i2, o2, _⟩ := h'
  rcases h with h | h
  · exact .inl h
  · refine .inr fun he => ?_
    rcases hat with hat | ⟨b, hb, hle⟩
    · exact h (he.trans hat)
    · have := (o2.lt b (he.trans hb)).2
      omega
theorem apart_type {α β : Type} {R : α → List Value → Prop} {R' : β → List Value → Prop} {e e' size size' B B' : Nat} {w : World} {v u : Value} {ps : List α} {qs : List β} (h : OwnRow R e size w B v ps) (h' : OwnRow R' e' size' w B' u qs) (hne : e ≠ e') : Apart v u := by
  obtain ⟨i1, o1, _⟩ := h
  obtain ⟨i2, o2, _⟩ := h'
  exact own_type_ne o1 o2 hne
theorem grown_blk {α : Type} {R : α → List Value → Prop} {e size B : Nat} {w w1 : World} {v : Value} {ps : List α} (hg : w.grownBy w1 v.ownBlock) (h : OwnRow R e size w B v ps) {b : Nat} {cs : Array Value} {t : TypeId} (hc : w.heap[b]? = some (.cells cs t (0, 0))) (hne : e ≠ t) : w1.heap[b]? = some (.cells cs t (0, 0)) :=
  (hg.block b (blk_lt hc) (OwnRow.ne_block h hc hne)).trans hc
theorem grown_undrew {w w1 : World} {row : Option Nat} (h : w.drew.grownBy w1 row) : w.grownBy w1 row := ⟨h.os, h.tape, h.output, h.size, h.block⟩
theorem pairs_node {h : Hd} {k v : Int} {l r : T2} {hi : Int} : pairs l ++ [(k, v)] ++ pairs r = pairs (.node h k v l r hi) := by rw [List.append_assoc]; rfl
theorem hds_node {h : Hd} {k v : Int} {l r : T2} {hi : Int} : hds l ++ [h] ++ hds r = hds (.node h k v l r hi) := by rw [List.append_assoc]; rfl
theorem pc_one (p : Int × Int) (cs : List Value) (h : cs = pc p) : ∀ y ∈ cs, y.oneCell' = true := by subst h; simp [pc, Value.oneCell']
theorem hc_one (p : Hd) (cs : List Value) (h : cs = hdC p) : ∀ y ∈ cs, y.oneCell' = true := by subst h; simp [hdC, Value.oneCell']
theorem prInfo : (Try.prog.info? 64).map (fun i => (i.zero, i.size, i.bytes)) = some (some (.agg #[.int .i64 0, .int .i64 0]), 2, 16) := by kernel_rfl
/-- What walk tells of a version. -/
def WalkOut (W : World) (t : T2) (e : Ending) (w' : World) : Prop :=
  ∃ pv hv, e = .returned (.tuple #[pv, hv, .int .i64 t.hi, .bool true]) ∧ OwnP w' W.heap.size pv (pairs t) ∧ OwnH w' W.heap.size hv (hds t) ∧ Below W.heap.size W w'
def WalkSays (w0 : World) (B m aa : Nat) (a : Ar N2) (t : T2) : Prop :=
  ∀ (W : World) (deep : Int), MapB w0 W B m aa a → Lies a t → Avl t → t.hi ≤ deep → deep ≤ 1000 → (pairs t).length ≤ 1000000 →
    Calls Try.prog 13 #[.pointer (some ⟨m, 0, none⟩), hdV t.h, .int .i64 deep] W (WalkOut W t)
theorem walk_leaf (w0 : World) (B m aa : Nat) (a : Ar N2) : WalkSays w0 B m aa a .leaf := by
  intro W deep HM _ _ _ _ _
  clear HM
  simp only [hdV, T.h, H0]
  go_enter Try.func13, Try.ntmps13
  go_wp2
  go_returns
  exact ⟨_, _, rfl, OwnRow.none_ _ _ _ _ _, OwnRow.none_ _ _ _ _ _, (by repeat (first | exact Below.refl _ _ | apply below_drew1 | apply below_alloc | apply pw_below_drewN))⟩
set_option maxHeartbeats 8000000 in
theorem walk_node (w0 : World) (B m aa : Nat) (a : Ar N2) (h : Hd) (k v : Int) (l r : T2) (hi : Int) (il : WalkSays w0 B m aa a l) (ir : WalkSays w0 B m aa a r) : WalkSays w0 B m aa a (.node h k v l r hi) := by
  intro W deep HM hl av hd hd2 hn
  obtain ⟨e, a1, a2, al, ar⟩ := av
  obtain ⟨hz, hg, ll, lr⟩ := hl
  have l0 := al.nonneg
  have r0 := ar.nonneg
  have m0 := mx_le l.hi r.hi
  have hne := hd_ne hz
  have hd' : hi ≤ deep := hd
  have hn' : (pairs l ++ (k, v) :: pairs r).length ≤ 1000000 := hn
  rw [List.length_append, List.length_cons] at hn'
  have hnl : (hds l).length = (pairs l).length := hds_len l
  have hnr : (hds r).length = (pairs r).length := hds_len r
  have HG := Lib.hid (fun (V : World) (hb : Below W.heap.size W V) => show Calls Try.prog 18 #[.pointer (some ⟨m, 0, none⟩), .agg #[.int .i64 h.s, .int .i64 h.g]] V fun e w' => e = .returned (.tuple #[.agg #[.int .i64 k, .int .i64 v, .int .i64 l.h.s, .int .i64 l.h.g, .int .i64 r.h.s, .int .i64 r.h.g, .int .i64 hi], .bool true]) ∧ Below V.heap.size V w' by obtain ⟨sv, fv, h'⟩ := (HM.below hb).mapAt; have := load_calls V m aa _ sv fv a h h'; rw [hg] at this; exact this)
  have HWL := Lib.hid (fun (V : World) (hb : Below W.heap.size W V) => il V (deep - 1) (HM.below hb) ll al (by omega) (by omega) (by omega))
  have HWR := Lib.hid (fun (V : World) (hb : Below W.heap.size W V) => ir V (deep - 1) (HM.below hb) lr ar (by omega) (by omega) (by omega))
  have hb1 : (hds l).length ≤ 1000000 := by omega
  have hb2 : (hds r).length ≤ 1000000 := by omega
  have hb3 : (pairs l).length + 1 + (pairs r).length ≤ 1000000 := by omega
  have hb4 : (hds l).length + 1 + (hds r).length ≤ 1000000 := by omega
  have hw1 : IntKind.i64.wrap (deep - 1) = deep - 1 := by rw [IntKind.wrap_i64]; omega
  have hpos : decide (deep ≤ 0) = false := decide_eq_false (by omega)
  have hpos2 : ¬ deep ≤ 0 := by omega
  have HE := Lib.hid e
  clear il ir HM hz hg ll lr al ar hn hd hnl hnr hn'
  rw [show (T.node h k v l r hi).h = h from rfl]
  simp only [hdV] at HWL HWR ⊢
  unfold WalkOut at HWL HWR
  by_cases hlr : l.hi < r.hi
  · have hmx : mx l.hi r.hi = r.hi := if_pos hlr
    have hsum : IntKind.i64.wrap (1 + r.hi) = 1 + r.hi := by rw [IntKind.wrap_i64]; omega
    have hq : (hi != 1 + r.hi) = false := by rw [bne_eq_false_iff_eq]; omega
    have hs1 : IntKind.i64.wrap (l.hi - r.hi) = l.hi - r.hi := by rw [IntKind.wrap_i64]; omega
    have hs2 : IntKind.i64.wrap (r.hi - l.hi) = r.hi - l.hi := by rw [IntKind.wrap_i64]; omega
    have hs3 : decide (1 < l.hi - r.hi) = false := decide_eq_false (by omega)
    have hs4 : decide (1 < r.hi - l.hi) = false := decide_eq_false (by omega)
    clear e hmx
    go_enter Try.func13, Try.ntmps13
    go_wp2_with (first
      | (go_at_call 18; go_loud (
          (with_reducible refine Calls.mono (HG.out _ (by repeat (first | exact Below.refl _ _ | apply below_drew1 | apply below_alloc | apply pw_below_drewN))) ?_);
          rintro e w1 ⟨rfl, hb⟩;
          have hx := blk_below (blk_new W (.cells #[.int .i64 h.s, .int .i64 h.g] 28 (0, 0))) hb;
          have HX1 := Lib.hid hx;
          have HB1 := Lib.hid ((below_alloc (Below.refl _ _) _).trans (hb.mono (by simp [World.size_alloc])) : Below W.heap.size W w1);
          clear hb hx))
      | (fail "no arm"))
    have HNV := Lib.hid (blk_new w1 (.cells #[.int .i64 k, .int .i64 v, .int .i64 l.h.s, .int .i64 l.h.g, .int .i64 r.h.s, .int .i64 r.h.g, .int .i64 hi] 44 (0, 0)))
    have HXV := Lib.hid (blk_below HX1.out (below_alloc (Below.refl _ _) (.cells #[.int .i64 k, .int .i64 v, .int .i64 l.h.s, .int .i64 l.h.g, .int .i64 r.h.s, .int .i64 r.h.g, .int .i64 hi] 44 (0, 0))))
    have HBV := Lib.hid (HB1.out.alloc (HB1.out.size) (.cells #[.int .i64 k, .int .i64 v, .int .i64 l.h.s, .int .i64 l.h.g, .int .i64 r.h.s, .int .i64 r.h.g, .int .i64 hi] 44 (0, 0)))
    generalize (w1.alloc (.cells #[.int .i64 k, .int .i64 v, .int .i64 l.h.s, .int .i64 l.h.g, .int .i64 r.h.s, .int .i64 r.h.g, .int .i64 hi] 44 (0, 0))) = V at *
    generalize hnb : w1.heap.size = nb at *
    clear hnb
    (with_reducible refine Calls.mono (HWL.out V HBV.out) ?_)
    rintro e2 w2 ⟨pa, ha, rfl, hop, hoh, hb2⟩
    obtain ⟨A1, c1, rfl, _⟩ := OwnRow.slice_ hop
    obtain ⟨A2, c2, rfl, _⟩ := OwnRow.slice_ hoh
    have HB2 := Lib.hid (HBV.out.trans (hb2.mono HBV.out.size))
    have HN2 := Lib.hid (blk_below HNV.out hb2)
    have HX2 := Lib.hid (blk_below HXV.out hb2)
    have HP2 := Lib.hid hop
    have HH2 := Lib.hid hoh
    have n4 := blk_cell HN2.out 4
    have n5 := blk_cell HN2.out 5
    simp at n4 n5
    clear hop hoh hb2
    generalize hlp : (pairs l).length = LP at *
    generalize hlh : (hds l).length = LH at *
    generalize hrp : (pairs r).length = RP at *
    generalize hrh : (hds r).length = RH at *
    have HRP := Lib.hid hrp
    have HRH := Lib.hid hrh
    have HLP := Lib.hid hlp
    have HLH := Lib.hid hlh
    clear hlp hlh hrp hrh
    go_wp2_with (first
      | (go_at_call 13; go_loud (
          (with_reducible refine Calls.mono (HWR.out _ HB2.out) ?_);
          rintro e3 w3 ⟨pb, hbv, rfl, hop, hoh, hb3⟩;
          obtain ⟨A3, c3, rfl, _⟩ := OwnRow.slice_ hop; rw [HRP.out] at hop;
          obtain ⟨A4, c4, rfl, _⟩ := OwnRow.slice_ hoh; rw [HRH.out] at hoh; simp only [HRP.out, HRH.out];
          have HB3 := Lib.hid (HB2.out.trans (hb3.mono HB2.out.size));
          have HN3 := Lib.hid (blk_below HN2.out hb3);
          have HX3 := Lib.hid (blk_below HX2.out hb3);
          have HP3 := Lib.hid (OwnRow.below HP2.out hb3);
          have HH3 := Lib.hid (OwnRow.below HH2.out hb3);
          have HPB := Lib.hid hop;
          have HHB := Lib.hid hoh;
          have HAP := Lib.hid (apart_of HP2.out hop (Nat.le_refl _)); have HAH := Lib.hid (apart_of HH2.out hoh (Nat.le_refl _)); have n0 := blk_cell HN3.out 0; have n1 := blk_cell HN3.out 1; have n6 := blk_cell HN3.out 6;
          have x0 := blk_cell HX3.out 0; have x1 := blk_cell HX3.out 1;
          simp at n0 n1 n6 x0 x1;
          clear hop hoh hb3))
      | (at_builtin; go_loud (
          (refine OwnRow.append (R := fun p cs => cs = pc p) (w0 := W) (W := w3) W.heap.size rfl (.tmp 84) (.tmp 90) 29 64 _ 2 16 rfl Try.underlying29 prInfo rfl (by decide) (by decide) _ (pairs l) (k, v) [.int .i64 k, .int .i64 v] (by rfl) (by simp [Act.eval]) rfl rfl (by simp [Value.oneCell']) (row_low HP3.out HBV.out.size) HB3.out HB3.out.size ?hlA ?_);
          (case hlA => rw [HLP.out]; omega);
          intro v4 w4 ho hb hg hat;
          obtain ⟨A5, c5, rfl, _⟩ := OwnRow.slice_ ho;
          have hz4 := hg.size;
          have HP4 := Lib.hid ho;
          have HB4 := Lib.hid hb;
          have HH4 := Lib.hid (OwnRow.other HH3.out hg (apart_type HH3.out HP3.out (by decide)));
          have HPB4 := Lib.hid (OwnRow.other HPB.out hg HAP.out);
          have HHB4 := Lib.hid (OwnRow.other HHB.out hg (apart_type HHB.out HP3.out (by decide)));
          have HAP4 := Lib.hid (apart_step HAP.out HPB.out hat);
          have HN4 := Lib.hid (grown_blk hg HP3.out HN3.out (by decide));
          have HX4 := Lib.hid (grown_blk hg HP3.out HX3.out (by decide));
          have x0 := blk_cell HX4.out 0; have x1 := blk_cell HX4.out 1;
          simp at x0 x1;
          generalize hL4 : (pairs l ++ [(k, v)]).length = L4 at *;
          have hL4b : L4 ≤ LP + 1 := (by rw [← hL4, List.length_append, List.length_singleton, HLP.out]; exact Nat.le_refl _); have HL4 := Lib.hid hL4;
          clear ho hb hg hat hL4))
      | (at_builtin; go_loud (
          (refine OwnRow.append (R := fun h cs => cs = hdC h) (w0 := W) (W := w4) W.heap.size rfl (.tmp 92) (.tmp 94) 32 28 _ 2 16 rfl Try.underlying32 hdInfo rfl (by decide) (by decide) _ (hds l) h [.int .i64 h.s, .int .i64 h.g] (by rfl) (by simp [Act.eval]) rfl rfl (by simp [Value.oneCell']) (row_low HH4.out HBV.out.size) HB4.out HB4.out.size ?hlB ?_);
          (case hlB => rw [HLH.out]; omega);
          intro v5 w5 ho hb hg hat;
          obtain ⟨A6, c6, rfl, _⟩ := OwnRow.slice_ ho;
          have hz5 := hg.size;
          have HH5 := Lib.hid ho;
          have HB5 := Lib.hid hb;
          have HP5 := Lib.hid (OwnRow.other HP4.out hg (apart_type HP4.out HH4.out (by decide)));
          have HPB5 := Lib.hid (OwnRow.other HPB4.out hg (apart_type HPB4.out HH4.out (by decide)));
          have HHB5 := Lib.hid (OwnRow.other HHB4.out hg HAH.out);
          have HAH5 := Lib.hid (apart_step HAH.out HHB4.out hat);
          have HN5 := Lib.hid (grown_blk hg HH4.out HN4.out (by decide));
          have nn6 := blk_cell HN5.out 6;
          simp at nn6;
          generalize hL5 : (hds l ++ [h]).length = L5 at *;
          have hL5b : L5 ≤ LH + 1 := (by rw [← hL5, List.length_append, List.length_singleton, HLH.out]; exact Nat.le_refl _); have HL5 := Lib.hid hL5;
          clear ho hb hg hat hL5))
      | (fail "no arm"))
    go_region_law (first
      | (go_loud (
          (refine OwnRow.rows_step (R := fun p cs => cs = pc p) (w0 := W) (W := w5.drew) W.heap.size rfl (.tmp 96) (.tmp 97) 29 64 _ 2 16 rfl Try.underlying29 prInfo rfl (by decide) (by decide) _ _ (pairs l ++ [(k, v)]) (pairs r) (by rfl) (by rfl) pc_one HP5.out (row_low HPB5.out HB2.out.size) (below_drew1 HB5.out) HB5.out.size ?hlC5 ?_);
          (case hlC5 => rw [HL4.out, HRP.out]; omega);
          intro v_6p w6p ho hb hg hat; have hg := grown_undrew hg;
          obtain ⟨A7, c7, rfl, _⟩ := OwnRow.slice_ ho;
          have HP6p := Lib.hid ho;
          have HB6p := Lib.hid hb;
          have HH6p := Lib.hid (OwnRow.other HH5.out hg (apart_type HH5.out HP5.out (by decide))); have HHB6p := Lib.hid (OwnRow.other HHB5.out hg (apart_type HHB5.out HP5.out (by decide)));
          have HN6p := Lib.hid (grown_blk hg HP5.out HN5.out (by decide));
          have m6_6p := blk_cell HN6p.out 6;
          simp at m6_6p;
          generalize hHL6 : (pairs l ++ [(k, v)] ++ pairs r).length = L6 at *;
          have HL6 := Lib.hid hHL6;
          clear ho hb hg hat hHL6))
      | (go_loud (
          (refine OwnRow.rows_step (R := fun h cs => cs = hdC h) (w0 := W) (W := w6p) W.heap.size rfl (.tmp 99) (.tmp 100) 32 28 _ 2 16 rfl Try.underlying32 hdInfo rfl (by decide) (by decide) _ _ (hds l ++ [h]) (hds r) (by rfl) (by rfl) hc_one HH6p.out (row_low HHB6p.out HB2.out.size) HB6p.out HB6p.out.size ?hlD6p ?_);
          (case hlD6p => rw [HL5.out, HRH.out]; omega);
          intro v_7 w7 ho hb hg hat;
          obtain ⟨A8, c8, rfl, _⟩ := OwnRow.slice_ ho;
          have HH7 := Lib.hid ho;
          have HB7 := Lib.hid hb;
          have HP7 := Lib.hid (OwnRow.other HP6p.out hg (apart_type HP6p.out HH6p.out (by decide)));
          have HN7 := Lib.hid (grown_blk hg HH6p.out HN6p.out (by decide));
          have m6_7 := blk_cell HN7.out 6;
          simp at m6_7;
          generalize hHL7 : (hds l ++ [h] ++ hds r).length = L7 at *;
          have HL7 := Lib.hid hHL7;
          clear ho hb hg hat hHL7))
      | (go_loud (
          (refine OwnRow.rows_step (R := fun h cs => cs = hdC h) (w0 := W) (W := w5.drew) W.heap.size rfl (.tmp 99) (.tmp 100) 32 28 _ 2 16 rfl Try.underlying32 hdInfo rfl (by decide) (by decide) _ _ (hds l ++ [h]) (hds r) (by rfl) (by rfl) hc_one HH5.out (row_low HHB5.out HB2.out.size) (below_drew1 HB5.out) HB5.out.size ?hlD5 ?_);
          (case hlD5 => rw [HL5.out, HRH.out]; omega);
          intro v_6h w6h ho hb hg hat; have hg := grown_undrew hg;
          obtain ⟨A8, c8, rfl, _⟩ := OwnRow.slice_ ho;
          have HH6h := Lib.hid ho;
          have HB6h := Lib.hid hb;
          have HP6h := Lib.hid (OwnRow.other HP5.out hg (apart_type HP5.out HH5.out (by decide))); have HPB6h := Lib.hid (OwnRow.other HPB5.out hg (apart_type HPB5.out HH5.out (by decide)));
          have HN6h := Lib.hid (grown_blk hg HH5.out HN5.out (by decide));
          have m6_6h := blk_cell HN6h.out 6;
          simp at m6_6h;
          generalize hHL7 : (hds l ++ [h] ++ hds r).length = L7 at *;
          have HL7 := Lib.hid hHL7;
          clear ho hb hg hat hHL7))
      | (go_loud (
          (refine OwnRow.rows_step (R := fun p cs => cs = pc p) (w0 := W) (W := w6h) W.heap.size rfl (.tmp 96) (.tmp 97) 29 64 _ 2 16 rfl Try.underlying29 prInfo rfl (by decide) (by decide) _ _ (pairs l ++ [(k, v)]) (pairs r) (by rfl) (by rfl) pc_one HP6h.out (row_low HPB6h.out HB2.out.size) HB6h.out HB6h.out.size ?hlC6h ?_);
          (case hlC6h => rw [HL4.out, HRP.out]; omega);
          intro v_7 w7 ho hb hg hat;
          obtain ⟨A7, c7, rfl, _⟩ := OwnRow.slice_ ho;
          have HP7 := Lib.hid ho;
          have HB7 := Lib.hid hb;
          have HH7 := Lib.hid (OwnRow.other HH6h.out hg (apart_type HH6h.out HP6h.out (by decide)));
          have HN7 := Lib.hid (grown_blk hg HP6h.out HN6h.out (by decide));
          have m6_7 := blk_cell HN7.out 6;
          simp at m6_7;
          generalize hHL6 : (pairs l ++ [(k, v)] ++ pairs r).length = L6 at *;
          have HL6 := Lib.hid hHL6;
          clear ho hb hg hat hHL6))
      | (fail "no arm"))
    all_goals
      go_wp2
      go_returns
      exact ⟨_, _, rfl, pairs_node ▸ HP7.out, hds_node ▸ HH7.out, HB7.out⟩
  · have hmx : mx l.hi r.hi = l.hi := if_neg hlr
    have hsum : IntKind.i64.wrap (1 + l.hi) = 1 + l.hi := by rw [IntKind.wrap_i64]; omega
    have hq : (hi != 1 + l.hi) = false := by rw [bne_eq_false_iff_eq]; omega
    have hs1 : IntKind.i64.wrap (l.hi - r.hi) = l.hi - r.hi := by rw [IntKind.wrap_i64]; omega
    have hs2 : IntKind.i64.wrap (r.hi - l.hi) = r.hi - l.hi := by rw [IntKind.wrap_i64]; omega
    have hs3 : decide (1 < l.hi - r.hi) = false := decide_eq_false (by omega)
    have hs4 : decide (1 < r.hi - l.hi) = false := decide_eq_false (by omega)
    clear e hmx
    go_enter Try.func13, Try.ntmps13
    go_wp2_with (first
      | (go_at_call 18; go_loud (
          (with_reducible refine Calls.mono (HG.out _ (by repeat (first | exact Below.refl _ _ | apply below_drew1 | apply below_alloc | apply pw_below_drewN))) ?_);
          rintro e w1 ⟨rfl, hb⟩;
          have hx := blk_below (blk_new W (.cells #[.int .i64 h.s, .int .i64 h.g] 28 (0, 0))) hb;
          have HX1 := Lib.hid hx;
          have HB1 := Lib.hid ((below_alloc (Below.refl _ _) _).trans (hb.mono (by simp [World.size_alloc])) : Below W.heap.size W w1);
          clear hb hx))
      | (fail "no arm"))
    have HNV := Lib.hid (blk_new w1 (.cells #[.int .i64 k, .int .i64 v, .int .i64 l.h.s, .int .i64 l.h.g, .int .i64 r.h.s, .int .i64 r.h.g, .int .i64 hi] 44 (0, 0)))
    have HXV := Lib.hid (blk_below HX1.out (below_alloc (Below.refl _ _) (.cells #[.int .i64 k, .int .i64 v, .int .i64 l.h.s, .int .i64 l.h.g, .int .i64 r.h.s, .int .i64 r.h.g, .int .i64 hi] 44 (0, 0))))
    have HBV := Lib.hid (HB1.out.alloc (HB1.out.size) (.cells #[.int .i64 k, .int .i64 v, .int .i64 l.h.s, .int .i64 l.h.g, .int .i64 r.h.s, .int .i64 r.h.g, .int .i64 hi] 44 (0, 0)))
    generalize (w1.alloc (.cells #[.int .i64 k, .int .i64 v, .int .i64 l.h.s, .int .i64 l.h.g, .int .i64 r.h.s, .int .i64 r.h.g, .int .i64 hi] 44 (0, 0))) = V at *
    generalize hnb : w1.heap.size = nb at *
    clear hnb
    (with_reducible refine Calls.mono (HWL.out V HBV.out) ?_)
    rintro e2 w2 ⟨pa, ha, rfl, hop, hoh, hb2⟩
    obtain ⟨A1, c1, rfl, _⟩ := OwnRow.slice_ hop
    obtain ⟨A2, c2, rfl, _⟩ := OwnRow.slice_ hoh
    have HB2 := Lib.hid (HBV.out.trans (hb2.mono HBV.out.size))
    have HN2 := Lib.hid (blk_below HNV.out hb2)
    have HX2 := Lib.hid (blk_below HXV.out hb2)
    have HP2 := Lib.hid hop
    have HH2 := Lib.hid hoh
    have n4 := blk_cell HN2.out 4
    have n5 := blk_cell HN2.out 5
    simp at n4 n5
    clear hop hoh hb2
    generalize hlp : (pairs l).length = LP at *
    generalize hlh : (hds l).length = LH at *
    generalize hrp : (pairs r).length = RP at *
    generalize hrh : (hds r).length = RH at *
    have HRP := Lib.hid hrp
    have HRH := Lib.hid hrh
    have HLP := Lib.hid hlp
    have HLH := Lib.hid hlh
    clear hlp hlh hrp hrh
    go_wp2_with (first
      | (go_at_call 13; go_loud (
          (with_reducible refine Calls.mono (HWR.out _ HB2.out) ?_);
          rintro e3 w3 ⟨pb, hbv, rfl, hop, hoh, hb3⟩;
          obtain ⟨A3, c3, rfl, _⟩ := OwnRow.slice_ hop; rw [HRP.out] at hop;
          obtain ⟨A4, c4, rfl, _⟩ := OwnRow.slice_ hoh; rw [HRH.out] at hoh; simp only [HRP.out, HRH.out];
          have HB3 := Lib.hid (HB2.out.trans (hb3.mono HB2.out.size));
          have HN3 := Lib.hid (blk_below HN2.out hb3);
          have HX3 := Lib.hid (blk_below HX2.out hb3);
          have HP3 := Lib.hid (OwnRow.below HP2.out hb3);
          have HH3 := Lib.hid (OwnRow.below HH2.out hb3);
          have HPB := Lib.hid hop;
          have HHB := Lib.hid hoh;
          have HAP := Lib.hid (apart_of HP2.out hop (Nat.le_refl _)); have HAH := Lib.hid (apart_of HH2.out hoh (Nat.le_refl _)); have n0 := blk_cell HN3.out 0; have n1 := blk_cell HN3.out 1; have n6 := blk_cell HN3.out 6;
          have x0 := blk_cell HX3.out 0; have x1 := blk_cell HX3.out 1;
          simp at n0 n1 n6 x0 x1;
          clear hop hoh hb3))
      | (at_builtin; go_loud (
          (refine OwnRow.append (R := fun p cs => cs = pc p) (w0 := W) (W := w3) W.heap.size rfl (.tmp 84) (.tmp 90) 29 64 _ 2 16 rfl Try.underlying29 prInfo rfl (by decide) (by decide) _ (pairs l) (k, v) [.int .i64 k, .int .i64 v] (by rfl) (by simp [Act.eval]) rfl rfl (by simp [Value.oneCell']) (row_low HP3.out HBV.out.size) HB3.out HB3.out.size ?hlA ?_);
          (case hlA => rw [HLP.out]; omega);
          intro v4 w4 ho hb hg hat;
          obtain ⟨A5, c5, rfl, _⟩ := OwnRow.slice_ ho;
          have hz4 := hg.size;
          have HP4 := Lib.hid ho;
          have HB4 := Lib.hid hb;
          have HH4 := Lib.hid (OwnRow.other HH3.out hg (apart_type HH3.out HP3.out (by decide)));
          have HPB4 := Lib.hid (OwnRow.other HPB.out hg HAP.out);
          have HHB4 := Lib.hid (OwnRow.other HHB.out hg (apart_type HHB.out HP3.out (by decide)));
          have HAP4 := Lib.hid (apart_step HAP.out HPB.out hat);
          have HN4 := Lib.hid (grown_blk hg HP3.out HN3.out (by decide));
          have HX4 := Lib.hid (grown_blk hg HP3.out HX3.out (by decide));
          have x0 := blk_cell HX4.out 0; have x1 := blk_cell HX4.out 1;
          simp at x0 x1;
          generalize hL4 : (pairs l ++ [(k, v)]).length = L4 at *;
          have hL4b : L4 ≤ LP + 1 := (by rw [← hL4, List.length_append, List.length_singleton, HLP.out]; exact Nat.le_refl _); have HL4 := Lib.hid hL4;
          clear ho hb hg hat hL4))
      | (at_builtin; go_loud (
          (refine OwnRow.append (R := fun h cs => cs = hdC h) (w0 := W) (W := w4) W.heap.size rfl (.tmp 92) (.tmp 94) 32 28 _ 2 16 rfl Try.underlying32 hdInfo rfl (by decide) (by decide) _ (hds l) h [.int .i64 h.s, .int .i64 h.g] (by rfl) (by simp [Act.eval]) rfl rfl (by simp [Value.oneCell']) (row_low HH4.out HBV.out.size) HB4.out HB4.out.size ?hlB ?_);
          (case hlB => rw [HLH.out]; omega);
          intro v5 w5 ho hb hg hat;
          obtain ⟨A6, c6, rfl, _⟩ := OwnRow.slice_ ho;
          have hz5 := hg.size;
          have HH5 := Lib.hid ho;
          have HB5 := Lib.hid hb;
          have HP5 := Lib.hid (OwnRow.other HP4.out hg (apart_type HP4.out HH4.out (by decide)));
          have HPB5 := Lib.hid (OwnRow.other HPB4.out hg (apart_type HPB4.out HH4.out (by decide)));
          have HHB5 := Lib.hid (OwnRow.other HHB4.out hg HAH.out);
          have HAH5 := Lib.hid (apart_step HAH.out HHB4.out hat);
          have HN5 := Lib.hid (grown_blk hg HH4.out HN4.out (by decide));
          have nn6 := blk_cell HN5.out 6;
          simp at nn6;
          generalize hL5 : (hds l ++ [h]).length = L5 at *;
          have hL5b : L5 ≤ LH + 1 := (by rw [← hL5, List.length_append, List.length_singleton, HLH.out]; exact Nat.le_refl _); have HL5 := Lib.hid hL5;
          clear ho hb hg hat hL5))
      | (fail "no arm"))
    go_region_law (first
      | (go_loud (
          (refine OwnRow.rows_step (R := fun p cs => cs = pc p) (w0 := W) (W := w5.drew) W.heap.size rfl (.tmp 96) (.tmp 97) 29 64 _ 2 16 rfl Try.underlying29 prInfo rfl (by decide) (by decide) _ _ (pairs l ++ [(k, v)]) (pairs r) (by rfl) (by rfl) pc_one HP5.out (row_low HPB5.out HB2.out.size) (below_drew1 HB5.out) HB5.out.size ?hlC5 ?_);
          (case hlC5 => rw [HL4.out, HRP.out]; omega);
          intro v_6p w6p ho hb hg hat; have hg := grown_undrew hg;
          obtain ⟨A7, c7, rfl, _⟩ := OwnRow.slice_ ho;
          have HP6p := Lib.hid ho;
          have HB6p := Lib.hid hb;
          have HH6p := Lib.hid (OwnRow.other HH5.out hg (apart_type HH5.out HP5.out (by decide))); have HHB6p := Lib.hid (OwnRow.other HHB5.out hg (apart_type HHB5.out HP5.out (by decide)));
          have HN6p := Lib.hid (grown_blk hg HP5.out HN5.out (by decide));
          have m6_6p := blk_cell HN6p.out 6;
          simp at m6_6p;
          generalize hHL6 : (pairs l ++ [(k, v)] ++ pairs r).length = L6 at *;
          have HL6 := Lib.hid hHL6;
          clear ho hb hg hat hHL6))
      | (go_loud (
          (refine OwnRow.rows_step (R := fun h cs => cs = hdC h) (w0 := W) (W := w6p) W.heap.size rfl (.tmp 99) (.tmp 100) 32 28 _ 2 16 rfl Try.underlying32 hdInfo rfl (by decide) (by decide) _ _ (hds l ++ [h]) (hds r) (by rfl) (by rfl) hc_one HH6p.out (row_low HHB6p.out HB2.out.size) HB6p.out HB6p.out.size ?hlD6p ?_);
          (case hlD6p => rw [HL5.out, HRH.out]; omega);
          intro v_7 w7 ho hb hg hat;
          obtain ⟨A8, c8, rfl, _⟩ := OwnRow.slice_ ho;
          have HH7 := Lib.hid ho;
          have HB7 := Lib.hid hb;
          have HP7 := Lib.hid (OwnRow.other HP6p.out hg (apart_type HP6p.out HH6p.out (by decide)));
          have HN7 := Lib.hid (grown_blk hg HH6p.out HN6p.out (by decide));
          have m6_7 := blk_cell HN7.out 6;
          simp at m6_7;
          generalize hHL7 : (hds l ++ [h] ++ hds r).length = L7 at *;
          have HL7 := Lib.hid hHL7;
          clear ho hb hg hat hHL7))
      | (go_loud (
          (refine OwnRow.rows_step (R := fun h cs => cs = hdC h) (w0 := W) (W := w5.drew) W.heap.size rfl (.tmp 99) (.tmp 100) 32 28 _ 2 16 rfl Try.underlying32 hdInfo rfl (by decide) (by decide) _ _ (hds l ++ [h]) (hds r) (by rfl) (by rfl) hc_one HH5.out (row_low HHB5.out HB2.out.size) (below_drew1 HB5.out) HB5.out.size ?hlD5 ?_);
          (case hlD5 => rw [HL5.out, HRH.out]; omega);
          intro v_6h w6h ho hb hg hat; have hg := grown_undrew hg;
          obtain ⟨A8, c8, rfl, _⟩ := OwnRow.slice_ ho;
          have HH6h := Lib.hid ho;
          have HB6h := Lib.hid hb;
          have HP6h := Lib.hid (OwnRow.other HP5.out hg (apart_type HP5.out HH5.out (by decide))); have HPB6h := Lib.hid (OwnRow.other HPB5.out hg (apart_type HPB5.out HH5.out (by decide)));
          have HN6h := Lib.hid (grown_blk hg HH5.out HN5.out (by decide));
          have m6_6h := blk_cell HN6h.out 6;
          simp at m6_6h;
          generalize hHL7 : (hds l ++ [h] ++ hds r).length = L7 at *;
          have HL7 := Lib.hid hHL7;
          clear ho hb hg hat hHL7))
      | (go_loud (
          (refine OwnRow.rows_step (R := fun p cs => cs = pc p) (w0 := W) (W := w6h) W.heap.size rfl (.tmp 96) (.tmp 97) 29 64 _ 2 16 rfl Try.underlying29 prInfo rfl (by decide) (by decide) _ _ (pairs l ++ [(k, v)]) (pairs r) (by rfl) (by rfl) pc_one HP6h.out (row_low HPB6h.out HB2.out.size) HB6h.out HB6h.out.size ?hlC6h ?_);
          (case hlC6h => rw [HL4.out, HRP.out]; omega);
          intro v_7 w7 ho hb hg hat;
          obtain ⟨A7, c7, rfl, _⟩ := OwnRow.slice_ ho;
          have HP7 := Lib.hid ho;
          have HB7 := Lib.hid hb;
          have HH7 := Lib.hid (OwnRow.other HH6h.out hg (apart_type HH6h.out HP6h.out (by decide)));
          have HN7 := Lib.hid (grown_blk hg HP6h.out HN6h.out (by decide));
          have m6_7 := blk_cell HN7.out 6;
          simp at m6_7;
          generalize hHL6 : (pairs l ++ [(k, v)] ++ pairs r).length = L6 at *;
          have HL6 := Lib.hid hHL6;
          clear ho hb hg hat hHL6))
      | (fail "no arm"))
    all_goals
      go_wp2
      go_returns
      exact ⟨_, _, rfl, pairs_node ▸ HP7.out, hds_node ▸ HH7.out, HB7.out⟩
theorem walk_calls (w0 : World) (B m aa : Nat) (a : Ar N2) : ∀ t : T2, WalkSays w0 B m aa a t
  | .leaf => walk_leaf w0 B m aa a
  | .node h k v l r hi => walk_node w0 B m aa a h k v l r hi (walk_calls w0 B m aa a l) (walk_calls w0 B m aa a r)
end Go.Proofs.Ytmhfbpdahfepgaa.Pm
/- Package arena's and pmap's New. -/
namespace Go.Proofs.Ytmhfbpdahfepgaa.Pm
open Go.RowKit Go.Proofs.YtmhfbpdahfepgaaW.PrintWords
theorem anew_ok (W : World) (n : Nat) (hn : n ≤ 1048576) : Calls Try.prog 29 #[.int .i64 n] W fun e w' => e = .returned (.pointer (some ⟨W.heap.size, 0, none⟩)) ∧ w' = W.alloc (.cells #[.int .i64 n, .slice none 0 0, .slice none 0 0] 84 (0, 0)) := by
  have h1 : decide ((n : Int) < 0) = false := decide_eq_false (by omega)
  have h2 : decide ((1048576 : Int) < (n : Int)) = false := decide_eq_false (by omega)
  have h3 : ¬ (n : Int) < 0 := by omega
  have h4 : ¬ (1048576 : Int) < (n : Int) := by omega
  go_enter Try.func29, Try.ntmps29
  go_wp2
  go_ret
  exact ⟨rfl, rfl⟩
theorem anew_no (W : World) (n : Int) (hn : n < 0 ∨ 1048576 < n) : Calls Try.prog 29 #[.int .i64 n] W fun e w' => e = .returned (.pointer none) ∧ Below W.heap.size W w' := by
  by_cases h3 : n < 0
  · have h1 : decide (n < 0) = true := decide_eq_true h3
    go_enter Try.func29, Try.ntmps29
    go_wp2
    go_ret
    exact ⟨rfl, (by repeat (first | exact Below.refl _ _ | apply below_drew1 | apply below_alloc | apply pw_below_drewN))⟩
  · have h4 : 1048576 < n := by omega
    have h1 : decide (n < 0) = false := decide_eq_false h3
    have h2 : decide (1048576 < n) = true := decide_eq_true h4
    go_enter Try.func29, Try.ntmps29
    go_wp2
    go_ret
    exact ⟨rfl, (by repeat (first | exact Below.refl _ _ | apply below_drew1 | apply below_alloc | apply pw_below_drewN))⟩
theorem eqFn (w : World) (f : Fn) : (Go.binOp .eql 26 (.func f #[] #[]) .nilFunc).run Try.prog w = .ok (.bool false) w := by
  first | rfl | kernel_rfl | (simp [Go.binOp, Op.equal]; trace_state; done)
theorem eqFnNil (w : World) : (Go.binOp .eql 26 .nilFunc .nilFunc).run Try.prog w = .ok (.bool true) w := by
  first | rfl | kernel_rfl | (simp [Go.binOp, Op.equal]; trace_state; done)
attribute [local go_sem high] eqFn eqFnNil
def arNew (n : Nat) : Ar N2 := ⟨n, [], []⟩
theorem arNew_ok (n : Nat) (hn : n ≤ 1048576) : ArOk 0 (arNew n) := ⟨⟨hn, Nat.zero_le _, Nat.zero_le _⟩, by simp [arNew], by simp [arNew], by simp [arNew]⟩
theorem arNew_room (n : Nat) : (arNew n).room = n := by simp [arNew, Ar.room]
set_option maxRecDepth 100000 in
theorem pnew_ok (w0 W : World) (B n : Nat) (hb : Below B w0 W) (hB : B ≤ W.heap.size) (hn : n ≤ 1048576) : Calls Try.prog 10 #[.int .i64 n, cmpF] W fun e w' => (∃ m aa, e = .returned (.pointer (some ⟨m, 0, none⟩)) ∧ MapB w0 w' B m aa (arNew n)) ∧ Below W.heap.size W w' := by
  have HA := Lib.hid (fun (V : World) => anew_ok V n hn)
  have HBB := Lib.hid hb
  clear hb hn
  simp only [cmpF]
  go_enter Try.func10, Try.ntmps10
  go_wp2_with (first
    | (go_at_call 29; go_loud ((with_reducible refine Calls.mono (HA.out _) ?_); rintro e w1 ⟨rfl, rfl⟩))
    | (fail "no arm"))
  go_ret
  have hb2 : Below W.heap.size W ((W.alloc (.cells #[.int .i64 n, .slice none 0 0, .slice none 0 0] 84 (0, 0))).alloc (.cells #[.pointer (some ⟨W.heap.size, 0, none⟩), .func (.func 11) #[] #[]] 70 (0, 0))) := (by repeat (first | exact Below.refl _ _ | apply below_drew1 | apply below_alloc | apply pw_below_drewN))
  exact ⟨⟨W.heap.size + 1, W.heap.size, by first | rfl | (rw [World.size_alloc]), ⟨_, _, ⟨HBB.out.trans (hb2.mono hB), Nat.le_trans hB hb2.size, hB, blk_alloc (blk_new _ _) _, OwnRow.none_ _ _ _ _ _, own_nil _ _ _ _⟩⟩, alloc_at (by rw [World.size_alloc]), Nat.le_succ_of_le hB⟩, hb2⟩
set_option maxRecDepth 100000 in
theorem pnew_no (W : World) (n : Int) (v : Value) (hv : v = cmpF ∨ v = .nilFunc) (hn : n < 0 ∨ 1048576 < n) : Calls Try.prog 10 #[.int .i64 n, v] W fun e w' => e = .returned (.pointer none) ∧ Below W.heap.size W w' := by
  have HA := Lib.hid (fun (V : World) => anew_no V n hn)
  clear hn
  rcases hv with rfl | rfl
  · simp only [cmpF]
    go_enter Try.func10, Try.ntmps10
    go_wp2_with (first
      | (go_at_call 29; go_loud ((with_reducible refine Calls.mono (HA.out _) ?_); rintro e w1 ⟨rfl, hb⟩; have HB1 := Lib.hid hb; clear hb))
      | (fail "no arm"))
    go_ret
    exact ⟨rfl, HB1.out⟩
  · go_enter Try.func10, Try.ntmps10
    go_wp2_with (first
      | (go_at_call 29; go_loud ((with_reducible refine Calls.mono (HA.out _) ?_); rintro e w1 ⟨rfl, hb⟩; have HB1 := Lib.hid hb; clear hb))
      | (fail "no arm"))
    go_ret
    exact ⟨rfl, HB1.out⟩
set_option maxRecDepth 100000 in
theorem pnew_nil (W : World) (n : Nat) (hn : n ≤ 1048576) : Calls Try.prog 10 #[.int .i64 n, .nilFunc] W fun e w' => e = .returned (.pointer none) ∧ Below W.heap.size W w' := by
  have HA := Lib.hid (fun (V : World) => anew_ok V n hn)
  clear hn
  go_enter Try.func10, Try.ntmps10
  go_wp2_with (first
    | (go_at_call 29; go_loud ((with_reducible refine Calls.mono (HA.out _) ?_); rintro e w1 ⟨rfl, rfl⟩))
    | (fail "no arm"))
  go_ret
  exact ⟨rfl, (by repeat (first | exact Below.refl _ _ | apply below_drew1 | apply below_alloc | apply pw_below_drewN))⟩
end Go.Proofs.Ytmhfbpdahfepgaa.Pm
/- Package arena and pmap's store: plain laws. What lies where, which handles are new, which are gone. -/
namespace Go.Proofs.Ytmhfbpdahfepgaa.Pm
open Go.RowKit Go.Proofs.YtmhfbpdahfepgaaW.PrintWords

theorem get_eq (a : Ar N2) (h : Hd) : a.get h = if hh : 1 ≤ h.s ∧ h.s ≤ a.slots.length then (if (a.slots[(h.s - 1).toNat]'(by omega)).used && (a.slots[(h.s - 1).toNat]'(by omega)).gen == h.g then some (a.slots[(h.s - 1).toNat]'(by omega)).x else none) else none := by
  unfold Ar.get Ar.slot?
  by_cases hh : 1 ≤ h.s ∧ h.s ≤ a.slots.length
  · rw [if_pos hh, dif_pos hh, List.getElem?_eq_getElem (by omega)]
    simp only [Option.bind_some]
    split <;> rfl
  · rw [if_neg hh, dif_neg hh]; rfl
theorem hd_ext {x y : Hd} (h1 : x.s = y.s) (h2 : x.g = y.g) : x = y := by obtain ⟨s, g⟩ := x; obtain ⟨s', g'⟩ := y; simp at h1 h2; rw [h1, h2]
theorem put_get {G : Nat} {a : Ar N2} {x : N2} (ok : ArOk G a) (h : Hd) : (a.put nd0 x).1.get h = if h = (a.put nd0 x).2 then some x else a.get h := by
  rcases List.eq_nil_or_concat a.free with hf | ⟨fs, i, hf⟩
  · rw [put_free_nil hf, get_eq, get_eq]
    simp only [List.length_append, List.length_singleton]
    by_cases hh : 1 ≤ h.s ∧ h.s ≤ ((a.slots.length + 1 : Nat) : Int)
    · rw [dif_pos hh]
      by_cases hl : h.s ≤ a.slots.length
      · rw [dif_pos ⟨hh.1, hl⟩]
        have hne : ¬ h = (⟨(a.slots.length : Int) + 1, 1⟩ : Hd) := fun e => by rw [e] at hl; dsimp only at hl; omega
        rw [if_neg hne]
        simp only [List.getElem_append_left (show (h.s - 1).toNat < a.slots.length by omega)]
      · rw [dif_neg (show ¬ (1 ≤ h.s ∧ h.s ≤ a.slots.length) by omega)]
        have e : (h.s - 1).toNat = a.slots.length := by omega
        simp only [e, List.getElem_concat_length, Bool.true_and, beq_iff_eq]
        by_cases hg : (1 : Int) = h.g
        · rw [if_pos hg, if_pos (hd_ext (by dsimp only; omega) hg.symm)]
        · rw [if_neg hg, if_neg (fun e => hg (by rw [e]))]
    · rw [dif_neg hh, if_neg (fun e => hh (by rw [e]; dsimp only; omega)), dif_neg (by omega)]
  · rw [List.concat_eq_append] at hf
    obtain ⟨i1, i2, i3⟩ := ok.free i (by rw [hf]; simp)
    rw [put_free_snoc hf, get_eq, get_eq]
    have hj : (i - 1).toNat < a.slots.length := by omega
    have hd : a.slots.getD (i - 1).toNat ⟨0, false, nd0⟩ = a.slots[(i - 1).toNat] := by rw [List.getD_eq_getElem?_getD, List.getElem?_eq_getElem hj]; rfl
    rw [hd] at i3 ⊢
    simp only [List.length_set]
    by_cases hh : 1 ≤ h.s ∧ h.s ≤ a.slots.length
    · rw [dif_pos hh, dif_pos hh]
      by_cases e : h.s = i
      · have e' : (h.s - 1).toNat = (i - 1).toNat := by omega
        simp only [e', List.getElem_set_self, i3, Bool.false_and, Bool.true_and, beq_iff_eq]
        by_cases hg : a.slots[(i - 1).toNat].gen + 1 = h.g
        · rw [if_pos hg, if_pos (hd_ext e hg.symm)]
        · rw [if_neg hg, if_neg (fun e => hg (by rw [e]))]
          rfl
      · have e' : (i - 1).toNat ≠ (h.s - 1).toNat := by omega
        simp only [List.getElem_set_ne e']
        have hne : ¬ h = (⟨i, a.slots[(i - 1).toNat].gen + 1⟩ : Hd) := fun e2 => e (by rw [e2])
        rw [if_neg hne]
    · rw [dif_neg hh, dif_neg hh, if_neg (fun e => hh (by rw [e]; exact ⟨i1, i2⟩))]
theorem put_fresh {G : Nat} {a : Ar N2} {x : N2} (ok : ArOk G a) : a.get (a.put nd0 x).2 = none := by
  rcases List.eq_nil_or_concat a.free with hf | ⟨fs, i, hf⟩
  · rw [put_free_nil hf, get_eq, dif_neg (by simp; omega)]
  · rw [List.concat_eq_append] at hf
    obtain ⟨i1, i2, i3⟩ := ok.free i (by rw [hf]; simp)
    rw [put_free_snoc hf, get_eq]
    have hj : (i - 1).toNat < a.slots.length := by omega
    have hd : a.slots.getD (i - 1).toNat ⟨0, false, nd0⟩ = a.slots[(i - 1).toNat] := by rw [List.getD_eq_getElem?_getD, List.getElem?_eq_getElem hj]; rfl
    rw [hd] at i3
    rw [dif_pos ⟨i1, i2⟩]
    simp only [i3, Bool.false_and]
    rfl
theorem del_get {a : Ar N2} {h : Hd} (hh : (a.get h).isSome = true) (h' : Hd) : (a.del nd0 h).get h' = if h' = h then none else a.get h' := by
  unfold Ar.get at hh
  rw [Option.isSome_map] at hh
  obtain ⟨s, hs⟩ := Option.isSome_iff_exists.mp hh
  obtain ⟨j, hj, e1, e2, e3, e4⟩ := slot_at hs
  rw [del_some hs, get_eq, get_eq]
  simp only [List.length_set]
  have ej : (h.s - 1).toNat = j := by omega
  by_cases hc : 1 ≤ h'.s ∧ h'.s ≤ a.slots.length
  · rw [dif_pos hc, dif_pos hc]
    by_cases e : h'.s = h.s
    · have e' : (h'.s - 1).toNat = (h.s - 1).toNat := by omega
      simp only [e', List.getElem_set_self, Bool.false_and]
      by_cases he : h' = h
      · rw [if_pos he]; rfl
      · have hn : ¬ (a.slots[(h.s - 1).toNat]'(by omega)).gen = h'.g := fun hg => he (hd_ext e (by rw [← hg]; simp only [ej, e2, e4]))
        have hb : ((a.slots[(h.s - 1).toNat]'(by omega)).used && (a.slots[(h.s - 1).toNat]'(by omega)).gen == h'.g) = false := by
          rw [Bool.and_eq_false_iff]; right; rw [beq_eq_false_iff_ne]; exact hn
        rw [hb, if_neg he]; rfl
    · have e' : (h.s - 1).toNat ≠ (h'.s - 1).toNat := by omega
      simp only [List.getElem_set_ne e']
      have hne : ¬ h' = h := fun e2 => e (by rw [e2])
      rw [if_neg hne]
  · rw [dif_neg hc, dif_neg hc]; split <;> rfl
/-! ### Nodes that lie there, and new ones -/
/-- A tree that is made: its new nodes have no handles, what is below an old one lies in the arena. -/
def Half (a : Ar N2) : T2 → Prop
  | .leaf => True
  | .node h k v l r hi => (h = H0 ∧ Half a l ∧ Half a r) ∨ Lies a (.node h k v l r hi)
theorem Half.of_lies {a : Ar N2} : ∀ {t : T2}, Lies a t → Half a t
  | .leaf, _ => trivial
  | .node .., h => .inr h
theorem Half.sub {a : Ar N2} {h : Hd} {k v : Int} {l r : T2} {hi : Int} (H : Half a (.node h k v l r hi)) : Half a l ∧ Half a r := by
  rcases H with ⟨_, h1, h2⟩ | ⟨_, _, h1, h2⟩
  · exact ⟨h1, h2⟩
  · exact ⟨Half.of_lies h1, Half.of_lies h2⟩
theorem Half.mk {a : Ar N2} {k v : Int} {l r : T2} (hl : Half a l) (hr : Half a r) : Half a (Pm.mk k v l r) := .inl ⟨rfl, hl, hr⟩
theorem bal_half {a : Ar N2} {oh : Hd} {ok ov : Int} {l r : T2} (hl : Half a l) (hr : Half a r) : Half a (bal oh ok ov l r).1 := by
  unfold bal
  split
  · cases l with
    | leaf => exact Half.mk hl hr
    | node lh lk lv ll lr lhi =>
      obtain ⟨h1, h2⟩ := hl.sub
      unfold fromL
      by_cases hc : lr.hi ≤ ll.hi
      · simp only [hc, if_true]; exact Half.mk h1 (Half.mk h2 hr)
      · simp only [hc, if_false]
        cases lr with
        | leaf => exact Half.mk hl hr
        | node mh mkk mv ml mr mhi => exact Half.mk (Half.mk h1 h2.sub.1) (Half.mk h2.sub.2 hr)
  · split
    · cases r with
      | leaf => exact Half.mk hl hr
      | node rh rk rv rl rr rhi =>
        obtain ⟨h1, h2⟩ := hr.sub
        unfold fromR
        by_cases hc : rl.hi ≤ rr.hi
        · simp only [hc, if_true]; exact Half.mk (Half.mk hl h1) h2
        · simp only [hc, if_false]
          cases rl with
          | leaf => exact Half.mk hl hr
          | node mh mkk mv ml mr mhi => exact Half.mk (Half.mk hl h1.sub.1) (Half.mk h1.sub.2 h2)
    · exact Half.mk hl hr
theorem tput_half {a : Ar N2} (cmp : Int → Int → Int) (k v : Int) : ∀ t : T2, Lies a t → Half a (tput cmp t k v).1
  | .leaf, _ => .inl ⟨rfl, trivial, trivial⟩
  | .node h k' v' l r hi, hl => by
    obtain ⟨_, _, h1, h2⟩ := hl
    rw [tput]
    split
    · exact bal_half (tput_half cmp k v l h1) (Half.of_lies h2)
    · split
      · exact bal_half (Half.of_lies h1) (tput_half cmp k v r h2)
      · exact .inl ⟨rfl, Half.of_lies h1, Half.of_lies h2⟩
theorem tleast_half {a : Ar N2} : ∀ (l : T2) (h : Hd) (k v : Int) (r : T2), Lies a l → Lies a r → Half a (tleast h k v l r).2.1
  | .leaf, h, k, v, r, _, h2 => Half.of_lies h2
  | .node h' k' v' l' r' hi', h, k, v, r, h1, h2 => by
    rw [tleast]
    exact bal_half (tleast_half l' h' k' v' r' h1.2.2.1 h1.2.2.2) (Half.of_lies h2)
theorem tdel_half {a : Ar N2} (cmp : Int → Int → Int) (k : Int) : ∀ t : T2, Lies a t → Half a (tdel cmp t k).1
  | .leaf, _ => trivial
  | .node h k' v' l r hi, hl => by
    obtain ⟨_, _, hl1, hl2⟩ := hl
    by_cases h1 : cmp k k' < 0
    · rw [tdel_lt h1]; exact bal_half (tdel_half cmp k l hl1) (Half.of_lies hl2)
    · by_cases h2 : 0 < cmp k k'
      · rw [tdel_gt h1 h2]; exact bal_half (Half.of_lies hl1) (tdel_half cmp k r hl2)
      · cases l with
        | leaf => rw [tdel_l h1 h2]; exact Half.of_lies hl2
        | node lh lk lv ll lr lhi =>
          cases r with
          | leaf => rw [tdel_r h1 h2]; exact Half.of_lies hl1
          | node rh rk rv rl rr rhi => rw [tdel_m h1 h2]; exact bal_half (Half.of_lies hl1) (tleast_half rl rh rk rv rr hl2.2.2.1 hl2.2.2.2)
/-! ### How many are new -/
theorem lies_fresh {a : Ar N2} : ∀ {t : T2}, Lies a t → fresh t = 0
  | .leaf, _ => rfl
  | .node h k v l r hi, H => by rw [fresh, if_neg H.1]
theorem half_fresh {a : Ar N2} {h : Hd} {k v : Int} {l r : T2} {hi : Int} (H : Half a (.node h k v l r hi)) : fresh l + fresh r ≤ fresh (.node h k v l r hi : T2) := by
  rcases H with ⟨rfl, _, _⟩ | ⟨_, _, h1, h2⟩
  · rw [fresh, if_pos rfl]; omega
  · rw [lies_fresh h1, lies_fresh h2]; omega
theorem fresh_mk {k v : Int} {l r : T2} : fresh (mk k v l r) = 1 + fresh l + fresh r := if_pos rfl
theorem bal_fresh {a : Ar N2} {oh : Hd} {ok ov : Int} {l r : T2} (hl : Half a l) (hr : Half a r) : fresh (bal oh ok ov l r).1 ≤ fresh l + fresh r + 3 := by
  unfold bal
  split
  · cases l with
    | leaf => show fresh (mk ok ov .leaf r) ≤ _; rw [fresh_mk]; omega
    | node lh lk lv ll lr lhi =>
      have f1 := half_fresh hl
      unfold fromL
      by_cases hc : lr.hi ≤ ll.hi
      · simp only [hc, if_true, fresh_mk]; omega
      · simp only [hc, if_false]
        cases lr with
        | leaf => simp only [fresh_mk]; omega
        | node mh mkk mv ml mr mhi =>
          have f2 := half_fresh hl.sub.2
          simp only [fresh_mk]; omega
  · split
    · cases r with
      | leaf => show fresh (mk ok ov l .leaf) ≤ _; rw [fresh_mk]; omega
      | node rh rk rv rl rr rhi =>
        have f1 := half_fresh hr
        unfold fromR
        by_cases hc : rl.hi ≤ rr.hi
        · simp only [hc, if_true, fresh_mk]; omega
        · simp only [hc, if_false]
          cases rl with
          | leaf => simp only [fresh_mk]; omega
          | node mh mkk mv ml mr mhi =>
            have f2 := half_fresh hr.sub.1
            simp only [fresh_mk]; omega
    · simp only [fresh_mk]; omega
theorem tput_fresh {a : Ar N2} (cmp : Int → Int → Int) (k v : Int) : ∀ t : T2, Lies a t → Avl t → (fresh (tput cmp t k v).1 : Int) ≤ 3 * t.hi + 1
  | .leaf, _, _ => by show ((1 + fresh (.leaf : T2) + fresh (.leaf : T2) : Nat) : Int) ≤ 3 * 0 + 1; simp [fresh]
  | .node h k' v' l r hi, hl, av => by
    obtain ⟨_, _, h1, h2⟩ := hl
    obtain ⟨e, a1, a2, al, ar⟩ := av
    have m0 := mx_le l.hi r.hi
    have l0 := al.nonneg
    have r0 := ar.nonneg
    have hh : (T.node h k' v' l r hi).hi = hi := rfl
    rw [hh, tput]
    split
    · have i := tput_fresh cmp k v l h1 al
      have b := bal_fresh (oh := h) (ok := k') (ov := v') (tput_half cmp k v l h1) (Half.of_lies h2)
      rw [lies_fresh h2] at b
      dsimp only; omega
    · split
      · have i := tput_fresh cmp k v r h2 ar
        have b := bal_fresh (oh := h) (ok := k') (ov := v') (Half.of_lies h1) (tput_half cmp k v r h2)
        rw [lies_fresh h1] at b
        dsimp only; omega
      · show ((if H0 = H0 then 1 + fresh l + fresh r else 0 : Nat) : Int) ≤ _
        rw [if_pos rfl, lies_fresh h1, lies_fresh h2]; omega
theorem tleast_fresh {a : Ar N2} : ∀ (l : T2) (h : Hd) (k v : Int) (r : T2) (hi : Int), Lies a l → Lies a r → Avl (.node h k v l r hi) → (fresh (tleast h k v l r).2.1 : Int) ≤ 3 * hi
  | .leaf, h, k, v, r, hi, _, h2, av => by
    have := av.pos
    rw [tleast]; dsimp only; rw [lies_fresh h2]; omega
  | .node h' k' v' l' r' hi', h, k, v, r, hi, h1, h2, av => by
    obtain ⟨e, a1, a2, al, ar⟩ := av
    have m0 := mx_le (T.node h' k' v' l' r' hi').hi r.hi
    have hh : (T.node h' k' v' l' r' hi').hi = hi' := rfl
    have i := tleast_fresh l' h' k' v' r' hi' h1.2.2.1 h1.2.2.2 al
    have b := bal_fresh (oh := h) (ok := k) (ov := v) (tleast_half l' h' k' v' r' h1.2.2.1 h1.2.2.2) (Half.of_lies h2)
    rw [lies_fresh h2] at b
    rw [tleast]
    dsimp only; omega
theorem tdel_fresh {a : Ar N2} (cmp : Int → Int → Int) (k : Int) : ∀ t : T2, Lies a t → Avl t → (fresh (tdel cmp t k).1 : Int) ≤ 3 * t.hi
  | .leaf, _, _ => by show ((fresh (.leaf : T2) : Nat) : Int) ≤ 3 * 0; simp [fresh]
  | .node h k' v' l r hi, hl, av => by
    obtain ⟨_, _, hl1, hl2⟩ := hl
    obtain ⟨e, a1, a2, al, ar⟩ := av
    have m0 := mx_le l.hi r.hi
    have l0 := al.nonneg
    have r0 := ar.nonneg
    have hh : (T.node h k' v' l r hi).hi = hi := rfl
    rw [hh]
    by_cases h1 : cmp k k' < 0
    · rw [tdel_lt h1]
      have i := tdel_fresh cmp k l hl1 al
      have b := bal_fresh (oh := h) (ok := k') (ov := v') (tdel_half cmp k l hl1) (Half.of_lies hl2)
      rw [lies_fresh hl2] at b
      dsimp only; omega
    · by_cases h2 : 0 < cmp k k'
      · rw [tdel_gt h1 h2]
        have i := tdel_fresh cmp k r hl2 ar
        have b := bal_fresh (oh := h) (ok := k') (ov := v') (Half.of_lies hl1) (tdel_half cmp k r hl2)
        rw [lies_fresh hl1] at b
        dsimp only; omega
      · cases l with
        | leaf => rw [tdel_l h1 h2]; dsimp only; rw [lies_fresh hl2]; omega
        | node lh lk lv ll lr lhi =>
          cases r with
          | leaf => rw [tdel_r h1 h2]; dsimp only; rw [lies_fresh hl1]; omega
          | node rh rk rv rl rr rhi =>
            rw [tdel_m h1 h2]
            have i := tleast_fresh rl rh rk rv rr rhi hl2.2.2.1 hl2.2.2.2 ar
            have b := bal_fresh (oh := (tleast rh rk rv rl rr).1.1) (ok := (tleast rh rk rv rl rr).1.2.1) (ov := (tleast rh rk rv rl rr).1.2.2) (Half.of_lies hl1) (tleast_half rl rh rk rv rr hl2.2.2.1 hl2.2.2.2)
            rw [lies_fresh hl1] at b
            have hr : (T.node rh rk rv rl rr rhi).hi = rhi := rfl
            dsimp only; omega
end Go.Proofs.Ytmhfbpdahfepgaa.Pm
