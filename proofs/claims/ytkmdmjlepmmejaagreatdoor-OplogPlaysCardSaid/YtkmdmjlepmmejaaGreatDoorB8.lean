/-
  Put: what is new of a batch, collected; What a batch does, as the laws need it; what the chapter's example comes to; The chapter's example (logs): what awake answers; Opening arguments of plain data, whatever their make: what a reading's cells say, kind by kind; A small operation as an argument
-/
import Derived.Test.YtkmdmjlepmmejaaGreatDoorB7
import Derived.RangeFuncWrites
import Derived.Maps.AppendAt
import Derived.Maps.OwnIn
import Derived.Test.YtkmdmjlepmmejaaGreatDoorWWords
import Derived.ProofKit
import Derived.OpenShut
import Derived.ChangeArms
/- Put: what is new of a batch, collected. -/
namespace Go.Proofs.YtkmdmjlepmmejaaGreatDoor.Ol
open Go.RowKit Go.Sort Go.Proofs.YtkmdmjlepmmejaaGreatDoorW.PrintWords Tr
attribute [local go_sem] Oper.semAt_some
attribute [local go_sem high] eqSpot

theorem fresh_stops (m : Nat) (hm : 1 ≤ m) (n₀ B0 Ob Lb p : Nat) (F : Nat → Prop) (most : Int) (l ops : List OpR) (A : Option Addr) (n c : Nat) (w : World)
    (H : LogAt w F p most l) (hF : ∀ b, F b → b < n₀) (hn₀ : n₀ ≤ w.heap.size) (hB0 : B0 < w.heap.size) (hbox : w.cell? ⟨B0, 0, none⟩ = some (.slice none 0 0)) (hOb : w.cell? ⟨Ob, 0, none⟩ = some (.slice A n c))
    (hLb : w.cell? ⟨Lb, 0, none⟩ = some (.pointer (some ⟨p, 0, none⟩))) (hne : Lb ≠ B0) (ho : OpsAt w A n ops) (ha : AscO l) (hl : l.length ≤ 1000000) (hn : n ≤ 1000000) :
    SeqStopsK Fence.wide m Tryz.prog 57 #[.pointer (some ⟨Ob, 0, none⟩), .pointer (some ⟨Lb, 0, none⟩)] (fun x : OpR => #[opV x]) (KpF n₀ B0) (fun ys => ys = newOf l ops) (fun _ => True) (newOf l ops).length w := fun lp J Jx W hW hJ _ hY h0 =>
  iter_in m hm lp n₀ B0 Ob Lb p F most l ops A n c J Jx W hJ hY (H.below hW) hF (Nat.le_trans hn₀ hW.size) (Nat.lt_of_lt_of_le hB0 hW.size) ((hW.cell (p := ⟨B0, 0, none⟩) hB0).trans hbox) ((hW.cell (p := ⟨Ob, 0, none⟩) (cell_lt hOb)).trans hOb)
    ((hW.cell (p := ⟨Lb, 0, none⟩) (cell_lt hLb)).trans hLb) hne (ho.below hW) ha hl hn h0
theorem kpf_put {V w2 : World} {B0 g m c : Nat} {T : TypeId} {v : Value} {o' : Obj} (hv : Boxed V B0 T v) (hb : Below B0 V (w2.setCell ⟨B0, 0, none⟩ (.slice (some ⟨g, 0, none⟩) m c))) (h2 : Boxed (w2.setCell ⟨B0, 0, none⟩ (.slice (some ⟨g, 0, none⟩) m c)) B0 T (.slice (some ⟨g, 0, none⟩) m c))
    (hgrow : (V.alloc o').grownBy w2 v.ownBlock) (hat : (Value.slice (some ⟨g, 0, none⟩) m c).ownBlock = v.ownBlock ∨ (Value.slice (some ⟨g, 0, none⟩) m c).ownBlock = some (V.alloc o').heap.size) : KpF B0 B0 V (w2.setCell ⟨B0, 0, none⟩ (.slice (some ⟨g, 0, none⟩) m c)) := by
  refine ⟨hb, fun k o hk hc hne hv' => ?_, fun v' hv' b e => ?_⟩
  · have hkl := blk_lt hk
    refine ((Below.heap_setCell w2 ⟨B0, 0, none⟩ _ k hne).trans ((hgrow.block k (by simp; omega) (fun e => hv' v hv.cell e.symm)).trans ?_)).trans hk
    exact (below_alloc (Below.refl _ _) _).block k hkl
  · rw [h2.cell] at hv'
    cases hv'
    rcases hat with h | h
    · exact .inr ⟨v, hv.cell, h.symm.trans e⟩
    · rw [e] at h
      injection h with h
      exact .inl (by rw [h]; simp)
theorem at_new {W : World} {o : Obj} {k : Nat} (h : k = W.heap.size) : (W.alloc o).heap[k]? = some o := by
  subst h; exact blk_new _ _
theorem at_set3 {W : World} {b : Nat} {x y z x' y' z' : Value} {T : TypeId} (h : W.heap[b]? = some (.cells #[x', y', z'] T (0, 0))) : (((W.setCell ⟨b, 0, none⟩ x).setCell ⟨b, 1, none⟩ y).setCell ⟨b, 2, none⟩ z).heap[b]? = some (.cells #[x, y, z] T (0, 0)) :=
  blk_put (blk_put (blk_put h 0 x rfl) 1 y rfl) 2 z rfl
theorem at_far3 {W : World} {b k : Nat} {x y z : Value} {o : Obj} (hne : k ≠ b) (h : W.heap[k]? = some o) : (((W.setCell ⟨b, 0, none⟩ x).setCell ⟨b, 1, none⟩ y).setCell ⟨b, 2, none⟩ z).heap[k]? = some o :=
  (Below.heap_setCell _ ⟨b, 2, none⟩ z k hne).trans ((Below.heap_setCell _ ⟨b, 1, none⟩ y k hne).trans ((Below.heap_setCell _ ⟨b, 0, none⟩ x k hne).trans h))
theorem bel3 {w W : World} {b : Nat} {x y z : Value} (h : Below w.heap.size w W) (hb : w.heap.size ≤ b) : Below w.heap.size w (((W.setCell ⟨b, 0, none⟩ x).setCell ⟨b, 1, none⟩ y).setCell ⟨b, 2, none⟩ z) :=
  ((h.setCell (p := ⟨b, 0, none⟩) hb x).setCell (p := ⟨b, 1, none⟩) hb y).setCell (p := ⟨b, 2, none⟩) hb z
theorem chgs_len (t u : List KidR) (ns : List Int) (i : Nat) : (chgsAt t u (ns.take i)).length ≤ i := by
  unfold chgsAt
  rw [List.length_map]
  exact Nat.le_trans (List.length_filter_le _ _) (by rw [List.length_take]; omega)
theorem blk_new1 (W : World) (o o' : Obj) : ((W.alloc o).alloc o').heap[W.heap.size + 1]? = some o' := by
  have := blk_new (W.alloc o) o'
  rwa [World.size_alloc] at this
theorem chgs_snoc (t u : List KidR) (ns : List Int) (i : Nat) (hi : i < ns.length) : chgsAt t u (ns.take (i + 1)) = chgsAt t u (ns.take i) ++ if lookT t ns[i] = lookT u ns[i] then [] else [⟨ns[i], lookT t ns[i], lookT u ns[i]⟩] := by
  unfold chgsAt
  rw [List.take_succ_eq_append_getElem hi, List.filter_append, List.map_append]
  congr 1
  by_cases h : lookT t ns[i] = lookT u ns[i] <;> simp [h]
theorem put_end {W X : World} {F F' : Nat → Prop} {p D B : Nat} {most : Int} {l' : List OpR} {vc : Value} {cs : List ChgR} {o : Obj} (hK : X.heap[D]? = some (.deferred (some []))) (hrow : OwnRow (fun c xs => xs = chgC c) 76 7 X B vc cs) (hL : LogAt X F' p most l')
    (hF' : ∀ b, F' b → (F b ∨ W.heap.size ≤ b) ∧ b < B ∧ b ≠ D) (hB : W.heap.size ≤ B) (ht : Tr.Touch F W X) (hD : W.heap.size ≤ D) :
    OwnRow (fun c xs => xs = chgC c) 76 7 (X.putObj D o) B vc cs ∧ LogAt (X.putObj D o) F' p most l' ∧ (∀ b, F' b → (F b ∨ W.heap.size ≤ b) ∧ b < B) ∧ W.heap.size ≤ B ∧ Tr.Touch F W (X.putObj D o) := by
  have htp : Tr.Touch (fun b => b = D) X (X.putObj D o) := ⟨rfl, rfl, rfl, by simp, fun k _ e => World.putObj_heap_other e⟩
  obtain ⟨inner, hr, hrep⟩ := hrow
  exact ⟨⟨inner, ownsRow_putObj hr _ hK rfl, hrep⟩, hL.touch htp (fun b h e => (hF' b h).2.2 e), fun b h => ⟨(hF' b h).1, (hF' b h).2.1⟩, hB, ht.trans htp (fun b h1 h2 => by omega)⟩
theorem ops_new {V : World} {x : OpR} {T : TypeId} {j : Nat} {u : Value} (hj : (opCells x)[j]? = some u) : (V.alloc (.cells #[.int .i64 x.n, .int .i64 x.r, .int .i64 x.node, .int .i64 x.par, .string x.name] T)).cell? ⟨V.heap.size, 0 + j, none⟩ = some u := by
  have := blk_cell (blk_new V (.cells #[.int .i64 x.n, .int .i64 x.r, .int .i64 x.node, .int .i64 x.par, .string x.name] T)) (0 + j)
  rw [this, Nat.zero_add, ← hj]
  simp [opCells]
set_option maxRecDepth 100000 in
set_option maxHeartbeats 8000000 in
theorem put_calls (w0 W : World) (F : Nat → Prop) (p : Nat) (most : Int) (l ops : List OpR) (A : Option Addr) (n c : Nat) (H : LogAt W F p most l) (hok : LogOk most l) (ho : OpsAt W A n ops) (hs : ∀ o ∈ ops, o.name.size ≤ 9223372036854775807)
    (hT : Tabs w0) (hB : Below w0.heap.size w0 W) (hF : ∀ b, F b → w0.heap.size ≤ b) (hl : l.length + n ≤ 1000000) (hmost : most ≤ 1000000) :
    Calls Tryz.prog 10 #[.pointer (some ⟨p, 0, none⟩), .slice A n c] W fun e w' => ∃ (vc : Value) (B : Nat) (F' : Nat → Prop), e = .returned (.tuple #[.int .i64 (putR most l ops).n, vc, .int .i64 (putR most l ops).e]) ∧
      OwnRow (fun c xs => xs = chgC c) 76 7 w' B vc (putR most l ops).chgs ∧ LogAt w' F' p most (putR most l ops).l ∧ (∀ b, F' b → (F b ∨ W.heap.size ≤ b) ∧ b < B) ∧ W.heap.size ≤ B ∧ Tr.Touch F W w' := by
  have HCO := Lib.hid (containsFunc_calls A n c ops W ho hs (hT.below hB))
  have hlen := ho.1
  refine (callsIn_wide (n := 9)).1 ?_
  refine callsIn_of_wp_marks Tryz.func10 rfl trivial ?_
  simp only [Tryz.ntmps10, List.size_toArray, List.length_cons, List.length_nil, Nat.reduceAdd, Nat.reduceSub, Array.replicate_succ, Array.replicate_zero, List.push_toArray, List.append_toArray, List.nil_append, List.cons_append]
  refine wpIn_wide.2 ?_
  have hput : putR most l ops = if ops.all opRight then if most < l.length + (newOf l ops).length then ⟨0, [], 6, l⟩ else ⟨(newOf l ops).length, chgsO l (joinO l ops), 0, joinO l ops⟩ else ⟨0, [], 1, l⟩ := rfl
  have HP := Lib.hid hput
  clear hput
  generalize putR most l ops = R at *
  cases hall : ops.all opRight
  · rw [hall] at HCO HP
    go_wp2_with (first
      | (go_at_call 30; go_loud ((refine HCO.out.mono ?_); rintro e w1 ⟨rfl, hb1⟩; have HB1 := Lib.hid hb1; clear hb1))
      | (fail "no arm"))
    refine ⟨_, results_tmp3 rfl _ _ _, ?_⟩
    rw [HP.out]
    exact ⟨_, w1.heap.size, F, rfl, OwnRow.none_ _ _ _ _ _, H.below HB1.out, fun b h => ⟨.inl h, Nat.lt_of_lt_of_le (H.lt b h) HB1.out.size⟩, HB1.out.size, Tr.Touch.below HB1.out⟩
  · rw [hall] at HCO HP
    go_wp2_with (first
      | (go_at_call 30; go_loud ((refine HCO.out.mono ?_); rintro e w1 ⟨rfl, hb1⟩; have HB1 := Lib.hid hb1; clear hb1))
      | (go_at_call 33; go_loud ((refine (fresh_calls _ p A n c).mono ?_); rintro e w2 ⟨rfl, rfl⟩))
      | (fail "no arm"))
    have hlw := H.lt
    have hs1 := HB1.out.size
    have bO := Boxed.new w1 27 (.slice none 0 0)
    have bP := Boxed.new (w1.alloc (.cells #[.slice none 0 0] 27)) 24 (.pointer (some ⟨p, 0, none⟩))
    have bA := Boxed.new ((w1.alloc (.cells #[.slice none 0 0] 27)).alloc (.cells #[.pointer (some ⟨p, 0, none⟩)] 24)) 27 (.slice A n c)
    have bO1 := (bO.alloc (.cells #[.pointer (some ⟨p, 0, none⟩)] 24)).alloc (.cells #[.slice A n c] 27)
    have bP1 := bP.alloc (.cells #[.slice A n c] 27)
    rw [World.size_alloc] at bP bP1
    rw [World.size_alloc, World.size_alloc] at bA
    have hB0 : Below w1.heap.size w1 (((w1.alloc (.cells #[.slice none 0 0] 27)).alloc (.cells #[.pointer (some ⟨p, 0, none⟩)] 24)).alloc (.cells #[.slice A n c] 27)) := below_alloc (below_alloc (below_alloc (Below.refl _ _) _) _) _
    obtain ⟨i0, hi, hz0, hz1, hz2⟩ := info_parts opInfo
    have hnl := newOf_length l ops
    have hI : OwnFrom (((w1.alloc (.cells #[.slice none 0 0] 27)).alloc (.cells #[.pointer (some ⟨p, 0, none⟩)] 24)).alloc (.cells #[.slice A n c] 27)).heap.size (fun (pre : List OpR) V => (∃ v, Boxed V w1.heap.size 27 v ∧ OwnO V w1.heap.size v pre) ∧ Below w1.heap.size w1 V) := by
      refine OwnFrom.and (Own.from ?_ _) (ownFrom_below (Nat.le_refl _) (by simp; omega))
      rintro s X Y row ⟨v, hv, inner, hr, hrep⟩ hg hrow
      obtain ⟨v', h1, h2, h3⟩ := holdsRow_own (β := Unit) w1.heap.size w1.heap.size 27 50 5 (fun _ => s.length) (fun _ => inner) (fun _ u => u = v) () X Y row ⟨v, hv, hr, rfl⟩ hg hrow
      subst h3
      exact ⟨v', h1, inner, h2, hrep⟩
    refine (wpIn_wide (n := 9)).1 ?_
    refine wpIn_rangeFunc_ownH rfl (by decide) (gf := 57) (lb := #[.pointer (some ⟨w1.heap.size + 1 + 1, 0, none⟩), .pointer (some ⟨w1.heap.size + 1, 0, none⟩)]) (by simp [Act.eval]) trivial (enters_of Tryz.func57 (by kernel_rfl) rfl)
      (fresh_stops 8 (by decide) w1.heap.size w1.heap.size (w1.heap.size + 1 + 1) (w1.heap.size + 1) p F most l ops A n c _ ((H.below HB1.out).below (hB0.mono (Nat.le_refl _))) (fun b h => by have := hlw b h; omega) hB0.size (by simp; omega) (bO1.cell) (bA.cell) (bP1.cell) (by omega) ((ho.below HB1.out).below hB0) hok.asc (by omega) (by omega))
      kpF_t (kpF_b (by simp; omega) (by simp; omega)) (Below.refl _ _) (fun _ => rfl)
      (fun pre V => (∃ v, Boxed V w1.heap.size 27 v ∧ OwnO V w1.heap.size v pre) ∧ Below w1.heap.size w1 V)
      (fun _ _ _ => False) hI (fun _ _ _ _ _ hs _ _ => hs)
      ⟨⟨_, (bO.alloc _).alloc _, OwnRow.none_ _ _ _ _ _⟩, hB0⟩
      (fun x a' V => ∃ Bx, w1.heap.size < Bx ∧ V.heap[Bx]? = some (.cells #[.int .i64 x.n, .int .i64 x.r, .int .i64 x.node, .int .i64 x.par, .string x.name] 50 (0, 0)) ∧ a' = { tmps := #[.pointer (some ⟨p, 0, none⟩), .slice A n c, undef, undef, .int .i64 0, .slice none 0 0, .int .i64 0, .pointer (some ⟨w1.heap.size, 0, none⟩), .pointer (some ⟨Bx, 0, none⟩), undef, undef, undef, undef, undef, .slice A n c, .bool false, .pointer (some ⟨p, 0, none⟩), .slice A n c, .func (.func 57) #[] #[.pointer (some ⟨w1.heap.size + 1 + 1, 0, none⟩), .pointer (some ⟨w1.heap.size + 1, 0, none⟩)], .agg #[.int .i64 x.n, .int .i64 x.r, .int .i64 x.node, .int .i64 x.par, .string x.name], undef, undef, undef, undef, undef, undef, undef, undef, undef, undef, undef, undef, undef, undef, undef, undef, undef, undef, undef, undef, undef, undef, undef, undef, undef, undef, undef, undef, undef, undef, undef, undef, undef, undef, undef, undef, undef, undef, undef, undef, undef, undef, undef, undef, undef, undef, undef, undef, undef, undef, undef, undef, undef, undef, undef, undef, undef, undef], defers := [] }) ?hAx ?assign ?body ?done ?stop
    case hAx =>
      rintro x a' s X Y row ⟨Bx, h1, h2, h3⟩ hg hrow
      refine ⟨Bx, h1, (hg.block Bx (blk_lt h2) fun e => ?_).trans h2, h3⟩
      obtain ⟨_, o, ho, hc⟩ := hrow Bx e.symm
      rw [h2] at ho; cases ho; cases hc
    case assign =>
      rintro lp pre x V K ⟨⟨v, hv, hr⟩, hb⟩ hK
      have hsz := hb.size
      have hvl := hv.lt
      simp only [opV]
      gi_wp2
      exact hK _ _ ((KeepsOthers.alloc _ _).from _) (KpF.of_below (below_alloc (Below.refl _ _) _) (by omega) hvl) ⟨⟨v, hv.alloc _, OwnRow.below hr (below_alloc (Below.refl _ _) _)⟩, hb.trans (below_alloc (Below.refl _ _) _ |>.mono hsz)⟩ ⟨V.heap.size, hvl, World.alloc_heap_new V _, rfl⟩
    case body =>
      rintro lp pre x a' V hl ⟨r, hr⟩ ⟨⟨v, hv, hrow⟩, hB2⟩ ⟨Bx, hBx, bX, rfl⟩ hlt
      have hc := hv.cell
      have hbc : ∀ j, V.cell? ⟨Bx, j, none⟩ = _ := fun j => blk_cell bX j
      have d0 := hbc 0
      have d1 := hbc 1
      have d2 := hbc 2
      have d3 := hbc 3
      have d4 := hbc 4
      simp at d0 d1 d2 d3 d4
      obtain ⟨inner, hin, hrep⟩ := hrow
      gi_wp2_with (gi_at_builtin; go_loud ((refine wpListIn_append_own_at _ rfl _ _ 27 rfl w1.heap.size 50 i0 _ 5 48 Tryz.underlying27 hi hz0 hz1 hz2 rfl (by decide) v pre.length inner (by rfl) (hin.alloc _) ⟨V.heap.size, 0, none⟩ 1 1 (opCells x) (by simp [Act.eval]) rfl (fun j u hj => by rw [addO]; exact ops_new hj) (opCells_one x) (by unfold maxLen; omega) (by omega) (by have := hB2.size; simp; omega) ?_); intro v' w2 hown' hgrow _ hat; obtain ⟨g', cap', rfl⟩ := ownsRow_succ hown'; obtain ⟨hv1, hv2, hr2, hk2, hb2⟩ := hv.appended (by decide) hin hB2.size (Nat.le_refl _) hown' hgrow; have hc1 := hv1.cell; have hf1 := hv1.frozen))
      exact ⟨hk2.from _, kpf_put hv hb2 hv2 hgrow hat, ⟨⟨_, hv2, inner ++ opCells x, by rw [List.length_append, List.length_singleton]; exact hr2, reps_append hrep ⟨by rw [opCells_length]; rfl, fun j q hj => by
        have h0 : j = 0 := by have := (List.getElem?_eq_some_iff.1 hj).1; simpa using this
        subst h0
        have e : q = x := by simpa using hj.symm
        subst e
        simp [opCells]⟩⟩, hB2.trans hb2⟩⟩
    case done =>
      rintro D ys V hD rfl ⟨⟨v, hv, hrow⟩, hB2⟩ hK
      have HLV := Lib.hid (H.touch (Tr.Touch.below (F := fun _ => False) (HB1.out.trans (hB2.mono hs1))) (fun _ _ h => h))
      have HBV := Lib.hid (HB1.out.trans (hB2.mono hs1))
      have hD2 : w1.heap.size + 3 ≤ D := by simpa using hD
      obtain ⟨A1, c1, tp, hp, hc1, how, hol, FT, htr⟩ := HLV.out.fields
      obtain ⟨A8, c8, rfl, hc8⟩ := OwnRow.slice_ hrow
      have P0 := Lib.hid (blk_cell hp 0)
      have P1 := Lib.hid (blk_cell hp 1)
      have HV := Lib.hid hv.cell
      have HP8 := Lib.hid hp
      have HRW := Lib.hid hrow
      have HKD := Lib.hid hK
      have HBX := Lib.hid hv
      have HDD := Lib.hid hD2
      have hm1 := hok.len
      have hnl2 : (newOf l ops).length ≤ 1000000 := by omega
      have hll2 : l.length ≤ 1000000 := by omega
      clear hp how hol htr hv hrow hB2 hD hK bO bO1 bP bP1 bA hB0 hI
      generalize hN : (newOf l ops).length = N at *
      go_wp2
      go_region_held3 (fun X => X.cell? ⟨w1.heap.size, 0, none⟩ = some (.slice A8 N c8) ∧ X.cell? ⟨p, 0, none⟩ = some (.int .i64 most) ∧ X.cell? ⟨p, 1, none⟩ = some (.slice A1 l.length c1))
        (exact ⟨by have := HV.out; simpa using this, by have := P0.out; simpa using this, by have := P1.out; simpa using this⟩)
        (fail "no arm")
      have hw : IntKind.i64.wrap (most - (l.length : Int)) = most - l.length := by rw [IntKind.wrap_i64]; omega
      by_cases hfull : most < l.length + N
      · have q2 : decide (most - (l.length : Int) < (N : Int)) = true := decide_eq_true (by omega)
        go_wp2
        refine ⟨by simp, .inl ⟨_, _, rfl, run_takeDeferred (w := V.drew) HKD.out, ⟨_, results_tmp3 rfl _ _ _, ?_⟩⟩⟩
        have hR : R = ⟨0, [], 6, l⟩ := by rw [HP.out]; simp [hfull]
        rw [hR]
        have PE := put_end (o := .deferred none) (l' := l) (W := W) (X := V.drew) (F' := F) (B := V.heap.size) (cs := []) (vc := .slice none 0 0) HKD.out (OwnRow.none_ _ _ _ _ _) (HLV.out.touch (Tr.Touch.below (F := fun _ => False) (below_drew1 (Below.refl _ _))) (fun _ _ h => h)) (fun b h => ⟨.inl h, by have := H.lt b h; have := HBV.out.size; omega, by have := H.lt b h; have := HDD.out; omega⟩) HBV.out.size (Tr.Touch.below (below_drew1 HBV.out)) (by have := HDD.out; omega)
        first | exact ⟨_, _, _, rfl, PE⟩ | exact ⟨_, rfl, _, PE.1, _, PE.2⟩
      · have q2 : decide (most - (l.length : Int) < (N : Int)) = false := decide_eq_false (by omega)
        by_cases hN0 : N = 0
        · have q3 : ((N : Int) == 0) = true := by simp [hN0]
          go_wp2
          refine ⟨by simp, .inl ⟨_, _, rfl, run_takeDeferred (w := V.drew) HKD.out, ⟨_, results_tmp3 rfl _ _ _, ?_⟩⟩⟩
          have hnil : newOf l ops = [] := List.eq_nil_of_length_eq_zero (by omega)
          have hR : R = ⟨0, [], 0, l⟩ := by rw [HP.out, joinO_nil hok.asc hnil, chgsO_same]; simp [hN0]; omega
          rw [hR]
          have PE := put_end (o := .deferred none) (l' := l) (W := W) (X := V.drew) (F' := F) (B := V.heap.size) (cs := []) (vc := .slice none 0 0) HKD.out (OwnRow.none_ _ _ _ _ _) (HLV.out.touch (Tr.Touch.below (F := fun _ => False) (below_drew1 (Below.refl _ _))) (fun _ _ h => h)) (fun b h => ⟨.inl h, by have := H.lt b h; have := HBV.out.size; omega, by have := H.lt b h; have := HDD.out; omega⟩) HBV.out.size (Tr.Touch.below (below_drew1 HBV.out)) (by have := HDD.out; omega)
          first | exact ⟨_, _, _, rfl, PE⟩ | exact ⟨_, rfl, _, PE.1, _, PE.2⟩
        · have q3 : ((N : Int) == 0) = false := by rw [beq_eq_false_iff_ne]; omega
          obtain ⟨n0, r, hnew⟩ : ∃ n0 r, newOf l ops = n0 :: r := by
            cases h : newOf l ops with
            | nil => rw [h] at hN; simp at hN; omega
            | cons a b => exact ⟨a, b, rfl⟩
          have HB := Lib.hid (Below.refl V.heap.size V)
          have HNEW := Lib.hid hnew
          have hright : ∀ o ∈ joinO l ops, opRight o = true := fun o h => (mem_joinO.1 h).elim (hok.right o) (fun h => List.all_eq_true.1 hall o h)
          have hvF : ∀ b, (Value.slice A8 N c8).ownBlock = some b → ¬ F b := fun b e h => by
            obtain ⟨inner, h1, _⟩ := HRW.out
            have := own_base h1 b e; have := hlw b h; omega
          have hBw0 : ∀ X : World, Below V.heap.size V X → Below w0.heap.size w0 X := fun X hX => hB.trans ((HBV.out.mono hB.size).trans (hX.mono (Nat.le_trans hB.size HBV.out.size)))
          clear hnew
          go_wp2_with (first
            | (go_at_call 12; go_loud ((refine (log_tree _ F p most l (HLV.out.below (by repeat (first | (with_reducible exact HB.out) | apply below_alloc | apply pw_below_drewN | apply below_drew1 | exact HB.out))) hll2).mono ?_); rintro e w2 ⟨pt, rfl, ht2, hb2⟩; have HT2 := Lib.hid ht2; have HB2 := Lib.hid hb2; have kv : w2.cell? ⟨w1.heap.size, 0, none⟩ = some (.slice A8 N c8) := pw_cell_below hb2 HV.out; clear ht2 hb2))
            | (go_at_call 34; go_loud ((refine (redo_calls w0 w2 F p most l ops n0 r w1.heap.size (.slice A8 N c8) ((HLV.out.below (by repeat (first | (with_reducible exact HB.out) | apply below_alloc | apply pw_below_drewN | apply below_drew1 | exact HB.out))).below HB2.out) hok.asc (hright) HNEW.out ((OwnRow.below HRW.out (by repeat (first | (with_reducible exact HB.out) | apply below_alloc | apply pw_below_drewN | apply below_drew1 | exact HB.out))).below HB2.out) hvF hT (hBw0 w2 ((below_drew1 (Below.refl _ _)).trans HB2.out)) hF (by omega)).mono ?_); rintro e w3 ⟨rfl, F3, hl3, hf3, ht3⟩; have HL3 := Lib.hid hl3; have HF3 := Lib.hid hf3; have HT3 := Lib.hid ht3; have KV3 := Lib.hid (ht3.cell kv (fun h => by have := hlw _ h; simp only at this; omega)); obtain ⟨A3, c3, tp3, hp3, _, how3, hol3, FT3, htr3⟩ := hl3.fields; have k13 := blk_cell hp3 1; simp at k13; have K23 := Lib.hid (blk_cell hp3 2); have HTR3 := Lib.hid htr3; have HOL3 := Lib.hid hol3; have hplt := blk_lt hp3; clear hl3 hf3 ht3 kv hp3 how3 hol3 htr3))
            | (go_at_call 35; go_loud ((refine (nodes_calls w3 A3 _ c3 (joinO l ops) HOL3.out (by rw [joinO_length]; omega)).mono ?_); rintro e w4 ⟨⟨A4, c4, rfl, hn4⟩, hb4⟩; have HN4 := Lib.hid hn4; have HB4 := Lib.hid hb4; clear hn4 hb4 k13))
            | (fail "no arm"))
          have HWF := Lib.hid (show ∀ i (hi : i < (nodesO (joinO l ops)).length), Wf (nodesO (joinO l ops))[i] from fun i hi => by
            obtain ⟨o, h1, h2⟩ := mem_nodesO.1 (List.getElem_mem hi)
            rw [← h2]; exact (right_wf (hright o h1)).1)
          have HTA := Lib.hid (show TreeAt w4 (fun b => V.drew.heap.size ≤ b) pt l from (HT2.out.touch HT3.out (fun b h1 h2 => by have h3 := hlw b h2; have h4 := HBV.out.size; have h5 : V.drew.heap.size = V.heap.size := rfl; omega)).below HB4.out)
          have HTU := Lib.hid (HTR3.out.below HB4.out)
          have K24 := Lib.hid (pw_cell_below HB4.out K23.out)
          have hnsl : (nodesO (joinO l ops)).length ≤ 1000000 := by
            have h1 := cpt_length_leG cmpI (srt cmpI ((joinO l ops).map OpR.node))
            rw [srt_length, List.length_map, joinO_length] at h1
            have : (nodesO (joinO l ops)).length = (cpt cmpI (srt cmpI ((joinO l ops).map OpR.node))).length := rfl
            omega
          have HCH := Lib.hid (show chgsO l (joinO l ops) = chgsAt (treeO l) (treeO (joinO l ops)) ((nodesO (joinO l ops)).take (nodesO (joinO l ops)).length) by rw [List.take_length]; rfl)
          generalize nodesO (joinO l ops) = ns at *
          clear HT2 HTR3 K23 hright hvF hBw0 HB
          have HB := Lib.hid (Below.refl w4.heap.size w4)
          go_loopw [5, 51] (fun vo vi X => ∃ i : Nat, vi = .int .i64 i ∧ i ≤ ns.length ∧ Hid (OwnRow (fun c xs => xs = chgC c) 76 7 X w4.heap.size vo (chgsAt (treeO l) (treeO (joinO l ops)) (ns.take i))) ∧ Hid (Below w4.heap.size w4 X)) (fun _ vi _ => ns.length - (RowKit.intOf vi).toNat)
          case atStart => exact ⟨0, rfl, Nat.zero_le _, Lib.hid (OwnRow.none_ _ _ _ _ _), HB⟩
          case round =>
            clear HB
            obtain ⟨i, rfl, hi, HO, HBX⟩ := hrel
            by_cases hlt : i < ns.length
            · obtain ⟨g4, rfl, hg4, hg4l, hc4⟩ := HN4.out i hlt
              have hwf := HWF.out i hlt
              have hc4x := pw_cell_below HBX.out hc4
              have HSN := Lib.hid (chgs_snoc (treeO l) (treeO (joinO l ops)) ns i hlt)
              generalize ns[i] = nd at *
              obtain ⟨mb1, dv1, htb1, _⟩ := HTA.out
              obtain ⟨mb2, dv2, htb2, _⟩ := HTU.out
              have HS1 := Lib.hid (fun X (hX : Below wr.heap.size wr X) => spot_calls X pt mb1 dv1 (treeO l) nd ((htb1.below HBX.out).below hX) hwf)
              have HS2 := Lib.hid (fun X (hX : Below wr.heap.size wr X) => spot_calls X tp3 mb2 dv2 (treeO (joinO l ops)) nd ((htb2.below HBX.out).below hX) hwf)
              obtain ⟨i1, t1, n1, he1, hec1⟩ := osV_cells (lookT (treeO l) nd)
              obtain ⟨i2, t2, n2, he2, hec2⟩ := osV_cells (lookT (treeO (joinO l ops)) nd)
              rw [he1] at HS1
              rw [he2] at HS2
              have k2x := pw_cell_below HBX.out K24.out
              simp at k2x
              have HB := Lib.hid (Below.refl wr.heap.size wr)
              have hi1 : (0 : Int) ≤ (i : Int) := by omega
              have hi2 : (i : Int) < (ns.length : Int) := by omega
              have HL3' := Lib.hid hlt
              have hpw : p < wr.heap.size := cell_lt k2x
              have hpw1 : wr.heap.size ≠ p := Nat.ne_of_gt hpw
              have hpw2 : wr.heap.size + 1 ≠ p := Nat.ne_of_gt (Nat.lt_succ_of_lt hpw)
              clear htb1 htb2 hc4
              go_upto_region 16 with fail
              go_cut [12, 13] from 55 to 74 (fun v12 v13 X => ∃ b12 b13 : Nat, v12 = .pointer (some ⟨b12, 0, none⟩) ∧ v13 = .pointer (some ⟨b13, 0, none⟩) ∧ Hid (X.cell? ⟨b12, 0, none⟩ = some (.bool i1) ∧ X.cell? ⟨b12, 1, none⟩ = some (.int .i64 t1) ∧ X.cell? ⟨b12, 2, none⟩ = some (.string n1)) ∧ Hid (X.cell? ⟨b13, 0, none⟩ = some (.bool i2) ∧ X.cell? ⟨b13, 1, none⟩ = some (.int .i64 t2) ∧ X.cell? ⟨b13, 2, none⟩ = some (.string n2)) ∧ Hid (Below wr.heap.size wr X))
              case first =>
                go_region_held3 (fun X => X.cell? ⟨p, 2, none⟩ = some (.pointer (some ⟨tp3, 0, none⟩))) (first | (with_reducible exact kp6) | (with_reducible exact kp5) | (with_reducible exact k2x) | go_keep) (first
                  | (go_at_call 36; go_loud ((with_reducible refine Calls.mono (HS1.out _ (by repeat (first | (with_reducible exact HB.out) | apply below_alloc | apply pw_below_drewN | apply below_drew1 | exact HB.out))) ?_); rintro e w5 ⟨rfl, hb5⟩; (try (refine (fun ba : w5.heap[wr.heap.size]? = some (.cells #[.bool false, .int .i64 0, .string ⟨#[]⟩] 73 (0, 0)) => ?_) ?_; rotate_left; (first | exact blk_below (blk_new wr.drew _) hb5 | exact blk_below (blk_alloc (blk_new wr.drew _) _) hb5); have lba := blk_lt ba; have bac0 := blk_cell ba 0; simp at bac0; have baf0 := blk_frozen ba 0; have bac1 := blk_cell ba 1; simp at bac1; have baf1 := blk_frozen ba 1; have bac2 := blk_cell ba 2; simp at bac2; have baf2 := blk_frozen ba 2)); (try (refine (fun bb : w5.heap[wr.heap.size + 1]? = some (.cells #[.bool false, .int .i64 0, .string ⟨#[]⟩] 73 (0, 0)) => ?_) ?_; rotate_left; (first | exact blk_below (blk_new1 wr.drew _ _) hb5); have lbb := blk_lt bb; have bbc0 := blk_cell bb 0; simp at bbc0; have bbf0 := blk_frozen bb 0; have bbc1 := blk_cell bb 1; simp at bbc1; have bbf1 := blk_frozen bb 1; have bbc2 := blk_cell bb 2; simp at bbc2; have bbf2 := blk_frozen bb 2)); have HBn := Lib.hid (below_step (by repeat (first | (with_reducible exact HB.out) | apply below_alloc | apply pw_below_drewN | apply below_drew1 | exact HB.out)) hb5); clear hb5 HB; have HB := HBn; clear HBn; have sz5 : wr.heap.size ≤ w5.heap.size := HB.out.size; have kp5 : w5.cell? ⟨p, 2, none⟩ = some (.pointer (some ⟨tp3, 0, none⟩)) := pw_cell_below HB.out k2x; have lp5 : p < w5.heap.size := cell_lt kp5; have ne5 : w5.heap.size ≠ p := Nat.ne_of_gt lp5; have ne51 : w5.heap.size + 1 ≠ p := Nat.ne_of_gt (Nat.lt_succ_of_lt lp5)))
                  | (go_at_call 36; go_loud ((with_reducible refine Calls.mono (HS2.out _ (by repeat (first | (with_reducible exact HB.out) | apply below_alloc | apply pw_below_drewN | apply below_drew1 | exact HB.out))) ?_); rintro e w6 ⟨rfl, hb6⟩; have bx : w6.heap[w5.heap.size]? = some (.cells #[.bool false, .int .i64 0, .string ⟨#[]⟩] 73 (0, 0)) := blk_below (blk_alloc (blk_new w5 (.cells #[.bool false, .int .i64 0, .string ⟨#[]⟩] 73)) (.cells #[.bool false, .int .i64 0, .string ⟨#[]⟩] 73)) hb6; have bxc0 := blk_cell bx 0; simp at bxc0; have bxf0 := blk_frozen bx 0; have bxc1 := blk_cell bx 1; simp at bxc1; have bxf1 := blk_frozen bx 1; have bxc2 := blk_cell bx 2; simp at bxc2; have bxf2 := blk_frozen bx 2; have by_ := blk_below (blk_new (w5.alloc (.cells #[.bool false, .int .i64 0, .string ⟨#[]⟩] 73)) (.cells #[.bool false, .int .i64 0, .string ⟨#[]⟩] 73)) hb6; rw [World.size_alloc] at by_; have by_c0 := blk_cell by_ 0; simp at by_c0; have by_f0 := blk_frozen by_ 0; have by_c1 := blk_cell by_ 1; simp at by_c1; have by_f1 := blk_frozen by_ 1; have by_c2 := blk_cell by_ 2; simp at by_c2; have by_f2 := blk_frozen by_ 2; have nx6 : w5.heap.size ≠ w6.heap.size := Nat.ne_of_lt (blk_lt bx); have lx6 : w5.heap.size < w6.heap.size := blk_lt bx; have nx5 : w5.heap.size + 1 ≠ w6.heap.size := Nat.ne_of_lt (blk_lt by_); have lx5 : w5.heap.size + 1 < w6.heap.size := blk_lt by_; (try (refine (fun ca : w6.heap[wr.heap.size]? = some (.cells #[.bool false, .int .i64 0, .string ⟨#[]⟩] 73 (0, 0)) => ?_) ?_; rotate_left; (first | exact blk_below ba hb6 | exact blk_below (blk_alloc ba _) hb6 | exact blk_below (blk_alloc (blk_alloc ba _) _) hb6); have lca := blk_lt ca; have cac0 := blk_cell ca 0; simp at cac0; have caf0 := blk_frozen ca 0; have cac1 := blk_cell ca 1; simp at cac1; have caf1 := blk_frozen ca 1; have cac2 := blk_cell ca 2; simp at cac2; have caf2 := blk_frozen ca 2)); (try (refine (fun cb : w6.heap[wr.heap.size + 1]? = some (.cells #[.bool false, .int .i64 0, .string ⟨#[]⟩] 73 (0, 0)) => ?_) ?_; rotate_left; (first | exact blk_below bb hb6 | exact blk_below (blk_alloc bb _) hb6 | exact blk_below (blk_alloc (blk_alloc bb _) _) hb6); have lcb := blk_lt cb; have cbc0 := blk_cell cb 0; simp at cbc0; have cbf0 := blk_frozen cb 0; have cbc1 := blk_cell cb 1; simp at cbc1; have cbf1 := blk_frozen cb 1; have cbc2 := blk_cell cb 2; simp at cbc2; have cbf2 := blk_frozen cb 2)); have HBn := Lib.hid (below_step (by repeat (first | (with_reducible exact HB.out) | apply below_alloc | apply pw_below_drewN | apply below_drew1 | exact HB.out)) hb6); clear hb6 HB; have HB := HBn; clear HBn; have sz6 : wr.heap.size ≤ w6.heap.size := HB.out.size; have kp6 : w6.cell? ⟨p, 2, none⟩ = some (.pointer (some ⟨tp3, 0, none⟩)) := pw_cell_below HB.out k2x; have np6 : w6.heap.size ≠ p := Nat.ne_of_gt (cell_lt kp6); have np61 : w6.heap.size + 1 ≠ p := Nat.ne_of_gt (Nat.lt_succ_of_lt (cell_lt kp6)); have lp6 : p < w6.heap.size := cell_lt kp6; have ne6 : w6.heap.size ≠ p := Nat.ne_of_gt lp6; have ne61 : w6.heap.size + 1 ≠ p := Nat.ne_of_gt (Nat.lt_succ_of_lt lp6)))
                  | (go_at_call 36; go_loud ((with_reducible refine Calls.mono (HS2.out _ (by repeat (first | (with_reducible exact HB.out) | apply below_alloc | apply pw_below_drewN | apply below_drew1 | exact HB.out))) ?_); rintro e w6 ⟨rfl, hb6⟩; have bx : w6.heap[w5.heap.size]? = some (.cells #[.bool false, .int .i64 0, .string ⟨#[]⟩] 73 (0, 0)) := blk_below (blk_new w5 (.cells #[.bool false, .int .i64 0, .string ⟨#[]⟩] 73)) hb6; have bxc0 := blk_cell bx 0; simp at bxc0; have bxf0 := blk_frozen bx 0; have bxc1 := blk_cell bx 1; simp at bxc1; have bxf1 := blk_frozen bx 1; have bxc2 := blk_cell bx 2; simp at bxc2; have bxf2 := blk_frozen bx 2; have nx6 : w5.heap.size ≠ w6.heap.size := Nat.ne_of_lt (blk_lt bx); have lx6 : w5.heap.size < w6.heap.size := blk_lt bx; (try (refine (fun ca : w6.heap[wr.heap.size]? = some (.cells #[.bool false, .int .i64 0, .string ⟨#[]⟩] 73 (0, 0)) => ?_) ?_; rotate_left; (first | exact blk_below ba hb6 | exact blk_below (blk_alloc ba _) hb6 | exact blk_below (blk_alloc (blk_alloc ba _) _) hb6); have lca := blk_lt ca; have cac0 := blk_cell ca 0; simp at cac0; have caf0 := blk_frozen ca 0; have cac1 := blk_cell ca 1; simp at cac1; have caf1 := blk_frozen ca 1; have cac2 := blk_cell ca 2; simp at cac2; have caf2 := blk_frozen ca 2)); (try (refine (fun cb : w6.heap[wr.heap.size + 1]? = some (.cells #[.bool false, .int .i64 0, .string ⟨#[]⟩] 73 (0, 0)) => ?_) ?_; rotate_left; (first | exact blk_below bb hb6 | exact blk_below (blk_alloc bb _) hb6 | exact blk_below (blk_alloc (blk_alloc bb _) _) hb6); have lcb := blk_lt cb; have cbc0 := blk_cell cb 0; simp at cbc0; have cbf0 := blk_frozen cb 0; have cbc1 := blk_cell cb 1; simp at cbc1; have cbf1 := blk_frozen cb 1; have cbc2 := blk_cell cb 2; simp at cbc2; have cbf2 := blk_frozen cb 2)); have HBn := Lib.hid (below_step (by repeat (first | (with_reducible exact HB.out) | apply below_alloc | apply pw_below_drewN | apply below_drew1 | exact HB.out)) hb6); clear hb6 HB; have HB := HBn; clear HBn; have sz6 : wr.heap.size ≤ w6.heap.size := HB.out.size; have kp6 : w6.cell? ⟨p, 2, none⟩ = some (.pointer (some ⟨tp3, 0, none⟩)) := pw_cell_below HB.out k2x; have np6 : w6.heap.size ≠ p := Nat.ne_of_gt (cell_lt kp6); have np61 : w6.heap.size + 1 ≠ p := Nat.ne_of_gt (Nat.lt_succ_of_lt (cell_lt kp6)); have lp6 : p < w6.heap.size := cell_lt kp6; have ne6 : w6.heap.size ≠ p := Nat.ne_of_gt lp6; have ne61 : w6.heap.size + 1 ≠ p := Nat.ne_of_gt (Nat.lt_succ_of_lt lp6)))
                  | (go_at_call 36; go_loud ((with_reducible refine Calls.mono (HS2.out _ (by repeat (first | (with_reducible exact HB.out) | apply below_alloc | apply pw_below_drewN | apply below_drew1 | exact HB.out))) ?_); rintro e w6 ⟨rfl, hb6⟩; (try (refine (fun ca : w6.heap[wr.heap.size]? = some (.cells #[.bool false, .int .i64 0, .string ⟨#[]⟩] 73 (0, 0)) => ?_) ?_; rotate_left; (first | exact blk_below ba hb6 | exact blk_below (blk_alloc ba _) hb6 | exact blk_below (blk_alloc (blk_alloc ba _) _) hb6); have lca := blk_lt ca; have cac0 := blk_cell ca 0; simp at cac0; have caf0 := blk_frozen ca 0; have cac1 := blk_cell ca 1; simp at cac1; have caf1 := blk_frozen ca 1; have cac2 := blk_cell ca 2; simp at cac2; have caf2 := blk_frozen ca 2)); (try (refine (fun cb : w6.heap[wr.heap.size + 1]? = some (.cells #[.bool false, .int .i64 0, .string ⟨#[]⟩] 73 (0, 0)) => ?_) ?_; rotate_left; (first | exact blk_below bb hb6 | exact blk_below (blk_alloc bb _) hb6 | exact blk_below (blk_alloc (blk_alloc bb _) _) hb6); have lcb := blk_lt cb; have cbc0 := blk_cell cb 0; simp at cbc0; have cbf0 := blk_frozen cb 0; have cbc1 := blk_cell cb 1; simp at cbc1; have cbf1 := blk_frozen cb 1; have cbc2 := blk_cell cb 2; simp at cbc2; have cbf2 := blk_frozen cb 2)); have HBn := Lib.hid (below_step (by repeat (first | (with_reducible exact HB.out) | apply below_alloc | apply pw_below_drewN | apply below_drew1 | exact HB.out)) hb6); clear hb6 HB; have HB := HBn; clear HBn; have sz6 : wr.heap.size ≤ w6.heap.size := HB.out.size; have kp6 : w6.cell? ⟨p, 2, none⟩ = some (.pointer (some ⟨tp3, 0, none⟩)) := pw_cell_below HB.out k2x; have np6 : w6.heap.size ≠ p := Nat.ne_of_gt (cell_lt kp6); have np61 : w6.heap.size + 1 ≠ p := Nat.ne_of_gt (Nat.lt_succ_of_lt (cell_lt kp6)); have lp6 : p < w6.heap.size := cell_lt kp6; have ne6 : w6.heap.size ≠ p := Nat.ne_of_gt lp6; have ne61 : w6.heap.size + 1 ≠ p := Nat.ne_of_gt (Nat.lt_succ_of_lt lp6)))
                  | (fail "no arm"))
                all_goals (go_wp2_with fail)
                all_goals go_meet
                all_goals (refine ⟨_, _, rfl, rfl, Lib.hid ?_, Lib.hid ?_, Lib.hid ?_⟩)
                all_goals (first
                  | ((repeat (first | with_reducible exact HB.out | with_reducible refine below_alloc ?_ _ | (with_reducible refine bel3 ?_ ?_; rotate_left; omega))); done)
                  | (refine ⟨?_, ?_, ?_⟩ <;> go_cell)
                  | (refine ⟨?_, ?_, ?_⟩ <;> simp [go_sem, *]))
              case rest =>
                obtain ⟨b12, b13, rfl, rfl, H12, H13, HBc⟩ := hcut
                obtain ⟨m0, m1, m2⟩ := H12.out
                obtain ⟨l0, l1, l2⟩ := H13.out
                have heq := eqSpot_iff hec1 hec2
                have HOC := Lib.hid (OwnRow.below HO.out HBc.out)
                have HBW := Lib.hid (HBX.out.trans (HBc.out.mono HBX.out.size))
                have HCC := Lib.hid (show [Value.int .i64 nd, .bool i1, .int .i64 t1, .string n1, .bool i2, .int .i64 t2, .string n2] = chgC ⟨nd, lookT (treeO l) nd, lookT (treeO (joinO l ops)) nd⟩ by simp [chgC, hec1, hec2])
                have hcl := chgs_len (treeO l) (treeO (joinO l ops)) ns i
                by_cases hsame : lookT (treeO l) nd = lookT (treeO (joinO l ops)) nd
                · rw [decide_eq_true hsame] at heq
                  rw [if_pos hsame, List.append_nil] at HSN
                  clear he1 he2 hec1 hec2 HCC hsame
                  go_wp2
                  go_roundw
                  case rel => exact ⟨i + 1, by go_num, HL3'.out, Lib.hid (by rw [HSN.out]; exact HOC.out), HBW⟩
                  case measure => have := HL3'.out; simp [RowKit.intOf]; omega
                · rw [decide_eq_false hsame] at heq
                  rw [if_neg hsame] at HSN
                  generalize chgsAt (treeO l) (treeO (joinO l ops)) (ns.take i) = Q at *
                  generalize (⟨nd, lookT (treeO l) nd, lookT (treeO (joinO l ops)) nd⟩ : ChgR) = cr at *
                  clear he1 he2 hec1 hec2 hsame
                  go_wp2_with (first
                    | (at_builtin; go_loud ((refine OwnRow.append (R := fun c xs => xs = chgC c) (w0 := w4) (W := wc) w4.heap.size (by rfl) (.tmp 67) (.tmp 72) 31 76 _ 7 72 rfl Tryz.underlying31 chgInfo rfl (by decide) (by decide) _ Q cr [.int .i64 nd, .bool i1, .int .i64 t1, .string n1, .bool i2, .int .i64 t2, .string n2] (by rfl) (by simp [Act.eval]) HCC.out rfl (by simp [Value.oneCell']) HOC.out HBW.out HBW.out.size ?hl ?_; (case hl => omega); intro v8 w8 ho hb8 hg hat; have HO8 := Lib.hid ho; have HB8 := Lib.hid hb8; clear ho hb8 hg hat)))
                    | (fail "no arm"))
                  go_roundw
                  case rel => exact ⟨i + 1, by go_num, HL3'.out, Lib.hid (by rw [HSN.out]; exact HO8.out), HB8⟩
                  case measure => have := HL3'.out; simp [RowKit.intOf]; omega
            · obtain rfl : i = ns.length := by omega
              have HOE := Lib.hid HO.out
              rw [← HCH.out] at HOE
              have kb := pw_cell_below HBX.out (pw_cell_below HB4.out KV3.out)
              go_wp2
              have hDV : D < V.heap.size := blk_lt HKD.out
              have s2 := HB2.out.size
              have s3 := HT3.out.size
              have s4 := HB4.out.size
              have sx := HBX.out.size
              have sv := HBV.out.size
              have hDD := HDD.out
              have hdr : V.drew.heap.size = V.heap.size := rfl
              have hKX : wr.heap[D]? = some (.deferred (some [])) := by
                rw [HBX.out.block D (by omega), HB4.out.block D (by omega), HT3.out.block D (by omega) (fun h => by have := hlw D h; omega), HB2.out.block D (by omega)]
                exact HKD.out
              refine ⟨by simp, .inl ⟨_, _, rfl, run_takeDeferred (w := wr) hKX, ⟨_, results_tmp3 rfl _ _ _, ?_⟩⟩⟩
              have hR : R = ⟨N, chgsO l (joinO l ops), 0, joinO l ops⟩ := by rw [HP.out]; simp [hfull]
              rw [hR]
              have PE := put_end (o := .deferred none) (l' := joinO l ops) (W := W) (X := wr) (F := F) (F' := F3) (B := w4.heap.size) (cs := chgsO l (joinO l ops)) (vc := u5) hKX HOE.out ((HL3.out.below HB4.out).below (HBX.out.mono (by omega))) (fun b h => ⟨(HF3.out b h).elim .inl (fun h => .inr (by omega)), by have := HL3.out.lt b h; omega, (HF3.out b h).elim (fun h => by have := hlw b h; omega) (fun h => by omega)⟩) (by omega) ((Tr.Touch.below (F := F) (HBV.out.trans (((below_drew1 (Below.refl _ _)).trans HB2.out).mono sv))).trans (G := F) (HT3.out.trans (G := F) (Tr.Touch.below (HB4.out.trans (HBX.out.mono s4))) (fun _ _ h => h)) (fun _ _ h => h)) (by omega)
              first | exact ⟨_, _, _, rfl, PE⟩ | exact ⟨_, rfl, _, PE.1, _, PE.2⟩
    case stop =>
      rintro D c pre W _ _ h _
      exact h.elim
end Go.Proofs.YtkmdmjlepmmejaaGreatDoor.Ol
/- What a batch does, as the laws need it; what the chapter's example comes to. -/
namespace Go.Proofs.YtkmdmjlepmmejaaGreatDoor.Ol
open Go.RowKit Go.Sort Go.Proofs.YtkmdmjlepmmejaaGreatDoorW.PrintWords Tr

theorem OpsAt.nil (w : World) : OpsAt w none 0 [] := ⟨rfl, by omega, fun h => absurd h (by omega)⟩
theorem OpsAt.one {w : World} {b : Nat} {p : OpR} (h : OpIn b 0 p w) : OpsAt w (some ⟨b, 0, none⟩) 1 [p] :=
  ⟨rfl, by omega, fun _ => ⟨b, 0, rfl, fun i hi => by
    obtain rfl : i = 0 := by simp only [List.length_singleton] at hi; omega
    exact h⟩⟩
/-- What a batch does, with what the laws carry on. -/
theorem put_law (w0 W : World) (F : Nat → Prop) (p : Nat) (most : Int) (l ops : List OpR) (A : Option Addr) (n c : Nat) (H : LogAt W F p most l) (hok : LogOk most l) (ho : OpsAt W A n ops) (hs : ∀ o ∈ ops, o.name.size ≤ 9223372036854775807)
    (hT : Tabs w0) (hB : Below w0.heap.size w0 W) (hF : ∀ b, F b → w0.heap.size ≤ b) (hl : l.length + n ≤ 1000000) (hmost : most ≤ 1000000) :
    Calls Tryz.prog 10 #[.pointer (some ⟨p, 0, none⟩), .slice A n c] W fun e w' => ∃ (Ac : Option Addr) (cc B : Nat) (F' : Nat → Prop), e = .returned (.tuple #[.int .i64 (putR most l ops).n, .slice Ac (putR most l ops).chgs.length cc, .int .i64 (putR most l ops).e]) ∧
      OwnRow (fun c xs => xs = chgC c) 76 7 w' B (.slice Ac (putR most l ops).chgs.length cc) (putR most l ops).chgs ∧ W.heap.size ≤ B ∧ LogAt w' F' p most (putR most l ops).l ∧ LogOk most (putR most l ops).l ∧ (∀ b, F' b → (F b ∨ W.heap.size ≤ b) ∧ b < B) ∧ (∀ b, F' b → w0.heap.size ≤ b) ∧ Tr.Touch F W w' ∧ Below w0.heap.size w0 w' := by
  refine (put_calls w0 W F p most l ops A n c H hok ho hs hT hB hF hl hmost).mono ?_
  rintro e w' ⟨vc, B, F', he, hr, hlog, hF', hBs, ht⟩
  obtain ⟨Ac, cc, rfl, _, _⟩ := OwnRow.reads hr
  exact ⟨Ac, cc, B, F', he, hr, hBs, hlog, hok.put ops, hF', fun b hb => ((hF' b hb).1).elim (hF b) (Nat.le_trans hB.size), ht, hB.trans (ht.toBelow hB.size hF)⟩

/-- A batch whose outcome is known. -/
theorem put_eq (w0 W : World) (F : Nat → Prop) (p : Nat) (most : Int) (l ops : List OpR) (A : Option Addr) (n c : Nat) (k : Int) (cs : List ChgR) (er : Int) (l' : List OpR) (hq : putR most l ops = ⟨k, cs, er, l'⟩) (H : LogAt W F p most l) (hok : LogOk most l) (ho : OpsAt W A n ops) (hs : ∀ o ∈ ops, o.name.size ≤ 9223372036854775807)
    (hT : Tabs w0) (hB : Below w0.heap.size w0 W) (hF : ∀ b, F b → w0.heap.size ≤ b) (hl : l.length + n ≤ 1000000) (hmost : most ≤ 1000000) :
    Calls Tryz.prog 10 #[.pointer (some ⟨p, 0, none⟩), .slice A n c] W fun e w' => ∃ (Ac : Option Addr) (cc B : Nat) (F' : Nat → Prop), e = .returned (.tuple #[.int .i64 k, .slice Ac cs.length cc, .int .i64 er]) ∧
      OwnRow (fun c xs => xs = chgC c) 76 7 w' B (.slice Ac cs.length cc) cs ∧ W.heap.size ≤ B ∧ LogAt w' F' p most l' ∧ (∀ b, F' b → (F b ∨ W.heap.size ≤ b) ∧ b < B) ∧ (∀ b, F' b → w0.heap.size ≤ b) ∧ Tr.Touch F W w' ∧ Below w0.heap.size w0 w' := by
  refine (put_law w0 W F p most l ops A n c H hok ho hs hT hB hF hl hmost).mono ?_
  rw [hq]
  rintro e w' ⟨Ac, cc, B, F', he, hr, hBs, hlog, _, hF', hF2, ht, hb⟩
  exact ⟨Ac, cc, B, F', he, hr, hBs, hlog, hF', hF2, ht, hb⟩
/-- What a Put comes to, wherever it stands in a law. -/
abbrev PutC (w : World) (most : Int) (l ops : List OpR) (k : Int) (nc : Nat) (er : Int) (l' : List OpR) : Prop := ∀ (W : World) (F : Nat → Prop) (p : Nat) (A : Option Addr) (c : Nat), LogAt W F p most l → OpsAt W A ops.length ops → Below w.heap.size w W → (∀ b, F b → w.heap.size ≤ b) →
    Calls Tryz.prog 10 #[.pointer (some ⟨p, 0, none⟩), .slice A ops.length c] W fun e w' => ∃ (Ac : Option Addr) (cc : Nat) (F' : Nat → Prop), e = .returned (.tuple #[.int .i64 k, .slice Ac nc cc, .int .i64 er]) ∧
      LogAt w' F' p most l' ∧ (∀ b, F' b → F b ∨ W.heap.size ≤ b) ∧ (∀ b, F' b → w.heap.size ≤ b) ∧ Tr.Touch F W w' ∧ Below w.heap.size w w'
theorem put_c {w : World} {most : Int} {l ops : List OpR} {k : Int} {cs : List ChgR} {er : Int} {l' : List OpR} (hq : putR most l ops = ⟨k, cs, er, l'⟩) (hok : LogOk most l) (hs : ∀ o ∈ ops, o.name.size ≤ 9223372036854775807) (hT : Tabs w) (hl : l.length + ops.length ≤ 1000000) (hmost : most ≤ 1000000) : PutC w most l ops k cs.length er l' := fun W F p A c H ho hB hF =>
  (put_eq w W F p most l ops A _ c k cs er l' hq H hok ho hs hT hB hF hl hmost).mono fun _ _ ⟨Ac, cc, _, F', he, _, _, hlog, hF', hF2, ht, hb⟩ => ⟨Ac, cc, F', he, hlog, fun b h => (hF' b h).1, hF2, ht, hb⟩
end Go.Proofs.YtkmdmjlepmmejaaGreatDoor.Ol
/- The chapter's example (logs): what awake answers. -/
namespace Go.Proofs.YtkmdmjlepmmejaaGreatDoor.Ol
open Go.RowKit Go.Sort Go.Proofs.YtkmdmjlepmmejaaGreatDoorW.PrintWords Tr

theorem exA_in {g : Nat} {w : World} (h0 : w.cell? ⟨g, 0, none⟩ = some (.int .i64 2)) (h1 : w.cell? ⟨g, 1, none⟩ = some (.int .i64 0)) (h2 : w.cell? ⟨g, 2, none⟩ = some (.int .i64 257)) (h3 : w.cell? ⟨g, 3, none⟩ = some (.int .i64 256)) (h4 : w.cell? ⟨g, 4, none⟩ = some (.string ⟨#[98]⟩)) : OpIn g 0 exA w := ⟨h0, h1, h2, h3, h4⟩
theorem exB_in {g : Nat} {w : World} (h0 : w.cell? ⟨g, 0, none⟩ = some (.int .i64 1)) (h1 : w.cell? ⟨g, 1, none⟩ = some (.int .i64 0)) (h2 : w.cell? ⟨g, 2, none⟩ = some (.int .i64 256)) (h3 : w.cell? ⟨g, 3, none⟩ = some (.int .i64 0)) (h4 : w.cell? ⟨g, 4, none⟩ = some (.string ⟨#[97]⟩)) : OpIn g 0 exB w := ⟨h0, h1, h2, h3, h4⟩
theorem okA : LogOk 5 [exA] := by
  have := (log0 (most := 5) (by decide)).put [exA]
  rw [ex1] at this
  exact this
theorem ex1_calls (w0 W : World) (F : Nat → Prop) (p g : Nat) (H : LogAt W F p 5 []) (ho : OpIn g 0 exA W) (hT : Tabs w0) (hB : Below w0.heap.size w0 W) (hF : ∀ b, F b → w0.heap.size ≤ b) :
    Calls Tryz.prog 10 #[.pointer (some ⟨p, 0, none⟩), .slice (some ⟨g, 0, none⟩) 1 1] W fun e w' => ∃ (Ac : Option Addr) (cc : Nat) (F' : Nat → Prop), e = .returned (.tuple #[.int .i64 1, .slice Ac 0 cc, .int .i64 0]) ∧ LogAt w' F' p 5 [exA] ∧ (∀ b, F' b → w0.heap.size ≤ b) ∧ Below w0.heap.size w0 w' := by
  refine (put_law w0 W F p 5 [] [exA] _ 1 1 H (log0 (by decide)) (OpsAt.one ho) (fun o h => by rw [List.mem_singleton.1 h]; show (1 : Nat) ≤ 9223372036854775807; omega) hT hB hF (by simp) (by decide)).mono ?_
  rw [ex1]
  rintro e w' ⟨Ac, cc, B, F', he, _, _, hl, _, _, hF', _, hb⟩
  exact ⟨Ac, cc, F', he, hl, hF', hb⟩
theorem ex2_calls (w0 W : World) (F : Nat → Prop) (p g : Nat) (H : LogAt W F p 5 [exA]) (ho : OpIn g 0 exB W) (hT : Tabs w0) (hB : Below w0.heap.size w0 W) (hF : ∀ b, F b → w0.heap.size ≤ b) :
    Calls Tryz.prog 10 #[.pointer (some ⟨p, 0, none⟩), .slice (some ⟨g, 0, none⟩) 1 1] W fun e w' => ∃ (Ac : Option Addr) (cc : Nat) (F' : Nat → Prop), e = .returned (.tuple #[.int .i64 1, .slice Ac 2 cc, .int .i64 0]) ∧ LogAt w' F' p 5 [exB, exA] ∧ Below w0.heap.size w0 w' := by
  obtain ⟨x, y, hxy⟩ := ex2
  refine (put_law w0 W F p 5 [exA] [exB] _ 1 1 H okA (OpsAt.one ho) (fun o h => by rw [List.mem_singleton.1 h]; show (1 : Nat) ≤ 9223372036854775807; omega) hT hB hF (by simp) (by decide)).mono ?_
  rw [hxy]
  rintro e w' ⟨Ac, cc, B, F', he, _, _, hl, _, _, hF', _, hb⟩
  exact ⟨Ac, cc, F', he, hl, hb⟩
theorem extop_calls (W : World) (F : Nat → Prop) (p : Nat) (H : LogAt W F p 5 [exB, exA]) : Calls Tryz.prog 16 #[.pointer (some ⟨p, 0, none⟩)] W fun e w' => e = .returned (.int .i64 2) ∧ Below W.heap.size W w' := log_top W F p 5 _ H (by simp)
set_option maxHeartbeats 2000000 in
theorem awake_calls (w : World) (hT : Tabs w) :
    Calls Tryz.prog 7 #[] w fun e w' => e = .returned (.bool true) ∧ Below w.heap.size w w' := by
  have HT := Lib.hid hT
  have HB := Lib.hid (Below.refl w.heap.size w)
  clear hT
  go_enter Tryz.func7, Tryz.ntmps7
  go_wp2_with (first
    | (go_at_call 8; go_loud ((with_reducible refine Calls.mono (log_new _ 5 (by decide)) ?_); rintro e w1 ⟨p, F, rfl, hlog, hF, hb⟩; have HL := Lib.hid hlog; have HF := Lib.hid hF; clear hlog hF; have HBn := Lib.hid (below_step (by repeat (first | (with_reducible exact HB.out) | apply below_alloc | apply pw_below_drewN | apply below_drew1 | exact HB.out)) hb); clear hb HB; have HB := HBn; clear HBn))
    | (go_at_call 10; go_loud ((with_reducible refine Calls.mono (ex1_calls w _ F p w1.heap.size (HL.out.below (by repeat (first | exact Below.refl _ _ | apply below_drew1 | apply below_alloc | apply pw_below_drewN))) (exA_in (by go_cell) (by go_cell) (by go_cell) (by go_cell) (by go_cell)) HT.out (by repeat (first | (with_reducible exact HB.out) | apply below_alloc | apply pw_below_drewN | apply below_drew1 | exact HB.out)) HF.out) ?_); rintro e w2 ⟨A2, c2, F2, rfl, hlog, hF, hb⟩; have HL2 := Lib.hid hlog; have HF2 := Lib.hid hF; have HBn := Lib.hid hb; clear HL HF hlog hF hb HB; have HB := HBn; clear HBn))
    | (go_at_call 10; go_loud ((with_reducible refine Calls.mono (ex2_calls w _ F2 p w2.heap.size (HL2.out.below (by repeat (first | exact Below.refl _ _ | apply below_drew1 | apply below_alloc | apply pw_below_drewN))) (exB_in (by go_cell) (by go_cell) (by go_cell) (by go_cell) (by go_cell)) HT.out (by repeat (first | (with_reducible exact HB.out) | apply below_alloc | apply pw_below_drewN | apply below_drew1 | exact HB.out)) HF2.out) ?_); rintro e w3 ⟨A3, c3, F3, rfl, hlog, hb⟩; have HL3 := Lib.hid hlog; have HBn := Lib.hid hb; clear HL2 HF2 hlog hb HB; have HB := HBn; clear HBn))
    | (go_at_call 16; go_loud ((with_reducible refine Calls.mono (extop_calls _ F3 p (HL3.out.below (by repeat (first | exact Below.refl _ _ | apply below_drew1 | apply below_alloc | apply pw_below_drewN)))) ?_); rintro e w4 ⟨rfl, hb⟩; have HBn := Lib.hid (below_step (by repeat (first | (with_reducible exact HB.out) | apply below_alloc | apply pw_below_drewN | apply below_drew1 | exact HB.out)) hb); clear hb HB; have HB := HBn; clear HBn))
    | (fail "no arm"))
  go_ret
  exact ⟨rfl, (by repeat (first | (with_reducible exact HB.out) | apply below_alloc | apply pw_below_drewN | apply below_drew1 | exact HB.out))⟩
end Go.Proofs.YtkmdmjlepmmejaaGreatDoor.Ol
/- Opening arguments of plain data, whatever their make: what a reading's cells say, kind by kind. -/
namespace Go.Proofs.YtkmdmjlepmmejaaGreatDoorW.Open
open Go.RowKit Go.Proofs.YtkmdmjlepmmejaaGreatDoorW.PrintWords Go.ChangeShapes

/-- What is read at type t is of the kind d, and ok. -/
def Opens {α : Type} (P : Program) (t : TypeId) (d : Kd α) (ok : α → Prop) : Prop :=
  P.cellsOf t = d.sz ∧ ∀ (H : Type) (enc : TypeId × Value → H) (w : World) (fuel : Nat) (cs : List Value) (x : DataW H × List MemPlace), DataW.trod enc P w 0 (fun _ => true) true fuel t cs = some x → ∃ y, d.K w y cs ∧ ok y

theorem Opens.int {P : Program} {t : TypeId} {k : IntKind} (ht : P.underlying t = some (.int k)) (hc : P.cellsOf t = 1) : Opens P t (Kd.int k) (fun n => (Lit.int k n).wf = true) :=
  ⟨hc, fun _ _ _ _ _ _ h => by obtain ⟨n, rfl, _, hw⟩ := DataW.trod_int ht h; exact ⟨n, rfl, hw⟩⟩
theorem Opens.bool {P : Program} {t : TypeId} (ht : P.underlying t = some .bool) (hc : P.cellsOf t = 1) : Opens P t Kd.bool (fun _ => True) :=
  ⟨hc, fun _ _ _ _ _ _ h => by obtain ⟨n, rfl, _⟩ := DataW.trod_bool ht h; exact ⟨n, rfl, trivial⟩⟩
theorem Opens.string {P : Program} {t : TypeId} (ht : P.underlying t = some .string) (hc : P.cellsOf t = 1) : Opens P t Kd.string (fun s => s.size ≤ maxLen) :=
  ⟨hc, fun _ _ _ _ _ _ h => by obtain ⟨n, rfl, _, hs⟩ := DataW.trod_string ht h; exact ⟨n, rfl, hs⟩⟩

theorem Opens.slice {α : Type} {P : Program} {t e : TypeId} {d : Kd α} {ok : α → Prop} (ht : P.underlying t = some (.slice e)) (hc : P.cellsOf t = 1) (he : Opens P e d ok) :
    Opens P t (Kd.slice e d) (fun xs => xs.length ≤ maxLen ∧ ∀ x ∈ xs, ok x) := by
  obtain ⟨hsz, hop⟩ := he
  refine ⟨hc, fun H enc w fuel cs x h => ?_⟩
  rcases DataW.trod_slice ht h with ⟨rfl, _⟩ | ⟨a, len, cap, elems, rest, n, _, rfl, _, _, hl, hm, hlen, hel, _, _⟩
  · exact ⟨[], ⟨none, 0, rfl, by simp, rfl, by simp, by simp⟩, by simp, by simp⟩
  · have each : ∀ i, i < len → ∃ y c, c.length = d.sz ∧ d.K w y c ∧ ok y ∧ ∀ j u, c[j]? = some u → w.cell? (a.add (i * d.sz + j)) = some u := by
      intro i hi
      have h1 := hel i hi
      rw [List.getElem?_eq_getElem (by omega)] at h1
      obtain ⟨c, hcs, hy⟩ := Option.bind_eq_some_iff.1 h1
      obtain ⟨_, hcl, hcell⟩ := World.cells?_some hcs
      obtain ⟨y, hK, hok⟩ := hop H enc w n c _ hy
      refine ⟨y, c, by rw [hcl, hsz], hK, hok, fun j u hu => ?_⟩
      have hj : j < c.length := (List.getElem?_eq_some_iff.1 hu).1
      have := hcell j (by omega)
      rw [hu, hsz, add_add] at this
      exact this
    have build : ∀ m, m ≤ len → ∃ xs : List α, xs.length = m ∧ (∀ x ∈ xs, ok x) ∧ ∀ j p, xs[j]? = some p → ∃ c, c.length = d.sz ∧ d.K w p c ∧ ∀ i u, c[i]? = some u → w.cell? (a.add (j * d.sz + i)) = some u := by
      intro m
      induction m with
      | zero => intro _; exact ⟨[], rfl, by simp, fun j p h => by simp at h⟩
      | succ m ih =>
        intro hm'
        obtain ⟨xs, hx, hok, hall⟩ := ih (by omega)
        obtain ⟨y, c, hcl, hK, hoky, hcell⟩ := each m (by omega)
        refine ⟨xs ++ [y], by simp [hx], ?_, ?_⟩
        · intro z hz
          rcases List.mem_append.1 hz with h' | h'
          · exact hok z h'
          · rw [List.mem_singleton.1 h']; exact hoky
        · intro j p hj
          rcases Nat.lt_or_ge j xs.length with h' | h'
          · rw [List.getElem?_append_left h'] at hj; exact hall j p hj
          · have hj' := (List.getElem?_eq_some_iff.1 hj).1
            obtain rfl : j = xs.length := by simp at hj'; omega
            have : y = p := by simpa using hj
            subst this
            rw [hx]
            exact ⟨c, hcl, hK, hcell⟩
    obtain ⟨xs, hx, hok, hall⟩ := build len (Nat.le_refl _)
    subst hx
    simp only [maxLen] at hm
    exact ⟨xs, ⟨some a, cap, rfl, hl, rfl, by omega, fun _ => ⟨a, rfl, hall⟩⟩, by simp only [maxLen]; omega, hok⟩

/-- Fields in line: from offset n on. -/
def OpensF {α : Type} (P : Program) (fs : List Field) (n : Nat) (d : Kd α) (ok : α → Prop) : Prop :=
  ∀ (H : Type) (enc : TypeId × Value → H) (w : World) (fuel : Nat) (cs : List Value), cs.length = n + d.sz → (∀ f ∈ fs, ∃ x, DataW.trod enc P w 0 (fun _ => true) true fuel f.type ((cs.drop f.offset).take (P.cellsOf f.type)) = some x) → ∃ y, d.K w y (cs.drop n) ∧ ok y
theorem OpensF.one {α : Type} {P : Program} {f : Field} {d : Kd α} {ok : α → Prop} (h : Opens P f.type d ok) : OpensF P [f] f.offset d ok := by
  intro H enc w fuel cs hl hall
  obtain ⟨x, hx⟩ := hall f (by simp)
  have := h.2 H enc w fuel _ _ hx
  rw [h.1, List.take_of_length_le (by simp; omega)] at this
  exact this
theorem OpensF.cons {α β : Type} {P : Program} {f : Field} {fs : List Field} {d : Kd α} {d' : Kd β} {ok : α → Prop} {ok' : β → Prop} {n : Nat} (h : Opens P f.type d ok) (hs : OpensF P fs n d' ok') (hn : n = f.offset + d.sz) : OpensF P (f :: fs) f.offset (Kd.pair d d') (fun y => ok y.1 ∧ ok' y.2) := by
  intro H enc w fuel cs hl hall
  obtain ⟨x, hx⟩ := hall f (by simp)
  obtain ⟨y, hK, hok⟩ := h.2 H enc w fuel _ _ hx
  have hl' : cs.length = n + d'.sz := by rw [hl, hn]; show f.offset + (d.sz + d'.sz) = _; omega
  obtain ⟨y', hK', hok'⟩ := hs H enc w fuel cs hl' (fun g hg => hall g (by simp [hg]))
  rw [h.1] at hK
  refine ⟨(y, y'), ⟨_, _, ?_, hK, hK'⟩, hok, hok'⟩
  rw [hn, ← List.drop_drop, List.take_append_drop]
theorem Opens.struct {α : Type} {P : Program} {t : TypeId} {fs : Array Field} {d : Kd α} {ok : α → Prop} (ht : P.underlying t = some (.struct fs)) (hc : P.cellsOf t = d.sz) (h : OpensF P fs.toList 0 d ok) : Opens P t d ok := by
  refine ⟨hc, fun H enc w fuel cs x hx => ?_⟩
  obtain ⟨xs, n, rfl, _, hl, hlen, hf⟩ := DataW.trod_struct ht hx
  have := h H enc w n cs (by rw [hl, hc]; omega) (fun f hf' => by
    obtain ⟨i, hi⟩ := List.getElem?_of_mem hf'
    have hi' : fs[i]? = some f := by simpa using hi
    have h2 := hf i f hi'
    have h3 : i < xs.length := by rw [hlen]; exact (Array.getElem?_eq_some_iff.1 hi').1
    rw [List.getElem?_eq_getElem h3] at h2
    exact ⟨_, h2⟩)
  simpa using this
theorem Opens.iso {α β : Type} {P : Program} {t : TypeId} {d : Kd α} {ok : α → Prop} (f : β → α) (g : α → β) (hfg : ∀ x, f (g x) = x) (h : Opens P t d ok) : Opens P t (Kd.iso d f) (fun y => ok (f y)) :=
  ⟨h.1, fun H enc w fuel cs x hx => by obtain ⟨y, hK, hok⟩ := h.2 H enc w fuel cs x hx; exact ⟨g y, by show d.K w (f (g y)) cs; rw [hfg]; exact hK, by show ok (f (g y)); rw [hfg]; exact hok⟩⟩

/-- An argument is opened: its value by its cells, and what these say. -/
theorem Opens.arg {α : Type} {H : Type} {enc : TypeId × Value → H} {P : Program} {w : World} {t : TypeId} {v : Value} {x : DataW H} {p : List MemPlace} {d : Kd α} {ok : α → Prop} (h : Opens P t d ok) (ht : DataW.Trod enc P w 0 (fun _ => true) true t v x p) : ∃ y, d.K w y v.cells.toList ∧ ok y := by
  obtain ⟨fuel, hf⟩ := ht
  exact h.2 H enc w fuel _ _ hf
end Go.Proofs.YtkmdmjlepmmejaaGreatDoorW.Open
/- A small operation as an argument. -/
namespace Go.Proofs.YtkmdmjlepmmejaaGreatDoor
open Go.RowKit Go.Proofs.YtkmdmjlepmmejaaGreatDoorW.Open Go.Proofs.YtkmdmjlepmmejaaGreatDoorW.PrintWords

theorem byte_wf {n : Int} (h : (Lit.int .u8 n).wf = true) : 0 ≤ n ∧ n < 256 := by
  have : 0 ≤ n ∧ n ≤ 255 := by simpa [Lit.wf, IntKind.min, IntKind.max, IntKind.signed, IntKind.bits] using h
  omega
abbrev TinyT := Int × (Int × (Int × (Int × Int)))
def tinyCs (x : TinyT) : Array Value := #[.int .u8 x.1, .int .u8 x.2.1, .int .u8 x.2.2.1, .int .u8 x.2.2.2.1, .int .u8 x.2.2.2.2]
abbrev tinyKd : Kd TinyT := Kd.pair (Kd.int .u8) (Kd.pair (Kd.int .u8) (Kd.pair (Kd.int .u8) (Kd.pair (Kd.int .u8) (Kd.int .u8))))
abbrev tinyOk (x : TinyT) : Prop := (Lit.int .u8 x.1).wf = true ∧ (Lit.int .u8 x.2.1).wf = true ∧ (Lit.int .u8 x.2.2.1).wf = true ∧ (Lit.int .u8 x.2.2.2.1).wf = true ∧ (Lit.int .u8 x.2.2.2.2).wf = true
def TinyIn (x : TinyT) : Prop := (0 ≤ x.1 ∧ x.1 < 256) ∧ (0 ≤ x.2.1 ∧ x.2.1 < 256) ∧ (0 ≤ x.2.2.1 ∧ x.2.2.1 < 256) ∧ (0 ≤ x.2.2.2.1 ∧ x.2.2.2.1 < 256) ∧ (0 ≤ x.2.2.2.2 ∧ x.2.2.2.2 < 256)
set_option maxRecDepth 20000 in
theorem tinyOpens : Opens Tryz.prog 58 tinyKd tinyOk :=
  Opens.struct Tryz.underlying58 (by kernel_rfl)
    (OpensF.cons (Opens.int Tryz.underlying5 (by kernel_rfl)) (OpensF.cons (Opens.int Tryz.underlying5 (by kernel_rfl)) (OpensF.cons (Opens.int Tryz.underlying5 (by kernel_rfl)) (OpensF.cons (Opens.int Tryz.underlying5 (by kernel_rfl)) (OpensF.one (Opens.int Tryz.underlying5 (by kernel_rfl))) rfl) rfl) rfl) rfl)
theorem tinyCs_of {W : World} {x : TinyT} {cs : Array Value} (h : tinyKd.K W x (Value.cells (.agg cs)).toList) : cs = tinyCs x := by
  obtain ⟨c1, _, e, h1, ⟨c2, _, rfl, h2, ⟨c3, _, rfl, h3, ⟨c4, c5, rfl, h4, h5⟩⟩⟩⟩ := h
  have e1 : c1 = [.int .u8 x.1] := h1
  have e2 : c2 = [.int .u8 x.2.1] := h2
  have e3 : c3 = [.int .u8 x.2.2.1] := h3
  have e4 : c4 = [.int .u8 x.2.2.2.1] := h4
  have e5 : c5 = [.int .u8 x.2.2.2.2] := h5
  subst e1 e2 e3 e4 e5
  have : cs.toList = (tinyCs x).toList := e
  exact Array.toList_inj.1 this
theorem tinyIn {x : TinyT} (h : tinyOk x) : TinyIn x := ⟨byte_wf h.1, byte_wf h.2.1, byte_wf h.2.2.1, byte_wf h.2.2.2.1, byte_wf h.2.2.2.2⟩
theorem tinySelf (x : TinyT) : x = x := rfl
end Go.Proofs.YtkmdmjlepmmejaaGreatDoor
