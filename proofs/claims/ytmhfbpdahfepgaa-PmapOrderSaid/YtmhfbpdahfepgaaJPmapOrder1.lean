/-
  The row of the law PmapOrder, out of its walk.
-/
import Derived.Test.YtmhfbpdahfepgaaB9
import Derived.Test.YtmhfbpdahfepgaaWLast
import Derived.Test.YtmhfbpdahfepgaaWWords
import Derived.ProofKit
import Derived.OpenShut
import Derived.ChangeArms
import Derived.Test.YtmhfbpdahfepgaaRows
import Derived.WalkKit
import Derived.ShutString
import Derived.ChangeOld
import Derived.Below
/- Plain laws for PmapOrder: a version of keys in any order. -/
namespace Go.Proofs.Ytmhfbpdahfepgaa.Pm
open Go.RowKit Go.Proofs.YtmhfbpdahfepgaaW.PrintWords
attribute [local go_sem high] eqHd
section
variable {P : Program} {ops : Array Oper} {o : Oper} {a : Act} {Q : Exit → Act → World → Prop} {Kc : Act → World → Prop} {α : Type}
/-- append(v, ys...), ys being read. -/
theorem own_reads_step {R : α → List Value → Prop} {w0 W : World} (base : Nat) (hw : Region.wanted o (yielded ops a.tmps) = true) (s x : Operand) (t e : TypeId) (z : Value) (size bytes : Nat)
    (ho : o.op = .call { callee := .builtin .append, args := #[s, x], argTypes := #[t, t] })
    (ht : P.underlying t = some (.slice e)) (hinfo : (P.info? e).map (fun i => (i.zero, i.size, i.bytes)) = some (some z, size, bytes)) (hz : z.cells.size = size) (hs0 : 0 < size) (hb0 : 0 < bytes)
    (v : Value) (A : Option Addr) (c : Nat) (ps qs : List α) (hs : a.eval s = v) (hx : a.eval x = .slice A qs.length c) (hone : ∀ p cs, R p cs → ∀ y ∈ cs, y.oneCell' = true)
    (HO : OwnRow R e size W base v ps) (hrd : ReadsRow R size W A qs.length qs)
    (HB : Below base w0 W) (hbase : base ≤ W.heap.size) (hl : (ps.length + qs.length) * bytes ≤ 140737488355328)
    (h : ∀ v1 w1, OwnRow R e size w1 base v1 (ps ++ qs) → Below base w0 w1 → W.grownBy w1 v.ownBlock → (v1.ownBlock = v.ownBlock ∨ ∃ b, v1.ownBlock = some b ∧ W.heap.size ≤ b) → Kc (a.put o.dst v1) w1) :
    if Region.wanted o (yielded ops a.tmps) = true then Oper.wp P o a W Kc Q else Kc (a.put o.dst undef) W := by
  obtain ⟨i0, hi, hzz⟩ := Option.map_eq_some_iff.1 hinfo
  simp only [Prod.mk.injEq] at hzz
  obtain ⟨hz0, hz1, hz2⟩ := hzz
  have hlen : ps.length + qs.length ≤ 140737488355328 := Nat.le_trans (Nat.le_mul_of_pos_right _ hb0) hl
  obtain ⟨inner, hown, hr⟩ := HO
  have hrun : ∃ v1 w1, (Builtin.append_ #[t, t] o.type #[v, .slice A qs.length c]).run P W = .ok v1 w1 ∧ OwnRow R e size w1 base v1 (ps ++ qs) ∧ W.grownBy w1 v.ownBlock ∧ (v1.ownBlock = v.ownBlock ∨ ∃ b, v1.ownBlock = some b ∧ W.heap.size ≤ b) := by
    rcases A with _ | ad
    · have h0 : qs.length = 0 := by
        rcases Nat.eq_zero_or_pos qs.length with h0 | h0
        · exact h0
        · obtain ⟨ad, h, _⟩ := hrd.2.2 h0
          cases h
      obtain rfl : qs = [] := List.eq_nil_of_length_eq_zero h0
      refine ⟨v, W, ?_, by rw [List.append_nil]; exact ⟨inner, hown, hr⟩, World.grownBy.refl W _, .inl rfl⟩
      rcases hown.2 with ⟨rfl, hn⟩ | ⟨g, cap, cur, rfl, _, _, hnc, _⟩
      · simp [Builtin.append_, run_underlying ht, sizeOf, typeInfo, hi, Builtin.lenOf, Builtin.firstCells]
      · simp [Builtin.append_, run_underlying ht, sizeOf, typeInfo, hi, Builtin.lenOf, Builtin.firstCells, hnc, storeCells]
    · obtain ⟨news, hnr, hnc⟩ := ReadsRow.inner_ hrd
      have hone : ∀ u ∈ news, u.oneCell' = true := by
        intro u hu
        obtain ⟨q, hq, rfl⟩ := List.mem_iff_getElem.1 hu
        have hql : q / size < qs.length := by
          rw [Nat.div_lt_iff_lt_mul hs0]
          rw [← hnr.1]
          exact hq
        have hc := hnr.2 (q / size) _ (List.getElem?_eq_getElem hql)
        refine hone _ _ hc _ ?_
        rw [List.mem_iff_getElem?]
        refine ⟨q % size, ?_⟩
        rw [List.getElem?_take, if_pos (Nat.mod_lt _ hs0), List.getElem?_drop, Nat.mul_comm, Nat.div_add_mod, List.getElem?_eq_getElem hq]
      obtain ⟨v1, w1, hrun, h2, hg, _, hat⟩ := run_append_own_at (P := P) W base t o.type e i0 z size bytes ht hi hz0 hz1 hz2 hz hs0 v ps.length inner hown ad qs.length c news hnr.1 hnc hone (by simp only [maxLen]; omega) hl hbase
      have hat' : v1.ownBlock = v.ownBlock ∨ ∃ b, v1.ownBlock = some b ∧ W.heap.size ≤ b := by
        rcases hat with hat | hat
        · exact .inl hat
        · exact .inr ⟨_, hat, Nat.le_refl _⟩
      exact ⟨v1, w1, hrun, ⟨inner ++ news, by rw [List.length_append]; exact h2, Kd.reps_append hr hnr⟩, hg, hat'⟩
  obtain ⟨v1, w1, hrun, hR, hg, hat⟩ := hrun
  rw [if_pos hw]
  unfold Oper.wp execOp
  simp only [ho, resolve, invoke, builtin, Sem.run_bind, Sem.run_pure, Result.andThen_ok, List.map_toArray, List.map_cons, List.map_nil, hs, hx, hrun]
  exact h v1 w1 hR (HB.grown hg hbase (own_base hown)) hg hat
end
abbrev u8R : Int → List Value → Prop := fun x cs => cs = [.int .u8 x]
theorem u8_one (x : Int) (cs : List Value) (h : u8R x cs) : ∀ y ∈ cs, y.oneCell' = true := by subst h; simp [Value.oneCell']
theorem reads_u8 {W : World} {A : Option Addr} {xs : List Int} (h : ReadsInt W .u8 A xs.length xs) : ReadsRow u8R 1 W A xs.length xs := by
  refine ⟨rfl, h.2.1, fun h0 => ?_⟩
  obtain ⟨ad, rfl, _⟩ := h.at_ 0 (by omega) (by omega)
  refine ⟨ad, rfl, fun j p hj => ?_⟩
  obtain ⟨hlt, rfl⟩ := List.getElem?_eq_some_iff.mp hj
  obtain ⟨ad', e, hc⟩ := h.at_ j (by omega) (by omega)
  cases e
  rw [Int.toNat_natCast, show rd xs j = xs[j] by unfold rd; rw [Int.toNat_natCast, List.getD_eq_getElem?_getD, List.getElem?_eq_getElem hlt]; rfl] at hc
  exact ⟨[.int .u8 xs[j]], rfl, rfl, fun i u hu => by
    cases i with
    | zero => simp at hu; rw [← hu, Nat.mul_one, Nat.add_zero]; exact hc
    | succ i => simp at hu⟩
theorem u8_at {W : World} {B : Nat} {A : Option Addr} {n c : Nat} {xs : List Int} (h : OwnRow u8R 5 1 W B (.slice A n c) xs) (i : Nat) (hi : i < xs.length) : ∃ ad, A = some ad ∧ W.cell? (ad.add i) = some (.int .u8 (rd xs i)) := by
  obtain ⟨A', c', e, hc, hr⟩ := OwnRow.reads h
  injection e with e1 e2 e3
  subst e1
  obtain ⟨ad, e, hcell⟩ := hr.2.2 (by omega)
  obtain ⟨cs, hl, hR, hcc⟩ := hcell i xs[i] (List.getElem?_eq_getElem hi)
  refine ⟨ad, e, ?_⟩
  have := hcc 0 (.int .u8 xs[i]) (by rw [hR]; rfl)
  rw [Nat.mul_one, Nat.add_zero] at this
  rw [this, show rd xs i = xs[i] by unfold rd; rw [Int.toNat_natCast, List.getD_eq_getElem?_getD, List.getElem?_eq_getElem hi]; rfl]
theorem OwnU.fr {W W' : World} {B : Nat} {v : Value} {l : List Int} (h : OwnRow u8R 5 1 W B v l) (hF : Fr W W') : OwnRow u8R 5 1 W' B v l := by
  obtain ⟨inner, ho, hr⟩ := h
  exact ⟨inner, own_fr ho hF (by decide) (by decide) (by decide), hr⟩
theorem p_at {W : World} {B : Nat} {A : Option Addr} {n c : Nat} {ps : List (Int × Int)} (h : OwnP W B (.slice A n c) ps) (i : Nat) (hi : i < ps.length) : ∃ ad, A = some ad ∧ W.cell? (ad.add (i * 2)) = some (.int .i64 ps[i].1) := by
  obtain ⟨A', c', e, hc, hr⟩ := OwnRow.reads h
  injection e with e1 e2 e3
  subst e1
  obtain ⟨ad, e, hcell⟩ := hr.2.2 (by omega)
  obtain ⟨cs, hl, hR, hcc⟩ := hcell i ps[i] (List.getElem?_eq_getElem hi)
  refine ⟨ad, e, ?_⟩
  have := hcc 0 (.int .i64 ps[i].1) (by rw [hR]; rfl)
  rw [Nat.add_zero] at this
  exact this
theorem sorted_ext : ∀ {l l' : List (Int × Int)}, Sorted cmpI l → Sorted cmpI l' → (∀ p, p ∈ l ↔ p ∈ l') → l = l'
  | [], [], _, _, _ => rfl
  | [], q :: m, _, _, h => absurd ((h q).mpr (by simp)) (by simp)
  | p :: l, [], _, _, h => absurd ((h p).mp (by simp)) (by simp)
  | p :: l, q :: m, hs, hs', h => by
    obtain ⟨h1, h2⟩ := List.pairwise_cons.mp hs
    obtain ⟨h1', h2'⟩ := List.pairwise_cons.mp hs'
    have e : p = q := by
      have hp := (h p).mp (by simp)
      have hq := (h q).mpr (by simp)
      simp only [List.mem_cons] at hp hq
      rcases hp with hp | hp
      · exact hp
      · rcases hq with hq | hq
        · exact hq.symm
        · have a := cmpI_lt.mp (h1' p hp)
          have b := cmpI_lt.mp (h1 q hq)
          omega
    subst e
    have irr : ∀ x ∈ l, x ≠ p := fun x hx e => by have := cmpI_lt.mp (h1 x hx); rw [e] at this; omega
    have irr' : ∀ x ∈ m, x ≠ p := fun x hx e => by have := cmpI_lt.mp (h1' x hx); rw [e] at this; omega
    rw [sorted_ext h2 h2' (fun x => ⟨fun hx => by
      have := (h x).mp (by simp [hx])
      simp only [List.mem_cons] at this
      exact this.resolve_left (irr x hx), fun hx => by
      have := (h x).mpr (by simp [hx])
      simp only [List.mem_cons] at this
      exact this.resolve_left (irr' x hx)⟩)]
theorem lput_iff {k v : Int} {p : Int × Int} : ∀ {l : List (Int × Int)}, Sorted cmpI l → (p ∈ lput cmpI k v l ↔ p = (k, v) ∨ (p ∈ l ∧ p.1 ≠ k))
  | [], _ => by simp [lput]
  | q :: l, hs => by
    obtain ⟨h1, h2⟩ := List.pairwise_cons.mp hs
    rw [lput]
    by_cases c1 : k < q.1
    · rw [if_pos (cmpI_lt.mpr c1)]
      constructor
      · intro h
        simp only [List.mem_cons] at h ⊢
        rcases h with h | h | h
        · exact .inl h
        · exact .inr ⟨.inl h, by rw [h]; omega⟩
        · exact .inr ⟨.inr h, by have := cmpI_lt.mp (h1 p h); omega⟩
      · rintro (h | ⟨h, _⟩)
        · simp [h]
        · exact List.mem_cons_of_mem _ h
    · rw [if_neg (by rw [cmpI_lt]; exact c1)]
      by_cases c2 : q.1 < k
      · rw [if_pos (cmpI_gt.mpr c2)]
        simp only [List.mem_cons, lput_iff h2]
        constructor
        · rintro (h | h | ⟨h, hn⟩)
          · exact .inr ⟨.inl h, by rw [h]; omega⟩
          · exact .inl h
          · exact .inr ⟨.inr h, hn⟩
        · rintro (h | ⟨h | h, hn⟩)
          · exact .inr (.inl h)
          · exact .inl h
          · exact .inr (.inr ⟨h, hn⟩)
      · have e : k = q.1 := by omega
        rw [if_neg (by rw [cmpI_gt]; exact c2)]
        simp only [List.mem_cons]
        constructor
        · rintro (h | h)
          · exact .inl h
          · exact .inr ⟨.inr h, by have := cmpI_lt.mp (h1 p h); omega⟩
        · rintro (h | ⟨h | h, hn⟩)
          · exact .inl h
          · exact absurd (by rw [h]; exact e.symm) hn
          · exact .inr h
/-- The pairs of keys that are put with the number behind. -/
def ordP (l : List Int) : Nat → List (Int × Int)
  | 0 => []
  | n + 1 => lput cmpI (rd l n) (rd l n + 1) (ordP l n)
theorem ordP_sorted (l : List Int) : ∀ n, Sorted cmpI (ordP l n)
  | 0 => List.Pairwise.nil
  | n + 1 => lput_sorted cmpI_ok (ordP_sorted l n)
theorem ordP_len (l : List Int) : ∀ n, (ordP l n).length ≤ n
  | 0 => Nat.le_refl _
  | n + 1 => by have := ordP_len l n; have h := lput_len (rd l n) (rd l n + 1) (ordP l n); rw [ordP]; omega
theorem ordP_mem (l : List Int) : ∀ n p, p ∈ ordP l n ↔ ∃ i < n, p = (rd l i, rd l i + 1)
  | 0, p => by simp [ordP]
  | n + 1, p => by
    rw [ordP, lput_iff (ordP_sorted l n), ordP_mem l n p]
    constructor
    · rintro (h | ⟨⟨i, hi, h⟩, _⟩)
      · exact ⟨n, by omega, h⟩
      · exact ⟨i, by omega, h⟩
    · rintro ⟨i, hi, h⟩
      by_cases e : rd l i = rd l n
      · exact .inl (by rw [h, e])
      · have : i ≠ n := fun e2 => e (by rw [e2])
        exact .inr ⟨⟨i, by omega, h⟩, by rw [h]; exact e⟩
theorem rd_get (l : List Int) (i : Nat) (h : i < l.length) : rd l i = l[i] := by
  unfold rd; rw [Int.toNat_natCast, List.getD_eq_getElem?_getD, List.getElem?_eq_getElem h]; rfl
theorem ordP_all (l : List Int) (p : Int × Int) : p ∈ ordP l l.length ↔ ∃ x ∈ l, p = (x, x + 1) := by
  rw [ordP_mem]
  constructor
  · rintro ⟨i, hi, h⟩
    exact ⟨l[i], List.getElem_mem hi, by rw [← rd_get l i hi]; exact h⟩
  · rintro ⟨x, hx, h⟩
    obtain ⟨i, hi, rfl⟩ := List.mem_iff_getElem.mp hx
    exact ⟨i, hi, by rw [rd_get l i hi]; exact h⟩
theorem ordP_turned (l : List Int) (k : Nat) : ordP (l.drop k ++ l.take k) l.length = ordP l l.length := by
  have hlen : (l.drop k ++ l.take k).length = l.length := by
    rw [List.length_append, List.length_drop, List.length_take]; omega
  refine sorted_ext (ordP_sorted _ _) (ordP_sorted _ _) (fun p => ?_)
  have h := ordP_all (l.drop k ++ l.take k) p
  rw [hlen] at h
  rw [h, ordP_all]
  have hm : ∀ x, x ∈ l.drop k ++ l.take k ↔ x ∈ l := by
    intro x
    rw [List.mem_append, or_comm, ← List.mem_append, List.take_append_drop]
  constructor
  · rintro ⟨x, hx, h⟩; exact ⟨x, (hm x).mp hx, h⟩
  · rintro ⟨x, hx, h⟩; exact ⟨x, (hm x).mpr hx, h⟩
theorem ldel_head {p : Int × Int} {l : List (Int × Int)} (h : Sorted cmpI (p :: l)) : ldel cmpI p.1 (p :: l) = l := by
  obtain ⟨h1, h2⟩ := List.pairwise_cons.mp h
  unfold ldel
  rw [List.filter_cons, if_neg (by simp [cmpI_ok.refl])]
  exact ldel_all (fun q hq => by have := h1 q hq; omega)
theorem lhas_head (p : Int × Int) (l : List (Int × Int)) : (lhas cmpI p.1 (p :: l)).isSome = true := by
  unfold lhas
  rw [List.find?_cons, show decide (cmpI p.1 p.1 = 0) = true from decide_eq_true (cmpI_ok.refl p.1)]; rfl
end Go.Proofs.Ytmhfbpdahfepgaa.Pm
/- The walk of the law PmapOrder: whatever the input, the call returns true, and what was in memory stays. -/
namespace Go.Proofs.Ytmhfbpdahfepgaa
open Go.RowKit Go.Proofs.YtmhfbpdahfepgaaW.PrintWords Pm
attribute [local go_sem high] eqHd
theorem u8Info4 : (Try.prog.info? 5).map (fun i => (i.zero, i.size, i.bytes)) = some (some (.int .u8 0), 1, 1) := by kernel_rfl
theorem pnew_law4 (w V : World) (hb : Below w.heap.size w V) : Calls Try.prog 10 #[.int .i64 4000, .func (.func 11) #[] #[]] V fun e w' => (∃ m aa, e = .returned (.pointer (some ⟨m, 0, none⟩)) ∧ MapB w w' w.heap.size m aa (arNew 4000)) ∧ Below V.heap.size V w' := pnew_ok w V w.heap.size 4000 hb hb.size (by decide)
set_option maxRecDepth 100000 in
set_option maxHeartbeats 16000000 in
theorem pmapOrder_walk0 (A : Option Addr) (c : Nat) (l : List Int) (by' : Int) (w : World) (hr : ReadsInt w .u8 A l.length l) (hc : l.length ≤ c) (hb : ∀ x ∈ l, 0 ≤ x ∧ x < 256) (hl : l.length ≤ 30) (hl1 : 1 ≤ l.length) (hby : 0 ≤ by' ∧ by' < 256) :
    Calls Try.prog 7 #[.slice A l.length c, .int .u8 by'] w fun e w' => e = .returned (.bool true) ∧ Below w.heap.size w w' := by
  have HB := Lib.hid (Below.refl w.heap.size w)
  have hb0 := hby.1
  have hb1 := hby.2
  obtain ⟨kk, hk⟩ : ∃ kk : Nat, by' % (l.length : Int) = kk := ⟨(by' % (l.length : Int)).toNat, by have := Int.emod_nonneg by' (show (l.length : Int) ≠ 0 by omega); omega⟩
  have hkl : kk < l.length := by have := Int.emod_lt_of_pos by' (show (0 : Int) < l.length by omega); omega
  have q1 : decide ((30 : Int) < (l.length : Int)) = false := decide_eq_false (by omega)
  have q2 : ((l.length : Int) == 0) = false := by rw [beq_eq_false_iff_ne]; omega
  obtain ⟨i0, hi0, hz0⟩ := Option.map_eq_some_iff.1 u8Info4
  have hz1 : i0.size = 1 := congrArg (fun x => x.2.1) hz0
  obtain ⟨A1, hcut, hA1⟩ := print_cut (P := Try.prog) 22 5 .i64 Try.underlying22 hi0 hz1 A l.length c kk (by omega)
  obtain ⟨htk, hrt, hlt⟩ := print_take_int (P := Try.prog) (k := .u8) 22 5 Try.underlying22 hi0 hz1 A c l (kk : Int) (by omega) (by omega) hc
  rw [Int.toNat_natCast] at htk hrt hlt
  have hlen1 : (l.take kk).length = kk := by rw [List.length_take]; omega
  rw [hlen1] at htk hrt hlt
  have HTK := Lib.hid htk
  have HRT := Lib.hid hrt
  clear htk hrt hlt hlen1 hi0 hz0 hz1
  have HRI := Lib.hid hr
  have HBY := Lib.hid hb
  have HCUT := Lib.hid hcut
  have HA1 := Lib.hid hA1
  clear hr hb hby hcut hA1
  go_enter Try.func7, Try.ntmps7
  go_wp2_with (first
    | (go_at_call 9; go_loud ((refine Calls.mono (awake_calls _) ?_); rintro e w1 ⟨rfl, hb⟩; have HBn := Lib.hid (below_step (by repeat (first | (with_reducible exact HB.out) | apply below_alloc | apply pw_below_drewN | apply below_drew1 | exact HB.out)) hb); clear hb HB; have HB := HBn; clear HBn))
    | (go_at_call 10; go_loud (
        (with_reducible refine Calls.mono (pnew_law4 w _ (by repeat (first | (with_reducible exact HB.out) | apply below_alloc | apply pw_below_drewN | apply below_drew1 | exact HB.out))) ?_);
        rintro e2 w2 ⟨⟨m, aa, rfl, hm⟩, hb2⟩;
        have HM2 := Lib.hid hm;
        clear hm hb2))
    | (fail "no arm"))
  have hcut := HCUT.out
  have htk := HTK.out
  rw [hk]
  have hdl : (l.drop kk).length = l.length - kk := List.length_drop
  have htl : (l.take kk).length = kk := by rw [List.length_take]; omega
  have HRD := Lib.hid (fun (V : World) (hb : Below w.heap.size w V) => reads_u8 (show ReadsInt V .u8 A1 (l.drop kk).length (l.drop kk) by rw [hdl]; exact HA1.out V .u8 l hc (HRI.out.below hb)))
  have HRT2 := Lib.hid (fun (V : World) (hb : Below w.heap.size w V) => reads_u8 (show ReadsInt V .u8 A (l.take kk).length (l.take kk) by rw [htl]; exact HRT.out V (HRI.out.below hb)))
  have HBW := Lib.hid HM2.out.bel
  have HB2 := Lib.hid (Below.refl w2.heap.size w2)
  clear HB
  have HB := HB2
  clear HB2
  go_cut [8] from 45 to 53 (fun v8 wx => ∃ (A8 : Option Addr) (n8 c8 : Nat), v8 = .slice A8 n8 c8 ∧ Hid (OwnRow u8R 5 1 wx w2.heap.size (.slice A8 n8 c8) (l.drop kk ++ l.take kk)) ∧ Hid (Below w2.heap.size w2 wx))
  case first =>
    go_region_law (first
      | (go_loud (
          (refine own_reads_step (R := u8R) (w0 := w2) (W := (w2.alloc (.cells #[] 5 (0, 0))).drew) w2.heap.size rfl (.tmp 45) (.tmp 48) 22 5 _ 1 1 rfl Try.underlying22 u8Info4 rfl (by decide) (by decide) (.slice (some ⟨w2.heap.size, 0, none⟩) 0 0) A1 (c - kk) [] (l.drop kk) (by rfl) (by rw [hdl]; rfl) u8_one (OwnRow.below (OwnRow.lit (ps := []) w2 w2.heap.size (inner := []) (Reps.none _ _) (Nat.le_refl _) (by simp)) (below_drew1 (Below.refl _ _))) (HRD.out _ (HBW.out.trans ((show Below w2.heap.size w2 _ from (by repeat (first | exact Below.refl _ _ | apply below_drew1 | apply below_alloc | apply pw_below_drewN))).mono HM2.out.sz))) (by repeat (first | exact Below.refl _ _ | apply below_drew1 | apply below_alloc | apply pw_below_drewN)) (by simp [World.size_alloc]) ?hlA ?_);
          (case hlA => rw [hdl]; simp; omega);
          intro v8 w8 ho hb hg hat;
          rw [List.nil_append] at ho;
          obtain ⟨A8, c8, rfl, _⟩ := OwnRow.slice_ ho;
          have HO8 := Lib.hid ho; have HB8 := Lib.hid hb; have HZ8 := Lib.hid hb.size;
          simp only [hdl];
          clear ho hb hg hat))
      | (go_loud (
          (refine own_reads_step (R := u8R) (w0 := w2) (W := w8) w2.heap.size rfl (.tmp 49) (.tmp 52) 22 5 _ 1 1 rfl Try.underlying22 u8Info4 rfl (by decide) (by decide) _ A c (l.drop kk) (l.take kk) (by rfl) (by rw [htl]; rfl) u8_one (by rw [hdl] at HO8; exact HO8.out) (HRT2.out _ (HBW.out.trans (HB8.out.mono HM2.out.sz))) HB8.out HZ8.out ?hlB ?_);
          (case hlB => rw [hdl, htl]; omega);
          intro v9 w9 ho hb hg hat;
          obtain ⟨A9, c9, rfl, _⟩ := OwnRow.slice_ ho;
          have HO9 := Lib.hid ho; have HB9 := Lib.hid hb;
          clear ho hb hg hat))
      | (fail "no arm"))
    all_goals
      go_wp2
      go_meet
      exact ⟨A9, _, c9, rfl, Lib.hid (by have h := HO9.out; rw [List.length_append, hdl, htl] at h; exact h), HB9⟩
  case rest =>
    obtain ⟨A8, n8, c8, rfl, HO8, HB8⟩ := hcut
    have HTO := Lib.hid (ordP_turned l kk)
    have hTL : (l.drop kk ++ l.take kk).length = l.length := by rw [List.length_append, hdl, htl]; omega
    have HTB := Lib.hid (show ∀ x ∈ l.drop kk ++ l.take kk, 0 ≤ x ∧ x < 256 from fun x hx => by
      rw [List.mem_append] at hx
      rcases hx with hx | hx
      · exact HBY.out x (List.mem_of_mem_drop hx)
      · exact HBY.out x (List.mem_of_mem_take hx))
    clear hcut htk hdl htl HRD HRT2 HCUT HTK HA1 HRT HB
    generalize (l.drop kk ++ l.take kk) = TL at *
    have hn8 : n8 = TL.length := by
      obtain ⟨A', c', e, _, _⟩ := OwnRow.reads HO8.out
      injection e
    subst hn8
    have HTL := Lib.hid hTL
    clear hTL
    have HM8 := Lib.hid (HM2.out.below HB8.out)
    go_wp2
    have HM9 := Lib.hid (HM8.out.below (show Below wc.heap.size wc ((wc.alloc (.cells #[.int .i64 0, .int .i64 0] 28 (0, 0))).alloc (.cells #[.int .i64 0, .int .i64 0] 28 (0, 0))) from (by repeat (first | exact Below.refl _ _ | apply below_drew1 | apply below_alloc | apply pw_below_drewN))))
    have HO9 := Lib.hid (OwnRow.below HO8.out (show Below wc.heap.size wc ((wc.alloc (.cells #[.int .i64 0, .int .i64 0] 28 (0, 0))).alloc (.cells #[.int .i64 0, .int .i64 0] 28 (0, 0))) from (by repeat (first | exact Below.refl _ _ | apply below_drew1 | apply below_alloc | apply pw_below_drewN))))
    have HA9 := Lib.hid (blk_below (blk_new wc (.cells #[.int .i64 0, .int .i64 0] 28 (0, 0))) (show Below (wc.alloc (.cells #[.int .i64 0, .int .i64 0] 28 (0, 0))).heap.size _ ((wc.alloc (.cells #[.int .i64 0, .int .i64 0] 28 (0, 0))).alloc (.cells #[.int .i64 0, .int .i64 0] 28 (0, 0))) from (by repeat (first | exact Below.refl _ _ | apply below_drew1 | apply below_alloc | apply pw_below_drewN))))
    have HB9 := Lib.hid (show ((wc.alloc (.cells #[.int .i64 0, .int .i64 0] 28 (0, 0))).alloc (.cells #[.int .i64 0, .int .i64 0] 28 (0, 0))).heap[wc.heap.size + 1]? = some (.cells #[.int .i64 0, .int .i64 0] 28 (0, 0)) from alloc_at (by simp [World.size_alloc]))
    have hba : w.heap.size ≤ wc.heap.size := HM8.out.sz
    have hbb : w.heap.size ≤ wc.heap.size + 1 := Nat.le_succ_of_le hba
    have hab : wc.heap.size ≠ wc.heap.size + 1 := Nat.ne_of_lt (Nat.lt_succ_self _)
    generalize ((wc.alloc (.cells #[.int .i64 0, .int .i64 0] 28 (0, 0))).alloc (.cells #[.int .i64 0, .int .i64 0] 28 (0, 0))) = V9 at *
    generalize wc.heap.size + 1 = bb at *
    generalize wc.heap.size = ba at *
    clear HM8 HO8 HM2
    go_loopw [11] (fun v11 W' => ∃ (i : Nat) (a : Ar N2) (ta tb : T2), v11 = .int .i64 i ∧ i ≤ l.length ∧ Hid (Ver a ta) ∧ Hid (Ver a tb) ∧ Hid (pairs ta = ordP l i) ∧ Hid (pairs tb = ordP TL i) ∧ Hid (MapB w W' w.heap.size m aa a) ∧ Hid (ArOk (60 * i) a) ∧ Hid (4000 - 50 * (i : Int) ≤ a.room) ∧ Hid (W'.heap[ba]? = some (.cells #[.int .i64 ta.h.s, .int .i64 ta.h.g] 28 (0, 0))) ∧ Hid (W'.heap[bb]? = some (.cells #[.int .i64 tb.h.s, .int .i64 tb.h.g] 28 (0, 0))) ∧ Hid (OwnRow u8R 5 1 W' w2.heap.size (.slice A8 TL.length c8) TL)) (fun v11 _ => l.length - (RowKit.intOf v11).toNat)
    case atStart => exact ⟨0, arNew 4000, .leaf, .leaf, rfl, Nat.zero_le _, Lib.hid (Ver.leaf _), Lib.hid (Ver.leaf _), Lib.hid rfl, Lib.hid rfl, HM9, Lib.hid (arNew_ok 4000 (by decide)), Lib.hid (by rw [arNew_room]; decide), HA9, HB9, HO9⟩
    case round =>
      clear HM9 HA9 HB9 HO9
      obtain ⟨i, a, ta, tb, rfl, hi, HVA, HVB, HPA, HPB, HM, HAK, HRO, HBA, HBB, HOT⟩ := hrel
      have hla := ordP_len l i
      have hlb := ordP_len TL i
      have hpa : (pairs ta).length ≤ 30 := by rw [HPA.out]; omega
      have hpb : (pairs tb).length ≤ 30 := by have := HTL.out; rw [HPB.out]; omega
      by_cases hlt : i < l.length
      · have h8a := hi_60 HVA.out.avl (by omega)
        have h8b := hi_60 HVB.out.avl (by omega)
        have hroom : 3 * ta.hi + 1 ≤ a.room := by have := HRO.out; omega
        have HRA := Lib.hid (show a.room - 25 ≥ 3 * tb.hi + 1 by have := HRO.out; omega)
        obtain ⟨ad, rfl, hcell⟩ := (HRI.out.below HM.out.bel).at_ i (by omega) (by omega)
        rw [Int.toNat_natCast] at hcell
        have hadl := cell_lt hcell
        have hby := rd_byte HBY.out i hlt
        have hx0 := hby.1
        have hx1 := hby.2
        have HSA := Lib.hid (show ordP l (i + 1) = lput cmpI (rd l i) (rd l i + 1) (ordP l i) from rfl)
        have HSB := Lib.hid (show ordP TL (i + 1) = lput cmpI (rd TL i) (rd TL i + 1) (ordP TL i) from rfl)
        generalize rd l i = x at *
        have hwx : IntKind.i64.wrap x = x := by rw [IntKind.wrap_i64]; omega
        have hwx1 : IntKind.i64.wrap (x + 1) = x + 1 := by rw [IntKind.wrap_i64]; omega
        have hwi : IntKind.i64.wrap ((i : Int) + 1) = ((i + 1 : Nat) : Int) := by rw [IntKind.wrap_i64]; omega
        have HPU1 := Lib.hid (fun (V : World) (hb : Below wr.heap.size wr V) => mput_law w V w.heap.size m aa a ta x (x + 1) (60 * i) (HM.out.below hb) HVA.out HAK.out (by omega) (by omega) hroom)
        simp only [hdV] at HPU1
        have k0 := blk_cell HBA.out 0
        have k1 := blk_cell HBA.out 1
        simp at k0 k1
        have hltr := blk_lt HBA.out
        have hBW1 := HM.out.sz
        have HB := Lib.hid (Below.refl wr.heap.size wr)
        clear hby hroom
        go_wp2
        go_cut [12, 13] from 62 to 79 (fun v12 v13 wx => ∃ eb : Nat, v12 = .pointer (some ⟨eb, 0, none⟩) ∧ v13 = .bool true ∧ Hid (CutE w wr wx w.heap.size m aa (60 * i) a ta (lput cmpI x (x + 1) (pairs ta)) eb))
        case first =>
          go_region_with (first
            | (go_at_call 16; go_loud (
                (with_reducible refine Calls.mono (HPU1.out _ (by repeat (first | (with_reducible exact HB.out) | apply below_alloc | apply pw_below_drewN | apply below_drew1 | exact HB.out))) ?_);
                rintro e w3 heo;
                obtain ⟨a2, t2, md, gn, Am, cm, Ag, cg, lm, lg, S, hp, rfl, hfs, hF⟩ := heo.open;
                have HS3 := Lib.hid S; have HP3 := Lib.hid hp; have HFS3 := Lib.hid hfs; have HF3 := Lib.hid (Fr.trans (Fr.below (W := wr) (by repeat (first | (with_reducible exact HB.out) | apply below_alloc | apply pw_below_drewN | apply below_drew1 | exact HB.out))) hF);
                (try (have GE := Lib.hid (FrX.typedF hF (k := wr.heap.size) (cs := #[.int .i64 0, .int .i64 0, .slice none 0 0, .slice none 0 0]) (t := 39) (by first | exact blk_new _ _ | exact blk_drew (blk_new _ _))); have p0 := blk_cell GE.out 0; have p1 := blk_cell GE.out 1; have p2 := blk_cell GE.out 2; have p3 := blk_cell GE.out 3; have z0 := blk_frozen GE.out 0; have z1 := blk_frozen GE.out 1; have z2 := blk_frozen GE.out 2; have z3 := blk_frozen GE.out 3; simp at p0 p1 p2 p3));
                clear S hp hfs hF heo))
            | (fail "no arm"))
          all_goals
            go_wp2
            go_meet
            refine ⟨_, rfl, rfl, ?_⟩
            first
              | with_reducible exact Lib.hid (cutE_alloc HS3.out HP3.out HFS3.out HF3.out)
              | with_reducible exact Lib.hid (cutE_store HS3.out HP3.out HFS3.out HF3.out GE.out hBW1 (Nat.le_refl _))
        case rest =>
          obtain ⟨ea, rfl, rfl, HCE⟩ := hcut
          obtain ⟨a2, ta2, md, gn, mv, gv, S, hp, hea, hfs, hF, hge⟩ := HCE.out
          have HSA2 := Lib.hid S
          have HPA2 := Lib.hid hp
          have HM2 := Lib.hid hfs.mb
          have HF2 := Lib.hid hF
          have HEA := Lib.hid hea
          have HBA2 := Lib.hid (FrX.typedF hF HBA.out)
          have HBB2 := Lib.hid (FrX.typedF hF HBB.out)
          have HOT2 := Lib.hid (OwnU.fr HOT.out hF)
          have HVB2 := Lib.hid (HVB.out.keep S.keep)
          have hroom2 : 3 * tb.hi + 1 ≤ a2.room := by have h1 := S.room; have h2 := S.len; have h3 := HRA.out; omega
          have HAK2 := Lib.hid S.ok
          clear HCE S hp hea hfs hF HB k0 k1 hcell hadl hwx hwx1
          have HXA := Lib.hid hx0
          obtain ⟨ad2, e8, hcell⟩ := u8_at HOT2.out i (by have := HTL.out; omega)
          subst e8
          have hadl := cell_lt hcell
          have hby := rd_byte HTB.out i (by have := HTL.out; omega)
          have hy0 := hby.1
          have hy1 := hby.2
          generalize rd TL i = y at *
          have hwx : IntKind.i64.wrap y = y := by rw [IntKind.wrap_i64]; omega
          have hwx1 : IntKind.i64.wrap (y + 1) = y + 1 := by rw [IntKind.wrap_i64]; omega
          have HPU2 := Lib.hid (fun (V : World) (hb : Below wc.heap.size wc V) => mput_law w V w.heap.size m aa a2 tb y (y + 1) (60 * i + 30) (HM2.out.below hb) HVB2.out HAK2.out (by omega) (by omega) hroom2)
          simp only [hdV] at HPU2
          have k0 := blk_cell HBB2.out 0
          have k1 := blk_cell HBB2.out 1
          simp at k0 k1
          have hltr2 := blk_lt HBB2.out
          have hBW2 := HM2.out.sz
          have HB := Lib.hid (Below.refl wc.heap.size wc)
          have hTL30 : TL.length ≤ 30 := by have := HTL.out; omega
          have hiT : i < TL.length := by have := HTL.out; omega
          clear hby hroom2
          go_wp2
          go_cut [14, 15] from 79 to 96 (fun v14 v15 wx => ∃ eb : Nat, v14 = .pointer (some ⟨eb, 0, none⟩) ∧ v15 = .bool true ∧ Hid (CutE w wc wx w.heap.size m aa (60 * i + 30) a2 tb (lput cmpI y (y + 1) (pairs tb)) eb))
          case first =>
            go_region_with (first
              | (go_at_call 16; go_loud (
                  (with_reducible refine Calls.mono (HPU2.out _ (by repeat (first | (with_reducible exact HB.out) | apply below_alloc | apply pw_below_drewN | apply below_drew1 | exact HB.out))) ?_);
                  rintro e w3 heo;
                  obtain ⟨a2, t2, md, gn, Am, cm, Ag, cg, lm, lg, S, hp, rfl, hfs, hF⟩ := heo.open;
                  have HS3 := Lib.hid S; have HP3 := Lib.hid hp; have HFS3 := Lib.hid hfs; have HF3 := Lib.hid (Fr.trans (Fr.below (W := wc) (by repeat (first | (with_reducible exact HB.out) | apply below_alloc | apply pw_below_drewN | apply below_drew1 | exact HB.out))) hF);
                  (try (have GE := Lib.hid (FrX.typedF hF (k := wc.heap.size) (cs := #[.int .i64 0, .int .i64 0, .slice none 0 0, .slice none 0 0]) (t := 39) (by first | exact blk_new _ _ | exact blk_drew (blk_new _ _))); have p0 := blk_cell GE.out 0; have p1 := blk_cell GE.out 1; have p2 := blk_cell GE.out 2; have p3 := blk_cell GE.out 3; have z0 := blk_frozen GE.out 0; have z1 := blk_frozen GE.out 1; have z2 := blk_frozen GE.out 2; have z3 := blk_frozen GE.out 3; simp at p0 p1 p2 p3));
                  clear S hp hfs hF heo))
              | (fail "no arm"))
            all_goals
              go_wp2
              go_meet
              refine ⟨_, rfl, rfl, ?_⟩
              first
                | with_reducible exact Lib.hid (cutE_alloc HS3.out HP3.out HFS3.out HF3.out)
                | with_reducible exact Lib.hid (cutE_store HS3.out HP3.out HFS3.out HF3.out GE.out hBW2 (Nat.le_refl _))
          case rest =>
            obtain ⟨eb, rfl, rfl, HCE⟩ := hcut
            obtain ⟨a3, tb2, md3, gn3, mv3, gv3, S3, hp3, heb, hfs3, hF3, hge3⟩ := HCE.out
            have HSB3 := Lib.hid S3
            have HPB3 := Lib.hid hp3
            have HM3 := Lib.hid hfs3.mb
            have hea3 := FrX.typedF hF3 HEA.out
            have HBA3 := Lib.hid (FrX.typedF hF3 HBA2.out)
            have HBB3 := Lib.hid (FrX.typedF hF3 HBB2.out)
            have HOT3 := Lib.hid (OwnU.fr HOT2.out hF3)
            have e0 := blk_cell hea3 0
            have e1 := blk_cell hea3 1
            have f0 := blk_cell heb 0
            have f1 := blk_cell heb 1
            have z0 := blk_frozen HBA3.out 0
            have z1 := blk_frozen HBA3.out 1
            have y0 := blk_frozen HBB3.out 0
            have y1 := blk_frozen HBB3.out 1
            have r0 := blk_cell HBA3.out 0
            have r1 := blk_cell HBA3.out 1
            have s0 := blk_cell HBB3.out 0
            have s1 := blk_cell HBB3.out 1
            simp at e0 e1 f0 f1 r0 r1 s0 s1
            have n1 := typed_ne hea3 HBA3.out (by decide)
            have n2 := typed_ne hea3 HBB3.out (by decide)
            have n3 := typed_ne heb HBA3.out (by decide)
            have n4 := typed_ne heb HBB3.out (by decide)
            have l1 := blk_lt HBA3.out
            have l2 := blk_lt HBB3.out
            have l3 := blk_lt hea3
            have l4 := blk_lt heb
            have hba' : bb ≠ ba := Ne.symm hab
            have p1 := blk_put HBA3.out 0 (.int .i64 ta2.h.s) rfl
            have p2 := blk_put p1 1 (.int .i64 ta2.h.g) rfl
            have b1 := blk_far HBB3.out (show bb ≠ (Addr.mk ba 0 none).block from hba') (.int .i64 ta2.h.s)
            have b2 := blk_far b1 (show bb ≠ (Addr.mk ba 1 none).block from hba') (.int .i64 ta2.h.g)
            have b3 := blk_put b2 0 (.int .i64 tb2.h.s) rfl
            have b4 := blk_put b3 1 (.int .i64 tb2.h.g) rfl
            have p3 := blk_far p2 (show ba ≠ (Addr.mk bb 0 none).block from hab) (.int .i64 tb2.h.s)
            have p4 := blk_far p3 (show ba ≠ (Addr.mk bb 1 none).block from hab) (.int .i64 tb2.h.g)
            have HM4 := Lib.hid ((((HM3.out.setH HBA3.out hba 0 (.int .i64 ta2.h.s)).setH p1 hba 1 (.int .i64 ta2.h.g)).setH b2 hbb 0 (.int .i64 tb2.h.s)).setH b3 hbb 1 (.int .i64 tb2.h.g))
            have HOT4 := Lib.hid (OwnRow.set_ (OwnRow.set_ (OwnRow.set_ (OwnRow.set_ HOT3.out HBA3.out (by decide) 0 (.int .i64 ta2.h.s)) p1 (by decide) 1 (.int .i64 ta2.h.g)) b2 (by decide) 0 (.int .i64 tb2.h.s)) b3 (by decide) 1 (.int .i64 tb2.h.g))
            have HP4 := Lib.hid p4
            have HB4 := Lib.hid b4
            clear HCE S3 hp3 heb hea3 hfs3 hF3 HB k0 k1 hcell hadl hwx hwx1 p1 p2 p3 p4 b1 b2 b3 b4
            go_wp2
            go_roundw
            case rel =>
              refine ⟨i + 1, a3, ta2, tb2, by go_num, by omega, Lib.hid (HSA2.out.ver.keep HSB3.out.keep), Lib.hid HSB3.out.ver, Lib.hid (by rw [HPA2.out, HSA.out, HPA.out]), Lib.hid (by rw [HPB3.out, HSB.out, HPB.out]), HM4, Lib.hid (HSB3.out.ok.more (by omega)), Lib.hid ?_, HP4, HB4, HOT4⟩
              have h1 := HSA2.out.room
              have h2 := HSA2.out.len
              have h3 := HSB3.out.room
              have h4 := HSB3.out.len
              have h5 := HRO.out
              omega
            case measure => simp [RowKit.intOf] <;> omega
      · obtain rfl : i = l.length := by omega
        have HPT := Lib.hid (show pairs tb = pairs ta by rw [HPA.out, HPB.out, HTO.out])
        have k0 := blk_cell HBA.out 0
        have k1 := blk_cell HBA.out 1
        simp at k0 k1
        have hltr := blk_lt HBA.out
        have HW1 := Lib.hid (walk_law w wr w.heap.size m aa a ta HM.out HVA.out (by omega))
        have HW2 := Lib.hid (fun (V : World) (hb : Below wr.heap.size wr V) => walk_law w V w.heap.size m aa a tb (HM.out.below hb) HVB.out (by omega))
        simp only [hdV] at HW1 HW2
        have hszr := HM.out.sz
        go_wp2_with (first
          | (go_at_call 13; go_loud (
              (with_reducible refine Calls.mono HW1.out ?_);
              rintro e5 w5 ⟨p5, h5, rfl, hop, hoh, hb5⟩;
              obtain ⟨A5, c5, rfl, _⟩ := OwnRow.slice_ hop;
              obtain ⟨A6, c6, rfl, _⟩ := OwnRow.slice_ hoh;
              have HO5 := Lib.hid hop; have HB5 := Lib.hid hb5;
              have hbb5 := blk_below HBB.out hb5;
              have s0 := blk_cell hbb5 0; have s1 := blk_cell hbb5 1;
              simp at s0 s1;
              have hlts := blk_lt hbb5;
              clear hop hoh hb5 hbb5))
          | (go_at_call 13; go_loud (
              (with_reducible refine Calls.mono (HW2.out _ HB5.out) ?_);
              rintro e6 w6 ⟨p6, h6, rfl, hop, hoh, hb6⟩;
              rw [HPT.out] at hop;
              obtain ⟨A7, c7, rfl, _⟩ := OwnRow.slice_ hop;
              obtain ⟨A8', c8', rfl, _⟩ := OwnRow.slice_ hoh;
              have HO7 := Lib.hid hop; have HB6 := Lib.hid (HB5.out.trans (hb6.mono HB5.out.size)); have HO56 := Lib.hid (OwnRow.below HO5.out hb6);
              have HSM := Lib.hid (same_law w6 _ _ A5 A7 _ _ c5 c7 (pairs ta) (OwnRow.below HO5.out hb6) hop (by omega));
              clear hop hoh hb6))
          | (go_at_call 15; go_loud ((with_reducible refine Calls.mono HSM.out ?_); rintro e7 w7 ⟨rfl, q7, rfl⟩))
          | (fail "no arm"))
        have HB7 := Lib.hid (pw_below_drewN HB6.out q7)
        have HM7 := Lib.hid (HM.out.below HB7.out)
        have HA7 := Lib.hid (blk_below HBA.out HB7.out)
        have HX7 := Lib.hid (row_low (OwnRow.below HO56.out (pw_below_drewN (Below.refl _ _) q7)) hszr)
        generalize (w6.drewN q7) = V7 at *
        have HXS := Lib.hid HVA.out.sorted
        generalize hX : pairs ta = X at *
        have HX := Lib.hid hX
        clear hX
        have hxl : X.length ≤ 30 := hpa
        have HAK7 := Lib.hid (HAK.out.more (show 60 * l.length ≤ 2000 + 30 * 0 by omega))
        have HRO7 := Lib.hid (show 2000 - 25 * ((0 : Nat) : Int) ≤ a.room by have := HRO.out; omega)
        clear HW1 HW2 HO5 HB5 HO7 HB6 HO56 HSM HM HAK HRO HBA HBB HOT HVB HPB k0 k1 s0 s1
        go_loopw [24] (fun v24 W' => ∃ (i : Nat) (a : Ar N2) (t : T2), v24 = .int .i64 i ∧ i ≤ X.length ∧ Hid (Ver a t) ∧ Hid (pairs t = X.drop i) ∧ Hid (MapB w W' w.heap.size m aa a) ∧ Hid (ArOk (2000 + 30 * i) a) ∧ Hid (2000 - 25 * (i : Int) ≤ a.room) ∧ Hid (W'.heap[ba]? = some (.cells #[.int .i64 t.h.s, .int .i64 t.h.g] 28 (0, 0))) ∧ Hid (OwnP W' w.heap.size (.slice A5 X.length c5) X)) (fun v24 _ => X.length - (RowKit.intOf v24).toNat)
        case atStart => exact ⟨0, a, ta, rfl, Nat.zero_le _, HVA, Lib.hid (by rw [HX.out]; rfl), HM7, HAK7, HRO7, HA7, HX7⟩
        case round =>
          clear HM7 HAK7 HRO7 HA7 HX7 HVA HB7 HX
          obtain ⟨i, a, t, rfl, hi, HV, HP, HM, HAK, HRO, HBX, HXR⟩ := hrel
          have k0 := blk_cell HBX.out 0
          have k1 := blk_cell HBX.out 1
          simp at k0 k1
          have hltr := blk_lt HBX.out
          by_cases hlt : i < X.length
          · obtain ⟨ad5, e5, hcell⟩ := p_at HXR.out i hlt
            subst e5
            have hadl := cell_lt hcell
            have HDR := Lib.hid (show X.drop i = X[i] :: X.drop (i + 1) from List.drop_eq_getElem_cons hlt)
            have HHS := Lib.hid (show (lhas cmpI X[i].1 (pairs t)).isSome = true by rw [HP.out, HDR.out]; exact lhas_head _ _)
            have HLD := Lib.hid (show ldel cmpI X[i].1 (pairs t) = X.drop (i + 1) by rw [HP.out, HDR.out]; exact ldel_head (by rw [← HDR.out]; exact HXS.out.drop))
            have hp30 : (pairs t).length ≤ 30 := by rw [HP.out, List.length_drop]; omega
            generalize X[i].1 = kx at *
            have h8 := hi_60 HV.out.avl (by omega)
            have hroom : 3 * t.hi + 1 ≤ a.room := by have := HRO.out; omega
            have hwi : IntKind.i64.wrap ((i : Int) + 1) = ((i + 1 : Nat) : Int) := by rw [IntKind.wrap_i64]; omega
            have HPU := Lib.hid (fun (V : World) (hb : Below wr.heap.size wr V) => mdel_law w V w.heap.size m aa a t kx (2000 + 30 * i) (HM.out.below hb) HV.out HAK.out (by omega) (by omega) hroom HHS.out)
            simp only [hdV] at HPU
            have hBW := HM.out.sz
            have HB := Lib.hid (Below.refl wr.heap.size wr)
            clear hroom
            go_wp2
            go_cut [25, 26] from 140 to 151 (fun v25 v26 wx => ∃ eb : Nat, v25 = .pointer (some ⟨eb, 0, none⟩) ∧ v26 = .bool true ∧ Hid (CutE w wr wx w.heap.size m aa (2000 + 30 * i) a t (ldel cmpI kx (pairs t)) eb))
            case first =>
              go_region_with (first
                | (go_at_call 23; go_loud (
                (with_reducible refine Calls.mono (HPU.out _ (by repeat (first | (with_reducible exact HB.out) | apply below_alloc | apply pw_below_drewN | apply below_drew1 | exact HB.out))) ?_);
                rintro e w6 heo;
                obtain ⟨a2, t2, md, gn, Am, cm, Ag, cg, lm, lg, S, hp, rfl, hfs, hF⟩ := heo.open;
                have HS3 := Lib.hid S; have HP3 := Lib.hid hp; have HFS3 := Lib.hid hfs; have HF3 := Lib.hid (Fr.trans (Fr.below (W := wr) (by repeat (first | (with_reducible exact HB.out) | apply below_alloc | apply pw_below_drewN | apply below_drew1 | exact HB.out))) hF);
                (try (have GE := Lib.hid (FrX.typedF hF (k := wr.heap.size) (cs := #[.int .i64 0, .int .i64 0, .slice none 0 0, .slice none 0 0]) (t := 39) (by first | exact blk_new _ _ | exact blk_drew (blk_new _ _))); have p0 := blk_cell GE.out 0; have p1 := blk_cell GE.out 1; have p2 := blk_cell GE.out 2; have p3 := blk_cell GE.out 3; have z0 := blk_frozen GE.out 0; have z1 := blk_frozen GE.out 1; have z2 := blk_frozen GE.out 2; have z3 := blk_frozen GE.out 3; simp at p0 p1 p2 p3));
                clear S hp hfs hF heo))
                | (fail "no arm"))
              all_goals
                go_wp2
                go_meet
                refine ⟨_, rfl, rfl, ?_⟩
                first
                  | with_reducible exact Lib.hid (cutE_alloc HS3.out HP3.out HFS3.out HF3.out)
                  | with_reducible exact Lib.hid (cutE_store HS3.out HP3.out HFS3.out HF3.out GE.out hBW (Nat.le_refl _))
            case rest =>
              obtain ⟨eb, rfl, rfl, HCE⟩ := hcut
              obtain ⟨a2, t2, md, gn, mv, gv, S, hp, heb, hfs, hF, hge⟩ := HCE.out
              have HS2 := Lib.hid S
              have HP2 := Lib.hid hp
              have HM6 := Lib.hid hfs.mb
              have HR6 := Lib.hid (FrX.typedF hF HBX.out)
              have HO6 := Lib.hid (OwnP.fr HXR.out hF)
              have e0 := blk_cell heb 0
              have e1 := blk_cell heb 1
              have z0 := blk_frozen HR6.out 0
              have z1 := blk_frozen HR6.out 1
              have r0 := blk_cell HR6.out 0
              have r1 := blk_cell HR6.out 1
              simp at e0 e1 r0 r1
              have hlte := blk_lt heb
              have hltr6 := blk_lt HR6.out
              have hne1 := typed_ne heb HR6.out (by decide)
              have HR7 := Lib.hid (blk_put (blk_put HR6.out 0 (.int .i64 t2.h.s) rfl) 1 (.int .i64 t2.h.g) rfl)
              have HM7 := Lib.hid ((HM6.out.setH HR6.out hba 0 (.int .i64 t2.h.s)).setH (blk_put HR6.out 0 (.int .i64 t2.h.s) rfl) hba 1 (.int .i64 t2.h.g))
              have HO7 := Lib.hid (OwnRow.set_ (OwnRow.set_ HO6.out HR6.out (by decide) 0 (.int .i64 t2.h.s)) (blk_put HR6.out 0 (.int .i64 t2.h.s) rfl) (by decide) 1 (.int .i64 t2.h.g))
              clear HCE S hp heb hfs hF HB k0 k1 hcell
              go_wp2
              go_roundw
              case rel =>
                refine ⟨i + 1, a2, t2, by go_num, by omega, Lib.hid HS2.out.ver, Lib.hid (by rw [HP2.out, HLD.out]), HM7, Lib.hid (HS2.out.ok.more (by omega)), Lib.hid ?_, HR7, HO7⟩
                have h1 := HS2.out.room
                have h2 := HS2.out.len
                have h4 := HRO.out
                omega
              case measure => simp [RowKit.intOf] <;> omega
          · obtain rfl : i = X.length := by omega
            have hz : t = .leaf := pairs_nil (by rw [HP.out, List.length_drop]; omega)
            subst hz
            have HBE := Lib.hid HM.out.bel
            simp only [T.h, H0] at k0 k1
            go_wp2
            go_ret
            exact ⟨rfl, HBE.out.trans (Below.mono (by repeat (first | exact Below.refl _ _ | apply below_drew1 | apply below_alloc | apply pw_below_drewN)) HM.out.sz)⟩
end Go.Proofs.Ytmhfbpdahfepgaa
/- The walk of the law PmapOrder, all inputs. -/
namespace Go.Proofs.Ytmhfbpdahfepgaa
open Go.RowKit Go.Proofs.YtmhfbpdahfepgaaW.PrintWords Pm
set_option maxRecDepth 100000 in
theorem pmapOrder_walk (A : Option Addr) (c : Nat) (l : List Int) (by' : Int) (w : World) (hr : (Kd.int .u8).C w A l.length l) (hc : l.length ≤ c) (hok : l.length ≤ maxLen ∧ ∀ x ∈ l, (Lit.int .u8 x).wf = true) (wn : (Lit.int .u8 by').wf = true) :
    Calls Try.prog 7 #[.slice A l.length c, .int .u8 by'] w fun e w' => e = .returned (.bool true) ∧ Below w.heap.size w w' := by
  have hri := int_of_C hr
  have hb : ∀ x ∈ l, 0 ≤ x ∧ x < 256 := fun x hx => byte_wf (hok.2 x hx)
  have hm1 : l.length ≤ 9223372036854775807 := hri.2.1
  have HB := Lib.hid (Below.refl w.heap.size w)
  by_cases hl : l.length ≤ 30
  · by_cases hl1 : 1 ≤ l.length
    · exact pmapOrder_walk0 A c l by' w hri hc hb hl hl1 (byte_wf wn)
    · have q1 : decide ((30 : Int) < (l.length : Int)) = false := decide_eq_false (by omega)
      have q2 : ((l.length : Int) == 0) = true := by rw [beq_iff_eq]; omega
      have q3 : l.length = 0 := by omega
      clear hri hb hok hr
      rw [q3] at hc ⊢
      clear q3 q1 q2 hl1 hl hm1
      go_enter Try.func7, Try.ntmps7
      go_wp2_with (first
        | (go_at_call 9; go_loud ((refine Calls.mono (awake_calls _) ?_); rintro e w1 ⟨rfl, hb⟩; have HBn := Lib.hid (below_step (by repeat (first | (with_reducible exact HB.out) | apply below_alloc | apply pw_below_drewN | apply below_drew1 | exact HB.out)) hb); clear hb HB; have HB := HBn; clear HBn))
        | (fail "no arm"))
      go_ret
      exact ⟨rfl, (by repeat (first | (with_reducible exact HB.out) | apply below_alloc | apply pw_below_drewN | apply below_drew1 | exact HB.out))⟩
  · have q1 : decide ((30 : Int) < (l.length : Int)) = true := decide_eq_true (by omega)
    clear hri hb hok hr
    go_enter Try.func7, Try.ntmps7
    go_wp2_with (first
      | (go_at_call 9; go_loud ((refine Calls.mono (awake_calls _) ?_); rintro e w1 ⟨rfl, hb⟩; have HBn := Lib.hid (below_step (by repeat (first | (with_reducible exact HB.out) | apply below_alloc | apply pw_below_drewN | apply below_drew1 | exact HB.out)) hb); clear hb HB; have HB := HBn; clear HBn))
      | (fail "no arm"))
    go_ret
    exact ⟨rfl, (by repeat (first | (with_reducible exact HB.out) | apply below_alloc | apply pw_below_drewN | apply below_drew1 | exact HB.out))⟩
end Go.Proofs.Ytmhfbpdahfepgaa
/- Opening arguments of plain data, whatever their make: what a reading's cells say, kind by kind. -/
namespace Go.Proofs.YtmhfbpdahfepgaaW.Open
open Go.RowKit Go.Proofs.YtmhfbpdahfepgaaW.PrintWords Go.ChangeShapes

/-- What is read at type t is of the kind d, and ok. -/
def Opens {α : Type} (P : Program) (t : TypeId) (d : Kd α) (ok : α → Prop) : Prop :=
  P.cellsOf t = d.sz ∧ ∀ (H : Type) (enc : TypeId × Value → H) (w : World) (fuel : Nat) (cs : List Value) (x : DataW H × List MemPlace), DataW.trod enc P w 0 (fun _ => true) true fuel t cs = some x → ∃ y, d.K w y cs ∧ ok y

theorem Opens.int {P : Program} {t : TypeId} {k : IntKind} (ht : P.underlying t = some (.int k)) (hc : P.cellsOf t = 1) : Opens P t (Kd.int k) (fun n => (Lit.int k n).wf = true) :=
  ⟨hc, fun _ _ _ _ _ _ h => by obtain ⟨n, rfl, _, hw⟩ := DataW.trod_int ht h; exact ⟨n, rfl, hw⟩⟩
theorem Opens.bool {P : Program} {t : TypeId} (ht : P.underlying t = some .bool) (hc : P.cellsOf t = 1) : Opens P t Kd.bool (fun _ => True) :=
  ⟨hc, fun _ _ _ _ _ _ h => by obtain ⟨n, rfl, _⟩ := DataW.trod_bool ht h; exact ⟨n, rfl, trivial⟩⟩
theorem Opens.string {P : Program} {t : TypeId} (ht : P.underlying t = some .string) (hc : P.cellsOf t = 1) : Opens P t Kd.string (fun s => s.size ≤ maxLen) :=
  ⟨hc, fun _ _ _ _ _ _ h => by obtain ⟨n, rfl, _, hs⟩ := DataW.trod_string ht h; exact ⟨n, rfl, hs⟩⟩

theorem Opens.slice {α : Type} {P : Program} {t e : TypeId} {d : Kd α} {ok : α → Prop} (ht : P.underlying t = some (.slice e)) (hc : P.cellsOf t = 1) (he : Opens P e d ok) :
    Opens P t (Kd.slice e d) (fun xs => xs.length ≤ maxLen ∧ ∀ x ∈ xs, ok x) := by
  obtain ⟨hsz, hop⟩ := he
  refine ⟨hc, fun H enc w fuel cs x h => ?_⟩
  rcases DataW.trod_slice ht h with ⟨rfl, _⟩ | ⟨a, len, cap, elems, rest, n, _, rfl, _, _, hl, hm, hlen, hel, _, _⟩
  · exact ⟨[], ⟨none, 0, rfl, by simp, rfl, by simp, by simp⟩, by simp, by simp⟩
  · have each : ∀ i, i < len → ∃ y c, c.length = d.sz ∧ d.K w y c ∧ ok y ∧ ∀ j u, c[j]? = some u → w.cell? (a.add (i * d.sz + j)) = some u := by
      intro i hi
      have h1 := hel i hi
      rw [List.getElem?_eq_getElem (by omega)] at h1
      obtain ⟨c, hcs, hy⟩ := Option.bind_eq_some_iff.1 h1
      obtain ⟨_, hcl, hcell⟩ := World.cells?_some hcs
      obtain ⟨y, hK, hok⟩ := hop H enc w n c _ hy
      refine ⟨y, c, by rw [hcl, hsz], hK, hok, fun j u hu => ?_⟩
      have hj : j < c.length := (List.getElem?_eq_some_iff.1 hu).1
      have := hcell j (by omega)
      rw [hu, hsz, add_add] at this
      exact this
    have build : ∀ m, m ≤ len → ∃ xs : List α, xs.length = m ∧ (∀ x ∈ xs, ok x) ∧ ∀ j p, xs[j]? = some p → ∃ c, c.length = d.sz ∧ d.K w p c ∧ ∀ i u, c[i]? = some u → w.cell? (a.add (j * d.sz + i)) = some u := by
      intro m
      induction m with
      | zero => intro _; exact ⟨[], rfl, by simp, fun j p h => by simp at h⟩
      | succ m ih =>
        intro hm'
        obtain ⟨xs, hx, hok, hall⟩ := ih (by omega)
        obtain ⟨y, c, hcl, hK, hoky, hcell⟩ := each m (by omega)
        refine ⟨xs ++ [y], by simp [hx], ?_, ?_⟩
        · intro z hz
          rcases List.mem_append.1 hz with h' | h'
          · exact hok z h'
          · rw [List.mem_singleton.1 h']; exact hoky
        · intro j p hj
          rcases Nat.lt_or_ge j xs.length with h' | h'
          · rw [List.getElem?_append_left h'] at hj; exact hall j p hj
          · have hj' := (List.getElem?_eq_some_iff.1 hj).1
            obtain rfl : j = xs.length := by simp at hj'; omega
            have : y = p := by simpa using hj
            subst this
            rw [hx]
            exact ⟨c, hcl, hK, hcell⟩
    obtain ⟨xs, hx, hok, hall⟩ := build len (Nat.le_refl _)
    subst hx
    simp only [maxLen] at hm
    exact ⟨xs, ⟨some a, cap, rfl, hl, rfl, by omega, fun _ => ⟨a, rfl, hall⟩⟩, by simp only [maxLen]; omega, hok⟩

/-- Fields in line: from offset n on. -/
def OpensF {α : Type} (P : Program) (fs : List Field) (n : Nat) (d : Kd α) (ok : α → Prop) : Prop :=
  ∀ (H : Type) (enc : TypeId × Value → H) (w : World) (fuel : Nat) (cs : List Value), cs.length = n + d.sz → (∀ f ∈ fs, ∃ x, DataW.trod enc P w 0 (fun _ => true) true fuel f.type ((cs.drop f.offset).take (P.cellsOf f.type)) = some x) → ∃ y, d.K w y (cs.drop n) ∧ ok y
theorem OpensF.one {α : Type} {P : Program} {f : Field} {d : Kd α} {ok : α → Prop} (h : Opens P f.type d ok) : OpensF P [f] f.offset d ok := by
  intro H enc w fuel cs hl hall
  obtain ⟨x, hx⟩ := hall f (by simp)
  have := h.2 H enc w fuel _ _ hx
  rw [h.1, List.take_of_length_le (by simp; omega)] at this
  exact this
theorem OpensF.cons {α β : Type} {P : Program} {f : Field} {fs : List Field} {d : Kd α} {d' : Kd β} {ok : α → Prop} {ok' : β → Prop} {n : Nat} (h : Opens P f.type d ok) (hs : OpensF P fs n d' ok') (hn : n = f.offset + d.sz) : OpensF P (f :: fs) f.offset (Kd.pair d d') (fun y => ok y.1 ∧ ok' y.2) := by
  intro H enc w fuel cs hl hall
  obtain ⟨x, hx⟩ := hall f (by simp)
  obtain ⟨y, hK, hok⟩ := h.2 H enc w fuel _ _ hx
  have hl' : cs.length = n + d'.sz := by rw [hl, hn]; show f.offset + (d.sz + d'.sz) = _; omega
  obtain ⟨y', hK', hok'⟩ := hs H enc w fuel cs hl' (fun g hg => hall g (by simp [hg]))
  rw [h.1] at hK
  refine ⟨(y, y'), ⟨_, _, ?_, hK, hK'⟩, hok, hok'⟩
  rw [hn, ← List.drop_drop, List.take_append_drop]
theorem Opens.struct {α : Type} {P : Program} {t : TypeId} {fs : Array Field} {d : Kd α} {ok : α → Prop} (ht : P.underlying t = some (.struct fs)) (hc : P.cellsOf t = d.sz) (h : OpensF P fs.toList 0 d ok) : Opens P t d ok := by
  refine ⟨hc, fun H enc w fuel cs x hx => ?_⟩
  obtain ⟨xs, n, rfl, _, hl, hlen, hf⟩ := DataW.trod_struct ht hx
  have := h H enc w n cs (by rw [hl, hc]; omega) (fun f hf' => by
    obtain ⟨i, hi⟩ := List.getElem?_of_mem hf'
    have hi' : fs[i]? = some f := by simpa using hi
    have h2 := hf i f hi'
    have h3 : i < xs.length := by rw [hlen]; exact (Array.getElem?_eq_some_iff.1 hi').1
    rw [List.getElem?_eq_getElem h3] at h2
    exact ⟨_, h2⟩)
  simpa using this
theorem Opens.iso {α β : Type} {P : Program} {t : TypeId} {d : Kd α} {ok : α → Prop} (f : β → α) (g : α → β) (hfg : ∀ x, f (g x) = x) (h : Opens P t d ok) : Opens P t (Kd.iso d f) (fun y => ok (f y)) :=
  ⟨h.1, fun H enc w fuel cs x hx => by obtain ⟨y, hK, hok⟩ := h.2 H enc w fuel cs x hx; exact ⟨g y, by show d.K w (f (g y)) cs; rw [hfg]; exact hK, by show ok (f (g y)); rw [hfg]; exact hok⟩⟩

/-- An argument is opened: its value by its cells, and what these say. -/
theorem Opens.arg {α : Type} {H : Type} {enc : TypeId × Value → H} {P : Program} {w : World} {t : TypeId} {v : Value} {x : DataW H} {p : List MemPlace} {d : Kd α} {ok : α → Prop} (h : Opens P t d ok) (ht : DataW.Trod enc P w 0 (fun _ => true) true t v x p) : ∃ y, d.K w y v.cells.toList ∧ ok y := by
  obtain ⟨fuel, hf⟩ := ht
  exact h.2 H enc w fuel _ _ hf
end Go.Proofs.YtmhfbpdahfepgaaW.Open
/- The row of the law PmapOrder, out of its walk. -/
namespace Go.Proofs.Ytmhfbpdahfepgaa.pmapOrder
open Go.ChangeShapes Go.WideShapes Go.ChangeAt Go.RowKit
open Go.ChangeMaps (open_string shut_string)
open Go.Proofs.YtmhfbpdahfepgaaW.Open Go.Proofs.YtmhfbpdahfepgaaW.PrintWords
theorem own : ownKnob Try.prog.godebug = none := by kernel_rfl
theorem laidOut : laidOutB Try.prog = true := by kernel_rfl
theorem op0 : Opens Try.prog 22 (Kd.slice 5 (Kd.int .u8)) (fun xs => xs.length ≤ maxLen ∧ ∀ x ∈ xs, (Lit.int .u8 x).wf = true) := Opens.slice Try.underlying22 (by kernel_rfl) (Opens.int Try.underlying5 (by kernel_rfl))
set_option maxRecDepth 100000 in
theorem lifted (os : Os) (started : os.Started) (H : Type) (enc : TypeId × Value → H) :
    ReturnsInHanded {} Try.checked os 7 .any (Rows.pmapOrderSpec.pre6 enc Try.prog Try.f7 Rows.pmapOrderRow.domain false) (Rows.pmapOrderSpec.post enc Try.prog Try.f7 false true false false) := by
  refine returnsInHanded_of_change (C := Try.checked) own started (by kernel_rfl) Try.func7
    (ChangeSpec.witness6 (enc := enc) (C := Try.checked) false ⟨#[], #[.slice none 0 0, .int .u8 0], []⟩ 8 (by kernel_rfl) (by kernel_rfl) (by kernel_rfl) (by kernel_rfl)) ?_
  intro W base args ds gs before hval0 hW hcnd _
  have hval : ∀ (j : Nat) t v, Try.f7.params[j]? = some t → args[j]? = some v → Value.okWide Try.prog W .any base t v := hval0
  have hW' := hW
  obtain ⟨p, q, hA0, hV, rfl, hfz, hnd⟩ := hW
  have hA : DataW.TrodAll enc Try.prog W 0 (fun _ => true) true Try.f7.params.toList args.toList ds p := hA0
  rw [Try.params7] at hA hval
  obtain ⟨v0, vs0, d0, ds0, p0, q0, hargs, rfl, rfl, h0, r0⟩ := trodAll_cons hA
  obtain ⟨v1, vs1, d1, ds1, p1, q1, rfl, rfl, rfl, h1, r1⟩ := trodAll_cons r0
  obtain ⟨rfl, rfl, rfl⟩ := trodAll_nil r1
  obtain rfl : args = #[v0, v1] := by cases args; simp_all
  obtain ⟨rfl, rfl⟩ := trodVars_none hV
  have k0 := h0
  have lt0 : ∀ x ∈ p0, x.block < W.heap.size := by obtain ⟨m, hm⟩ := k0; exact DataW.trod_lt m _ _ _ hm
  obtain ⟨a0, len0, cap0, rfl⟩ := okWide_slice Try.underlying22 (hval 0 22 v0 rfl rfl)
  obtain ⟨l0, hK0, ok0⟩ := Opens.arg op0 h0
  obtain ⟨A0, c0, e0, hc0, hr0⟩ := hK0
  simp only [Value.cells, List.cons.injEq, Value.slice.injEq, and_true] at e0
  obtain ⟨rfl, rfl, rfl⟩ := e0
  obtain ⟨a1, rfl, rfl, rfl, w1⟩ := open_int Try.underlying5 (hval 1 5 v1 rfl rfl) h1
  clear hA0 hval0
  refine (pmapOrder_walk a0 cap0 l0 a1 W hr0 hc0 ok0 w1).mono fun e W' ⟨he, bel⟩ => ?_
  subst he
  exact ⟨_, rfl, _, _, _, [], _, [], hW', trodAll_mk1 (shut_bool Try.underlying4 _), (trodAll_cons_mk (Below.trod laidOut (by kernel_rfl) (of_decide_eq_true (by kernel_rfl)) k0 bel lt0) (trodAll_cons_mk (shut_int Try.underlying5 w1) trodAll_mk0)), rfl, bel.frame _, fun h => by cases h⟩
end Go.Proofs.Ytmhfbpdahfepgaa.pmapOrder
namespace Go.Proofs.Ytmhfbpdahfepgaa
theorem pmapOrder_holds : Rows.PmapOrderSaid :=
  OpenClaim.holds_of_wide 7 Try.f7 rfl rfl rfl rfl rfl rfl rfl ⟨rfl, rfl, rfl, rfl, rfl⟩ rfl rfl rfl rfl rfl (by kernel_rfl) Try.func7 (by kernel_rfl)
    (of_decide_eq_true (by kernel_rfl)) (by unfold Func.isWrapper; first | (rw [if_pos (by decide +kernel)]; kernel_rfl) | (rw [if_neg (by decide +kernel)]; exact ⟨rfl, rfl⟩))
    (fun os started H enc _ => pmapOrder.lifted os started H enc)
#print axioms pmapOrder_holds
end Go.Proofs.Ytmhfbpdahfepgaa
