/-
  Trees as plain lists of nodes, as the reference has them: what an operation does, and that no node comes to lie below itself; A log as a plain list: what a batch does to it; Plain laws of a log: what comes again, what comes late, what has changed; How two operations stand: what package op comes to; How two operations stand: package op's Cmp; How two operations stand, once more: behind it no less is drawn
-/
import Derived.Test.YtkmdmjlepmmejaaGreatDoorB1
import Derived.Sort.Grow
/- Trees as plain lists of nodes, as the reference has them: what an operation does, and that no node comes to lie below itself. -/
namespace Go.Proofs.YtkmdmjlepmmejaaGreatDoor.Tr

/-- A node: below which one, by which name, its number. -/
structure KidR where
  par : Int
  name : ByteArray
  node : Int
  deriving DecidableEq
abbrev Sp := Int × ByteArray
def KidR.sp (k : KidR) : Sp := (k.par, k.name)
/-- A node's spot. -/
def lookT : List KidR → Int → Option Sp
  | [], _ => none
  | k :: l, n => if k.node = n then some k.sp else lookT l n
def known (l : List KidR) (n : Int) : Bool := (lookT l n).isSome || (n == 0 || n == 1)
/-- Does the way up from b, of k steps at the most, come to a? -/
def upN (l : List KidR) (a : Int) : Nat → Int → Bool
  | 0, _ => false
  | k + 1, b => if b = a then true else match lookT l b with
    | none => false
    | some s => upN l a k s.1
def above (l : List KidR) (a b : Int) : Bool := known l b && upN l a (l.length + 1) b
def fits (l : List KidR) (o : OpR) : Bool := known l o.par && !above l o.node o.par
def kidOf (o : OpR) : KidR := ⟨o.par, o.name, o.node⟩
def stepT (l : List KidR) (o : OpR) : List KidR := if fits l o then l.filter (fun k => !decide (k.node = o.node)) ++ [kidOf o] else l
def treeO (os : List OpR) : List KidR := os.foldl stepT []
/-- A change: a node, its spot ahead and behind. -/
structure ChgR where
  node : Int
  old : Option Sp
  new : Option Sp
  deriving DecidableEq
def chgOf (l : List KidR) (o : OpR) : ChgR := ⟨o.node, lookT l o.node, if fits l o then some (o.par, o.name) else lookT l o.node⟩
def traceF : List KidR → List OpR → List ChgR
  | _, [] => []
  | l, o :: os => chgOf l o :: traceF (stepT l o) os
def traceT (os : List OpR) : List ChgR := traceF [] os

theorem treeO_snoc (os : List OpR) (o : OpR) : treeO (os ++ [o]) = stepT (treeO os) o := by simp [treeO, List.foldl_append]
theorem traceF_snoc (o : OpR) : ∀ (os : List OpR) (l : List KidR), traceF l (os ++ [o]) = traceF l os ++ [chgOf (os.foldl stepT l) o]
  | [], _ => rfl
  | p :: os, l => by simp only [List.cons_append, traceF, List.foldl_cons, traceF_snoc o os]
theorem traceT_snoc (os : List OpR) (o : OpR) : traceT (os ++ [o]) = traceT os ++ [chgOf (treeO os) o] := traceF_snoc o os []
theorem traceF_length : ∀ (os : List OpR) (l : List KidR), (traceF l os).length = os.length
  | [], _ => rfl
  | _ :: os, _ => by simp [traceF, traceF_length os]
theorem traceT_length (os : List OpR) : (traceT os).length = os.length := traceF_length os []

theorem lookT_none {l : List KidR} {n : Int} : lookT l n = none ↔ ∀ k ∈ l, k.node ≠ n := by
  induction l with
  | nil => simp [lookT]
  | cons k l ih =>
    unfold lookT
    by_cases h : k.node = n
    · simp [h]
    · simp [h, ih]
theorem lookT_append {l m : List KidR} {n : Int} : lookT (l ++ m) n = (lookT l n).or (lookT m n) := by
  induction l with
  | nil => simp [lookT]
  | cons k l ih =>
    by_cases h : k.node = n
    · simp [lookT, h]
    · simp [lookT, h, ih]
theorem lookT_filter_same (l : List KidR) (n : Int) : lookT (l.filter fun k => !decide (k.node = n)) n = none := by
  rw [lookT_none]
  intro k hk
  simp at hk
  exact hk.2
theorem lookT_filter_other {l : List KidR} {n m : Int} (h : m ≠ n) : lookT (l.filter fun k => !decide (k.node = n)) m = lookT l m := by
  induction l with
  | nil => rfl
  | cons k l ih =>
    by_cases e : k.node = n
    · have : k.node ≠ m := fun e' => h (e'.symm.trans e)
      simp [e, ih]
      rw [lookT, if_neg this]
    · simp only [List.filter_cons, e, decide_false, Bool.not_false, if_true]
      unfold lookT
      rw [ih]
/-- What a step does to each node's spot. -/
theorem lookT_step (l : List KidR) (o : OpR) (n : Int) : lookT (stepT l o) n = if n = o.node then (chgOf l o).new else lookT l n := by
  unfold stepT chgOf
  by_cases hf : fits l o = true
  · simp only [hf, if_true]
    rw [lookT_append]
    by_cases h : n = o.node
    · subst h
      rw [lookT_filter_same, if_pos rfl]
      simp [lookT, kidOf, KidR.sp]
    · rw [lookT_filter_other h, if_neg h]
      have : lookT [kidOf o] n = none := by simp [lookT, kidOf, Ne.symm h]
      rw [this]
      simp
  · simp only [hf]
    by_cases h : n = o.node
    · subst h; simp
    · simp [h]
/-- Undoing a step. -/
theorem lookT_undo (l : List KidR) (o : OpR) (n : Int) : (if n = o.node then (chgOf l o).old else lookT (stepT l o) n) = lookT l n := by
  rw [lookT_step]
  by_cases h : n = o.node
  · subst h; simp [chgOf]
  · simp [h]

/-- No node is there twice. -/
def Tidy (l : List KidR) : Prop := l.Pairwise fun a b => a.node ≠ b.node
theorem tidy_step {l : List KidR} (h : Tidy l) (o : OpR) : Tidy (stepT l o) := by
  unfold stepT
  by_cases hf : fits l o = true
  · rw [if_pos hf]
    unfold Tidy
    rw [List.pairwise_append]
    refine ⟨h.filter _, by simp, ?_⟩
    intro a ha b hb
    simp at ha hb
    subst hb
    exact ha.2
  · rw [if_neg hf]; exact h
theorem tidy_fold : ∀ (os : List OpR) (l : List KidR), Tidy l → Tidy (os.foldl stepT l)
  | [], _, h => h
  | o :: os, _, h => tidy_fold os _ (tidy_step h o)
theorem tidy_run (os : List OpR) : Tidy (treeO os) := tidy_fold os [] List.Pairwise.nil
theorem mem_lookT {l : List KidR} (h : Tidy l) {k : KidR} : k ∈ l ↔ lookT l k.node = some k.sp := by
  induction l with
  | nil => simp [lookT]
  | cons a l ih =>
    have h1 := List.pairwise_cons.1 h
    unfold lookT
    by_cases e : a.node = k.node
    · rw [if_pos e]
      constructor
      · intro hk
        rcases List.mem_cons.1 hk with rfl | hk
        · rfl
        · exact absurd e (h1.1 k hk)
      · intro hs
        have : a = k := by
          cases a; cases k
          simp [KidR.sp] at hs e ⊢
          exact ⟨hs.1, hs.2, e⟩
        rw [this]; exact List.mem_cons_self ..
    · rw [if_neg e, ← ih h1.2]
      constructor
      · intro hk
        rcases List.mem_cons.1 hk with rfl | hk
        · exact absurd rfl e
        · exact hk
      · exact List.mem_cons_of_mem _

/-- A rank that falls on each way up. -/
def Falls (l : List KidR) (r : Int → Nat) : Prop := ∀ b s, lookT l b = some s → r s.1 < r b
/-- .. no higher than there are nodes. -/
def Rank (l : List KidR) (r : Int → Nat) : Prop := Falls l r ∧ ∀ b, r b ≤ l.length
theorem upN_more {l : List KidR} {r : Int → Nat} (h : Falls l r) (a : Int) : ∀ (k : Nat) (b : Int), r b < k → ∀ j, upN l a (k + j) b = upN l a k b
  | 0, b, hk, _ => by omega
  | k + 1, b, hk, j => by
    rw [show k + 1 + j = (k + j) + 1 by omega]
    unfold upN
    by_cases e : b = a
    · rw [if_pos e, if_pos e]
    · rw [if_neg e, if_neg e]
      cases hb : lookT l b with
      | none => rfl
      | some s => exact upN_more h a k s.1 (by have := h b s hb; omega) j
theorem upN_any {l : List KidR} {r : Int → Nat} (h : Falls l r) (a b : Int) {j k : Nat} (hj : r b < j) (hk : r b < k) : upN l a j b = upN l a k b := by
  have h1 := upN_more h a (r b + 1) b (by omega) (j - (r b + 1))
  have h2 := upN_more h a (r b + 1) b (by omega) (k - (r b + 1))
  rw [show r b + 1 + (j - (r b + 1)) = j by omega] at h1
  rw [show r b + 1 + (k - (r b + 1)) = k by omega] at h2
  rw [h1, h2]
/-- A rank that falls gives one that is no higher than there are nodes. -/
theorem rank_of {l : List KidR} {r : Int → Nat} (h : Falls l r) : ∃ q, Rank l q := by
  refine ⟨fun b => if (lookT l b).isSome then 1 + l.countP (fun k => decide (r k.node < r b)) else 0, ?_, ?_⟩
  · intro b s hb
    have hlt := h b s hb
    simp only [hb, Option.isSome_some, if_true]
    by_cases hs : (lookT l s.1).isSome = true
    · rw [if_pos hs]
      obtain ⟨k, hk, hkn⟩ : ∃ k ∈ l, k.node = s.1 := by
        apply Classical.byContradiction
        intro hn
        have : lookT l s.1 = none := lookT_none.2 fun k hk e => hn ⟨k, hk, e⟩
        rw [this] at hs; simp at hs
      have key : l.countP (fun k => decide (r k.node < r s.1)) < l.countP (fun k => decide (r k.node < r b)) := by
        clear hs hb h
        induction l with
        | nil => simp at hk
        | cons x l ih =>
          have mono : l.countP (fun k => decide (r k.node < r s.1)) ≤ l.countP (fun k => decide (r k.node < r b)) :=
            List.countP_mono_left fun k _ hk' => by simp at hk' ⊢; omega
          rw [List.countP_cons, List.countP_cons]
          rcases List.mem_cons.1 hk with rfl | hk
          · have e1 : decide (r k.node < r s.1) = false := by rw [hkn]; simp
            have e2 : decide (r k.node < r b) = true := by rw [hkn]; simpa using hlt
            rw [e1, e2]; simp; omega
          · have := ih hk
            by_cases hx : r x.node < r s.1
            · have hx' : r x.node < r b := by omega
              simp [hx, hx']; omega
            · simp [hx]; split <;> omega
      omega
    · rw [if_neg hs]; omega
  · intro b
    show (if (lookT l b).isSome = true then 1 + l.countP (fun k => decide (r k.node < r b)) else 0) ≤ l.length
    by_cases hs : (lookT l b).isSome = true
    · rw [if_pos hs]
      obtain ⟨k, hk, hkn⟩ : ∃ k ∈ l, k.node = b := by
        apply Classical.byContradiction
        intro hn
        have : lookT l b = none := lookT_none.2 fun k hk e => hn ⟨k, hk, e⟩
        rw [this] at hs; simp at hs
      have : l.countP (fun k => decide (r k.node < r b)) < l.length := by
        have h1 : l.countP (fun k => decide (r k.node < r b)) ≤ l.length := List.countP_le_length
        have h2 : l.countP (fun k => decide (r k.node < r b)) ≠ l.length := by
          rw [Ne, List.countP_eq_length]
          intro hall
          have := hall k hk
          rw [hkn] at this
          simp at this
        omega
      omega
    · rw [if_neg hs]; omega
theorem fits_false {l : List KidR} {r : Int → Nat} (h : Rank l r) {o : OpR} (hf : fits l o = true) : ∀ k, upN l o.node k o.par = false := by
  intro k
  have h1 : above l o.node o.par = false := by
    unfold fits at hf
    simp at hf
    exact hf.2
  have h2 : upN l o.node (l.length + 1) o.par = false := by
    unfold above at h1
    unfold fits at hf
    simp only [Bool.and_eq_true] at hf
    rw [hf.1, Bool.true_and] at h1
    exact h1
  by_cases hk : r o.par < k
  · rw [upN_any h.1 o.node o.par hk (by have := h.2 o.par; omega : r o.par < l.length + 1)]; exact h2
  · -- fewer steps find no more
    have mono : ∀ (j : Nat) (b : Int), upN l o.node j b = true → upN l o.node (j + 1) b = true := by
      intro j
      induction j with
      | zero => intro b hb; simp [upN] at hb
      | succ j ih =>
        intro b hb
        unfold upN at hb ⊢
        by_cases e : b = o.node
        · simp [e]
        · rw [if_neg e] at hb ⊢
          cases hl : lookT l b with
          | none => rw [hl] at hb; cases hb
          | some s => rw [hl] at hb; exact ih s.1 hb
    have up : ∀ (d : Nat), upN l o.node k o.par = true → upN l o.node (k + d) o.par = true := by
      intro d
      induction d with
      | zero => exact id
      | succ d ih => intro h'; exact mono _ _ (ih h')
    cases he : upN l o.node k o.par with
    | false => rfl
    | true =>
      have := up (l.length + 1 - k) he
      rw [show k + (l.length + 1 - k) = l.length + 1 by have := h.2 o.par; omega, h2] at this
      cases this
theorem upN_step {l : List KidR} {a b : Int} {k : Nat} (hne : b ≠ a) {s : Sp} (h : lookT l b = some s) : upN l a (k + 1) b = upN l a k s.1 := by
  rw [upN, if_neg hne, h]
theorem falls_step {l : List KidR} {r : Int → Nat} (h : Rank l r) (o : OpR) : ∃ q, Falls (stepT l o) q := by
  by_cases hf : fits l o = true
  · have hn := fits_false h hf
    let N := l.length + 1
    let D : Int → Bool := fun x => upN l o.node N x
    have big : ∀ b, r b < N := fun b => by have := h.2 b; show r b < l.length + 1; omega
    refine ⟨fun x => if D x then r x + r o.par + 1 else r x, ?_⟩
    intro b s hb
    rw [lookT_step] at hb
    have hD : ∀ b s, lookT l b = some s → b ≠ o.node → D b = D s.1 := by
      intro b s hl hne
      show upN l o.node N b = upN l o.node N s.1
      have : upN l o.node N b = upN l o.node (l.length) s.1 := by
        exact upN_step hne hl
      rw [this]
      have := h.1 b s hl
      have := big b
      have := h.2 b
      exact upN_any h.1 _ _ (by omega) (big _)
    by_cases hbn : b = o.node
    · subst hbn
      rw [if_pos rfl] at hb
      simp only [chgOf, hf, if_true] at hb
      cases hb
      have d1 : D o.node = true := by show upN l o.node (l.length + 1) o.node = true; unfold upN; simp
      have d2 : D o.par = false := hn N
      simp only [d1, d2, if_true]
      simp
      omega
    · rw [if_neg hbn] at hb
      have e := hD b s hb hbn
      have := h.1 b s hb
      show (if D s.1 = true then r s.1 + r o.par + 1 else r s.1) < if D b = true then r b + r o.par + 1 else r b
      rw [e]
      split <;> omega
  · refine ⟨r, ?_⟩
    unfold stepT
    rw [if_neg hf]
    exact h.1
theorem rank_fold : ∀ (os : List OpR) (l : List KidR), (∃ q, Rank l q) → ∃ q, Rank (os.foldl stepT l) q
  | [], _, h => h
  | o :: os, l, ⟨_, h⟩ => rank_fold os _ (by obtain ⟨q, hq⟩ := falls_step h o; exact rank_of hq)
theorem rank_run (os : List OpR) : ∃ q, Rank (treeO os) q := rank_fold os [] ⟨fun _ => 0, fun b s h => by simp [lookT] at h, fun _ => Nat.zero_le _⟩
theorem upN_stop {l : List KidR} {a b : Int} {k : Nat} (hne : b ≠ a) (h : lookT l b = none) : upN l a (k + 1) b = false := by
  rw [upN, if_neg hne, h]
theorem upN_hit {l : List KidR} {a : Int} {k : Nat} : upN l a (k + 1) a = true := by
  rw [upN, if_pos rfl]
theorem lookT_mem {l : List KidR} {n : Int} {s : Sp} (h : lookT l n = some s) : (⟨s.1, s.2, n⟩ : KidR) ∈ l := by
  induction l with
  | nil => simp [lookT] at h
  | cons k l ih =>
    unfold lookT at h
    by_cases e : k.node = n
    · rw [if_pos e] at h
      cases h
      subst e
      exact List.mem_cons_self ..
    · rw [if_neg e] at h
      exact List.mem_cons_of_mem _ (ih h)
/-- Where all nodes of a tree come from. -/
theorem mem_stepT {l : List KidR} {o : OpR} {k : KidR} (h : k ∈ stepT l o) : k ∈ l ∨ k = kidOf o := by
  unfold stepT at h
  split at h
  · rcases List.mem_append.1 h with h | h
    · exact .inl (List.mem_filter.1 h).1
    · exact .inr (by simpa using h)
  · exact .inl h
theorem mem_foldT : ∀ (os : List OpR) (l : List KidR) (k : KidR), k ∈ os.foldl stepT l → k ∈ l ∨ ∃ o ∈ os, k = kidOf o
  | [], _, _, h => .inl h
  | o :: os, _, k, h => by
    rcases mem_foldT os _ k h with h | ⟨p, hp, e⟩
    · rcases mem_stepT h with h | h
      · exact .inl h
      · exact .inr ⟨o, List.mem_cons_self .., h⟩
    · exact .inr ⟨p, List.mem_cons_of_mem _ hp, e⟩
theorem mem_treeO {os : List OpR} {k : KidR} (h : k ∈ treeO os) : ∃ o ∈ os, k = kidOf o := by
  rcases mem_foldT os [] k h with h | h
  · simp at h
  · exact h
theorem length_stepT (l : List KidR) (o : OpR) : (stepT l o).length ≤ l.length + 1 := by
  unfold stepT
  split
  · simp; exact List.length_filter_le _ _
  · omega
theorem length_foldT : ∀ (os : List OpR) (l : List KidR), (os.foldl stepT l).length ≤ l.length + os.length
  | [], _ => by simp
  | o :: os, l => by
    have := length_foldT os (stepT l o)
    have := length_stepT l o
    simp; omega
theorem length_treeO (os : List OpR) : (treeO os).length ≤ os.length := by have := length_foldT os []; simpa [treeO] using this
end Go.Proofs.YtkmdmjlepmmejaaGreatDoor.Tr
/- A log as a plain list: what a batch does to it. -/
namespace Go.Proofs.YtkmdmjlepmmejaaGreatDoor.Ol
open Tr

theorem opOrd : Ord opCmp := ⟨opCmp_good, opCmp_zero⟩
abbrev AscO (l : List OpR) : Prop := Asc opCmp l
def hasO (l : List OpR) (o : OpR) : Bool := l.any fun x => decide (opCmp x o = 0)
theorem hasO_iff {l : List OpR} {o : OpR} : hasO l o = true ↔ o ∈ l := by
  unfold hasO
  rw [List.any_eq_true]
  constructor
  · rintro ⟨x, hx, hc⟩
    have := (opCmp_zero x o).1 (by simpa using hc)
    exact this ▸ hx
  · intro h
    exact ⟨o, h, by simpa using (opCmp_zero o o).2 rfl⟩
/-- The new ones of a batch, in order, each once. -/
def newOf (l ops : List OpR) : List OpR := (cpt opCmp (srt opCmp ops)).filter fun o => !hasO l o
theorem newOf_asc (l ops : List OpR) : AscO (newOf l ops) := asc_filter (cpt_asc opOrd (srt_weak opOrd ops)) _
theorem mem_newOf {l ops : List OpR} {o : OpR} : o ∈ newOf l ops ↔ o ∈ ops ∧ o ∉ l := by
  unfold newOf
  rw [List.mem_filter, mem_cpt opOrd, mem_srt]
  cases h : hasO l o with
  | true => have := hasO_iff.1 h; simp [this]
  | false =>
    have : o ∉ l := fun hm => by rw [hasO_iff.2 hm] at h; cases h
    simp [this]
/-- The log behind a batch. -/
def joinO (l ops : List OpR) : List OpR := srt opCmp (l ++ newOf l ops)
theorem join_nodup {l : List OpR} (hl : AscO l) (ops : List OpR) : (l ++ newOf l ops).Nodup := by
  rw [List.nodup_append]
  refine ⟨asc_nodup opOrd hl, asc_nodup opOrd (newOf_asc l ops), fun a ha b hb e => ?_⟩
  subst e
  exact (mem_newOf.1 hb).2 ha
theorem joinO_asc {l : List OpR} (hl : AscO l) (ops : List OpR) : AscO (joinO l ops) := srt_asc opOrd (join_nodup hl ops)
theorem mem_joinO {l ops : List OpR} {o : OpR} : o ∈ joinO l ops ↔ o ∈ l ∨ o ∈ ops := by
  unfold joinO
  rw [mem_srt, List.mem_append, mem_newOf]
  constructor
  · rintro (h | h)
    · exact .inl h
    · exact .inr h.1
  · rintro (h | h)
    · exact .inl h
    · by_cases hm : o ∈ l
      · exact .inl hm
      · exact .inr ⟨h, hm⟩
theorem joinO_length (l ops : List OpR) : (joinO l ops).length = l.length + (newOf l ops).length := by rw [joinO, srt_length, List.length_append]
theorem newOf_length (l ops : List OpR) : (newOf l ops).length ≤ ops.length := by
  have h1 : ∀ m : List OpR, (cpt opCmp m).length ≤ m.length := by
    intro m
    induction m using cpt.induct (c := opCmp) with
    | case1 => simp [cpt]
    | case2 => simp [cpt]
    | case3 a b l e ih => rw [cpt, if_pos e]; simp at ih ⊢; omega
    | case4 a b l e ih => rw [cpt, if_neg e]; simp at ih ⊢; omega
  have h2 := h1 (srt opCmp ops)
  have h3 : (newOf l ops).length ≤ (cpt opCmp (srt opCmp ops)).length := List.length_filter_le _ _
  rw [srt_length] at h2
  omega
theorem joinO_nil {l ops : List OpR} (hl : AscO l) (h : newOf l ops = []) : joinO l ops = l :=
  asc_ext opOrd (joinO_asc hl ops) hl fun x => by
    rw [mem_joinO]
    refine ⟨fun hx => hx.elim id fun hx => ?_, .inl⟩
    apply Classical.byContradiction
    intro hn
    have := mem_newOf.2 ⟨hx, hn⟩
    rw [h] at this
    simp at this
/-- Nothing ahead of the first new one is touched. -/
def fromO (l : List OpR) (n : OpR) : Nat := l.countP fun x => decide (opCmp x n < 0)
theorem fromO_le (l : List OpR) (n : OpR) : fromO l n ≤ l.length := List.countP_le_length
theorem join_take {l ops : List OpR} (hl : AscO l) {n : OpR} {r : List OpR} (hn : newOf l ops = n :: r) : (joinO l ops).take (fromO l n) = l.take (fromO l n) := by
  have hasc := newOf_asc l ops
  rw [hn] at hasc
  have hle : ∀ x ∈ newOf l ops, opCmp n x ≤ 0 := by
    intro x hx
    rw [hn] at hx
    rcases List.mem_cons.1 hx with h | h
    · rw [h, opOrd.self]; omega
    · have := (List.pairwise_cons.1 hasc).1 x h; omega
  have e1 : l.filter (fun x => decide (opCmp x n < 0)) = (joinO l ops).filter (fun x => decide (opCmp x n < 0)) := by
    refine asc_ext opOrd (asc_filter hl _) (asc_filter (joinO_asc hl ops) _) fun x => ?_
    rw [List.mem_filter, List.mem_filter, mem_joinO]
    constructor
    · rintro ⟨h1, h2⟩; exact ⟨.inl h1, h2⟩
    · rintro ⟨h1, h2⟩
      refine ⟨?_, h2⟩
      apply Classical.byContradiction
      intro hx
      have := hle x (mem_newOf.2 ⟨h1.resolve_left hx, hx⟩)
      have h3 := opOrd.neg n x
      have h4 : opCmp x n < 0 := by simpa using h2
      omega
  have e2 : fromO l n = (joinO l ops).countP fun x => decide (opCmp x n < 0) := by
    unfold fromO
    rw [List.countP_eq_length_filter, List.countP_eq_length_filter, e1]
  rw [show (joinO l ops).take (fromO l n) = (joinO l ops).take ((joinO l ops).countP fun x => decide (opCmp x n < 0)) by rw [e2], asc_take opOrd (joinO_asc hl ops), ← e1, ← asc_take opOrd hl]
  rfl
/-- The nodes that operations name, rising, each once. -/
def nodesO (l : List OpR) : List Int := cpt cmpI (srt cmpI (l.map OpR.node))
theorem intOrd : Ord cmpI := ⟨Good.int (fun x : Int => x), cmpI_zero⟩
theorem nodesO_asc (l : List OpR) : Asc cmpI (nodesO l) := cpt_asc intOrd (srt_weak intOrd _)
theorem mem_nodesO {l : List OpR} {n : Int} : n ∈ nodesO l ↔ ∃ o ∈ l, o.node = n := by
  unfold nodesO
  rw [mem_cpt intOrd, mem_srt, List.mem_map]
/-- What has changed between two trees, at these nodes. -/
def chgsAt (t u : List KidR) (ns : List Int) : List ChgR := (ns.filter fun n => !decide (lookT t n = lookT u n)).map fun n => ⟨n, lookT t n, lookT u n⟩
def chgsO (l m : List OpR) : List ChgR := chgsAt (treeO l) (treeO m) (nodesO m)
theorem chgsO_same (l : List OpR) : chgsO l l = [] := by
  unfold chgsO chgsAt
  rw [List.map_eq_nil_iff, List.filter_eq_nil_iff]
  intro n _
  simp
/-- What a batch does: how many are new, the changes, the error, the log behind it. -/
structure PutR where
  n : Int
  chgs : List ChgR
  e : Int
  l : List OpR
def putR (most : Int) (l ops : List OpR) : PutR :=
  if ops.all opRight then
    if most < l.length + (newOf l ops).length then ⟨0, [], 6, l⟩ else ⟨(newOf l ops).length, chgsO l (joinO l ops), 0, joinO l ops⟩
  else ⟨0, [], 1, l⟩
/-- A log is in order, and all of it is right. -/
structure LogOk (most : Int) (l : List OpR) : Prop where
  asc : AscO l
  right : ∀ o ∈ l, opRight o = true
  len : (l.length : Int) ≤ most
theorem LogOk.put {most : Int} {l : List OpR} (h : LogOk most l) (ops : List OpR) : LogOk most (putR most l ops).l := by
  unfold putR
  by_cases h1 : ops.all opRight = true
  · rw [if_pos h1]
    by_cases h2 : most < l.length + (newOf l ops).length
    · rw [if_pos h2]; exact h
    · rw [if_neg h2]
      refine ⟨joinO_asc h.asc ops, fun o ho => ?_, ?_⟩
      · rcases mem_joinO.1 ho with h3 | h3
        · exact h.right o h3
        · exact List.all_eq_true.1 h1 o h3
      · rw [show (PutR.l ⟨(newOf l ops).length, chgsO l (joinO l ops), 0, joinO l ops⟩) = joinO l ops from rfl, joinO_length]; push_cast; omega
  · rw [if_neg h1]; exact h
/-- The greatest counter. -/
def topO (l : List OpR) : Int := match l.getLast? with
  | some o => o.n
  | none => 0
end Go.Proofs.YtkmdmjlepmmejaaGreatDoor.Ol
/- Plain laws of a log: what comes again, what comes late, what has changed. -/
namespace Go.Proofs.YtkmdmjlepmmejaaGreatDoor.Ol
open Go.RowKit Tr

theorem asc_one (o : OpR) : AscO [o] := by unfold AscO Asc; simp
theorem newOf_one {l : List OpR} {o : OpR} (h : o ∉ l) : newOf l [o] = [o] :=
  asc_ext opOrd (newOf_asc l [o]) (asc_one o) fun x => by
    rw [mem_newOf]
    constructor
    · exact fun k => k.1
    · intro k; rw [List.mem_singleton] at k; subst k; exact ⟨List.mem_singleton.2 rfl, h⟩
theorem newOf_none {l ops : List OpR} (h : ∀ o ∈ ops, o ∈ l) : newOf l ops = [] := by
  rw [List.eq_nil_iff_forall_not_mem]
  intro x hx
  have := mem_newOf.1 hx
  exact this.2 (h x this.1)
def exA : OpR := ⟨2, 0, 257, 256, ⟨#[98]⟩⟩
def exB : OpR := ⟨1, 0, 256, 0, ⟨#[97]⟩⟩
theorem join_one (o : OpR) : joinO [] [o] = [o] := asc_ext opOrd (joinO_asc (l := []) (by unfold AscO Asc; simp) _) (asc_one o) fun x => by rw [mem_joinO]; simp
theorem exBA_lt : opCmp exB exA < 0 := by decide +kernel
theorem join_ex : joinO [exA] [exB] = [exB, exA] := asc_ext opOrd (joinO_asc (asc_one _) _) (by simp [Asc, exBA_lt]) fun x => by
  rw [mem_joinO]; simp only [List.mem_cons, List.not_mem_nil, or_false]; exact Or.comm
theorem nodes_one (o : OpR) : nodesO [o] = [o.node] := asc_ext intOrd (nodesO_asc _) (by unfold Asc; simp) fun x => by rw [mem_nodesO]; simp [eq_comm]
theorem nodes_ex : nodesO [exB, exA] = [256, 257] := asc_ext intOrd (nodesO_asc _) (by unfold Asc; simp [show cmpI 256 257 < 0 by decide]) fun x => by rw [mem_nodesO]; simp [exA, exB, eq_comm]
theorem ex1 : putR 5 [] [exA] = ⟨1, [], 0, [exA]⟩ := by
  have h1 : [exA].all opRight = true := by decide +kernel
  have h2 : newOf [] [exA] = [exA] := newOf_one (by simp)
  have h3 : chgsO [] [exA] = [] := by
    unfold chgsO
    rw [nodes_one]
    decide +kernel
  unfold putR
  rw [if_pos h1, h2, if_neg (by simp), join_one, h3]
  rfl
theorem ex2 : ∃ x y, putR 5 [exA] [exB] = ⟨1, [x, y], 0, [exB, exA]⟩ := by
  have h1 : [exB].all opRight = true := by decide +kernel
  have h2 : newOf [exA] [exB] = [exB] := newOf_one (by rw [List.mem_singleton]; intro h; exact absurd (congrArg OpR.n h) (by decide))
  have h3 : (chgsO [exA] [exB, exA]).length = 2 := by
    unfold chgsO
    rw [nodes_ex]
    decide +kernel
  unfold putR
  rw [if_pos h1, h2, if_neg (by simp), join_ex]
  generalize chgsO [exA] [exB, exA] = C at *
  match C, h3 with
  | [x, y], _ => exact ⟨x, y, rfl⟩
theorem ex_top : topO [exB, exA] = 2 := rfl
theorem log0 {most : Int} (h : 0 ≤ most) : LogOk most [] := ⟨by unfold AscO Asc; simp, fun o ho => by simp at ho, by simpa using h⟩
theorem put_ok {most : Int} {l ops : List OpR} (h : ops.all opRight = true) (hm : (l.length : Int) + (newOf l ops).length ≤ most) : putR most l ops = ⟨(newOf l ops).length, chgsO l (joinO l ops), 0, joinO l ops⟩ := by
  unfold putR
  rw [if_pos h, if_neg (by omega)]
theorem put_full {most : Int} {l ops : List OpR} (h : ops.all opRight = true) (hm : most < (l.length : Int) + (newOf l ops).length) : putR most l ops = ⟨0, [], 6, l⟩ := by
  unfold putR
  rw [if_pos h, if_pos hm]
theorem put_again {most : Int} {l ops : List OpR} (hok : LogOk most l) (h : ops.all opRight = true) (hm : ∀ o ∈ ops, o ∈ l) : putR most l ops = ⟨0, [], 0, l⟩ := by
  have hn := newOf_none hm
  rw [put_ok h (by rw [hn]; simpa using hok.len), hn, joinO_nil hok.asc hn, chgsO_same]
  rfl
theorem asc_nil : AscO [] := by unfold AscO Asc; simp
theorem join0_length (us : List OpR) : (joinO [] us).length ≤ us.length := by
  rw [joinO_length]
  have := newOf_length [] us
  simpa using this
theorem mem_join0 {us : List OpR} {o : OpR} : o ∈ joinO [] us ↔ o ∈ us := by rw [mem_joinO]; simp
theorem join0_right {us : List OpR} (h : us.all opRight = true) : ∀ o ∈ joinO [] us, opRight o = true := fun _ ho => List.all_eq_true.1 h _ (mem_join0.1 ho)

/-- What comes late, with the greatest stamp. -/
theorem join_comm (us vs : List OpR) : joinO (joinO [] us) vs = joinO (joinO [] vs) us :=
  asc_ext opOrd (joinO_asc (joinO_asc asc_nil _) _) (joinO_asc (joinO_asc asc_nil _) _) fun x => by
    simp only [mem_joinO, List.not_mem_nil, false_or]; exact Or.comm
theorem join_top {us : List OpR} {o : OpR} (h : ∀ u ∈ us, opCmp u o < 0) : joinO (joinO [] us) [o] = joinO [] us ++ [o] := by
  refine asc_ext opOrd (joinO_asc (joinO_asc asc_nil _) _) ?_ fun x => ?_
  · unfold Asc
    rw [List.pairwise_append]
    refine ⟨joinO_asc asc_nil _, by simp, fun a ha b hb => ?_⟩
    rw [List.mem_singleton] at hb
    subst hb
    exact h a (mem_join0.1 ha)
  · rw [mem_joinO, List.mem_append]
theorem topO_snoc (l : List OpR) (o : OpR) : topO (l ++ [o]) = o.n := by
  unfold topO
  rw [List.getLast?_append]
  rfl
theorem right_node {o : OpR} (h : opRight o = true) : 256 ≤ o.node := by
  unfold opRight nodeR at h
  simp only [Bool.and_eq_true, decide_eq_true_eq] at h
  exact h.2.1.1
theorem root_fits {os : List OpR} (h : ∀ o ∈ os, opRight o = true) {o : OpR} (ho : 256 ≤ o.node) (hp : o.par = 0) : fits (treeO os) o = true := by
  have h0 : lookT (treeO os) 0 = none := by
    rw [lookT_none]
    intro k hk e
    obtain ⟨q, hq, rfl⟩ := mem_treeO hk
    have := right_node (h q hq)
    rw [show (kidOf q).node = q.node from rfl] at e
    omega
  have hne : (0 : Int) ≠ o.node := by omega
  unfold fits above known
  rw [hp, h0]
  unfold upN
  rw [if_neg hne, h0]
  rfl
theorem old_spot {os : List OpR} (h : ∀ o ∈ os, opRight o = true) {o : OpR} (ho : 256 ≤ o.node) (hp : o.par = 0) : lookT (treeO (os ++ [o])) o.node = some (0, o.name) := by
  rw [treeO_snoc, lookT_step, if_pos rfl]
  unfold chgOf
  rw [root_fits h ho hp, if_pos rfl, hp]

/-- The spot behind so many changes. -/
def wantC (cs : List ChgR) (n : Int) (s : Option Sp) : Option Sp := cs.foldl (fun s c => if c.node = n then c.new else s) s
theorem wantC_snoc (cs : List ChgR) (c : ChgR) (n : Int) (s : Option Sp) : wantC (cs ++ [c]) n s = if c.node = n then c.new else wantC cs n s := by simp [wantC, List.foldl_append]
theorem wantC_none {n : Int} {s : Option Sp} : ∀ {cs : List ChgR}, (∀ c ∈ cs, c.node ≠ n) → wantC cs n s = s
  | [], _ => rfl
  | c :: cs, h => by
    have h1 := h c (List.mem_cons_self ..)
    unfold wantC
    rw [List.foldl_cons, if_neg h1]
    exact wantC_none fun c hc => h c (List.mem_cons_of_mem _ hc)
theorem mem_chgs {t u : List KidR} {ns : List Int} {c : ChgR} (h : c ∈ chgsAt t u ns) : c.node ∈ ns ∧ c.old = lookT t c.node ∧ c.new = lookT u c.node ∧ c.old ≠ c.new := by
  unfold chgsAt at h
  obtain ⟨n, hn, rfl⟩ := List.mem_map.1 h
  rw [List.mem_filter] at hn
  exact ⟨hn.1, rfl, rfl, by simpa using hn.2⟩
theorem chgs_asc (t u : List KidR) {ns : List Int} (h : Asc cmpI ns) : (chgsAt t u ns).Pairwise fun a b => a.node < b.node := by
  unfold chgsAt
  rw [List.pairwise_map]
  refine (h.filter _).imp fun {a b} hab => ?_
  show a < b
  unfold cmpI at hab
  split at hab
  · assumption
  · split at hab <;> omega
theorem look_not_node {os : List OpR} {n : Int} (h : n ∉ nodesO os) : lookT (treeO os) n = none := by
  rw [lookT_none]
  intro k hk e
  obtain ⟨o, ho, rfl⟩ := mem_treeO hk
  exact h (mem_nodesO.2 ⟨o, ho, e⟩)
theorem not_chg {l m : List OpR} (hlm : ∀ o ∈ l, o ∈ m) {n : Int} (h : ∀ c ∈ chgsO l m, c.node ≠ n) : lookT (treeO l) n = lookT (treeO m) n := by
  by_cases hn : n ∈ nodesO m
  · apply Classical.byContradiction
    intro hne
    have : (⟨n, lookT (treeO l) n, lookT (treeO m) n⟩ : ChgR) ∈ chgsO l m := by
      unfold chgsO chgsAt
      refine List.mem_map.2 ⟨n, List.mem_filter.2 ⟨hn, ?_⟩, rfl⟩
      simpa using hne
    exact h _ this rfl
  · rw [look_not_node hn, look_not_node fun k => hn ?_]
    obtain ⟨o, ho, e⟩ := mem_nodesO.1 k
    exact mem_nodesO.2 ⟨o, hlm o ho, e⟩
/-- With the changes put in their places, all spots that were are all spots that are. -/
theorem want_end {l m : List OpR} (hlm : ∀ o ∈ l, o ∈ m) (n : Int) : wantC (chgsO l m) n (lookT (treeO l) n) = lookT (treeO m) n := by
  by_cases h : ∃ c ∈ chgsO l m, c.node = n
  · have key : ∀ cs : List ChgR, (∀ c ∈ cs, c.new = lookT (treeO m) c.node) → (∃ c ∈ cs, c.node = n) → ∀ s, wantC cs n s = lookT (treeO m) n := by
      intro cs
      induction cs with
      | nil => rintro _ ⟨c, hc, _⟩; simp at hc
      | cons d cs ih =>
        intro hnew hex s
        by_cases he : ∃ c ∈ cs, c.node = n
        · unfold wantC
          rw [List.foldl_cons]
          exact ih (fun c hc => hnew c (List.mem_cons_of_mem _ hc)) he _
        · obtain ⟨c, hc, hcn⟩ := hex
          have hd : d.node = n := by
            rcases List.mem_cons.1 hc with h1 | h1
            · exact h1 ▸ hcn
            · exact absurd ⟨c, h1, hcn⟩ he
          unfold wantC
          rw [List.foldl_cons, if_pos hd]
          have := wantC_none (cs := cs) (n := n) (s := d.new) fun c hc e => he ⟨c, hc, e⟩
          unfold wantC at this
          rw [this, hnew d (List.mem_cons_self ..), hd]
    exact key _ (fun c hc => (mem_chgs hc).2.2.1) h _
  · rw [wantC_none fun c hc e => h ⟨c, hc, e⟩]
    exact not_chg hlm fun c hc e => h ⟨c, hc, e⟩
theorem want_at {l m : List OpR} {i : Nat} (hi : i < (chgsO l m).length) : wantC ((chgsO l m).take i) (chgsO l m)[i].node (lookT (treeO l) (chgsO l m)[i].node) = (chgsO l m)[i].old := by
  rw [wantC_none, (mem_chgs (List.getElem_mem hi)).2.1]
  intro c hc e
  obtain ⟨j, hj, rfl⟩ := List.getElem_of_mem hc
  have hji : j < i := by have := hj; rw [List.length_take] at this; omega
  rw [List.getElem_take] at e
  have : (chgsO l m)[j].node < (chgsO l m)[i].node := List.pairwise_iff_getElem.1 (show (chgsO l m).Pairwise (fun a b => a.node < b.node) from chgs_asc (treeO l) (treeO m) (nodesO_asc m)) j i (Nat.lt_trans hji hi) hi hji
  omega
end Go.Proofs.YtkmdmjlepmmejaaGreatDoor.Ol
/- How two operations stand: what package op comes to. -/
namespace Go.Proofs.YtkmdmjlepmmejaaGreatDoor
open Go.RowKit Go.Proofs.YtkmdmjlepmmejaaGreatDoorW.PrintWords

theorem stampcmp_calls (a b c d : Int) (w : World) : Calls Tryz.prog 91 #[.agg #[.int .i64 a, .int .i64 b], .agg #[.int .i64 c, .int .i64 d]] w fun e w' => e = .returned (.int .i64 (cmpT a b c d)) ∧ Below w.heap.size w w' := by
  have HC1 := Lib.hid (cmp_int_calls a c)
  have HC2 := Lib.hid (cmp_int_calls b d)
  have HF := Lib.hid (show ∀ (g : Nat) (w : World), w.cell? ⟨g, 0, none⟩ = some (.int .i64 (cmpI a c)) → w.cell? ⟨g, 1, none⟩ = some (.int .i64 (cmpI b d)) → Calls Tryz.prog 123 #[.slice (some ⟨g, 0, none⟩) 2 2] w (fun e w' => e = .returned (.int .i64 (cmpT a b c d)) ∧ w' = w) from fun g w h0 h1 => first_calls (cmpI a c) (cmpI b d) g w h0 h1)
  generalize cmpT a b c d = R at *
  generalize cmpI a c = X at *
  generalize cmpI b d = Y at *
  have HB := Lib.hid (Below.refl w.heap.size w)
  go_enter Tryz.func91, Tryz.ntmps91
  go_wp2
  go_region_held3 (fun w' => w'.cell? ⟨w.heap.size, 0, none⟩ = some (.int .i64 a) ∧ w'.cell? ⟨w.heap.size + 1, 0, none⟩ = some (.int .i64 c) ∧ w'.cell? ⟨w.heap.size, 1, none⟩ = some (.int .i64 b) ∧ w'.cell? ⟨w.heap.size + 1, 1, none⟩ = some (.int .i64 d)) (refine ⟨?_, ?_, ?_, ?_⟩ <;> go_cell)
    (first
      | (go_at_call 89; (with_reducible refine (HC1.out _).mono ?_); rintro e w1 ⟨rfl, rfl⟩)
      | (go_at_call 89; (with_reducible refine (HC2.out _).mono ?_); rintro e w1 ⟨rfl, rfl⟩)
      | (go_at_call 123; refine (HF.out _ _ (by go_cell) (by go_cell)).mono ?_; rintro e w1 ⟨rfl, rfl⟩))
  all_goals go_wp2
  all_goals (go_ret; exact ⟨rfl, (by repeat (first | (with_reducible exact HB.out) | apply below_alloc | apply pw_below_drewN | apply below_drew1 | exact HB.out))⟩)
end Go.Proofs.YtkmdmjlepmmejaaGreatDoor
/- How two operations stand: package op's Cmp. -/
namespace Go.Proofs.YtkmdmjlepmmejaaGreatDoor
open Go.RowKit Go.Proofs.YtkmdmjlepmmejaaGreatDoorW.PrintWords

theorem byStamp_calls (a b : OpR) (w : World) : Calls Tryz.prog 74 #[opV a, opV b] w fun e w' => e = .returned (.int .i64 (cmpT a.n a.r b.n b.r)) ∧ Below w.heap.size w w' := by
  obtain ⟨n, r, node, par, name⟩ := a
  obtain ⟨n', r', node', par', name'⟩ := b
  have HC := Lib.hid (stampcmp_calls n r n' r')
  simp only [opV]
  generalize cmpT n r n' r' = R at *
  have HB := Lib.hid (Below.refl w.heap.size w)
  go_enter Tryz.func74, Tryz.ntmps74
  go_wp2_with (go_at_call 91; refine (HC.out _).mono ?_; rintro e w1 ⟨rfl, hb⟩; have HBn := Lib.hid (below_step (by repeat (first | (with_reducible exact HB.out) | apply below_alloc | apply pw_below_drewN | apply below_drew1 | exact HB.out)) hb); clear hb HB; have HB := HBn; clear HBn)
  go_ret
  exact ⟨rfl, (by repeat (first | (with_reducible exact HB.out) | apply below_alloc | apply pw_below_drewN | apply below_drew1 | exact HB.out))⟩
theorem byNode_calls (a b : OpR) (w : World) : Calls Tryz.prog 75 #[opV a, opV b] w fun e w' => e = .returned (.int .i64 (cmpI a.node b.node)) ∧ Below w.heap.size w w' := by
  obtain ⟨n, r, node, par, name⟩ := a
  obtain ⟨n', r', node', par', name'⟩ := b
  have HC := Lib.hid (cmp_int_calls node node')
  simp only [opV]
  generalize cmpI node node' = R at *
  have HB := Lib.hid (Below.refl w.heap.size w)
  go_enter Tryz.func75, Tryz.ntmps75
  go_wp2_with (go_at_call 89; refine (HC.out _).mono ?_; rintro e w1 ⟨rfl, rfl⟩)
  go_ret
  exact ⟨rfl, (by repeat (first | (with_reducible exact HB.out) | apply below_alloc | apply pw_below_drewN | apply below_drew1 | exact HB.out))⟩
theorem byTo_calls (a b : OpR) (w : World) : Calls Tryz.prog 76 #[opV a, opV b] w fun e w' => e = .returned (.int .i64 (cmpI a.par b.par)) ∧ Below w.heap.size w w' := by
  obtain ⟨n, r, node, par, name⟩ := a
  obtain ⟨n', r', node', par', name'⟩ := b
  have HC := Lib.hid (cmp_int_calls par par')
  simp only [opV]
  generalize cmpI par par' = R at *
  have HB := Lib.hid (Below.refl w.heap.size w)
  go_enter Tryz.func76, Tryz.ntmps76
  go_wp2_with (go_at_call 89; refine (HC.out _).mono ?_; rintro e w1 ⟨rfl, rfl⟩)
  go_ret
  exact ⟨rfl, (by repeat (first | (with_reducible exact HB.out) | apply below_alloc | apply pw_below_drewN | apply below_drew1 | exact HB.out))⟩
theorem byName_calls (a b : OpR) (w : World) : Calls Tryz.prog 77 #[opV a, opV b] w fun e w' => e = .returned (.int .i64 (cmpS a.name b.name)) ∧ Below w.heap.size w w' := by
  obtain ⟨n, r, node, par, name⟩ := a
  obtain ⟨n', r', node', par', name'⟩ := b
  have HC := Lib.hid (cmp_str_calls name name')
  simp only [opV]
  generalize cmpS name name' = R at *
  have HB := Lib.hid (Below.refl w.heap.size w)
  go_enter Tryz.func77, Tryz.ntmps77
  go_wp2_with (go_at_call 90; refine (HC.out _).mono ?_; rintro e w1 ⟨rfl, rfl⟩)
  go_ret
  exact ⟨rfl, (by repeat (first | (with_reducible exact HB.out) | apply below_alloc | apply pw_below_drewN | apply below_drew1 | exact HB.out))⟩

/-- The cells that Cmp reads at each round. -/
def CmpHeld (h : Nat) (a b : OpR) (w : World) : Prop :=
  (w.cell? ⟨h, 0, none⟩ = some (.int .i64 a.n) ∧ w.cell? ⟨h, 1, none⟩ = some (.int .i64 a.r) ∧ w.cell? ⟨h, 2, none⟩ = some (.int .i64 a.node) ∧ w.cell? ⟨h, 3, none⟩ = some (.int .i64 a.par) ∧ w.cell? ⟨h, 4, none⟩ = some (.string a.name)) ∧
  (w.cell? ⟨h + 1, 0, none⟩ = some (.int .i64 b.n) ∧ w.cell? ⟨h + 1, 1, none⟩ = some (.int .i64 b.r) ∧ w.cell? ⟨h + 1, 2, none⟩ = some (.int .i64 b.node) ∧ w.cell? ⟨h + 1, 3, none⟩ = some (.int .i64 b.par) ∧ w.cell? ⟨h + 1, 4, none⟩ = some (.string b.name)) ∧
  (w.cell? ⟨h + 2, 1, none⟩ = some (.func (.func 75) #[] #[]) ∧ w.cell? ⟨h + 2, 2, none⟩ = some (.func (.func 76) #[] #[]) ∧ w.cell? ⟨h + 2, 3, none⟩ = some (.func (.func 77) #[] #[]))
theorem CmpHeld.below {h : Nat} {a b : OpR} {w w1 : World} (k : CmpHeld h a b w) (hb : Below w.heap.size w w1) : CmpHeld h a b w1 := by
  obtain ⟨⟨a0, a1, a2, a3, a4⟩, ⟨b0, b1, b2, b3, b4⟩, c1, c2, c3⟩ := k
  exact ⟨⟨pw_cell_below hb a0, pw_cell_below hb a1, pw_cell_below hb a2, pw_cell_below hb a3, pw_cell_below hb a4⟩, ⟨pw_cell_below hb b0, pw_cell_below hb b1, pw_cell_below hb b2, pw_cell_below hb b3, pw_cell_below hb b4⟩, pw_cell_below hb c1, pw_cell_below hb c2, pw_cell_below hb c3⟩

set_option maxHeartbeats 2000000 in
theorem opcmp_calls (a b : OpR) (w : World) : Calls Tryz.prog 47 #[opV a, opV b] w fun e w' => e = .returned (.int .i64 (opCmp a b)) ∧ Below w.heap.size w w' := by
  have HC1 := Lib.hid (byStamp_calls a b)
  have HC2 := Lib.hid (byNode_calls a b)
  have HC3 := Lib.hid (byTo_calls a b)
  have HC4 := Lib.hid (byName_calls a b)
  have HE := Lib.hid (show opCmp a b = if cmpT a.n a.r b.n b.r = 0 then (if cmpI a.node b.node = 0 then (if cmpI a.par b.par = 0 then cmpS a.name b.name else cmpI a.par b.par) else cmpI a.node b.node) else cmpT a.n a.r b.n b.r from rfl)
  generalize opCmp a b = R at *
  generalize cmpT a.n a.r b.n b.r = X1 at *
  generalize cmpI a.node b.node = X2 at *
  generalize cmpI a.par b.par = X3 at *
  generalize cmpS a.name b.name = X4 at *
  obtain ⟨n, r, node, par, name⟩ := a
  obtain ⟨n', r', node', par', name'⟩ := b
  simp only [opV] at *
  have HB := Lib.hid (Below.refl w.heap.size w)
  go_enter Tryz.func47, Tryz.ntmps47
  go_wp2
  refine wp_loop_rounds 5 ?_
  repeat any_goals (rw [rounds_succ]; go_wp2_with (first
    | (go_at_call 74; refine (HC1.out _).mono ?_; rintro e v1 ⟨rfl, hb⟩; have K1 := CmpHeld.below (h := w.heap.size) (a := ⟨n, r, node, par, name⟩) (b := ⟨n', r', node', par', name'⟩) ⟨⟨by go_cell, by go_cell, by go_cell, by go_cell, by go_cell⟩, ⟨by go_cell, by go_cell, by go_cell, by go_cell, by go_cell⟩, by go_cell, by go_cell, by go_cell⟩ hb; have HBn := Lib.hid (below_step (by repeat (first | (with_reducible exact HB.out) | apply below_alloc | apply pw_below_drewN | apply below_drew1 | exact HB.out)) hb); clear hb HB; have HB := HBn; clear HBn; obtain ⟨⟨a10, a11, a12, a13, a14⟩, ⟨b10, b11, b12, b13, b14⟩, c11, c12, c13⟩ := K1)
    | (go_at_call 75; refine (HC2.out _).mono ?_; rintro e v2 ⟨rfl, hb⟩; have K2 := CmpHeld.below (h := w.heap.size) (a := ⟨n, r, node, par, name⟩) (b := ⟨n', r', node', par', name'⟩) ⟨⟨by go_cell, by go_cell, by go_cell, by go_cell, by go_cell⟩, ⟨by go_cell, by go_cell, by go_cell, by go_cell, by go_cell⟩, by go_cell, by go_cell, by go_cell⟩ hb; have HBn := Lib.hid (below_step (by repeat (first | (with_reducible exact HB.out) | apply below_alloc | apply pw_below_drewN | apply below_drew1 | exact HB.out)) hb); clear hb HB; have HB := HBn; clear HBn; obtain ⟨⟨a20, a21, a22, a23, a24⟩, ⟨b20, b21, b22, b23, b24⟩, c21, c22, c23⟩ := K2)
    | (go_at_call 76; refine (HC3.out _).mono ?_; rintro e v3 ⟨rfl, hb⟩; have K3 := CmpHeld.below (h := w.heap.size) (a := ⟨n, r, node, par, name⟩) (b := ⟨n', r', node', par', name'⟩) ⟨⟨by go_cell, by go_cell, by go_cell, by go_cell, by go_cell⟩, ⟨by go_cell, by go_cell, by go_cell, by go_cell, by go_cell⟩, by go_cell, by go_cell, by go_cell⟩ hb; have HBn := Lib.hid (below_step (by repeat (first | (with_reducible exact HB.out) | apply below_alloc | apply pw_below_drewN | apply below_drew1 | exact HB.out)) hb); clear hb HB; have HB := HBn; clear HBn; obtain ⟨⟨a30, a31, a32, a33, a34⟩, ⟨b30, b31, b32, b33, b34⟩, c31, c32, c33⟩ := K3)
    | (go_at_call 77; refine (HC4.out _).mono ?_; rintro e v4 ⟨rfl, hb⟩; have HBn := Lib.hid (below_step (by repeat (first | (with_reducible exact HB.out) | apply below_alloc | apply pw_below_drewN | apply below_drew1 | exact HB.out)) hb); clear hb HB; have HB := HBn; clear HBn)))
  all_goals (go_ret; refine ⟨?_, (by repeat (first | (with_reducible exact HB.out) | apply below_alloc | apply pw_below_drewN | apply below_drew1 | exact HB.out))⟩; rw [HE.out]; clear HC1 HC2 HC3 HC4 HE; simp_all)
end Go.Proofs.YtkmdmjlepmmejaaGreatDoor
/- How two operations stand, once more: behind it no less is drawn. -/
namespace Go.Proofs.YtkmdmjlepmmejaaGreatDoor
open Go.RowKit Go.Proofs.YtkmdmjlepmmejaaGreatDoorW.PrintWords

theorem drawn_alloc (w : World) (o : Obj) : (w.alloc o).drawn = w.drawn := rfl
theorem drawn_setCell (w : World) (p : Addr) (u : Value) : (w.setCell p u).drawn = w.drawn := by unfold World.setCell; split <;> rfl
theorem drawn_drew (w : World) : w.drew.drawn = w.drawn + 1 := rfl
theorem drawn_drewN (w : World) (n : Nat) : (w.drewN n).drawn = w.drawn + n := rfl
theorem grow_of {w w' : World} (hb : Below w.heap.size w w') (hd : w.drawn ≤ w'.drawn) : ∃ q os, w' = Sort.grow (w.drewN q) os := by
  refine ⟨w'.drawn - w.drawn, w'.heap.extract w.heap.size w'.heap.size, ?_⟩
  obtain ⟨h1, h2, h3, h4, h5⟩ := hb
  cases w' with
  | mk heap tape drawn os output =>
    cases w with
    | mk heap0 tape0 drawn0 os0 output0 =>
      simp only [World.drewN, Sort.grow] at *
      subst h1 h2 h3
      have e1 : heap = heap0 ++ heap.extract heap0.size heap.size := by
        apply Array.ext
        · simp; omega
        · intro i hi hj
          by_cases hlt : i < heap0.size
          · rw [Array.getElem_append_left hlt]
            have := h5 i hlt
            rw [Array.getElem?_eq_getElem hi, Array.getElem?_eq_getElem hlt] at this
            exact Option.some.inj this
          · rw [Array.getElem_append_right (by omega), Array.getElem_extract]
            congr 1
            omega
      rw [show drawn0 + (drawn - drawn0) = drawn by omega, ← e1]


theorem stampcmp_d (a b c d : Int) (w : World) : Calls Tryz.prog 91 #[.agg #[.int .i64 a, .int .i64 b], .agg #[.int .i64 c, .int .i64 d]] w fun e w' => e = .returned (.int .i64 (cmpT a b c d)) ∧ Below w.heap.size w w' ∧ w.drawn ≤ w'.drawn := by
  have HC1 := Lib.hid (cmp_int_calls a c)
  have HC2 := Lib.hid (cmp_int_calls b d)
  have HF := Lib.hid (show ∀ (g : Nat) (w : World), w.cell? ⟨g, 0, none⟩ = some (.int .i64 (cmpI a c)) → w.cell? ⟨g, 1, none⟩ = some (.int .i64 (cmpI b d)) → Calls Tryz.prog 123 #[.slice (some ⟨g, 0, none⟩) 2 2] w (fun e w' => e = .returned (.int .i64 (cmpT a b c d)) ∧ w' = w) from fun g w h0 h1 => first_calls (cmpI a c) (cmpI b d) g w h0 h1)
  generalize cmpT a b c d = R at *
  generalize cmpI a c = X at *
  generalize cmpI b d = Y at *
  have HB := Lib.hid (Below.refl w.heap.size w)
  have HD := Lib.hid (Nat.le_refl w.drawn)
  go_enter Tryz.func91, Tryz.ntmps91
  go_wp2
  go_region_held3 (fun w' => w'.cell? ⟨w.heap.size, 0, none⟩ = some (.int .i64 a) ∧ w'.cell? ⟨w.heap.size + 1, 0, none⟩ = some (.int .i64 c) ∧ w'.cell? ⟨w.heap.size, 1, none⟩ = some (.int .i64 b) ∧ w'.cell? ⟨w.heap.size + 1, 1, none⟩ = some (.int .i64 d)) (refine ⟨?_, ?_, ?_, ?_⟩ <;> go_cell)
    (first
      | (go_at_call 89; (with_reducible refine (HC1.out _).mono ?_); rintro e w1 ⟨rfl, rfl⟩)
      | (go_at_call 89; (with_reducible refine (HC2.out _).mono ?_); rintro e w1 ⟨rfl, rfl⟩)
      | (go_at_call 123; refine (HF.out _ _ (by go_cell) (by go_cell)).mono ?_; rintro e w1 ⟨rfl, rfl⟩))
  all_goals go_wp2
  all_goals (go_ret; exact ⟨rfl, (by repeat (first | (with_reducible exact HB.out) | apply below_alloc | apply pw_below_drewN | apply below_drew1 | exact HB.out)), (by have HDo := HD.out; first | exact HDo | (simp at HDo ⊢; done) | (simp [drawn_alloc, drawn_setCell, drawn_drew, drawn_drewN] at HDo ⊢; done) | (simp only [drawn_alloc, drawn_setCell, drawn_drew, drawn_drewN] at HDo ⊢; omega))⟩)


theorem byStamp_d (a b : OpR) (w : World) : Calls Tryz.prog 74 #[opV a, opV b] w fun e w' => e = .returned (.int .i64 (cmpT a.n a.r b.n b.r)) ∧ Below w.heap.size w w' ∧ w.drawn ≤ w'.drawn := by
  obtain ⟨n, r, node, par, name⟩ := a
  obtain ⟨n', r', node', par', name'⟩ := b
  have HC := Lib.hid (stampcmp_d n r n' r')
  simp only [opV]
  generalize cmpT n r n' r' = R at *
  have HB := Lib.hid (Below.refl w.heap.size w)
  have HD := Lib.hid (Nat.le_refl w.drawn)
  go_enter Tryz.func74, Tryz.ntmps74
  go_wp2_with (go_at_call 91; refine (HC.out _).mono ?_; rintro e w1 ⟨rfl, hb, hd⟩; have HBn := Lib.hid (below_step (by repeat (first | (with_reducible exact HB.out) | apply below_alloc | apply pw_below_drewN | apply below_drew1 | exact HB.out)) hb); clear hb HB; have HB := HBn; clear HBn; have HDn := Lib.hid (Nat.le_trans HD.out hd); clear hd HD; have HD := HDn; clear HDn)
  go_ret
  exact ⟨rfl, (by repeat (first | (with_reducible exact HB.out) | apply below_alloc | apply pw_below_drewN | apply below_drew1 | exact HB.out)), (by have HDo := HD.out; first | exact HDo | (simp at HDo ⊢; done) | (simp [drawn_alloc, drawn_setCell, drawn_drew, drawn_drewN] at HDo ⊢; done) | (simp only [drawn_alloc, drawn_setCell, drawn_drew, drawn_drewN] at HDo ⊢; omega))⟩
theorem byNode_d (a b : OpR) (w : World) : Calls Tryz.prog 75 #[opV a, opV b] w fun e w' => e = .returned (.int .i64 (cmpI a.node b.node)) ∧ Below w.heap.size w w' ∧ w.drawn ≤ w'.drawn := by
  obtain ⟨n, r, node, par, name⟩ := a
  obtain ⟨n', r', node', par', name'⟩ := b
  have HC := Lib.hid (cmp_int_calls node node')
  simp only [opV]
  generalize cmpI node node' = R at *
  have HB := Lib.hid (Below.refl w.heap.size w)
  have HD := Lib.hid (Nat.le_refl w.drawn)
  go_enter Tryz.func75, Tryz.ntmps75
  go_wp2_with (go_at_call 89; refine (HC.out _).mono ?_; rintro e w1 ⟨rfl, rfl⟩)
  go_ret
  exact ⟨rfl, (by repeat (first | (with_reducible exact HB.out) | apply below_alloc | apply pw_below_drewN | apply below_drew1 | exact HB.out)), (by have HDo := HD.out; first | exact HDo | (simp at HDo ⊢; done) | (simp [drawn_alloc, drawn_setCell, drawn_drew, drawn_drewN] at HDo ⊢; done) | (simp only [drawn_alloc, drawn_setCell, drawn_drew, drawn_drewN] at HDo ⊢; omega))⟩
theorem byTo_d (a b : OpR) (w : World) : Calls Tryz.prog 76 #[opV a, opV b] w fun e w' => e = .returned (.int .i64 (cmpI a.par b.par)) ∧ Below w.heap.size w w' ∧ w.drawn ≤ w'.drawn := by
  obtain ⟨n, r, node, par, name⟩ := a
  obtain ⟨n', r', node', par', name'⟩ := b
  have HC := Lib.hid (cmp_int_calls par par')
  simp only [opV]
  generalize cmpI par par' = R at *
  have HB := Lib.hid (Below.refl w.heap.size w)
  have HD := Lib.hid (Nat.le_refl w.drawn)
  go_enter Tryz.func76, Tryz.ntmps76
  go_wp2_with (go_at_call 89; refine (HC.out _).mono ?_; rintro e w1 ⟨rfl, rfl⟩)
  go_ret
  exact ⟨rfl, (by repeat (first | (with_reducible exact HB.out) | apply below_alloc | apply pw_below_drewN | apply below_drew1 | exact HB.out)), (by have HDo := HD.out; first | exact HDo | (simp at HDo ⊢; done) | (simp [drawn_alloc, drawn_setCell, drawn_drew, drawn_drewN] at HDo ⊢; done) | (simp only [drawn_alloc, drawn_setCell, drawn_drew, drawn_drewN] at HDo ⊢; omega))⟩
theorem byName_d (a b : OpR) (w : World) : Calls Tryz.prog 77 #[opV a, opV b] w fun e w' => e = .returned (.int .i64 (cmpS a.name b.name)) ∧ Below w.heap.size w w' ∧ w.drawn ≤ w'.drawn := by
  obtain ⟨n, r, node, par, name⟩ := a
  obtain ⟨n', r', node', par', name'⟩ := b
  have HC := Lib.hid (cmp_str_calls name name')
  simp only [opV]
  generalize cmpS name name' = R at *
  have HB := Lib.hid (Below.refl w.heap.size w)
  have HD := Lib.hid (Nat.le_refl w.drawn)
  go_enter Tryz.func77, Tryz.ntmps77
  go_wp2_with (go_at_call 90; refine (HC.out _).mono ?_; rintro e w1 ⟨rfl, rfl⟩)
  go_ret
  exact ⟨rfl, (by repeat (first | (with_reducible exact HB.out) | apply below_alloc | apply pw_below_drewN | apply below_drew1 | exact HB.out)), (by have HDo := HD.out; first | exact HDo | (simp at HDo ⊢; done) | (simp [drawn_alloc, drawn_setCell, drawn_drew, drawn_drewN] at HDo ⊢; done) | (simp only [drawn_alloc, drawn_setCell, drawn_drew, drawn_drewN] at HDo ⊢; omega))⟩

set_option maxHeartbeats 2000000 in
theorem opcmp_d (a b : OpR) (w : World) : Calls Tryz.prog 47 #[opV a, opV b] w fun e w' => e = .returned (.int .i64 (opCmp a b)) ∧ Below w.heap.size w w' ∧ w.drawn ≤ w'.drawn := by
  have HC1 := Lib.hid (byStamp_d a b)
  have HC2 := Lib.hid (byNode_d a b)
  have HC3 := Lib.hid (byTo_d a b)
  have HC4 := Lib.hid (byName_d a b)
  have HE := Lib.hid (show opCmp a b = if cmpT a.n a.r b.n b.r = 0 then (if cmpI a.node b.node = 0 then (if cmpI a.par b.par = 0 then cmpS a.name b.name else cmpI a.par b.par) else cmpI a.node b.node) else cmpT a.n a.r b.n b.r from rfl)
  generalize opCmp a b = R at *
  generalize cmpT a.n a.r b.n b.r = X1 at *
  generalize cmpI a.node b.node = X2 at *
  generalize cmpI a.par b.par = X3 at *
  generalize cmpS a.name b.name = X4 at *
  obtain ⟨n, r, node, par, name⟩ := a
  obtain ⟨n', r', node', par', name'⟩ := b
  simp only [opV] at *
  have HB := Lib.hid (Below.refl w.heap.size w)
  have HD := Lib.hid (Nat.le_refl w.drawn)
  go_enter Tryz.func47, Tryz.ntmps47
  go_wp2
  refine wp_loop_rounds 5 ?_
  repeat any_goals (rw [rounds_succ]; go_wp2_with (first
    | (go_at_call 74; refine (HC1.out _).mono ?_; rintro e v1 ⟨rfl, hb, hd⟩; have K1 := CmpHeld.below (h := w.heap.size) (a := ⟨n, r, node, par, name⟩) (b := ⟨n', r', node', par', name'⟩) ⟨⟨by go_cell, by go_cell, by go_cell, by go_cell, by go_cell⟩, ⟨by go_cell, by go_cell, by go_cell, by go_cell, by go_cell⟩, by go_cell, by go_cell, by go_cell⟩ hb; have HBn := Lib.hid (below_step (by repeat (first | (with_reducible exact HB.out) | apply below_alloc | apply pw_below_drewN | apply below_drew1 | exact HB.out)) hb); clear hb HB; have HB := HBn; clear HBn; have HDn := Lib.hid (Nat.le_trans HD.out hd); clear hd HD; have HD := HDn; clear HDn; obtain ⟨⟨a10, a11, a12, a13, a14⟩, ⟨b10, b11, b12, b13, b14⟩, c11, c12, c13⟩ := K1)
    | (go_at_call 75; refine (HC2.out _).mono ?_; rintro e v2 ⟨rfl, hb, hd⟩; have K2 := CmpHeld.below (h := w.heap.size) (a := ⟨n, r, node, par, name⟩) (b := ⟨n', r', node', par', name'⟩) ⟨⟨by go_cell, by go_cell, by go_cell, by go_cell, by go_cell⟩, ⟨by go_cell, by go_cell, by go_cell, by go_cell, by go_cell⟩, by go_cell, by go_cell, by go_cell⟩ hb; have HBn := Lib.hid (below_step (by repeat (first | (with_reducible exact HB.out) | apply below_alloc | apply pw_below_drewN | apply below_drew1 | exact HB.out)) hb); clear hb HB; have HB := HBn; clear HBn; have HDn := Lib.hid (Nat.le_trans HD.out hd); clear hd HD; have HD := HDn; clear HDn; obtain ⟨⟨a20, a21, a22, a23, a24⟩, ⟨b20, b21, b22, b23, b24⟩, c21, c22, c23⟩ := K2)
    | (go_at_call 76; refine (HC3.out _).mono ?_; rintro e v3 ⟨rfl, hb, hd⟩; have K3 := CmpHeld.below (h := w.heap.size) (a := ⟨n, r, node, par, name⟩) (b := ⟨n', r', node', par', name'⟩) ⟨⟨by go_cell, by go_cell, by go_cell, by go_cell, by go_cell⟩, ⟨by go_cell, by go_cell, by go_cell, by go_cell, by go_cell⟩, by go_cell, by go_cell, by go_cell⟩ hb; have HBn := Lib.hid (below_step (by repeat (first | (with_reducible exact HB.out) | apply below_alloc | apply pw_below_drewN | apply below_drew1 | exact HB.out)) hb); clear hb HB; have HB := HBn; clear HBn; have HDn := Lib.hid (Nat.le_trans HD.out hd); clear hd HD; have HD := HDn; clear HDn; obtain ⟨⟨a30, a31, a32, a33, a34⟩, ⟨b30, b31, b32, b33, b34⟩, c31, c32, c33⟩ := K3)
    | (go_at_call 77; refine (HC4.out _).mono ?_; rintro e v4 ⟨rfl, hb, hd⟩; have HBn := Lib.hid (below_step (by repeat (first | (with_reducible exact HB.out) | apply below_alloc | apply pw_below_drewN | apply below_drew1 | exact HB.out)) hb); clear hb HB; have HB := HBn; clear HBn; have HDn := Lib.hid (Nat.le_trans HD.out hd); clear hd HD; have HD := HDn; clear HDn)))
  all_goals (go_ret; refine ⟨?_, (by repeat (first | (with_reducible exact HB.out) | apply below_alloc | apply pw_below_drewN | apply below_drew1 | exact HB.out)), (by have HDo := HD.out; first | exact HDo | (simp at HDo ⊢; done) | (simp [drawn_alloc, drawn_setCell, drawn_drew, drawn_drewN] at HDo ⊢; done) | (simp only [drawn_alloc, drawn_setCell, drawn_drew, drawn_drewN] at HDo ⊢; omega))⟩; rw [HE.out]; clear HC1 HC2 HC3 HC4 HE; simp_all)
end Go.Proofs.YtkmdmjlepmmejaaGreatDoor
