/-
  Opening arguments of plain data, whatever their make: what a reading's cells say, kind by kind.
-/
import Derived.Test.YtmdfgjjbllbjmaaDoorWWords
import Derived.ProofKit
import Derived.OpenShut
import Derived.ChangeArms
namespace Go.Proofs.YtmdfgjjbllbjmaaDoorW.Open
open Go.RowKit Go.Proofs.YtmdfgjjbllbjmaaDoorW.PrintWords Go.ChangeShapes

/-- What is read at type t is of the kind d, and ok. -/
def Opens {α : Type} (P : Program) (t : TypeId) (d : Kd α) (ok : α → Prop) : Prop :=
  P.cellsOf t = d.sz ∧ ∀ (H : Type) (enc : TypeId × Value → H) (w : World) (fuel : Nat) (cs : List Value) (x : DataW H × List MemPlace), DataW.trod enc P w 0 (fun _ => true) true fuel t cs = some x → ∃ y, d.K w y cs ∧ ok y

theorem Opens.int {P : Program} {t : TypeId} {k : IntKind} (ht : P.underlying t = some (.int k)) (hc : P.cellsOf t = 1) : Opens P t (Kd.int k) (fun n => (Lit.int k n).wf = true) :=
  ⟨hc, fun _ _ _ _ _ _ h => by obtain ⟨n, rfl, _, hw⟩ := DataW.trod_int ht h; exact ⟨n, rfl, hw⟩⟩
theorem Opens.bool {P : Program} {t : TypeId} (ht : P.underlying t = some .bool) (hc : P.cellsOf t = 1) : Opens P t Kd.bool (fun _ => True) :=
  ⟨hc, fun _ _ _ _ _ _ h => by obtain ⟨n, rfl, _⟩ := DataW.trod_bool ht h; exact ⟨n, rfl, trivial⟩⟩
theorem Opens.string {P : Program} {t : TypeId} (ht : P.underlying t = some .string) (hc : P.cellsOf t = 1) : Opens P t Kd.string (fun s => s.size ≤ maxLen) :=
  ⟨hc, fun _ _ _ _ _ _ h => by obtain ⟨n, rfl, _, hs⟩ := DataW.trod_string ht h; exact ⟨n, rfl, hs⟩⟩

theorem Opens.slice {α : Type} {P : Program} {t e : TypeId} {d : Kd α} {ok : α → Prop} (ht : P.underlying t = some (.slice e)) (hc : P.cellsOf t = 1) (he : Opens P e d ok) :
    Opens P t (Kd.slice e d) (fun xs => xs.length ≤ maxLen ∧ ∀ x ∈ xs, ok x) := by
  obtain ⟨hsz, hop⟩ := he
  refine ⟨hc, fun H enc w fuel cs x h => ?_⟩
  rcases DataW.trod_slice ht h with ⟨rfl, _⟩ | ⟨a, len, cap, elems, rest, n, _, rfl, _, _, hl, hm, hlen, hel, _, _⟩
  · exact ⟨[], ⟨none, 0, rfl, by simp, rfl, by simp, by simp⟩, by simp, by simp⟩
  · have each : ∀ i, i < len → ∃ y c, c.length = d.sz ∧ d.K w y c ∧ ok y ∧ ∀ j u, c[j]? = some u → w.cell? (a.add (i * d.sz + j)) = some u := by
      intro i hi
      have h1 := hel i hi
      rw [List.getElem?_eq_getElem (by omega)] at h1
      obtain ⟨c, hcs, hy⟩ := Option.bind_eq_some_iff.1 h1
      obtain ⟨_, hcl, hcell⟩ := World.cells?_some hcs
      obtain ⟨y, hK, hok⟩ := hop H enc w n c _ hy
      refine ⟨y, c, by rw [hcl, hsz], hK, hok, fun j u hu => ?_⟩
      have hj : j < c.length := (List.getElem?_eq_some_iff.1 hu).1
      have := hcell j (by omega)
      rw [hu, hsz, add_add] at this
      exact this
    have build : ∀ m, m ≤ len → ∃ xs : List α, xs.length = m ∧ (∀ x ∈ xs, ok x) ∧ ∀ j p, xs[j]? = some p → ∃ c, c.length = d.sz ∧ d.K w p c ∧ ∀ i u, c[i]? = some u → w.cell? (a.add (j * d.sz + i)) = some u := by
      intro m
      induction m with
      | zero => intro _; exact ⟨[], rfl, by simp, fun j p h => by simp at h⟩
      | succ m ih =>
        intro hm'
        obtain ⟨xs, hx, hok, hall⟩ := ih (by omega)
        obtain ⟨y, c, hcl, hK, hoky, hcell⟩ := each m (by omega)
        refine ⟨xs ++ [y], by simp [hx], ?_, ?_⟩
        · intro z hz
          rcases List.mem_append.1 hz with h' | h'
          · exact hok z h'
          · rw [List.mem_singleton.1 h']; exact hoky
        · intro j p hj
          rcases Nat.lt_or_ge j xs.length with h' | h'
          · rw [List.getElem?_append_left h'] at hj; exact hall j p hj
          · have hj' := (List.getElem?_eq_some_iff.1 hj).1
            obtain rfl : j = xs.length := by simp at hj'; omega
            have : y = p := by simpa using hj
            subst this
            rw [hx]
            exact ⟨c, hcl, hK, hcell⟩
    obtain ⟨xs, hx, hok, hall⟩ := build len (Nat.le_refl _)
    subst hx
    simp only [maxLen] at hm
    exact ⟨xs, ⟨some a, cap, rfl, hl, rfl, by omega, fun _ => ⟨a, rfl, hall⟩⟩, by simp only [maxLen]; omega, hok⟩

/-- Fields in line: from offset n on. -/
def OpensF {α : Type} (P : Program) (fs : List Field) (n : Nat) (d : Kd α) (ok : α → Prop) : Prop :=
  ∀ (H : Type) (enc : TypeId × Value → H) (w : World) (fuel : Nat) (cs : List Value), cs.length = n + d.sz → (∀ f ∈ fs, ∃ x, DataW.trod enc P w 0 (fun _ => true) true fuel f.type ((cs.drop f.offset).take (P.cellsOf f.type)) = some x) → ∃ y, d.K w y (cs.drop n) ∧ ok y
theorem OpensF.one {α : Type} {P : Program} {f : Field} {d : Kd α} {ok : α → Prop} (h : Opens P f.type d ok) : OpensF P [f] f.offset d ok := by
  intro H enc w fuel cs hl hall
  obtain ⟨x, hx⟩ := hall f (by simp)
  have := h.2 H enc w fuel _ _ hx
  rw [h.1, List.take_of_length_le (by simp; omega)] at this
  exact this
theorem OpensF.cons {α β : Type} {P : Program} {f : Field} {fs : List Field} {d : Kd α} {d' : Kd β} {ok : α → Prop} {ok' : β → Prop} {n : Nat} (h : Opens P f.type d ok) (hs : OpensF P fs n d' ok') (hn : n = f.offset + d.sz) : OpensF P (f :: fs) f.offset (Kd.pair d d') (fun y => ok y.1 ∧ ok' y.2) := by
  intro H enc w fuel cs hl hall
  obtain ⟨x, hx⟩ := hall f (by simp)
  obtain ⟨y, hK, hok⟩ := h.2 H enc w fuel _ _ hx
  have hl' : cs.length = n + d'.sz := by rw [hl, hn]; show f.offset + (d.sz + d'.sz) = _; omega
  obtain ⟨y', hK', hok'⟩ := hs H enc w fuel cs hl' (fun g hg => hall g (by simp [hg]))
  rw [h.1] at hK
  refine ⟨(y, y'), ⟨_, _, ?_, hK, hK'⟩, hok, hok'⟩
  rw [hn, ← List.drop_drop, List.take_append_drop]
theorem Opens.struct {α : Type} {P : Program} {t : TypeId} {fs : Array Field} {d : Kd α} {ok : α → Prop} (ht : P.underlying t = some (.struct fs)) (hc : P.cellsOf t = d.sz) (h : OpensF P fs.toList 0 d ok) : Opens P t d ok := by
  refine ⟨hc, fun H enc w fuel cs x hx => ?_⟩
  obtain ⟨xs, n, rfl, _, hl, hlen, hf⟩ := DataW.trod_struct ht hx
  have := h H enc w n cs (by rw [hl, hc]; omega) (fun f hf' => by
    obtain ⟨i, hi⟩ := List.getElem?_of_mem hf'
    have hi' : fs[i]? = some f := by simpa using hi
    have h2 := hf i f hi'
    have h3 : i < xs.length := by rw [hlen]; exact (Array.getElem?_eq_some_iff.1 hi').1
    rw [List.getElem?_eq_getElem h3] at h2
    exact ⟨_, h2⟩)
  simpa using this
theorem Opens.iso {α β : Type} {P : Program} {t : TypeId} {d : Kd α} {ok : α → Prop} (f : β → α) (g : α → β) (hfg : ∀ x, f (g x) = x) (h : Opens P t d ok) : Opens P t (Kd.iso d f) (fun y => ok (f y)) :=
  ⟨h.1, fun H enc w fuel cs x hx => by obtain ⟨y, hK, hok⟩ := h.2 H enc w fuel cs x hx; exact ⟨g y, by show d.K w (f (g y)) cs; rw [hfg]; exact hK, by show ok (f (g y)); rw [hfg]; exact hok⟩⟩

/-- An argument is opened: its value by its cells, and what these say. -/
theorem Opens.arg {α : Type} {H : Type} {enc : TypeId × Value → H} {P : Program} {w : World} {t : TypeId} {v : Value} {x : DataW H} {p : List MemPlace} {d : Kd α} {ok : α → Prop} (h : Opens P t d ok) (ht : DataW.Trod enc P w 0 (fun _ => true) true t v x p) : ∃ y, d.K w y v.cells.toList ∧ ok y := by
  obtain ⟨fuel, hf⟩ := ht
  exact h.2 H enc w fuel _ _ hf
end Go.Proofs.YtmdfgjjbllbjmaaDoorW.Open
