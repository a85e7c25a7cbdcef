/-
  The walk of the law OpOrder.
-/
import Derived.Test.YtbekfoldohhbpaaDoorOpOrdA
namespace Go.Proofs.YtbekfoldohhbpaaDoor
open Go.RowKit Go.Proofs.YtbekfoldohhbpaaDoorW.PrintWords

theorem opOrder_walk (a b c : OpR) (w : World) (_ : a.name.size ≤ 9223372036854775807) (_ : b.name.size ≤ 9223372036854775807) (_ : c.name.size ≤ 9223372036854775807) (hT : Tabs w) :
    Calls Tryd.prog 4 #[opV a, opV b, opV c] w fun e w' => e = .returned (.bool true) ∧ Below w.heap.size w w' := by
  have HT := Lib.hid hT
  have HS : Hid (∀ (g : Nat) (w : World), w.cell? ⟨g, 4, none⟩ = some (.string a.name) → w.cell? ⟨g, 9, none⟩ = some (.string b.name) → w.cell? ⟨g, 14, none⟩ = some (.string c.name) → Calls Tryd.prog 9 #[.slice (some ⟨g, 0, none⟩) 3 3] w (fun e w' => e = .returned (.bool (decide (a.name.size ≤ 60) && (decide (b.name.size ≤ 60) && decide (c.name.size ≤ 60)))) ∧ Below w.heap.size w w')) :=
    Lib.hid fun g w h0 h1 h2 => (short3_calls g a.name b.name c.name w h0 h1 h2).mono (by rintro e w' ⟨rfl, rfl⟩; exact ⟨rfl, Below.refl _ _⟩)
  have h1 := opcmp_calls a b
  have h2 := opcmp_calls b c
  have h3 := opcmp_calls a c
  have h4 := opcmp_calls b a
  have h5 := opcmp_calls a a
  have z1 := opCmp_range a b
  have z0 := opCmp_zero a b
  have z2 := (opCmp_zero a a).2 rfl
  have z3 := opCmp_good.1 a b
  have z4 := opCmp_good.2 a b c
  have z5 := opCmp_good.2 c b a
  have z6 := opCmp_good.1 b c
  have z7 := opCmp_good.1 a c
  have z8 : 0 < opCmp a c → opCmp a b ≤ 0 → 0 < opCmp b c := by omega
  have z9 : opCmp a c < 0 → 0 ≤ opCmp a b → opCmp b c < 0 := by omega
  rw [z3] at h4
  rw [z2] at h5
  generalize opCmp a b = x at *
  generalize opCmp b c = y at *
  generalize opCmp a c = z at *
  clear z2 z3 z4 z5 z6 z7
  obtain ⟨n, r, node, par, name⟩ := a
  obtain ⟨n', r', node', par', name'⟩ := b
  simp only [OpR.mk.injEq] at z0
  by_cases e1 : n = n'
  · subst e1
    by_cases e2 : r = r'
    · subst e2
      by_cases e3 : node = node'
      · subst e3
        by_cases e4 : par = par'
        · subst e4
          by_cases e5 : name = name'
          · subst e5
            exact order_case5 n r node par name c x y z w (z0.2 ⟨rfl, rfl, rfl, rfl, rfl⟩) z1 z8 z9 HT _ HS h1 h2 h3 h4 h5
          · exact order_case4 n r node par name name' c x y z w (fun h => e5 (by rw [ByteArray.toList_eq, ByteArray.toList_eq] at h; exact ByteArray.ext (Array.toList_inj.1 h))) (fun h => e5 (z0.1 h).2.2.2.2) z1 z8 z9 HT _ HS h1 h2 h3 h4 h5
        · exact order_case3 n r node par par' name name' c x y z w e4 (fun h => e4 (z0.1 h).2.2.2.1) z1 z8 z9 HT _ HS h1 h2 h3 h4 h5
      · exact order_case2 n r node par node' par' name name' c x y z w e3 (fun h => e3 (z0.1 h).2.2.1) z1 z8 z9 HT _ HS h1 h2 h3 h4 h5
    · exact order_case1 n r node par r' node' par' name name' c x y z w e2 (fun h => e2 (z0.1 h).2.1) z1 z8 z9 HT _ HS h1 h2 h3 h4 h5
  · exact order_case0 n r node par n' r' node' par' name name' c x y z w e1 (fun h => e1 (z0.1 h).1) z1 z8 z9 HT _ HS h1 h2 h3 h4 h5
end Go.Proofs.YtbekfoldohhbpaaDoor
