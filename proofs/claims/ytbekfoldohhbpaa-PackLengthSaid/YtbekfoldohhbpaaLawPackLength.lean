/-
  The walk of the law PackLength: whatever the input, the call returns true, and what was in memory stays.
-/
import Derived.Test.YtbekfoldohhbpaaPkF
namespace Go.Proofs.Ytbekfoldohhbpaa
open Go.RowKit Go.Proofs.YtbekfoldohhbpaaW.PrintWords

/-- How often a number can be divided by 128 before it is nothing. -/
def len7 : Nat → Int → Nat
  | 0, _ => 0
  | k + 1, x => if 0 < x then 1 + len7 k (x / 128) else 0
theorem formGo_len7 (k : Nat) : ∀ n : Int, 0 ≤ n → (formGo k n).length = 1 + len7 k (n / 128) := by
  induction k with
  | zero => intro n _; rfl
  | succ k ih =>
    intro n hn
    rw [formGo, len7]
    by_cases h : 128 ≤ n
    · rw [if_pos h, if_pos (by omega), List.length_cons, ih _ (by omega)]; omega
    · rw [if_neg h, if_neg (by omega)]; rfl
theorem len7_le (k : Nat) : ∀ a b : Int, 0 ≤ a → a ≤ b → len7 k a ≤ len7 k b := by
  induction k with
  | zero => intro a b _ _; simp [len7]
  | succ k ih =>
    intro a b ha hab
    rw [len7, len7]
    by_cases h : 0 < a
    · rw [if_pos h, if_pos (by omega)]; have := ih (a / 128) (b / 128) (by omega) (by omega); omega
    · rw [if_neg h]; omega
theorem form_len7 (n : Int) (h0 : 0 ≤ n) (h1 : n ≤ 4294967295) : (form n).length = 1 + len7 4 (n / 128) := by
  rw [form, if_neg (by omega), formGo_len7 4 n h0]
theorem form_mono (n m : Int) (h0 : 0 ≤ n) (h1 : n ≤ m) (h2 : m ≤ 4294967295) : (form n).length ≤ (form m).length := by
  rw [form_len7 n h0 (by omega), form_len7 m (by omega) h2]
  have := len7_le 4 (n / 128) (m / 128) (by omega) (by omega)
  omega

set_option maxHeartbeats 1000000 in
theorem packLength_walk (n m : Int) (s : ByteArray) (w : World) (wn : (Lit.int .u32 n).wf = true) (wm : (Lit.int .u32 m).wf = true) (hs : s.size ≤ maxLen) :
    Calls Try.prog 8 #[.int .u32 n, .int .u32 m, .string s] w fun e w' => e = .returned (.bool true) ∧ Below w.heap.size w w' := by
  unfold maxLen at hs
  have hn : 0 ≤ n ∧ n ≤ 4294967295 := by simpa [Lit.wf, IntKind.min, IntKind.max, IntKind.signed, IntKind.bits] using wn
  have hm : 0 ≤ m ∧ m ≤ 4294967295 := by simpa [Lit.wf, IntKind.min, IntKind.max, IntKind.signed, IntKind.bits] using wm
  clear wn wm
  obtain ⟨hn0, hn1⟩ := hn
  obtain ⟨hm0, hm1⟩ := hm
  have HB := Lib.hid (Below.refl w.heap.size w)
  by_cases h : 4096 < s.size
  · go_enter Try.func8, Try.ntmps8
    go_wp2_with (go_at_call 9; refine (awake_calls _).mono ?_; rintro e w1 ⟨rfl, hb⟩; have HBn := Lib.hid (below_step (by repeat (first | (with_reducible exact HB.out) | apply below_alloc | apply pw_below_drewN | apply below_drew1 | exact HB.out)) hb); clear hb HB; have HB := HBn; clear HBn)
    go_ret
    exact ⟨rfl, (by repeat (first | (with_reducible exact HB.out) | apply below_alloc | apply pw_below_drewN | apply below_drew1 | exact HB.out))⟩
  · have hlt : (textForm s).length = (form s.size).length + s.size := by rw [textForm, if_neg h, List.length_append, bytesOf_length]
    have hl0 := form_length n
    have hl1 := form_length m
    have hl2 := form_length s.size
    have hmono := form_mono n m hn0
    have hlen := form_len7 n hn0 hn1
    have Hlt := Lib.hid hlt; have Hmono := Lib.hid hmono; have Hlen := Lib.hid hlen; clear hlt hmono hlen
    by_cases hnm : m < n
    all_goals
      go_enter Try.func8, Try.ntmps8
      go_wp2_with (first
        | (go_at_call 9; refine (awake_calls _).mono ?_; rintro e w1 ⟨rfl, hb⟩; have HBn := Lib.hid (below_step (by repeat (first | (with_reducible exact HB.out) | apply below_alloc | apply pw_below_drewN | apply below_drew1 | exact HB.out)) hb); clear hb HB; have HB := HBn; clear HBn)
        | (go_at_call 11; refine (pwrite_calls _ _).mono ?_; rintro e w2 ⟨v2, rfl, ho, hb⟩; obtain ⟨A2, c2, rfl⟩ := own_slice ho; clear ho; have HBn := Lib.hid (below_step (by repeat (first | (with_reducible exact HB.out) | apply below_alloc | apply pw_below_drewN | apply below_drew1 | exact HB.out)) hb); clear hb HB; have HB := HBn; clear HBn))
      go_loopg [10, 11] 5 (fun kq v10 v11 w' => ∃ (k : Nat) (x : Int), v10 = .int .i64 k ∧ v11 = .int .u32 x ∧ 0 ≤ x ∧ x ≤ 33554431 ∧ k ≤ 6 ∧ Hid (∃ j, kq = j + 1 ∧ x < 128 ^ j ∧ k + len7 j x = (form n).length) ∧ Hid (Below w.heap.size w w'))
      case atStart => exact ⟨1, n / 128, rfl, rfl, by omega, by omega, by omega, Lib.hid ⟨4, rfl, by omega, by rw [Hlen.out]⟩, HB⟩
      case round =>
        clear HB
        obtain ⟨k, x, rfl, rfl, hx0, hx1, hk6, HJ, HB⟩ := hrel
        by_cases hx : 0 < x
        · obtain ⟨j', hj'⟩ : ∃ j', gk = j' + 1 := by obtain ⟨j, hj, _⟩ := HJ.out; exact ⟨j, hj⟩
          subst hj'
          have hnext : ∃ j, j' = j + 1 ∧ x / 128 < 128 ^ j ∧ (k + 1) + len7 j (x / 128) = (form n).length := by
            obtain ⟨j, hj, hxj, hsum⟩ := HJ.out
            obtain rfl : j' = j := by omega
            rcases j' with _ | j'
            · simp at hxj; omega
            · rw [len7, if_pos hx] at hsum
              exact ⟨j', rfl, by rw [Int.pow_succ] at hxj; omega, by omega⟩
          have hk5 : k + 1 ≤ 6 := by obtain ⟨j, _, _, hsum⟩ := hnext; omega
          have HN := Lib.hid hnext
          clear hnext
          go_wp2
          go_roundg j'
          case measure => omega
          case rel => exact ⟨k + 1, x / 128, by go_num, rfl, by omega, by omega, by omega, HN, HB⟩
        · have HK := Lib.hid (show k = (form n).length by obtain ⟨j, _, hxj, hsum⟩ := HJ.out; rcases j with _ | j; exact hsum; rw [len7, if_neg hx] at hsum; exact hsum)
          have hk : (form n).length = k := HK.out.symm
          have hlt := Hlt.out
          clear HJ
          first
            | (have hle : k ≤ (form m).length := by rw [HK.out]; exact Hmono.out (by omega) hm1)
            | skip
          go_wp2_with (first
            | (go_at_call 13; refine (ptext_calls _ _).mono ?_; rintro e w2 ⟨v2, rfl, ho, hb⟩; obtain ⟨A2, c2, rfl⟩ := own_slice ho; clear ho; have HBn := Lib.hid (below_step (by repeat (first | (with_reducible exact HB.out) | apply below_alloc | apply pw_below_drewN | apply below_drew1 | exact HB.out)) hb); clear hb HB; have HB := HBn; clear HBn)
            | (go_at_call 11; refine (pwrite_calls _ _).mono ?_; rintro e w2 ⟨v2, rfl, ho, hb⟩; obtain ⟨A2, c2, rfl⟩ := own_slice ho; clear ho; have HBn := Lib.hid (below_step (by repeat (first | (with_reducible exact HB.out) | apply below_alloc | apply pw_below_drewN | apply below_drew1 | exact HB.out)) hb); clear hb HB; have HB := HBn; clear HBn))
          go_ret
          exact ⟨rfl, (by repeat (first | (with_reducible exact HB.out) | apply below_alloc | apply pw_below_drewN | apply below_drew1 | exact HB.out))⟩
end Go.Proofs.Ytbekfoldohhbpaa
