/-
  What package pack writes, and the reference: the forms of numbers and texts.
-/
import Derived.Test.YtbekfoldohhbpaaDoorPkR
import Derived.Test.YtbekfoldohhbpaaDoorPOpTellsx1
import Derived.Test.YtbekfoldohhbpaaDoorPOpTellsx4
namespace Go.Proofs.YtbekfoldohhbpaaDoor
open Go.RowKit Go.Proofs.YtbekfoldohhbpaaDoorW.PrintWords Go.Proofs.YtbekfoldohhbpaaDoorW.PrintLast Go.Proofs.YtbekfoldohhbpaaDoorW.PrintMore

def formGo : Nat → Int → List Int
  | 0, n => [n]
  | k + 1, n => if 128 ≤ n then (n % 128 + 128) :: formGo k (n / 128) else [n]
/-- A number's form. -/
def form (n : Int) : List Int := if n < 0 ∨ 4294967295 < n then [] else formGo 4 n
/-- A text's form. -/
def textForm (s : ByteArray) : List Int := if 4096 < s.size then [] else form s.size ++ bytesOf s

theorem formGo_length (k : Nat) : ∀ n, (formGo k n).length ≤ k + 1 := by
  induction k with
  | zero => intro n; simp [formGo]
  | succ k ih =>
    intro n
    rw [formGo]
    split
    · simp only [List.length_cons]; have := ih (n / 128); omega
    · simp
theorem form_length (n : Int) : (form n).length ≤ 5 := by
  unfold form
  split
  · simp
  · exact formGo_length 4 n

theorem l0_form (j : Nat) : ∀ (n : Int) (acc : List Int), 0 ≤ n → n < 128 * 128 ^ j → n ≤ 4294967295 → acc.length + j < 100 → POpTells.pack_Number.l0 (j + 1) n acc = some (acc ++ formGo j n) := by
  induction j with
  | zero =>
    intro n acc h0 h1 h2 h3
    rw [POpTells.pack_Number.l0, if_neg (by omega), if_pos (by omega), formGo, Int.emod_eq_of_lt h0 (by omega)]
  | succ j ih =>
    intro n acc h0 h1 h2 h3
    rw [POpTells.pack_Number.l0, formGo]
    by_cases hn : 128 ≤ n
    · have e1 : wrap64 (Int.tdiv n 128) = n / 128 := by
        rw [Int.tdiv_eq_ediv_of_nonneg h0]; unfold wrap64; omega
      have e2 : wrap64 (Int.tmod n 128 + 128) % 256 = n % 128 + 128 := by
        rw [Int.tmod_eq_emod_of_nonneg h0]; unfold wrap64; omega
      have hb : n / 128 < 128 * 128 ^ j := by
        rw [Int.pow_succ] at h1
        omega
      rw [if_pos hn, if_pos (by omega), if_pos hn, e1, e2, ih (n / 128) _ (by omega) hb (by omega) (by simp; omega)]
      simp
    · rw [if_neg hn, if_pos (by omega), if_neg hn, Int.emod_eq_of_lt h0 (by omega)]
theorem pnum_form (n : Int) : POpTells.pack_Number.f 6 n = some (form n) := by
  unfold POpTells.pack_Number.f form
  by_cases h : n < 0
  · rw [if_pos h, if_pos (.inl h)]; rfl
  · rw [if_neg h, POpTells.pack_Number.j0]
    by_cases h2 : 4294967295 < n
    · rw [if_pos (by simpa using h2), if_pos (.inr h2)]
    · rw [if_neg (by simpa using h2), if_neg (by omega)]
      exact l0_form 4 n [] (by omega) (by omega) (by omega) (by simp)
theorem rnum_go (j : Nat) : ∀ (n : Int), 0 ≤ n → n < 128 * 128 ^ j → n ≤ 4294967295 → j < 50 → POpTells.holtref01_Number.f (2 * j + 2) n = some (formGo j n) := by
  induction j with
  | zero =>
    intro n h0 h1 h2 h3
    rw [POpTells.holtref01_Number.f, if_neg (by omega), POpTells.holtref01_Number.j0, if_neg (by simp; omega), if_pos (by omega), formGo, Int.emod_eq_of_lt h0 (by omega)]
  | succ j ih =>
    intro n h0 h1 h2 h3
    rw [show 2 * (j + 1) + 2 = 2 * j + 2 + 1 + 1 by omega, POpTells.holtref01_Number.f, if_neg (by omega), POpTells.holtref01_Number.j0, if_neg (by simp; omega), formGo]
    by_cases hn : 128 ≤ n
    · have e1 : wrap64 (Int.tdiv n 128) = n / 128 := by
        rw [Int.tdiv_eq_ediv_of_nonneg h0]; unfold wrap64; omega
      have e2 : wrap64 (Int.tmod n 128 + 128) % 256 = n % 128 + 128 := by
        rw [Int.tmod_eq_emod_of_nonneg h0]; unfold wrap64; omega
      have hb : n / 128 < 128 * 128 ^ j := by
        rw [Int.pow_succ] at h1
        omega
      have hl := formGo_length j (n / 128)
      rw [if_neg (by omega), if_pos hn, e1, e2, ih (n / 128) (by omega) hb (by omega) (by omega)]
      simp only [Option.bind_some, List.length_singleton]
      rw [if_pos (by omega)]
      rfl
    · rw [if_pos (by omega), if_neg hn, Int.emod_eq_of_lt h0 (by omega)]
theorem rnum_form (n : Int) : POpTells.holtref01_Number.f 10 n = some (form n) := by
  unfold form
  by_cases h : n < 0
  · rw [POpTells.holtref01_Number.f, if_pos h, if_pos (.inl h)]; rfl
  · by_cases h2 : 4294967295 < n
    · rw [POpTells.holtref01_Number.f, if_neg h, POpTells.holtref01_Number.j0, if_pos (by simpa using h2), if_pos (.inr h2)]
    · rw [if_neg (by omega)]
      exact rnum_go 4 n (by omega) (by omega) (by omega) (by omega)

theorem formGo_range (k : Nat) : ∀ n : Int, 0 ≤ n → n < 128 * 128 ^ k → ∀ x ∈ formGo k n, 0 ≤ x ∧ x < 256 := by
  induction k with
  | zero => intro n h0 h1 x hx; simp [formGo] at hx; omega
  | succ k ih =>
    intro n h0 h1 x hx
    rw [formGo] at hx
    split at hx
    · rcases List.mem_cons.1 hx with rfl | hx
      · omega
      · exact ih _ (by omega) (by rw [Int.pow_succ] at h1; omega) x hx
    · simp at hx; omega
theorem form_range (n : Int) : ∀ x ∈ form n, 0 ≤ x ∧ x < 256 := by
  unfold form
  split
  · simp
  · exact formGo_range 4 n (by omega) (by omega)
theorem bytesOf_range (s : ByteArray) : ∀ x ∈ bytesOf s, 0 ≤ x ∧ x < 256 := by
  intro x hx
  obtain ⟨b, _, rfl⟩ := List.mem_map.1 hx
  have := b.toNat_lt
  omega
theorem textForm_range (s : ByteArray) : ∀ x ∈ textForm s, 0 ≤ x ∧ x < 256 := by
  unfold textForm
  split
  · simp
  · intro x hx
    rcases List.mem_append.1 hx with h | h
    · exact form_range _ x h
    · exact bytesOf_range s x h
theorem ptext_form (s : ByteArray) : POpTells.pack_Text.f 6 s = some (textForm s) := by
  unfold POpTells.pack_Text.f textForm
  by_cases h : 4096 < s.size
  · rw [if_pos (by omega), if_pos h]
  · have hl := form_length s.size
    rw [if_neg (by omega), if_neg h, pnum_form]
    simp only [Option.bind_some]
    rw [if_pos (by omega)]

/-- A list of bytes of the call's own. -/
def OwnB (w : World) (base : Nat) (v : Value) (xs : List Int) : Prop := w.ownsRow base 5 1 v xs.length (nums .u8 xs)
theorem OwnB.of_R {w : World} {base : Nat} {ok : Nat → Prop} {v : Value} {xs : List Int} (h : Kd.R (Kd.int .u8) 5 w base ok v xs) : OwnB w base v xs := Kd.own_of_R h
theorem pwrite_calls (w : World) (n : Int) : Calls Tryd.prog 33 #[.int .i64 n] w fun e w' => ∃ v, e = .returned v ∧ OwnB w' w.heap.size v (form n) ∧ Below w.heap.size w w' :=
  (POpTells.pack_Number.calls 6 n _ w (pnum_form n)).mono fun _ _ ⟨v, he, h, hb⟩ => ⟨v, he, OwnB.of_R h, hb⟩
theorem rwrite_calls (w : World) (n : Int) : Calls Tryd.prog 35 #[.int .i64 n] w fun e w' => ∃ v, e = .returned v ∧ OwnB w' w.heap.size v (form n) ∧ Below w.heap.size w w' :=
  (POpTells.holtref01_Number.calls 10 n _ w (rnum_form n)).mono fun _ _ ⟨v, he, h, hb⟩ => ⟨v, he, OwnB.of_R h, hb⟩
theorem ptext_calls (w : World) (s : ByteArray) : Calls Tryd.prog 34 #[.string s] w fun e w' => ∃ v, e = .returned v ∧ OwnB w' w.heap.size v (textForm s) ∧ Below w.heap.size w w' :=
  (POpTells.pack_Text.calls 6 s _ w (ptext_form s)).mono fun _ _ ⟨v, he, h, hb⟩ => ⟨v, he, OwnB.of_R h, hb⟩
set_option maxHeartbeats 400000 in
theorem same_calls (w : World) (A : Option Addr) (c : Nat) (xs : List Int) (B : Option Addr) (d : Nat) (ys : List Int) (hx : ReadsInt w .u8 A xs.length xs) (_ : xs.length ≤ c) (hy : ReadsInt w .u8 B ys.length ys) (_ : ys.length ≤ d) :
    Calls Tryd.prog 16 #[.slice A xs.length c, .slice B ys.length d] w fun e w' => e = .returned (.bool ((strOfNums xs).toList == (strOfNums ys).toList)) ∧ ∃ n, w' = w.drewN n := by
  have h1 := string_of_reads (P := Tryd.prog) (c := c) (src := 33) (dst := 9) Tryd.underlying33 Tryd.underlying5 Tryd.underlying9 hx
  have h2 := string_of_reads (P := Tryd.prog) (c := d) (src := 33) (dst := 9) Tryd.underlying33 Tryd.underlying5 Tryd.underlying9 hy
  clear hx hy
  go_enter Tryd.func16, Tryd.ntmps16
  go_wp2
  go_ret
  exact ⟨by simp, 0, rfl⟩
theorem same_calls2 (w : World) {A : Option Addr} {c n : Nat} {xs : List Int} {B : Option Addr} {d m : Nat} {ys : List Int} (hx : ReadsInt w .u8 A n xs) (hc : n ≤ c) (hy : ReadsInt w .u8 B m ys) (hd : m ≤ d) :
    Calls Tryd.prog 16 #[.slice A n c, .slice B m d] w fun e w' => e = .returned (.bool ((strOfNums xs).toList == (strOfNums ys).toList)) ∧ ∃ n, w' = w.drewN n := by
  obtain rfl := hx.1
  obtain rfl := hy.1
  exact same_calls w A c xs B d ys hx hc hy hd
theorem same_calls_eq (w : World) {A : Option Addr} {c n : Nat} {xs : List Int} {B : Option Addr} {d m : Nat} {ys : List Int} (hx : ReadsInt w .u8 A n xs) (hc : n ≤ c) (hy : ReadsInt w .u8 B m ys) (hd : m ≤ d) (he : xs = ys) :
    Calls Tryd.prog 16 #[.slice A n c, .slice B m d] w fun e w' => e = .returned (.bool true) ∧ ∃ n, w' = w.drewN n := by
  subst he
  have := same_calls2 w hx hc hy hd
  rw [beq_self_eq_true] at this
  exact this
theorem lit_reads (W : World) (xs : List Int) (hm : xs.length ≤ 9223372036854775807) : ReadsInt (W.alloc (.cells (nums .u8 xs).toArray 5)) .u8 (some ⟨W.heap.size, 0, none⟩) xs.length xs :=
  own_reads' (own_lit W W.heap.size 5 .u8 xs (Nat.le_refl _) hm)
/-- What is owned stays owned behind a call that makes memory of its own, though orders have been drawn ahead of it. -/
theorem OwnB.now {w W w1 : World} {base : Nat} {v : Value} {xs : List Int} (h : OwnB w base v xs) (hb : Below W.heap.size W w1) (hW : W.heap = w.heap) : OwnB w1 base v xs :=
  own_move h (fun k hk => by rw [hb.block k (by rw [hW]; exact own_lt h k hk), hW])
section
variable {ops : Array Oper} {o : Oper} {a : Act} {Q : Exit → Act → World → Prop} {Kc : Act → World → Prop}
/-- append(v, ys...) of bytes, as a step of a region that draws its order. -/
theorem appB_step {w0 W : World} (base : Nat) (hw : Region.wanted o (yielded ops a.tmps) = true) (s x : Operand)
    (ho : o.op = .call { callee := .builtin .append, args := #[s, x], argTypes := #[33, 33] })
    (v : Value) (xs ys : List Int) (A : Option Addr) (m c : Nat) (hs : a.eval s = v) (hx : a.eval x = .slice A m c)
    (HO : OwnB W base v xs) (HR : ReadsInt W .u8 A m ys) (HB : Below base w0 W) (hbase : base ≤ W.heap.size) (hl : xs.length + m ≤ 140737488355328)
    (h : ∀ v1 w1, OwnB w1 base v1 (xs ++ ys) → Below base w0 w1 → W.grownBy w1 v.ownBlock → (v1.ownBlock = v.ownBlock ∨ ∃ b, v1.ownBlock = some b ∧ W.heap.size ≤ b) → Kc (a.put o.dst v1) w1) :
    if Region.wanted o (yielded ops a.tmps) = true then Oper.wp Tryd.prog o a W Kc Q else Kc (a.put o.dst undef) W :=
  Kd.R_append_rows_step (Kd.int .u8) (Rr := fun x cs => cs = [.int .u8 x]) base hw s x 33 5 (.int .u8 0) 1 ho Tryd.underlying33 pkInfo5 rfl (by decide) (by decide) v xs ys A m c (fun _ => True) (fun _ => False) hs hx
    (Kd.R_of_own HO (fun _ _ => trivial)) (Kd.C_of_reads (d := (0 : Int)) (h1 := fun _ => rfl) HR) (fun _ _ hq => hq) (fun _ hk => hk.elim) (fun _ _ => trivial) HB hbase (by omega)
    (fun v1 w1 ho hb hg hat => h v1 w1 (OwnB.of_R ho) hb hg hat)
end
end Go.Proofs.YtbekfoldohhbpaaDoor
