/- A layer over the walk, contracts of functions, and plain laws: parts of the proof in YtbeaahjinehpbaaProof. -/
import Derived.Test.YtbeaahjinehpbaaCx
set_option linter.all false
namespace Go.Proofs.Lite
open Go
/-- The number of bits. -/
def nb (A : Nat) : Nat := if A = 0 then 0 else A.log2 + 1
theorem nb_le {A n : Nat} : nb A ≤ n ↔ A < 2 ^ n := by
  unfold nb
  split
  · rename_i h; subst h; simp [Nat.pow_pos]
  · rename_i h; rw [Nat.succ_le_iff, Nat.log2_lt h]
theorem nb_lt (A : Nat) : A < 2 ^ nb A := nb_le.1 (Nat.le_refl _)
theorem nb_zero : nb 0 = 0 := rfl
theorem nb_eq {A n : Nat} (h1 : A < 2 ^ n) (h2 : 2 ^ n ≤ 2 * A) : nb A = n := by
  apply Nat.le_antisymm (nb_le.2 h1)
  rcases Nat.lt_or_ge (nb A) n with h | h
  · exfalso
    have := nb_lt A
    have h3 : 2 ^ (nb A + 1) ≤ 2 ^ n := Nat.pow_le_pow_right (by decide) h
    rw [Nat.pow_succ] at h3; omega
  · exact h
theorem nb_ge {A : Nat} (h : 0 < A) : 2 ^ nb A ≤ 2 * A := by
  rcases Nat.eq_zero_or_pos (nb A) with h0 | h0
  · rw [h0]; omega
  · have : ¬ nb A ≤ nb A - 1 := by omega
    rw [nb_le] at this
    obtain ⟨m, hm⟩ : ∃ m, nb A = m + 1 := ⟨nb A - 1, by omega⟩
    rw [hm] at this ⊢
    rw [Nat.pow_succ]; simp only [Nat.add_sub_cancel] at this; omega
theorem nb_pos {A : Nat} (h : 0 < A) : 0 < nb A := by unfold nb; split <;> omega
theorem nb_half {A : Nat} (h : 0 < A) : nb A = nb (A / 2) + 1 := by
  apply nb_eq
  · have := nb_lt (A / 2); rw [Nat.pow_succ]; omega
  · rcases Nat.eq_zero_or_pos (A / 2) with h0 | h0
    · rw [h0, nb_zero]; omega
    · have := nb_ge h0; rw [Nat.pow_succ]; omega
theorem nb_scale {A k d l : Nat} (hd : 0 < d) (hl : l < 2 ^ k) (hA : A = l + 2 ^ k * d) : nb A = k + nb d := by
  subst hA
  have h1 := nb_lt d
  have h2 := nb_ge hd
  have h0 : 0 < 2 ^ k := Nat.pow_pos (by decide)
  apply nb_eq
  · have : 2 ^ k * (d + 1) ≤ 2 ^ k * 2 ^ nb d := Nat.mul_le_mul_left _ h1
    rw [Nat.pow_add]; rw [Nat.mul_add, Nat.mul_one] at this; omega
  · have : 2 ^ k * 2 ^ nb d ≤ 2 ^ k * (2 * d) := Nat.mul_le_mul_left _ h2
    rw [Nat.pow_add]
    have e : 2 ^ k * (2 * d) = 2 * (2 ^ k * d) := Nat.mul_left_comm _ _ _
    omega
theorem b32_pow (k : Nat) : b32 ^ k = 2 ^ (32 * k) := by rw [Nat.pow_mul]
theorem low_ge {A k : Nat} (hA : A < bW) (h : ∀ j, k ≤ j → j < 6 → dig A j = 0) : A = low A k := by
  have : ∀ m, k + m ≤ 6 → low A (k + m) = low A k := by
    intro m
    induction m with
    | zero => intro _; rfl
    | succ m ih =>
      intro hm
      rw [← Nat.add_assoc, low_succ, h (k + m) (by omega) (by omega), Nat.mul_zero, Nat.add_zero]
      exact ih (by omega)
  rcases Nat.lt_or_ge k 6 with hk | hk
  · have h6 := this (6 - k) (by omega)
    rw [show k + (6 - k) = 6 from by omega] at h6
    rw [← h6, low_of_lt (by rw [show (b32 ^ 6 : Nat) = bW from pow6]; exact hA)]
  · rw [low_of_lt]
    exact Nat.lt_of_lt_of_le (by rw [← pow6] at hA; exact hA) (Nat.pow_le_pow_right (by decide) hk)
theorem nb_dig {A k : Nat} (hA : A < bW) (h : ∀ j, k < j → j < 6 → dig A j = 0) (hk : k < 6) (hd : dig A k ≠ 0) : nb A = 32 * k + nb (dig A k) := by
  have h1 : A = low A (k + 1) := low_ge hA (fun j hj => h j (by omega))
  refine nb_scale (by omega) (l := low A k) ?_ ?_
  · rw [← b32_pow]; exact low_lt A k
  · rw [← b32_pow, ← low_succ]; exact h1
theorem dig_all_zero {A : Nat} (hA : A < bW) (h : ∀ j, j < 6 → dig A j = 0) : A = 0 := by
  have := low_ge (k := 0) hA (fun j _ hj => h j hj)
  rwa [low_zero] at this
theorem bW_pow : bW = 2 ^ 192 := by decide
theorem nb_bW {A : Nat} : nb A ≤ 192 ↔ A < bW := by rw [nb_le, bW_pow]
theorem or_add {x y r : Nat} (hx : x < 2 ^ r) (hy : 2 ^ r ∣ y) : x ||| y = x + y := by
  obtain ⟨z, rfl⟩ := hy
  rw [Nat.or_comm, ← Nat.two_pow_add_eq_or_of_lt hx, Nat.add_comm]
end Go.Proofs.Lite

namespace Go.Proofs.Lite
open Go
theorem two32 : (2 : Nat) ^ 32 = b32 := rfl
theorem pow_r_le {r : Nat} (h : r < 32) : 2 ^ r < b32 := Nat.pow_lt_pow_right (by decide) h
theorem dvd_r {r : Nat} (h : r < 32) : 2 ^ r ∣ b32 := Nat.pow_dvd_pow 2 (n := 32) (by omega)
theorem up_lt {A k q r : Nat} : low A k * 2 ^ r * b32 ^ q < b32 ^ (k + q) * 2 ^ r := by
  have h := low_lt A k
  have h1 : 0 < 2 ^ r * b32 ^ q := Nat.mul_pos (Nat.pow_pos (by decide)) (b32_pos q)
  have := Nat.mul_lt_mul_of_pos_right h h1
  rw [Nat.pow_add, Nat.mul_assoc, Nat.mul_assoc (b32 ^ k), Nat.mul_comm (b32 ^ q)]
  exact this
theorem up_dig {A k q r : Nat} (hr : r < 32) : dig (low A k * 2 ^ r * b32 ^ q) (k + q) < 2 ^ r := by
  have : low A k * 2 ^ r * b32 ^ q / b32 ^ (k + q) < 2 ^ r := Nat.div_lt_of_lt_mul up_lt
  rw [dig_def]
  exact Nat.lt_of_le_of_lt (Nat.mod_le _ _) this
theorem up_or {A k q r : Nat} (hr : r < 32) : dig (low A k * 2 ^ r * b32 ^ q) (k + q) ||| (dig A k * 2 ^ r % 4294967296) = dig (low A k * 2 ^ r * b32 ^ q) (k + q) + dig A k * 2 ^ r % 4294967296 := by
  apply or_add (up_dig hr)
  exact (Nat.dvd_mod_iff (dvd_r hr)).2 (Nat.dvd_mul_left _ _)
theorem up_or_lt {A k q r : Nat} : dig (low A k * 2 ^ r * b32 ^ q) (k + q) ||| (dig A k * 2 ^ r % 4294967296) < 4294967296 :=
  Nat.or_lt_two_pow (n := 32) (dig_lt _ _) (Nat.mod_lt _ (by decide))
theorem up_one {A k q r : Nat} (hr : r < 32) : setd (low A k * 2 ^ r * b32 ^ q) (k + q) (dig (low A k * 2 ^ r * b32 ^ q) (k + q) ||| (dig A k * 2 ^ r % 4294967296)) = low A k * 2 ^ r * b32 ^ q + b32 ^ (k + q) * (dig A k * 2 ^ r % 4294967296) := by
  have := setd_eq (low A k * 2 ^ r * b32 ^ q) (k + q) (dig (low A k * 2 ^ r * b32 ^ q) (k + q) ||| (dig A k * 2 ^ r % b32))
  rw [up_or hr, Nat.mul_add] at this
  rw [up_or hr]; omega
theorem up_one_lt {A k q r : Nat} (hr : r < 32) : low A k * 2 ^ r * b32 ^ q + b32 ^ (k + q) * (dig A k * 2 ^ r % 4294967296) < b32 ^ (k + q + 1) := by
  rw [← up_one hr]
  apply setd_lt
  · refine Nat.lt_of_lt_of_le up_lt ?_
    rw [Nat.pow_succ]; exact Nat.mul_le_mul_left _ (Nat.le_of_lt (pow_r_le hr))
  · omega
  · exact up_or_lt
theorem up_mid {A k q r : Nat} (hr : r < 32) : dig (low A k * 2 ^ r * b32 ^ q + b32 ^ (k + q) * (dig A k * 2 ^ r % 4294967296)) (k + q + 1) = 0 := by
  rw [dig_def, Nat.div_eq_of_lt (up_one_lt hr)]; rfl
theorem up_next {A k q r : Nat} : low A k * 2 ^ r * b32 ^ q + b32 ^ (k + q) * (dig A k * 2 ^ r) = low A (k + 1) * 2 ^ r * b32 ^ q := by
  rw [low_succ, Nat.add_mul, Nat.add_mul, Nat.pow_add]
  congr 1
  simp only [Nat.mul_comm, Nat.mul_left_comm, Nat.mul_assoc]
theorem up_two {A k q r : Nat} (hr : r < 32) : setd (low A k * 2 ^ r * b32 ^ q + b32 ^ (k + q) * (dig A k * 2 ^ r % 4294967296)) (k + q + 1) (dig A k * 2 ^ r / 4294967296) = low A (k + 1) * 2 ^ r * b32 ^ q := by
  rw [setd_low (up_one_lt hr), ← up_next, Nat.add_assoc, Nat.pow_succ, Nat.mul_assoc (b32 ^ (k + q)), ← Nat.mul_add, Nat.mod_add_div]
theorem pow_split (n : Nat) : 2 ^ n = 2 ^ (n % 32) * b32 ^ (n / 32) := by
  rw [b32_pow, ← Nat.pow_add]; congr 1; omega
theorem bW_dvd {j : Nat} (h : 6 ≤ j) : bW ∣ b32 ^ j := by rw [← pow6]; exact Nat.pow_dvd_pow _ h
theorem mg_congr {A B : Nat} (h : A % bW = B % bW) : mg A = mg B := by
  rw [← mg_mod A, ← mg_mod B, h]
theorem mg_add_mul {A c : Nat} (h : bW ∣ c) : mg (A + c) = mg A := by
  obtain ⟨d, rfl⟩ := h
  exact mg_congr (by rw [Nat.add_mul_mod_self_left])
theorem up_full {A k q r n : Nat} (hn : n = 32 * q + r) (hr : r < 32) (h : 6 ≤ k + q) : mg (low A k * 2 ^ r * b32 ^ q) = mg (A * 2 ^ n) := by
  have e1 := Nat.mod_add_div A (b32 ^ k)
  have e2 : (2 : Nat) ^ n = 2 ^ r * b32 ^ q := by rw [hn, b32_pow, ← Nat.pow_add]; congr 1; omega
  have : A * 2 ^ n = low A k * 2 ^ r * b32 ^ q + b32 ^ (k + q) * (A / b32 ^ k * 2 ^ r) := by
    conv => lhs; rw [← e1]
    rw [e2, Nat.add_mul, Nat.pow_add]
    unfold low
    congr 1
    · rw [Nat.mul_assoc]
    · simp only [Nat.mul_comm, Nat.mul_left_comm, Nat.mul_assoc]
  rw [this, mg_add_mul (Nat.dvd_trans (bW_dvd h) (Nat.dvd_mul_right _ _))]
theorem up_last {A k q r : Nat} (h : k + q = 5) : mg (low A k * 2 ^ r * b32 ^ q + b32 ^ (k + q) * (dig A k * 2 ^ r % 4294967296)) = mg (low A (k + 1) * 2 ^ r * b32 ^ q) := by
  rw [← up_next]
  have := Nat.mod_add_div (dig A k * 2 ^ r) b32
  conv => rhs; rw [← this]
  rw [Nat.mul_add, ← Nat.add_assoc, ← Nat.mul_assoc (b32 ^ (k + q)), ← Nat.pow_succ]
  refine (mg_add_mul ?_).symm
  exact Nat.dvd_trans (bW_dvd (j := k + q + 1) (by omega)) (Nat.dvd_mul_right _ _)
theorem nb_up {A n : Nat} : (nb A + n ≤ 192 ∨ A = 0) ↔ A * 2 ^ n < bW := by
  rcases Nat.eq_zero_or_pos A with rfl | h
  · simp
  · rw [← nb_bW, nb_scale (A := A * 2 ^ n) h (l := 0) (k := n) (Nat.pow_pos (by decide)) (by rw [Nat.zero_add, Nat.mul_comm]), Nat.add_comm n]
    constructor
    · rintro (h1 | h1) <;> omega
    · exact .inl
end Go.Proofs.Lite

namespace Go.Proofs.Lite
open Go
/-- The quotient of sizes, as it is told for wide integers. -/
def qM (n : Bool) (A B : Nat) : Nat := if n = true ∧ A % B ≠ 0 then A / B + 1 else A / B
def rM (n : Bool) (A B : Nat) : Nat := if n = true ∧ A % B ≠ 0 then B - A % B else A % B
theorem natAbs_neg' {a : Int} (h : a < 0) : a = -((a.natAbs : Nat) : Int) := by omega
theorem natAbs_pos' {a : Int} (h : ¬ a < 0) : a = ((a.natAbs : Nat) : Int) := by omega
theorem fdiv_parts (a b : Int) (hb : b ≠ 0) :
    a.fdiv b = (if (decide (a < 0) != decide (b < 0)) = true then -((qM (decide (a < 0) != decide (b < 0)) a.natAbs b.natAbs : Nat) : Int) else ((qM (decide (a < 0) != decide (b < 0)) a.natAbs b.natAbs : Nat) : Int)) ∧
    a.fmod b = (if b < 0 then -((rM (decide (a < 0) != decide (b < 0)) a.natAbs b.natAbs : Nat) : Int) else ((rM (decide (a < 0) != decide (b < 0)) a.natAbs b.natAbs : Nat) : Int)) := by
  have hB : 0 < b.natAbs := by omega
  have h1 := Nat.div_add_mod a.natAbs b.natAbs
  have h2 := Nat.mod_lt a.natAbs hB
  generalize hA : a.natAbs = A at *
  generalize hBB : b.natAbs = B at *
  have h3 : (B : Int) * ((A / B : Nat) : Int) + ((A % B : Nat) : Int) = A := by rw [← Int.natCast_mul, ← Int.natCast_add, h1]
  have h4 : (((A % B : Nat) : Int)) < B := by omega
  have h5 : ((B - A % B : Nat) : Int) = (B : Int) - ((A % B : Nat) : Int) := by omega
  have key : ∀ q : Int, (B : Int) * (q + 1) = B * q + B := fun q => by rw [Int.mul_add, Int.mul_one]
  by_cases ha : a < 0 <;> by_cases hb0 : b < 0
  · have ea : a = -(A : Int) := by omega
    have eb : b = -(B : Int) := by omega
    simp only [ha, hb0, decide_true, bne_self_eq_false, qM, rM, false_and, Bool.false_eq_true, if_false, if_true]
    refine (Int.fdiv_fmod_unique' hb0).2 ⟨?_, by omega, by omega⟩
    rw [ea, eb, Int.neg_mul]; omega
  · have ea : a = -(A : Int) := by omega
    have eb : b = (B : Int) := by omega
    by_cases hr : A % B = 0
    · simp only [ha, hb0, decide_true, decide_false, qM, rM, hr, ne_eq, not_true_eq_false, and_false, if_false, show (true != false) = true from rfl, show (false != true) = true from rfl, if_true]
      refine (Int.fdiv_fmod_unique (by omega)).2 ⟨?_, by omega, by omega⟩
      rw [ea, eb, Int.mul_neg]; rw [hr] at h3; omega
    · simp only [ha, hb0, decide_true, decide_false, qM, rM, hr, ne_eq, not_false_eq_true, and_true, if_false, show (true != false) = true from rfl, show (false != true) = true from rfl, if_true]
      refine (Int.fdiv_fmod_unique (by omega)).2 ⟨?_, by omega, by omega⟩
      rw [ea, eb, Int.mul_neg, Int.natCast_add, Int.natCast_one, key, h5]; omega
  · have ea : a = (A : Int) := by omega
    have eb : b = -(B : Int) := by omega
    by_cases hr : A % B = 0
    · simp only [ha, hb0, decide_true, decide_false, qM, rM, hr, ne_eq, not_true_eq_false, and_false, if_false, show (true != false) = true from rfl, show (false != true) = true from rfl, if_true]
      refine (Int.fdiv_fmod_unique' hb0).2 ⟨?_, by omega, by omega⟩
      rw [ea, eb, Int.neg_mul, Int.mul_neg]; rw [hr] at h3; omega
    · simp only [ha, hb0, decide_true, decide_false, qM, rM, hr, ne_eq, not_false_eq_true, and_true, if_false, show (true != false) = true from rfl, show (false != true) = true from rfl, if_true]
      refine (Int.fdiv_fmod_unique' hb0).2 ⟨?_, by omega, by omega⟩
      rw [ea, eb, Int.neg_mul, Int.mul_neg, Int.natCast_add, Int.natCast_one, key, h5]; omega
  · have ea : a = (A : Int) := by omega
    have eb : b = (B : Int) := by omega
    simp only [ha, hb0, decide_false, bne_self_eq_false, qM, rM, false_and, Bool.false_eq_true, if_false]
    refine (Int.fdiv_fmod_unique (by omega)).2 ⟨?_, by omega, by omega⟩
    rw [ea, eb]; omega
theorem bit_shift (A i : Nat) : A / 2 ^ i = 2 * (A / 2 ^ (i + 1)) + A / 2 ^ i % 2 := by
  have : A / 2 ^ (i + 1) = A / 2 ^ i / 2 := by rw [Nat.pow_succ, Nat.div_div_eq_div_mul]
  omega
theorem dig_bit {A i : Nat} : dig A (i / 32) / 2 ^ (i % 32) % 2 = A / 2 ^ i % 2 := by
  rw [dig_def]
  have hr : i % 32 < 32 := Nat.mod_lt _ (by decide)
  have e : (4294967296 : Nat) = 2 ^ (i % 32) * (2 * 2 ^ (31 - i % 32)) := by
    rw [← Nat.pow_succ', ← Nat.pow_add]; rw [show i % 32 + (31 - i % 32).succ = 32 from by omega]
  show A / 4294967296 ^ (i / 32) % 4294967296 / 2 ^ (i % 32) % 2 = _
  rw [pow_split i, Nat.mul_comm (2 ^ (i % 32)), ← Nat.div_div_eq_div_mul]
  generalize A / b32 ^ (i / 32) = x
  conv => lhs; rw [e]
  rw [Nat.mod_mul_right_div_self, Nat.mod_mul_right_mod]
theorem divstep {A B i : Nat} (hB : 0 < B) : let R := A / 2 ^ (i + 1) % B; let X := 2 * R + A / 2 ^ i % 2
    (X < B → A / 2 ^ i % B = X ∧ A / 2 ^ i / B = 2 * (A / 2 ^ (i + 1) / B)) ∧ (B ≤ X → A / 2 ^ i % B = X - B ∧ A / 2 ^ i / B = 2 * (A / 2 ^ (i + 1) / B) + 1) := by
  simp only []
  have h1 := Nat.div_add_mod (A / 2 ^ (i + 1)) B
  have h2 := Nat.mod_lt (A / 2 ^ (i + 1)) hB
  have h3 := bit_shift A i
  have h4 : A / 2 ^ i % 2 < 2 := Nat.mod_lt _ (by decide)
  generalize A / 2 ^ i % 2 = d at *
  generalize A / 2 ^ i = x at *
  generalize A / 2 ^ (i + 1) = y at *
  generalize hq : y / B = q at *
  generalize hr : y % B = r at *
  have ex : x = B * (2 * q) + (2 * r + d) := by
    have : B * (2 * q) = 2 * (B * q) := Nat.mul_left_comm _ _ _
    omega
  constructor
  · intro h
    rw [ex, Nat.mul_add_mod, Nat.mod_eq_of_lt h, Nat.mul_add_div hB, Nat.div_eq_of_lt h]
    exact ⟨rfl, by omega⟩
  · intro h
    have ex2 : x = B * (2 * q + 1) + (2 * r + d - B) := by rw [Nat.mul_add, Nat.mul_one]; omega
    rw [ex2, Nat.mul_add_mod, Nat.mod_eq_of_lt (by omega), Nat.mul_add_div hB, Nat.div_eq_of_lt (by omega)]
    exact ⟨rfl, by omega⟩
end Go.Proofs.Lite

namespace Go.Proofs.Lite
open Go
theorem mg_digs {X Y : Nat} (h : ∀ j, j < 6 → dig X j = dig Y j) : mg X = mg Y := by
  unfold mg; congr 1
  exact limbs_of (limbs_length _ _) (fun k hk => by rw [limbs_get hk]; exact h k hk)
theorem lm_digs {n X Y : Nat} (h : ∀ j, j < n → dig X j = dig Y j) : lm n X = lm n Y := by
  unfold lm; congr 1
  exact limbs_of (limbs_length _ _) (fun k hk => by rw [limbs_get hk]; exact h k hk)
theorem dig_up0 {R r : Nat} : dig (R * 2 ^ r) 0 = dig R 0 * 2 ^ r % 4294967296 := by
  simp only [dig_def, Nat.pow_zero, Nat.div_one]
  exact (Nat.mod_mul_mod R (2 ^ r) b32).symm
theorem dig_up_add {R r k : Nat} (hr : r ≤ 32) : dig (R * 2 ^ r) (k + 1) = dig R (k + 1) * 2 ^ r % 4294967296 + dig R k * 2 ^ r / 4294967296 := by
  obtain ⟨m, hm⟩ : ∃ m, b32 = 2 ^ r * m := ⟨2 ^ (32 - r), by rw [← Nat.pow_add, ← two32]; congr 1; omega⟩
  have hp : 0 < 2 ^ r := Nat.pow_pos (by decide)
  have hmp : 0 < m := by
    rcases Nat.eq_zero_or_pos m with h | h
    · subst h; simp at hm
    · exact h
  have e1 : R * 2 ^ r / b32 ^ (k + 1) = R / b32 ^ k / m := by
    have e : b32 ^ (k + 1) = b32 ^ k * m * 2 ^ r := by
      rw [Nat.pow_succ, Nat.mul_assoc, Nat.mul_comm m, ← hm]
    rw [e, Nat.mul_div_mul_right _ _ hp, Nat.div_div_eq_div_mul]
  have hY := Nat.div_add_mod (R / b32 ^ k) b32
  have e2 : R / b32 ^ (k + 1) = R / b32 ^ k / b32 := by rw [Nat.pow_succ, Nat.div_div_eq_div_mul]
  show R * 2 ^ r / b32 ^ (k + 1) % b32 = R / b32 ^ (k + 1) % b32 * 2 ^ r % b32 + R / b32 ^ k % b32 * 2 ^ r / b32
  rw [e1, e2]
  generalize R / b32 ^ k = Y at *
  generalize hy : Y % b32 = y at *
  generalize hz : Y / b32 = Z at *
  have hyl : y < b32 := by rw [← hy]; exact Nat.mod_lt _ (by decide)
  have e3 : Y / m = 2 ^ r * Z + y / m := by
    rw [← hY, hm, Nat.mul_comm (2 ^ r) m, Nat.mul_assoc, Nat.mul_add_div hmp]
  have e4 : y * 2 ^ r / b32 = y / m := by rw [hm, Nat.mul_comm (2 ^ r) m, Nat.mul_div_mul_right _ _ hp]
  have e5 : y / m < 2 ^ r := Nat.div_lt_of_lt_mul (by rw [Nat.mul_comm, ← hm]; exact hyl)
  rw [e3, e4]
  have e6 : 2 ^ r * Z % b32 = 2 ^ r * (Z % m) := by rw [hm, Nat.mul_mod_mul_left]
  have e7 : Z % b32 * 2 ^ r % b32 = 2 ^ r * (Z % m) := by rw [Nat.mod_mul_mod, Nat.mul_comm, e6]
  rw [e7, Nat.add_mod, e6, Nat.mod_eq_of_lt (Nat.lt_of_lt_of_le e5 (by rw [hm]; exact Nat.le_mul_of_pos_right _ hmp))]
  apply Nat.mod_eq_of_lt
  have : Z % m + 1 ≤ m := Nat.mod_lt _ hmp
  have := Nat.mul_le_mul_left (2 ^ r) this
  rw [Nat.mul_add, Nat.mul_one, ← hm] at this
  omega
theorem dig_up_or {R r k : Nat} (hr : r ≤ 32) : dig R (k + 1) * 2 ^ r % 4294967296 ||| dig R k * 2 ^ r / 4294967296 = dig (R * 2 ^ r) (k + 1) := by
  rw [dig_up_add hr, Nat.or_comm, or_add (r := r), Nat.add_comm]
  · apply Nat.div_lt_of_lt_mul
    rw [Nat.mul_comm (dig R k)]
    have := dig_lt R k
    have hp : 0 < 2 ^ r := Nat.pow_pos (by decide)
    rw [Nat.mul_comm 4294967296]
    exact Nat.mul_lt_mul_of_pos_left this hp
  · exact (Nat.dvd_mod_iff (Nat.pow_dvd_pow 2 (n := 32) hr)).2 (Nat.dvd_mul_left _ _)
theorem dbl_or {R k : Nat} : dig R (k + 1) * 2 % 4294967296 ||| dig R k / 2147483648 = dig (2 * R) (k + 1) := by
  have := dig_up_or (R := R) (r := 1) (k := k) (by omega)
  rw [show dig R k * 2 ^ 1 / 4294967296 = dig R k / 2147483648 from by omega, Nat.pow_one, Nat.mul_comm R] at this
  exact this
theorem dbl_lt {R k : Nat} : dig R (k + 1) * 2 % 4294967296 ||| dig R k / 2147483648 < 4294967296 := by
  rw [dbl_or]; exact dig_lt _ _
theorem dbl0_or {R d : Nat} (hd : d < 2) : dig R 0 * 2 % 4294967296 ||| d = dig (2 * R + d) 0 := by
  rw [Nat.or_comm, or_add (r := 1) hd (by omega)]
  simp only [dig_def, Nat.pow_zero, Nat.div_one]; unfold b32; omega
theorem dbl0_lt {R d : Nat} (hd : d < 2) : dig R 0 * 2 % 4294967296 ||| d < 4294967296 := by
  rw [dbl0_or hd]; exact dig_lt _ _
theorem dbl_dig {R d k : Nat} (hd : d < 2) : dig (2 * R + d) (k + 1) = dig (2 * R) (k + 1) := by
  have : (2 * R + d) / b32 ^ (k + 1) = 2 * R / b32 ^ (k + 1) := by
    have e : b32 ^ (k + 1) = 2 * (2 ^ 31 * b32 ^ k) := by rw [Nat.pow_succ, Nat.mul_comm]; show 4294967296 * _ = _; omega
    rw [e]
    generalize 2 ^ 31 * b32 ^ k = p
    rw [← Nat.div_div_eq_div_mul, ← Nat.div_div_eq_div_mul, show (2 * R + d) / 2 = 2 * R / 2 from by omega]
  rw [dig_def, dig_def, this]
theorem top_bit {R d : Nat} (hR : R < bW) (hd : d < 2) : (dig R 5 / 2147483648 = 1 ↔ bW ≤ 2 * R + d) ∧ dig R 5 / 2147483648 < 2 := by
  have h1 : R / b32 ^ 5 < b32 := by
    apply Nat.div_lt_of_lt_mul; rw [← Nat.pow_succ]; rw [← pow6] at hR; exact hR
  have h2 : dig R 5 = R / b32 ^ 5 := by rw [dig_def, Nat.mod_eq_of_lt h1]
  rw [h2, Nat.div_div_eq_div_mul]
  have e : b32 ^ 5 * 2147483648 * 2 = bW := by decide
  generalize b32 ^ 5 * 2147483648 = p at *
  have hp : 0 < p := by
    rcases Nat.eq_zero_or_pos p with h | h
    · subst h; exact absurd e (by decide)
    · exact h
  constructor
  · constructor
    · intro h
      have := Nat.div_mul_le_self R p
      rw [h] at this; omega
    · intro h
      apply Nat.div_eq_of_lt_le <;> omega
  · exact Nat.div_lt_of_lt_mul (by omega)
theorem qbit_or {Q i : Nat} : dig (Q * 2 ^ (i + 1)) (i / 32) ||| 2 ^ (i % 32) = dig (Q * 2 ^ (i + 1)) (i / 32) + 2 ^ (i % 32) ∧ 2 ^ (i % 32) < 4294967296 := by
  have hr : i % 32 < 32 := Nat.mod_lt _ (by decide)
  have h1 : 2 ^ (i % 32 + 1) ∣ dig (Q * 2 ^ (i + 1)) (i / 32) := by
    have e : Q * 2 ^ (i + 1) / b32 ^ (i / 32) = Q * 2 ^ (i % 32 + 1) := by
      have : 2 ^ (i + 1) = 2 ^ (i % 32 + 1) * b32 ^ (i / 32) := by
        rw [b32_pow, ← Nat.pow_add]; congr 1; omega
      rw [this, ← Nat.mul_assoc, Nat.mul_div_cancel _ (b32_pos _)]
    rw [dig_def, e]
    exact (Nat.dvd_mod_iff (Nat.pow_dvd_pow 2 (n := 32) (by omega))).2 (Nat.dvd_mul_left _ _)
  refine ⟨?_, pow_r_le hr⟩
  rw [Nat.or_comm, or_add (r := i % 32 + 1) (Nat.pow_lt_pow_right (by decide) (by omega)) h1, Nat.add_comm]
theorem qbit_set {Q i : Nat} : setd (Q * 2 ^ (i + 1)) (i / 32) (dig (Q * 2 ^ (i + 1)) (i / 32) ||| 2 ^ (i % 32)) = (2 * Q + 1) * 2 ^ i := by
  have h := setd_eq (Q * 2 ^ (i + 1)) (i / 32) (dig (Q * 2 ^ (i + 1)) (i / 32) ||| 2 ^ (i % 32))
  rw [qbit_or.1, Nat.mul_add] at h
  rw [qbit_or.1]
  have e : b32 ^ (i / 32) * 2 ^ (i % 32) = 2 ^ i := by rw [pow_split i, Nat.mul_comm]
  rw [e] at h
  have : (2 * Q + 1) * 2 ^ i = Q * 2 ^ (i + 1) + 2 ^ i := by
    rw [Nat.add_mul, Nat.one_mul, Nat.pow_succ, Nat.mul_comm 2 Q, Nat.mul_assoc, Nat.mul_comm 2]
  omega
theorem pow_shift (Q i : Nat) : Q * 2 ^ (i + 1) = 2 * Q * 2 ^ i := by rw [Nat.pow_succ, Nat.mul_comm 2 Q, Nat.mul_assoc, Nat.mul_comm 2]
theorem cmpI_ge {a b : Nat} (h : b ≤ a) : 0 ≤ cmpI a b := by unfold cmpI; split <;> (try split) <;> omega
theorem cmpI_lt {a b : Nat} (h : a < b) : cmpI a b < 0 := by unfold cmpI; split <;> (try split) <;> omega
end Go.Proofs.Lite

namespace Go.Proofs.Lite
open Go
theorem dig_cmp {A B k : Nat} (hk : k < 6) (h : ∀ j, k < j → j < 6 → dig A j = dig B j) (hd : dig A k < dig B k) : A % bW < B % bW := by
  have := valL_lt (a := limbs 6 A) (b := limbs 6 B) (by rw [limbs_length, limbs_length]) (limbs_lim _ _) k (fun j hj => by
    by_cases h6 : j < 6
    · rw [limbs_get h6, limbs_get h6]; exact h j hj h6
    · rw [getD_out (by rw [limbs_length]; omega), getD_out (by rw [limbs_length]; omega)]) (by rw [limbs_get hk, limbs_get hk]; exact hd)
  rwa [valL_limbs, valL_limbs] at this
theorem dig_cmp_eq {A B : Nat} (h : ∀ j, j < 6 → dig A j = dig B j) : A % bW = B % bW := by
  rw [← valL_limbs, ← valL_limbs]
  congr 1
  exact limbs_of (limbs_length _ _) (fun k hk => by rw [limbs_get hk]; exact h k hk)
theorem cmpI_eq (a : Nat) : cmpI a a = 0 := by unfold cmpI; simp
theorem cmpI_lt' {a b : Nat} (h : a < b) : cmpI a b = -1 := by unfold cmpI; rw [if_pos h]
theorem cmpI_gt' {a b : Nat} (h : b < a) : cmpI a b = 1 := by unfold cmpI; rw [if_neg (by omega), if_pos h]
theorem carry6' (A B : Nat) : (carry A B 6 = 0 ↔ A % bW + B % bW < bW) := by
  have := carry6 A B
  constructor
  · intro h; rw [h] at this; simpa using this.symm
  · intro h
    rw [decide_eq_true h] at this
    simpa using this
theorem take_lm6 (V : Nat) : (lm 12 V).take 6 = mg V := by
  unfold lm mg u32s
  rw [← List.map_take]
  have : (limbs 12 V).take 6 = limbs 6 V := by
    apply limbs_of (by simp [limbs_length])
    intro k hk
    rw [List.getD_eq_getElem?_getD, List.getElem?_take_of_lt hk, ← List.getD_eq_getElem?_getD, limbs_get (by omega)]
  rw [this]
theorem nb_shift {x : Nat} (k : Nat) (h : 2 ^ k ≤ x) : nb x = k + nb (x / 2 ^ k) := by
  have hp : 0 < 2 ^ k := Nat.pow_pos (by decide)
  exact nb_scale (Nat.div_pos h hp) (Nat.mod_lt x hp) (by rw [Nat.add_comm, Nat.div_add_mod])
end Go.Proofs.Lite

namespace Go.Proofs.Lite
open Go
theorem dig_top {A j : Nat} (hA : A < bW) (h : 6 ≤ j) : dig A j = 0 := by
  obtain ⟨k, rfl⟩ : ∃ k, j = 6 + k := ⟨j - 6, by omega⟩
  exact upper_dig hA
theorem dig_mulq {Y q m : Nat} : dig (Y * b32 ^ q) (m + q) = dig Y m := by
  rw [dig_def, dig_def, Nat.pow_add, Nat.mul_comm (b32 ^ m), ← Nat.div_div_eq_div_mul, Nat.mul_div_cancel _ (b32_pos q)]
theorem dig_mulq0 {Y q j : Nat} (h : j < q) : dig (Y * b32 ^ q) j = 0 := by
  obtain ⟨m, rfl⟩ : ∃ m, q = j + 1 + m := ⟨q - j - 1, by omega⟩
  have e : Y * b32 ^ (j + 1 + m) = Y * b32 ^ m * b32 * b32 ^ j := by
    rw [Nat.pow_add, Nat.pow_succ]; simp only [Nat.mul_comm, Nat.mul_left_comm, Nat.mul_assoc]
  rw [dig_def, e, Nat.mul_div_cancel _ (b32_pos j), Nat.mul_mod_left]
theorem dig_divq {A q m : Nat} : dig (A / b32 ^ q) m = dig A (m + q) := by
  rw [dig_def, dig_def, Nat.div_div_eq_div_mul, ← Nat.pow_add, Nat.add_comm]
theorem shr_shl {d r : Nat} (hr : r ≤ 32) : d / 2 ^ (32 - r) = d * 2 ^ r / 4294967296 := by
  have e : (4294967296 : Nat) = 2 ^ (32 - r) * 2 ^ r := by rw [← Nat.pow_add, show 32 - r + r = 32 from by omega]
  rw [e, Nat.mul_div_mul_right _ _ (Nat.pow_pos (by decide))]
theorem dig_down_add {Y r m : Nat} (hr : r ≤ 32) : dig (Y / 2 ^ r) m = dig Y m / 2 ^ r + dig Y (m + 1) * 2 ^ (32 - r) % 4294967296 := by
  have hp : 0 < 2 ^ r := Nat.pow_pos (by decide)
  have hp2 : 0 < 2 ^ (32 - r) := Nat.pow_pos (by decide)
  have e : (4294967296 : Nat) = 2 ^ r * 2 ^ (32 - r) := by rw [← Nat.pow_add, show r + (32 - r) = 32 from by omega]
  have e1 : Y / 2 ^ r / b32 ^ m = Y / b32 ^ m / 2 ^ r := by rw [Nat.div_div_eq_div_mul, Nat.div_div_eq_div_mul, Nat.mul_comm]
  have e2 : Y / b32 ^ (m + 1) = Y / b32 ^ m / b32 := by rw [Nat.pow_succ, Nat.div_div_eq_div_mul]
  show Y / 2 ^ r / b32 ^ m % 4294967296 = Y / b32 ^ m % 4294967296 / 2 ^ r + Y / b32 ^ (m + 1) % 4294967296 * 2 ^ (32 - r) % 4294967296
  rw [e1, e2]
  have hZ := Nat.div_add_mod (Y / b32 ^ m) 4294967296
  show _ = _ + Y / b32 ^ m / 4294967296 % 4294967296 * 2 ^ (32 - r) % 4294967296
  generalize Y / b32 ^ m = Z at *
  have hzl : Z % 4294967296 < 4294967296 := Nat.mod_lt _ (by decide)
  generalize Z % 4294967296 = z at *
  generalize Z / 4294967296 = W at *
  rw [Nat.mod_mul_mod, ← hZ]
  have e3 : (4294967296 * W + z) / 2 ^ r = 2 ^ (32 - r) * W + z / 2 ^ r := by
    rw [show 4294967296 * W = 2 ^ r * (2 ^ (32 - r) * W) from by rw [← Nat.mul_assoc, ← e], Nat.mul_add_div hp]
  rw [e3, Nat.mul_comm W, Nat.add_comm]
  have h1 : z / 2 ^ r < 2 ^ (32 - r) := Nat.div_lt_of_lt_mul (by rw [← e]; exact hzl)
  have h2 : 2 ^ (32 - r) * W % 4294967296 = 2 ^ (32 - r) * (W % 2 ^ r) := by
    conv => lhs; rw [e, Nat.mul_comm (2 ^ r)]
    rw [Nat.mul_mod_mul_left]
  have h3 : W % 2 ^ r + 1 ≤ 2 ^ r := Nat.mod_lt _ hp
  have h4 := Nat.mul_le_mul_left (2 ^ (32 - r)) h3
  rw [Nat.mul_add, Nat.mul_one, Nat.mul_comm (2 ^ (32 - r)) (2 ^ r), ← e] at h4
  rw [Nat.add_mod, h2, Nat.mod_eq_of_lt (show z / 2 ^ r < 4294967296 by
    exact Nat.lt_of_le_of_lt (Nat.div_le_self _ _) hzl)]
  apply Nat.mod_eq_of_lt
  omega
theorem dig_down_or {Y r m : Nat} (hr : r ≤ 32) : dig Y m / 2 ^ r ||| dig Y (m + 1) * 2 ^ (32 - r) % 4294967296 = dig (Y / 2 ^ r) m := by
  rw [dig_down_add hr]
  apply or_add (r := 32 - r)
  · apply Nat.div_lt_of_lt_mul
    rw [← Nat.pow_add, show r + (32 - r) = 32 from by omega]; exact dig_lt _ _
  · exact (Nat.dvd_mod_iff (Nat.pow_dvd_pow 2 (n := 32) (by omega))).2 (Nat.dvd_mul_left _ _)
theorem small_step {A d k : Nat} (hd : 0 < d) (hl : d < 4294967296) : let v := A / b32 ^ (k + 1) % d * 4294967296 + dig A k
    v / d = dig (A / d) k ∧ v % d = A / b32 ^ k % d ∧ v / d < 4294967296 ∧ v < 18446744073709551616 := by
  simp only []
  have e2 : A / b32 ^ (k + 1) = A / b32 ^ k / b32 := by rw [Nat.pow_succ, Nat.div_div_eq_div_mul]
  have e1 : A / d / b32 ^ k = A / b32 ^ k / d := by rw [Nat.div_div_eq_div_mul, Nat.div_div_eq_div_mul, Nat.mul_comm]
  rw [dig_def, dig_def, e1, e2]
  have hZ := Nat.div_add_mod (A / b32 ^ k) b32
  have hzl : A / b32 ^ k % b32 < 4294967296 := Nat.mod_lt _ (by decide)
  generalize A / b32 ^ k = Z at *
  generalize Z % b32 = z at *
  have hY := Nat.div_add_mod (Z / b32) d
  have hr : Z / b32 % d < d := Nat.mod_lt _ hd
  generalize Z / b32 = Y at *
  generalize Y % d = r at *
  generalize Y / d = q at *
  have ev : Z = d * (4294967296 * q) + (r * 4294967296 + z) := by
    have : d * (4294967296 * q) = 4294967296 * (d * q) := Nat.mul_left_comm _ _ _
    have h2 : (4294967296 : Nat) * Y + z = Z := hZ
    omega
  have hv : r * 4294967296 + z < d * 4294967296 := by
    have : (r + 1) * 4294967296 ≤ d * 4294967296 := Nat.mul_le_mul_right _ hr
    omega
  have hvd : (r * 4294967296 + z) / d < 4294967296 := Nat.div_lt_of_lt_mul hv
  refine ⟨?_, ?_, hvd, ?_⟩
  · rw [ev, Nat.mul_add_div hd]
    show _ = (4294967296 * q + _) % 4294967296
    rw [Nat.mul_add_mod, Nat.mod_eq_of_lt hvd]
  · rw [ev, Nat.mul_add_mod]
  · have : d * 4294967296 ≤ 4294967296 * 4294967296 := Nat.mul_le_mul_right _ (by omega)
    omega
def rsm (A d k : Nat) : Nat := A / b32 ^ k % d
theorem or_shl {x y : Nat} (hy : y < 4294967296) : x * 4294967296 ||| y = x * 4294967296 + y := by
  rw [Nat.or_comm, or_add (r := 32) hy ⟨x, by rw [Nat.mul_comm]⟩, Nat.add_comm]
end Go.Proofs.Lite

namespace Go.Proofs.Lite
open Go
section
variable {P v1 v2 v' u2 u' top q r U V : Nat}
theorem kd_ge (hV : V = (v1 * 4294967296 + v2) * P + v') (hU : U = (top * 4294967296 + u2) * P + u') (hu : u' < P) (ht : top = q * v1 + r) (h : r * 4294967296 + u2 < q * v2) : U < q * V := by
  have h1 : q * (v1 * 4294967296 + v2) = q * v1 * 4294967296 + q * v2 := by rw [Nat.mul_add, Nat.mul_assoc]
  have h2 : top * 4294967296 + u2 + 1 ≤ q * (v1 * 4294967296 + v2) := by rw [h1]; omega
  have h3 := Nat.mul_le_mul_right P h2
  rw [Nat.add_mul, Nat.one_mul] at h3
  have h4 : q * V = q * (v1 * 4294967296 + v2) * P + q * v' := by rw [hV, Nat.mul_add, Nat.mul_assoc]
  omega
theorem kd_le_a (hV : V = (v1 * 4294967296 + v2) * P + v') (hv : v' < P) (hv1 : 0 < v1) (hU : U = (top * 4294967296 + u2) * P + u') (ht : top = q * v1 + r) (hq : q < 4294967296) (h : q * v2 ≤ r * 4294967296 + u2) : q * V < U + V := by
  have h1 : q * (v1 * 4294967296 + v2) = q * v1 * 4294967296 + q * v2 := by rw [Nat.mul_add, Nat.mul_assoc]
  have h2 : q * (v1 * 4294967296 + v2) ≤ top * 4294967296 + u2 := by rw [h1]; omega
  have h3 := Nat.mul_le_mul_right P h2
  have h4 : q * V = q * (v1 * 4294967296 + v2) * P + q * v' := by rw [hV, Nat.mul_add, Nat.mul_assoc]
  have h5 : q * v' ≤ 4294967296 * v' := Nat.mul_le_mul_right _ (by omega)
  have h6 : 4294967296 * P ≤ (v1 * 4294967296 + v2) * P := Nat.mul_le_mul_right _ (by omega)
  omega
theorem kd_le_b (hV : V = (v1 * 4294967296 + v2) * P + v') (hv2 : v2 < 4294967296) (hv : v' < P) (hU : U = (top * 4294967296 + u2) * P + u') (ht : top = q * v1 + r) (hq : q ≤ 4294967296) (h : 4294967296 ≤ r) : q * V < U + V := by
  have hW : v2 * P + v' + 1 ≤ 4294967296 * P := by
    have : (v2 + 1) * P ≤ 4294967296 * P := Nat.mul_le_mul_right _ hv2
    rw [Nat.add_mul, Nat.one_mul] at this; omega
  have h4 : q * V = q * v1 * 4294967296 * P + q * (v2 * P + v') := by
    rw [hV, Nat.add_mul, Nat.add_assoc, Nat.mul_add, Nat.mul_assoc q, Nat.mul_assoc, Nat.mul_assoc, Nat.mul_assoc]
  have h5 : q * (v2 * P + v') ≤ 4294967296 * (v2 * P + v') := Nat.mul_le_mul_right _ hq
  have h7 : (q * v1 + r) * 4294967296 * P = q * v1 * 4294967296 * P + r * 4294967296 * P := by rw [Nat.add_mul, Nat.add_mul]
  have h8 : 4294967296 * 4294967296 * P ≤ r * 4294967296 * P := Nat.mul_le_mul_right _ (Nat.mul_le_mul_right _ h)
  have h9 : U = top * 4294967296 * P + u2 * P + u' := by rw [hU, Nat.add_mul]
  rw [ht, h7] at h9
  have hVp : 0 < V ∨ V = 0 := by omega
  have : 4294967296 * (v2 * P + v' + 1) ≤ 4294967296 * (4294967296 * P) := Nat.mul_le_mul_left _ hW
  rw [← Nat.mul_assoc] at this
  omega
theorem kd_top (hV : V = (v1 * 4294967296 + v2) * P + v') (hv : v' < P) (hv2 : v2 < 4294967296) (hU : U = (top * 4294967296 + u2) * P + u') (hu : u' < P) (hu2 : u2 < 4294967296) : U / V ≤ top / v1 ∨ v1 = 0 := by
  rcases Nat.eq_zero_or_pos v1 with h | h
  · exact .inr h
  · left
    rw [Nat.le_div_iff_mul_le h]
    have h1 := Nat.div_mul_le_self U V
    generalize U / V = q at *
    have h2 : q * (v1 * 4294967296) * P ≤ q * V := by
      rw [Nat.mul_assoc]; apply Nat.mul_le_mul_left
      rw [hV, Nat.add_mul]; omega
    have h3 : U < (top + 1) * 4294967296 * P := by
      have : (u2 + 1) * P ≤ 4294967296 * P := Nat.mul_le_mul_right _ hu2
      rw [hU, Nat.add_mul, Nat.add_mul, Nat.one_mul, Nat.add_mul]
      rw [Nat.add_mul, Nat.one_mul] at this
      omega
    have hP : 0 < P := by omega
    have h4 : q * (v1 * 4294967296) * P < (top + 1) * 4294967296 * P := by omega
    have h5 := Nat.lt_of_mul_lt_mul_right h4
    rw [← Nat.mul_assoc] at h5
    have h6 := Nat.lt_of_mul_lt_mul_right h5
    omega
theorem kd_q0b {b : Nat} (hV : V = (v1 * b + v2) * P + v') (hv : v' < P) (hv2 : v2 < b) (hU : U = (top * b + u2) * P + u') (hUV : U < V * b) : top < (v1 + 1) * b := by
  have h1 : V < (v1 + 1) * b * P := by
    have h : (v1 * b + v2 + 1) * P ≤ (v1 + 1) * b * P := Nat.mul_le_mul_right _ (by rw [Nat.add_mul, Nat.one_mul]; omega)
    rw [Nat.add_mul _ 1, Nat.one_mul] at h
    omega
  have h2 : top * b * P ≤ U := by rw [hU, Nat.add_mul]; omega
  have hb : 0 < b := by omega
  have h3 : V * b < (v1 + 1) * b * P * b := Nat.mul_lt_mul_of_pos_right h1 hb
  have h4 : top * (b * P) < (v1 + 1) * b * (b * P) := by
    have e1 : top * (b * P) = top * b * P := (Nat.mul_assoc _ _ _).symm
    have e2 : (v1 + 1) * b * (b * P) = (v1 + 1) * b * P * b := by rw [Nat.mul_comm b P, ← Nat.mul_assoc]
    rw [e1, e2]
    exact Nat.lt_of_le_of_lt h2 (Nat.lt_trans hUV h3)
  exact Nat.lt_of_mul_lt_mul_right h4
theorem kd_q0 (hV : V = (v1 * 4294967296 + v2) * P + v') (hv : v' < P) (hv2 : v2 < 4294967296) (hU : U = (top * 4294967296 + u2) * P + u') (hUV : U < V * 4294967296) (hv1 : 2147483648 ≤ v1) : top / v1 ≤ 4294967297 := by
  have h := kd_q0b hV hv hv2 hU hUV
  clear hV hU hUV hv
  have hd := Nat.div_mul_le_self top v1
  generalize top / v1 = x at *
  rcases Nat.lt_or_ge 4294967297 x with hx | hx
  · exfalso
    have h3 : 4294967298 * v1 ≤ x * v1 := Nat.mul_le_mul_right v1 hx
    generalize x * v1 = y at *
    omega
  · exact hx
end
/-- What is known of one step's numbers. -/
structure KD (U V m P v1 v2 v' u2 u' top : Nat) : Prop where
  hV : V = (v1 * 4294967296 + v2) * P + v'
  hU : U = (top * 4294967296 + u2) * P + u'
  hv : v' < P
  hu : u' < P
theorem kd_split {U V m : Nat} (hV : V < b32 ^ (m + 2)) (hU : U < b32 ^ (m + 3)) : KD U V m (b32 ^ m) (dig V (m + 1)) (dig V m) (low V m) (dig U m) (low U m) (dig U (m + 2) * 4294967296 + dig U (m + 1)) := by
  have h1 := low_succ V (m + 1)
  have h2 := low_succ V m
  have h3 : low V (m + 2) = V := low_of_lt hV
  have g0 : low U (m + 3) = U := low_of_lt hU
  have g1 := low_succ U (m + 2)
  have g2 := low_succ U (m + 1)
  have g3 := low_succ U m
  have p1 : b32 ^ (m + 1) = b32 ^ m * 4294967296 := Nat.pow_succ _ _
  have p2 : b32 ^ (m + 2) = b32 ^ m * 4294967296 * 4294967296 := by rw [Nat.pow_succ, p1]
  refine ⟨?_, ?_, low_lt _ _, low_lt _ _⟩
  · rw [show m + 1 + 1 = m + 2 from rfl, h3, h2, p1] at h1
    rw [Nat.add_mul, Nat.mul_comm (dig V m), Nat.mul_right_comm (dig V (m + 1)), Nat.mul_comm (dig V (m + 1)), Nat.mul_right_comm (b32 ^ m)]
    omega
  · rw [show m + 2 + 1 = m + 3 from rfl, g0, show m + 2 = m + 1 + 1 from rfl, g2, g3, show m + 1 + 1 = m + 2 from rfl, p1, p2] at g1
    have e : (dig U (m + 2) * 4294967296 + dig U (m + 1)) * 4294967296 + dig U m = dig U (m + 2) * 4294967296 * 4294967296 + dig U (m + 1) * 4294967296 + dig U m := by rw [Nat.add_mul]
    have e2 : ((dig U (m + 2) * 4294967296 + dig U (m + 1)) * 4294967296 + dig U m) * b32 ^ m = b32 ^ m * 4294967296 * 4294967296 * dig U (m + 2) + b32 ^ m * 4294967296 * dig U (m + 1) + b32 ^ m * dig U m := by
      have t1 : ∀ x y c : Nat, x * c * c * y = y * c * c * x := fun x y c => by simp only [Nat.mul_comm, Nat.mul_left_comm, Nat.mul_assoc]
      have t2 : ∀ x y c : Nat, x * c * y = y * c * x := fun x y c => by simp only [Nat.mul_comm, Nat.mul_left_comm]
      rw [e, Nat.add_mul, Nat.add_mul, t1 (dig U (m + 2)) (b32 ^ m), t2 (dig U (m + 1)) (b32 ^ m), Nat.mul_comm (dig U m)]
    omega
end Go.Proofs.Lite

namespace Go.Proofs.Lite
open Go
theorem low_setd {X i d : Nat} (hd : d < b32) : low (setd X i d) (i + 1) = low X i + b32 ^ i * d := by
  rw [low_succ, dig_setd hd]; congr 1; exact setd_mod X i d
theorem ms_step {U V q X i c br D br' : Nat} (hx : dig X i = dig U i) (h : low X i + q * low V i = low U i + b32 ^ i * (c + br))
    (hD : D < b32) (hd : D + (c + q * dig V i) % 4294967296 + br = dig U i + 4294967296 * br') :
    low (setd X i D) (i + 1) + q * low V (i + 1) = low U (i + 1) + b32 ^ (i + 1) * ((c + q * dig V i) / 4294967296 + br') := by
  rw [low_setd hD, low_succ, low_succ, Nat.mul_add, Nat.pow_succ]
  have h1 := Nat.div_add_mod (c + q * dig V i) 4294967296
  have e1 : q * (b32 ^ i * dig V i) = b32 ^ i * (q * dig V i) := Nat.mul_left_comm _ _ _
  have e2 : b32 ^ i * b32 * ((c + q * dig V i) / 4294967296 + br') = b32 ^ i * (4294967296 * ((c + q * dig V i) / 4294967296 + br')) := Nat.mul_assoc _ _ _
  rw [e1, e2]
  generalize (c + q * dig V i) / 4294967296 = z at *
  generalize (c + q * dig V i) % 4294967296 = y at *
  have h2 : D + q * dig V i + c + br + 0 = dig U i + 4294967296 * (z + br') + (c + br - c - br) + (c + br) - (c + br) := by omega
  have h3 : b32 ^ i * (D + q * dig V i + (c + br)) = b32 ^ i * (dig U i + 4294967296 * (z + br')) := by congr 1; omega
  simp only [Nat.mul_add] at h3 h ⊢
  omega
theorem ms_carry {q v c : Nat} (hq : q ≤ 4294967296) (hv : v < 4294967296) (hc : c < 4294967296) : c + q * v < 18446744073709551616 ∧ (c + q * v) / 4294967296 < 4294967296 := by
  have h : q * v ≤ 4294967296 * 4294967295 := Nat.mul_le_mul hq (by omega)
  constructor
  · omega
  · apply Nat.div_lt_of_lt_mul; omega
section
variable {U V q n X c br : Nat}
/-- The subtraction went well. -/
theorem ms_good (hV : V < b32 ^ n) (hU : U < b32 ^ (n + 1)) (hV0 : 0 < V) (h : low X n + q * low V n = low U n + b32 ^ n * (c + br)) (hle : c + br ≤ dig U n) (hq : U / V ≤ q) :
    q = U / V ∧ low X n + b32 ^ n * (dig U n - (c + br)) = U % V := by
  rw [low_of_lt hV] at h
  have hUU : U = low U n + b32 ^ n * dig U n := by rw [← low_succ, low_of_lt hU]
  have e : b32 ^ n * dig U n = b32 ^ n * (dig U n - (c + br)) + b32 ^ n * (c + br) := by rw [← Nat.mul_add]; congr 1; omega
  have h1 : low X n + b32 ^ n * (dig U n - (c + br)) + q * V = U := by omega
  obtain ⟨R, hRR⟩ : ∃ R, R = low X n + b32 ^ n * (dig U n - (c + br)) := ⟨_, rfl⟩
  rw [← hRR] at h1 ⊢
  have hq2 : q ≤ U / V := (Nat.le_div_iff_mul_le hV0).2 (by omega)
  have hqq : q = U / V := by omega
  refine ⟨hqq, ?_⟩
  have := Nat.div_add_mod U V
  rw [← hqq, Nat.mul_comm] at this
  omega
/-- It took too much. -/
theorem ms_bad (hV : V < b32 ^ n) (hU : U < b32 ^ (n + 1)) (hV0 : 0 < V) (h : low X n + q * low V n = low U n + b32 ^ n * (c + br)) (hlt : dig U n < c + br) (hq : q * V < U + V) :
    q = U / V + 1 ∧ c + br = dig U n + 1 ∧ low X n + V = U % V + b32 ^ n := by
  rw [low_of_lt hV] at h
  have hUU : U = low U n + b32 ^ n * dig U n := by rw [← low_succ, low_of_lt hU]
  have hX := low_lt X n
  obtain ⟨t, ht⟩ : ∃ t, c + br = dig U n + 1 + t := ⟨c + br - dig U n - 1, by omega⟩
  rw [ht, Nat.mul_add, Nat.mul_add, Nat.mul_one] at h
  have h1 : U < q * V := by omega
  have hq0 : q ≠ 0 := by rintro rfl; rw [Nat.zero_mul] at h1; omega
  obtain ⟨p, rfl⟩ : ∃ p, q = p + 1 := ⟨q - 1, by omega⟩
  rw [Nat.add_mul, Nat.one_mul] at h h1 hq
  have hd : U / V = p ∧ U % V = U - p * V := by
    have hR : U - p * V < V := by omega
    have : U = V * p + (U - p * V) := by rw [Nat.mul_comm]; omega
    constructor
    · conv => lhs; rw [this]
      rw [Nat.mul_add_div hV0, Nat.div_eq_of_lt hR]; omega
    · conv => lhs; rw [this]
      rw [Nat.mul_add_mod, Nat.mod_eq_of_lt hR]
  have ht0 : t = 0 := by
    rcases Nat.eq_zero_or_pos t with h0 | h0
    · exact h0
    · exfalso
      have : b32 ^ n * 1 ≤ b32 ^ n * t := Nat.mul_le_mul_left _ h0
      rw [Nat.mul_one] at this
      omega
  subst ht0
  refine ⟨by rw [hd.1], by omega, ?_⟩
  rw [hd.2]; rw [Nat.mul_zero] at h; omega
end
/-- What the addition gives back. -/
theorem ab_end {Y V R n : Nat} (hV : V < b32 ^ n) (hR : R < b32 ^ n) (h : low Y n + V = R + b32 ^ n) : carry Y V n = 1 ∧ ∀ j, j < n → dig (Y + V) j = dig R j := by
  constructor
  · show (Y % 4294967296 ^ n + V % 4294967296 ^ n) / 4294967296 ^ n = 1
    rw [Nat.mod_eq_of_lt hV]
    have : Y % 4294967296 ^ n + V = R + b32 ^ n := h
    rw [this, Nat.add_div_right _ (b32_pos n), Nat.div_eq_of_lt hR]
  · intro j hj
    have e1 : dig ((Y + V) % b32 ^ n) j = dig (Y + V) j := digB_low hj
    rw [← e1]
    have : (Y + V) % b32 ^ n = R := by
      have h2 : (Y + V) % b32 ^ n = (low Y n + V) % b32 ^ n := by unfold low; rw [Nat.mod_add_mod]
      rw [h2, h, Nat.add_mod_right, Nat.mod_eq_of_lt hR]
    rw [this]
end Go.Proofs.Lite

namespace Go.Proofs.Lite
open Go
theorem lm_get? (n A k : Nat) : (lm n A)[k]? = if k < n then some (.raw (.int .u32 ((dig A k : Nat) : Int))) else none := by
  unfold lm u32s limbs limbsB
  rw [List.map_map, List.getElem?_map]
  by_cases h : k < n
  · rw [if_pos h, List.getElem?_range h]; rfl
  · rw [if_neg h, List.getElem?_eq_none (by simpa using h)]; rfl
theorem take_lm_le {n k A : Nat} (h : k ≤ n) : (lm n A).take k = lm k A := by
  apply List.ext_getElem?
  intro i
  rw [List.getElem?_take, lm_get?, lm_get?]
  by_cases hi : i < k
  · rw [if_pos hi, if_pos hi, if_pos (by omega)]
  · rw [if_neg hi, if_neg hi]
theorem drop_take_lm {n j k A : Nat} (h : j + k ≤ n) : ((lm n A).drop j).take k = lm k (A / b32 ^ j) := by
  apply List.ext_getElem?
  intro i
  rw [List.getElem?_take, List.getElem?_drop, lm_get?, lm_get?]
  by_cases hi : i < k
  · rw [if_pos hi, if_pos hi, if_pos (by omega), dig_divq, Nat.add_comm]
  · rw [if_neg hi, if_neg hi]
theorem splice_lm {n j k U W : Nat} (h : j + k ≤ n) (hU : U < b32 ^ (j + k)) (hW : W < b32 ^ k) : (lm n U).take j ++ (lm k W ++ (lm n U).drop (j + k)) = lm n (U % b32 ^ j + b32 ^ j * W) := by
  have hd1 : ∀ i, i < j → dig (U % b32 ^ j + b32 ^ j * W) i = dig U i := fun i hi => by
    have e1 : dig ((U % b32 ^ j + b32 ^ j * W) % b32 ^ j) i = dig (U % b32 ^ j + b32 ^ j * W) i := digB_low hi
    have e2 : dig (U % b32 ^ j) i = dig U i := digB_low hi
    rw [← e1, Nat.add_mul_mod_self_left, Nat.mod_mod, e2]
  have hd2 : ∀ i, dig (U % b32 ^ j + b32 ^ j * W) (i + j) = dig W i := fun i => by
    rw [← dig_divq, Nat.add_mul_div_left _ _ (b32_pos j), Nat.div_eq_of_lt (Nat.mod_lt _ (b32_pos j)), Nat.zero_add]
  have hz : ∀ X m i, X < b32 ^ m → m ≤ i → dig X i = 0 := fun X m i hX hm => by
    rw [dig_def, Nat.div_eq_of_lt (Nat.lt_of_lt_of_le hX (Nat.pow_le_pow_right (by decide) hm)), Nat.zero_mod]
  apply List.ext_getElem?
  intro i
  rw [lm_get?]
  by_cases hi : i < j
  · rw [List.getElem?_append_left (by rw [List.length_take, lm_length]; omega), List.getElem?_take, if_pos hi, lm_get?, if_pos (by omega), if_pos (by omega), hd1 i hi]
  · have hl : ((lm n U).take j).length = j := by rw [List.length_take, lm_length]; omega
    rw [List.getElem?_append_right (by omega), hl]
    obtain ⟨x, rfl⟩ : ∃ x, i = x + j := ⟨i - j, by omega⟩
    rw [Nat.add_sub_cancel, hd2]
    by_cases hx : x < k
    · rw [List.getElem?_append_left (by rw [lm_length]; exact hx), lm_get?, if_pos hx, if_pos (by omega)]
    · rw [List.getElem?_append_right (by rw [lm_length]; omega), lm_length, List.getElem?_drop, lm_get?]
      rw [hz W k x hW (by omega), hz U (j + k) (j + k + (x - k)) hU (by omega)]
      by_cases hn : x + j < n
      · rw [if_pos hn, if_pos (by omega)]
      · rw [if_neg hn, if_neg (by omega)]
theorem wr_lm7 (H : Nat) (hH : H < bW) : wr (lm 7 0) 0 (mg H) = lm 7 H := by
  have := splice_lm (n := 7) (j := 0) (k := 6) (U := 0) (W := H) (by decide) (by decide) (by rw [show (b32 ^ 6 : Nat) = bW from pow6]; exact hH)
  rw [Nat.pow_zero, Nat.mod_one, Nat.zero_add, Nat.one_mul] at this
  simpa [wr, mg_lm, lm_length] using this
section
variable {A B s n : Nat}
/-- The shifted number, in seven limbs. -/
theorem shift7 {X : Nat} (hA : A < bW) (hs : s < 32) (hX : X = A * 2 ^ s % bW) : lm 7 (setd X 6 (dig A 5 / 2 ^ (32 - s))) = lm 7 (A * 2 ^ s) := by
  have hd5 := dig_lt A 5
  have hdl : dig A 5 / 2 ^ (32 - s) < b32 := Nat.lt_of_le_of_lt (Nat.div_le_self _ _) hd5
  apply lm_digs
  intro j hj
  by_cases hj6 : j = 6
  · subst hj6
    rw [dig_setd hdl, dig_up_add (k := 5) (by omega), dig_top (j := 6) hA (by omega), shr_shl (by omega)]; simp
  · rw [dig_setd_ne hdl hj6, hX, ← pow6]
    exact digB_low (by omega)
end
/-- One step down in a long division. -/
theorem ld_step {U0 V U j : Nat} (hV : 0 < V) (hU : U = U0 % (V * b32 ^ (j + 1))) : U / b32 ^ j / V = dig (U0 / V) j ∧ U % b32 ^ j + b32 ^ j * (U / b32 ^ j % V) = U0 % (V * b32 ^ j) ∧ U / b32 ^ j < V * 4294967296 := by
  have hp := b32_pos j
  have hVb : 0 < V * b32 ^ j := Nat.mul_pos hV hp
  have e1 : V * b32 ^ (j + 1) = V * b32 ^ j * b32 := by rw [Nat.pow_succ, Nat.mul_assoc]
  refine ⟨?_, ?_, ?_⟩
  · rw [Nat.div_div_eq_div_mul, Nat.mul_comm (b32 ^ j), hU, e1, Nat.mod_mul_right_div_self, dig_def, Nat.div_div_eq_div_mul]
  · rw [← Nat.mod_mul, Nat.mul_comm (b32 ^ j), hU, e1, Nat.mod_mul_right_mod]
  · apply Nat.div_lt_of_lt_mul
    have : U < V * b32 ^ (j + 1) := by rw [hU]; exact Nat.mod_lt _ (Nat.mul_pos hV (b32_pos _))
    rw [e1] at this
    rw [Nat.mul_left_comm, ← Nat.mul_assoc]
    exact this
end Go.Proofs.Lite

namespace Go.Proofs.Lite
open Go
theorem norm_facts {B m : Nat} (h1 : b32 ^ (m + 1) ≤ B) (h2 : B < b32 ^ (m + 2)) : 0 < dig B (m + 1) ∧ nb (dig B (m + 1)) ≤ 32 ∧ 0 < nb (dig B (m + 1)) ∧ B * 2 ^ (32 - nb (dig B (m + 1))) < b32 ^ (m + 2) ∧
    2147483648 ≤ dig (B * 2 ^ (32 - nb (dig B (m + 1)))) (m + 1) ∧ b32 ^ (m + 2) ≤ 2 * (B * 2 ^ (32 - nb (dig B (m + 1)))) := by
  have hp := b32_pos (m + 1)
  have hB0 : 0 < B := Nat.lt_of_lt_of_le hp h1
  have hd : dig B (m + 1) = B / b32 ^ (m + 1) := by
    rw [dig_def]; apply Nat.mod_eq_of_lt
    apply Nat.div_lt_of_lt_mul; rw [← Nat.pow_succ]; exact h2
  have hd0 : 0 < dig B (m + 1) := by rw [hd]; exact Nat.div_pos h1 hp
  have hnl : nb (dig B (m + 1)) ≤ 32 := nb_le.2 (dig_lt _ _)
  have hnB : nb B = 32 * (m + 1) + nb (dig B (m + 1)) := by
    refine nb_scale hd0 (l := low B (m + 1)) (by rw [← b32_pow]; exact low_lt _ _) ?_
    rw [← b32_pow, ← low_succ, low_of_lt h2]
  generalize hs : 32 - nb (dig B (m + 1)) = s
  have hV0 : 0 < B * 2 ^ s := Nat.mul_pos hB0 (Nat.pow_pos (by decide))
  have hnV : nb (B * 2 ^ s) = 32 * (m + 2) := by
    rw [nb_scale (A := B * 2 ^ s) hB0 (l := 0) (k := s) (Nat.pow_pos (by decide)) (by rw [Nat.zero_add, Nat.mul_comm])]; omega
  have g1 : B * 2 ^ s < b32 ^ (m + 2) := by rw [b32_pow, ← hnV]; exact nb_lt _
  have g2 : b32 ^ (m + 2) ≤ 2 * (B * 2 ^ s) := by rw [b32_pow, ← hnV]; exact nb_ge hV0
  refine ⟨hd0, hnl, nb_pos hd0, g1, ?_, g2⟩
  have hdV : dig (B * 2 ^ s) (m + 1) = B * 2 ^ s / b32 ^ (m + 1) := by
    rw [dig_def]; apply Nat.mod_eq_of_lt
    apply Nat.div_lt_of_lt_mul; rw [← Nat.pow_succ]; exact g1
  rw [hdV, Nat.le_div_iff_mul_le hp]
  have e : b32 ^ (m + 2) = b32 ^ (m + 1) * 4294967296 := Nat.pow_succ _ _
  rw [e] at g2
  generalize b32 ^ (m + 1) = p at *
  omega
theorem first_lt {A V s m : Nat} (hA : A < bW) (hs : s ≤ 31) (hm : m ≤ 4) (h : b32 ^ (m + 2) ≤ 2 * V) : A * 2 ^ s < V * b32 ^ (5 - m) := by
  have h1 : A * 2 ^ s < bW * 2 ^ 31 := by
    have h2 : 2 ^ s ≤ 2 ^ 31 := Nat.pow_le_pow_right (by decide) hs
    exact Nat.mul_lt_mul_of_lt_of_le hA h2 (Nat.pow_pos (by decide))
  have h3 : b32 ^ (m + 2) * b32 ^ (5 - m) ≤ 2 * V * b32 ^ (5 - m) := Nat.mul_le_mul_right _ h
  rw [← Nat.pow_add, show m + 2 + (5 - m) = 7 from by omega, Nat.mul_assoc] at h3
  have e : (b32 ^ 7 : Nat) = 2 * (bW * 2 ^ 31) := by decide
  rw [e] at h3
  omega
end Go.Proofs.Lite

namespace Go.Proofs.Lite
open Go
def SDY := And.intro SD1 SD2
def SUY := And.intro SU1 <| And.intro SU2 <| And.intro implies_true.{0} <| And.intro implies_true.{1} <| And.intro @if_true.{1} <| And.intro @if_false.{1} <| And.intro @forall_const.{0} <| And.intro @forall_const.{1} @forall_eq'.{1}
def SDX := And.intro SD3 SDY
def SUX := And.intro SU1 <| And.intro SU2 <| And.intro OM <| And.intro NB <| And.intro @mg_wri <| And.intro @lm_wri <| And.intro implies_true.{0} <| And.intro implies_true.{1} <| And.intro @if_true.{1} <| And.intro @if_false.{1} <| And.intro @forall_const.{0} <| And.intro @forall_const.{1} <| And.intro @forall_eq'.{1} <| And.intro @List.flatten_cons.{0} <| And.intro @List.flatten_nil.{0} <| And.intro @List.append_nil.{0} <| And.intro Nat.zero_mul <| And.intro Int.sub_zero <| And.intro Nat.add_zero <| And.intro @Int.cast_ofNat_Int @Int.fdiv_eq_ediv_of_nonneg
end Go.Proofs.Lite

namespace Go.Proofs.Lite
open Go
section
variable {P : Program} {F : FnsA} (h : IsA P F)
include h
theorem S_l01Zero_pf (A : Nat) : Pf P F.S_l01Zero [.rp (mg A)] (.raw (.bool (decide (A % bW = 0)))) := ⟨S_l01Zero_ct h A, (by simp only [noixL, noix, NX, and_true, true_and]), trivial⟩
theorem S_l01Made_pf (n : Bool) (A : Nat) : Pf P F.S_l01Made [.raw (.bool n), .agg (mg A)] (.agg (wd (n && !decide (A % bW = 0)) A)) := ⟨S_l01Made_ct h n A, (by simp only [noixL, noix, NX, and_true, true_and]), noix_wd _ _⟩
theorem S_l01Plus_pf (A B : Nat) : Pf P F.S_l01Plus [.rp (mg A), .rp (mg B)] (.tup [.agg (mg (A + B)), .raw (.bool (decide (A % bW + B % bW < bW)))]) := ⟨S_l01Plus_ct h A B, (by simp only [noixL, noix, NX, and_true, true_and]), (by simp only [noixL, noix, NX, and_true, true_and])⟩
theorem S_l01Cmp_pf (A B : Nat) : Pf P F.S_l01Cmp [.rp (mg A), .rp (mg B)] (.raw (.int .i64 (cmpI (A % bW) (B % bW)))) := ⟨S_l01Cmp_ct h A B, (by simp only [noixL, noix, NX, and_true, true_and]), trivial⟩
theorem S_l01Minus_pf (A B : Nat) (hAB : B ≤ A) : Pf P F.S_l01Minus [.rp (mg A), .rp (mg B)] (.agg (mg (A - B))) := ⟨S_l01Minus_ct h A B hAB, (by simp only [noixL, noix, NX, and_true, true_and]), (by simp only [noixL, noix, NX, and_true, true_and])⟩
theorem S_l01Ok_pf (n : Bool) (A : Nat) : Pf P F.S_l01Ok [.rp (wd n A)] (.raw (.bool (!n || !decide (A % bW = 0)))) := ⟨S_l01Ok_ct h n A, (by simp only [noixL, noix, NX, and_true, true_and]), trivial⟩
theorem S_l01Sign_pf (n : Bool) (A : Nat) : Pf P F.S_l01Sign [.rp (wd n A)] (.raw (.int .i64 (if n then -1 else if A % bW = 0 then 0 else 1))) := ⟨S_l01Sign_ct h n A, (by simp only [noixL, noix, NX, and_true, true_and]), trivial⟩
theorem S_l01Neg_pf (n : Int) (hn : n.natAbs < bW) : Pf P F.S_l01Neg [.agg (wi n)] (.agg (wi (-n))) := ⟨S_l01Neg_ct h n hn, (by simp only [noixL, noix, NX, and_true, true_and]), noix_wi _⟩
theorem S_l01Add_pf (a b : Int) (ha : a.natAbs < bW) (hb : b.natAbs < bW) : Pf P F.S_l01Add [.agg (wi a), .agg (wi b)] (.tup (if (a + b).natAbs < bW then [.agg (wi (a + b)), .raw (.int .i64 0)] else [.agg (wi 0), .raw (.int .i64 3)])) :=
  ⟨S_l01Add_ct h a b ha hb, (by simp only [noixL, noix, NX, and_true, true_and]), by simp only [noix]; split <;> exact (by simp only [noixL, noix, NX, and_true, true_and])⟩
theorem S_l00In_pf (n l u : Int) : Pf P F.S_l00In [.raw (.int .i64 n), .raw (.int .i64 l), .raw (.int .i64 u)] (.raw (.bool (decide (l ≤ n) && decide (n ≤ u)))) := by
  refine pf_of h.S_l00In (by simp only [noixL, noix, NX, and_true, true_and]) trivial ?_
  by_cases h1 : l ≤ n
  · simp only [seval, isRes, slEl, bslParts, mmAll, mmR, ↓SDY, SUY, List.replicate, List.append, pr, lr, er, binR, ev, putA, List.set, intOf, takeAg, cellsOf, wrAll, partsOk, ones, one, isOne, wok1, findPE, List.find?, nop, prlr, isPure, pickR, optInt, rets, rv, rvs, S_l00In_c, h1]
    exact WkV.eq (by first | rfl | simp) (by first | trivial | (simp only [noix, noixL, NX, and_true, true_and]; done))
  · simp only [seval, isRes, slEl, bslParts, mmAll, mmR, ↓SDY, SUY, List.replicate, List.append, pr, lr, er, binR, ev, putA, List.set, intOf, takeAg, cellsOf, wrAll, partsOk, ones, one, isOne, wok1, findPE, List.find?, nop, prlr, isPure, pickR, optInt, rets, rv, rvs, S_l00In_c, h1]
    exact WkV.eq (by first | rfl | simp) (by first | trivial | (simp only [noix, noixL, NX, and_true, true_and]; done))
theorem S_l01Of_pf (n : Int) (h1 : -9223372036854775808 ≤ n) (h2 : n < 9223372036854775808) : Pf P F.S_l01Of [.raw (.int .i64 n)] (.agg (wi n)) := by
  refine pf_of h.S_l01Of (by simp only [noixL, noix, NX, and_true, true_and]) (noix_wi _) ?_
  by_cases hn : n < 0
  · simp (disch := omega) only [seval, ↓SDX, isRes, slEl, bslParts, mmAll, mmR, SUX, List.replicate, List.append, pr, lr, er, binR, ev, putA, List.set, intOf, takeAg, cellsOf, wrAll, partsOk, ones, one, isOne, wok1, findPE, List.find?, nop, prlr, isPure, pickR, optInt, rets, rv, rvs, S_l01Of_c, u32_wrap, u64_wrap, IntKind.bits]
    refine (S_l01Made_pf h _ _).step ?_
    have e : setd (setd 0 0 ((0 - n % 18446744073709551616) % 18446744073709551616 % 4294967296).toNat) 1 ((0 - n % 18446744073709551616) % 18446744073709551616 / 4294967296).toNat = n.natAbs := by
      rw [setd_two (by show _ < 4294967296; omega)]; show _ + 4294967296 * _ = _; omega
    simp (disch := omega) only [seval, ↓SDX, isRes, slEl, bslParts, mmAll, mmR, SUX, List.replicate, List.append, pr, lr, er, binR, ev, putA, List.set, intOf, takeAg, cellsOf, wrAll, partsOk, ones, one, isOne, wok1, findPE, List.find?, nop, prlr, isPure, pickR, optInt, rets, rv, rvs, e, IntKind.bits]
    rw [wd_minus _ (by unfold bW; omega)]
    exact WkV.eq (by rw [show (-(n.natAbs : Int)) = n from by omega]) (noix_wi _)
  · simp (disch := omega) only [seval, ↓SDX, isRes, slEl, bslParts, mmAll, mmR, SUX, List.replicate, List.append, pr, lr, er, binR, ev, putA, List.set, intOf, takeAg, cellsOf, wrAll, partsOk, ones, one, isOne, wok1, findPE, List.find?, nop, prlr, isPure, pickR, optInt, rets, rv, rvs, S_l01Of_c, u32_wrap, u64_wrap, IntKind.bits]
    refine (S_l01Made_pf h _ _).step ?_
    have e : setd (setd 0 0 (n % 4294967296).toNat) 1 (n / 4294967296).toNat = n.natAbs := by
      rw [setd_two (by show _ < 4294967296; omega)]; show _ + 4294967296 * _ = _; omega
    simp (disch := omega) only [seval, ↓SDX, isRes, slEl, bslParts, mmAll, mmR, SUX, List.replicate, List.append, pr, lr, er, binR, ev, putA, List.set, intOf, takeAg, cellsOf, wrAll, partsOk, ones, one, isOne, wok1, findPE, List.find?, nop, prlr, isPure, pickR, optInt, rets, rv, rvs, e, IntKind.bits]
    rw [wd_plus]
    exact WkV.eq (by rw [show ((n.natAbs : Nat) : Int) = n from by omega]) (noix_wi _)
end
end Go.Proofs.Lite

namespace Go.Proofs.Lite
open Go
section
variable {P : Program} {F : FnsA} (h : IsA P F)
include h
set_option maxRecDepth 20000 in
theorem S_l01Mul_pf (a b : Int) (ha : a.natAbs < bW) (hb : b.natAbs < bW) : Pf P F.S_l01Mul [.agg (wi a), .agg (wi b)]
    (.tup (if (a * b).natAbs < bW then [.agg (wi (a * b)), .raw (.int .i64 0)] else [.agg (wi 0), .raw (.int .i64 3)])) := by
  refine pf_of h.S_l01Mul (by simp only [noixL, noix, NX, and_true, true_and]) (by simp only [noix]; split <;> exact (by simp only [noixL, noix, NX, and_true, true_and])) ?_
  simp (disch := omega) only [seval, ↓SDX, isRes, slEl, bslParts, mmAll, mmR, SUX, List.replicate, List.append, pr, lr, er, binR, ev, putA, List.set, intOf, takeAg, cellsOf, wrAll, partsOk, ones, one, isOne, wok1, findPE, List.find?, nop, prlr, isPure, pickR, optInt, rets, rv, rvs, S_l01Mul_c, IntKind.bits]
  refine loop_st (fun s : Nat => 6 - s) (fun i => ([.junk, .junk, .ptr 0 0, .ptr 1 0, .ptr 2 0, .raw (.int .i64 0), .ptr 3 0, .raw (.int .i64 (i : Nat))] ++ List.replicate 70 .junk))
    (fun i => [.c (wi a), .c (wi b), .c (wd false 0), .c (lm 12 (low a.natAbs i * b.natAbs))]) (fun i => i ≤ 6) 0 (by omega) ?_ ?_
  · rw [low_zero, Nat.zero_mul]; exact Wk.tmps (by simp [fits])
  intro i hi
  have hA := dig_lt a.natAbs i
  by_cases hi6 : i < 6
  · simp (disch := omega) only [seval, ↓SDX, isRes, slEl, bslParts, mmAll, mmR, SUX, List.replicate, List.append, pr, lr, er, binR, ev, putA, List.set, intOf, takeAg, cellsOf, wrAll, partsOk, ones, one, isOne, wok1, findPE, List.find?, nop, prlr, isPure, pickR, optInt, rets, rv, rvs, IntKind.bits]
    refine loop_st (fun s : Nat × Nat × Nat => 6 - s.1) (fun s => ([.junk, .junk, .ptr 0 0, .ptr 1 0, .ptr 2 0, .raw (.int .i64 0), .ptr 3 0, .raw (.int .i64 (i : Nat)), .raw (.int .u64 (s.2.2 : Nat)), .raw (.int .i64 (s.1 : Nat))] ++ List.replicate 68 .junk))
      (fun s => [.c (wi a), .c (wi b), .c (wd false 0), .c (lm 12 s.2.1)])
      (fun s => s.1 ≤ 6 ∧ s.2.1 + b32 ^ (i + s.1) * s.2.2 = low a.natAbs i * b.natAbs + dig a.natAbs i * b32 ^ i * low b.natAbs s.1 ∧ s.2.1 < b32 ^ (i + 6) ∧ s.2.2 < 4294967296) (0, low a.natAbs i * b.natAbs, 0) ?_ ?_ ?_
    · refine ⟨by omega, ?_, mul_lt hb, by simp only []; omega⟩
      rw [low_zero]; simp only [Nat.mul_zero]
    · exact Wk.tmps (by simp [fits])
    rintro ⟨k, V, c⟩ ⟨hk, hV, hVl, hc⟩
    simp only [] at hk hV hVl hc
    have hB := dig_lt b.natAbs k
    have hD := dig_lt V (i + k)
    have hm := mul_carry hA hB hD hc
    by_cases hk6 : k < 6
    · simp (disch := omega) only [seval, ↓SDX, isRes, slEl, bslParts, mmAll, mmR, SUX, List.replicate, List.append, pr, lr, er, binR, ev, putA, List.set, intOf, takeAg, cellsOf, wrAll, partsOk, ones, one, isOne, wok1, findPE, List.find?, nop, prlr, isPure, pickR, optInt, rets, rv, rvs, CN, IntKind.bits]
      refine ⟨(k + 1, _, _), by simp only []; omega, ⟨by simp only []; omega, mul_step hV, setd_lt hVl (by omega) (Nat.mod_lt _ (by decide)), hm.2⟩, Wk.tmps (by simp [fits])⟩
    · have hk7 : k = 6 := by omega
      subst hk7
      simp (disch := omega) only [seval, ↓SDX, isRes, slEl, bslParts, mmAll, mmR, SUX, List.replicate, List.append, pr, lr, er, binR, ev, putA, List.set, intOf, takeAg, cellsOf, wrAll, partsOk, ones, one, isOne, wok1, findPE, List.find?, nop, prlr, isPure, pickR, optInt, rets, rv, rvs, CN, IntKind.bits]
      rw [mul_end hV hb hVl]
      exact ⟨i + 1, by omega, by omega, Wk.tmps (by simp [fits])⟩
  · have hi7 : i = 6 := by omega
    subst hi7
    rw [low_of_lt (by rw [show (b32 ^ 6 : Nat) = bW from pow6]; exact ha)]
    have hV : a.natAbs * b.natAbs < b32 ^ 12 := by
      rw [show (b32 ^ 12 : Nat) = bW * bW from by decide]; exact Nat.mul_lt_mul'' ha hb
    have hab : (a * b).natAbs = a.natAbs * b.natAbs := Int.natAbs_mul a b
    rw [hab]
    generalize hVV : a.natAbs * b.natAbs = V at *
    simp (disch := omega) only [seval, ↓SDX, isRes, slEl, bslParts, mmAll, mmR, SUX, List.replicate, List.append, pr, lr, er, binR, ev, putA, List.set, intOf, takeAg, cellsOf, wrAll, partsOk, ones, one, isOne, wok1, findPE, List.find?, nop, prlr, isPure, pickR, optInt, rets, rv, rvs, IntKind.bits]
    refine loop_st (fun s : Nat => 6 - s) (fun k => ([.junk, .junk, .ptr 0 0, .ptr 1 0, .ptr 2 0, .raw (.int .i64 0), .ptr 3 0, .junk, .junk, .junk, .junk, .ptr 4 0, .raw (.int .i64 (k : Nat))] ++ List.replicate 65 .junk))
      (fun k => [.c (wi a), .c (wi b), .c (wd false 0), .c (lm 12 V), .c (mg (low V k))]) (fun k => k ≤ 6 ∧ ∀ j, j < k → dig V (6 + j) = 0) 0 ⟨by omega, fun _ h => by omega⟩ ?_ ?_
    · rw [low_zero]; exact Wk.tmps (by simp [fits])
    rintro k ⟨hk, hz⟩
    have hD := dig_lt V k
    have hD2 := dig_lt V (k + 6)
    by_cases hk6 : k < 6
    · have hw := mg_low_wr (A := V) hk6 rfl
      by_cases hd : dig V (k + 6) = 0
      · simp (disch := omega) only [seval, ↓SDX, isRes, slEl, bslParts, mmAll, mmR, SUX, List.replicate, List.append, pr, lr, er, binR, ev, putA, List.set, intOf, takeAg, cellsOf, wrAll, partsOk, ones, one, isOne, wok1, findPE, List.find?, nop, prlr, isPure, pickR, optInt, rets, rv, rvs, CN, hw, hd, IntKind.bits]
        refine ⟨k + 1, by omega, ⟨by omega, fun j hj => ?_⟩, Wk.tmps (by simp [fits])⟩
        by_cases hjk : j = k
        · subst hjk; rw [Nat.add_comm]; exact hd
        · exact hz j (by omega)
      · simp (disch := omega) only [seval, ↓SDX, isRes, slEl, bslParts, mmAll, mmR, SUX, List.replicate, List.append, pr, lr, er, binR, ev, putA, List.set, intOf, takeAg, cellsOf, wrAll, partsOk, ones, one, isOne, wok1, findPE, List.find?, nop, prlr, isPure, pickR, optInt, rets, rv, rvs, CN, hw, IntKind.bits]
        have hlt : ¬ V < bW := fun hl => hd (by rw [Nat.add_comm]; exact upper_dig hl)
        simp (disch := omega) only [seval, ↓SDX, isRes, slEl, bslParts, mmAll, mmR, SUX, List.replicate, List.append, pr, lr, er, binR, ev, putA, List.set, intOf, takeAg, cellsOf, wrAll, partsOk, ones, one, isOne, wok1, findPE, List.find?, nop, prlr, isPure, pickR, optInt, rets, rv, rvs, hlt, IntKind.bits]
        rw [← wi_zero]
        exact WkV.eq rfl (by simp only [noixL, noix, NX, and_true, true_and])
    · have hk7 : k = 6 := by omega
      subst hk7
      have hlt : V < bW := upper_zero 6 hz hV
      simp (disch := omega) only [seval, ↓SDX, isRes, slEl, bslParts, mmAll, mmR, SUX, List.replicate, List.append, pr, lr, er, binR, ev, putA, List.set, intOf, takeAg, cellsOf, wrAll, partsOk, ones, one, isOne, wok1, findPE, List.find?, nop, prlr, isPure, pickR, optInt, rets, rv, rvs, hlt, mg_low6, wi, IntKind.bits]
      refine (S_l01Made_pf h _ _).step ?_
      simp (disch := omega) only [seval, ↓SDX, isRes, slEl, bslParts, mmAll, mmR, SUX, List.replicate, List.append, pr, lr, er, binR, ev, putA, List.set, intOf, takeAg, cellsOf, wrAll, partsOk, ones, one, isOne, wok1, findPE, List.find?, nop, prlr, isPure, pickR, optInt, rets, rv, rvs, IntKind.bits]
      rw [made_wi _ _ hlt, ← hVV, mul_sign]
      exact WkV.eq rfl (by simp only [noix, noixL, NX, and_true, true_and])
end
end Go.Proofs.Lite

namespace Go.Proofs.Lite
open Go
section
variable {P : Program} {F : FnsA} (h : IsA P F)
include h
set_option maxRecDepth 20000 in
theorem S_l01Bits_pf (A : Nat) (hA : A < bW) : Pf P F.S_l01Bits [.rp (mg A)] (.raw (.int .i64 (nb A : Nat))) := by
  refine pf_of h.S_l01Bits (by simp only [noixL, noix, NX, and_true, true_and]) trivial ?_
  simp (disch := omega) only [seval, ↓SDX, isRes, slEl, bslParts, mmAll, mmR, SUX, List.replicate, List.append, pr, lr, er, binR, ev, putA, List.set, intOf, takeAg, cellsOf, wrAll, partsOk, ones, one, isOne, wok1, findPE, List.find?, nop, prlr, isPure, pickR, optInt, rets, rv, rvs, S_l01Bits_c, IntKind.bits]
  refine loop_st (fun s : Nat => s) (fun s => ([.rp (mg A), .junk, .raw (.int .i64 0), .raw (.int .i64 ((s : Int) - 1))] ++ List.replicate 27 .junk)) (fun _ => []) (fun s => s ≤ 6 ∧ ∀ j, s ≤ j → j < 6 → dig A j = 0) 6 ⟨by omega, fun j h1 h2 => by omega⟩ ?_ ?_
  · exact Wk.tmps (by simp [fits])
  rintro s ⟨hs, hz⟩
  by_cases h0 : s = 0
  · subst h0
    simp (disch := omega) only [seval, ↓SDX, isRes, slEl, bslParts, mmAll, mmR, SUX, List.replicate, List.append, pr, lr, er, binR, ev, putA, List.set, intOf, takeAg, cellsOf, wrAll, partsOk, ones, one, isOne, wok1, findPE, List.find?, nop, prlr, isPure, pickR, optInt, rets, rv, rvs, IntKind.bits]
    rw [dig_all_zero hA (fun j hj => hz j (by omega) hj)]
    exact WkV.eq (by first | rfl | simp) (by first | trivial | (simp only [noix, noixL, NX, and_true, true_and]; done))
  obtain ⟨k, rfl⟩ : ∃ k, s = k + 1 := ⟨s - 1, by omega⟩
  have hk : ((k + 1 : Nat) : Int) - 1 = k := by omega
  have hd := dig_lt A k
  rw [hk]
  by_cases hd0 : dig A k = 0
  · simp (disch := omega) only [seval, ↓SDX, isRes, slEl, bslParts, mmAll, mmR, SUX, List.replicate, List.append, pr, lr, er, binR, ev, putA, List.set, intOf, takeAg, cellsOf, wrAll, partsOk, ones, one, isOne, wok1, findPE, List.find?, nop, prlr, isPure, pickR, optInt, rets, rv, rvs, hd0, IntKind.bits]
    refine ⟨k, by omega, ⟨by omega, fun j h1 h2 => ?_⟩, Wk.tmps (by simp [fits])⟩
    rcases Nat.lt_or_eq_of_le h1 with h1 | h1
    · exact hz j (by omega) h2
    · rw [← h1]; exact hd0
  · have hnb := nb_dig hA (fun j h1 h2 => hz j (by omega) h2) (by omega) hd0
    simp (disch := omega) only [seval, ↓SDX, isRes, slEl, bslParts, mmAll, mmR, SUX, List.replicate, List.append, pr, lr, er, binR, ev, putA, List.set, intOf, takeAg, cellsOf, wrAll, partsOk, ones, one, isOne, wok1, findPE, List.find?, nop, prlr, isPure, pickR, optInt, rets, rv, rvs, CN, IntKind.bits]
    refine loop_st (fun s : Nat => s) (fun s => ([.rp (mg A), .junk, .raw (.int .i64 0), .raw (.int .i64 (k : Nat)), .raw (.int .i64 ((nb (dig A k) - nb s : Nat) : Int)), .raw (.int .u32 (s : Nat))] ++ List.replicate 25 .junk)) (fun _ => []) (fun s => s < 4294967296 ∧ nb s ≤ nb (dig A k)) (dig A k) ⟨hd, Nat.le_refl _⟩ ?_ ?_
    · exact Wk.tmps (by simp [fits])
    rintro s ⟨hs, hs2⟩
    by_cases h0 : s = 0
    · subst h0
      have e : ((nb (dig A k) - nb 0 : Nat) : Int) = nb (dig A k) := by rw [nb_zero]; omega
      have h32 : nb (dig A k) ≤ 32 := nb_le.2 hd
      simp (disch := omega) only [seval, ↓SDX, isRes, slEl, bslParts, mmAll, mmR, SUX, List.replicate, List.append, pr, lr, er, binR, ev, putA, List.set, intOf, takeAg, cellsOf, wrAll, partsOk, ones, one, isOne, wok1, findPE, List.find?, nop, prlr, isPure, pickR, optInt, rets, rv, rvs, e, IntKind.bits]
      exact WkV.eq (by rw [hnb]; congr 3 ) trivial
    · have := nb_half (A := s) (by omega)
      have h32 : nb (dig A k) ≤ 32 := nb_le.2 hd
      simp (disch := omega) only [seval, ↓SDX, isRes, slEl, bslParts, mmAll, mmR, SUX, List.replicate, List.append, pr, lr, er, binR, ev, putA, List.set, intOf, takeAg, cellsOf, wrAll, partsOk, ones, one, isOne, wok1, findPE, List.find?, nop, prlr, isPure, pickR, optInt, rets, rv, rvs, CN, IntKind.bits]
      refine ⟨s / 2, by omega, ⟨by omega, by omega⟩, Wk.tmps ?_⟩
      rw [show nb (dig A k) - nb s + 1 = nb (dig A k) - nb (s / 2) from by omega]
      simp [fits]
end
end Go.Proofs.Lite

namespace Go.Proofs.Lite
open Go
section
variable {P : Program} {F : FnsA} (h : IsA P F)
include h
set_option maxRecDepth 20000 in
theorem S_l01UpMag_pf (A n : Nat) (hA : A < bW) (hn : n ≤ 191) : Pf P F.S_l01UpMag [.rp (mg A), .raw (.int .i64 (n : Nat))] (.tup (if A * 2 ^ n < bW then [.agg (mg (A * 2 ^ n)), .raw (.bool true)] else [.agg (mg 0), .raw (.bool false)])) := by
  refine pf_of h.S_l01UpMag (by simp only [noixL, noix, NX, and_true, true_and]) (by simp only [noix]; split <;> exact (by simp only [noixL, noix, NX, and_true, true_and])) ?_
  have hb : nb A ≤ 192 := nb_bW.2 hA
  have hu := nb_up (A := A) (n := n)
  have hmod := Nat.mod_eq_of_lt hA
  simp (disch := omega) only [seval, ↓SDX, isRes, slEl, bslParts, mmAll, mmR, SUX, List.replicate, List.append, pr, lr, er, binR, ev, putA, List.set, intOf, takeAg, cellsOf, wrAll, partsOk, ones, one, isOne, wok1, findPE, List.find?, nop, prlr, isPure, pickR, optInt, rets, rv, rvs, S_l01UpMag_c, CN, IntKind.bits]
  refine (S_l01Bits_pf h A hA).step ?_
  obtain ⟨q, r, hr, hq⟩ : ∃ q r, r < 32 ∧ n = 32 * q + r := ⟨n / 32, n % 32, by omega, by omega⟩
  have hq1 : n / 32 = q := by omega
  have hr1 : n % 32 = r := by omega
  by_cases hc : 192 < nb A + n
  · simp (disch := omega) only [seval, ↓SDX, isRes, slEl, bslParts, mmAll, mmR, SUX, List.replicate, List.append, pr, lr, er, binR, ev, putA, List.set, intOf, takeAg, cellsOf, wrAll, partsOk, ones, one, isOne, wok1, findPE, List.find?, nop, prlr, isPure, pickR, optInt, rets, rv, rvs, CN, IntKind.bits]
    refine (S_l01Zero_pf h A).step ?_
    have h0 : A ≠ 0 := fun h0 => by subst h0; rw [nb_zero] at hc; omega
    have hlt : ¬ A * 2 ^ n < bW := fun hl => by have := hu.2 hl; omega
    simp (disch := omega) only [seval, ↓SDX, isRes, slEl, bslParts, mmAll, mmR, SUX, List.replicate, List.append, pr, lr, er, binR, ev, putA, List.set, intOf, takeAg, cellsOf, wrAll, partsOk, ones, one, isOne, wok1, findPE, List.find?, nop, prlr, isPure, pickR, optInt, rets, rv, rvs, CN, hmod, hlt, IntKind.bits]
    exact WkV.eq (by first | rfl | simp) (by first | trivial | (simp only [noix, noixL, NX, and_true, true_and]; done))
  · have hlt : A * 2 ^ n < bW := hu.1 (.inl (by omega))
    simp (disch := omega) only [seval, ↓SDX, isRes, slEl, bslParts, mmAll, mmR, SUX, List.replicate, List.append, pr, lr, er, binR, ev, putA, List.set, intOf, takeAg, cellsOf, wrAll, partsOk, ones, one, isOne, wok1, findPE, List.find?, nop, prlr, isPure, pickR, optInt, rets, rv, rvs, CN, hlt, IntKind.bits]
    refine loop_st (fun s : Nat => 6 - s) (fun k => ([.rp (mg A), .raw (.int .i64 (n : Nat)), .junk, .junk, .ptr 0 0, .raw (.bool false), .ptr 1 0, .raw (.int .i64 (k : Nat))] ++ List.replicate 54 .junk))
      (fun k => [.c (mg 0), .c (mg (low A k * 2 ^ r * b32 ^ q))]) (fun k => k ≤ 6) 0 (by omega) ?_ ?_
    · rw [low_zero, Nat.zero_mul, Nat.zero_mul]; exact Wk.tmps (by simp [fits])
    intro k hk
    by_cases hk6 : k < 6 ∧ k + q < 6
    · obtain ⟨hk6, hkq⟩ := hk6
      have hd := dig_lt A k
      have hd2 := dig_lt (low A k * 2 ^ r * b32 ^ q) (k + q)
      have hr2 : dig A k * 2 ^ r < 18446744073709551616 := by
        have := Nat.mul_lt_mul'' hd (pow_r_le hr); exact this
      have ho := up_or_lt (A := A) (k := k) (q := q) (r := r)
      have hq3 : dig A k * 2 ^ r / 4294967296 < 4294967296 := by omega
      have hm3 : dig A k * 2 ^ r % 4294967296 < 4294967296 := Nat.mod_lt _ (by decide)
      have h1 := up_one (A := A) (k := k) (q := q) hr
      by_cases hkq1 : k + q + 1 < 6
      · have hz : dig (low A k * 2 ^ r * b32 ^ q + b32 ^ (k + q) * (dig A k * 2 ^ r % 4294967296)) (k + q + 1) = 0 := up_mid hr
        have h2 := up_two (A := A) (k := k) (q := q) hr
        simp (disch := omega) only [seval, ↓SDX, isRes, slEl, bslParts, mmAll, mmR, SUX, List.replicate, List.append, pr, lr, er, binR, ev, putA, List.set, intOf, takeAg, cellsOf, wrAll, partsOk, ones, one, isOne, wok1, findPE, List.find?, nop, prlr, isPure, pickR, optInt, rets, rv, rvs, CN, hq1, hr1, h1, hz, h2, IntKind.bits]

        exact ⟨k + 1, by omega, by omega, Wk.tmps (by simp [fits])⟩
      · simp (disch := omega) only [seval, ↓SDX, isRes, slEl, bslParts, mmAll, mmR, SUX, List.replicate, List.append, pr, lr, er, binR, ev, putA, List.set, intOf, takeAg, cellsOf, wrAll, partsOk, ones, one, isOne, wok1, findPE, List.find?, nop, prlr, isPure, pickR, optInt, rets, rv, rvs, CN, hq1, hr1, h1, IntKind.bits]

        refine ⟨k + 1, by omega, by omega, Wk.tmps' (by simp [fits]) ?_⟩
        rw [← up_last (by omega)]
    · rcases Nat.lt_or_ge k 6 with hk6' | hk6'
      · simp (disch := omega) only [seval, ↓SDX, isRes, slEl, bslParts, mmAll, mmR, SUX, List.replicate, List.append, pr, lr, er, binR, ev, putA, List.set, intOf, takeAg, cellsOf, wrAll, partsOk, ones, one, isOne, wok1, findPE, List.find?, nop, prlr, isPure, pickR, optInt, rets, rv, rvs, CN, hq1, IntKind.bits]
        rw [up_full hq hr (by omega)]
        exact WkV.eq (by first | rfl | simp) (by first | trivial | (simp only [noix, noixL, NX, and_true, true_and]; done))
      · simp (disch := omega) only [seval, ↓SDX, isRes, slEl, bslParts, mmAll, mmR, SUX, List.replicate, List.append, pr, lr, er, binR, ev, putA, List.set, intOf, takeAg, cellsOf, wrAll, partsOk, ones, one, isOne, wok1, findPE, List.find?, nop, prlr, isPure, pickR, optInt, rets, rv, rvs, CN, hq1, IntKind.bits]
        rw [up_full hq hr (by omega)]
        exact WkV.eq (by first | rfl | simp) (by first | trivial | (simp only [noix, noixL, NX, and_true, true_and]; done))
end
end Go.Proofs.Lite

namespace Go.Proofs.Lite
open Go
section
variable {P : Program} {F : FnsA} (h : IsA P F)
include h
theorem S_l01Up_pf (a : Int) (n : Nat) (ha : a.natAbs < bW) (hn : n ≤ 191) : Pf P F.S_l01Up [.agg (wi a), .raw (.int .i64 (n : Nat))] (.tup (if a.natAbs * 2 ^ n < bW then [.agg (wi (a * 2 ^ n)), .raw (.int .i64 0)] else [.agg (wi 0), .raw (.int .i64 3)])) := by
  refine pf_of h.S_l01Up (by simp only [noixL, noix, NX, and_true, true_and]) (by simp only [noix]; split <;> exact (by simp only [noixL, noix, NX, and_true, true_and])) ?_
  have hp := S_l01UpMag_pf h a.natAbs n ha hn
  rw [show wi a = wd (decide (a < 0)) a.natAbs from rfl]
  by_cases hl : a.natAbs * 2 ^ n < bW
  · rw [if_pos hl] at hp
    simp (disch := omega) only [seval, ↓SDX, isRes, slEl, bslParts, mmAll, mmR, SUX, List.replicate, List.append, pr, lr, er, binR, ev, putA, List.set, intOf, takeAg, cellsOf, wrAll, partsOk, ones, one, isOne, wok1, findPE, List.find?, nop, prlr, isPure, pickR, optInt, rets, rv, rvs, S_l01Up_c, hl, IntKind.bits]
    refine hp.lend (.p0 rfl (by simp only [CX]) (.v .nil)) (by simp only [clean, cleanL, CX, and_true, true_and]) ?_
    simp (disch := omega) only [seval, ↓SDX, isRes, slEl, bslParts, mmAll, mmR, SUX, List.replicate, List.append, pr, lr, er, binR, ev, putA, List.set, intOf, takeAg, cellsOf, wrAll, partsOk, ones, one, isOne, wok1, findPE, List.find?, nop, prlr, isPure, pickR, optInt, rets, rv, rvs, IntKind.bits]
    refine (S_l01Made_pf h _ _).step ?_
    simp (disch := omega) only [seval, ↓SDX, isRes, slEl, bslParts, mmAll, mmR, SUX, List.replicate, List.append, pr, lr, er, binR, ev, putA, List.set, intOf, takeAg, cellsOf, wrAll, partsOk, ones, one, isOne, wok1, findPE, List.find?, nop, prlr, isPure, pickR, optInt, rets, rv, rvs, IntKind.bits]
    rw [made_wi _ _ hl]
    refine WkV.eq ?_ (by simp only [noixL, noix, NX, and_true, true_and])
    congr 3
    by_cases h0 : a < 0
    · conv => rhs; rw [natAbs_neg' h0]
      simp [h0, Int.neg_mul]
    · conv => rhs; rw [natAbs_pos' h0]
      simp [h0]
  · rw [if_neg hl] at hp
    simp (disch := omega) only [seval, ↓SDX, isRes, slEl, bslParts, mmAll, mmR, SUX, List.replicate, List.append, pr, lr, er, binR, ev, putA, List.set, intOf, takeAg, cellsOf, wrAll, partsOk, ones, one, isOne, wok1, findPE, List.find?, nop, prlr, isPure, pickR, optInt, rets, rv, rvs, S_l01Up_c, hl, IntKind.bits]
    refine hp.lend (.p0 rfl (by simp only [CX]) (.v .nil)) (by simp only [clean, cleanL, CX, and_true, true_and]) ?_
    simp (disch := omega) only [seval, ↓SDX, isRes, slEl, bslParts, mmAll, mmR, SUX, List.replicate, List.append, pr, lr, er, binR, ev, putA, List.set, intOf, takeAg, cellsOf, wrAll, partsOk, ones, one, isOne, wok1, findPE, List.find?, nop, prlr, isPure, pickR, optInt, rets, rv, rvs, IntKind.bits]
    rw [wi_zero]
    exact WkV.eq (by first | rfl | simp) (by first | trivial | (simp only [noix, noixL, NX, and_true, true_and]; done))
theorem S_l02Up_pf (a : Int) (n : Nat) (ha : a.natAbs < bW) (hn : n < 9223372036854775808) : Pf P F.S_l02Up [.agg (wi a), .raw (.int .i64 (n : Nat))] (.tup (if n ≤ 191 ∧ a.natAbs * 2 ^ n < bW then [.agg (wi (a * 2 ^ n)), .raw (.int .i64 0)] else [.agg (wi 0), .raw (.int .i64 3)])) := by
  refine pf_of h.S_l02Up (by simp only [noixL, noix, NX, and_true, true_and]) (by simp only [noix]; split <;> exact (by simp only [noixL, noix, NX, and_true, true_and])) ?_
  by_cases hn1 : n ≤ 191
  · have hp := S_l01Up_pf h a n ha hn1
    simp (disch := omega) only [seval, ↓SDX, isRes, slEl, bslParts, mmAll, mmR, SUX, List.replicate, List.append, pr, lr, er, binR, ev, putA, List.set, intOf, takeAg, cellsOf, wrAll, partsOk, ones, one, isOne, wok1, findPE, List.find?, nop, prlr, isPure, pickR, optInt, rets, rv, rvs, S_l02Up_c, hn1, IntKind.bits]
    refine hp.step ?_
    by_cases hl : a.natAbs * 2 ^ n < bW
    · simp (disch := omega) only [seval, ↓SDX, isRes, slEl, bslParts, mmAll, mmR, SUX, List.replicate, List.append, pr, lr, er, binR, ev, putA, List.set, intOf, takeAg, cellsOf, wrAll, partsOk, ones, one, isOne, wok1, findPE, List.find?, nop, prlr, isPure, pickR, optInt, rets, rv, rvs, hl, IntKind.bits]
      exact WkV.eq (by first | rfl | simp) (by first | trivial | (simp only [noix, noixL, NX, and_true, true_and]; done))
    · simp (disch := omega) only [seval, ↓SDX, isRes, slEl, bslParts, mmAll, mmR, SUX, List.replicate, List.append, pr, lr, er, binR, ev, putA, List.set, intOf, takeAg, cellsOf, wrAll, partsOk, ones, one, isOne, wok1, findPE, List.find?, nop, prlr, isPure, pickR, optInt, rets, rv, rvs, hl, wi_zero, IntKind.bits]
      exact WkV.eq (by first | rfl | simp) (by first | trivial | (simp only [noix, noixL, NX, and_true, true_and]; done))
  · simp (disch := omega) only [seval, ↓SDX, isRes, slEl, bslParts, mmAll, mmR, SUX, List.replicate, List.append, pr, lr, er, binR, ev, putA, List.set, intOf, takeAg, cellsOf, wrAll, partsOk, ones, one, isOne, wok1, findPE, List.find?, nop, prlr, isPure, pickR, optInt, rets, rv, rvs, S_l02Up_c, hn1, wi_zero, IntKind.bits]
    exact WkV.eq (by first | rfl | simp) (by first | trivial | (simp only [noix, noixL, NX, and_true, true_and]; done))
end
end Go.Proofs.Lite

namespace Go.Proofs.Lite
open Go
section
variable {P : Program} {F : FnsA} (h : IsA P F)
include h
set_option maxRecDepth 20000 in
set_option maxHeartbeats 2000000 in
theorem S_l01DivMag_pf (A B : Nat) (hA : A < bW) (hB0 : 0 < B) (hB : B < bW) : Pf P F.S_l01DivMag [.rp (mg A), .rp (mg B)] (.tup [.agg (mg (A / B)), .agg (mg (A % B))]) := by
  refine pf_of h.S_l01DivMag (by simp only [noixL, noix, NX, and_true, true_and]) (by simp only [noixL, noix, NX, and_true, true_and]) ?_
  have hnb : nb A ≤ 192 := nb_bW.2 hA
  simp (disch := omega) only [seval, ↓SDX, isRes, slEl, bslParts, mmAll, mmR, SUX, List.replicate, List.append, pr, lr, er, binR, ev, putA, List.set, intOf, takeAg, cellsOf, wrAll, partsOk, ones, one, isOne, wok1, findPE, List.find?, nop, prlr, isPure, pickR, optInt, rets, rv, rvs, S_l01DivMag_c, IntKind.bits]
  refine (S_l01Bits_pf h A hA).step ?_
  simp (disch := omega) only [seval, ↓SDX, isRes, slEl, bslParts, mmAll, mmR, SUX, List.replicate, List.append, pr, lr, er, binR, ev, putA, List.set, intOf, takeAg, cellsOf, wrAll, partsOk, ones, one, isOne, wok1, findPE, List.find?, nop, prlr, isPure, pickR, optInt, rets, rv, rvs, IntKind.bits]
  refine loop_st (fun s : Nat => s) (fun s => ([.rp (mg A), .rp (mg B), .junk, .junk, .ptr 0 0, .ptr 1 0, .ptr 2 0, .ptr 3 0, .raw (.int .i64 ((s : Int) - 1))] ++ List.replicate 67 .junk))
    (fun s => [.c (mg 0), .c (mg 0), .c (mg (A / 2 ^ s / B * 2 ^ s)), .c (mg (A / 2 ^ s % B))]) (fun s => s ≤ nb A) (nb A) (Nat.le_refl _) ?_ ?_
  · rw [Nat.div_eq_of_lt (nb_lt A), Nat.zero_div, Nat.zero_mul, Nat.zero_mod]
    exact Wk.tmps (by simp only [fits, eq_self, and_self, Int.cast_ofNat_Int, Int.natCast_add, and_true, true_and, List.replicate, List.cons_append, List.nil_append])
  intro s hs
  by_cases h0 : s = 0
  · subst h0
    rw [Nat.pow_zero, Nat.mul_one, Nat.div_one]
    simp (disch := omega) only [seval, ↓SDX, isRes, slEl, bslParts, mmAll, mmR, SUX, List.replicate, List.append, pr, lr, er, binR, ev, putA, List.set, intOf, takeAg, cellsOf, wrAll, partsOk, ones, one, isOne, wok1, findPE, List.find?, nop, prlr, isPure, pickR, optInt, rets, rv, rvs, IntKind.bits]
    exact WkV.eq (by first | rfl | simp) (by first | trivial | (simp only [noix, noixL, NX, and_true, true_and]; done))
  obtain ⟨i, rfl⟩ : ∃ i, s = i + 1 := ⟨s - 1, by omega⟩
  have hi : ((i + 1 : Nat) : Int) - 1 = i := by omega
  rw [hi]
  have hRB : A / 2 ^ (i + 1) % B < B := Nat.mod_lt _ hB0
  have hstep := divstep (A := A) (B := B) (i := i) hB0
  simp only [] at hstep
  generalize hRR : A / 2 ^ (i + 1) % B = R at *
  generalize hQQ : A / 2 ^ (i + 1) / B = Q at *
  have hR : R < bW := Nat.lt_trans hRB hB
  have hdA := dig_lt A (i / 32)
  have hd5 := dig_lt R 5
  have hbit := dig_bit (A := A) (i := i)
  have hd : A / 2 ^ i % 2 < 2 := Nat.mod_lt _ (by decide)
  generalize hdd : A / 2 ^ i % 2 = d at *
  have htop := top_bit (d := d) hR hd
  simp (disch := omega) only [seval, ↓SDX, isRes, slEl, bslParts, mmAll, mmR, SUX, List.replicate, List.append, pr, lr, er, binR, ev, putA, List.set, intOf, takeAg, cellsOf, wrAll, partsOk, ones, one, isOne, wok1, findPE, List.find?, nop, prlr, isPure, pickR, optInt, rets, rv, rvs, CN, IntKind.bits]
  refine loop_st (fun s : Nat × Nat => s.1) (fun s => ([.rp (mg A), .rp (mg B), .junk, .junk, .ptr 0 0, .ptr 1 0, .ptr 2 0, .ptr 3 0, .raw (.int .i64 (i : Nat)), .raw (.int .u32 (dig R 5 / 2147483648 : Nat)), .raw (.int .i64 (s.1 : Nat))] ++ List.replicate 65 .junk))
    (fun s => [.c (mg 0), .c (mg 0), .c (mg (Q * 2 ^ (i + 1))), .c (mg s.2)]) (fun s => s.1 ≤ 5 ∧ ∀ j, j < 6 → dig s.2 j = if s.1 < j then dig (2 * R) j else dig R j) (5, R) ⟨by simp, fun j hj => by simp only []; rw [if_neg (by omega)]⟩ ?_ ?_
  · exact Wk.tmps (by simp only [fits, eq_self, and_self, Int.cast_ofNat_Int, Int.natCast_add, and_true, true_and, List.replicate, List.cons_append, List.nil_append])
  rintro ⟨k, X⟩ ⟨hk, hX⟩
  simp only [] at hk hX
  by_cases hk0 : k = 0
  · subst hk0
    have hx0 := hX 0 (by omega)
    rw [if_neg (by omega)] at hx0
    have hr0 := dig_lt R 0
    have ho := dbl0_lt (R := R) hd
    have hbit0 : dig A (i / 32) / 2 ^ (i % 32) < 4294967296 := Nat.lt_of_le_of_lt (Nat.div_le_self _ _) hdA
    have hm : mg (setd X 0 (dig R 0 * 2 % 4294967296 ||| d)) = mg (2 * R + d) := by
      apply mg_digs; intro j hj
      by_cases hj0 : j = 0
      · subst hj0; rw [dig_setd ho, dbl0_or hd]
      · obtain ⟨m, rfl⟩ : ∃ m, j = m + 1 := ⟨j - 1, by omega⟩
        rw [dig_setd_ne ho hj0, hX _ hj, if_pos (by omega), dbl_dig hd]
    clear hX hRR hQQ hdd hA
    by_cases ht : dig R 5 / 2147483648 = 1
    · have hX := htop.1.1 ht
      have hle : B ≤ 2 * R + d := Nat.le_trans (Nat.le_of_lt hB) hX
      obtain ⟨e1, e2⟩ := hstep.2 hle
      clear hstep htop
      simp (disch := omega) only [seval, ↓SDX, isRes, slEl, bslParts, mmAll, mmR, SUX, List.replicate, List.append, pr, lr, er, binR, ev, putA, List.set, intOf, takeAg, cellsOf, wrAll, partsOk, ones, one, isOne, wok1, findPE, List.find?, nop, prlr, isPure, pickR, optInt, rets, rv, rvs, CN, hx0, hbit, hm, ht, IntKind.bits]
      refine (S_l01Minus_pf h (2 * R + d) B hle).lend (.p0 rfl (by simp only [CX]) (.v .nil)) (by simp only [clean, cleanL, CX, and_true, true_and]) ?_
      have hq := qbit_or (Q := Q) (i := i)
      have hql := dig_lt (Q * 2 ^ (i + 1)) (i / 32)
      have hq2 := or_lt32 hql hq.2
      clear hbit hm hx0 hdA hd5 ho hbit0 hr0 hd hRB hR hX hle ht
      simp (disch := omega) only [seval, ↓SDX, isRes, slEl, bslParts, mmAll, mmR, SUX, List.replicate, List.append, pr, lr, er, binR, ev, putA, List.set, intOf, takeAg, cellsOf, wrAll, partsOk, ones, one, isOne, wok1, findPE, List.find?, nop, prlr, isPure, pickR, optInt, rets, rv, rvs, CN, Int.one_mul, Nat.one_mul, qbit_set, IntKind.bits]
      exact ⟨i, by omega, by omega, Wk.tmps' (by simp only [fits, eq_self, and_self, Int.cast_ofNat_Int, Int.natCast_add, and_true, true_and, List.replicate, List.cons_append, List.nil_append]) (by rw [e1, e2])⟩
    · have hlt : 2 * R + d < bW := by
        rcases Nat.lt_or_ge (2 * R + d) bW with h | h
        · exact h
        · exact absurd (htop.1.2 h) ht
      clear htop
      by_cases hle : B ≤ 2 * R + d
      · obtain ⟨e1, e2⟩ := hstep.2 hle
        clear hstep
        simp (disch := omega) only [seval, ↓SDX, isRes, slEl, bslParts, mmAll, mmR, SUX, List.replicate, List.append, pr, lr, er, binR, ev, putA, List.set, intOf, takeAg, cellsOf, wrAll, partsOk, ones, one, isOne, wok1, findPE, List.find?, nop, prlr, isPure, pickR, optInt, rets, rv, rvs, CN, hx0, hbit, hm, ht, IntKind.bits]
        refine (S_l01Cmp_pf h (2 * R + d) B).lend (.p0 rfl (by simp only [CX]) (.v .nil)) (by simp only [clean, cleanL, CX, and_true, true_and]) ?_
        rw [Nat.mod_eq_of_lt hlt, Nat.mod_eq_of_lt hB]
        have hc : 0 ≤ cmpI (2 * R + d) B := cmpI_ge hle
        clear hbit hm hx0 hdA hd5 ho hbit0 hr0 hd hRB hR ht hlt
        simp (disch := omega) only [seval, ↓SDX, isRes, slEl, bslParts, mmAll, mmR, SUX, List.replicate, List.append, pr, lr, er, binR, ev, putA, List.set, intOf, takeAg, cellsOf, wrAll, partsOk, ones, one, isOne, wok1, findPE, List.find?, nop, prlr, isPure, pickR, optInt, rets, rv, rvs, CN, IntKind.bits]
        refine (S_l01Minus_pf h (2 * R + d) B hle).lend (.p0 rfl (by simp only [CX]) (.v .nil)) (by simp only [clean, cleanL, CX, and_true, true_and]) ?_
        have hq := qbit_or (Q := Q) (i := i)
        have hql := dig_lt (Q * 2 ^ (i + 1)) (i / 32)
        have hq2 := or_lt32 hql hq.2
        simp (disch := omega) only [seval, ↓SDX, isRes, slEl, bslParts, mmAll, mmR, SUX, List.replicate, List.append, pr, lr, er, binR, ev, putA, List.set, intOf, takeAg, cellsOf, wrAll, partsOk, ones, one, isOne, wok1, findPE, List.find?, nop, prlr, isPure, pickR, optInt, rets, rv, rvs, CN, Int.one_mul, Nat.one_mul, qbit_set, IntKind.bits]
        exact ⟨i, by omega, by omega, Wk.tmps' (by simp only [fits, eq_self, and_self, Int.cast_ofNat_Int, Int.natCast_add, and_true, true_and, List.replicate, List.cons_append, List.nil_append]) (by rw [e1, e2])⟩
      · obtain ⟨e1, e2⟩ := hstep.1 (Nat.lt_of_not_le hle)
        clear hstep
        simp (disch := omega) only [seval, ↓SDX, isRes, slEl, bslParts, mmAll, mmR, SUX, List.replicate, List.append, pr, lr, er, binR, ev, putA, List.set, intOf, takeAg, cellsOf, wrAll, partsOk, ones, one, isOne, wok1, findPE, List.find?, nop, prlr, isPure, pickR, optInt, rets, rv, rvs, CN, hx0, hbit, hm, ht, IntKind.bits]
        refine (S_l01Cmp_pf h (2 * R + d) B).lend (.p0 rfl (by simp only [CX]) (.v .nil)) (by simp only [clean, cleanL, CX, and_true, true_and]) ?_
        rw [Nat.mod_eq_of_lt hlt, Nat.mod_eq_of_lt hB]
        have hc : cmpI (2 * R + d) B < 0 := cmpI_lt (Nat.lt_of_not_le hle)
        clear hbit hm hx0 hdA hd5 ho hbit0 hr0 hd hRB hR ht hlt
        simp (disch := omega) only [seval, ↓SDX, isRes, slEl, bslParts, mmAll, mmR, SUX, List.replicate, List.append, pr, lr, er, binR, ev, putA, List.set, intOf, takeAg, cellsOf, wrAll, partsOk, ones, one, isOne, wok1, findPE, List.find?, nop, prlr, isPure, pickR, optInt, rets, rv, rvs, CN, IntKind.bits]
        refine ⟨i, by omega, by omega, Wk.tmps' (by simp only [fits, eq_self, and_self, Int.cast_ofNat_Int, Int.natCast_add, and_true, true_and, List.replicate, List.cons_append, List.nil_append]) ?_⟩
        rw [e1, e2, pow_shift]
  · obtain ⟨m, rfl⟩ : ∃ m, k = m + 1 := ⟨k - 1, by omega⟩
    have hx1 := hX (m + 1) (by omega)
    have hx2 := hX m (by omega)
    rw [if_neg (by omega)] at hx1 hx2
    have hr1 := dig_lt R (m + 1)
    have hr2 := dig_lt R m
    have ho := dbl_lt (R := R) (k := m)
    have hsub : ((m + 1 : Nat) : Int) - 1 = m := by omega
    simp (disch := omega) only [seval, ↓SDX, isRes, slEl, bslParts, mmAll, mmR, SUX, List.replicate, List.append, pr, lr, er, binR, ev, putA, List.set, intOf, takeAg, cellsOf, wrAll, partsOk, ones, one, isOne, wok1, findPE, List.find?, nop, prlr, isPure, pickR, optInt, rets, rv, rvs, CN, hx1, hx2, hsub, IntKind.bits]
    refine ⟨(m, setd X (m + 1) (dig R (m + 1) * 2 % 4294967296 ||| dig R m / 2147483648)), by simp only []; omega, ⟨by simp only []; omega, fun j hj => ?_⟩, Wk.tmps (by simp only [fits, eq_self, and_self, Int.cast_ofNat_Int, Int.natCast_add, and_true, true_and, List.replicate, List.cons_append, List.nil_append])⟩
    simp only []
    by_cases hjm : j = m + 1
    · subst hjm; rw [dig_setd ho, if_pos (by omega), dbl_or]
    · rw [dig_setd_ne ho hjm, hX _ hj]
      by_cases hlt : m + 1 < j
      · rw [if_pos hlt, if_pos (by omega)]
      · rw [if_neg hlt, if_neg (by omega)]
end
end Go.Proofs.Lite

namespace Go.Proofs.Lite
open Go
section
variable {P : Program} {F : FnsA} (h : IsA P F)
include h
set_option maxRecDepth 20000 in
theorem S_l01Div_pf (a b : Int) (ha : a.natAbs < bW) (hb0 : b ≠ 0) (hb : b.natAbs < bW) : Pf P F.S_l01Div [.agg (wi a), .agg (wi b)] (.tup [.agg (wi (a.fdiv b)), .agg (wi (a.fmod b))]) := by
  refine pf_of h.S_l01Div (by simp only [noixL, noix, NX, and_true, true_and]) (by simp only [noixL, noix, NX, and_true, true_and]) ?_
  have hB : 0 < b.natAbs := by omega
  have hp := S_l01DivMag_pf h a.natAbs b.natAbs ha hB hb
  have hf := fdiv_parts a b hb0
  rw [hf.1, hf.2]
  have hq : a.natAbs / b.natAbs < bW := Nat.lt_of_le_of_lt (Nat.div_le_self _ _) ha
  have hr : a.natAbs % b.natAbs < b.natAbs := Nat.mod_lt _ hB
  have hr2 : a.natAbs % b.natAbs < bW := Nat.lt_trans hr hb
  have hrm : a.natAbs % b.natAbs % bW = a.natAbs % b.natAbs := Nat.mod_eq_of_lt hr2
  rw [show wi a = wd (decide (a < 0)) a.natAbs from rfl, show wi b = wd (decide (b < 0)) b.natAbs from rfl]
  clear hf
  generalize decide (a < 0) = na at *
  rw [show (if b < 0 then -((rM (na != decide (b < 0)) a.natAbs b.natAbs : Nat) : Int) else ((rM (na != decide (b < 0)) a.natAbs b.natAbs : Nat) : Int)) = (if decide (b < 0) = true then -((rM (na != decide (b < 0)) a.natAbs b.natAbs : Nat) : Int) else ((rM (na != decide (b < 0)) a.natAbs b.natAbs : Nat) : Int)) from by simp]
  generalize decide (b < 0) = nb' at *
  generalize a.natAbs = A at *
  generalize b.natAbs = B at *
  simp (disch := omega) only [seval, ↓SDX, isRes, slEl, bslParts, mmAll, mmR, SUX, List.replicate, List.append, pr, lr, er, binR, ev, putA, List.set, intOf, takeAg, cellsOf, wrAll, partsOk, ones, one, isOne, wok1, findPE, List.find?, nop, prlr, isPure, pickR, optInt, rets, rv, rvs, S_l01Div_c, IntKind.bits]
  refine hp.lend (.p0 rfl (by simp only [CX]) (.p0 rfl (by simp only [CX]) .nil)) (by simp only [clean, cleanL, CX, and_true, true_and]) ?_
  have fin : ∀ (q r : Nat), q < bW → r < bW → qM (na != nb') A B = q → rM (na != nb') A B = r →
      (AV.tup [.agg (wd ((na != nb') && !decide (q % bW = 0)) q), .agg (wd (nb' && !decide (r % bW = 0)) r)]) =
      AV.tup [.agg (wi (if (na != nb') = true then -((qM (na != nb') A B : Nat) : Int) else ((qM (na != nb') A B : Nat) : Int))), .agg (wi (if nb' = true then -((rM (na != nb') A B : Nat) : Int) else ((rM (na != nb') A B : Nat) : Int)))] := by
    intro q r h1 h2 h3 h4
    rw [made_wi _ _ h1, made_wi _ _ h2, h3, h4]
  by_cases hn : (na != nb') = true
  · have hn2 : na = !nb' := by cases na <;> cases nb' <;> first | rfl | (exact absurd hn (by decide))
    subst hn2
    by_cases hr0 : A % B = 0
    · simp (disch := omega) only [seval, ↓SDX, isRes, slEl, bslParts, mmAll, mmR, SUX, List.replicate, List.append, pr, lr, er, binR, ev, putA, List.set, intOf, takeAg, cellsOf, wrAll, partsOk, ones, one, isOne, wok1, findPE, List.find?, nop, prlr, isPure, pickR, optInt, rets, rv, rvs, IntKind.bits]
      have e : ((!nb') == nb') = false := by cases nb' <;> rfl
      simp (disch := omega) only [seval, ↓SDX, isRes, slEl, bslParts, mmAll, mmR, SUX, List.replicate, List.append, pr, lr, er, binR, ev, putA, List.set, intOf, takeAg, cellsOf, wrAll, partsOk, ones, one, isOne, wok1, findPE, List.find?, nop, prlr, isPure, pickR, optInt, rets, rv, rvs, e, IntKind.bits]
      refine (S_l01Zero_pf h (A % B)).lend (.p0 rfl (by simp only [CX]) .nil) (by simp only [clean, cleanL, CX, and_true, true_and]) ?_
      simp (disch := omega) only [seval, ↓SDX, isRes, slEl, bslParts, mmAll, mmR, SUX, List.replicate, List.append, pr, lr, er, binR, ev, putA, List.set, intOf, takeAg, cellsOf, wrAll, partsOk, ones, one, isOne, wok1, findPE, List.find?, nop, prlr, isPure, pickR, optInt, rets, rv, rvs, hrm, hr0, e, IntKind.bits]
      refine (S_l01Made_pf h _ _).step ?_
      simp (disch := omega) only [seval, ↓SDX, isRes, slEl, bslParts, mmAll, mmR, SUX, List.replicate, List.append, pr, lr, er, binR, ev, putA, List.set, intOf, takeAg, cellsOf, wrAll, partsOk, ones, one, isOne, wok1, findPE, List.find?, nop, prlr, isPure, pickR, optInt, rets, rv, rvs, IntKind.bits]
      refine (S_l01Made_pf h _ _).step ?_
      simp (disch := omega) only [seval, ↓SDX, isRes, slEl, bslParts, mmAll, mmR, SUX, List.replicate, List.append, pr, lr, er, binR, ev, putA, List.set, intOf, takeAg, cellsOf, wrAll, partsOk, ones, one, isOne, wok1, findPE, List.find?, nop, prlr, isPure, pickR, optInt, rets, rv, rvs, IntKind.bits]
      rw [← fin (A / B) 0 hq (by decide) (by unfold qM; rw [if_neg (by simp [hr0])]) (by unfold rM; rw [if_neg (by simp [hr0])]; exact hr0)]
      rw [hn]
      exact WkV.eq (by first | rfl | simp) (by first | trivial | (simp only [noix, noixL, NX, and_true, true_and]; done))
    · have h1 : A / B + 1 < bW := by
        rcases Nat.lt_or_ge B 2 with h1 | h1
        · have : B = 1 := by omega
          subst this; rw [Nat.mod_one] at hr0; exact absurd rfl hr0
        · have h2 := Nat.div_le_div_left (a := A) h1 (by decide)
          have h3 : bW / 2 + 1 < bW := by decide
          have h4 : A / 2 ≤ bW / 2 := Nat.div_le_div_right (Nat.le_of_lt ha)
          omega
      have h2 : B - A % B < bW := Nat.lt_of_le_of_lt (Nat.sub_le _ _) hb
      simp (disch := omega) only [seval, ↓SDX, isRes, slEl, bslParts, mmAll, mmR, SUX, List.replicate, List.append, pr, lr, er, binR, ev, putA, List.set, intOf, takeAg, cellsOf, wrAll, partsOk, ones, one, isOne, wok1, findPE, List.find?, nop, prlr, isPure, pickR, optInt, rets, rv, rvs, IntKind.bits]
      have e : ((!nb') == nb') = false := by cases nb' <;> rfl
      simp (disch := omega) only [seval, ↓SDX, isRes, slEl, bslParts, mmAll, mmR, SUX, List.replicate, List.append, pr, lr, er, binR, ev, putA, List.set, intOf, takeAg, cellsOf, wrAll, partsOk, ones, one, isOne, wok1, findPE, List.find?, nop, prlr, isPure, pickR, optInt, rets, rv, rvs, e, IntKind.bits]
      refine (S_l01Zero_pf h (A % B)).lend (.p0 rfl (by simp only [CX]) .nil) (by simp only [clean, cleanL, CX, and_true, true_and]) ?_
      simp (disch := omega) only [seval, ↓SDX, isRes, slEl, bslParts, mmAll, mmR, SUX, List.replicate, List.append, pr, lr, er, binR, ev, putA, List.set, intOf, takeAg, cellsOf, wrAll, partsOk, ones, one, isOne, wok1, findPE, List.find?, nop, prlr, isPure, pickR, optInt, rets, rv, rvs, hrm, hr0, e, setd_00, IntKind.bits]
      refine (S_l01Plus_pf h (A / B) 1).lend (.p0 rfl (by simp only [CX]) (.p0 rfl (by simp only [CX]) .nil)) (by simp only [clean, cleanL, CX, and_true, true_and]) ?_
      simp (disch := omega) only [seval, ↓SDX, isRes, slEl, bslParts, mmAll, mmR, SUX, List.replicate, List.append, pr, lr, er, binR, ev, putA, List.set, intOf, takeAg, cellsOf, wrAll, partsOk, ones, one, isOne, wok1, findPE, List.find?, nop, prlr, isPure, pickR, optInt, rets, rv, rvs, e, IntKind.bits]
      refine (S_l01Minus_pf h B (A % B) (Nat.le_of_lt hr)).lend (.p0 rfl (by simp only [CX]) (.p0 rfl (by simp only [CX]) .nil)) (by simp only [clean, cleanL, CX, and_true, true_and]) ?_
      simp (disch := omega) only [seval, ↓SDX, isRes, slEl, bslParts, mmAll, mmR, SUX, List.replicate, List.append, pr, lr, er, binR, ev, putA, List.set, intOf, takeAg, cellsOf, wrAll, partsOk, ones, one, isOne, wok1, findPE, List.find?, nop, prlr, isPure, pickR, optInt, rets, rv, rvs, e, IntKind.bits]
      refine (S_l01Made_pf h _ _).step ?_
      simp (disch := omega) only [seval, ↓SDX, isRes, slEl, bslParts, mmAll, mmR, SUX, List.replicate, List.append, pr, lr, er, binR, ev, putA, List.set, intOf, takeAg, cellsOf, wrAll, partsOk, ones, one, isOne, wok1, findPE, List.find?, nop, prlr, isPure, pickR, optInt, rets, rv, rvs, IntKind.bits]
      refine (S_l01Made_pf h _ _).step ?_
      simp (disch := omega) only [seval, ↓SDX, isRes, slEl, bslParts, mmAll, mmR, SUX, List.replicate, List.append, pr, lr, er, binR, ev, putA, List.set, intOf, takeAg, cellsOf, wrAll, partsOk, ones, one, isOne, wok1, findPE, List.find?, nop, prlr, isPure, pickR, optInt, rets, rv, rvs, IntKind.bits]
      rw [← fin (A / B + 1) (B - A % B) h1 h2 (by unfold qM; rw [if_pos ⟨hn, hr0⟩]) (by unfold rM; rw [if_pos ⟨hn, hr0⟩])]
      rw [hn]
      exact WkV.eq (by first | rfl | simp) (by first | trivial | (simp only [noix, noixL, NX, and_true, true_and]; done))
  · have hn2 : na = nb' := by cases na <;> cases nb' <;> first | rfl | (exact absurd rfl hn)
    subst hn2
    have e : (na == na) = true := by cases na <;> rfl
    simp (disch := omega) only [seval, ↓SDX, isRes, slEl, bslParts, mmAll, mmR, SUX, List.replicate, List.append, pr, lr, er, binR, ev, putA, List.set, intOf, takeAg, cellsOf, wrAll, partsOk, ones, one, isOne, wok1, findPE, List.find?, nop, prlr, isPure, pickR, optInt, rets, rv, rvs, e, IntKind.bits]
    refine (S_l01Made_pf h _ _).step ?_
    simp (disch := omega) only [seval, ↓SDX, isRes, slEl, bslParts, mmAll, mmR, SUX, List.replicate, List.append, pr, lr, er, binR, ev, putA, List.set, intOf, takeAg, cellsOf, wrAll, partsOk, ones, one, isOne, wok1, findPE, List.find?, nop, prlr, isPure, pickR, optInt, rets, rv, rvs, IntKind.bits]
    refine (S_l01Made_pf h _ _).step ?_
    simp (disch := omega) only [seval, ↓SDX, isRes, slEl, bslParts, mmAll, mmR, SUX, List.replicate, List.append, pr, lr, er, binR, ev, putA, List.set, intOf, takeAg, cellsOf, wrAll, partsOk, ones, one, isOne, wok1, findPE, List.find?, nop, prlr, isPure, pickR, optInt, rets, rv, rvs, IntKind.bits]
    rw [← fin (A / B) (A % B) hq hr2 (by unfold qM; rw [if_neg (by simp)]) (by unfold rM; rw [if_neg (by simp)])]
    simp only [bne_self_eq_false, Bool.false_and]
    exact WkV.eq (by first | rfl | simp) (by first | trivial | (simp only [noix, noixL, NX, and_true, true_and]; done))
end
end Go.Proofs.Lite

namespace Go.Proofs.Lite
open Go
theorem ok_wi {a : Int} (ha : a.natAbs < bW) : (!decide (a < 0) || !decide (a.natAbs % bW = 0)) = true := by
  rw [Nat.mod_eq_of_lt ha]
  by_cases h : a < 0
  · have : a.natAbs ≠ 0 := by omega
    simp [h, this]
  · simp [h]
section
variable {P : Program} {F : FnsA} (h : IsA P F)
include h
theorem S_l01Ok_wi (a : Int) (ha : a.natAbs < bW) : Pf P F.S_l01Ok [.rp (wi a)] (.raw (.bool true)) := by
  have := S_l01Ok_pf h (decide (a < 0)) a.natAbs
  rw [ok_wi ha] at this; exact this
theorem S_l01Sign_wi (a : Int) (ha : a.natAbs < bW) : Pf P F.S_l01Sign [.rp (wi a)] (.raw (.int .i64 a.sign)) := by
  have := S_l01Sign_pf h (decide (a < 0)) a.natAbs
  rw [Nat.mod_eq_of_lt ha, show (if decide (a < 0) = true then (-1 : Int) else if a.natAbs = 0 then 0 else 1) = a.sign from by
    by_cases h1 : a < 0
    · simp [h1, Int.sign_eq_neg_one_of_neg h1]
    · by_cases h2 : a = 0
      · subst h2; simp
      · rw [Int.sign_eq_one_of_pos (by omega)]; simp [h1, h2]] at this
  exact this
set_option maxRecDepth 20000 in
theorem S_CommonWide_pf (a b : Int) (ha : a.natAbs < bW) (hb : b.natAbs < bW) : Pf P F.S_CommonWide [.agg (wi a), .agg (wi b)] (.tup [.agg (wi (Nat.gcd a.natAbs b.natAbs : Nat)), .raw (.int .i64 0)]) := by
  refine pf_of h.S_CommonWide (by simp only [noixL, noix, NX, and_true, true_and]) (by simp only [noixL, noix, NX, and_true, true_and]) ?_
  simp (disch := omega) only [seval, ↓SDX, isRes, slEl, bslParts, mmAll, mmR, SUX, List.replicate, List.append, pr, lr, er, binR, ev, putA, List.set, intOf, takeAg, cellsOf, wrAll, partsOk, ones, one, isOne, wok1, findPE, List.find?, nop, prlr, isPure, pickR, optInt, rets, rv, rvs, S_CommonWide_c, IntKind.bits]
  refine (S_l01Ok_wi h a ha).lend (.p0 rfl (by simp only [CX]) .nil) (by simp only [clean, cleanL, CX, and_true, true_and]) ?_
  simp (disch := omega) only [seval, ↓SDX, isRes, slEl, bslParts, mmAll, mmR, SUX, List.replicate, List.append, pr, lr, er, binR, ev, putA, List.set, intOf, takeAg, cellsOf, wrAll, partsOk, ones, one, isOne, wok1, findPE, List.find?, nop, prlr, isPure, pickR, optInt, rets, rv, rvs, IntKind.bits]
  refine (S_l01Ok_wi h b hb).lend (.p0 rfl (by simp only [CX]) .nil) (by simp only [clean, cleanL, CX, and_true, true_and]) ?_
  simp (disch := omega) only [seval, ↓SDX, isRes, slEl, bslParts, mmAll, mmR, SUX, List.replicate, List.append, pr, lr, er, binR, ev, putA, List.set, intOf, takeAg, cellsOf, wrAll, partsOk, ones, one, isOne, wok1, findPE, List.find?, nop, prlr, isPure, pickR, optInt, rets, rv, rvs, IntKind.bits]
  refine loop_st (fun s : Nat × Nat => s.2) (fun _ => ([.junk, .junk, .junk, .junk, .ptr 2 0, .junk, .ptr 3 0, .ptr 4 0] ++ List.replicate 23 .junk))
    (fun s => [.c (wi a), .c (wi b), .c (wd false 0), .c (mg s.1), .c (mg s.2)]) (fun s => s.1 < bW ∧ s.2 < bW ∧ Nat.gcd s.1 s.2 = Nat.gcd a.natAbs b.natAbs) (a.natAbs, b.natAbs) ⟨ha, hb, rfl⟩ (Wk.tmps (by simp only [fits, eq_self, and_self, Int.cast_ofNat_Int, Int.natCast_add, and_true, true_and, List.replicate, List.cons_append, List.nil_append])) ?_
  rintro ⟨x, y⟩ ⟨hx, hy, hg⟩
  simp only [] at hx hy hg
  have hym : y % bW = y := Nat.mod_eq_of_lt hy
  by_cases h0 : y = 0
  · simp (disch := omega) only [seval, ↓SDX, isRes, slEl, bslParts, mmAll, mmR, SUX, List.replicate, List.append, pr, lr, er, binR, ev, putA, List.set, intOf, takeAg, cellsOf, wrAll, partsOk, ones, one, isOne, wok1, findPE, List.find?, nop, prlr, isPure, pickR, optInt, rets, rv, rvs, IntKind.bits]
    refine (S_l01Zero_pf h y).lend (.p0 rfl (by simp only [CX]) .nil) (by simp only [clean, cleanL, CX, and_true, true_and]) ?_
    simp (disch := omega) only [seval, ↓SDX, isRes, slEl, bslParts, mmAll, mmR, SUX, List.replicate, List.append, pr, lr, er, binR, ev, putA, List.set, intOf, takeAg, cellsOf, wrAll, partsOk, ones, one, isOne, wok1, findPE, List.find?, nop, prlr, isPure, pickR, optInt, rets, rv, rvs, hym, IntKind.bits]
    refine (S_l01Made_pf h _ _).step ?_
    simp (disch := omega) only [seval, ↓SDX, isRes, slEl, bslParts, mmAll, mmR, SUX, List.replicate, List.append, pr, lr, er, binR, ev, putA, List.set, intOf, takeAg, cellsOf, wrAll, partsOk, ones, one, isOne, wok1, findPE, List.find?, nop, prlr, isPure, pickR, optInt, rets, rv, rvs, IntKind.bits]
    subst h0
    rw [Nat.gcd_zero_right] at hg
    rw [wd_plus, hg]
    exact WkV.eq (by first | rfl | simp) (by first | trivial | (simp only [noix, noixL, NX, and_true, true_and]; done))
  · simp (disch := omega) only [seval, ↓SDX, isRes, slEl, bslParts, mmAll, mmR, SUX, List.replicate, List.append, pr, lr, er, binR, ev, putA, List.set, intOf, takeAg, cellsOf, wrAll, partsOk, ones, one, isOne, wok1, findPE, List.find?, nop, prlr, isPure, pickR, optInt, rets, rv, rvs, IntKind.bits]
    refine (S_l01Zero_pf h y).lend (.p0 rfl (by simp only [CX]) .nil) (by simp only [clean, cleanL, CX, and_true, true_and]) ?_
    simp (disch := omega) only [seval, ↓SDX, isRes, slEl, bslParts, mmAll, mmR, SUX, List.replicate, List.append, pr, lr, er, binR, ev, putA, List.set, intOf, takeAg, cellsOf, wrAll, partsOk, ones, one, isOne, wok1, findPE, List.find?, nop, prlr, isPure, pickR, optInt, rets, rv, rvs, hym, IntKind.bits]
    refine (S_l01DivMag_pf h x y hx (by omega) hy).lend (.p0 rfl (by simp only [CX]) (.p0 rfl (by simp only [CX]) .nil)) (by simp only [clean, cleanL, CX, and_true, true_and]) ?_
    simp (disch := omega) only [seval, ↓SDX, isRes, slEl, bslParts, mmAll, mmR, SUX, List.replicate, List.append, pr, lr, er, binR, ev, putA, List.set, intOf, takeAg, cellsOf, wrAll, partsOk, ones, one, isOne, wok1, findPE, List.find?, nop, prlr, isPure, pickR, optInt, rets, rv, rvs, IntKind.bits]
    have hlt : x % y < y := Nat.mod_lt _ (by omega)
    refine ⟨(y, x % y), hlt, ⟨hy, Nat.lt_trans hlt hy, ?_⟩, Wk.shed (n := 5) (by decide) (by simp only [fits, eq_self, and_self, Int.cast_ofNat_Int, Int.natCast_add, and_true, true_and, List.replicate, List.cons_append, List.nil_append]) (by simp only [cutL, cutAV, cutSg, CU, List.replicate, List.cons_append, List.nil_append, Nat.reduceLT, if_true, if_false, List.map_cons, List.map_nil, List.take_succ_cons, List.take_zero]) (by simp only [cutH, cutL, cutAV, cutSg, CU, List.replicate, List.cons_append, List.nil_append, Nat.reduceLT, if_true, if_false, List.map_cons, List.map_nil, List.take_succ_cons, List.take_zero])⟩
    simp only []
    rw [← hg, Nat.gcd_comm x y, Nat.gcd_rec y x, Nat.gcd_comm]
end
end Go.Proofs.Lite

namespace Go.Proofs.Lite
open Go
section
variable {P : Program} {F : FnsA} (h : IsA P F)
include h
theorem I_wide_pf (n : Bool) (A : Nat) : Pf P F.I_wide [.raw (.bool n), .agg (mg A)] (.agg (wd (n && !decide (A % bW = 0)) A)) := by
  refine pf_of h.I_wide (by simp only [noixL, noix, NX, and_true, true_and]) (by simp only [noixL, noix, NX, and_true, true_and]) ?_
  cases n
  · simp (disch := omega) only [seval, ↓SDX, isRes, slEl, bslParts, mmAll, mmR, SUX, List.replicate, List.append, pr, lr, er, binR, ev, putA, List.set, intOf, takeAg, cellsOf, wrAll, partsOk, ones, one, isOne, wok1, findPE, List.find?, nop, prlr, isPure, pickR, optInt, rets, rv, rvs, I_wide_c, IntKind.bits]
    exact WkV.eq (by first | rfl | simp) (by first | trivial | (simp only [noix, noixL, NX, and_true, true_and]; done))
  · simp (disch := omega) only [seval, ↓SDX, isRes, slEl, bslParts, mmAll, mmR, SUX, List.replicate, List.append, pr, lr, er, binR, ev, putA, List.set, intOf, takeAg, cellsOf, wrAll, partsOk, ones, one, isOne, wok1, findPE, List.find?, nop, prlr, isPure, pickR, optInt, rets, rv, rvs, I_wide_c, IntKind.bits]
    exact WkV.eq (by first | rfl | simp) (by first | trivial | (simp only [noix, noixL, NX, and_true, true_and]; done))
theorem I_within_pf (n l u : Int) : Pf P F.I_within [.raw (.int .i64 n), .raw (.int .i64 l), .raw (.int .i64 u)] (.raw (.bool (decide (l ≤ n) && decide (n ≤ u)))) := by
  refine pf_of h.I_within (by simp only [noixL, noix, NX, and_true, true_and]) trivial ?_
  by_cases h1 : l ≤ n
  · simp only [seval, isRes, slEl, bslParts, mmAll, mmR, ↓SDY, SUY, List.replicate, List.append, pr, lr, er, binR, ev, putA, List.set, intOf, takeAg, cellsOf, wrAll, partsOk, ones, one, isOne, wok1, findPE, List.find?, nop, prlr, isPure, pickR, optInt, rets, rv, rvs, I_within_c, h1]
    exact WkV.eq (by first | rfl | simp) (by first | trivial | (simp only [noix, noixL, NX, and_true, true_and]; done))
  · simp only [seval, isRes, slEl, bslParts, mmAll, mmR, ↓SDY, SUY, List.replicate, List.append, pr, lr, er, binR, ev, putA, List.set, intOf, takeAg, cellsOf, wrAll, partsOk, ones, one, isOne, wok1, findPE, List.find?, nop, prlr, isPure, pickR, optInt, rets, rv, rvs, I_within_c, h1]
    exact WkV.eq (by first | rfl | simp) (by first | trivial | (simp only [noix, noixL, NX, and_true, true_and]; done))
theorem I_WideOf_pf (n : Int) (h1 : -9223372036854775808 ≤ n) (h2 : n < 9223372036854775808) : Pf P F.I_WideOf [.raw (.int .i64 n)] (.agg (wi n)) := by
  refine pf_of h.I_WideOf (by simp only [noixL, noix, NX, and_true, true_and]) (noix_wi _) ?_
  by_cases hn : n < 0
  · simp (disch := omega) only [seval, ↓SDX, isRes, slEl, bslParts, mmAll, mmR, SUX, List.replicate, List.append, pr, lr, er, binR, ev, putA, List.set, intOf, takeAg, cellsOf, wrAll, partsOk, ones, one, isOne, wok1, findPE, List.find?, nop, prlr, isPure, pickR, optInt, rets, rv, rvs, I_WideOf_c, u32_wrap, u64_wrap, IntKind.bits]
    refine (I_wide_pf h _ _).step ?_
    have e : setd (setd 0 0 ((0 - n % 18446744073709551616) % 18446744073709551616 % 4294967296).toNat) 1 ((0 - n % 18446744073709551616) % 18446744073709551616 / 4294967296).toNat = n.natAbs := by
      rw [setd_two (by show _ < 4294967296; omega)]; show _ + 4294967296 * _ = _; omega
    simp (disch := omega) only [seval, ↓SDX, isRes, slEl, bslParts, mmAll, mmR, SUX, List.replicate, List.append, pr, lr, er, binR, ev, putA, List.set, intOf, takeAg, cellsOf, wrAll, partsOk, ones, one, isOne, wok1, findPE, List.find?, nop, prlr, isPure, pickR, optInt, rets, rv, rvs, e, IntKind.bits]
    rw [wd_minus _ (by unfold bW; omega)]
    exact WkV.eq (by rw [show (-(n.natAbs : Int)) = n from by omega]) (noix_wi _)
  · simp (disch := omega) only [seval, ↓SDX, isRes, slEl, bslParts, mmAll, mmR, SUX, List.replicate, List.append, pr, lr, er, binR, ev, putA, List.set, intOf, takeAg, cellsOf, wrAll, partsOk, ones, one, isOne, wok1, findPE, List.find?, nop, prlr, isPure, pickR, optInt, rets, rv, rvs, I_WideOf_c, u32_wrap, u64_wrap, IntKind.bits]
    refine (I_wide_pf h _ _).step ?_
    have e : setd (setd 0 0 (n % 4294967296).toNat) 1 (n / 4294967296).toNat = n.natAbs := by
      rw [setd_two (by show _ < 4294967296; omega)]; show _ + 4294967296 * _ = _; omega
    simp (disch := omega) only [seval, ↓SDX, isRes, slEl, bslParts, mmAll, mmR, SUX, List.replicate, List.append, pr, lr, er, binR, ev, putA, List.set, intOf, takeAg, cellsOf, wrAll, partsOk, ones, one, isOne, wok1, findPE, List.find?, nop, prlr, isPure, pickR, optInt, rets, rv, rvs, e, IntKind.bits]
    rw [wd_plus]
    exact WkV.eq (by rw [show ((n.natAbs : Nat) : Int) = n from by omega]) (noix_wi _)
set_option maxRecDepth 20000 in
theorem I_size_compare_pf (A B : Nat) : Pf P F.I_size_compare [.agg (mg A), .agg (mg B)] (.raw (.int .i64 (cmpI (A % bW) (B % bW)))) := by
  refine pf_of h.I_size_compare (by simp only [noixL, noix, NX, and_true, true_and]) trivial ?_
  simp (disch := omega) only [seval, ↓SDX, isRes, slEl, bslParts, mmAll, mmR, SUX, List.replicate, List.append, pr, lr, er, binR, ev, putA, List.set, intOf, takeAg, cellsOf, wrAll, partsOk, ones, one, isOne, wok1, findPE, List.find?, nop, prlr, isPure, pickR, optInt, rets, rv, rvs, I_size_compare_c, IntKind.bits]
  refine loop_st (fun s : Nat => s) (fun s => ([.junk, .junk, .ptr 0 0, .ptr 1 0, .raw (.int .i64 0), .raw (.int .i64 ((s : Int) - 1))] ++ List.replicate 18 .junk)) (fun _ => [.c (mg A), .c (mg B)])
    (fun s => s ≤ 6 ∧ ∀ j, s ≤ j → j < 6 → dig A j = dig B j) 6 ⟨by omega, fun j h1 h2 => by omega⟩ (Wk.tmps (by simp [fits])) ?_
  rintro s ⟨hs, hz⟩
  by_cases h0 : s = 0
  · subst h0
    simp (disch := omega) only [seval, ↓SDX, isRes, slEl, bslParts, mmAll, mmR, SUX, List.replicate, List.append, pr, lr, er, binR, ev, putA, List.set, intOf, takeAg, cellsOf, wrAll, partsOk, ones, one, isOne, wok1, findPE, List.find?, nop, prlr, isPure, pickR, optInt, rets, rv, rvs, IntKind.bits]
    rw [dig_cmp_eq (fun j hj => hz j (by omega) hj), cmpI_eq]
    exact WkV.eq (by first | rfl | simp) (by first | trivial | (simp only [noix, noixL, NX, and_true, true_and]; done))
  obtain ⟨k, rfl⟩ : ∃ k, s = k + 1 := ⟨s - 1, by omega⟩
  have hk : ((k + 1 : Nat) : Int) - 1 = k := by omega
  rw [hk]
  rcases Nat.lt_trichotomy (dig A k) (dig B k) with hlt | heq | hgt
  · rw [cmpI_lt' (dig_cmp (by omega) (fun j h1 h2 => hz j (by omega) h2) hlt)]
    clear hz
    simp (disch := omega) only [seval, ↓SDX, isRes, slEl, bslParts, mmAll, mmR, SUX, List.replicate, List.append, pr, lr, er, binR, ev, putA, List.set, intOf, takeAg, cellsOf, wrAll, partsOk, ones, one, isOne, wok1, findPE, List.find?, nop, prlr, isPure, pickR, optInt, rets, rv, rvs, IntKind.bits]
    exact WkV.eq (by first | rfl | simp) (by first | trivial | (simp only [noix, noixL, NX, and_true, true_and]; done))
  · have hz2 : ∀ j, k ≤ j → j < 6 → dig A j = dig B j := fun j h1 h2 => by
      rcases Nat.lt_or_eq_of_le h1 with h1 | h1
      · exact hz j (by omega) h2
      · rw [← h1]; exact heq
    clear hz
    simp (disch := omega) only [seval, ↓SDX, isRes, slEl, bslParts, mmAll, mmR, SUX, List.replicate, List.append, pr, lr, er, binR, ev, putA, List.set, intOf, takeAg, cellsOf, wrAll, partsOk, ones, one, isOne, wok1, findPE, List.find?, nop, prlr, isPure, pickR, optInt, rets, rv, rvs, IntKind.bits]
    exact ⟨k, by omega, ⟨by omega, hz2⟩, Wk.tmps (by simp only [fits, eq_self, and_self, Int.cast_ofNat_Int, Int.natCast_add, and_true, true_and, List.replicate, List.cons_append, List.nil_append])⟩
  · rw [cmpI_gt' (dig_cmp (by omega) (fun j h1 h2 => (hz j (by omega) h2).symm) hgt)]
    clear hz
    simp (disch := omega) only [seval, ↓SDX, isRes, slEl, bslParts, mmAll, mmR, SUX, List.replicate, List.append, pr, lr, er, binR, ev, putA, List.set, intOf, takeAg, cellsOf, wrAll, partsOk, ones, one, isOne, wok1, findPE, List.find?, nop, prlr, isPure, pickR, optInt, rets, rv, rvs, IntKind.bits]
    exact WkV.eq (by first | rfl | simp) (by first | trivial | (simp only [noix, noixL, NX, and_true, true_and]; done))
end
end Go.Proofs.Lite

namespace Go.Proofs.Lite
open Go
section
variable {P : Program} {F : FnsA} (h : IsA P F)
include h
set_option maxRecDepth 20000 in
theorem I_size_plus_pf (A B : Nat) : Pf P F.I_size_plus [.agg (mg A), .agg (mg B)] (.tup [.agg (mg (A + B)), .raw (.bool (!decide (A % bW + B % bW < bW)))]) := by
  refine pf_of h.I_size_plus (by simp only [noixL, noix, NX, and_true, true_and]) (by simp only [noixL, noix, NX, and_true, true_and]) ?_
  simp (disch := omega) only [seval, ↓SDX, isRes, slEl, bslParts, mmAll, mmR, SUX, List.replicate, List.append, pr, lr, er, binR, ev, putA, List.set, intOf, takeAg, cellsOf, wrAll, partsOk, ones, one, isOne, wok1, findPE, List.find?, nop, prlr, isPure, pickR, optInt, rets, rv, rvs, I_size_plus_c, IntKind.bits]
  refine loop_st (fun s : Nat × Nat => 6 - s.1) (fun s => ([.junk, .junk, .ptr 0 0, .ptr 1 0, .ptr 2 0, .raw (.bool false), .raw (.int .u64 (carry A B s.1 : Nat)), .junk, .raw (.int .i64 (s.1 : Nat))] ++ List.replicate 23 .junk)) (fun s => [.c (mg s.2), .c (mg B), .c (mg 0)])
    (fun s => s.1 ≤ 6 ∧ ∀ j, j < 6 → dig s.2 j = if j < s.1 then dig (A + B) j else dig A j) (0, A) ⟨by simp, fun j hj => by simp⟩ (Wk.tmps (by rw [carry_zero]; exact (by simp only [fits, eq_self, and_self, Int.cast_ofNat_Int, Int.natCast_add, and_true, true_and, List.replicate, List.cons_append, List.nil_append]))) ?_
  rintro ⟨k, X⟩ ⟨hk, hX⟩
  simp only [] at hk hX
  by_cases hk6 : k < 6
  · have hx := hX k hk6
    rw [if_neg (by omega)] at hx
    have hc := carry_le A B k
    have hA := dig_lt A k
    have hB := dig_lt B k
    have hd := dig_lt (A + B) k
    have e1 : (carry A B k + (dig A k + dig B k)) % 4294967296 = dig (A + B) k := by rw [← dig_add]; congr 1; omega
    have e2 : (carry A B k + (dig A k + dig B k)) / 4294967296 = carry A B (k + 1) := by rw [← carry_succ]; congr 1; omega
    have hstep : ∀ j, j < 6 → dig (setd X k (dig (A + B) k)) j = if j < k + 1 then dig (A + B) j else dig A j := fun j hj => by
      by_cases hjk : j = k
      · subst hjk; rw [dig_setd hd, if_pos (by omega)]
      · rw [dig_setd_ne hd hjk, hX j hj]
        by_cases hlt : j < k
        · rw [if_pos hlt, if_pos (by omega)]
        · rw [if_neg hlt, if_neg (by omega)]
    clear hX
    simp (disch := omega) only [seval, ↓SDX, isRes, slEl, bslParts, mmAll, mmR, SUX, List.replicate, List.append, pr, lr, er, binR, ev, putA, List.set, intOf, takeAg, cellsOf, wrAll, partsOk, ones, one, isOne, wok1, findPE, List.find?, nop, prlr, isPure, pickR, optInt, rets, rv, rvs, CN, hx, e1, e2, IntKind.bits]
    exact ⟨(k + 1, setd X k (dig (A + B) k)), by simp only []; omega, ⟨by simp only []; omega, hstep⟩, Wk.tmps (by simp only [fits, eq_self, and_self, Int.cast_ofNat_Int, Int.natCast_add, and_true, true_and, List.replicate, List.cons_append, List.nil_append])⟩
  · have hk7 : k = 6 := by omega
    subst hk7
    have hm : mg X = mg (A + B) := mg_digs (fun j hj => by rw [hX j hj, if_pos hj])
    have hc := carry6' A B
    clear hX
    by_cases h0 : carry A B 6 = 0
    · have hlt := hc.1 h0
      clear hc
      simp (disch := omega) only [seval, ↓SDX, isRes, slEl, bslParts, mmAll, mmR, SUX, List.replicate, List.append, pr, lr, er, binR, ev, putA, List.set, intOf, takeAg, cellsOf, wrAll, partsOk, ones, one, isOne, wok1, findPE, List.find?, nop, prlr, isPure, pickR, optInt, rets, rv, rvs, hm, h0, hlt, IntKind.bits]
      exact WkV.eq (by first | rfl | simp) (by first | trivial | (simp only [noix, noixL, NX, and_true, true_and]; done))
    · have hlt : ¬ A % bW + B % bW < bW := fun hl => h0 (hc.2 hl)
      clear hc
      have h0' : ¬ ((carry A B 6 : Nat) : Int) = 0 := by omega
      simp (disch := omega) only [seval, ↓SDX, isRes, slEl, bslParts, mmAll, mmR, SUX, List.replicate, List.append, pr, lr, er, binR, ev, putA, List.set, intOf, takeAg, cellsOf, wrAll, partsOk, ones, one, isOne, wok1, findPE, List.find?, nop, prlr, isPure, pickR, optInt, rets, rv, rvs, hm, hlt, IntKind.bits]
      exact WkV.eq (by first | rfl | simp) (by first | trivial | (simp only [noix, noixL, NX, and_true, true_and]; done))
set_option maxRecDepth 20000 in
theorem I_size_minus_pf (A B : Nat) (hAB : B ≤ A) : Pf P F.I_size_minus [.agg (mg A), .agg (mg B)] (.agg (mg (A - B))) := by
  refine pf_of h.I_size_minus (by simp only [noixL, noix, NX, and_true, true_and]) (by simp only [noixL, noix, NX, and_true, true_and]) ?_
  simp (disch := omega) only [seval, ↓SDX, isRes, slEl, bslParts, mmAll, mmR, SUX, List.replicate, List.append, pr, lr, er, binR, ev, putA, List.set, intOf, takeAg, cellsOf, wrAll, partsOk, ones, one, isOne, wok1, findPE, List.find?, nop, prlr, isPure, pickR, optInt, rets, rv, rvs, I_size_minus_c, IntKind.bits]
  refine loop_st (fun s : Nat × Nat => 6 - s.1) (fun s => ([.junk, .junk, .ptr 0 0, .ptr 1 0, .ptr 2 0, .raw (.int .u64 (borrow A B s.1 : Nat)), .junk, .junk, .raw (.int .i64 (s.1 : Nat))] ++ List.replicate 21 .junk)) (fun s => [.c (mg s.2), .c (mg B), .c (mg 0)])
    (fun s => s.1 ≤ 6 ∧ ∀ j, j < 6 → dig s.2 j = if j < s.1 then dig (A - B) j else dig A j) (0, A) ⟨by simp, fun j hj => by simp⟩ (Wk.tmps (by rw [borrow_zero]; exact (by simp only [fits, eq_self, and_self, Int.cast_ofNat_Int, Int.natCast_add, and_true, true_and, List.replicate, List.cons_append, List.nil_append]))) ?_
  rintro ⟨k, X⟩ ⟨hk, hX⟩
  simp only [] at hk hX
  by_cases hk6 : k < 6
  · have hx := hX k hk6
    rw [if_neg (by omega)] at hx
    have hd := dig_lt (A - B) k
    have hstep : ∀ j, j < 6 → dig (setd X k (dig (A - B) k)) j = if j < k + 1 then dig (A - B) j else dig A j := fun j hj => by
      by_cases hjk : j = k
      · subst hjk; rw [dig_setd hd, if_pos (by omega)]
      · rw [dig_setd_ne hd hjk, hX j hj]
        by_cases hlt : j < k
        · rw [if_pos hlt, if_pos (by omega)]
        · rw [if_neg hlt, if_neg (by omega)]
    clear hX
    have hc := borrow_le A B k
    have hA := dig_lt A k
    have hB := dig_lt B k
    have hs := dig_sub A B k hAB
    have hbs := borrow_succ A B k
    have hfin : ∃ s' : Nat × Nat, 6 - s'.1 < 6 - k ∧ (s'.1 ≤ 6 ∧ ∀ j, j < 6 → dig s'.2 j = if j < s'.1 then dig (A - B) j else dig A j) ∧ s' = (k + 1, setd X k (dig (A - B) k)) :=
      ⟨_, by simp only []; omega, ⟨by simp only []; omega, hstep⟩, rfl⟩
    obtain ⟨s', g1, g2, rfl⟩ := hfin
    clear hstep
    by_cases h1 : dig A k < dig B k
    · rw [if_pos (by omega)] at hbs
      have f1 : IntKind.u64.wrap (((dig A k : Nat) : Int) - ((dig B k : Nat) : Int)) = ((dig A k + 18446744073709551616 - dig B k : Nat) : Int) := by rw [u64_wrap]; omega
      obtain ⟨D, hD⟩ : ∃ D, D = dig A k + 18446744073709551616 - dig B k - borrow A B k := ⟨_, rfl⟩
      have f2 : IntKind.u64.wrap (((dig A k + 18446744073709551616 - dig B k : Nat) : Int) - ((borrow A B k : Nat) : Int)) = (D : Int) := by rw [u64_wrap]; omega
      have m1 : D % 4294967296 = dig (A - B) k := by rw [hbs] at hs; omega
      have m2 : D / 9223372036854775808 = borrow A B (k + 1) := by rw [hbs]; omega
      clear hs hbs hD
      simp (disch := omega) only [seval, ↓SDX, isRes, slEl, bslParts, mmAll, mmR, SUX, List.replicate, List.append, pr, lr, er, binR, ev, putA, List.set, intOf, takeAg, cellsOf, wrAll, partsOk, ones, one, isOne, wok1, findPE, List.find?, nop, prlr, isPure, pickR, optInt, rets, rv, rvs, CN, hx, f1, f2, m1, m2, IntKind.bits]
      exact ⟨_, g1, g2, Wk.tmps (by simp only [fits, eq_self, and_self, Int.cast_ofNat_Int, Int.natCast_add, and_true, true_and, List.replicate, List.cons_append, List.nil_append])⟩
    · by_cases h2 : dig A k < dig B k + borrow A B k
      · rw [if_pos h2] at hbs
        obtain ⟨D, hD⟩ : ∃ D, D = dig A k + 18446744073709551616 - dig B k - borrow A B k := ⟨_, rfl⟩
        have f2 : IntKind.u64.wrap (((dig A k : Nat) : Int) - ((dig B k : Nat) : Int) - ((borrow A B k : Nat) : Int)) = (D : Int) := by rw [u64_wrap]; omega
        have m1 : D % 4294967296 = dig (A - B) k := by rw [hbs] at hs; omega
        have m2 : D / 9223372036854775808 = borrow A B (k + 1) := by rw [hbs]; omega
        clear hs hbs hD
        simp (disch := omega) only [seval, ↓SDX, isRes, slEl, bslParts, mmAll, mmR, SUX, List.replicate, List.append, pr, lr, er, binR, ev, putA, List.set, intOf, takeAg, cellsOf, wrAll, partsOk, ones, one, isOne, wok1, findPE, List.find?, nop, prlr, isPure, pickR, optInt, rets, rv, rvs, CN, hx, f2, m1, m2, IntKind.bits]
        exact ⟨_, g1, g2, Wk.tmps (by simp only [fits, eq_self, and_self, Int.cast_ofNat_Int, Int.natCast_add, and_true, true_and, List.replicate, List.cons_append, List.nil_append])⟩
      · rw [if_neg h2] at hbs
        obtain ⟨D, hD⟩ : ∃ D, D = dig A k - dig B k - borrow A B k := ⟨_, rfl⟩
        have f2 : ((dig A k : Nat) : Int) - ((dig B k : Nat) : Int) - ((borrow A B k : Nat) : Int) = (D : Int) := by omega
        have m1 : D = dig (A - B) k := by rw [hbs] at hs; omega
        have m2 : dig (A - B) k / 9223372036854775808 = borrow A B (k + 1) := by rw [hbs]; omega
        subst m1
        clear hs hbs hD
        simp (disch := omega) only [seval, ↓SDX, isRes, slEl, bslParts, mmAll, mmR, SUX, List.replicate, List.append, pr, lr, er, binR, ev, putA, List.set, intOf, takeAg, cellsOf, wrAll, partsOk, ones, one, isOne, wok1, findPE, List.find?, nop, prlr, isPure, pickR, optInt, rets, rv, rvs, CN, hx, f2, m2, IntKind.bits]
        exact ⟨_, g1, g2, Wk.tmps (by simp only [fits, eq_self, and_self, Int.cast_ofNat_Int, Int.natCast_add, and_true, true_and, List.replicate, List.cons_append, List.nil_append])⟩
  · have hk7 : k = 6 := by omega
    subst hk7
    have hm : mg X = mg (A - B) := mg_digs (fun j hj => by rw [hX j hj, if_pos hj])
    clear hX
    simp (disch := omega) only [seval, ↓SDX, isRes, slEl, bslParts, mmAll, mmR, SUX, List.replicate, List.append, pr, lr, er, binR, ev, putA, List.set, intOf, takeAg, cellsOf, wrAll, partsOk, ones, one, isOne, wok1, findPE, List.find?, nop, prlr, isPure, pickR, optInt, rets, rv, rvs, hm, IntKind.bits]
    exact WkV.eq (by first | rfl | simp) (by first | trivial | (simp only [noix, noixL, NX, and_true, true_and]; done))
end
end Go.Proofs.Lite

namespace Go.Proofs.Lite
open Go
section
variable {P : Program} {F : FnsA} (h : IsA P F)
include h
set_option maxRecDepth 20000 in
theorem I_size_times_pf (A B : Nat) (hA0 : A < bW) (hB0 : B < bW) : Pf P F.I_size_times [.agg (mg A), .agg (mg B)]
    (.tup [.agg (mg (if A * B < bW then A * B else 0)), .raw (.bool (!decide (A * B < bW)))]) := by
  refine pf_of h.I_size_times (by simp only [noixL, noix, NX, and_true, true_and]) (by simp only [noixL, noix, NX, and_true, true_and]) ?_
  simp (disch := omega) only [seval, ↓SDX, isRes, slEl, bslParts, mmAll, mmR, SUX, List.replicate, List.append, pr, lr, er, binR, ev, putA, List.set, intOf, takeAg, cellsOf, wrAll, partsOk, ones, one, isOne, wok1, findPE, List.find?, nop, prlr, isPure, pickR, optInt, rets, rv, rvs, I_size_times_c, IntKind.bits]
  refine loop_st (fun s : Nat => 6 - s) (fun i => ([.junk, .junk, .ptr 0 0, .ptr 1 0, .ptr 2 0, .raw (.bool false), .ptr 3 0, .junk, .junk, .junk, .junk, .junk, .junk, .junk, .agg (mg A), .raw (.int .i64 (i : Nat))] ++ List.replicate 50 .junk))
    (fun i => [.c (mg A), .c (mg B), .c (mg 0), .c (lm 12 (low A i * B))]) (fun i => i ≤ 6) 0 (by omega) ?_ ?_
  · rw [low_zero, Nat.zero_mul]; exact Wk.tmps (by simp only [fits, eq_self, and_self, Int.cast_ofNat_Int, Int.natCast_add, and_true, true_and, List.replicate, List.cons_append, List.nil_append])
  intro i hi
  have hA := dig_lt A i
  by_cases hi6 : i < 6
  · simp (disch := omega) only [seval, ↓SDX, isRes, slEl, bslParts, mmAll, mmR, SUX, List.replicate, List.append, pr, lr, er, binR, ev, putA, List.set, intOf, takeAg, cellsOf, wrAll, partsOk, ones, one, isOne, wok1, findPE, List.find?, nop, prlr, isPure, pickR, optInt, rets, rv, rvs, IntKind.bits]
    refine loop_st (fun s : Nat × Nat × Nat => 6 - s.1) (fun s => ([.junk, .junk, .ptr 0 0, .ptr 1 0, .ptr 2 0, .raw (.bool false), .ptr 3 0, .raw (.int .i64 (i : Nat)), .raw (.int .u32 (dig A i : Nat)), .raw (.int .u64 (s.2.2 : Nat)), .junk, .junk, .junk, .junk, .agg (mg A), .raw (.int .i64 (i : Nat)), .junk, .junk, .junk, .agg (mg B), .raw (.int .i64 (s.1 : Nat))] ++ List.replicate 45 .junk))
      (fun s => [.c (mg A), .c (mg B), .c (mg 0), .c (lm 12 s.2.1)])
      (fun s => s.1 ≤ 6 ∧ s.2.1 + b32 ^ (i + s.1) * s.2.2 = low A i * B + dig A i * b32 ^ i * low B s.1 ∧ s.2.1 < b32 ^ (i + 6) ∧ s.2.2 < 4294967296) (0, low A i * B, 0) ?_ ?_ ?_
    · refine ⟨by omega, ?_, mul_lt hB0, by simp only []; omega⟩
      rw [low_zero]; simp only [Nat.mul_zero]
    · exact Wk.tmps (by simp only [fits, eq_self, and_self, Int.cast_ofNat_Int, Int.natCast_add, and_true, true_and, List.replicate, List.cons_append, List.nil_append])
    rintro ⟨k, V, c⟩ ⟨hk, hV, hVl, hc⟩
    simp only [] at hk hV hVl hc
    have hB := dig_lt B k
    have hD := dig_lt V (i + k)
    have hm := mul_carry hA hB hD hc
    have e : c + (dig A i * dig B k + dig V (i + k)) = dig A i * dig B k + dig V (i + k) + c := by omega
    by_cases hk6 : k < 6
    · simp (disch := omega) only [seval, ↓SDX, isRes, slEl, bslParts, mmAll, mmR, SUX, List.replicate, List.append, pr, lr, er, binR, ev, putA, List.set, intOf, takeAg, cellsOf, wrAll, partsOk, ones, one, isOne, wok1, findPE, List.find?, nop, prlr, isPure, pickR, optInt, rets, rv, rvs, CN, e, IntKind.bits]
      refine ⟨(k + 1, setd V (i + k) ((dig A i * dig B k + dig V (i + k) + c) % 4294967296), (dig A i * dig B k + dig V (i + k) + c) / 4294967296), by simp only []; omega, ⟨by simp only []; omega, mul_step hV, setd_lt hVl (by omega) (Nat.mod_lt _ (by decide)), hm.2⟩, Wk.tmps (by simp only [fits, eq_self, and_self, Int.cast_ofNat_Int, Int.natCast_add, and_true, true_and, List.replicate, List.cons_append, List.nil_append])⟩
    · have hk7 : k = 6 := by omega
      subst hk7
      simp (disch := omega) only [seval, ↓SDX, isRes, slEl, bslParts, mmAll, mmR, SUX, List.replicate, List.append, pr, lr, er, binR, ev, putA, List.set, intOf, takeAg, cellsOf, wrAll, partsOk, ones, one, isOne, wok1, findPE, List.find?, nop, prlr, isPure, pickR, optInt, rets, rv, rvs, CN, IntKind.bits]
      rw [mul_end hV hB0 hVl]
      exact ⟨i + 1, by omega, by omega, Wk.tmps (by simp only [fits, eq_self, and_self, Int.cast_ofNat_Int, Int.natCast_add, and_true, true_and, List.replicate, List.cons_append, List.nil_append])⟩
  · have hi7 : i = 6 := by omega
    subst hi7
    rw [low_of_lt (by rw [show (b32 ^ 6 : Nat) = bW from pow6]; exact hA0)]
    have hV : A * B < b32 ^ 12 := by
      rw [show (b32 ^ 12 : Nat) = bW * bW from by decide]; exact Nat.mul_lt_mul'' hA0 hB0
    generalize hVV : A * B = V at *
    simp (disch := omega) only [seval, ↓SDX, isRes, slEl, bslParts, mmAll, mmR, SUX, List.replicate, List.append, pr, lr, er, binR, ev, putA, List.set, intOf, takeAg, cellsOf, wrAll, partsOk, ones, one, isOne, wok1, findPE, List.find?, nop, prlr, isPure, pickR, optInt, rets, rv, rvs, IntKind.bits]
    refine loop_st (fun s : Nat => 6 - s) (fun k => ([.junk, .junk, .junk, .junk, .ptr 2 0, .junk, .ptr 3 0, .junk, .junk, .junk, .junk, .junk, .junk, .junk, .junk, .junk, .junk, .junk, .junk, .junk, .junk, .junk, .junk, .junk, .junk, .junk, .junk, .junk, .junk, .junk, .junk, .junk, .junk, .junk, .junk, .junk, .junk, .junk, .junk, .junk, .junk, .junk, .junk, .junk, .junk, .junk, .junk, .junk, .junk, .junk, .junk, .junk, .junk, .sl 3 1 6 6 false, .raw (.int .i64 6), .raw (.int .i64 (k : Nat))] ++ List.replicate 10 .junk))
      (fun k => [.c (mg A), .c (mg B), .c (mg 0), .c (lm 12 V)]) (fun k => k ≤ 6 ∧ ∀ j, j < k → dig V (6 + j) = 0) 0 ⟨by omega, fun _ h => by omega⟩ (Wk.tmps (by simp only [fits, eq_self, and_self, Int.cast_ofNat_Int, Int.natCast_add, and_true, true_and, List.replicate, List.cons_append, List.nil_append])) ?_
    rintro k ⟨hk, hz⟩
    have hD2 := dig_lt V (6 + k)
    by_cases hk6 : k < 6
    · by_cases hd : dig V (6 + k) = 0
      · have hz2 : ∀ j, j < k + 1 → dig V (6 + j) = 0 := fun j hj => by
          by_cases hjk : j = k
          · subst hjk; exact hd
          · exact hz j (by omega)
        clear hz
        simp (disch := omega) only [seval, ↓SDX, isRes, slEl, bslParts, mmAll, mmR, SUX, List.replicate, List.append, pr, lr, er, binR, ev, putA, List.set, intOf, takeAg, cellsOf, wrAll, partsOk, ones, one, isOne, wok1, findPE, List.find?, nop, prlr, isPure, pickR, optInt, rets, rv, rvs, CN, hd, IntKind.bits]
        exact ⟨k + 1, by omega, ⟨by omega, hz2⟩, Wk.tmps (by simp only [fits, eq_self, and_self, Int.cast_ofNat_Int, Int.natCast_add, and_true, true_and, List.replicate, List.cons_append, List.nil_append])⟩
      · have hlt : ¬ V < bW := fun hl => hd (upper_dig hl)
        clear hz
        simp (disch := omega) only [seval, ↓SDX, isRes, slEl, bslParts, mmAll, mmR, SUX, List.replicate, List.append, pr, lr, er, binR, ev, putA, List.set, intOf, takeAg, cellsOf, wrAll, partsOk, ones, one, isOne, wok1, findPE, List.find?, nop, prlr, isPure, pickR, optInt, rets, rv, rvs, CN, hlt, IntKind.bits]
        exact WkV.eq (by first | rfl | simp) (by first | trivial | (simp only [noix, noixL, NX, and_true, true_and]; done))
    · have hk7 : k = 6 := by omega
      subst hk7
      have hlt : V < bW := upper_zero 6 hz hV
      clear hz
      simp (disch := omega) only [seval, ↓SDX, isRes, slEl, bslParts, mmAll, mmR, SUX, List.replicate, List.append, pr, lr, er, binR, ev, putA, List.set, intOf, takeAg, cellsOf, wrAll, partsOk, ones, one, isOne, wok1, findPE, List.find?, nop, prlr, isPure, pickR, optInt, rets, rv, rvs, hlt, take_lm6, IntKind.bits]
      exact WkV.eq (by first | rfl | simp) (by first | trivial | (simp only [noix, noixL, NX, and_true, true_and]; done))
end
end Go.Proofs.Lite

namespace Go.Proofs.Lite
open Go
def tblB : ByteArray := ⟨#[0, 1, 2, 2, 3, 3, 3, 3, 4, 4, 4, 4, 4, 4, 4, 4, 5, 5, 5, 5, 5, 5, 5, 5, 5, 5, 5, 5, 5, 5, 5, 5, 6, 6, 6, 6, 6, 6, 6, 6, 6, 6, 6, 6, 6, 6, 6, 6, 6, 6, 6, 6, 6, 6, 6, 6, 6, 6, 6, 6, 6, 6, 6, 6, 7, 7, 7, 7, 7, 7, 7, 7, 7, 7, 7, 7, 7, 7, 7, 7, 7, 7, 7, 7, 7, 7, 7, 7, 7, 7, 7, 7, 7, 7, 7, 7, 7, 7, 7, 7, 7, 7, 7, 7, 7, 7, 7, 7, 7, 7, 7, 7, 7, 7, 7, 7, 7, 7, 7, 7, 7, 7, 7, 7, 7, 7, 7, 7, 8, 8, 8, 8, 8, 8, 8, 8, 8, 8, 8, 8, 8, 8, 8, 8, 8, 8, 8, 8, 8, 8, 8, 8, 8, 8, 8, 8, 8, 8, 8, 8, 8, 8, 8, 8, 8, 8, 8, 8, 8, 8, 8, 8, 8, 8, 8, 8, 8, 8, 8, 8, 8, 8, 8, 8, 8, 8, 8, 8, 8, 8, 8, 8, 8, 8, 8, 8, 8, 8, 8, 8, 8, 8, 8, 8, 8, 8, 8, 8, 8, 8, 8, 8, 8, 8, 8, 8, 8, 8, 8, 8, 8, 8, 8, 8, 8, 8, 8, 8, 8, 8, 8, 8, 8, 8, 8, 8, 8, 8, 8, 8, 8, 8, 8, 8, 8, 8, 8, 8, 8, 8, 8, 8, 8, 8, 8, 8]⟩
theorem X_Len32_e (F : FnsA) : X_Len32_c F = ⟨(.seq (.reg [⟨(some 2), none, (.mv (.const (.int .i64 0)))⟩]) (.seq (.seq (.reg [⟨(some 3), none, (.mv (.tmp 0))⟩, ⟨(some 4), none, (.bin .geq (.tmp 3) (.const (.int .u32 65536)))⟩]) (.cond (.tmp 4) (.seq (.reg [⟨(some 5), none, (.mv (.tmp 0))⟩, ⟨(some 6), none, (.bin .shr (.tmp 5) (.const (.int .u64 16)))⟩, ⟨(some 0), none, (.mv (.tmp 6))⟩]) (.reg [⟨(some 2), none, (.mv (.const (.int .i64 16)))⟩])) .skip)) (.seq (.seq (.reg [⟨(some 7), none, (.mv (.tmp 0))⟩, ⟨(some 8), none, (.bin .geq (.tmp 7) (.const (.int .u32 256)))⟩]) (.cond (.tmp 8) (.seq (.reg [⟨(some 9), none, (.mv (.tmp 0))⟩, ⟨(some 10), none, (.bin .shr (.tmp 9) (.const (.int .u64 8)))⟩, ⟨(some 0), none, (.mv (.tmp 10))⟩]) (.reg [⟨(some 11), none, (.mv (.tmp 2))⟩, ⟨(some 12), none, (.bin .add (.tmp 11) (.const (.int .i64 8)))⟩, ⟨(some 2), none, (.mv (.tmp 12))⟩])) .skip)) (.seq (.reg [⟨(some 13), none, (.mv (.tmp 2))⟩, ⟨(some 14), none, (.mv (.tmp 0))⟩, ⟨(some 15), none, (.conv .u8 (.tmp 14))⟩, ⟨(some 16), none, (.sidx (.const (.string tblB)) (.tmp 15))⟩, ⟨(some 17), none, (.conv .i64 (.tmp 16))⟩, ⟨(some 18), none, (.bin .add (.tmp 13) (.tmp 17))⟩, ⟨(some 2), none, (.mv (.tmp 18))⟩]) .ret)))), 19, [(.tmp 2)]⟩ := rfl
theorem tblB_size : tblB.size = 256 := by decide +kernel
theorem tblB_get : ∀ z : Nat, z < 256 → (tblB.data.getD z 0).toNat = nb z := by decide +kernel
theorem u8w (x : Nat) : IntKind.u8.wrap (x : Int) = ((x % 256 : Nat) : Int) := by
  show (x : Int) % 256 = _
  omega
section
variable {P : Program} {F : FnsA} (h : IsA P F)
include h
theorem X_Len32_pf (x : Nat) (hx : x < 4294967296) : Pf P F.X_Len32 [.raw (.int .u32 (x : Nat))] (.raw (.int .i64 (nb x : Nat))) := by
  refine pf_of h.X_Len32 (by simp only [noixL, noix, NX, and_true, true_and]) trivial ?_
  have fin := tblB_get
  have lim : ∀ z : Nat, z < 256 → nb z ≤ 8 := fun z hz => nb_le.2 hz
  by_cases h1 : 65536 ≤ x
  · have e1 := nb_shift (x := x) 16 h1
    simp only [Nat.reducePow] at e1
    by_cases h2 : 256 ≤ x / 65536
    · have e2 := nb_shift (x := x / 65536) 8 h2
      simp only [Nat.reducePow] at e2
      have f := fin (x / 65536 / 256) (by omega)
      have l := lim (x / 65536 / 256) (by omega)
      clear fin lim
      simp (disch := omega) only [seval, ↓SDX, isRes, slEl, bslParts, mmAll, mmR, SUX, List.replicate, List.append, pr, lr, er, binR, ev, putA, List.set, intOf, takeAg, cellsOf, wrAll, partsOk, ones, one, isOne, wok1, findPE, List.find?, nop, prlr, isPure, pickR, optInt, rets, rv, rvs, X_Len32_e, CN, u8w, tblB_size, f, IntKind.bits]
      refine WkV.eq ?_ trivial
      rw [show nb x = 24 + nb (x / 65536 / 256) from by omega]
    · have f := fin (x / 65536) (by omega)
      have l := lim (x / 65536) (by omega)
      clear fin lim
      simp (disch := omega) only [seval, ↓SDX, isRes, slEl, bslParts, mmAll, mmR, SUX, List.replicate, List.append, pr, lr, er, binR, ev, putA, List.set, intOf, takeAg, cellsOf, wrAll, partsOk, ones, one, isOne, wok1, findPE, List.find?, nop, prlr, isPure, pickR, optInt, rets, rv, rvs, X_Len32_e, CN, u8w, tblB_size, f, IntKind.bits]
      refine WkV.eq ?_ trivial
      rw [e1]
  · by_cases h2 : 256 ≤ x
    · have e2 := nb_shift (x := x) 8 h2
      simp only [Nat.reducePow] at e2
      have f := fin (x / 256) (by omega)
      have l := lim (x / 256) (by omega)
      clear fin lim
      simp (disch := omega) only [seval, ↓SDX, isRes, slEl, bslParts, mmAll, mmR, SUX, List.replicate, List.append, pr, lr, er, binR, ev, putA, List.set, intOf, takeAg, cellsOf, wrAll, partsOk, ones, one, isOne, wok1, findPE, List.find?, nop, prlr, isPure, pickR, optInt, rets, rv, rvs, X_Len32_e, CN, u8w, tblB_size, f, IntKind.bits]
      refine WkV.eq ?_ trivial
      rw [e2]
    · have f := fin x (by omega)
      have l := lim x (by omega)
      clear fin lim
      simp (disch := omega) only [seval, ↓SDX, isRes, slEl, bslParts, mmAll, mmR, SUX, List.replicate, List.append, pr, lr, er, binR, ev, putA, List.set, intOf, takeAg, cellsOf, wrAll, partsOk, ones, one, isOne, wok1, findPE, List.find?, nop, prlr, isPure, pickR, optInt, rets, rv, rvs, X_Len32_e, CN, u8w, tblB_size, f, IntKind.bits]
      refine WkV.eq ?_ trivial
      simp
theorem X_LeadingZeros32_pf (x : Nat) (hx : x < 4294967296) : Pf P F.X_LeadingZeros32 [.raw (.int .u32 (x : Nat))] (.raw (.int .i64 (32 - nb x : Nat))) := by
  refine pf_of h.X_LeadingZeros32 (by simp only [noixL, noix, NX, and_true, true_and]) trivial ?_
  have hl : nb x ≤ 32 := nb_le.2 hx
  simp (disch := omega) only [seval, ↓SDX, isRes, slEl, bslParts, mmAll, mmR, SUX, List.replicate, List.append, pr, lr, er, binR, ev, putA, List.set, intOf, takeAg, cellsOf, wrAll, partsOk, ones, one, isOne, wok1, findPE, List.find?, nop, prlr, isPure, pickR, optInt, rets, rv, rvs, X_LeadingZeros32_c, IntKind.bits]
  refine (X_Len32_pf h x hx).step ?_
  simp (disch := omega) only [seval, ↓SDX, isRes, slEl, bslParts, mmAll, mmR, SUX, List.replicate, List.append, pr, lr, er, binR, ev, putA, List.set, intOf, takeAg, cellsOf, wrAll, partsOk, ones, one, isOne, wok1, findPE, List.find?, nop, prlr, isPure, pickR, optInt, rets, rv, rvs, IntKind.bits]
  exact WkV.eq (by congr 2; omega) trivial
set_option maxRecDepth 20000 in
theorem I_size_bits_pf (A : Nat) (hA : A < bW) : Pf P F.I_size_bits [.agg (mg A)] (.raw (.int .i64 (nb A : Nat))) := by
  refine pf_of h.I_size_bits (by simp only [noixL, noix, NX, and_true, true_and]) trivial ?_
  simp (disch := omega) only [seval, ↓SDX, isRes, slEl, bslParts, mmAll, mmR, SUX, List.replicate, List.append, pr, lr, er, binR, ev, putA, List.set, intOf, takeAg, cellsOf, wrAll, partsOk, ones, one, isOne, wok1, findPE, List.find?, nop, prlr, isPure, pickR, optInt, rets, rv, rvs, I_size_bits_c, IntKind.bits]
  refine loop_st (fun s : Nat => s) (fun s => ([.junk, .ptr 0 0, .raw (.int .i64 0), .raw (.int .i64 ((s : Int) - 1))] ++ List.replicate 15 .junk)) (fun _ => [.c (mg A)]) (fun s => s ≤ 6 ∧ ∀ j, s ≤ j → j < 6 → dig A j = 0) 6 ⟨by omega, fun j h1 h2 => by omega⟩ ?_ ?_
  · exact Wk.tmps (by simp [fits])
  rintro s ⟨hs, hz⟩
  by_cases h0 : s = 0
  · subst h0
    rw [dig_all_zero hA (fun j hj => hz j (by omega) hj)]
    simp (disch := omega) only [seval, ↓SDX, isRes, slEl, bslParts, mmAll, mmR, SUX, List.replicate, List.append, pr, lr, er, binR, ev, putA, List.set, intOf, takeAg, cellsOf, wrAll, partsOk, ones, one, isOne, wok1, findPE, List.find?, nop, prlr, isPure, pickR, optInt, rets, rv, rvs, IntKind.bits]
    exact WkV.eq (by first | rfl | simp) (by first | trivial | (simp only [noix, noixL, NX, and_true, true_and]; done))
  obtain ⟨k, rfl⟩ : ∃ k, s = k + 1 := ⟨s - 1, by omega⟩
  have hk : ((k + 1 : Nat) : Int) - 1 = k := by omega
  have hd := dig_lt A k
  rw [hk]
  by_cases hd0 : dig A k = 0
  · have hz2 : ∀ j, k ≤ j → j < 6 → dig A j = 0 := fun j h1 h2 => by
      rcases Nat.lt_or_eq_of_le h1 with h1 | h1
      · exact hz j (by omega) h2
      · rw [← h1]; exact hd0
    clear hz
    simp (disch := omega) only [seval, ↓SDX, isRes, slEl, bslParts, mmAll, mmR, SUX, List.replicate, List.append, pr, lr, er, binR, ev, putA, List.set, intOf, takeAg, cellsOf, wrAll, partsOk, ones, one, isOne, wok1, findPE, List.find?, nop, prlr, isPure, pickR, optInt, rets, rv, rvs, hd0, IntKind.bits]
    exact ⟨k, by omega, ⟨by omega, hz2⟩, Wk.tmps (by simp only [fits, eq_self, and_self, Int.cast_ofNat_Int, Int.natCast_add, and_true, true_and, List.replicate, List.cons_append, List.nil_append])⟩
  · have hnb := nb_dig hA (fun j h1 h2 => hz j (by omega) h2) (by omega) hd0
    have hl : nb (dig A k) ≤ 32 := nb_le.2 hd
    clear hz
    simp (disch := omega) only [seval, ↓SDX, isRes, slEl, bslParts, mmAll, mmR, SUX, List.replicate, List.append, pr, lr, er, binR, ev, putA, List.set, intOf, takeAg, cellsOf, wrAll, partsOk, ones, one, isOne, wok1, findPE, List.find?, nop, prlr, isPure, pickR, optInt, rets, rv, rvs, CN, IntKind.bits]
    refine (X_Len32_pf h _ hd).step ?_
    simp (disch := omega) only [seval, ↓SDX, isRes, slEl, bslParts, mmAll, mmR, SUX, List.replicate, List.append, pr, lr, er, binR, ev, putA, List.set, intOf, takeAg, cellsOf, wrAll, partsOk, ones, one, isOne, wok1, findPE, List.find?, nop, prlr, isPure, pickR, optInt, rets, rv, rvs, CN, IntKind.bits]
    exact WkV.eq (by rw [hnb]) trivial
end
end Go.Proofs.Lite

namespace Go.Proofs.Lite
open Go
section
variable {P : Program} {F : FnsA} (h : IsA P F)
include h
set_option maxRecDepth 20000 in
theorem I_size_bySmall_pf (A d : Nat) (hA0 : A < bW) (hd : 0 < d) (hl : d < 4294967296) : Pf P F.I_size_bySmall [.agg (mg A), .raw (.int .u32 (d : Nat))] (.tup [.agg (mg (A / d)), .raw (.int .u32 (A % d : Nat))]) := by
  refine pf_of h.I_size_bySmall (by simp only [noixL, noix, NX, and_true, true_and]) (by simp only [noixL, noix, NX, and_true, true_and]) ?_
  simp (disch := omega) only [seval, ↓SDX, isRes, slEl, bslParts, mmAll, mmR, SUX, List.replicate, List.append, pr, lr, er, binR, ev, putA, List.set, intOf, takeAg, cellsOf, wrAll, partsOk, ones, one, isOne, wok1, findPE, List.find?, nop, prlr, isPure, pickR, optInt, rets, rv, rvs, I_size_bySmall_c, IntKind.bits]
  refine loop_st (fun s : Nat × Nat => s.1) (fun s => ([.junk, .raw (.int .u32 (d : Nat)), .ptr 0 0, .junk, .ptr 1 0, .raw (.int .u32 0), .raw (.int .u64 (rsm A d s.1 : Nat)), .raw (.int .i64 ((s.1 : Int) - 1))] ++ List.replicate 25 .junk)) (fun s => [.c (mg s.2), .c (mg 0)])
    (fun s => s.1 ≤ 6 ∧ ∀ j, j < 6 → dig s.2 j = if s.1 ≤ j then dig (A / d) j else dig A j) (6, A) ⟨by simp, fun j hj => by simp only []; rw [if_neg (by omega)]⟩ (Wk.tmps (by
      simp only []
      rw [show rsm A d 6 = 0 from by unfold rsm; rw [show b32 ^ 6 = bW from pow6, Nat.div_eq_of_lt hA0, Nat.zero_mod]]; simp [fits])) ?_
  rintro ⟨s, X⟩ ⟨hs, hX⟩
  simp only [] at hs hX
  by_cases h0 : s = 0
  · subst h0
    have hm : mg X = mg (A / d) := mg_digs (fun j hj => by rw [hX j hj, if_pos (by omega)])
    have hr : A % d < d := Nat.mod_lt _ hd
    rw [show rsm A d 0 = A % d from by unfold rsm; rw [Nat.pow_zero, Nat.div_one]]
    clear hX
    simp (disch := omega) only [seval, ↓SDX, isRes, slEl, bslParts, mmAll, mmR, SUX, List.replicate, List.append, pr, lr, er, binR, ev, putA, List.set, intOf, takeAg, cellsOf, wrAll, partsOk, ones, one, isOne, wok1, findPE, List.find?, nop, prlr, isPure, pickR, optInt, rets, rv, rvs, hm, IntKind.bits]
    exact WkV.eq (by first | rfl | simp) (by first | trivial | (simp only [noix, noixL, NX, and_true, true_and]; done))
  obtain ⟨k, rfl⟩ : ∃ k, s = k + 1 := ⟨s - 1, by omega⟩
  have hk : ((k + 1 : Nat) : Int) - 1 = k := by omega
  rw [hk]
  dsimp only
  obtain ⟨e1, e2, e3, e4⟩ := small_step (A := A) (d := d) (k := k) hd hl
  have hr : A / b32 ^ (k + 1) % d < d := Nat.mod_lt _ hd
  rw [show A / b32 ^ (k + 1) % d = rsm A d (k + 1) from rfl] at e1 e2 e3 e4 hr
  rw [show A / b32 ^ k % d = rsm A d k from rfl] at e2
  generalize rsm A d (k + 1) = r at *
  have hx := hX k (by omega)
  rw [if_neg (by omega)] at hx
  have hdg := dig_lt A k
  have hdq := dig_lt (A / d) k
  have e5 := or_shl (x := r) hdg
  have hstep : ∀ j, j < 6 → dig (setd X k (dig (A / d) k)) j = if k ≤ j then dig (A / d) j else dig A j := fun j hj => by
    by_cases hjk : j = k
    · subst hjk; rw [dig_setd hdq, if_pos (by omega)]
    · rw [dig_setd_ne hdq hjk, hX j hj]
      by_cases hlt : k + 1 ≤ j
      · rw [if_pos hlt, if_pos (by omega)]
      · rw [if_neg hlt, if_neg (by omega)]
  clear hX
  have g : ∃ s' : Nat × Nat, s'.1 < k + 1 ∧ (s'.1 ≤ 6 ∧ ∀ j, j < 6 → dig s'.2 j = if s'.1 ≤ j then dig (A / d) j else dig A j) ∧ s' = (k, setd X k (dig (A / d) k)) :=
    ⟨_, by simp only []; omega, ⟨by simp only []; omega, hstep⟩, rfl⟩
  obtain ⟨s', g1, g2, rfl⟩ := g
  clear hstep
  generalize hv : r * 4294967296 + dig A k = v at *
  clear hv e3
  simp (disch := omega) only [seval, ↓SDX, isRes, slEl, bslParts, mmAll, mmR, SUX, List.replicate, List.append, pr, lr, er, binR, ev, putA, List.set, intOf, takeAg, cellsOf, wrAll, partsOk, ones, one, isOne, wok1, findPE, List.find?, nop, prlr, isPure, pickR, optInt, rets, rv, rvs, CN, hx, e5, e1, e2, IntKind.bits]
  exact ⟨_, g1, g2, Wk.tmps (by simp only [fits, eq_self, and_self, Int.cast_ofNat_Int, Int.natCast_add, and_true, true_and, List.replicate, List.cons_append, List.nil_append])⟩
end
end Go.Proofs.Lite

namespace Go.Proofs.Lite
open Go
section
variable {P : Program} {F : FnsA} (h : IsA P F)
include h
set_option maxRecDepth 20000 in
theorem I_size_up_pf (A n : Nat) (hn : n ≤ 191) : Pf P F.I_size_up [.agg (mg A), .raw (.int .i64 (n : Nat))] (.agg (mg (A * 2 ^ n))) := by
  refine pf_of h.I_size_up (by simp only [noixL, noix, NX, and_true, true_and]) (by simp only [noixL, noix, NX, and_true, true_and]) ?_
  obtain ⟨q, r, hr, hq⟩ : ∃ q r, r < 32 ∧ n = 32 * q + r := ⟨n / 32, n % 32, by omega, by omega⟩
  have hq1 : n / 32 = q := by omega
  have hr1 : n % 32 = r := by omega
  have hW : A * 2 ^ n = A * 2 ^ r * b32 ^ q := by rw [hq, b32_pow, Nat.mul_assoc, ← Nat.pow_add]; congr 2; omega
  simp (disch := omega) only [seval, ↓SDX, isRes, slEl, bslParts, mmAll, mmR, SUX, List.replicate, List.append, pr, lr, er, binR, ev, putA, List.set, intOf, takeAg, cellsOf, wrAll, partsOk, ones, one, isOne, wok1, findPE, List.find?, nop, prlr, isPure, pickR, optInt, rets, rv, rvs, I_size_up_c, CN, hq1, hr1, IntKind.bits]
  generalize A * 2 ^ n = W at *
  have hq5 : q ≤ 5 := by omega
  refine loop_st (fun s : Nat × Nat => s.1) (fun s => ([.junk, .junk, .ptr 0 0, .junk, .ptr 1 0, .ptr 2 0, .raw (.int .i64 (q : Nat)), .raw (.int .i64 (r : Nat)), .raw (.int .i64 ((s.1 : Int) - 1))] ++ List.replicate 41 .junk)) (fun s => [.c (mg A), .c (mg 0), .c (mg s.2)])
    (fun s => s.1 ≤ 6 ∧ q ≤ s.1 ∧ ∀ j, j < 6 → dig s.2 j = if s.1 ≤ j then dig W j else 0) (6, 0) ⟨by simp, by simp only []; omega, fun j hj => by
      simp only []; rw [if_neg (by omega)]; exact digB_low_ge (b := 4294967296) (A := 0) (k := 0) (by decide) (by omega)⟩ (Wk.tmps (by simp [fits])) ?_
  rintro ⟨s, X⟩ ⟨hs, hsq, hX⟩
  dsimp only at hs hsq hX ⊢
  clear hn hq hq1 hr1
  by_cases h0 : s = q
  · subst h0
    have hm : mg X = mg W := mg_digs (fun j hj => by
      rw [hX j hj]
      by_cases hj2 : s ≤ j
      · rw [if_pos hj2]
      · rw [if_neg hj2, hW, dig_mulq0 (by omega)])
    clear hX hW
    simp (disch := omega) only [seval, ↓SDX, isRes, slEl, bslParts, mmAll, mmR, SUX, List.replicate, List.append, pr, lr, er, binR, ev, putA, List.set, intOf, takeAg, cellsOf, wrAll, partsOk, ones, one, isOne, wok1, findPE, List.find?, nop, prlr, isPure, pickR, optInt, rets, rv, rvs, hm, IntKind.bits]
    exact WkV.eq (by first | rfl | simp) (by first | trivial | (simp only [noix, noixL, NX, and_true, true_and]; done))
  obtain ⟨k, rfl⟩ : ∃ k, s = k + 1 := ⟨s - 1, by omega⟩
  obtain ⟨m, rfl⟩ : ∃ m, k = m + q := ⟨k - q, by omega⟩
  have hk : ((m + q + 1 : Nat) : Int) - 1 = ((m + q : Nat) : Int) := by omega
  rw [hk]
  have hx := hX (m + q) (by omega)
  rw [if_neg (by omega)] at hx
  have hdq := dig_lt W (m + q)
  have hstep : ∀ d, d = dig W (m + q) → ∃ s' : Nat × Nat, s'.1 < m + q + 1 ∧ (s'.1 ≤ 6 ∧ q ≤ s'.1 ∧ ∀ j, j < 6 → dig s'.2 j = if s'.1 ≤ j then dig W j else 0) ∧ s' = (m + q, setd X (m + q) d) := by
    intro d hd
    refine ⟨_, by dsimp only; omega, ⟨by dsimp only; omega, by dsimp only; omega, fun j hj => ?_⟩, rfl⟩
    subst hd
    dsimp only
    by_cases hjk : j = m + q
    · subst hjk; rw [dig_setd hdq, if_pos (by omega)]
    · rw [dig_setd_ne hdq hjk, hX j hj]
      by_cases hlt : m + q + 1 ≤ j
      · rw [if_pos hlt, if_pos (by omega)]
      · rw [if_neg hlt, if_neg (by omega)]
  have hWm : dig W (m + q) = dig (A * 2 ^ r) m := by rw [hW, dig_mulq]
  have hsub : ((m + q : Nat) : Int) - (q : Int) = (m : Int) := by omega
  have hsub2 : (32 : Int) - (r : Int) = ((32 - r : Nat) : Int) := by omega
  have hdm := dig_lt A m
  have hpr : 2 ^ r < 4294967296 := pow_r_le hr
  have hp2 : dig A m * 2 ^ r % 4294967296 < 4294967296 := Nat.mod_lt _ (by decide)
  clear hX
  by_cases hm0 : m = 0
  · subst hm0
    simp only [Nat.zero_add] at hx hdq hsub hk hstep hWm hdm hs hsq ⊢
    have e1 : dig A 0 * 2 ^ r % 4294967296 = dig W q := by rw [hWm, dig_up0]
    obtain ⟨s', g1, g2, rfl⟩ := hstep _ e1
    clear hstep e1 hWm hW
    by_cases hr0 : 0 < r
    · simp (disch := omega) only [seval, ↓SDX, isRes, slEl, bslParts, mmAll, mmR, SUX, List.replicate, List.append, pr, lr, er, binR, ev, putA, List.set, intOf, takeAg, cellsOf, wrAll, partsOk, ones, one, isOne, wok1, findPE, List.find?, nop, prlr, isPure, pickR, optInt, rets, rv, rvs, CN, hsub, IntKind.bits]
      exact ⟨_, g1, g2, Wk.tmps (by simp only [fits, eq_self, and_self, Int.cast_ofNat_Int, Int.natCast_add, and_true, true_and, List.replicate, List.cons_append, List.nil_append])⟩
    · simp (disch := omega) only [seval, ↓SDX, isRes, slEl, bslParts, mmAll, mmR, SUX, List.replicate, List.append, pr, lr, er, binR, ev, putA, List.set, intOf, takeAg, cellsOf, wrAll, partsOk, ones, one, isOne, wok1, findPE, List.find?, nop, prlr, isPure, pickR, optInt, rets, rv, rvs, CN, hsub, IntKind.bits]
      exact ⟨_, g1, g2, Wk.tmps (by simp only [fits, eq_self, and_self, Int.cast_ofNat_Int, Int.natCast_add, and_true, true_and, List.replicate, List.cons_append, List.nil_append])⟩
  · obtain ⟨m, rfl⟩ : ∃ m', m = m' + 1 := ⟨m - 1, by omega⟩
    by_cases hr0 : 0 < r
    · have e1 : dig A (m + 1) * 2 ^ r % 4294967296 ||| dig A m / 2 ^ (32 - r) = dig W (m + 1 + q) := by
        rw [hWm, shr_shl (by omega), dig_up_or (by omega)]
      have hdm2 := dig_lt A m
      have hd3 : dig A m / 2 ^ (32 - r) < 4294967296 := Nat.lt_of_le_of_lt (Nat.div_le_self _ _) hdm2
      have hset : dig (setd X (m + 1 + q) (dig A (m + 1) * 2 ^ r % 4294967296)) (m + 1 + q) = dig A (m + 1) * 2 ^ r % 4294967296 := dig_setd hp2
      have hset2 : ∀ d, d < 4294967296 → mg (setd (setd X (m + 1 + q) (dig A (m + 1) * 2 ^ r % 4294967296)) (m + 1 + q) d) = mg (setd X (m + 1 + q) d) := fun d hd => mg_digs (fun j hj => by
        by_cases hjk : j = m + 1 + q
        · subst hjk; rw [dig_setd hd, dig_setd hd]
        · rw [dig_setd_ne hd hjk, dig_setd_ne hp2 hjk, dig_setd_ne hd hjk])
      have hsub3 : (((m + 1 : Nat) : Int)) - 1 = (m : Int) := by omega
      obtain ⟨s', g1, g2, rfl⟩ := hstep _ e1
      have hor := or_lt32 hp2 hd3
      have hset3 := hset2 _ hor
      clear hstep e1 hWm hW hset2
      simp (disch := omega) only [seval, ↓SDX, isRes, slEl, bslParts, mmAll, mmR, SUX, List.replicate, List.append, pr, lr, er, binR, ev, putA, List.set, intOf, takeAg, cellsOf, wrAll, partsOk, ones, one, isOne, wok1, findPE, List.find?, nop, prlr, isPure, pickR, optInt, rets, rv, rvs, CN, hsub, hsub2, hsub3, hset, hset3, IntKind.bits]
      exact ⟨_, g1, g2, Wk.tmps (by simp only [fits, eq_self, and_self, Int.cast_ofNat_Int, Int.natCast_add, and_true, true_and, List.replicate, List.cons_append, List.nil_append])⟩
    · have hr00 : r = 0 := by omega
      subst hr00
      have e1 : dig A (m + 1) = dig W (m + 1 + q) := by rw [hWm, Nat.pow_zero, Nat.mul_one]
      obtain ⟨s', g1, g2, rfl⟩ := hstep _ e1
      clear hstep e1 hWm hW
      simp (disch := omega) only [seval, ↓SDX, isRes, slEl, bslParts, mmAll, mmR, SUX, List.replicate, List.append, pr, lr, er, binR, ev, putA, List.set, intOf, takeAg, cellsOf, wrAll, partsOk, ones, one, isOne, wok1, findPE, List.find?, nop, prlr, isPure, pickR, optInt, rets, rv, rvs, CN, hsub, Nat.pow_zero, IntKind.bits]
      exact ⟨_, g1, g2, Wk.tmps (by simp only [fits, eq_self, and_self, Int.cast_ofNat_Int, Int.natCast_add, and_true, true_and, List.replicate, List.cons_append, List.nil_append])⟩
end
end Go.Proofs.Lite

namespace Go.Proofs.Lite
open Go
section
variable {P : Program} {F : FnsA} (h : IsA P F)
include h
set_option maxRecDepth 20000 in
theorem I_size_down_pf (A n : Nat) (hA : A < bW) (hn : n ≤ 191) : Pf P F.I_size_down [.agg (mg A), .raw (.int .i64 (n : Nat))] (.agg (mg (A / 2 ^ n))) := by
  refine pf_of h.I_size_down (by simp only [noixL, noix, NX, and_true, true_and]) (by simp only [noixL, noix, NX, and_true, true_and]) ?_
  obtain ⟨q, r, hr, hq⟩ : ∃ q r, r < 32 ∧ n = 32 * q + r := ⟨n / 32, n % 32, by omega, by omega⟩
  have hq1 : n / 32 = q := by omega
  have hr1 : n % 32 = r := by omega
  have hW : A / 2 ^ n = A / b32 ^ q / 2 ^ r := by rw [hq, Nat.pow_add, ← b32_pow, Nat.div_div_eq_div_mul]
  have hWd : ∀ k, dig (A / 2 ^ n) k = dig A (k + q) / 2 ^ r + dig A (k + 1 + q) * 2 ^ (32 - r) % 4294967296 := fun k => by
    rw [hW, dig_down_add (by omega), dig_divq, dig_divq]
  have hWo : ∀ k, dig A (k + q) / 2 ^ r ||| dig A (k + 1 + q) * 2 ^ (32 - r) % 4294967296 = dig (A / 2 ^ n) k := fun k => by
    rw [hW, ← dig_divq, ← dig_divq, dig_down_or (by omega)]
  simp (disch := omega) only [seval, ↓SDX, isRes, slEl, bslParts, mmAll, mmR, SUX, List.replicate, List.append, pr, lr, er, binR, ev, putA, List.set, intOf, takeAg, cellsOf, wrAll, partsOk, ones, one, isOne, wok1, findPE, List.find?, nop, prlr, isPure, pickR, optInt, rets, rv, rvs, I_size_down_c, CN, hq1, hr1, IntKind.bits]
  clear hW
  generalize A / 2 ^ n = W at *
  have hq5 : q ≤ 5 := by omega
  refine loop_st (fun s : Nat × Nat => 6 - s.1) (fun s => ([.junk, .junk, .ptr 0 0, .junk, .ptr 1 0, .ptr 2 0, .raw (.int .i64 (q : Nat)), .raw (.int .i64 (r : Nat)), .raw (.int .i64 (s.1 : Nat))] ++ List.replicate 44 .junk)) (fun s => [.c (mg A), .c (mg 0), .c (mg s.2)])
    (fun s => s.1 + q ≤ 6 ∧ ∀ j, j < 6 → dig s.2 j = if j < s.1 then dig W j else 0) (0, 0) ⟨by simp only []; omega, fun j hj => by
      simp only []; rw [if_neg (by omega)]; exact digB_low_ge (b := 4294967296) (A := 0) (k := 0) (by decide) (by omega)⟩ (Wk.tmps (by simp [fits])) ?_
  rintro ⟨k, X⟩ ⟨hs, hX⟩
  dsimp only at hs hX ⊢
  clear hn hq hq1 hr1
  by_cases h0 : k + q = 6
  · have hm : mg X = mg W := mg_digs (fun j hj => by
      rw [hX j hj]
      by_cases hj2 : j < k
      · rw [if_pos hj2]
      · rw [if_neg hj2, hWd, dig_top hA (by omega), dig_top hA (by omega)]; simp)
    clear hX hWd hWo
    simp (disch := omega) only [seval, ↓SDX, isRes, slEl, bslParts, mmAll, mmR, SUX, List.replicate, List.append, pr, lr, er, binR, ev, putA, List.set, intOf, takeAg, cellsOf, wrAll, partsOk, ones, one, isOne, wok1, findPE, List.find?, nop, prlr, isPure, pickR, optInt, rets, rv, rvs, CN, hm, IntKind.bits]
    exact WkV.eq (by first | rfl | simp) (by first | trivial | (simp only [noix, noixL, NX, and_true, true_and]; done))
  have hx := hX k (by omega)
  rw [if_neg (by omega)] at hx
  have hdq := dig_lt W k
  have hstep : ∀ d, d = dig W k → ∃ s' : Nat × Nat, 6 - s'.1 < 6 - k ∧ (s'.1 + q ≤ 6 ∧ ∀ j, j < 6 → dig s'.2 j = if j < s'.1 then dig W j else 0) ∧ s' = (k + 1, setd X k d) := by
    intro d hd
    refine ⟨_, by dsimp only; omega, ⟨by dsimp only; omega, fun j hj => ?_⟩, rfl⟩
    subst hd
    dsimp only
    by_cases hjk : j = k
    · subst hjk; rw [dig_setd hdq, if_pos (by omega)]
    · rw [dig_setd_ne hdq hjk, hX j hj]
      by_cases hlt : j < k
      · rw [if_pos hlt, if_pos (by omega)]
      · rw [if_neg hlt, if_neg (by omega)]
  have hsub2 : (32 : Int) - (r : Int) = ((32 - r : Nat) : Int) := by omega
  have hdm := dig_lt A (k + q)
  have hp2 : dig A (k + q) / 2 ^ r < 4294967296 := Nat.lt_of_le_of_lt (Nat.div_le_self _ _) hdm
  have hWk := hWd k
  have hWok := hWo k
  rw [show k + 1 + q = k + q + 1 from by omega] at hWk hWok
  clear hX hWd hWo
  by_cases hr0 : 0 < r
  · by_cases hk5 : k + q + 1 < 6
    · have hdm2 := dig_lt A (k + q + 1)
      have hpr : 2 ^ (32 - r) ≤ 2147483648 := Nat.pow_le_pow_right (n := 2) (i := 32 - r) (j := 31) (by decide) (by omega)
      have hd3 : dig A (k + q + 1) * 2 ^ (32 - r) % 4294967296 < 4294967296 := Nat.mod_lt _ (by decide)
      have hset : dig (setd X k (dig A (k + q) / 2 ^ r)) k = dig A (k + q) / 2 ^ r := dig_setd hp2
      have hset2 : ∀ d, d < 4294967296 → mg (setd (setd X k (dig A (k + q) / 2 ^ r)) k d) = mg (setd X k d) := fun d hd => mg_digs (fun j hj => by
        by_cases hjk : j = k
        · subst hjk; rw [dig_setd hd, dig_setd hd]
        · rw [dig_setd_ne hd hjk, dig_setd_ne hp2 hjk, dig_setd_ne hd hjk])
      obtain ⟨s', g1, g2, rfl⟩ := hstep _ hWok
      have hor := or_lt32 hp2 hd3
      have hset3 := hset2 _ hor
      clear hstep hWk hWok hset2
      simp (disch := omega) only [seval, ↓SDX, isRes, slEl, bslParts, mmAll, mmR, SUX, List.replicate, List.append, pr, lr, er, binR, ev, putA, List.set, intOf, takeAg, cellsOf, wrAll, partsOk, ones, one, isOne, wok1, findPE, List.find?, nop, prlr, isPure, pickR, optInt, rets, rv, rvs, CN, hsub2, hset, hset3, IntKind.bits]
      exact ⟨_, g1, g2, Wk.tmps (by simp only [fits, eq_self, and_self, Int.cast_ofNat_Int, Int.natCast_add, and_true, true_and, List.replicate, List.cons_append, List.nil_append])⟩
    · have e1 : dig A (k + q) / 2 ^ r = dig W k := by rw [hWk, dig_top (j := k + q + 1) hA (by omega)]; simp
      obtain ⟨s', g1, g2, rfl⟩ := hstep _ e1
      clear hstep hWk hWok e1
      have hw := mg_wrd (A := X) (k := k) (by omega) hp2
      simp (disch := omega) only [seval, ↓SDX, isRes, slEl, bslParts, mmAll, mmR, SUX, List.replicate, List.append, pr, lr, er, binR, ev, putA, List.set, intOf, takeAg, cellsOf, wrAll, partsOk, ones, one, isOne, wok1, findPE, List.find?, nop, prlr, isPure, pickR, optInt, rets, rv, rvs, CN, hsub2, hw, IntKind.bits]
      exact ⟨_, g1, g2, Wk.tmps (by simp only [fits, eq_self, and_self, Int.cast_ofNat_Int, Int.natCast_add, and_true, true_and, List.replicate, List.cons_append, List.nil_append])⟩
  · have hr00 : r = 0 := by omega
    subst hr00
    have e1 : dig A (k + q) / 2 ^ 0 = dig W k := by
      rw [hWk, show 32 - 0 = 32 from rfl, show (2 : Nat) ^ 32 = 4294967296 from rfl, Nat.mul_mod_left, Nat.add_zero]
    rw [Nat.pow_zero, Nat.div_one] at e1
    obtain ⟨s', g1, g2, rfl⟩ := hstep _ e1
    clear hstep hWk hWok e1 hp2
    simp (disch := omega) only [seval, ↓SDX, isRes, slEl, bslParts, mmAll, mmR, SUX, List.replicate, List.append, pr, lr, er, binR, ev, putA, List.set, intOf, takeAg, cellsOf, wrAll, partsOk, ones, one, isOne, wok1, findPE, List.find?, nop, prlr, isPure, pickR, optInt, rets, rv, rvs, CN, Nat.pow_zero, Nat.div_one, IntKind.bits]
    exact ⟨_, g1, g2, Wk.tmps (by simp only [fits, eq_self, and_self, Int.cast_ofNat_Int, Int.natCast_add, and_true, true_and, List.replicate, List.cons_append, List.nil_append])⟩
end
end Go.Proofs.Lite

namespace Go.Proofs.Lite
open Go
section
variable {P : Program} {F : FnsA} (h : IsA P F)
include h
set_option maxRecDepth 20000 in
set_option maxHeartbeats 1000000 in
theorem I_divideStep_ct (m U V : Nat) (hm : m ≤ 4) (hV : V < b32 ^ (m + 2)) (hU : U < b32 ^ (m + 3)) (hn : 2147483648 ≤ dig V (m + 1)) (hUV : U < V * 4294967296) :
    Ct P F.I_divideStep [.sl 0 1 0 (m + 3) false, .ro 1 (m + 2) (lm (m + 2) V)] [.c (lm (m + 3) U)] (fun v' H' => H' = [.c (lm (m + 3) (U % V))] ∧ v' = .raw (.int .u32 (U / V : Nat))) := by
  obtain ⟨Q, hQ⟩ : ∃ Q, U / V = Q := ⟨_, rfl⟩
  obtain ⟨R, hR⟩ : ∃ R, U % V = R := ⟨_, rfl⟩
  rw [hQ, hR]
  refine own_of h.I_divideStep ?_
  have s1 : ((m + 2 : Nat) : Int) - 1 = ((m + 1 : Nat) : Int) := by omega
  have s2 : ((m + 2 : Nat) : Int) - 2 = ((m : Nat) : Int) := by omega
  have hk := kd_split hV hU
  have hv1 := dig_lt V (m + 1)
  have hv2 := dig_lt V m
  have hu3 := dig_lt U (m + 2)
  have hu1 := dig_lt U (m + 1)
  have hu2 := dig_lt U m
  have hor := or_shl (x := dig U (m + 2)) hu1
  obtain ⟨top, htop⟩ : ∃ top, top = dig U (m + 2) * 4294967296 + dig U (m + 1) := ⟨_, rfl⟩
  rw [← htop] at hor hk
  have htl : top < 18446744073709551616 := by omega
  clear htop
  have hq0 := kd_q0 hk.hV hk.hv hv2 hk.hU hUV hn
  have hge : U / V ≤ top / dig V (m + 1) := by
    rcases kd_top hk.hV hk.hv hv2 hk.hU hk.hu hu2 with h1 | h1
    · exact h1
    · omega
  have hdm : top = top / dig V (m + 1) * dig V (m + 1) + top % dig V (m + 1) := by rw [Nat.mul_comm, Nat.div_add_mod]
  have hr0 : top % dig V (m + 1) < dig V (m + 1) := Nat.mod_lt _ (by omega)
  obtain ⟨q0, hq0e⟩ : ∃ q, top / dig V (m + 1) = q := ⟨_, rfl⟩
  obtain ⟨r0, hr0e⟩ : ∃ r, top % dig V (m + 1) = r := ⟨_, rfl⟩
  rw [hq0e] at hq0 hge hdm
  rw [hr0e] at hr0 hdm
  rw [hQ] at hge
  simp (disch := omega) only [seval, ↓SDX, isRes, slEl, bslParts, mmAll, mmR, SUX, List.replicate, List.append, pr, lr, er, binR, ev, putA, List.set, intOf, takeAg, cellsOf, wrAll, partsOk, ones, one, isOne, wok1, findPE, List.find?, nop, prlr, isPure, pickR, optInt, rets, rv, rvs, I_divideStep_c, CN, s1, s2, hor, hq0e, hr0e, IntKind.bits]
  have hVp : 0 < V := by
    rcases Nat.eq_zero_or_pos V with h0 | h0
    · subst h0; rw [Nat.zero_mul] at hUV; omega
    · exact h0
  have hqb : Q < 4294967296 := by rw [← hQ]; exact Nat.div_lt_of_lt_mul hUV
  refine loop_cut (τ := Nat) (fun q => ([.sl 0 1 0 (m + 3) false, .ro 1 (m + 2) (lm (m + 2) V), .junk, .junk, .raw (.int .u32 0), .raw (.int .i64 (m + 2 : Nat)), .junk, .raw (.int .u64 (q : Nat))] ++ List.replicate 162 .junk)) (fun _ => [.c (lm (m + 3) U)]) (fun q => Q ≤ q ∧ q * V < U + V ∧ q ≤ 4294967296) ?_ ?_
  · refine loop_st (fun s : Nat × Nat => 4294967296 - s.2) (fun s => ([.sl 0 1 0 (m + 3) false, .ro 1 (m + 2) (lm (m + 2) V), .junk, .junk, .raw (.int .u32 0), .raw (.int .i64 (m + 2 : Nat)), .junk, .raw (.int .u64 (s.1 : Nat)), .raw (.int .u64 (s.2 : Nat))] ++ List.replicate 161 .junk)) (fun _ => [.c (lm (m + 3) U)])
      (fun s => top = s.1 * dig V (m + 1) + s.2 ∧ Q ≤ s.1 ∧ s.2 < 4294967296 ∧ s.1 ≤ 4294967297) (q0, r0) ⟨hdm, hge, Nat.lt_trans hr0 hv1, hq0⟩ (Wk.tmps (by simp only [fits, eq_self, and_self, Int.cast_ofNat_Int, Int.natCast_add, and_true, true_and, List.replicate, List.cons_append, List.nil_append])) ?_
    rintro ⟨q, r⟩ ⟨ht, hq, hr, hq2⟩
    dsimp only at ht hq hr hq2 ⊢
    have hor2 := or_shl (x := r) hu2
    by_cases hA : 4294967296 ≤ q
    · have hA2 : q / 4294967296 = 1 := by omega
      obtain ⟨p, rfl⟩ : ∃ p, q = p + 1 := ⟨q - 1, by omega⟩
      have sp : ((p + 1 : Nat) : Int) - 1 = (p : Int) := by omega
      have ht2 : top = p * dig V (m + 1) + (r + dig V (m + 1)) := by rw [ht, Nat.add_mul, Nat.one_mul]; omega
      by_cases hC : 4294967296 ≤ r + dig V (m + 1)
      · have hend := kd_le_b hk.hV hv2 hk.hv hk.hU ht2 (by omega) hC
        have hC2 : (r + dig V (m + 1)) / 4294967296 = 1 := by omega
        clear hk hor hUV hU hV hVp hQ hR hq0e hr0e hdm ht ht2 hor2
        simp (disch := omega) only [seval, ↓SDX, isRes, slEl, bslParts, mmAll, mmR, SUX, List.replicate, List.append, pr, lr, er, binR, ev, putA, List.set, intOf, takeAg, cellsOf, wrAll, partsOk, ones, one, isOne, wok1, findPE, List.find?, nop, prlr, isPure, pickR, optInt, rets, rv, rvs, CN, s1, s2, sp, hA2, hC2, IntKind.bits]
        exact ⟨p, ⟨by omega, hend, by omega⟩, Wk.tmps (by simp only [fits, eq_self, and_self, Int.cast_ofNat_Int, Int.natCast_add, and_true, true_and, List.replicate, List.cons_append, List.nil_append])⟩
      · have hC2 : (r + dig V (m + 1)) / 4294967296 = 0 := by omega
        clear hk hor hUV hU hV hVp hQ hR hq0e hr0e hdm ht hor2
        simp (disch := omega) only [seval, ↓SDX, isRes, slEl, bslParts, mmAll, mmR, SUX, List.replicate, List.append, pr, lr, er, binR, ev, putA, List.set, intOf, takeAg, cellsOf, wrAll, partsOk, ones, one, isOne, wok1, findPE, List.find?, nop, prlr, isPure, pickR, optInt, rets, rv, rvs, CN, s1, s2, sp, hA2, hC2, IntKind.bits]
        exact ⟨(p, r + dig V (m + 1)), by dsimp only; omega, ⟨ht2, by dsimp only; omega, by dsimp only; omega, by dsimp only; omega⟩, Wk.tmps (by simp only [fits, eq_self, and_self, Int.cast_ofNat_Int, Int.natCast_add, and_true, true_and, List.replicate, List.cons_append, List.nil_append])⟩
    · have hqv : q * dig V m < 18446744073709551616 := Nat.mul_lt_mul'' (c := 4294967296) (by omega) hv2
      by_cases hB : r * 4294967296 + dig U m < q * dig V m
      · have hqq : Q < q := by
          rw [← hQ]
          exact Nat.div_lt_of_lt_mul (by rw [Nat.mul_comm]; exact kd_ge hk.hV hk.hU hk.hu ht hB)
        obtain ⟨p, rfl⟩ : ∃ p, q = p + 1 := ⟨q - 1, by omega⟩
        have sp : ((p + 1 : Nat) : Int) - 1 = (p : Int) := by omega
        obtain ⟨w, hw⟩ : ∃ w, w = r * 4294967296 + dig U m := ⟨_, rfl⟩
        rw [← hw] at hor2 hB
        have hwl : w < 18446744073709551616 := by omega
        have ht2 : top = p * dig V (m + 1) + (r + dig V (m + 1)) := by rw [ht, Nat.add_mul, Nat.one_mul]; omega
        by_cases hC : 4294967296 ≤ r + dig V (m + 1)
        · have hend := kd_le_b hk.hV hv2 hk.hv hk.hU ht2 (by omega) hC
          have hC2 : (r + dig V (m + 1)) / 4294967296 = 1 := by omega
          clear hw hk hor hUV hU hV hVp hQ hR hq0e hr0e hdm ht ht2
          simp (disch := omega) only [seval, ↓SDX, isRes, slEl, bslParts, mmAll, mmR, SUX, List.replicate, List.append, pr, lr, er, binR, ev, putA, List.set, intOf, takeAg, cellsOf, wrAll, partsOk, ones, one, isOne, wok1, findPE, List.find?, nop, prlr, isPure, pickR, optInt, rets, rv, rvs, CN, s1, s2, hor2, sp, hC2, IntKind.bits]
          exact ⟨p, ⟨by omega, hend, by omega⟩, Wk.tmps (by simp only [fits, eq_self, and_self, Int.cast_ofNat_Int, Int.natCast_add, and_true, true_and, List.replicate, List.cons_append, List.nil_append])⟩
        · have hC2 : (r + dig V (m + 1)) / 4294967296 = 0 := by omega
          clear hw hk hor hUV hU hV hVp hQ hR hq0e hr0e hdm ht
          simp (disch := omega) only [seval, ↓SDX, isRes, slEl, bslParts, mmAll, mmR, SUX, List.replicate, List.append, pr, lr, er, binR, ev, putA, List.set, intOf, takeAg, cellsOf, wrAll, partsOk, ones, one, isOne, wok1, findPE, List.find?, nop, prlr, isPure, pickR, optInt, rets, rv, rvs, CN, s1, s2, hor2, sp, hC2, IntKind.bits]
          exact ⟨(p, r + dig V (m + 1)), by dsimp only; omega, ⟨ht2, by dsimp only; omega, by dsimp only; omega, by dsimp only; omega⟩, Wk.tmps (by simp only [fits, eq_self, and_self, Int.cast_ofNat_Int, Int.natCast_add, and_true, true_and, List.replicate, List.cons_append, List.nil_append])⟩
      · have hend := kd_le_a hk.hV hk.hv (by omega) hk.hU ht (by omega) (by omega)
        obtain ⟨w, hw⟩ : ∃ w, w = r * 4294967296 + dig U m := ⟨_, rfl⟩
        rw [← hw] at hor2 hB
        have hwl : w < 18446744073709551616 := by omega
        clear hw hk hor hUV hU hV hVp hQ hR hq0e hr0e hdm
        simp (disch := omega) only [seval, ↓SDX, isRes, slEl, bslParts, mmAll, mmR, SUX, List.replicate, List.append, pr, lr, er, binR, ev, putA, List.set, intOf, takeAg, cellsOf, wrAll, partsOk, ones, one, isOne, wok1, findPE, List.find?, nop, prlr, isPure, pickR, optInt, rets, rv, rvs, CN, s1, s2, hor2, IntKind.bits]
        exact ⟨q, ⟨hq, hend, by omega⟩, Wk.tmps (by simp only [fits, eq_self, and_self, Int.cast_ofNat_Int, Int.natCast_add, and_true, true_and, List.replicate, List.cons_append, List.nil_append])⟩
  intro q ⟨hq, hqV, hqb2⟩
  clear hk hor hn hUV hq0e hr0e hdm hge hq0 hr0 htl hu3 hu1 hu2 hv1 hv2
  simp (disch := omega) only [seval, ↓SDX, isRes, slEl, bslParts, mmAll, mmR, SUX, List.replicate, List.append, pr, lr, er, binR, ev, putA, List.set, intOf, takeAg, cellsOf, wrAll, partsOk, ones, one, isOne, wok1, findPE, List.find?, nop, prlr, isPure, pickR, optInt, rets, rv, rvs, IntKind.bits]
  refine loop_cut (τ := Nat × Nat × Nat) (fun s => ([.sl 0 1 0 (m + 3) false, .ro 1 (m + 2) (lm (m + 2) V), .junk, .junk, .raw (.int .u32 0), .raw (.int .i64 (m + 2 : Nat)), .junk, .raw (.int .u64 (q : Nat)), .junk, .raw (.int .u64 (s.2.2 : Nat)), .raw (.int .u64 (s.2.1 : Nat))] ++ List.replicate 159 .junk)) (fun s => [.c (lm (m + 3) s.1)])
    (fun s => dig s.1 (m + 2) = dig U (m + 2) ∧ low s.1 (m + 2) + q * low V (m + 2) = low U (m + 2) + b32 ^ (m + 2) * (s.2.1 + s.2.2) ∧ s.2.1 < 4294967296 ∧ s.2.2 ≤ 1) ?_ ?_
  · refine loop_st (fun s : Nat × Nat × Nat × Nat => m + 2 - s.1) (fun s => ([.sl 0 1 0 (m + 3) false, .ro 1 (m + 2) (lm (m + 2) V), .junk, .junk, .raw (.int .u32 0), .raw (.int .i64 (m + 2 : Nat)), .junk, .raw (.int .u64 (q : Nat)), .junk, .raw (.int .u64 (s.2.2.2 : Nat)), .raw (.int .u64 (s.2.2.1 : Nat)), .junk, .junk, .junk, .junk, .junk, .junk, .junk, .junk, .junk, .junk, .junk, .junk, .junk, .junk, .junk, .junk, .junk, .junk, .junk, .junk, .junk, .junk, .junk, .junk, .junk, .junk, .junk, .junk, .junk, .junk, .junk, .junk, .junk, .junk, .junk, .junk, .junk, .junk, .junk, .junk, .junk, .junk, .junk, .junk, .junk, .junk, .junk, .junk, .junk, .junk, .junk, .junk, .junk, .junk, .junk, .junk, .junk, .junk, .junk, .junk, .junk, .junk, .junk, .junk, .junk, .junk, .junk, .junk, .junk, .junk, .junk, .raw (.int .i64 (m + 2 : Nat)), .raw (.int .i64 (s.1 : Nat))] ++ List.replicate 86 .junk)) (fun s => [.c (lm (m + 3) s.2.1)])
      (fun s => s.1 ≤ m + 2 ∧ (∀ j, s.1 ≤ j → dig s.2.1 j = dig U j) ∧ low s.2.1 s.1 + q * low V s.1 = low U s.1 + b32 ^ s.1 * (s.2.2.1 + s.2.2.2) ∧ s.2.2.1 < 4294967296 ∧ s.2.2.2 ≤ 1) (0, U, 0, 0)
      ⟨by dsimp only; omega, fun _ _ => rfl, by dsimp only; rw [low_zero, low_zero]; simp, by dsimp only; omega, by dsimp only; omega⟩ (Wk.tmps (by simp only [fits, eq_self, and_self, Int.cast_ofNat_Int, Int.natCast_add, and_true, true_and, List.replicate, List.cons_append, List.nil_append])) ?_
    rintro ⟨i, X, c, br⟩ ⟨hi, hX, hinv, hc, hbr⟩
    dsimp only at hi hX hinv hc hbr ⊢
    by_cases hi2 : i = m + 2
    · subst hi2
      have hX2 := hX (m + 2) (Nat.le_refl _)
      clear hX hQ hR
      simp (disch := omega) only [seval, ↓SDX, isRes, slEl, bslParts, mmAll, mmR, SUX, List.replicate, List.append, pr, lr, er, binR, ev, putA, List.set, intOf, takeAg, cellsOf, wrAll, partsOk, ones, one, isOne, wok1, findPE, List.find?, nop, prlr, isPure, pickR, optInt, rets, rv, rvs, CN, IntKind.bits]
      exact ⟨(X, c, br), ⟨hX2, hinv, hc, hbr⟩, Wk.tmps (by simp only [fits, eq_self, and_self, Int.cast_ofNat_Int, Int.natCast_add, and_true, true_and, List.replicate, List.cons_append, List.nil_append])⟩
    · have hx := hX i (Nat.le_refl _)
      have hxl := dig_lt U i
      have hvl := dig_lt V i
      have hcar := ms_carry hqb2 hvl hc
      obtain ⟨g1, g2⟩ := hcar
      have hyl : (c + q * dig V i) % 4294967296 < 4294967296 := Nat.mod_lt _ (by decide)
      obtain ⟨y, hy⟩ : ∃ y, (c + q * dig V i) % 4294967296 = y := ⟨_, rfl⟩
      obtain ⟨z, hz⟩ : ∃ z, (c + q * dig V i) / 4294967296 = z := ⟨_, rfl⟩
      have hqv : q * dig V i < 18446744073709551616 := by omega
      have fin : ∀ D br', D < 4294967296 → br' ≤ 1 → D + y + br = dig U i + 4294967296 * br' → ∃ s' : Nat × Nat × Nat × Nat, m + 2 - s'.1 < m + 2 - i ∧ (s'.1 ≤ m + 2 ∧ (∀ j, s'.1 ≤ j → dig s'.2.1 j = dig U j) ∧ low s'.2.1 s'.1 + q * low V s'.1 = low U s'.1 + b32 ^ s'.1 * (s'.2.2.1 + s'.2.2.2) ∧ s'.2.2.1 < 4294967296 ∧ s'.2.2.2 ≤ 1) ∧ s' = (i + 1, setd X i D, z, br') := by
        intro D br' hD hb' hd
        refine ⟨_, by dsimp only; omega, ⟨by dsimp only; omega, fun j hj => ?_, ?_, ?_, hb'⟩, rfl⟩
        · dsimp only at hj ⊢
          rw [dig_setd_ne hD (by omega)]; exact hX j (by omega)
        · dsimp only
          have := ms_step hx hinv hD (by rw [hy]; exact hd)
          rw [hz] at this; exact this
        · dsimp only; rw [← hz]; exact g2
      rw [hy] at hyl
      rw [hz] at g2
      clear hX hQ hR hinv
      rcases Nat.lt_or_ge (dig U i) y with h1 | h1
      · have f1 : IntKind.u64.wrap (((dig U i : Nat) : Int) - (y : Int)) = ((dig U i + 18446744073709551616 - y : Nat) : Int) := by rw [u64_wrap]; omega
        obtain ⟨D0, hD0⟩ : ∃ D, D = dig U i + 18446744073709551616 - y - br := ⟨_, rfl⟩
        have f2 : IntKind.u64.wrap (((dig U i + 18446744073709551616 - y : Nat) : Int) - (br : Int)) = (D0 : Int) := by rw [u64_wrap]; omega
        obtain ⟨D, hD⟩ : ∃ D, D0 % 4294967296 = D := ⟨_, rfl⟩
        have m2 : D0 / 9223372036854775808 = 1 := by omega
        obtain ⟨s', k1, k2, rfl⟩ := fin D 1 (by omega) (by omega) (by omega)
        have hDl : D < 4294967296 := by omega
        clear fin hD0
        simp (disch := omega) only [seval, ↓SDX, isRes, slEl, bslParts, mmAll, mmR, SUX, List.replicate, List.append, pr, lr, er, binR, ev, putA, List.set, intOf, takeAg, cellsOf, wrAll, partsOk, ones, one, isOne, wok1, findPE, List.find?, nop, prlr, isPure, pickR, optInt, rets, rv, rvs, CN, hx, hy, hz, f1, f2, hD, m2, IntKind.bits]
        exact ⟨_, k1, k2, Wk.tmps (by simp only [fits, eq_self, and_self, Int.cast_ofNat_Int, Int.natCast_add, and_true, true_and, List.replicate, List.cons_append, List.nil_append])⟩
      · rcases Nat.lt_or_ge (dig U i) (y + br) with h2 | h2
        · obtain ⟨D0, hD0⟩ : ∃ D, D = dig U i + 18446744073709551616 - y - br := ⟨_, rfl⟩
          have f2 : IntKind.u64.wrap (((dig U i : Nat) : Int) - (y : Int) - (br : Int)) = (D0 : Int) := by rw [u64_wrap]; omega
          obtain ⟨D, hD⟩ : ∃ D, D0 % 4294967296 = D := ⟨_, rfl⟩
          have m2 : D0 / 9223372036854775808 = 1 := by omega
          obtain ⟨s', k1, k2, rfl⟩ := fin D 1 (by omega) (by omega) (by omega)
          have hDl : D < 4294967296 := by omega
          clear fin hD0
          simp (disch := omega) only [seval, ↓SDX, isRes, slEl, bslParts, mmAll, mmR, SUX, List.replicate, List.append, pr, lr, er, binR, ev, putA, List.set, intOf, takeAg, cellsOf, wrAll, partsOk, ones, one, isOne, wok1, findPE, List.find?, nop, prlr, isPure, pickR, optInt, rets, rv, rvs, CN, hx, hy, hz, f2, hD, m2, IntKind.bits]
          exact ⟨_, k1, k2, Wk.tmps (by simp only [fits, eq_self, and_self, Int.cast_ofNat_Int, Int.natCast_add, and_true, true_and, List.replicate, List.cons_append, List.nil_append])⟩
        · obtain ⟨D, hD0⟩ : ∃ D, D = dig U i - y - br := ⟨_, rfl⟩
          have f2 : ((dig U i : Nat) : Int) - (y : Int) - (br : Int) = (D : Int) := by omega
          have hDl : D < 4294967296 := by omega
          have m2 : D / 9223372036854775808 = 0 := by omega
          obtain ⟨s', k1, k2, rfl⟩ := fin D 0 (by omega) (by omega) (by omega)
          clear fin hD0
          simp (disch := omega) only [seval, ↓SDX, isRes, slEl, bslParts, mmAll, mmR, SUX, List.replicate, List.append, pr, lr, er, binR, ev, putA, List.set, intOf, takeAg, cellsOf, wrAll, partsOk, ones, one, isOne, wok1, findPE, List.find?, nop, prlr, isPure, pickR, optInt, rets, rv, rvs, CN, hx, hy, hz, f2, m2, IntKind.bits]
          exact ⟨_, k1, k2, Wk.tmps (by simp only [fits, eq_self, and_self, Int.cast_ofNat_Int, Int.natCast_add, and_true, true_and, List.replicate, List.cons_append, List.nil_append])⟩
  rintro ⟨X, c, br⟩ ⟨hX, hinv, hc, hbr⟩
  dsimp only at hX hinv hc hbr ⊢
  have hxl := dig_lt U (m + 2)
  obtain ⟨x, hxe⟩ : ∃ x, dig U (m + 2) = x := ⟨_, rfl⟩
  rw [hxe] at hX hxl
  by_cases hgood : c + br ≤ x
  · obtain ⟨e1, e2⟩ := ms_good hV hU hVp hinv (by rw [hxe]; exact hgood) (by rw [hQ]; exact hq)
    rw [hQ] at e1
    rw [hR, hxe] at e2
    subst e1
    obtain ⟨D, hD⟩ : ∃ D, D = x - (c + br) := ⟨_, rfl⟩
    have f2 : (x : Int) - (c : Int) - (br : Int) = (D : Int) := by omega
    have hDl : D < 4294967296 := by omega
    have m2 : D / 9223372036854775808 = 0 := by omega
    have hfin : lm (m + 3) (setd X (m + 2) D) = lm (m + 3) R := by
      rw [← lm_mod (A := setd X (m + 2) D), ← lm_mod (A := R)]
      congr 1
      have : setd X (m + 2) D % b32 ^ (m + 3) = low (setd X (m + 2) D) (m + 3) := rfl
      rw [this, low_setd hDl, hD, e2, Nat.mod_eq_of_lt]
      rw [← hR]
      exact Nat.lt_trans (Nat.mod_lt _ hVp) (Nat.lt_of_lt_of_le hV (Nat.pow_le_pow_right (by decide) (by omega)))
    clear hQ hR hinv hV hU hVp e2 hq hqV hD hxe
    simp (disch := omega) only [seval, ↓SDX, isRes, slEl, bslParts, mmAll, mmR, SUX, List.replicate, List.append, pr, lr, er, binR, ev, putA, List.set, intOf, takeAg, cellsOf, wrAll, partsOk, ones, one, isOne, wok1, findPE, List.find?, nop, prlr, isPure, pickR, optInt, rets, rv, rvs, CN, hX, f2, m2, hfin, IntKind.bits]
    exact WkV.eq1 rfl trivial rfl (noixL_lm _ _)
  · obtain ⟨e1, e2, e3⟩ := ms_bad hV hU hVp hinv (by rw [hxe]; omega) hqV
    rw [hQ] at e1
    rw [hxe] at e2
    rw [hR] at e3
    subst e1
    obtain ⟨D0, hD0⟩ : ∃ D, D = 18446744073709551615 := ⟨_, rfl⟩
    obtain ⟨T1, hT⟩ : ∃ T, T = 4294967295 := ⟨_, rfl⟩
    have f2 : IntKind.u64.wrap (IntKind.u64.wrap ((x : Int) - (c : Int)) - (br : Int)) = (D0 : Int) := by rw [u64_wrap, u64_wrap]; omega
    have m1 : D0 % 4294967296 = T1 := by omega
    have m2 : D0 / 9223372036854775808 = 1 := by omega
    have hTl : T1 < 4294967296 := by omega
    have hRV : R < V := by rw [← hR]; exact Nat.mod_lt _ hVp
    have hRn : R < b32 ^ (m + 2) := Nat.lt_trans hRV hV
    obtain ⟨Y, hY⟩ : ∃ Y, setd X (m + 2) T1 = Y := ⟨_, rfl⟩
    have hYn : dig Y (m + 2) = T1 := by rw [← hY]; exact dig_setd hTl
    have hYl : low Y (m + 2) = low X (m + 2) := by rw [← hY]; exact setd_mod _ _ _
    obtain ⟨hca, hdg⟩ := ab_end hV hRn (by rw [hYl]; exact e3)
    have hRz : dig R (m + 2) = 0 := by rw [dig_def, Nat.div_eq_of_lt hRn, Nat.zero_mod]
    clear hQ hR hinv hU hVp hq hqV hxe hYl hRn hRV hV e3
    simp (disch := omega) only [seval, ↓SDX, isRes, slEl, bslParts, mmAll, mmR, SUX, List.replicate, List.append, pr, lr, er, binR, ev, putA, List.set, intOf, takeAg, cellsOf, wrAll, partsOk, ones, one, isOne, wok1, findPE, List.find?, nop, prlr, isPure, pickR, optInt, rets, rv, rvs, CN, hX, f2, m1, m2, hY, IntKind.bits]
    clear hD0 f2 m1 m2
    refine loop_st (fun s : Nat × Nat => m + 2 - s.1) (fun s => ([.sl 0 1 0 (m + 3) false, .ro 1 (m + 2) (lm (m + 2) V), .junk, .junk, .raw (.int .u32 0), .raw (.int .i64 (m + 2 : Nat)), .junk, .raw (.int .u64 (Q + 1 : Nat)), .junk, .junk, .raw (.int .u64 (carry Y V s.1 : Nat)), .junk, .junk, .junk, .junk, .junk, .junk, .junk, .junk, .junk, .junk, .junk, .junk, .junk, .junk, .junk, .junk, .junk, .junk, .junk, .junk, .junk, .junk, .junk, .junk, .junk, .junk, .junk, .junk, .junk, .junk, .junk, .junk, .junk, .junk, .junk, .junk, .junk, .junk, .junk, .junk, .junk, .junk, .junk, .junk, .junk, .junk, .junk, .junk, .junk, .junk, .junk, .junk, .junk, .junk, .junk, .junk, .junk, .junk, .junk, .junk, .junk, .junk, .junk, .junk, .junk, .junk, .junk, .junk, .junk, .junk, .junk, .junk, .junk, .junk, .junk, .junk, .junk, .junk, .junk, .junk, .junk, .junk, .junk, .junk, .junk, .junk, .junk, .junk, .junk, .junk, .junk, .junk, .junk, .junk, .junk, .junk, .junk, .junk, .junk, .junk, .junk, .junk, .junk, .junk, .junk, .junk, .junk, .junk, .junk, .junk, .junk, .junk, .junk, .junk, .junk, .junk, .junk, .junk, .junk, .junk, .junk, .junk, .junk, .raw (.int .i64 (m + 2 : Nat)), .raw (.int .i64 (s.1 : Nat))] ++ List.replicate 34 .junk)) (fun s => [.c (lm (m + 3) s.2)])
      (fun s => s.1 ≤ m + 2 ∧ ∀ j, j < m + 3 → dig s.2 j = if j < s.1 then dig (Y + V) j else dig Y j) (0, Y) ⟨by dsimp only; omega, fun j hj => by simp⟩ (Wk.tmps (by rw [carry_zero]; exact (by simp only [fits, eq_self, and_self, Int.cast_ofNat_Int, Int.natCast_add, and_true, true_and, List.replicate, List.cons_append, List.nil_append]))) ?_
    rintro ⟨k, Z⟩ ⟨hk, hZ⟩
    dsimp only at hk hZ ⊢
    clear hY
    by_cases hk6 : k < m + 2
    · have hx := hZ k (by omega)
      rw [if_neg (by omega)] at hx
      have hc := carry_le Y V k
      have hA := dig_lt Y k
      have hB := dig_lt V k
      have hd := dig_lt (Y + V) k
      have e1 : (carry Y V k + (dig Y k + dig V k)) % 4294967296 = dig (Y + V) k := by rw [← dig_add]; congr 1; omega
      have e2 : (carry Y V k + (dig Y k + dig V k)) / 4294967296 = carry Y V (k + 1) := by rw [← carry_succ]; congr 1; omega
      have hstep : ∃ s' : Nat × Nat, m + 2 - s'.1 < m + 2 - k ∧ (s'.1 ≤ m + 2 ∧ ∀ j, j < m + 3 → dig s'.2 j = if j < s'.1 then dig (Y + V) j else dig Y j) ∧ s' = (k + 1, setd Z k (dig (Y + V) k)) := by
        refine ⟨_, by dsimp only; omega, ⟨by dsimp only; omega, fun j hj => ?_⟩, rfl⟩
        dsimp only
        by_cases hjk : j = k
        · subst hjk; rw [dig_setd hd, if_pos (by omega)]
        · rw [dig_setd_ne hd hjk, hZ j hj]
          by_cases hlt : j < k
          · rw [if_pos hlt, if_pos (by omega)]
          · rw [if_neg hlt, if_neg (by omega)]
      obtain ⟨s', g1, g2, rfl⟩ := hstep
      clear hZ hdg
      simp (disch := omega) only [seval, ↓SDX, isRes, slEl, bslParts, mmAll, mmR, SUX, List.replicate, List.append, pr, lr, er, binR, ev, putA, List.set, intOf, takeAg, cellsOf, wrAll, partsOk, ones, one, isOne, wok1, findPE, List.find?, nop, prlr, isPure, pickR, optInt, rets, rv, rvs, CN, hx, e1, e2, IntKind.bits]
      exact ⟨_, g1, g2, Wk.tmps (by simp only [fits, eq_self, and_self, Int.cast_ofNat_Int, Int.natCast_add, and_true, true_and, List.replicate, List.cons_append, List.nil_append])⟩
    · have hk7 : k = m + 2 := by omega
      subst hk7
      have hZn := hZ (m + 2) (by omega)
      rw [if_neg (by omega), hYn] at hZn
      have hfin : lm (m + 3) (setd Z (m + 2) 0) = lm (m + 3) R := lm_digs (fun j hj => by
        by_cases hj2 : j = m + 2
        · subst hj2; rw [dig_setd (by decide), hRz]
        · rw [dig_setd_ne (by decide) hj2, hZ j hj, if_pos (by omega), hdg j (by omega)])
      have hT2 : (T1 + 1) % 4294967296 = 0 := by omega
      have sp : ((Q + 1 : Nat) : Int) - 1 = (Q : Int) := by omega
      clear hZ hdg hT hYn hRz
      simp (disch := omega) only [seval, ↓SDX, isRes, slEl, bslParts, mmAll, mmR, SUX, List.replicate, List.append, pr, lr, er, binR, ev, putA, List.set, intOf, takeAg, cellsOf, wrAll, partsOk, ones, one, isOne, wok1, findPE, List.find?, nop, prlr, isPure, pickR, optInt, rets, rv, rvs, CN, hZn, hca, hT2, sp, hfin, IntKind.bits]
      exact WkV.eq1 rfl trivial rfl (noixL_lm _ _)
end
end Go.Proofs.Lite

namespace Go.Proofs.Lite
open Go
section
variable {P : Program} {F : FnsA} (h : IsA P F)
include h
set_option maxRecDepth 20000 in
set_option maxHeartbeats 1000000 in
theorem I_size_by_pf (A B : Nat) (hA : A < bW) (hB0 : 0 < B) (hB : B < bW) : Pf P F.I_size_by [.agg (mg A), .agg (mg B)] (.tup [.agg (mg (A / B)), .agg (mg (A % B))]) := by
  obtain ⟨Q, hQ⟩ : ∃ Q, A / B = Q := ⟨_, rfl⟩
  obtain ⟨R, hR⟩ : ∃ R, A % B = R := ⟨_, rfl⟩
  rw [hQ, hR]
  refine pf_of h.I_size_by (by simp only [noixL, noix, NX, and_true, true_and]) (by simp only [noixL, noix, NX, and_true, true_and]) ?_
  have hnb : nb B ≤ 192 := nb_bW.2 hB
  have hnb0 := nb_pos hB0
  have hAm : A % bW = A := Nat.mod_eq_of_lt hA
  have hBm : B % bW = B := Nat.mod_eq_of_lt hB
  simp (disch := omega) only [seval, ↓SDX, isRes, slEl, bslParts, mmAll, mmR, SUX, List.replicate, List.append, pr, lr, er, binR, ev, putA, List.set, intOf, takeAg, cellsOf, wrAll, partsOk, ones, one, isOne, wok1, findPE, List.find?, nop, prlr, isPure, pickR, optInt, rets, rv, rvs, I_size_by_c, IntKind.bits]
  refine (I_size_bits_pf h B hB).step ?_
  by_cases h1 : (nb B + 31) / 32 = 1
  · have hBl : B < 4294967296 := by
      have : nb B ≤ 32 := by omega
      exact nb_le.1 this
    have hd0 : dig B 0 = B := by rw [dig_def, Nat.pow_zero, Nat.div_one, Nat.mod_eq_of_lt hBl]
    have hp := I_size_bySmall_pf h A B hA hB0 hBl
    rw [hQ, hR] at hp
    have hRl : R < 4294967296 := by rw [← hR]; exact Nat.lt_trans (Nat.mod_lt _ hB0) hBl
    clear hQ hR
    simp (disch := omega) only [seval, ↓SDX, isRes, slEl, bslParts, mmAll, mmR, SUX, List.replicate, List.append, pr, lr, er, binR, ev, putA, List.set, intOf, takeAg, cellsOf, wrAll, partsOk, ones, one, isOne, wok1, findPE, List.find?, nop, prlr, isPure, pickR, optInt, rets, rv, rvs, CN, h1, hd0, IntKind.bits]
    refine hp.step ?_
    simp (disch := omega) only [seval, ↓SDX, isRes, slEl, bslParts, mmAll, mmR, SUX, List.replicate, List.append, pr, lr, er, binR, ev, putA, List.set, intOf, takeAg, cellsOf, wrAll, partsOk, ones, one, isOne, wok1, findPE, List.find?, nop, prlr, isPure, pickR, optInt, rets, rv, rvs, CN, setd_00, IntKind.bits]
    exact WkV.eq (by first | rfl | simp) (by first | trivial | (simp only [noix, noixL, NX, and_true, true_and]; done))
  obtain ⟨m, hm⟩ : ∃ m, (nb B + 31) / 32 = m + 2 := ⟨(nb B + 31) / 32 - 2, by omega⟩
  have hm4 : m ≤ 4 := by omega
  simp (disch := omega) only [seval, ↓SDX, isRes, slEl, bslParts, mmAll, mmR, SUX, List.replicate, List.append, pr, lr, er, binR, ev, putA, List.set, intOf, takeAg, cellsOf, wrAll, partsOk, ones, one, isOne, wok1, findPE, List.find?, nop, prlr, isPure, pickR, optInt, rets, rv, rvs, CN, hm, IntKind.bits]
  refine (I_size_compare_pf h A B).step ?_
  rw [hAm, hBm]
  by_cases hlt : A < B
  · have hc := cmpI_lt hlt
    have e1 : Q = 0 := by rw [← hQ]; exact Nat.div_eq_of_lt hlt
    have e2 : R = A := by rw [← hR]; exact Nat.mod_eq_of_lt hlt
    subst e1 e2
    clear hQ hR
    simp (disch := omega) only [seval, ↓SDX, isRes, slEl, bslParts, mmAll, mmR, SUX, List.replicate, List.append, pr, lr, er, binR, ev, putA, List.set, intOf, takeAg, cellsOf, wrAll, partsOk, ones, one, isOne, wok1, findPE, List.find?, nop, prlr, isPure, pickR, optInt, rets, rv, rvs, CN, IntKind.bits]
    exact WkV.eq (by first | rfl | simp) (by first | trivial | (simp only [noix, noixL, NX, and_true, true_and]; done))
  have hc := cmpI_ge (Nat.le_of_not_lt hlt)
  have s1 : ((m + 2 : Nat) : Int) - 1 = ((m + 1 : Nat) : Int) := by omega
  have hBl : B < b32 ^ (m + 2) := by
    rw [b32_pow]; exact nb_le.1 (by omega)
  have hBg : b32 ^ (m + 1) ≤ B := by
    rw [b32_pow]
    rcases Nat.lt_or_ge B (2 ^ (32 * (m + 1))) with h2 | h2
    · have := nb_le.2 h2; omega
    · exact h2
  obtain ⟨hd0, hnl, hn0, hVl, hVd, hV2⟩ := norm_facts hBg hBl
  have hdl := dig_lt B (m + 1)
  have hLZ := X_LeadingZeros32_pf h (dig B (m + 1)) hdl
  generalize hte : dig B (m + 1) = t at *
  obtain ⟨s, hs⟩ : ∃ s, 32 - nb t = s := ⟨_, rfl⟩
  rw [hs] at hVl hVd hV2 hLZ
  have hs31 : s ≤ 31 := by omega
  have hupB := I_size_up_pf h B s (by omega)
  have hupA := I_size_up_pf h A s (by omega)
  have hU0 := first_lt hA hs31 hm4 hV2
  have hV0 : 0 < B * 2 ^ s := Nat.mul_pos hB0 (Nat.pow_pos (by decide))
  have hQ2 : A * 2 ^ s / (B * 2 ^ s) = Q := by rw [Nat.mul_div_mul_right _ _ (Nat.pow_pos (by decide)), hQ]
  have hR2 : A * 2 ^ s % (B * 2 ^ s) = R * 2 ^ s := by rw [Nat.mul_mod_mul_right, hR]
  have h70 := wr_lm7 (A * 2 ^ s % bW) (Nat.mod_lt _ (by decide))
  have h7 := shift7 (s := s) hA (by omega) rfl
  have h7s : s = 0 → lm 7 (A * 2 ^ s % bW) = lm 7 (A * 2 ^ s) := fun h0 => by
    subst h0; rw [Nat.pow_zero, Nat.mul_one, hAm]
  have hmg : mg (A * 2 ^ s) = mg (A * 2 ^ s % bW) := (mg_mod _).symm
  have hx := dig_lt A 5
  have hxs : dig A 5 / 2 ^ (32 - s) < 4294967296 := Nat.lt_of_le_of_lt (Nat.div_le_self _ _) hx
  obtain ⟨x, hxe⟩ : ∃ x, dig A 5 / 2 ^ (32 - s) = x := ⟨_, rfl⟩
  rw [hxe] at h7 hxs
  rw [hmg] at hupA
  generalize hVV : B * 2 ^ s = V at *
  generalize hUU : A * 2 ^ s = U0 at *
  have hw := lm_wr (n := 7) (A := U0 % bW) (k := 6) (d := x) (by decide) hxs
  have ss : (32 : Int) - (s : Int) = ((32 - s : Nat) : Int) := by omega
  clear hQ hR hnl hn0 hnb hnb0 hd0 h1 hmg hs hVV
  have s2 : (6 : Int) - ((m + 2 : Nat) : Int) = ((5 - m : Nat) : Int) - 1 := by omega
  by_cases hs0 : 0 < s
  case' pos =>
    simp (disch := omega) only [seval, ↓SDX, isRes, slEl, bslParts, mmAll, mmR, SUX, List.replicate, List.append, pr, lr, er, binR, ev, putA, List.set, intOf, takeAg, cellsOf, wrAll, partsOk, ones, one, isOne, wok1, findPE, List.find?, nop, prlr, isPure, pickR, optInt, rets, rv, rvs, CN, s1, hte, IntKind.bits]
    refine hLZ.step ?_
    simp (disch := omega) only [seval, ↓SDX, isRes, slEl, bslParts, mmAll, mmR, SUX, List.replicate, List.append, pr, lr, er, binR, ev, putA, List.set, intOf, takeAg, cellsOf, wrAll, partsOk, ones, one, isOne, wok1, findPE, List.find?, nop, prlr, isPure, pickR, optInt, rets, rv, rvs, CN, IntKind.bits]
    refine hupB.step ?_
    simp (disch := omega) only [seval, ↓SDX, isRes, slEl, bslParts, mmAll, mmR, SUX, List.replicate, List.append, pr, lr, er, binR, ev, putA, List.set, intOf, takeAg, cellsOf, wrAll, partsOk, ones, one, isOne, wok1, findPE, List.find?, nop, prlr, isPure, pickR, optInt, rets, rv, rvs, CN, IntKind.bits]
    refine hupA.step ?_
    simp (disch := omega) only [seval, ↓SDX, isRes, slEl, bslParts, mmAll, mmR, SUX, List.replicate, List.append, pr, lr, er, binR, ev, putA, List.set, intOf, takeAg, cellsOf, wrAll, partsOk, ones, one, isOne, wok1, findPE, List.find?, nop, prlr, isPure, pickR, optInt, rets, rv, rvs, CN, h70, ss, hxe, hw, h7, s2, IntKind.bits]
  case' neg =>
    have h7s := h7s (by omega)
    simp (disch := omega) only [seval, ↓SDX, isRes, slEl, bslParts, mmAll, mmR, SUX, List.replicate, List.append, pr, lr, er, binR, ev, putA, List.set, intOf, takeAg, cellsOf, wrAll, partsOk, ones, one, isOne, wok1, findPE, List.find?, nop, prlr, isPure, pickR, optInt, rets, rv, rvs, CN, s1, hte, IntKind.bits]
    refine hLZ.step ?_
    simp (disch := omega) only [seval, ↓SDX, isRes, slEl, bslParts, mmAll, mmR, SUX, List.replicate, List.append, pr, lr, er, binR, ev, putA, List.set, intOf, takeAg, cellsOf, wrAll, partsOk, ones, one, isOne, wok1, findPE, List.find?, nop, prlr, isPure, pickR, optInt, rets, rv, rvs, CN, IntKind.bits]
    refine hupB.step ?_
    simp (disch := omega) only [seval, ↓SDX, isRes, slEl, bslParts, mmAll, mmR, SUX, List.replicate, List.append, pr, lr, er, binR, ev, putA, List.set, intOf, takeAg, cellsOf, wrAll, partsOk, ones, one, isOne, wok1, findPE, List.find?, nop, prlr, isPure, pickR, optInt, rets, rv, rvs, CN, IntKind.bits]
    refine hupA.step ?_
    simp (disch := omega) only [seval, ↓SDX, isRes, slEl, bslParts, mmAll, mmR, SUX, List.replicate, List.append, pr, lr, er, binR, ev, putA, List.set, intOf, takeAg, cellsOf, wrAll, partsOk, ones, one, isOne, wok1, findPE, List.find?, nop, prlr, isPure, pickR, optInt, rets, rv, rvs, CN, h70, h7s, s2, IntKind.bits]
  all_goals
    clear h70 h7 h7s hx hw hxe hLZ hupA hupB
    refine loop_st (fun s : Nat × Nat × Nat => s.1) (fun x => ([.junk, .junk, .junk, .junk, .ptr 2 0, .ptr 3 0, .raw (.int .i64 (m + 2 : Nat)), .junk, .junk, .raw (.int .i64 (s : Nat)), .ptr 4 0, .ptr 5 0, .junk, .ptr 7 0, .raw (.int .i64 ((x.1 : Int) - 1))] ++ List.replicate 71 .junk))
      (fun x => [.c (mg A), .c (mg B), .c (mg 0), .c (mg 0), .c (mg V), .c (lm 7 x.2.1), .c (mg (U0 % bW)), .c (mg x.2.2)])
      (fun x => x.1 ≤ 5 - m ∧ x.2.1 = U0 % (V * b32 ^ x.1) ∧ ∀ i, i < 6 → dig x.2.2 i = if x.1 ≤ i then dig Q i else 0) (5 - m, U0, 0) ⟨Nat.le_refl _, (Nat.mod_eq_of_lt hU0).symm, fun i hi => ?_⟩ (Wk.tmps (by simp only [fits, eq_self, and_self, Int.cast_ofNat_Int, Int.natCast_add, and_true, true_and, List.replicate, List.cons_append, List.nil_append])) ?_
    · dsimp only
      by_cases h5 : 5 - m ≤ i
      · rw [if_pos h5, show dig 0 i = 0 from digB_low_ge (b := 4294967296) (A := 0) (k := 0) (by decide) (by omega), dig_def, Nat.div_eq_of_lt, Nat.zero_mod]
        rw [← hQ2]
        exact Nat.div_lt_of_lt_mul (Nat.lt_of_lt_of_le hU0 (Nat.mul_le_mul_left _ (Nat.pow_le_pow_right (by decide) h5)))
      · rw [if_neg h5]; exact digB_low_ge (b := 4294967296) (A := 0) (k := 0) (by decide) (by omega)
    rintro ⟨k, U, Qa⟩ ⟨hk, hU, hQa⟩
    dsimp only at hk hU hQa ⊢
    by_cases hk0 : k = 0
    · subst hk0
      rw [Nat.pow_zero, Nat.mul_one, hR2] at hU
      have hm7 : (lm 7 U).take 6 = mg U := take_lm_le (by decide)
      have hmq : mg Qa = mg Q := mg_digs (fun i hi => by rw [hQa i hi, if_pos (by omega)])
      have hUl : U < bW := by
        rw [hU, ← hR2, ← pow6]
        exact Nat.lt_trans (Nat.mod_lt _ hV0) (Nat.lt_of_lt_of_le hVl (Nat.pow_le_pow_right (by decide) (by omega)))
      have hdn := I_size_down_pf h U s hUl (by omega)
      rw [show U / 2 ^ s = R from by rw [hU, Nat.mul_div_cancel _ (Nat.pow_pos (by decide))]] at hdn
      clear hU hQa hU0 hR2 hQ2 hV2 hBl hBg
      simp (disch := omega) only [seval, ↓SDX, isRes, slEl, bslParts, mmAll, mmR, SUX, List.replicate, List.append, pr, lr, er, binR, ev, putA, List.set, intOf, takeAg, cellsOf, wrAll, partsOk, ones, one, isOne, wok1, findPE, List.find?, nop, prlr, isPure, pickR, optInt, rets, rv, rvs, CN, hm7, hmq, IntKind.bits]
      refine hdn.step ?_
      simp (disch := omega) only [seval, ↓SDX, isRes, slEl, bslParts, mmAll, mmR, SUX, List.replicate, List.append, pr, lr, er, binR, ev, putA, List.set, intOf, takeAg, cellsOf, wrAll, partsOk, ones, one, isOne, wok1, findPE, List.find?, nop, prlr, isPure, pickR, optInt, rets, rv, rvs, CN, IntKind.bits]
      exact WkV.eq (by first | rfl | simp) (by first | trivial | (simp only [noix, noixL, NX, and_true, true_and]; done))
    · obtain ⟨j, rfl⟩ : ∃ j, k = j + 1 := ⟨k - 1, by omega⟩
      have hkj : ((j + 1 : Nat) : Int) - 1 = (j : Int) := by omega
      rw [hkj]
      obtain ⟨e1, e2, e3⟩ := ld_step hV0 hU
      rw [hQ2] at e1
      have hUl : U < b32 ^ (j + (m + 3)) := by
        rw [hU, show b32 ^ (j + (m + 3)) = b32 ^ (m + 2) * b32 ^ (j + 1) from by rw [← Nat.pow_add]; congr 1; omega]
        exact Nat.lt_of_lt_of_le (Nat.mod_lt _ (Nat.mul_pos hV0 (b32_pos _))) (Nat.mul_le_mul_right _ (Nat.le_of_lt hVl))
      have hWl : U / b32 ^ j < b32 ^ (m + 3) := by
        apply Nat.div_lt_of_lt_mul; rw [← Nat.pow_add]; exact hUl
      have hct := I_divideStep_ct h m (U / b32 ^ j) V hm4 hVl hWl hVd e3
      have hsp := splice_lm (n := 7) (j := j) (k := m + 3) (U := U) (W := U / b32 ^ j % V) (by omega) hUl (Nat.lt_trans (Nat.mod_lt _ hV0) (Nat.lt_of_lt_of_le hVl (Nat.pow_le_pow_right (by decide) (by omega))))
      rw [e2] at hsp
      rw [e1] at hct
      have hdt := drop_take_lm (n := 7) (j := j) (k := m + 3) (A := U) (by omega)
      generalize U / b32 ^ j % V = Wr at *
      have t1 : ((j + (m + 2) + 1 : Nat) : Int) - (j : Int) = ((m + 3 : Nat) : Int) := by omega
      have hx := hQa j (by omega)
      have hdq := dig_lt Q j
      obtain ⟨U', hU'⟩ : ∃ U', U0 % (V * b32 ^ j) = U' := ⟨_, rfl⟩
      have hstep : ∃ s' : Nat × Nat × Nat, s'.1 < j + 1 ∧ (s'.1 ≤ 5 - m ∧ s'.2.1 = U0 % (V * b32 ^ s'.1) ∧ ∀ i, i < 6 → dig s'.2.2 i = if s'.1 ≤ i then dig Q i else 0) ∧ s' = (j, U', setd Qa j (dig Q j)) := by
        refine ⟨_, by dsimp only; omega, ⟨by dsimp only; omega, hU'.symm, fun i hi => ?_⟩, rfl⟩
        dsimp only
        by_cases hij : i = j
        · subst hij; rw [dig_setd hdq, if_pos (by omega)]
        · rw [dig_setd_ne hdq hij, hQa i hi]
          by_cases hlt2 : j + 1 ≤ i
          · rw [if_pos hlt2, if_pos (by omega)]
          · rw [if_neg hlt2, if_neg (by omega)]
      obtain ⟨s', g1, g2, rfl⟩ := hstep
      rw [hU'] at hsp
      clear hQa hU hU0 hR2 hQ2 hV2 hBl hBg e1 e2 e3 hUl hWl hU' hVd hVl
      simp (disch := omega) only [seval, ↓SDX, isRes, slEl, bslParts, mmAll, mmR, SUX, List.replicate, List.append, pr, lr, er, binR, ev, putA, List.set, intOf, takeAg, cellsOf, wrAll, partsOk, ones, one, isOne, wok1, findPE, List.find?, nop, prlr, isPure, pickR, optInt, rets, rv, rvs, CN, t1, IntKind.bits]
      refine callD_own1 [4] 5 j (lm (m + 3) (U / b32 ^ j)) (lm 7 U) [.sl 0 1 0 (m + 3) false, .ro 1 (m + 2) (lm (m + 2) V)] hct rfl (by decide) (by rw [lm_length, lm_length]; omega) (by rw [lm_length]; exact hdt) (noixL_lm _ _)
        ?_
        (fun t => by simp [slOkL, slOk]) (by rw [lm_length, lm_length]) (clean_lm _ _) trivial ?_
      · simp only [argsOk]
        exact ⟨.inl (by simp [ren, rix]), .inr (.inr ⟨4, 1, 0, m + 2, false, lm (m + 2) V, mg V, rfl, rfl, rfl, by decide, by rw [lm_length]; omega, by rw [lm_length, mg_length]; omega, by rw [lm_length, List.drop_zero, mg_lm, take_lm_le (by omega)], clean_lm _ _⟩), trivial⟩
      rw [lm_length, hsp]
      clear hsp hdt hct
      simp (disch := omega) only [seval, ↓SDX, isRes, slEl, bslParts, mmAll, mmR, SUX, List.replicate, List.append, pr, lr, er, binR, ev, putA, List.set, intOf, takeAg, cellsOf, wrAll, partsOk, ones, one, isOne, wok1, findPE, List.find?, nop, prlr, isPure, pickR, optInt, rets, rv, rvs, CN, hx, IntKind.bits]
      exact ⟨_, g1, g2, Wk.tmps (by simp only [fits, eq_self, and_self, Int.cast_ofNat_Int, Int.natCast_add, and_true, true_and, List.replicate, List.cons_append, List.nil_append])⟩
end
end Go.Proofs.Lite

namespace Go.Proofs.Lite
open Go
/-- What is left of a number that is too large. -/
def cl (a : Int) : Int := Int.tmod a bW
theorem cl_lt (a : Int) : (cl a).natAbs < bW := by
  unfold cl
  rw [Int.natAbs_tmod]; exact Nat.mod_lt _ (by decide)
theorem cl_eq {a : Int} (h : a.natAbs < bW) : cl a = a := by
  unfold cl
  by_cases h0 : 0 ≤ a
  · exact Int.tmod_eq_of_lt h0 (by omega)
  · have : (-a).tmod bW = -a := Int.tmod_eq_of_lt (by omega) (by omega)
    rw [Int.neg_tmod] at this; omega
theorem mg_wi_cl (n : Bool) (A : Nat) : wd (n && !decide (A % bW = 0)) (A % bW) = wi (cl (if n then -(A : Int) else A)) := by
  have h := made_wi n (A % bW) (Nat.mod_lt _ (by decide))
  rw [Nat.mod_mod] at h
  rw [h]
  congr 1
  unfold cl
  cases n
  · simp only [Bool.false_eq_true, if_false]
    rw [Int.tmod_eq_emod_of_nonneg (by omega)]; omega
  · simp only [if_true]
    rw [Int.neg_tmod, Int.tmod_eq_emod_of_nonneg (by omega)]; omega
theorem wd_mod (n : Bool) (A : Nat) : wd n (A % bW) = wd n A := by unfold wd; rw [mg_mod]
theorem made_cl (n : Bool) (A : Nat) : wd (n && !decide (A % bW = 0)) A = wi (cl (if n then -(A : Int) else A)) := by
  rw [← mg_wi_cl, wd_mod]
section
variable {P : Program} {F : FnsA} (h : IsA P F)
include h
set_option maxRecDepth 20000 in
theorem I_commonSize_pf (A B : Nat) (hA : A < bW) (hB : B < bW) : Pf P F.I_commonSize [.agg (mg A), .agg (mg B)] (.agg (mg (Nat.gcd A B))) := by
  refine pf_of h.I_commonSize (by simp only [noixL, noix, NX, and_true, true_and]) (by simp only [noixL, noix, NX, and_true, true_and]) ?_
  simp (disch := omega) only [seval, ↓SDX, isRes, slEl, bslParts, mmAll, mmR, SUX, List.replicate, List.append, pr, lr, er, binR, ev, putA, List.set, intOf, takeAg, cellsOf, wrAll, partsOk, ones, one, isOne, wok1, findPE, List.find?, nop, prlr, isPure, pickR, optInt, rets, rv, rvs, I_commonSize_c, IntKind.bits]
  refine loop_st (fun s : Nat × Nat => s.2) (fun _ => ([.junk, .junk, .ptr 0 0, .ptr 1 0, .ptr 2 0] ++ List.replicate 14 .junk))
    (fun s => [.c (mg s.1), .c (mg s.2), .c (mg 0)]) (fun s => s.1 < bW ∧ s.2 < bW ∧ Nat.gcd s.1 s.2 = Nat.gcd A B) (A, B) ⟨hA, hB, rfl⟩ (Wk.tmps (by simp only [fits, eq_self, and_self, Int.cast_ofNat_Int, Int.natCast_add, and_true, true_and, List.replicate, List.cons_append, List.nil_append])) ?_
  rintro ⟨x, y⟩ ⟨hx, hy, hg⟩
  dsimp only at hx hy hg ⊢
  have hym : y % bW = y := Nat.mod_eq_of_lt hy
  by_cases h0 : y = 0
  · subst h0
    rw [Nat.gcd_zero_right] at hg
    rw [← hg]
    clear hg
    simp (disch := omega) only [seval, ↓SDX, isRes, slEl, bslParts, mmAll, mmR, SUX, List.replicate, List.append, pr, lr, er, binR, ev, putA, List.set, intOf, takeAg, cellsOf, wrAll, partsOk, ones, one, isOne, wok1, findPE, List.find?, nop, prlr, isPure, pickR, optInt, rets, rv, rvs, hym, IntKind.bits]
    exact WkV.eq (by first | rfl | simp) (by first | trivial | (simp only [noix, noixL, NX, and_true, true_and]; done))
  · have hlt : x % y < y := Nat.mod_lt _ (by omega)
    have hg2 : Nat.gcd y (x % y) = Nat.gcd A B := by rw [← hg, Nat.gcd_comm x y, Nat.gcd_rec y x, Nat.gcd_comm]
    have hp := I_size_by_pf h x y hx (by omega) hy
    clear hg
    simp (disch := omega) only [seval, ↓SDX, isRes, slEl, bslParts, mmAll, mmR, SUX, List.replicate, List.append, pr, lr, er, binR, ev, putA, List.set, intOf, takeAg, cellsOf, wrAll, partsOk, ones, one, isOne, wok1, findPE, List.find?, nop, prlr, isPure, pickR, optInt, rets, rv, rvs, hym, h0, IntKind.bits]
    refine hp.step ?_
    simp (disch := omega) only [seval, ↓SDX, isRes, slEl, bslParts, mmAll, mmR, SUX, List.replicate, List.append, pr, lr, er, binR, ev, putA, List.set, intOf, takeAg, cellsOf, wrAll, partsOk, ones, one, isOne, wok1, findPE, List.find?, nop, prlr, isPure, pickR, optInt, rets, rv, rvs, IntKind.bits]
    exact ⟨(y, x % y), hlt, ⟨hy, Nat.lt_trans hlt hy, hg2⟩, Wk.shed (n := 3) (by decide) (by simp only [fits, eq_self, and_self, Int.cast_ofNat_Int, Int.natCast_add, and_true, true_and, List.replicate, List.cons_append, List.nil_append]) (by simp only [cutL, cutAV, cutSg, CU, List.replicate, List.cons_append, List.nil_append, Nat.reduceLT, if_true, if_false, List.map_cons, List.map_nil, List.take_succ_cons, List.take_zero]) (by simp only [cutH, cutL, cutAV, cutSg, CU, List.replicate, List.cons_append, List.nil_append, Nat.reduceLT, if_true, if_false, List.map_cons, List.map_nil, List.take_succ_cons, List.take_zero])⟩
theorem I_sign_pf (a : Int) (ha : a.natAbs < bW) : Pf P F.I_sign [.agg (wi a)] (.raw (.int .i64 a.sign)) := by
  refine pf_of h.I_sign (by simp only [noixL, noix, NX, and_true, true_and]) trivial ?_
  have hm : a.natAbs % bW = a.natAbs := Nat.mod_eq_of_lt ha
  by_cases h0 : a < 0
  · rw [Int.sign_eq_neg_one_of_neg h0]
    simp (disch := omega) only [seval, ↓SDX, isRes, slEl, bslParts, mmAll, mmR, SUX, List.replicate, List.append, pr, lr, er, binR, ev, putA, List.set, intOf, takeAg, cellsOf, wrAll, partsOk, ones, one, isOne, wok1, findPE, List.find?, nop, prlr, isPure, pickR, optInt, rets, rv, rvs, I_sign_c, h0, IntKind.bits]
    exact WkV.eq (by first | rfl | simp) (by first | trivial | (simp only [noix, noixL, NX, and_true, true_and]; done))
  · by_cases h1 : a = 0
    · subst h1
      simp (disch := omega) only [seval, ↓SDX, isRes, slEl, bslParts, mmAll, mmR, SUX, List.replicate, List.append, pr, lr, er, binR, ev, putA, List.set, intOf, takeAg, cellsOf, wrAll, partsOk, ones, one, isOne, wok1, findPE, List.find?, nop, prlr, isPure, pickR, optInt, rets, rv, rvs, I_sign_c, hm, Int.sign_zero, Int.natAbs_zero, IntKind.bits]
      exact WkV.eq (by first | rfl | simp) (by first | trivial | (simp only [noix, noixL, NX, and_true, true_and]; done))
    · rw [Int.sign_eq_one_of_pos (by omega)]
      have h2 : ¬ a.natAbs = 0 := by omega
      simp (disch := omega) only [seval, ↓SDX, isRes, slEl, bslParts, mmAll, mmR, SUX, List.replicate, List.append, pr, lr, er, binR, ev, putA, List.set, intOf, takeAg, cellsOf, wrAll, partsOk, ones, one, isOne, wok1, findPE, List.find?, nop, prlr, isPure, pickR, optInt, rets, rv, rvs, I_sign_c, hm, h0, h2, IntKind.bits]
      exact WkV.eq (by first | rfl | simp) (by first | trivial | (simp only [noix, noixL, NX, and_true, true_and]; done))
theorem I_opposite_pf (a : Int) (ha : a.natAbs < bW) : Pf P F.I_opposite [.agg (wi a)] (.agg (wi (-a))) := by
  refine pf_of h.I_opposite (by simp only [noixL, noix, NX, and_true, true_and]) (noix_wi _) ?_
  simp (disch := omega) only [seval, ↓SDX, isRes, slEl, bslParts, mmAll, mmR, SUX, List.replicate, List.append, pr, lr, er, binR, ev, putA, List.set, intOf, takeAg, cellsOf, wrAll, partsOk, ones, one, isOne, wok1, findPE, List.find?, nop, prlr, isPure, pickR, optInt, rets, rv, rvs, I_opposite_c, IntKind.bits]
  refine (I_wide_pf h _ _).step ?_
  simp (disch := omega) only [seval, ↓SDX, isRes, slEl, bslParts, mmAll, mmR, SUX, List.replicate, List.append, pr, lr, er, binR, ev, putA, List.set, intOf, takeAg, cellsOf, wrAll, partsOk, ones, one, isOne, wok1, findPE, List.find?, nop, prlr, isPure, pickR, optInt, rets, rv, rvs, IntKind.bits]
  rw [made_wi _ _ ha]
  refine WkV.eq ?_ (noix_wi _)
  congr 2
  by_cases h0 : a < 0 <;> simp [h0] <;> omega
end
end Go.Proofs.Lite

namespace Go.Proofs.Lite
open Go
/-- The cell of a calculator. -/
abbrev oc (b : Bool) : List AV := [.raw (.bool b)]
section
variable {P : Program} {F : FnsA} (h : IsA P F)
include h
set_option maxRecDepth 20000 in
theorem I_calc_add_ow (ov : Bool) (a b : Int) (ha : a.natAbs < bW) (hb : b.natAbs < bW) : Ow P F.I_calc_add (oc ov) [.agg (wi a), .agg (wi b)] (.agg (wi (cl (a + b)))) (oc (ov || !decide ((a + b).natAbs < bW))) := by
  refine ow_of h.I_calc_add (by simp only [noixL, noix, NX, and_true, true_and]) (noix_wi _) ⟨trivial, trivial⟩ ⟨trivial, trivial⟩ rfl ?_
  have hma : a.natAbs % bW = a.natAbs := Nat.mod_eq_of_lt ha
  have hmb : b.natAbs % bW = b.natAbs := Nat.mod_eq_of_lt hb
  rw [show wi a = wd (decide (a < 0)) a.natAbs from rfl, show wi b = wd (decide (b < 0)) b.natAbs from rfl]
  by_cases hs : decide (a < 0) = decide (b < 0)
  · have e1 : (decide (a < 0) == decide (b < 0)) = true := by rw [hs]; simp
    have e2 : (a + b).natAbs = a.natAbs + b.natAbs := by
      have : (a < 0 ↔ b < 0) := by simpa using hs
      omega
    have e3 : (if decide (a < 0) = true then -((a.natAbs + b.natAbs : Nat) : Int) else ((a.natAbs + b.natAbs : Nat) : Int)) = a + b := by
      have : (a < 0 ↔ b < 0) := by simpa using hs
      by_cases h0 : a < 0
      · simp only [h0, decide_true, if_true]; omega
      · simp only [h0, decide_false, Bool.false_eq_true, if_false]; omega
    rw [e2, ← e3]
    generalize decide (a < 0) = na at *
    generalize decide (b < 0) = nb' at *
    subst hs
    have hbe : (na == na) = true := by cases na <;> rfl
    simp (disch := omega) only [seval, ↓SDX, isRes, slEl, bslParts, mmAll, mmR, SUX, List.replicate, List.append, pr, lr, er, binR, ev, putA, List.set, intOf, takeAg, cellsOf, wrAll, partsOk, ones, one, isOne, wok1, findPE, List.find?, nop, prlr, isPure, pickR, optInt, rets, rv, rvs, I_calc_add_c, hbe, IntKind.bits]
    refine (I_size_plus_pf h _ _).step ?_
    rw [hma, hmb]
    cases ov
    · simp (disch := omega) only [seval, ↓SDX, isRes, slEl, bslParts, mmAll, mmR, SUX, List.replicate, List.append, pr, lr, er, binR, ev, putA, List.set, intOf, takeAg, cellsOf, wrAll, partsOk, ones, one, isOne, wok1, findPE, List.find?, nop, prlr, isPure, pickR, optInt, rets, rv, rvs, IntKind.bits]
      refine (I_wide_pf h _ _).step ?_
      simp (disch := omega) only [seval, ↓SDX, isRes, slEl, bslParts, mmAll, mmR, SUX, List.replicate, List.append, pr, lr, er, binR, ev, putA, List.set, intOf, takeAg, cellsOf, wrAll, partsOk, ones, one, isOne, wok1, findPE, List.find?, nop, prlr, isPure, pickR, optInt, rets, rv, rvs, IntKind.bits]
      rw [made_cl]
      exact WkV.eq1 rfl (noix_wi _) rfl ⟨trivial, trivial⟩
    · simp (disch := omega) only [seval, ↓SDX, isRes, slEl, bslParts, mmAll, mmR, SUX, List.replicate, List.append, pr, lr, er, binR, ev, putA, List.set, intOf, takeAg, cellsOf, wrAll, partsOk, ones, one, isOne, wok1, findPE, List.find?, nop, prlr, isPure, pickR, optInt, rets, rv, rvs, IntKind.bits]
      refine (I_wide_pf h _ _).step ?_
      simp (disch := omega) only [seval, ↓SDX, isRes, slEl, bslParts, mmAll, mmR, SUX, List.replicate, List.append, pr, lr, er, binR, ev, putA, List.set, intOf, takeAg, cellsOf, wrAll, partsOk, ones, one, isOne, wok1, findPE, List.find?, nop, prlr, isPure, pickR, optInt, rets, rv, rvs, IntKind.bits]
      rw [made_cl]
      exact WkV.eq1 rfl (noix_wi _) rfl ⟨trivial, trivial⟩
  · have e1 : (decide (a < 0) == decide (b < 0)) = false := by simpa using hs
    have hab : (a + b).natAbs < bW := by
      have : ¬ (a < 0 ↔ b < 0) := by simpa using hs
      omega
    rw [cl_eq hab]
    by_cases hlt : a.natAbs < b.natAbs
    · have hc := cmpI_lt hlt
      have e3 : (if decide (b < 0) = true then -((b.natAbs - a.natAbs : Nat) : Int) else ((b.natAbs - a.natAbs : Nat) : Int)) = a + b := by
        have : ¬ (a < 0 ↔ b < 0) := by simpa using hs
        by_cases h0 : b < 0
        · simp only [h0, decide_true, if_true]; omega
        · simp only [h0, decide_false, Bool.false_eq_true, if_false]; omega
      have hm := made_wi (decide (b < 0)) (b.natAbs - a.natAbs) (by omega)
      rw [e3] at hm
      generalize decide (a < 0) = na at *
      generalize decide (b < 0) = nb' at *
      clear hs e3
      simp (disch := omega) only [seval, ↓SDX, isRes, slEl, bslParts, mmAll, mmR, SUX, List.replicate, List.append, pr, lr, er, binR, ev, putA, List.set, intOf, takeAg, cellsOf, wrAll, partsOk, ones, one, isOne, wok1, findPE, List.find?, nop, prlr, isPure, pickR, optInt, rets, rv, rvs, I_calc_add_c, e1, IntKind.bits]
      refine (I_size_compare_pf h _ _).step ?_
      rw [hma, hmb]
      simp (disch := omega) only [seval, ↓SDX, isRes, slEl, bslParts, mmAll, mmR, SUX, List.replicate, List.append, pr, lr, er, binR, ev, putA, List.set, intOf, takeAg, cellsOf, wrAll, partsOk, ones, one, isOne, wok1, findPE, List.find?, nop, prlr, isPure, pickR, optInt, rets, rv, rvs, IntKind.bits]
      refine (I_size_minus_pf h _ _ (by omega)).step ?_
      simp (disch := omega) only [seval, ↓SDX, isRes, slEl, bslParts, mmAll, mmR, SUX, List.replicate, List.append, pr, lr, er, binR, ev, putA, List.set, intOf, takeAg, cellsOf, wrAll, partsOk, ones, one, isOne, wok1, findPE, List.find?, nop, prlr, isPure, pickR, optInt, rets, rv, rvs, IntKind.bits]
      refine (I_wide_pf h _ _).step ?_
      simp (disch := omega) only [seval, ↓SDX, isRes, slEl, bslParts, mmAll, mmR, SUX, List.replicate, List.append, pr, lr, er, binR, ev, putA, List.set, intOf, takeAg, cellsOf, wrAll, partsOk, ones, one, isOne, wok1, findPE, List.find?, nop, prlr, isPure, pickR, optInt, rets, rv, rvs, hm, IntKind.bits]
      exact WkV.eq1 rfl (noix_wi _) (by simp [hab]) ⟨trivial, trivial⟩
    · have hc := cmpI_ge (Nat.le_of_not_lt hlt)
      have e3 : (if decide (a < 0) = true then -((a.natAbs - b.natAbs : Nat) : Int) else ((a.natAbs - b.natAbs : Nat) : Int)) = a + b := by
        have : ¬ (a < 0 ↔ b < 0) := by simpa using hs
        by_cases h0 : a < 0
        · simp only [h0, decide_true, if_true]; omega
        · simp only [h0, decide_false, Bool.false_eq_true, if_false]; omega
      have hm := made_wi (decide (a < 0)) (a.natAbs - b.natAbs) (by omega)
      rw [e3] at hm
      generalize decide (a < 0) = na at *
      generalize decide (b < 0) = nb' at *
      clear hs e3
      simp (disch := omega) only [seval, ↓SDX, isRes, slEl, bslParts, mmAll, mmR, SUX, List.replicate, List.append, pr, lr, er, binR, ev, putA, List.set, intOf, takeAg, cellsOf, wrAll, partsOk, ones, one, isOne, wok1, findPE, List.find?, nop, prlr, isPure, pickR, optInt, rets, rv, rvs, I_calc_add_c, e1, IntKind.bits]
      refine (I_size_compare_pf h _ _).step ?_
      rw [hma, hmb]
      simp (disch := omega) only [seval, ↓SDX, isRes, slEl, bslParts, mmAll, mmR, SUX, List.replicate, List.append, pr, lr, er, binR, ev, putA, List.set, intOf, takeAg, cellsOf, wrAll, partsOk, ones, one, isOne, wok1, findPE, List.find?, nop, prlr, isPure, pickR, optInt, rets, rv, rvs, IntKind.bits]
      refine (I_size_minus_pf h _ _ (by omega)).step ?_
      simp (disch := omega) only [seval, ↓SDX, isRes, slEl, bslParts, mmAll, mmR, SUX, List.replicate, List.append, pr, lr, er, binR, ev, putA, List.set, intOf, takeAg, cellsOf, wrAll, partsOk, ones, one, isOne, wok1, findPE, List.find?, nop, prlr, isPure, pickR, optInt, rets, rv, rvs, IntKind.bits]
      refine (I_wide_pf h _ _).step ?_
      simp (disch := omega) only [seval, ↓SDX, isRes, slEl, bslParts, mmAll, mmR, SUX, List.replicate, List.append, pr, lr, er, binR, ev, putA, List.set, intOf, takeAg, cellsOf, wrAll, partsOk, ones, one, isOne, wok1, findPE, List.find?, nop, prlr, isPure, pickR, optInt, rets, rv, rvs, hm, IntKind.bits]
      exact WkV.eq1 rfl (noix_wi _) (by simp [hab]) ⟨trivial, trivial⟩
set_option maxRecDepth 20000 in
theorem I_calc_mul_ow (ov : Bool) (a b : Int) (ha : a.natAbs < bW) (hb : b.natAbs < bW) : Ow P F.I_calc_mul (oc ov) [.agg (wi a), .agg (wi b)] (.agg (wi (if (a * b).natAbs < bW then a * b else 0))) (oc (ov || !decide ((a * b).natAbs < bW))) := by
  refine ow_of h.I_calc_mul (by simp only [noixL, noix, NX, and_true, true_and]) (noix_wi _) ⟨trivial, trivial⟩ ⟨trivial, trivial⟩ rfl ?_
  rw [Int.natAbs_mul]
  have hp := I_size_times_pf h a.natAbs b.natAbs ha hb
  have hsg := mul_sign a b
  rw [show wi a = wd (decide (a < 0)) a.natAbs from rfl, show wi b = wd (decide (b < 0)) b.natAbs from rfl]
  rw [← hsg]
  generalize decide (a < 0) = na at *
  generalize decide (b < 0) = nb' at *
  generalize a.natAbs * b.natAbs = V at *
  have fin : ∀ n : Bool, (if V < bW then V else 0) < bW := fun _ => by split; assumption; decide
  have fin2 : wd ((!(na == nb')) && !decide ((if V < bW then V else 0) % bW = 0)) (if V < bW then V else 0) = wi (if V < bW then (if (!(na == nb')) = true then -(V : Int) else (V : Int)) else 0) := by
    rw [made_wi _ _ (fin true)]
    by_cases hV : V < bW
    · simp only [hV, if_true]
    · simp only [hV, if_false]; congr 1; split <;> rfl
  cases ov
  · simp (disch := omega) only [seval, ↓SDX, isRes, slEl, bslParts, mmAll, mmR, SUX, List.replicate, List.append, pr, lr, er, binR, ev, putA, List.set, intOf, takeAg, cellsOf, wrAll, partsOk, ones, one, isOne, wok1, findPE, List.find?, nop, prlr, isPure, pickR, optInt, rets, rv, rvs, I_calc_mul_c, IntKind.bits]
    refine hp.step ?_
    simp (disch := omega) only [seval, ↓SDX, isRes, slEl, bslParts, mmAll, mmR, SUX, List.replicate, List.append, pr, lr, er, binR, ev, putA, List.set, intOf, takeAg, cellsOf, wrAll, partsOk, ones, one, isOne, wok1, findPE, List.find?, nop, prlr, isPure, pickR, optInt, rets, rv, rvs, IntKind.bits]
    refine (I_wide_pf h _ _).step ?_
    simp (disch := omega) only [seval, ↓SDX, isRes, slEl, bslParts, mmAll, mmR, SUX, List.replicate, List.append, pr, lr, er, binR, ev, putA, List.set, intOf, takeAg, cellsOf, wrAll, partsOk, ones, one, isOne, wok1, findPE, List.find?, nop, prlr, isPure, pickR, optInt, rets, rv, rvs, fin2, IntKind.bits]
    exact WkV.eq1 rfl (noix_wi _) rfl ⟨trivial, trivial⟩
  · simp (disch := omega) only [seval, ↓SDX, isRes, slEl, bslParts, mmAll, mmR, SUX, List.replicate, List.append, pr, lr, er, binR, ev, putA, List.set, intOf, takeAg, cellsOf, wrAll, partsOk, ones, one, isOne, wok1, findPE, List.find?, nop, prlr, isPure, pickR, optInt, rets, rv, rvs, I_calc_mul_c, IntKind.bits]
    refine hp.step ?_
    simp (disch := omega) only [seval, ↓SDX, isRes, slEl, bslParts, mmAll, mmR, SUX, List.replicate, List.append, pr, lr, er, binR, ev, putA, List.set, intOf, takeAg, cellsOf, wrAll, partsOk, ones, one, isOne, wok1, findPE, List.find?, nop, prlr, isPure, pickR, optInt, rets, rv, rvs, IntKind.bits]
    refine (I_wide_pf h _ _).step ?_
    simp (disch := omega) only [seval, ↓SDX, isRes, slEl, bslParts, mmAll, mmR, SUX, List.replicate, List.append, pr, lr, er, binR, ev, putA, List.set, intOf, takeAg, cellsOf, wrAll, partsOk, ones, one, isOne, wok1, findPE, List.find?, nop, prlr, isPure, pickR, optInt, rets, rv, rvs, fin2, IntKind.bits]
    exact WkV.eq1 rfl (noix_wi _) rfl ⟨trivial, trivial⟩
end
end Go.Proofs.Lite

namespace Go.Proofs.Lite
open Go
section
variable {P : Program} {F : FnsA} (h : IsA P F)
include h
theorem I_calc_sub_ow (ov : Bool) (a b : Int) (ha : a.natAbs < bW) (hb : b.natAbs < bW) : Ow P F.I_calc_sub (oc ov) [.agg (wi a), .agg (wi b)] (.agg (wi (cl (a - b)))) (oc (ov || !decide ((a - b).natAbs < bW))) := by
  refine ow_of h.I_calc_sub (by simp only [noixL, noix, NX, and_true, true_and]) (noix_wi _) ⟨trivial, trivial⟩ ⟨trivial, trivial⟩ rfl ?_
  simp (disch := omega) only [seval, ↓SDX, isRes, slEl, bslParts, mmAll, mmR, SUX, List.replicate, List.append, pr, lr, er, binR, ev, putA, List.set, intOf, takeAg, cellsOf, wrAll, partsOk, ones, one, isOne, wok1, findPE, List.find?, nop, prlr, isPure, pickR, optInt, rets, rv, rvs, I_calc_sub_c, IntKind.bits]
  refine (I_opposite_pf h b hb).step ?_
  simp (disch := omega) only [seval, ↓SDX, isRes, slEl, bslParts, mmAll, mmR, SUX, List.replicate, List.append, pr, lr, er, binR, ev, putA, List.set, intOf, takeAg, cellsOf, wrAll, partsOk, ones, one, isOne, wok1, findPE, List.find?, nop, prlr, isPure, pickR, optInt, rets, rv, rvs, IntKind.bits]
  refine (I_calc_add_ow h ov a (-b) ha (by omega)).step0 rfl ?_
  simp (disch := omega) only [seval, ↓SDX, isRes, slEl, bslParts, mmAll, mmR, SUX, List.replicate, List.append, pr, lr, er, binR, ev, putA, List.set, intOf, takeAg, cellsOf, wrAll, partsOk, ones, one, isOne, wok1, findPE, List.find?, nop, prlr, isPure, pickR, optInt, rets, rv, rvs, IntKind.bits]
  exact WkV.eq1 (by rw [Int.sub_eq_add_neg]) (noix_wi _) (by rw [Int.sub_eq_add_neg]) ⟨trivial, trivial⟩
theorem I_calc_up_ow (ov : Bool) (a : Int) (n : Nat) (ha : a.natAbs < bW) (hn : n < 9223372036854775808) : Ow P F.I_calc_up (oc ov) [.agg (wi a), .raw (.int .i64 (n : Nat))]
    (.agg (wi (if n ≤ 191 ∧ a.natAbs * 2 ^ n < bW then a * 2 ^ n else 0))) (oc (ov || !decide (n ≤ 191 ∧ a.natAbs * 2 ^ n < bW))) := by
  refine ow_of h.I_calc_up (by simp only [noixL, noix, NX, and_true, true_and]) (noix_wi _) ⟨trivial, trivial⟩ ⟨trivial, trivial⟩ rfl ?_
  by_cases h1 : n ≤ 191
  · have hb : nb a.natAbs ≤ 192 := nb_bW.2 ha
    have hu := nb_up (A := a.natAbs) (n := n)
    have hup := I_size_up_pf h a.natAbs n h1
    by_cases hl : a.natAbs * 2 ^ n < bW
    · have hle : nb a.natAbs + n ≤ 192 := by
        rcases hu.2 hl with h2 | h2
        · exact h2
        · rw [h2, nb_zero]; omega
      clear hu
      have e3 : (if decide (a < 0) = true then -((a.natAbs * 2 ^ n : Nat) : Int) else ((a.natAbs * 2 ^ n : Nat) : Int)) = a * 2 ^ n := by
        by_cases h0 : a < 0
        · conv => rhs; rw [natAbs_neg' h0]
          simp [h0, Int.neg_mul]
        · conv => rhs; rw [natAbs_pos' h0]
          simp [h0]
      have hm := made_wi (decide (a < 0)) (a.natAbs * 2 ^ n) hl
      rw [e3] at hm
      rw [show (if n ≤ 191 ∧ a.natAbs * 2 ^ n < bW then a * 2 ^ n else 0) = a * 2 ^ n from if_pos ⟨h1, hl⟩, show decide (n ≤ 191 ∧ a.natAbs * 2 ^ n < bW) = true from decide_eq_true ⟨h1, hl⟩]
      clear e3
      generalize a.natAbs * 2 ^ n = W at *
      generalize a * 2 ^ n = w at *
      simp (disch := omega) only [seval, ↓SDX, isRes, slEl, bslParts, mmAll, mmR, SUX, List.replicate, List.append, pr, lr, er, binR, ev, putA, List.set, intOf, takeAg, cellsOf, wrAll, partsOk, ones, one, isOne, wok1, findPE, List.find?, nop, prlr, isPure, pickR, optInt, rets, rv, rvs, I_calc_up_c, IntKind.bits]
      refine (I_size_bits_pf h _ ha).step ?_
      simp (disch := omega) only [seval, ↓SDX, isRes, slEl, bslParts, mmAll, mmR, SUX, List.replicate, List.append, pr, lr, er, binR, ev, putA, List.set, intOf, takeAg, cellsOf, wrAll, partsOk, ones, one, isOne, wok1, findPE, List.find?, nop, prlr, isPure, pickR, optInt, rets, rv, rvs, CN, IntKind.bits]
      refine hup.step ?_
      simp (disch := omega) only [seval, ↓SDX, isRes, slEl, bslParts, mmAll, mmR, SUX, List.replicate, List.append, pr, lr, er, binR, ev, putA, List.set, intOf, takeAg, cellsOf, wrAll, partsOk, ones, one, isOne, wok1, findPE, List.find?, nop, prlr, isPure, pickR, optInt, rets, rv, rvs, IntKind.bits]
      refine (I_wide_pf h _ _).step ?_
      simp (disch := omega) only [seval, ↓SDX, isRes, slEl, bslParts, mmAll, mmR, SUX, List.replicate, List.append, pr, lr, er, binR, ev, putA, List.set, intOf, takeAg, cellsOf, wrAll, partsOk, ones, one, isOne, wok1, findPE, List.find?, nop, prlr, isPure, pickR, optInt, rets, rv, rvs, hm, IntKind.bits]
      exact WkV.eq1 rfl (noix_wi _) (by simp) ⟨trivial, trivial⟩
    · have hgt : 192 < nb a.natAbs + n := by
        rcases Nat.lt_or_ge 192 (nb a.natAbs + n) with h2 | h2
        · exact h2
        · exact absurd (hu.1 (.inl h2)) hl
      clear hu hup
      rw [show (if n ≤ 191 ∧ a.natAbs * 2 ^ n < bW then a * 2 ^ n else 0) = 0 from if_neg (fun k => hl k.2), show decide (n ≤ 191 ∧ a.natAbs * 2 ^ n < bW) = false from decide_eq_false (fun k => hl k.2)]
      simp (disch := omega) only [seval, ↓SDX, isRes, slEl, bslParts, mmAll, mmR, SUX, List.replicate, List.append, pr, lr, er, binR, ev, putA, List.set, intOf, takeAg, cellsOf, wrAll, partsOk, ones, one, isOne, wok1, findPE, List.find?, nop, prlr, isPure, pickR, optInt, rets, rv, rvs, I_calc_up_c, IntKind.bits]
      refine (I_size_bits_pf h _ ha).step ?_
      simp (disch := omega) only [seval, ↓SDX, isRes, slEl, bslParts, mmAll, mmR, SUX, List.replicate, List.append, pr, lr, er, binR, ev, putA, List.set, intOf, takeAg, cellsOf, wrAll, partsOk, ones, one, isOne, wok1, findPE, List.find?, nop, prlr, isPure, pickR, optInt, rets, rv, rvs, CN, IntKind.bits]
      exact WkV.eq1 rfl (noix_wi _) (by simp [wr]) ⟨trivial, trivial⟩
  · rw [show (if n ≤ 191 ∧ a.natAbs * 2 ^ n < bW then a * 2 ^ n else 0) = 0 from if_neg (fun k => h1 k.1), show decide (n ≤ 191 ∧ a.natAbs * 2 ^ n < bW) = false from decide_eq_false (fun k => h1 k.1)]
    simp (disch := omega) only [seval, ↓SDX, isRes, slEl, bslParts, mmAll, mmR, SUX, List.replicate, List.append, pr, lr, er, binR, ev, putA, List.set, intOf, takeAg, cellsOf, wrAll, partsOk, ones, one, isOne, wok1, findPE, List.find?, nop, prlr, isPure, pickR, optInt, rets, rv, rvs, I_calc_up_c, IntKind.bits]
    exact WkV.eq1 rfl (noix_wi _) (by simp [wr]) ⟨trivial, trivial⟩
end
end Go.Proofs.Lite

namespace Go.Proofs.Lite
open Go
mutual
def mvAV (j i : Nat) : AV → AV
  | .ptr k o => if k = j then .ptr i o else if k = i then .junk else .ptr k o
  | .sl k z o n b => if k = j then .sl i z o n b else if k = i then .junk else .sl k z o n b
  | .mp k => if k = j then .mp i else if k = i then .junk else .mp k
  | .agg cs => .agg (mvL j i cs)
  | .tup cs => .tup (mvL j i cs)
  | .fn f cs => .fn f (mvL j i cs)
  | .junk => .junk
  | .raw v => .raw v
  | .ro z n ds => .ro z n ds
  | .rp ds => .rp ds
def mvL (j i : Nat) : List AV → List AV
  | [] => []
  | c :: cs => mvAV j i c :: mvL j i cs
end
theorem mvL_eq (j i : Nat) : ∀ ds, mvL j i ds = ds.map (mvAV j i)
  | [] => rfl
  | d :: ds => by simp only [mvL, List.map_cons, mvL_eq j i ds]
def mvSg (j i : Nat) : Sg → Sg
  | .c ds => .c (mvL j i ds)
  | .m kvs => .m (kvs.map fun q => (q.1, mvAV j i q.2))
  | .dead => .dead
  | .res => .res
section
variable {D : Store} {ρ : Env} {i j : Nat} {l : Loc}
theorem mv_loc (hi : i < ρ.length) (hl : Env.loc? ρ j = some l) {k : Nat} {m : Loc} (hk : Env.loc? ρ k = some m) : (k = j → Env.loc? (ρ.set i (some l)) i = some m) ∧ (k ≠ i → Env.loc? (ρ.set i (some l)) k = some m) := by
  constructor
  · rintro rfl
    rw [hl] at hk; cases hk
    exact Env.loc?_set_self hi l
  · intro hne
    rw [Env.loc?_set_ne (Ne.symm hne)]; exact hk
mutual
theorem mv_rep (hi : i < ρ.length) (hl : Env.loc? ρ j = some l) : ∀ (a : AV) (x : Value), Rep D ρ a x → Rep D (ρ.set i (some l)) (mvAV j i a) x
  | .junk, _, _ => by simp [Rep, mvAV]
  | .raw _, _, h => by simpa [Rep, mvAV] using h
  | .ro .., _, h => by simpa [Rep, mvAV] using h
  | .rp .., _, h => by simpa [Rep, mvAV] using h
  | .ptr k o, x, h => by
    simp only [mvAV]
    split
    · rename_i e
      simp only [Rep] at h ⊢
      obtain ⟨m, h1, h2⟩ := h
      exact ⟨m, (mv_loc hi hl h1).1 e, h2⟩
    · split
      · simp [Rep]
      · rename_i e2
        simp only [Rep] at h ⊢
        obtain ⟨m, h1, h2⟩ := h
        exact ⟨m, (mv_loc hi hl h1).2 e2, h2⟩
  | .sl k z o n b, x, h => by
    simp only [mvAV]
    split
    · rename_i e
      simp only [Rep] at h ⊢
      obtain ⟨m, a, cap, h1, h2⟩ := h
      exact ⟨m, a, cap, (mv_loc hi hl h1).1 e, h2⟩
    · split
      · simp [Rep]
      · rename_i e2
        simp only [Rep] at h ⊢
        obtain ⟨m, a, cap, h1, h2⟩ := h
        exact ⟨m, a, cap, (mv_loc hi hl h1).2 e2, h2⟩
  | .mp k, x, h => by
    simp only [mvAV]
    split
    · rename_i e
      simp only [Rep] at h ⊢
      obtain ⟨m, h1, h2⟩ := h
      exact ⟨m, (mv_loc hi hl h1).1 e, h2⟩
    · split
      · simp [Rep]
      · rename_i e2
        simp only [Rep] at h ⊢
        obtain ⟨m, h1, h2⟩ := h
        exact ⟨m, (mv_loc hi hl h1).2 e2, h2⟩
  | .agg ds, _, h => by simp only [mvAV, Rep] at h ⊢; obtain ⟨vs, h1, h2⟩ := h; exact ⟨vs, h1, mvL_rep hi hl ds vs h2⟩
  | .tup ds, _, h => by simp only [mvAV, Rep] at h ⊢; obtain ⟨vs, h1, h2⟩ := h; exact ⟨vs, h1, mvL_rep hi hl ds vs h2⟩
  | .fn f ds, _, h => by simp only [mvAV, Rep] at h ⊢; obtain ⟨vs, h1, h2⟩ := h; exact ⟨vs, h1, mvL_rep hi hl ds vs h2⟩
theorem mvL_rep (hi : i < ρ.length) (hl : Env.loc? ρ j = some l) : ∀ (ds : List AV) (vs : List Value), RepL D ρ ds vs → RepL D (ρ.set i (some l)) (mvL j i ds) vs
  | [], [], _ => by simp [RepL, mvL]
  | d :: ds, v :: vs, h => by simp only [mvL, RepL] at h ⊢; exact ⟨mv_rep hi hl d v h.1, mvL_rep hi hl ds vs h.2⟩
  | [], _ :: _, h => by simp [RepL] at h
  | _ :: _, [], h => by simp [RepL] at h
end
end
section
variable {n0 : Nat} {T : List AV} {H : Heap}
/-- A piece of memory takes the place of one that fell away. -/
def mvH (j i : Nat) (cs : List AV) (H : Heap) : Heap := ((H.set j .dead).set i (.c cs)).map (mvSg j i)
theorem Wk.move {i j : Nat} {cs : List AV} (hn : n0 ≤ i) (hij : i ≠ j) (hi : H[i]? = some .dead) (hj : H[j]? = some (.c cs)) : Wk n0 T H (mvL j i T) (mvH j i cs H) := by
  intro cx D ρ w vs h0 hb hT
  obtain ⟨l, hl, hseg⟩ := hb.inv.seg j cs hj
  have hiH : i < H.length := (List.getElem?_eq_some_iff.1 hi).1
  have hiρ : i < ρ.length := by rw [hb.inv.len]; exact hiH
  have hlj : Live H j := live_c hj
  refine ⟨D, ρ.set i (some l), ?_, mvL_rep hiρ hl T vs hT⟩
  -- what stands in the new heap
  have get : ∀ k sg, (mvH j i cs H)[k]? = some sg → (k = i ∧ sg = mvSg j i (.c cs)) ∨ (k ≠ i ∧ k ≠ j ∧ ∃ s, H[k]? = some s ∧ sg = mvSg j i s) ∨ (k = j ∧ sg = .dead) := by
    intro k sg h
    unfold mvH at h
    rw [List.getElem?_map] at h
    by_cases hki : k = i
    · subst hki
      rw [List.getElem?_set_self (by rw [List.length_set]; exact hiH)] at h
      injection h with h
      exact .inl ⟨rfl, h.symm⟩
    · rw [List.getElem?_set_ne (Ne.symm hki)] at h
      by_cases hkj : k = j
      · subst hkj
        rw [List.getElem?_set_self (List.getElem?_eq_some_iff.1 hj).1] at h
        injection h with h
        exact .inr (.inr ⟨rfl, h.symm⟩)
      · rw [List.getElem?_set_ne (Ne.symm hkj)] at h
        cases hs : H[k]? with
        | none => rw [hs] at h; cases h
        | some s => rw [hs] at h; injection h with h; exact .inr (.inl ⟨hki, hkj, s, rfl, h.symm⟩)
  have live : ∀ k, Live (mvH j i cs H) k → ∃ k', Live H k' ∧ (∀ m, Env.loc? (ρ.set i (some l)) k = some m → Env.loc? ρ k' = some m) ∧ ((k = i ∧ k' = j) ∨ (k ≠ i ∧ k ≠ j ∧ k' = k)) := by
    intro k hk
    have key : ∃ sg, (mvH j i cs H)[k]? = some sg ∧ ((∃ c, sg = .c c) ∨ ∃ c, sg = .m c) := by
      rcases hk with ⟨c, h⟩ | ⟨c, h⟩
      · exact ⟨_, h, .inl ⟨c, rfl⟩⟩
      · exact ⟨_, h, .inr ⟨c, rfl⟩⟩
    obtain ⟨sg, h1, h2⟩ := key
    rcases get k sg h1 with ⟨rfl, _⟩ | ⟨g1, g2, s, hs, rfl⟩ | ⟨rfl, rfl⟩
    · exact ⟨j, hlj, fun m hm => by rw [Env.loc?_set_self hiρ] at hm; rw [hl]; exact hm, .inl ⟨rfl, rfl⟩⟩
    · refine ⟨k, ?_, fun m hm => by rwa [Env.loc?_set_ne (Ne.symm g1)] at hm, .inr ⟨g1, g2, rfl⟩⟩
      cases s with
      | c c => exact .inl ⟨c, hs⟩
      | m c => exact .inr ⟨c, hs⟩
      | dead => rcases h2 with ⟨c, h⟩ | ⟨c, h⟩ <;> cases h
      | res => rcases h2 with ⟨c, h⟩ | ⟨c, h⟩ <;> cases h
    · rcases h2 with ⟨c, h⟩ | ⟨c, h⟩ <;> cases h
  have seg' : ∀ {l' : Loc} {c : List AV}, SegOk D ρ w l' c → SegOk D (ρ.set i (some l)) w l' (mvL j i c) := by
    intro l' c h
    refine ⟨by rw [mvL_eq, List.length_map]; exact h.1, fun k hk => ?_⟩
    obtain ⟨v, g1, g2, g3, g4⟩ := h.2 k hk
    refine ⟨v, g1, g2, g3, fun a ha => ?_⟩
    rw [mvL_eq, List.getElem?_map] at ha
    cases hc : c[k]? with
    | none => rw [hc] at ha; cases ha
    | some a' => rw [hc] at ha; injection ha with ha; subst ha; exact mv_rep hiρ hl a' v (g4 a' hc)
  refine ⟨⟨?_, hb.inv.d, ?_, ?_, ?_, ?_⟩, hb.fr, ?_, hb.dle, hb.dav, ?_⟩
  · simp only [mvH, List.length_map, List.length_set]; exact hb.inv.len
  · intro k c' h
    rcases get k _ h with ⟨rfl, e⟩ | ⟨g1, g2, s, hs, e⟩ | ⟨_, e⟩
    · injection e with e; subst e
      exact ⟨l, Env.loc?_set_self hiρ l, seg' hseg⟩
    · cases s <;> simp only [mvSg] at e <;> first | (cases e; done) | skip
      injection e with e; subst e
      obtain ⟨l', h1, h2⟩ := hb.inv.seg k _ hs
      exact ⟨l', by rw [Env.loc?_set_ne (Ne.symm g1)]; exact h1, seg' h2⟩
    · cases e
  · intro k kvs' h
    rcases get k _ h with ⟨rfl, e⟩ | ⟨g1, g2, s, hs, e⟩ | ⟨_, e⟩
    · cases e
    · cases s <;> simp only [mvSg] at e <;> first | (cases e; done) | skip
      rename_i kvs
      injection e with e; subst e
      obtain ⟨l', h1, h2, h3, es, m, h4, h5, h6, h7⟩ := hb.inv.mpp k _ hs
      refine ⟨l', by rw [Env.loc?_set_ne (Ne.symm g1)]; exact h1, h2, h3, es, m, h4, by rw [h5]; simp, ?_, h7⟩
      have : (kvs.map fun q => (q.1, mvAV j i q.2)).map (·.2) = mvL j i (kvs.map (·.2)) := by rw [mvL_eq]; simp
      rw [this]; exact mvL_rep hiρ hl _ _ h6
    · cases e
  · intro k h
    rcases get k _ h with ⟨rfl, e⟩ | ⟨g1, g2, s, hs, e⟩ | ⟨_, e⟩
    · cases e
    · cases s <;> simp only [mvSg] at e <;> first | (cases e; done) | skip
      rw [Env.loc?_set_ne (Ne.symm g1)]; exact hb.inv.res k hs
    · cases e
  · intro a b la lb hab ha hb' hla hlb
    obtain ⟨a', ha1, ha2, ha3⟩ := live a ha
    obtain ⟨b', hb1, hb2, hb3⟩ := live b hb'
    refine hb.inv.dis a' b' la lb ?_ ha1 hb1 (ha2 la hla) (hb2 lb hlb)
    rcases ha3 with ⟨rfl, rfl⟩ | ⟨x1, x2, rfl⟩ <;> rcases hb3 with ⟨rfl, rfl⟩ | ⟨y1, y2, rfl⟩
    · exact absurd rfl hab
    · exact fun e => y2 e.symm
    · exact fun e => x2 e
    · exact hab
  · intro a la ha hla
    obtain ⟨a', ha1, ha2, _⟩ := live a ha
    exact hb.av a' la ha1 (ha2 la hla)
  · intro k m hk hm
    rw [Env.loc?_set_ne (by omega)]
    exact hb.keep k m hk hm
end
end Go.Proofs.Lite

namespace Go.Proofs.Lite
open Go
def wds (l : List Int) : List AV := l.flatMap wi
def i64s (l : List Int) : List AV := l.map fun n => .raw (.int .i64 n)
theorem wds_cons (a : Int) (l : List Int) : wds (a :: l) = wi a ++ wds l := by simp [wds]
theorem wds_append (a b : List Int) : wds (a ++ b) = wds a ++ wds b := by simp [wds]
theorem wds_one (a : Int) : wds [a] = wi a := by simp [wds]
theorem wds_length (l : List Int) : (wds l).length = l.length * 7 := by
  induction l with
  | nil => rfl
  | cons a l ih => rw [wds_cons, List.length_append, wi_length, ih, List.length_cons]; omega
theorem wds_drop (l : List Int) (i : Nat) : (wds l).drop (i * 7) = wds (l.drop i) := by
  induction l generalizing i with
  | nil => simp [wds]
  | cons a l ih =>
    cases i with
    | zero => simp
    | succ i =>
      rw [wds_cons, List.drop_succ_cons, ← ih, show (i + 1) * 7 = (wi a).length + i * 7 from by rw [wi_length]; omega, List.drop_length_add_append]
theorem wds_take (l : List Int) (i : Nat) : (wds l).take (i * 7) = wds (l.take i) := by
  induction l generalizing i with
  | nil => simp [wds]
  | cons a l ih =>
    cases i with
    | zero => simp [wds]
    | succ i =>
      rw [wds_cons, List.take_succ_cons, wds_cons, ← ih, show (i + 1) * 7 = (wi a).length + i * 7 from by rw [wi_length]; omega, List.take_length_add_append]
theorem wds_get {l : List Int} {i : Nat} (h : i < l.length) : ((wds l).drop (i * 7)).take 7 = wi (l.getD i 0) := by
  rw [wds_drop]
  have : l.drop i = l.getD i 0 :: l.drop (i + 1) := by
    rw [List.getD_eq_getElem?_getD, List.getElem?_eq_getElem h]; simp
  rw [this, wds_cons, List.take_left' (wi_length _)]
theorem noixL_append {a b : List AV} : noixL (a ++ b) ↔ noixL a ∧ noixL b := by
  induction a with
  | nil => simp [noixL]
  | cons x a ih => simp only [List.cons_append, noixL, ih, and_assoc]
theorem cleanL_append {a b : List AV} : cleanL (a ++ b) ↔ cleanL a ∧ cleanL b := by
  induction a with
  | nil => simp [cleanL]
  | cons x a ih => simp only [List.cons_append, cleanL, ih, and_assoc]
theorem noixL_wds (l : List Int) : noixL (wds l) := by
  induction l with
  | nil => trivial
  | cons a l ih => rw [wds_cons, noixL_append]; exact ⟨noixL_wi a, ih⟩
theorem ones_wds (l : List Int) : ones (wds l) := by
  induction l with
  | nil => trivial
  | cons a l ih => rw [wds_cons, ones_append]; exact ⟨ones_wi a, ih⟩
theorem i64s_length (l : List Int) : (i64s l).length = l.length := by simp [i64s]
theorem i64s_append (a b : List Int) : i64s (a ++ b) = i64s a ++ i64s b := by simp [i64s]
theorem i64s_drop (l : List Int) (i : Nat) : (i64s l).drop i = i64s (l.drop i) := by simp [i64s]
theorem i64s_take (l : List Int) (i : Nat) : (i64s l).take i = i64s (l.take i) := by simp [i64s]
theorem i64s_get {l : List Int} {i : Nat} (h : i < l.length) : ((i64s l).drop i).getD 0 .junk = .raw (.int .i64 (l.getD i 0)) := by
  simp [i64s, List.getD_eq_getElem?_getD, h]
theorem clean_i64s (l : List Int) : cleanL (i64s l) := by
  induction l with
  | nil => trivial
  | cons a l ih => exact ⟨trivial, ih⟩
theorem noixL_i64s (l : List Int) : noixL (i64s l) := noixL_clean _ (clean_i64s l)
theorem ones_i64s (l : List Int) : ones (i64s l) := by
  induction l with
  | nil => trivial
  | cons a l ih => exact ⟨rfl, ih⟩
/-- A frozen row of wide integers. -/
abbrev roW (l : List Int) : AV := .ro 7 l.length (wds l)
abbrev roI (l : List Int) : AV := .ro 1 l.length (i64s l)
theorem raws_z7 : raws [.bool false, .int .u32 0, .int .u32 0, .int .u32 0, .int .u32 0, .int .u32 0, .int .u32 0] = wi 0 := raws_wd0
theorem raws_nil : raws [] = [] := rfl
def NW := And.intro raws_nil <| And.intro @wds_length <| And.intro @ones_wds <| And.intro @wds_get <| And.intro @i64s_length <| And.intro @ones_i64s <| And.intro @i64s_get <| And.intro @noixL_wds @noixL_i64s
end Go.Proofs.Lite

namespace Go.Proofs.Lite
open Go
mutual
theorem mv_noix {i j : Nat} : ∀ a : AV, noix a → mvAV j i a = a
  | .agg cs, h => by simp only [mvAV]; rw [mvL_noix cs (by simpa [noix] using h)]
  | .tup cs, h => by simp only [mvAV]; rw [mvL_noix cs (by simpa [noix] using h)]
  | .fn f cs, h => by simp only [mvAV]; rw [mvL_noix cs (by simpa [noix] using h)]
  | .junk, _ => rfl
  | .raw _, _ => rfl
  | .ro .., _ => rfl
  | .rp .., _ => rfl
  | .ptr _ _, h => by simp [noix] at h
  | .sl _ _ _ _ _, h => by simp [noix] at h
  | .mp _, h => by simp [noix] at h
theorem mvL_noix {i j : Nat} : ∀ cs : List AV, noixL cs → mvL j i cs = cs
  | [], _ => rfl
  | c :: cs, h => by simp only [noixL] at h; simp only [mvL]; rw [mv_noix c h.1, mvL_noix cs h.2]
end
mutual
theorem frz_noix {i : Nat} {ds : List AV} : ∀ a : AV, noix a → frz i ds a = a
  | .agg cs, h => by simp only [frz]; rw [frzL_noix cs (by simpa [noix] using h)]
  | .tup cs, h => by simp only [frz]; rw [frzL_noix cs (by simpa [noix] using h)]
  | .fn f cs, h => by simp only [frz]; rw [frzL_noix cs (by simpa [noix] using h)]
  | .junk, _ => rfl
  | .raw _, _ => rfl
  | .ro .., _ => rfl
  | .rp .., _ => rfl
  | .ptr _ _, h => by simp [noix] at h
  | .sl _ _ _ _ _, h => by simp [noix] at h
  | .mp _, h => by simp [noix] at h
theorem frzL_noix {i : Nat} {ds : List AV} : ∀ cs : List AV, noixL cs → frzL i ds cs = cs
  | [], _ => rfl
  | c :: cs, h => by simp only [noixL] at h; simp only [frzL]; rw [frz_noix c h.1, frzL_noix cs h.2]
end
theorem mv_mg (j i A : Nat) : mvL j i (mg A) = mg A := mvL_noix _ (noixL_mg A)
theorem mv_wd (j i : Nat) (b : Bool) (A : Nat) : mvL j i (wd b A) = wd b A := mvL_noix _ (noixL_wd b A)
theorem mv_wi (j i : Nat) (a : Int) : mvL j i (wi a) = wi a := mvL_noix _ (noixL_wi a)
theorem mv_wds (j i : Nat) (l : List Int) : mvL j i (wds l) = wds l := mvL_noix _ (noixL_wds l)
theorem mv_i64s (j i : Nat) (l : List Int) : mvL j i (i64s l) = i64s l := mvL_noix _ (noixL_i64s l)
theorem frz_mg (i : Nat) (ds : List AV) (A : Nat) : frzL i ds (mg A) = mg A := frzL_noix _ (noixL_mg A)
theorem frz_wd (i : Nat) (ds : List AV) (b : Bool) (A : Nat) : frzL i ds (wd b A) = wd b A := frzL_noix _ (noixL_wd b A)
theorem frz_wi (i : Nat) (ds : List AV) (a : Int) : frzL i ds (wi a) = wi a := frzL_noix _ (noixL_wi a)
theorem frz_wds (i : Nat) (ds : List AV) (l : List Int) : frzL i ds (wds l) = wds l := frzL_noix _ (noixL_wds l)
theorem frz_i64s (i : Nat) (ds : List AV) (l : List Int) : frzL i ds (i64s l) = i64s l := frzL_noix _ (noixL_i64s l)
theorem cut_wds (n : Nat) (l : List Int) : cutL n (wds l) = wds l := cutL_noix _ (noixL_wds l)
theorem cut_i64s (n : Nat) (l : List Int) : cutL n (i64s l) = i64s l := cutL_noix _ (noixL_i64s l)
def DU := And.intro @mv_mg <| And.intro @mv_wd <| And.intro @mv_wi <| And.intro @mv_wds <| And.intro @mv_i64s <| And.intro @frz_mg <| And.intro @frz_wd <| And.intro @frz_wi <| And.intro @frz_wds <| And.intro @frz_i64s <| And.intro @cut_wds <| And.intro @cut_i64s <| And.intro @cut_mg <| And.intro @cut_wd <| And.intro @cut_wi @cut_lm
theorem Wk.back {n0 i j n : Nat} {T T2 : List AV} {H H2 : Heap} {cs : List AV} (hn : n0 ≤ i) (hn2 : n0 ≤ n) (hij : i ≠ j) (hi : H[i]? = some .dead) (hj : H[j]? = some (.c cs)) (hf : fits (cutL n (mvL j i T)) T2) (hH : cutH n (mvH j i cs H) = H2) : Wk n0 T H T2 H2 := by
  subst hH
  exact (Wk.move hn hij hi hj).trans ((Wk.cut hn2).trans (Wk.tmps hf))
/-- A call that is handed a slice of one's own, and hands back a part of it. -/
theorem callD_sl {P : Program} {f : FuncId} {T : List AV} {H : Heap} {i z n m : Nat} {cs : List AV} (h : Ct P f [.sl 0 z 0 n true] [.c cs] (fun v' H' => H' = [.c cs] ∧ v' = .sl 0 z 0 m true)) (hi : H[i]? = some (.c cs)) (hn : noixL cs)
    {d : Option Nat} {K : List AV → Heap → Prop} {w : KW K} (hk : K (putA T d (.sl i z 0 m true)) H) : CallD P f [.sl i z 0 n true] d T H K w := by
  refine ⟨[(i, 0)], [], [.sl 0 z 0 n true], [.c cs], _, h, ?_, ?_, by simp, ?_, ?_, fun v' Hc' hR => ⟨fun h => absurd rfl h, ?_⟩⟩
  · simp only [argsOk, and_true]
    exact .inl (by simp [ren, rix])
  · simp only [embOk, and_true]
    exact ⟨by simp, cs, hi, by simp, by rw [renL_noix cs hn]; simp⟩
  · simp only [slOkL, slOk, and_true]
    intro _
    simp [tailB, hi, segLen]
  · simp only [slOkH, and_true]; exact slOkL_noix cs hn
  · obtain ⟨rfl, rfl⟩ := hR
    have hb : back [(i, 0)] H.length H [.c cs] [.c cs] = H := by
      simp only [back, backs, back1, getD_c' hi, true_or, if_true, renL_noix cs hn, List.length_singleton, List.drop_succ_cons, List.drop_zero, List.map_nil, List.append_nil, List.take_zero, List.nil_append, Nat.zero_add, List.drop_length]
      exact set_get_self hi
    rw [hb]
    simpa [ren, rix] using hk
theorem WkV.eq1' {a v : AV} {c c' : List AV} {H : Heap} (h : a = v) (hv : cutAV 1 v = v) (hc : c = c') (hc' : cutL 1 c' = c') : WkV 1 (.c c :: H) a v [.c c'] := by
  subst h hc
  have := Wk.cut (n0 := 1) (T := [a]) (H := .c c :: H) (Nat.le_refl 1)
  simp only [cutL, hv, cutH, List.take_succ_cons, List.take_zero, List.map_nil, List.map_cons, cutSg, hc'] at this
  exact this
end Go.Proofs.Lite

namespace Go.Proofs.Lite
open Go
section
variable {P : Program} {F : FnsA} (h : IsA P F)
include h
set_option maxRecDepth 20000 in
theorem S_l05Wides_pf (l : List Int) (hl : l.length ≤ 1000000) (hr : ∀ x ∈ l, -9223372036854775808 ≤ x ∧ x < 9223372036854775808) : Pf P F.S_l05Wides [roI l] (roW l) := by
  refine pf_of h.S_l05Wides ⟨trivial, trivial⟩ trivial ?_
  simp (disch := omega) only [seval, ↓SDX, isRes, slEl, bslParts, mmAll, mmR, SUX, List.replicate, List.append, pr, lr, er, binR, ev, putA, List.set, intOf, takeAg, cellsOf, wrAll, partsOk, ones, one, isOne, wok1, findPE, List.find?, nop, prlr, isPure, pickR, optInt, rets, rv, rvs, S_l05Wides_c, IntKind.bits]
  refine loop_st (fun s : Nat => l.length - s) (fun k => ([roI l, .junk, .raw (.slice none 0 0), .sl 0 7 0 k true, .raw (.int .i64 (k : Nat))] ++ List.replicate 16 .junk)) (fun k => [.c (wds (l.take k))]) (fun k => k ≤ l.length) 0 (by omega) (Wk.tmps (by simp only [fits, eq_self, and_self, Int.cast_ofNat_Int, Int.natCast_add, and_true, true_and, List.replicate, List.cons_append, List.nil_append])) ?_
  intro k hk
  by_cases hk2 : k < l.length
  · have hx := i64s_get hk2
    obtain ⟨h1, h2⟩ := hr (l.getD k 0) (by rw [List.getD_eq_getElem?_getD, List.getElem?_eq_getElem hk2]; exact List.getElem_mem hk2)
    have hp := S_l01Of_pf h _ h1 h2
    have htk : (l.take k).length = k := by rw [List.length_take]; omega
    have hadd : wds (l.take k) ++ wi (l.getD k 0) = wds (l.take (k + 1)) := by
      rw [← wds_one, ← wds_append]
      congr 1
      rw [List.take_succ, List.getD_eq_getElem?_getD, List.getElem?_eq_getElem hk2]; rfl
    generalize l.getD k 0 = x at *
    clear hr
    simp (disch := omega) only [seval, ↓SDX, isRes, slEl, bslParts, mmAll, mmR, SUX, List.replicate, List.append, pr, lr, er, binR, ev, putA, List.set, intOf, takeAg, cellsOf, wrAll, partsOk, ones, one, isOne, wok1, findPE, List.find?, nop, prlr, isPure, pickR, optInt, rets, rv, rvs, CN, NW, hx, IntKind.bits]
    refine hp.step ?_
    simp (disch := omega) only [seval, ↓SDX, isRes, slEl, bslParts, mmAll, mmR, SUX, List.replicate, List.append, pr, lr, er, binR, ev, putA, List.set, intOf, takeAg, cellsOf, wrAll, partsOk, ones, one, isOne, wok1, findPE, List.find?, nop, prlr, isPure, pickR, optInt, rets, rv, rvs, CN, NW, hadd, IntKind.bits]
    exact ⟨k + 1, by omega, by omega, Wk.back (i := 0) (j := 2) (n := 1) (by decide) (by decide) (by decide) rfl rfl (by simp only [mvL, mvAV, cutL, cutAV, fits, DU, eq_self, and_self, and_true, true_and, Int.cast_ofNat_Int, Int.natCast_add, List.replicate, List.cons_append, List.nil_append, ↓reduceIte, Nat.reduceEqDiff, Nat.reduceLT, reduceCtorEq, if_true, if_false, List.map_cons, List.map_nil, List.take_succ_cons, List.take_zero, List.set]) (by simp only [cutH, mvH, mvSg, cutSg, mvL, cutL, DU, eq_self, and_self, and_true, true_and, Int.cast_ofNat_Int, Int.natCast_add, List.replicate, List.cons_append, List.nil_append, ↓reduceIte, Nat.reduceEqDiff, Nat.reduceLT, reduceCtorEq, if_true, if_false, List.map_cons, List.map_nil, List.take_succ_cons, List.take_zero, List.set])⟩
  · have hk3 : k = l.length := by omega
    subst hk3
    rw [List.take_length]
    clear hr
    simp (disch := omega) only [seval, ↓SDX, isRes, slEl, bslParts, mmAll, mmR, SUX, List.replicate, List.append, pr, lr, er, binR, ev, putA, List.set, intOf, takeAg, cellsOf, wrAll, partsOk, ones, one, isOne, wok1, findPE, List.find?, nop, prlr, isPure, pickR, optInt, rets, rv, rvs, CN, NW, IntKind.bits]
    refine WkV.frz (i := 0) rfl (noixL_wds _) (WkV.eq ?_ trivial)
    simp [frz, wds_length, List.take_of_length_le]
end
end Go.Proofs.Lite

namespace Go.Proofs.Lite
open Go
/-- A polynomial's value, from the highest coefficient on. -/
def hv (a : Int) (pl : Nat) : Nat → Int → List Int → Option Int
  | _, s, [] => some s
  | e, s, c :: r =>
    if (s * a).natAbs < bW then
      if pl * e ≤ 191 ∧ c.natAbs * 2 ^ (pl * e) < bW then
        if (s * a + c * 2 ^ (pl * e)).natAbs < bW then hv a pl (e + 1) (s * a + c * 2 ^ (pl * e)) r else none
      else none
    else none
def valueM (p : List Int) (a : Int) (pl : Nat) : Option Int := hv a pl 1 (p.getD (p.length - 1) 0) (p.take (p.length - 1)).reverse
/-- A wide integer and a code. -/
def oW : Option Int → AV
  | some v => .tup [.agg (wi v), .raw (.int .i64 0)]
  | none => .tup [.agg (wi 0), .raw (.int .i64 3)]
theorem noix_oW (o : Option Int) : noix (oW o) := by cases o <;> exact ⟨noix_wi _, trivial, trivial⟩
def inW (l : List Int) : Prop := ∀ x ∈ l, x.natAbs < bW
theorem inW.get {l : List Int} (h : inW l) {i : Nat} (hi : i < l.length) : (l.getD i 0).natAbs < bW := by
  rw [List.getD_eq_getElem?_getD, List.getElem?_eq_getElem hi]
  exact h _ (List.getElem_mem hi)
theorem rev_take {l : List Int} {k : Nat} (h : k < l.length) : (l.take (k + 1)).reverse = l.getD k 0 :: (l.take k).reverse := by
  rw [List.take_succ, List.getElem?_eq_getElem h, List.getD_eq_getElem?_getD, List.getElem?_eq_getElem h]
  simp
/-- How many coefficients are left without the zeros at the end. -/
def shortN (l : List Int) : Nat → Nat
  | 0 => 0
  | k + 1 => if l.getD k 0 = 0 then shortN l k else k + 1
def short (l : List Int) : List Int := l.take (shortN l l.length)
theorem shortN_le (l : List Int) : ∀ k, shortN l k ≤ k
  | 0 => Nat.le_refl _
  | k + 1 => by
    simp only [shortN]; split
    · exact Nat.le_succ_of_le (shortN_le l k)
    · exact Nat.le_refl _
theorem short_length (l : List Int) : (short l).length = shortN l l.length := by
  unfold short; rw [List.length_take]; have := shortN_le l l.length; omega
/-- The derivative. -/
def slopeM (p : List Int) : List Int := (List.range (p.length - 1)).map fun i => ((i + 1 : Nat) : Int) * p.getD (i + 1) 0
theorem slopeM_length (p : List Int) : (slopeM p).length = p.length - 1 := by simp [slopeM]
theorem slopeM_get {p : List Int} {k : Nat} (h : k < p.length - 1) : (slopeM p).getD k 0 = ((k + 1 : Nat) : Int) * p.getD (k + 1) 0 := by
  unfold slopeM
  rw [List.getD_eq_getElem?_getD, List.getElem?_map, List.getElem?_range h]; rfl
theorem take_succ_getD {l : List Int} {k : Nat} (h : k < l.length) : l.take (k + 1) = l.take k ++ [l.getD k 0] := by
  rw [List.take_succ, List.getElem?_eq_getElem h, List.getD_eq_getElem?_getD, List.getElem?_eq_getElem h]; rfl
def negM (l : List Int) : List Int := l.map fun x => -x
theorem negM_length (l : List Int) : (negM l).length = l.length := by simp [negM]
theorem negM_get {l : List Int} {k : Nat} (h : k < l.length) : (negM l).getD k 0 = -(l.getD k 0) := by
  unfold negM; simp [List.getD_eq_getElem?_getD, h]
def gcdL (l : List Int) (g : Nat) : Nat := l.foldl (fun g x => Nat.gcd g x.natAbs) g
def thinM (l : List Int) : List Int := l.map fun x => x.fdiv (gcdL l 0 : Nat)
theorem gcdL_cons (x : Int) (l : List Int) (g : Nat) : gcdL (x :: l) g = gcdL l (Nat.gcd g x.natAbs) := rfl
theorem drop_getD {l : List Int} {k : Nat} (h : k < l.length) : l.drop k = l.getD k 0 :: l.drop (k + 1) := by
  rw [List.getD_eq_getElem?_getD, List.getElem?_eq_getElem h]; simp
theorem gcd_ltW {a b : Nat} (ha : a < bW) (hb : b < bW) : Nat.gcd a b < bW := by
  rcases Nat.eq_zero_or_pos a with h | h
  · subst h; rw [Nat.gcd_zero_left]; exact hb
  · exact Nat.lt_of_le_of_lt (Nat.gcd_le_left b h) ha
theorem gcdL_lt : ∀ {l : List Int} {g : Nat}, inW l → g < bW → gcdL l g < bW
  | [], _, _, h => h
  | x :: l, g, hl, h => by
    rw [gcdL_cons]
    exact gcdL_lt (fun y hy => hl y (by simp [hy])) (gcd_ltW h (hl x (by simp)))
theorem thinM_length (l : List Int) : (thinM l).length = l.length := by simp [thinM]
theorem thinM_get {l : List Int} {k : Nat} (h : k < l.length) : (thinM l).getD k 0 = (l.getD k 0).fdiv (gcdL l 0 : Nat) := by
  unfold thinM; simp [List.getD_eq_getElem?_getD, h]
def polyIn (x : Int) : Bool := decide (-1000000 ≤ x) && decide (x ≤ 1000000)
def polyOk (p : List Int) : Bool := decide (2 ≤ p.length) && decide (p.length ≤ 9) && !decide (p.getD (p.length - 1) 0 = 0) && p.all polyIn
/-- Numbers one after the other, none if one of them is too large. -/
def rowM (f : Nat → Option Int) : Nat → Option (List Int)
  | 0 => some []
  | n + 1 => match rowM f n with
    | none => none
    | some l => match f n with
      | none => none
      | some x => some (l ++ [x])
theorem rowM_none {f : Nat → Option Int} {k : Nat} (h : rowM f k = none) : ∀ {n : Nat}, k ≤ n → rowM f n = none
  | 0, hn => by have : k = 0 := by omega
                subst this; exact h
  | n + 1, hn => by
    by_cases e : k = n + 1
    · subst e; exact h
    · simp only [rowM, rowM_none h (show k ≤ n by omega)]
theorem rowM_len {f : Nat → Option Int} : ∀ {n : Nat} {l : List Int}, rowM f n = some l → l.length = n
  | 0, l, h => by simp only [rowM] at h; injection h with h; subst h; rfl
  | n + 1, l, h => by
    simp only [rowM] at h
    split at h
    · cases h
    · rename_i l' h1
      split at h
      · cases h
      · injection h with h; subst h; simp [rowM_len h1]
/-- One coefficient of a step of the rest. -/
def stepM (sz lt : Int) (r v : List Int) (i : Nat) : Option Int :=
  if (sz * r.getD i 0).natAbs < bW then
    if r.length - v.length ≤ i then
      if (lt * v.getD (i - (r.length - v.length)) 0).natAbs < bW then
        if (sz * r.getD i 0 + -(lt * v.getD (i - (r.length - v.length)) 0)).natAbs < bW then some (sz * r.getD i 0 + -(lt * v.getD (i - (r.length - v.length)) 0)) else none
      else none
    else some (sz * r.getD i 0)
  else none
def nextM (r v : List Int) : Option (List Int) :=
  rowM (stepM ((v.getD (v.length - 1) 0).natAbs : Nat) (if v.getD (v.length - 1) 0 < 0 then -(r.getD (r.length - 1) 0) else r.getD (r.length - 1) 0) r v) r.length
def restM (v : List Int) : Nat → List Int → Option (List Int)
  | 0, r => some r
  | n + 1, r => if r.length < v.length then some r else match nextM r v with
    | none => none
    | some s => restM v n (short s)
/-- A row of wide integers and a code. -/
def oL : Option (List Int) → AV
  | some l => .tup [roW l, .raw (.int .i64 0)]
  | none => .tup [roW [], .raw (.int .i64 3)]
theorem noix_oL (o : Option (List Int)) : noix (oL o) := by cases o <;> exact ⟨trivial, trivial, trivial⟩
theorem stepM_fit {sz lt : Int} {r v : List Int} {i : Nat} {x : Int} (h : stepM sz lt r v i = some x) : x.natAbs < bW := by
  unfold stepM at h
  split at h
  · split at h
    · split at h
      · split at h
        · injection h with h; subst h; assumption
        · cases h
      · cases h
    · injection h with h; subst h; assumption
  · cases h
theorem rowM_fit {f : Nat → Option Int} (hf : ∀ i x, f i = some x → x.natAbs < bW) : ∀ {n : Nat} {l : List Int}, rowM f n = some l → inW l
  | 0, l, h => by simp only [rowM] at h; injection h with h; subst h; intro x hx; cases hx
  | n + 1, l, h => by
    simp only [rowM] at h
    split at h
    · cases h
    · rename_i l' h1
      split at h
      · cases h
      · rename_i x h2
        injection h with h; subst h
        intro y hy
        rcases List.mem_append.1 hy with hy | hy
        · exact rowM_fit hf h1 y hy
        · simp at hy; subst hy; exact hf _ _ h2
theorem inW.take {l : List Int} (h : inW l) (k : Nat) : inW (l.take k) := fun x hx => h x (List.mem_of_mem_take hx)
theorem take_short (l : List Int) : l.take (short l).length = short l := by rw [short_length]; rfl
theorem short_le (l : List Int) : (short l).length ≤ l.length := by rw [short_length]; exact shortN_le _ _
theorem wr_neg (a : Int) (b : Bool) : wr (wi a) 0 [.raw (.bool b)] = wd b a.natAbs := by simp [wr, wi, wd]
theorem Wk.fzc {n0 i n : Nat} {T T2 : List AV} {H H2 : Heap} {cs : List AV} (hi : H[i]? = some (.c cs)) (hn : noixL cs) (hn2 : n0 ≤ n) (hf : fits (cutL n (frzL i cs T)) T2) (hH : cutH n (frzH i cs H) = H2) : Wk n0 T H T2 H2 := by
  subst hH
  exact (Wk.freeze hi hn).trans ((Wk.cut hn2).trans (Wk.tmps hf))
theorem frz_none (i : Nat) (c : AV) (hc : noix c) : frz i [] (.tup [.sl i 7 0 0 true, c]) = .tup [roW [], c] := by simp [frz, frzL, wds, frz_noix c hc]
theorem inW.short {l : List Int} (h : inW l) : inW (short l) := h.take _
theorem rowM_get {f : Nat → Option Int} : ∀ {n : Nat} {l : List Int}, rowM f n = some l → ∀ i, i < n → f i = some (l.getD i 0)
  | 0, _, _, i, hi => by omega
  | n + 1, l, h, i, hi => by
    simp only [rowM] at h
    split at h
    · cases h
    · rename_i l' h1
      split at h
      · cases h
      · rename_i x h2
        injection h with h; subst h
        have hl := rowM_len h1
        by_cases e : i = n
        · subst e; rw [h2, List.getD_eq_getElem?_getD, List.getElem?_append_right (by omega), hl, Nat.sub_self]; rfl
        · rw [rowM_get h1 i (by omega), List.getD_eq_getElem?_getD, List.getD_eq_getElem?_getD, List.getElem?_append_left (by omega)]
/-- The highest coefficient falls away. -/
theorem next_short {r v s : List Int} (hv : 1 ≤ v.length) (hr : v.length ≤ r.length) (h : nextM r v = some s) : (short s).length < r.length := by
  unfold nextM at h
  generalize hlt : (if v.getD (v.length - 1) 0 < 0 then -(r.getD (r.length - 1) 0) else r.getD (r.length - 1) 0) = lt at h
  have hl := rowM_len h
  have hg := rowM_get h (r.length - 1) (by omega)
  have h0 : s.getD (r.length - 1) 0 = 0 := by
    unfold stepM at hg
    rw [if_pos (show r.length - v.length ≤ r.length - 1 by omega), show r.length - 1 - (r.length - v.length) = v.length - 1 from by omega] at hg
    split at hg
    · split at hg
      · split at hg
        · injection hg with hg
          rw [← hg, ← hlt]
          generalize v.getD (v.length - 1) 0 = a
          generalize r.getD (r.length - 1) 0 = b
          by_cases ha : a < 0
          · rw [if_pos ha, show ((a.natAbs : Nat) : Int) = -a from by omega, Int.neg_mul, Int.neg_mul, Int.mul_comm b]; omega
          · rw [if_neg ha, show ((a.natAbs : Nat) : Int) = a from by omega, Int.mul_comm b]; omega
        · cases hg
      · cases hg
    · cases hg
  rw [short_length, hl]
  obtain ⟨n, hn⟩ : ∃ n, r.length = n + 1 := ⟨r.length - 1, by omega⟩
  rw [hn] at h0 ⊢
  rw [Nat.add_sub_cancel] at h0
  simp only [shortN, h0, if_true]
  have := shortN_le s n
  omega
end Go.Proofs.Lite

namespace Go.Proofs.Lite
open Go
section
variable {P : Program} {F : FnsA} (h : IsA P F)
include h
set_option maxRecDepth 20000 in
theorem S_l05Value_pf (p : List Int) (a : Int) (pl : Nat) (hp0 : 1 ≤ p.length) (hp1 : p.length ≤ 1000) (hp : inW p) (ha : a.natAbs < bW) (hpl : pl ≤ 100) : Pf P F.S_l05Value [roW p, .agg (wi a), .raw (.int .i64 (pl : Nat))] (oW (valueM p a pl)) := by
  refine pf_of h.S_l05Value ⟨trivial, noix_wi _, trivial, trivial⟩ (noix_oW _) ?_
  obtain ⟨n, hn⟩ : ∃ n, p.length = n + 1 := ⟨p.length - 1, by omega⟩
  have s1 : ((n + 1 : Nat) : Int) - 1 = (n : Int) := by omega
  have s2 : ((n + 1 : Nat) : Int) - 2 = (n : Int) - 1 := by omega
  have hlast := wds_get (l := p) (i := n) (by omega)
  have hll := hp.get (i := n) (by omega)
  unfold valueM
  rw [show p.length - 1 = n from by omega]
  simp (disch := omega) only [seval, ↓SDX, isRes, slEl, bslParts, mmAll, mmR, SUX, List.replicate, List.append, pr, lr, er, binR, ev, putA, List.set, intOf, takeAg, cellsOf, wrAll, partsOk, ones, one, isOne, wok1, findPE, List.find?, nop, prlr, isPure, pickR, optInt, rets, rv, rvs, S_l05Value_c, CN, NW, hn, s1, s2, hlast, IntKind.bits]
  obtain ⟨L, hL⟩ : ∃ L, p.getD n 0 = L := ⟨_, rfl⟩
  obtain ⟨RES, hRES⟩ : ∃ R, hv a pl 1 L (p.take n).reverse = R := ⟨_, rfl⟩
  rw [hL] at hll ⊢
  rw [hRES]
  refine loop_st (fun s : Nat × Int => s.1) (fun s => ([roW p, .junk, .raw (.int .i64 (pl : Nat)), .junk, .ptr 0 0, .junk, .ptr 1 0, .raw (.int .i64 0), .raw (.int .i64 (n + 1 : Nat)), .ptr 2 0, .raw (.int .i64 ((s.1 : Int) - 1))] ++ List.replicate 59 .junk)) (fun s => [.c (wi a), .c (wd false 0), .c (wi s.2)])
    (fun s => s.1 ≤ n ∧ s.2.natAbs < bW ∧ hv a pl (n + 1 - s.1) s.2 (p.take s.1).reverse = RES) (n, L) ⟨Nat.le_refl _, hll, by dsimp only; rw [show n + 1 - n = 1 from by omega]; exact hRES⟩ ?_ ?_
  · exact Wk.tmps (by simp only [fits, eq_self, and_self, Int.cast_ofNat_Int, Int.natCast_add, and_true, true_and, List.replicate, List.cons_append, List.nil_append])
  rintro ⟨k, s⟩ ⟨hk, hs, hres⟩
  dsimp only at hk hs hres ⊢
  by_cases hk0 : k = 0
  · subst hk0
    simp only [List.take_zero, List.reverse_nil, hv] at hres
    subst hres
    unfold oW
    clear hlast hL hRES
    simp (disch := omega) only [seval, ↓SDX, isRes, slEl, bslParts, mmAll, mmR, SUX, List.replicate, List.append, pr, lr, er, binR, ev, putA, List.set, intOf, takeAg, cellsOf, wrAll, partsOk, ones, one, isOne, wok1, findPE, List.find?, nop, prlr, isPure, pickR, optInt, rets, rv, rvs, IntKind.bits]
    exact WkV.eq (by first | rfl | simp) (by first | trivial | (simp only [noix, noixL, NX, and_true, true_and]; done))
  obtain ⟨i, rfl⟩ : ∃ i, k = i + 1 := ⟨k - 1, by omega⟩
  rw [rev_take (by omega)] at hres
  have hki : ((i + 1 : Nat) : Int) - 1 = (i : Int) := by omega
  have hget := wds_get (l := p) (i := i) (by omega)
  have hcl := hp.get (i := i) (by omega)
  obtain ⟨c, hc⟩ : ∃ c, p.getD i 0 = c := ⟨_, rfl⟩
  rw [hc] at hres hget hcl
  obtain ⟨e, he⟩ : ∃ e, n + 1 - (i + 1) = e := ⟨_, rfl⟩
  rw [he] at hres
  have se : (n : Int) - (i : Int) = (e : Int) := by omega
  have hpe : pl * e ≤ 100 * 1000 := Nat.mul_le_mul hpl (by omega)
  obtain ⟨w, hw⟩ : ∃ w, pl * e = w := ⟨_, rfl⟩
  rw [hw] at hpe
  simp only [hv, hw] at hres
  have hmul := S_l01Mul_pf h s a hs ha
  have hup := S_l02Up_pf h c w hcl (by omega)
  rw [hki]
  by_cases h1 : (s * a).natAbs < bW
  · rw [if_pos h1] at hmul hres
    have hul : w ≤ 191 ∧ c.natAbs * 2 ^ w < bW → (c * 2 ^ w).natAbs < bW := fun k => by
      rw [Int.natAbs_mul, Int.natAbs_pow]; exact k.2
    by_cases h2 : w ≤ 191 ∧ c.natAbs * 2 ^ w < bW
    · rw [if_pos h2] at hup hres
      have hadd := S_l01Add_pf h (s * a) (c * 2 ^ w) h1 (hul h2)
      clear hul h2
      generalize c * 2 ^ w = cw at *
      generalize s * a = sa at *
      by_cases h3 : (sa + cw).natAbs < bW
      · rw [if_pos h3] at hadd hres
        clear hp hlast hL hRES hcl hll
        simp (disch := omega) only [seval, ↓SDX, isRes, slEl, bslParts, mmAll, mmR, SUX, List.replicate, List.append, pr, lr, er, binR, ev, putA, List.set, intOf, takeAg, cellsOf, wrAll, partsOk, ones, one, isOne, wok1, findPE, List.find?, nop, prlr, isPure, pickR, optInt, rets, rv, rvs, CN, NW, s1, se, hget, hw, IntKind.bits]
        refine hmul.step ?_
        simp (disch := omega) only [seval, ↓SDX, isRes, slEl, bslParts, mmAll, mmR, SUX, List.replicate, List.append, pr, lr, er, binR, ev, putA, List.set, intOf, takeAg, cellsOf, wrAll, partsOk, ones, one, isOne, wok1, findPE, List.find?, nop, prlr, isPure, pickR, optInt, rets, rv, rvs, CN, NW, s1, se, hget, hw, IntKind.bits]
        refine hup.step ?_
        simp (disch := omega) only [seval, ↓SDX, isRes, slEl, bslParts, mmAll, mmR, SUX, List.replicate, List.append, pr, lr, er, binR, ev, putA, List.set, intOf, takeAg, cellsOf, wrAll, partsOk, ones, one, isOne, wok1, findPE, List.find?, nop, prlr, isPure, pickR, optInt, rets, rv, rvs, CN, NW, s1, se, hget, hw, IntKind.bits]
        refine hadd.step ?_
        simp (disch := omega) only [seval, ↓SDX, isRes, slEl, bslParts, mmAll, mmR, SUX, List.replicate, List.append, pr, lr, er, binR, ev, putA, List.set, intOf, takeAg, cellsOf, wrAll, partsOk, ones, one, isOne, wok1, findPE, List.find?, nop, prlr, isPure, pickR, optInt, rets, rv, rvs, CN, NW, s1, se, hget, hw, IntKind.bits]
        refine ⟨(i, sa + cw), by dsimp only; omega, ⟨by dsimp only; omega, h3, by dsimp only; rw [show n + 1 - i = e + 1 from by omega]; exact hres⟩, Wk.shed (n := 3) (by decide) (by simp only [fits, eq_self, and_self, Int.cast_ofNat_Int, Int.natCast_add, and_true, true_and, List.replicate, List.cons_append, List.nil_append]) (by simp only [cutL, cutAV, cutSg, CU, List.replicate, List.cons_append, List.nil_append, Nat.reduceLT, if_true, if_false, List.map_cons, List.map_nil, List.take_succ_cons, List.take_zero]) (by simp only [cutH, cutL, cutAV, cutSg, CU, List.replicate, List.cons_append, List.nil_append, Nat.reduceLT, if_true, if_false, List.map_cons, List.map_nil, List.take_succ_cons, List.take_zero])⟩
      · rw [if_neg h3] at hadd hres
        subst hres
        unfold oW
        clear hp hlast hL hRES hcl hll
        simp (disch := omega) only [seval, ↓SDX, isRes, slEl, bslParts, mmAll, mmR, SUX, List.replicate, List.append, pr, lr, er, binR, ev, putA, List.set, intOf, takeAg, cellsOf, wrAll, partsOk, ones, one, isOne, wok1, findPE, List.find?, nop, prlr, isPure, pickR, optInt, rets, rv, rvs, CN, NW, s1, se, hget, hw, IntKind.bits]
        refine hmul.step ?_
        simp (disch := omega) only [seval, ↓SDX, isRes, slEl, bslParts, mmAll, mmR, SUX, List.replicate, List.append, pr, lr, er, binR, ev, putA, List.set, intOf, takeAg, cellsOf, wrAll, partsOk, ones, one, isOne, wok1, findPE, List.find?, nop, prlr, isPure, pickR, optInt, rets, rv, rvs, CN, NW, s1, se, hget, hw, IntKind.bits]
        refine hup.step ?_
        simp (disch := omega) only [seval, ↓SDX, isRes, slEl, bslParts, mmAll, mmR, SUX, List.replicate, List.append, pr, lr, er, binR, ev, putA, List.set, intOf, takeAg, cellsOf, wrAll, partsOk, ones, one, isOne, wok1, findPE, List.find?, nop, prlr, isPure, pickR, optInt, rets, rv, rvs, CN, NW, s1, se, hget, hw, IntKind.bits]
        refine hadd.step ?_
        simp (disch := omega) only [seval, ↓SDX, isRes, slEl, bslParts, mmAll, mmR, SUX, List.replicate, List.append, pr, lr, er, binR, ev, putA, List.set, intOf, takeAg, cellsOf, wrAll, partsOk, ones, one, isOne, wok1, findPE, List.find?, nop, prlr, isPure, pickR, optInt, rets, rv, rvs, CN, NW, s1, se, hget, hw, IntKind.bits]
        exact WkV.eq (by first | rfl | simp) (by first | trivial | (simp only [noix, noixL, NX, and_true, true_and]; done))
    · rw [if_neg h2] at hup hres
      subst hres
      unfold oW
      clear hp hlast hL hRES hcl hll hul h2
      simp (disch := omega) only [seval, ↓SDX, isRes, slEl, bslParts, mmAll, mmR, SUX, List.replicate, List.append, pr, lr, er, binR, ev, putA, List.set, intOf, takeAg, cellsOf, wrAll, partsOk, ones, one, isOne, wok1, findPE, List.find?, nop, prlr, isPure, pickR, optInt, rets, rv, rvs, CN, NW, s1, se, hget, hw, IntKind.bits]
      refine hmul.step ?_
      simp (disch := omega) only [seval, ↓SDX, isRes, slEl, bslParts, mmAll, mmR, SUX, List.replicate, List.append, pr, lr, er, binR, ev, putA, List.set, intOf, takeAg, cellsOf, wrAll, partsOk, ones, one, isOne, wok1, findPE, List.find?, nop, prlr, isPure, pickR, optInt, rets, rv, rvs, CN, NW, s1, se, hget, hw, IntKind.bits]
      refine hup.step ?_
      simp (disch := omega) only [seval, ↓SDX, isRes, slEl, bslParts, mmAll, mmR, SUX, List.replicate, List.append, pr, lr, er, binR, ev, putA, List.set, intOf, takeAg, cellsOf, wrAll, partsOk, ones, one, isOne, wok1, findPE, List.find?, nop, prlr, isPure, pickR, optInt, rets, rv, rvs, CN, NW, s1, se, hget, hw, IntKind.bits]
      exact WkV.eq (by first | rfl | simp) (by first | trivial | (simp only [noix, noixL, NX, and_true, true_and]; done))
  · rw [if_neg h1] at hmul hres
    subst hres
    unfold oW
    clear hp hlast hL hRES hcl hll
    simp (disch := omega) only [seval, ↓SDX, isRes, slEl, bslParts, mmAll, mmR, SUX, List.replicate, List.append, pr, lr, er, binR, ev, putA, List.set, intOf, takeAg, cellsOf, wrAll, partsOk, ones, one, isOne, wok1, findPE, List.find?, nop, prlr, isPure, pickR, optInt, rets, rv, rvs, CN, NW, s1, se, hget, hw, IntKind.bits]
    refine hmul.step ?_
    simp (disch := omega) only [seval, ↓SDX, isRes, slEl, bslParts, mmAll, mmR, SUX, List.replicate, List.append, pr, lr, er, binR, ev, putA, List.set, intOf, takeAg, cellsOf, wrAll, partsOk, ones, one, isOne, wok1, findPE, List.find?, nop, prlr, isPure, pickR, optInt, rets, rv, rvs, CN, NW, s1, se, hget, hw, IntKind.bits]
    exact WkV.eq (by first | rfl | simp) (by first | trivial | (simp only [noix, noixL, NX, and_true, true_and]; done))
end
end Go.Proofs.Lite

namespace Go.Proofs.Lite
open Go
section
variable {P : Program} {F : FnsA} (h : IsA P F)
include h
set_option maxRecDepth 20000 in
theorem S_l05Opposite_pf (l : List Int) (hl : l.length ≤ 1000000) (hr : inW l) : Pf P F.S_l05Opposite [roW l] (roW (negM l)) := by
  refine pf_of h.S_l05Opposite ⟨trivial, trivial⟩ trivial ?_
  simp (disch := omega) only [seval, ↓SDX, isRes, slEl, bslParts, mmAll, mmR, SUX, List.replicate, List.append, pr, lr, er, binR, ev, putA, List.set, intOf, takeAg, cellsOf, wrAll, partsOk, ones, one, isOne, wok1, findPE, List.find?, nop, prlr, isPure, pickR, optInt, rets, rv, rvs, S_l05Opposite_c, IntKind.bits]
  have hlen := negM_length l
  refine loop_st (fun s : Nat => l.length - s) (fun k => ([roW l, .junk, .raw (.slice none 0 0), .sl 0 7 0 k true, .raw (.int .i64 (k : Nat))] ++ List.replicate 16 .junk)) (fun k => [.c (wds ((negM l).take k))]) (fun k => k ≤ l.length) 0 (by omega) (Wk.tmps (by simp only [fits, eq_self, and_self, Int.cast_ofNat_Int, Int.natCast_add, and_true, true_and, List.replicate, List.cons_append, List.nil_append])) ?_
  intro k hk
  by_cases hk2 : k < l.length
  · have hx := wds_get hk2
    have hp := S_l01Neg_pf h _ (hr.get hk2)
    have htk : ((negM l).take k).length = k := by rw [List.length_take]; omega
    have hadd : wds ((negM l).take k) ++ wi (-(l.getD k 0)) = wds ((negM l).take (k + 1)) := by
      rw [← wds_one, ← wds_append, take_succ_getD (by omega), negM_get hk2]
    generalize l.getD k 0 = x at *
    clear hr
    simp (disch := omega) only [seval, ↓SDX, isRes, slEl, bslParts, mmAll, mmR, SUX, List.replicate, List.append, pr, lr, er, binR, ev, putA, List.set, intOf, takeAg, cellsOf, wrAll, partsOk, ones, one, isOne, wok1, findPE, List.find?, nop, prlr, isPure, pickR, optInt, rets, rv, rvs, CN, NW, hx, IntKind.bits]
    refine hp.step ?_
    simp (disch := omega) only [seval, ↓SDX, isRes, slEl, bslParts, mmAll, mmR, SUX, List.replicate, List.append, pr, lr, er, binR, ev, putA, List.set, intOf, takeAg, cellsOf, wrAll, partsOk, ones, one, isOne, wok1, findPE, List.find?, nop, prlr, isPure, pickR, optInt, rets, rv, rvs, CN, NW, hadd, IntKind.bits]
    exact ⟨k + 1, by omega, by omega, Wk.back (i := 0) (j := 2) (n := 1) (by decide) (by decide) (by decide) rfl rfl (by simp only [mvL, mvAV, cutL, cutAV, fits, DU, eq_self, and_self, and_true, true_and, Int.cast_ofNat_Int, Int.natCast_add, List.replicate, List.cons_append, List.nil_append, ↓reduceIte, Nat.reduceEqDiff, Nat.reduceLT, reduceCtorEq, if_true, if_false, List.map_cons, List.map_nil, List.take_succ_cons, List.take_zero, List.set]) (by simp only [cutH, mvH, mvSg, cutSg, mvL, cutL, DU, eq_self, and_self, and_true, true_and, Int.cast_ofNat_Int, Int.natCast_add, List.replicate, List.cons_append, List.nil_append, ↓reduceIte, Nat.reduceEqDiff, Nat.reduceLT, reduceCtorEq, if_true, if_false, List.map_cons, List.map_nil, List.take_succ_cons, List.take_zero, List.set])⟩
  · have hk3 : k = (negM l).length := by omega
    subst hk3
    rw [List.take_length]
    clear hr
    simp (disch := omega) only [seval, ↓SDX, isRes, slEl, bslParts, mmAll, mmR, SUX, List.replicate, List.append, pr, lr, er, binR, ev, putA, List.set, intOf, takeAg, cellsOf, wrAll, partsOk, ones, one, isOne, wok1, findPE, List.find?, nop, prlr, isPure, pickR, optInt, rets, rv, rvs, CN, NW, IntKind.bits]
    refine WkV.frz (i := 0) rfl (noixL_wds _) (WkV.eq ?_ trivial)
    simp [frz, wds_length, List.take_of_length_le]
set_option maxRecDepth 20000 in
theorem S_l05Slope_pf (l : List Int) (hl : l.length ≤ 1000) (hl1 : 1 ≤ l.length) (hr : ∀ x ∈ l, -1000000 ≤ x ∧ x ≤ 1000000) : Pf P F.S_l05Slope [roI l] (roI (slopeM l)) := by
  refine pf_of h.S_l05Slope ⟨trivial, trivial⟩ trivial ?_
  simp (disch := omega) only [seval, ↓SDX, isRes, slEl, bslParts, mmAll, mmR, SUX, List.replicate, List.append, pr, lr, er, binR, ev, putA, List.set, intOf, takeAg, cellsOf, wrAll, partsOk, ones, one, isOne, wok1, findPE, List.find?, nop, prlr, isPure, pickR, optInt, rets, rv, rvs, S_l05Slope_c, IntKind.bits]
  have hlen := slopeM_length l
  refine loop_st (fun s : Nat => l.length - s) (fun k => ([roI l, .junk, .raw (.slice none 0 0), .sl 0 1 0 k true, .raw (.int .i64 (k + 1 : Nat))] ++ List.replicate 17 .junk)) (fun k => [.c (i64s ((slopeM l).take k))]) (fun k => k + 1 ≤ l.length) 0 (by omega) (Wk.tmps (by simp [fits])) ?_
  intro k hk
  by_cases hk2 : k + 1 < l.length
  · have hx := i64s_get hk2
    obtain ⟨h1, h2⟩ := hr (l.getD (k + 1) 0) (by rw [List.getD_eq_getElem?_getD, List.getElem?_eq_getElem hk2]; exact List.getElem_mem hk2)
    have htk : ((slopeM l).take k).length = k := by rw [List.length_take]; omega
    have hadd : i64s ((slopeM l).take k) ++ [.raw (.int .i64 (((k + 1 : Nat) : Int) * l.getD (k + 1) 0))] = i64s ((slopeM l).take (k + 1)) := by
      rw [take_succ_getD (by omega), slopeM_get (by omega), i64s_append]; rfl
    have hb : -9223372036854775808 ≤ ((k + 1 : Nat) : Int) * l.getD (k + 1) 0 ∧ ((k + 1 : Nat) : Int) * l.getD (k + 1) 0 ≤ 9223372036854775807 := by
      have g1 : ((k + 1 : Nat) : Int) * l.getD (k + 1) 0 ≤ ((k + 1 : Nat) : Int) * 1000000 := Int.mul_le_mul_of_nonneg_left h2 (by omega)
      have g2 : ((k + 1 : Nat) : Int) * (-1000000) ≤ ((k + 1 : Nat) : Int) * l.getD (k + 1) 0 := Int.mul_le_mul_of_nonneg_left h1 (by omega)
      omega
    generalize l.getD (k + 1) 0 = x at *
    obtain ⟨y, hy⟩ : ∃ y, ((k + 1 : Nat) : Int) * x = y := ⟨_, rfl⟩
    rw [hy] at hb hadd
    have hz : raws [.int .i64 0] = [.raw (.int .i64 0)] := rfl
    clear hr
    simp (disch := omega) only [seval, ↓SDX, isRes, slEl, bslParts, mmAll, mmR, SUX, List.replicate, List.append, pr, lr, er, binR, ev, putA, List.set, intOf, takeAg, cellsOf, wrAll, partsOk, ones, one, isOne, wok1, findPE, List.find?, nop, prlr, isPure, pickR, optInt, rets, rv, rvs, CN, NW, hx, hy, hz, wr, hadd, IntKind.bits]
    exact ⟨k + 1, by omega, by omega, Wk.back (i := 0) (j := 2) (n := 1) (by decide) (by decide) (by decide) rfl rfl (by simp only [mvL, mvAV, cutL, cutAV, fits, DU, eq_self, and_self, and_true, true_and, Int.cast_ofNat_Int, Int.natCast_add, List.replicate, List.cons_append, List.nil_append, ↓reduceIte, Nat.reduceEqDiff, Nat.reduceLT, reduceCtorEq, if_true, if_false, List.map_cons, List.map_nil, List.take_succ_cons, List.take_zero, List.set]) (by simp only [cutH, mvH, mvSg, cutSg, mvL, cutL, DU, eq_self, and_self, and_true, true_and, Int.cast_ofNat_Int, Int.natCast_add, List.replicate, List.cons_append, List.nil_append, ↓reduceIte, Nat.reduceEqDiff, Nat.reduceLT, reduceCtorEq, if_true, if_false, List.map_cons, List.map_nil, List.take_succ_cons, List.take_zero, List.set])⟩
  · have hk3 : k = (slopeM l).length := by omega
    subst hk3
    rw [List.take_length]
    clear hr
    simp (disch := omega) only [seval, ↓SDX, isRes, slEl, bslParts, mmAll, mmR, SUX, List.replicate, List.append, pr, lr, er, binR, ev, putA, List.set, intOf, takeAg, cellsOf, wrAll, partsOk, ones, one, isOne, wok1, findPE, List.find?, nop, prlr, isPure, pickR, optInt, rets, rv, rvs, CN, NW, IntKind.bits]
    refine WkV.frz (i := 0) rfl (noixL_i64s _) (WkV.eq ?_ trivial)
    simp [frz, i64s_length, List.take_of_length_le]
end
end Go.Proofs.Lite

namespace Go.Proofs.Lite
open Go
section
variable {P : Program} {F : FnsA} (h : IsA P F)
include h
set_option maxRecDepth 20000 in
theorem S_l05Short_ct (l : List Int) (hl : l.length ≤ 1000000) (hr : inW l) : Ct P F.S_l05Short [.sl 0 7 0 l.length true] [.c (wds l)] (fun v' H' => H' = [.c (wds l)] ∧ v' = .sl 0 7 0 (short l).length true) := by
  rw [short_length]
  refine own_of h.S_l05Short ?_
  obtain ⟨n, hn⟩ : ∃ n, l.length = n := ⟨_, rfl⟩
  rw [hn] at hl ⊢
  obtain ⟨R, hR⟩ : ∃ R, shortN l n = R := ⟨_, rfl⟩
  rw [hR]
  simp (disch := omega) only [seval, ↓SDX, isRes, slEl, bslParts, mmAll, mmR, SUX, List.replicate, List.append, pr, lr, er, binR, ev, putA, List.set, intOf, takeAg, cellsOf, wrAll, partsOk, ones, one, isOne, wok1, findPE, List.find?, nop, prlr, isPure, pickR, optInt, rets, rv, rvs, S_l05Short_c, IntKind.bits]
  refine loop_st (fun s : Nat => s) (fun k => ([.sl 0 7 0 n true, .junk, .raw (.slice none 0 0), .raw (.int .i64 (k : Nat))] ++ List.replicate 17 .junk)) (fun k => [.c (wds l)]) (fun k => k ≤ n ∧ shortN l k = R) n ⟨Nat.le_refl _, hR⟩ (Wk.tmps (by simp only [fits, eq_self, and_self, Int.cast_ofNat_Int, Int.natCast_add, and_true, true_and, List.replicate, List.cons_append, List.nil_append])) ?_
  rintro k ⟨hk, hkR⟩
  by_cases hk0 : k = 0
  · subst hk0
    simp only [shortN] at hkR
    subst hkR
    clear hr hR
    simp (disch := omega) only [seval, ↓SDX, isRes, slEl, bslParts, mmAll, mmR, SUX, List.replicate, List.append, pr, lr, er, binR, ev, putA, List.set, intOf, takeAg, cellsOf, wrAll, partsOk, ones, one, isOne, wok1, findPE, List.find?, nop, prlr, isPure, pickR, optInt, rets, rv, rvs, IntKind.bits]
    exact WkV.eq1' rfl (by simp [cutAV]) rfl (cutL_noix _ (noixL_wds _))
  obtain ⟨i, rfl⟩ : ∃ i, k = i + 1 := ⟨k - 1, by omega⟩
  have hget := wds_get (l := l) (i := i) (by omega)
  have hx := hr.get (i := i) (by omega)
  have hp := S_l01Sign_wi h _ hx
  have hki : ((i + 1 : Nat) : Int) - 1 = (i : Int) := by omega
  simp only [shortN] at hkR
  have hle := shortN_le l i
  obtain ⟨x, hxe⟩ : ∃ x, l.getD i 0 = x := ⟨_, rfl⟩
  rw [hxe] at hget hx hp hkR
  have hlen : i * 7 + 7 ≤ (wds l).length := by rw [wds_length]; omega
  clear hr hR
  simp (disch := omega) only [seval, ↓SDX, isRes, slEl, bslParts, mmAll, mmR, SUX, List.replicate, List.append, pr, lr, er, binR, ev, putA, List.set, intOf, takeAg, cellsOf, wrAll, partsOk, ones, one, isOne, wok1, findPE, List.find?, nop, prlr, isPure, pickR, optInt, rets, rv, rvs, CN, hki, IntKind.bits]
  refine hp.lend (.p rfl (clean_wi _) (by rw [wi_length]; exact hlen) (by rw [wi_length]; exact hget) .nil) trivial ?_
  by_cases h0 : x = 0
  · rw [if_pos h0] at hkR
    subst h0
    simp (disch := omega) only [seval, ↓SDX, isRes, slEl, bslParts, mmAll, mmR, SUX, List.replicate, List.append, pr, lr, er, binR, ev, putA, List.set, intOf, takeAg, cellsOf, wrAll, partsOk, ones, one, isOne, wok1, findPE, List.find?, nop, prlr, isPure, pickR, optInt, rets, rv, rvs, CN, hki, Int.sign_zero, IntKind.bits]
    exact ⟨i, by omega, ⟨by omega, hkR⟩, Wk.tmps (by simp only [fits, eq_self, and_self, Int.cast_ofNat_Int, Int.natCast_add, and_true, true_and, List.replicate, List.cons_append, List.nil_append])⟩
  · rw [if_neg h0] at hkR
    subst hkR
    have hs : ¬ x.sign = 0 := fun k => h0 (Int.sign_eq_zero_iff_zero.1 k)
    simp (disch := omega) only [seval, ↓SDX, isRes, slEl, bslParts, mmAll, mmR, SUX, List.replicate, List.append, pr, lr, er, binR, ev, putA, List.set, intOf, takeAg, cellsOf, wrAll, partsOk, ones, one, isOne, wok1, findPE, List.find?, nop, prlr, isPure, pickR, optInt, rets, rv, rvs, CN, hki, IntKind.bits]
    exact WkV.eq1' rfl (by simp [cutAV]) rfl (cutL_noix _ (noixL_wds _))
set_option maxRecDepth 20000 in
theorem S_l05Ok_pf (p : List Int) (hl : p.length ≤ 1048576) : Pf P F.S_l05Ok [roI p] (.raw (.bool (polyOk p))) := by
  refine pf_of h.S_l05Ok ⟨trivial, trivial⟩ trivial ?_
  by_cases h2 : 2 ≤ p.length ∧ p.length ≤ 9
  · have e2 : (decide (2 ≤ p.length) && decide (p.length ≤ 9)) = true := by simp [h2]
    have e3 : (decide ((2 : Int) ≤ ((p.length : Nat) : Int)) && decide (((p.length : Nat) : Int) ≤ 9)) = true := by
      simp only [Bool.and_eq_true, decide_eq_true_eq]; omega
    obtain ⟨n, hn⟩ : ∃ n, p.length = n + 1 := ⟨p.length - 1, by omega⟩
    have s1 : ((n + 1 : Nat) : Int) - 1 = (n : Int) := by omega
    have hg := i64s_get (l := p) (i := n) (by omega)
    have hin := S_l00In_pf h (p.length : Nat) 2 9
    rw [e3] at hin
    unfold polyOk
    rw [e2, hn, Nat.add_sub_cancel]
    rw [hn] at hin hl
    obtain ⟨L, hL⟩ : ∃ L, p.getD n 0 = L := ⟨_, rfl⟩
    rw [hL] at hg ⊢
    clear e2 e3
    simp (disch := omega) only [seval, ↓SDX, isRes, slEl, bslParts, mmAll, mmR, SUX, List.replicate, List.append, pr, lr, er, binR, ev, putA, List.set, intOf, takeAg, cellsOf, wrAll, partsOk, ones, one, isOne, wok1, findPE, List.find?, nop, prlr, isPure, pickR, optInt, rets, rv, rvs, S_l05Ok_c, CN, hn, IntKind.bits]
    refine hin.step ?_
    by_cases h0 : L = 0
    · subst h0
      simp (disch := omega) only [seval, ↓SDX, isRes, slEl, bslParts, mmAll, mmR, SUX, List.replicate, List.append, pr, lr, er, binR, ev, putA, List.set, intOf, takeAg, cellsOf, wrAll, partsOk, ones, one, isOne, wok1, findPE, List.find?, nop, prlr, isPure, pickR, optInt, rets, rv, rvs, CN, NW, hn, s1, hg, IntKind.bits]
      exact WkV.eq (by first | rfl | simp) (by first | trivial | (simp only [noix, noixL, NX, and_true, true_and]; done))
    · obtain ⟨B, hB⟩ : ∃ B, p.all polyIn = B := ⟨_, rfl⟩
      simp (disch := omega) only [seval, ↓SDX, isRes, slEl, bslParts, mmAll, mmR, SUX, List.replicate, List.append, pr, lr, er, binR, ev, putA, List.set, intOf, takeAg, cellsOf, wrAll, partsOk, ones, one, isOne, wok1, findPE, List.find?, nop, prlr, isPure, pickR, optInt, rets, rv, rvs, CN, NW, hn, s1, hg, hB, h0, IntKind.bits]
      refine loop_st (fun s : Nat => n + 1 - s) (fun k => ([roI p, .junk, .raw (.bool false), .raw (.int .i64 (k : Nat))] ++ List.replicate 25 .junk)) (fun k => []) (fun k => k ≤ n + 1 ∧ (p.drop k).all polyIn = B) 0 ⟨by omega, hB⟩ (Wk.tmps (by simp only [fits, eq_self, and_self, Int.cast_ofNat_Int, Int.natCast_add, and_true, true_and, List.replicate, List.cons_append, List.nil_append])) ?_
      rintro k ⟨hk, hkB⟩
      by_cases hk2 : k < n + 1
      · have hx := i64s_get (l := p) (i := k) (by omega)
        rw [drop_getD (by omega), List.all_cons] at hkB
        have hin2 := S_l00In_pf h (p.getD k 0) (-1000000) 1000000
        obtain ⟨x, hxe⟩ : ∃ x, p.getD k 0 = x := ⟨_, rfl⟩
        rw [hxe] at hx hkB hin2
        rw [show (decide ((-1000000 : Int) ≤ x) && decide (x ≤ 1000000)) = polyIn x from rfl] at hin2
        by_cases hi : polyIn x = true
        · rw [hi, Bool.true_and] at hkB
          rw [hi] at hin2
          clear hg hB hin
          simp (disch := omega) only [seval, ↓SDX, isRes, slEl, bslParts, mmAll, mmR, SUX, List.replicate, List.append, pr, lr, er, binR, ev, putA, List.set, intOf, takeAg, cellsOf, wrAll, partsOk, ones, one, isOne, wok1, findPE, List.find?, nop, prlr, isPure, pickR, optInt, rets, rv, rvs, CN, NW, hn, hx, IntKind.bits]
          refine hin2.step ?_
          simp (disch := omega) only [seval, ↓SDX, isRes, slEl, bslParts, mmAll, mmR, SUX, List.replicate, List.append, pr, lr, er, binR, ev, putA, List.set, intOf, takeAg, cellsOf, wrAll, partsOk, ones, one, isOne, wok1, findPE, List.find?, nop, prlr, isPure, pickR, optInt, rets, rv, rvs, CN, IntKind.bits]
          exact ⟨k + 1, by omega, ⟨by omega, hkB⟩, Wk.tmps (by simp only [fits, eq_self, and_self, Int.cast_ofNat_Int, Int.natCast_add, and_true, true_and, List.replicate, List.cons_append, List.nil_append])⟩
        · have hi' : polyIn x = false := by simpa using hi
          rw [hi', Bool.false_and] at hkB
          rw [hi'] at hin2
          subst hkB
          clear hg hB hin
          simp (disch := omega) only [seval, ↓SDX, isRes, slEl, bslParts, mmAll, mmR, SUX, List.replicate, List.append, pr, lr, er, binR, ev, putA, List.set, intOf, takeAg, cellsOf, wrAll, partsOk, ones, one, isOne, wok1, findPE, List.find?, nop, prlr, isPure, pickR, optInt, rets, rv, rvs, CN, NW, hn, hx, IntKind.bits]
          refine hin2.step ?_
          simp (disch := omega) only [seval, ↓SDX, isRes, slEl, bslParts, mmAll, mmR, SUX, List.replicate, List.append, pr, lr, er, binR, ev, putA, List.set, intOf, takeAg, cellsOf, wrAll, partsOk, ones, one, isOne, wok1, findPE, List.find?, nop, prlr, isPure, pickR, optInt, rets, rv, rvs, CN, IntKind.bits]
          exact WkV.eq (by first | rfl | simp) (by first | trivial | (simp only [noix, noixL, NX, and_true, true_and]; done))
      · have hk3 : k = n + 1 := by omega
        subst hk3
        rw [List.drop_eq_nil_of_le (by omega), List.all_nil] at hkB
        subst hkB
        clear hg hB hin
        simp (disch := omega) only [seval, ↓SDX, isRes, slEl, bslParts, mmAll, mmR, SUX, List.replicate, List.append, pr, lr, er, binR, ev, putA, List.set, intOf, takeAg, cellsOf, wrAll, partsOk, ones, one, isOne, wok1, findPE, List.find?, nop, prlr, isPure, pickR, optInt, rets, rv, rvs, CN, NW, hn, IntKind.bits]
        exact WkV.eq (by first | rfl | simp) (by first | trivial | (simp only [noix, noixL, NX, and_true, true_and]; done))
  · have e2 : (decide (2 ≤ p.length) && decide (p.length ≤ 9)) = false := by
      simp only [Bool.and_eq_false_iff, decide_eq_false_iff_not]; omega
    have e3 : (decide ((2 : Int) ≤ ((p.length : Nat) : Int)) && decide (((p.length : Nat) : Int) ≤ 9)) = false := by
      simp only [Bool.and_eq_false_iff, decide_eq_false_iff_not]; omega
    have hin := S_l00In_pf h (p.length : Nat) 2 9
    rw [e3] at hin
    unfold polyOk
    rw [e2]
    clear e2 e3 h2
    simp (disch := omega) only [seval, ↓SDX, isRes, slEl, bslParts, mmAll, mmR, SUX, List.replicate, List.append, pr, lr, er, binR, ev, putA, List.set, intOf, takeAg, cellsOf, wrAll, partsOk, ones, one, isOne, wok1, findPE, List.find?, nop, prlr, isPure, pickR, optInt, rets, rv, rvs, S_l05Ok_c, CN, IntKind.bits]
    refine hin.step ?_
    simp (disch := omega) only [seval, ↓SDX, isRes, slEl, bslParts, mmAll, mmR, SUX, List.replicate, List.append, pr, lr, er, binR, ev, putA, List.set, intOf, takeAg, cellsOf, wrAll, partsOk, ones, one, isOne, wok1, findPE, List.find?, nop, prlr, isPure, pickR, optInt, rets, rv, rvs, CN, IntKind.bits]
    exact WkV.eq (by first | rfl | simp) (by first | trivial | (simp only [noix, noixL, NX, and_true, true_and]; done))
end
end Go.Proofs.Lite
