/-
  Prefixes: right ones, told and read again. Plain Lean.
-/
import Derived.Test.YtpgpfcdkkhfemaaDoorAddr
namespace Go.Gu
open Go.Lib (itoa cut)
open Go.Gu.Cats (atoiOk atoiV)
namespace Ad
def mask (b : Int) : Int := 4294967296 - 2 ^ (32 - b).toNat
def cutA (a b : Int) : Int := a - a % 2 ^ (32 - b).toNat
def right (a b : Int) : Bool := decide (0 ≤ b) && decide (b ≤ 32) && decide (a % 2 ^ (32 - b).toNat = 0)
def ptext (a b : Int) : List UInt8 := if right a b then text a ++ [47] ++ itoa b else []
def pparse (s : List UInt8) : (Int × Int) × Bool :=
  if (parse (cut s [47]).1).2 && numOk (cut s [47]).2.1 32 && right (parse (cut s [47]).1).1 (atoiV (cut s [47]).2.1) then (((parse (cut s [47]).1).1, atoiV (cut s [47]).2.1), true) else ((0, 0), false)
theorem and_mask (a k : Nat) (ha : a < 4294967296) (hk : k ≤ 32) : a &&& (4294967296 - 2 ^ k) = a - a % 2 ^ k := by
  have h1 : a - a % 2 ^ k = a / 2 ^ k * 2 ^ k := by have := Nat.div_add_mod a (2 ^ k); rw [Nat.mul_comm] at this; omega
  rw [h1]
  have hd : ∀ k : Fin 33, ∀ i : Fin 32, (4294967296 - 2 ^ k.val : Nat).testBit i.val = decide (k.val ≤ i.val) := by decide +kernel
  apply Nat.eq_of_testBit_eq
  intro i
  rw [Nat.testBit_and, Nat.testBit_mul_two_pow, Nat.testBit_div_two_pow]
  rcases Nat.lt_or_ge i 32 with hi | hi
  · rw [hd ⟨k, by omega⟩ ⟨i, hi⟩]
    by_cases hki : k ≤ i
    · simp [hki, show k + (i - k) = i from by omega]
    · simp [hki]
  · have : a.testBit i = false := Nat.testBit_lt_two_pow (Nat.lt_of_lt_of_le ha (by have := Nat.pow_le_pow_right (n := 2) (by decide) hi; simpa using this))
    rw [this]
    by_cases hki : k ≤ i
    · simp [show i - k + k = i from by omega, this]
    · simp [hki]
theorem bits_zero (a : Nat) : ∀ m, (a % 2 ^ m = 0 ↔ ∀ j, j < m → a / 2 ^ j % 2 = 0)
  | 0 => by simp [Nat.mod_one]
  | m + 1 => by
    rw [Nat.mod_pow_succ]
    constructor
    · intro h j hj
      have h2 : a % 2 ^ m = 0 ∧ 2 ^ m * (a / 2 ^ m % 2) = 0 := by omega
      rcases Nat.lt_or_ge j m with h3 | h3
      · exact (bits_zero a m).1 h2.1 j h3
      · obtain rfl : j = m := by omega
        rcases Nat.mul_eq_zero.1 h2.2 with h4 | h4
        · exact absurd h4 (Nat.pos_iff_ne_zero.1 (Nat.two_pow_pos _))
        · exact h4
    · intro h
      rw [(bits_zero a m).2 fun j hj => h j (by omega), h m (by omega)]; simp
theorem right_iff {a b : Int} (h : right a b = true) : 0 ≤ b ∧ b ≤ 32 ∧ a % 2 ^ (32 - b).toNat = 0 := by
  simp only [right, Bool.and_eq_true, decide_eq_true_eq] at h
  exact ⟨h.1.1, h.1.2, h.2⟩
theorem ptext_right {a b : Int} (h : right a b = true) : ptext a b = text a ++ [47] ++ itoa b := by rw [ptext, if_pos h]
theorem ptext_wrong {a b : Int} (h : right a b = false) : ptext a b = [] := by rw [ptext, if_neg (by simp [h])]
theorem pparse_text {a b : Int} (h0 : 0 ≤ a) (h1 : a < 4294967296) (h : right a b = true) : pparse (ptext a b) = ((a, b), true) := by
  obtain ⟨hb0, hb1, _⟩ := right_iff h
  have hc : cut (ptext a b) [47] = (text a, itoa b, true) := by
    rw [ptext_right h, List.append_assoc, List.singleton_append]
    exact cut_at _ (text_free h0)
  obtain ⟨k1, k2⟩ := numOk_itoa (n := b) (most := 32) hb0 hb1 (by omega)
  unfold pparse
  rw [hc]
  simp [parse_text h0 h1, k1, k2, h]
theorem pparse_empty : pparse [] = ((0, 0), false) := by
  unfold pparse
  rw [cut_free (by simp)]
  have : (parse []).2 = false := rfl
  simp [this]
theorem pparse_yes {s : List UInt8} (h : (pparse s).2 = true) : right (pparse s).1.1 (pparse s).1.2 = true ∧ text (pparse s).1.1 ++ [47] ++ itoa (pparse s).1.2 = s ∧ 0 ≤ (pparse s).1.1 ∧ (pparse s).1.1 < 4294967296 := by
  unfold pparse at *
  split at h
  · rename_i hc
    rw [if_pos hc]
    simp only [Bool.and_eq_true] at hc
    obtain ⟨⟨h1, h2⟩, h3⟩ := hc
    obtain ⟨e1, e2, e3⟩ := parse_yes h1
    obtain ⟨f1, f2, f3⟩ := numOk_iff h2
    refine ⟨h3, ?_, e2, e3⟩
    simp only [e1, f3]
    rcases cut_cases 47 s with ⟨_, hcut⟩ | ⟨p, r, rfl, _, hcut⟩
    · exfalso
      rw [hcut] at f3
      exact itoa_ne _ f3
    · rw [hcut]; simp
  · cases h
theorem pparse_no {s : List UInt8} (h : (pparse s).2 = false) : (pparse s).1 = (0, 0) := by
  unfold pparse at *
  split at h
  · cases h
  · rename_i hc; rw [if_neg hc]
end Ad
end Go.Gu
