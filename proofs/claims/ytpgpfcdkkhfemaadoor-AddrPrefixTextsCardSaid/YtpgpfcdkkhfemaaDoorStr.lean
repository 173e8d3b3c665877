/-
  Texts: the pieces between one byte, a text put together of pieces and cut again; a number's digits read again. Plain Lean.
-/
import Derived.Lib.Split
import Derived.Lib.SplitLaws
import Derived.Lib.Join
import Derived.Lib.ItoaNum
import Derived.Lib.AtoiAllCases
namespace Go.Gu
open Go.Lib
/-- A text's pieces between the bytes c. -/
def pieces (c : UInt8) : List UInt8 → List (List UInt8)
  | [] => [[]]
  | x :: r => if x = c then [] :: pieces c r else match pieces c r with
    | [] => [[x]]
    | p :: ps => (x :: p) :: ps
theorem pieces_ne (c : UInt8) : ∀ s, pieces c s ≠ []
  | [] => by simp [pieces]
  | x :: r => by
    rw [pieces]
    split
    · simp
    · split <;> simp
theorem pieces_free {c : UInt8} : ∀ {s : List UInt8}, c ∉ s → pieces c s = [s]
  | [], _ => rfl
  | x :: r, h => by
    simp only [List.mem_cons, not_or] at h
    rw [pieces, if_neg (fun e => h.1 e.symm), pieces_free h.2]
theorem pieces_cut {c : UInt8} (r : List UInt8) : ∀ {p : List UInt8}, c ∉ p → pieces c (p ++ c :: r) = p :: pieces c r
  | [], _ => by simp [pieces]
  | x :: p, h => by
    simp only [List.mem_cons, not_or] at h
    rw [List.cons_append, pieces, if_neg (fun e => h.1 e.symm), pieces_cut r h.2]
theorem split_at (c : UInt8) : ∀ s : List UInt8, c ∈ s → ∃ p r, s = p ++ c :: r ∧ c ∉ p
  | [], h => by cases h
  | x :: s, h => by
    by_cases e : x = c
    · exact ⟨[], s, by rw [e]; rfl, by simp⟩
    · rcases List.mem_cons.1 h with h | h
      · exact absurd h.symm e
      · obtain ⟨p, r, h1, h2⟩ := split_at c s h
        exact ⟨x :: p, r, by rw [h1]; rfl, by simp only [List.mem_cons, not_or]; exact ⟨fun e' => e e'.symm, h2⟩⟩
theorem index_one_none {c : UInt8} : ∀ {s : List UInt8}, c ∉ s → index s [c] = -1
  | [], _ => rfl
  | x :: s, h => by
    simp only [List.mem_cons, not_or] at h
    have ih := index_one_none h.2
    have : ([c] : List UInt8).isPrefixOf (x :: s) = false := by simp [List.isPrefixOf, h.1]
    rw [index, this, ih]; rfl
theorem index_one_at {c : UInt8} (r : List UInt8) : ∀ {p : List UInt8}, c ∉ p → index (p ++ c :: r) [c] = p.length
  | [], _ => by simp [index, List.isPrefixOf]
  | x :: p, h => by
    simp only [List.mem_cons, not_or] at h
    have ih := index_one_at r h.2
    have : ([c] : List UInt8).isPrefixOf (x :: (p ++ c :: r)) = false := by simp [List.isPrefixOf, h.1]
    rw [List.cons_append, index, this, ih]
    have h2 : (((p.length : Nat) : Int) == -1) = false := by rw [beq_eq_false_iff_ne]; omega
    simp [h2]
theorem splitK_pieces (c : UInt8) : ∀ (n : Nat) (s : List UInt8), s.length ≤ n → splitK [c] 0 (count s [c]) s = pieces c s := by
  intro n
  induction n with
  | zero =>
    intro s hs
    have : s = [] := List.length_eq_zero_iff.1 (by omega)
    subst this
    simp [count_one, splitK, pieces]
  | succ n ih =>
    intro s hs
    by_cases h : c ∈ s
    · obtain ⟨p, r, rfl, hp⟩ := split_at c s h
      rw [pieces_cut r hp]
      have hc : count (p ++ c :: r) [c] = count r [c] + 1 := by
        simp only [count_one, List.count_append, List.count_cons_self, List.count_eq_zero_of_not_mem hp]; omega
      rw [hc, splitK, index_one_at r hp]
      have h2 : (((p.length : Nat) : Int) == -1) = false := by rw [beq_eq_false_iff_ne]; omega
      rw [h2]
      simp only [Bool.false_eq_true, if_false, Int.toNat_natCast, Nat.add_zero, List.length_singleton]
      rw [show List.take p.length (p ++ c :: r) = p from by simp, show List.drop (p.length + 1) (p ++ c :: r) = r from by simp, ih r (by simp at hs; omega)]
    · rw [pieces_free h, count_one, List.count_eq_zero_of_not_mem h, splitK]
theorem split_pieces (c : UInt8) (s : List UInt8) : split s [c] = pieces c s := splitK_pieces c s.length s (Nat.le_refl _)
theorem pieces_len (c : UInt8) : ∀ s, (pieces c s).length ≤ s.length + 1
  | [] => by simp [pieces]
  | x :: r => by
    have := pieces_len c r
    rw [pieces]
    split
    · simp; omega
    · split
      · simp
      · rename_i h; rw [h] at this; simp at this ⊢; omega
theorem pieces_mem_len (c : UInt8) : ∀ s, ∀ p ∈ pieces c s, p.length ≤ s.length
  | [], p, h => by simp [pieces] at h; simp [h]
  | x :: r, p, h => by
    have ih := pieces_mem_len c r
    rw [pieces] at h
    split at h
    · rcases List.mem_cons.1 h with rfl | h
      · simp
      · have := ih p h; simp; omega
    · split at h
      · simp at h; simp [h]
      · rename_i q qs hq
        rw [hq] at ih
        rcases List.mem_cons.1 h with rfl | h
        · have := ih q (by simp); simp; omega
        · have := ih p (by simp [h]); simp; omega
theorem pieces_join (c : UInt8) : ∀ l : List (List UInt8), l ≠ [] → (∀ p ∈ l, c ∉ p) → pieces c (Lib.join l [c]) = l
  | [], h, _ => absurd rfl h
  | [p], _, hp => by rw [join_one, pieces_free (hp p (by simp))]
  | p :: q :: r, _, hp => by
    have ih := pieces_join c (q :: r) (by simp) fun x hx => hp x (by simp [hx])
    have e : Lib.join (p :: q :: r) [c] = p ++ c :: Lib.join (q :: r) [c] := by
      rw [join_cons, join_cons]; simp [joinTail]
    rw [e, pieces_cut _ (hp p (by simp)), ih]
theorem join_pieces (c : UInt8) : ∀ s : List UInt8, Lib.join (pieces c s) [c] = s
  | [] => by simp [pieces, join_one]
  | x :: r => by
    have ih := join_pieces c r
    rw [pieces]
    split
    · rename_i e
      cases h : pieces c r with
      | nil => exact absurd h (pieces_ne c r)
      | cons p ps => rw [h] at ih; rw [join_cons]; rw [join_cons] at ih; simp [joinTail, e] at ih ⊢; exact ih
    · split
      · rename_i h; exact absurd h (pieces_ne c r)
      · rename_i p ps h
        rw [h] at ih; rw [join_cons] at ih ⊢; simp only [List.cons_append, ih]
theorem join_append {c : UInt8} : ∀ {a b : List (List UInt8)}, a ≠ [] → b ≠ [] → Lib.join (a ++ b) [c] = Lib.join a [c] ++ c :: Lib.join b [c]
  | [], _, h, _ => absurd rfl h
  | [p], [], _, h => absurd rfl h
  | [p], q :: b, _, _ => by rw [List.singleton_append, join_cons, join_one, join_cons]; simp [joinTail]
  | p :: q :: r, b, _, hb => by
    have ih := join_append (c := c) (a := q :: r) (b := b) (by simp) hb
    have e : ∀ t, Lib.join (p :: q :: t) [c] = p ++ c :: Lib.join (q :: t) [c] := fun t => by rw [join_cons, join_cons]; simp [joinTail]
    rw [List.cons_append, List.cons_append, e, e, ← List.cons_append, ih]; simp
/-! Cut at one byte. -/
theorem cut_free {c : UInt8} {s : List UInt8} (h : c ∉ s) : cut s [c] = (s, [], false) := by
  unfold cut; rw [index_one_none h]; rfl
theorem cut_at {c : UInt8} {p : List UInt8} (r : List UInt8) (h : c ∉ p) : cut (p ++ c :: r) [c] = (p, r, true) := by
  unfold cut; rw [index_one_at r h, if_pos (by omega)]; simp
theorem cut_cases (c : UInt8) (s : List UInt8) : (c ∉ s ∧ cut s [c] = (s, [], false)) ∨ ∃ p r, s = p ++ c :: r ∧ c ∉ p ∧ cut s [c] = (p, r, true) := by
  by_cases h : c ∈ s
  · obtain ⟨p, r, rfl, hp⟩ := split_at c s h
    exact .inr ⟨p, r, rfl, hp, cut_at r hp⟩
  · exact .inl ⟨h, cut_free h⟩
/-! Digits. -/
theorem decDigits_dig (u : Nat) : ∀ b ∈ decDigits u, 48 ≤ b.toNat ∧ b.toNat ≤ 57 := by
  induction u using Nat.strongRecOn with
  | _ u ih =>
    intro b hb
    rw [decDigits] at hb
    split at hb
    · rename_i h
      simp at hb; subst hb
      simp [UInt8.toNat_ofNat']; omega
    · rcases List.mem_append.1 hb with hb | hb
      · exact ih (u / 10) (by omega) b hb
      · simp at hb; subst hb
        simp [UInt8.toNat_ofNat']; omega
theorem decDigits_ne (u : Nat) : decDigits u ≠ [] := by
  rw [decDigits]; split <;> simp
theorem itoa_dig {n : Int} (h : 0 ≤ n) : ∀ b ∈ itoa n, 48 ≤ b.toNat ∧ b.toNat ≤ 57 := by
  unfold itoa; rw [if_neg (by omega)]; exact decDigits_dig _
theorem itoa_free {n : Int} (h : 0 ≤ n) {c : UInt8} (hc : c.toNat < 48 ∨ 57 < c.toNat) : c ∉ itoa n := fun hm => by
  have := itoa_dig h c hm; omega
theorem itoa_ne (n : Int) : itoa n ≠ [] := by
  unfold itoa
  split
  · simp
  · exact decDigits_ne _
theorem parse_app : ∀ (l m : List UInt8) (acc u : Nat), parseUint10 acc l = .ok u → parseUint10 acc (l ++ m) = parseUint10 u m
  | [], m, acc, u, h => by simp [parseUint10] at h; rw [h]; rfl
  | c :: r, m, acc, u, h => by
    simp only [parseUint10, List.cons_append] at h ⊢
    split at h
    · rename_i h1
      rw [if_pos h1]
      split at h
      · cases h
      · rename_i h2
        rw [if_neg h2]
        split at h
        · cases h
        · rename_i h3
          rw [if_neg h3]
          exact parse_app r m _ u h
    · cases h
theorem parse_digits (u : Nat) (hu : u < 1844674407370955162) : parseUint10 0 (decDigits u) = .ok u := by
  induction u using Nat.strongRecOn with
  | _ u ih =>
    rw [decDigits]
    split
    · rename_i h
      have e : (UInt8.ofNat (48 + u)).toNat = 48 + u := by simp [UInt8.toNat_ofNat']; omega
      simp only [parseUint10, e]
      rw [if_pos (by omega), if_neg (by omega), if_neg (by omega)]
      congr 1; omega
    · rename_i h
      rw [parse_app _ _ _ _ (ih (u / 10) (by omega) (by omega))]
      have e : (UInt8.ofNat (48 + u % 10)).toNat = 48 + u % 10 := by simp [UInt8.toNat_ofNat']; omega
      simp only [parseUint10, e]
      rw [if_pos (by omega), if_neg (by omega), if_neg (by omega)]
      congr 1; omega
theorem atoi_itoa {n : Int} (h0 : 0 ≤ n) (h : n < 1000000) : atoiAll (itoa n) = .ok n := by
  have hp := parse_digits n.toNat (by omega)
  have hd := itoa_dig h0
  unfold itoa at *
  rw [if_neg (by omega)] at *
  cases hl : decDigits n.toNat with
  | nil => exact absurd hl (decDigits_ne _)
  | cons c r =>
    rw [hl] at hd hp
    have hc := hd c (by simp)
    rw [atoiAll_plain c r (by omega) (by omega), parseMag, if_neg (by simp), hp, signless, if_neg (by omega)]
    congr 1; omega
end Go.Gu
