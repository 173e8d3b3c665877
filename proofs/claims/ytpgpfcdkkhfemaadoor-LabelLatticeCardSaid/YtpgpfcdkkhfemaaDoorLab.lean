/-
  Labels: a level and a set of categories; the lattice of them. Plain Lean.
-/
import Derived.Test.YtpgpfcdkkhfemaaDoorTexts
namespace Go.Gu
open Go.Lib (itoa cut)
structure Lab where
  level : Int
  cats : Cats
  deriving DecidableEq
namespace Lab
theorem ext' {a b : Lab} (h1 : a.level = b.level) (h2 : a.cats = b.cats) : a = b := by cases a; cases b; simp at h1 h2; rw [h1, h2]
def zero : Lab := ⟨0, Cats.zero⟩
def right (l : Lab) : Bool := decide (0 ≤ l.level) && decide (l.level ≤ 255)
def join1 (a b : Lab) : Lab := ⟨max a.level b.level, Cats.union [a.cats, b.cats]⟩
def meet1 (a b : Lab) : Lab := ⟨min a.level b.level, Cats.meet a.cats [b.cats]⟩
def join (a : Lab) (l : List Lab) : Lab := l.foldl join1 a
def meet (a : Lab) (l : List Lab) : Lab := l.foldl meet1 a
def dom (a b : Lab) : Bool := decide (b.level ≤ a.level) && b.cats.within a.cats
theorem dom_iff (a b : Lab) : a.dom b = true ↔ b.level ≤ a.level ∧ ∀ k : Nat, k < 240 → b.cats.has (k : Int) = true → a.cats.has (k : Int) = true := by
  rw [dom, Bool.and_eq_true, decide_eq_true_eq, Cats.within_iff]
theorem has_u (a b : Cats) (k : Int) : (Cats.union [a, b]).has k = (a.has k || b.has k) := by rw [Cats.has_union]; simp
theorem has_m (a b : Cats) (k : Int) : (Cats.meet a [b]).has k = (a.has k && b.has k) := by rw [Cats.has_meet]; simp
theorem dom_join_l (a b : Lab) : (a.join1 b).dom a = true := by
  rw [dom_iff]; exact ⟨by simp [join1]; omega, fun k _ h => by simp [join1, has_u, h]⟩
theorem dom_join_r (a b : Lab) : (a.join1 b).dom b = true := by
  rw [dom_iff]; exact ⟨by simp [join1]; omega, fun k _ h => by simp [join1, has_u, h]⟩
theorem dom_meet_l (a b : Lab) : a.dom (a.meet1 b) = true := by
  rw [dom_iff]; exact ⟨by simp [meet1]; omega, fun k _ h => by simp [meet1, has_m] at h; exact h.1⟩
theorem dom_meet_r (a b : Lab) : b.dom (a.meet1 b) = true := by
  rw [dom_iff]; exact ⟨by simp [meet1]; omega, fun k _ h => by simp [meet1, has_m] at h; exact h.2⟩
theorem dom_join (a b c : Lab) : (c.dom a && c.dom b) = c.dom (a.join1 b) := by
  rw [Bool.eq_iff_iff, Bool.and_eq_true, dom_iff, dom_iff, dom_iff]
  constructor
  · rintro ⟨⟨h1, h2⟩, h3, h4⟩
    refine ⟨by simp [join1]; omega, fun k hk h => ?_⟩
    simp [join1, has_u] at h
    rcases h with h | h
    · exact h2 k hk h
    · exact h4 k hk h
  · rintro ⟨h1, h2⟩
    simp [join1] at h1
    exact ⟨⟨by omega, fun k hk h => h2 k hk (by simp [join1, has_u, h])⟩, by omega, fun k hk h => h2 k hk (by simp [join1, has_u, h])⟩
theorem dom_meet (a b c : Lab) : (a.dom c && b.dom c) = (a.meet1 b).dom c := by
  rw [Bool.eq_iff_iff, Bool.and_eq_true, dom_iff, dom_iff, dom_iff]
  constructor
  · rintro ⟨⟨h1, h2⟩, h3, h4⟩
    refine ⟨by simp [meet1]; omega, fun k hk h => ?_⟩
    simp [meet1, has_m]
    exact ⟨h2 k hk h, h4 k hk h⟩
  · rintro ⟨h1, h2⟩
    simp [meet1] at h1
    refine ⟨⟨by omega, fun k hk h => ?_⟩, by omega, fun k hk h => ?_⟩
    · have := h2 k hk h; simp [meet1, has_m] at this; exact this.1
    · have := h2 k hk h; simp [meet1, has_m] at this; exact this.2
theorem join_three (a b c : Lab) : a.join [b, c] = c.join [a.join1 b] := by
  apply ext'
  · simp [join, join1]; omega
  · apply Cats.ext_has; intro k _
    simp only [join, join1, List.foldl_cons, List.foldl_nil, has_u]
    cases a.cats.has (k : Int) <;> cases b.cats.has (k : Int) <;> cases c.cats.has (k : Int) <;> rfl
theorem meet_three (a b c : Lab) : a.meet [b, c] = c.meet [a.meet1 b] := by
  apply ext'
  · simp [meet, meet1]; omega
  · apply Cats.ext_has; intro k _
    simp only [meet, meet1, List.foldl_cons, List.foldl_nil, has_m]
    cases a.cats.has (k : Int) <;> cases b.cats.has (k : Int) <;> cases c.cats.has (k : Int) <;> rfl
theorem join_one (a b : Lab) : a.join [b] = a.join1 b := rfl
theorem meet_one (a b : Lab) : a.meet [b] = a.meet1 b := rfl
theorem join_none (a : Lab) : a.join [] = a := rfl
theorem meet_join (a b : Lab) : a.meet1 (a.join1 b) = a := by
  apply ext'
  · simp [meet1, join1]; omega
  · apply Cats.ext_has; intro k _
    simp only [meet1, join1, has_u, has_m]
    cases a.cats.has (k : Int) <;> rfl
theorem join_meet (a b : Lab) : a.join1 (a.meet1 b) = a := by
  apply ext'
  · simp [meet1, join1]; omega
  · apply Cats.ext_has; intro k _
    simp only [meet1, join1, has_u, has_m]
    cases a.cats.has (k : Int) <;> rfl
/-- A label, told. -/
def text (l : Lab) : List UInt8 := if l.right then itoa l.level ++ [58] ++ l.cats.text else []
def parse (s : List UInt8) : Lab × Bool :=
  if Cats.atoiOk (cut s [58]).1 && (Cats.parse (cut s [58]).2.1).2 && ((⟨Cats.atoiV (cut s [58]).1, (Cats.parse (cut s [58]).2.1).1⟩ : Lab).text == s)
  then (⟨Cats.atoiV (cut s [58]).1, (Cats.parse (cut s [58]).2.1).1⟩, true) else (zero, false)
theorem parse_yes {s : List UInt8} (h : (parse s).2 = true) : (parse s).1.text = s := by
  unfold parse at *
  split at h
  · rename_i h1
    simp only [Bool.and_eq_true, beq_iff_eq] at h1
    rw [if_pos (by simp [h1])]; exact h1.2
  · cases h
theorem parse_no {s : List UInt8} (h : (parse s).2 = false) : (parse s).1 = zero := by
  unfold parse at *
  split at h
  · cases h
  · rename_i h1; rw [if_neg h1]
theorem cut_nil : cut [] [58] = ([], [], false) := cut_free (by simp)
/-- Of a text that is read the level is right. -/
theorem parse_right {s : List UInt8} (h : (parse s).2 = true) : (parse s).1.right = true := by
  have ht := parse_yes h
  cases hr : (parse s).1.right with
  | true => rfl
  | false =>
    exfalso
    have h0 : s = [] := by rw [← ht, text, hr]; rfl
    subst h0
    unfold parse at h
    rw [cut_nil] at h
    have : Cats.atoiOk [] = false := rfl
    simp [this] at h
theorem text_of_right {l : Lab} (h : l.right = true) : l.text = itoa l.level ++ [58] ++ l.cats.text := by rw [text, if_pos h]
theorem text_of_wrong {l : Lab} (h : l.right = false) : l.text = [] := by rw [text, if_neg (by simp [h])]
theorem parse_text {l : Lab} (h : l.right = true) : parse l.text = (l, true) := by
  have hb : 0 ≤ l.level ∧ l.level ≤ 255 := by simpa [right] using h
  have ht := text_of_right h
  have hc : cut l.text [58] = (itoa l.level, l.cats.text, true) := by
    rw [ht, List.append_assoc, List.singleton_append]
    exact cut_at _ (itoa_free hb.1 (by decide))
  have ha := atoi_itoa hb.1 (by omega : l.level < 1000000)
  have h1 : Cats.atoiOk (itoa l.level) = true := by simp [Cats.atoiOk, ha]
  have h2 : Cats.atoiV (itoa l.level) = l.level := by simp [Cats.atoiV, ha]
  unfold parse
  rw [hc]
  simp only [h1, h2, Cats.parse_text]
  simp
theorem parse_empty : parse [] = (zero, false) := by
  unfold parse; rw [cut_nil]
  have : Cats.atoiOk [] = false := rfl
  simp [this]
end Lab
end Go.Gu
