/-
  A set of categories, told: plain Lean.
-/
import Derived.Test.YtpgpfcdkkhfemaaDoorCats2
import Derived.Lib.ItoaNum
import Derived.Lib.Join
namespace Go.Gu
open Go.Lib (itoa)
/-- The runs of a rising list, the run (lo, hi) being under way. -/
def runsFrom (lo hi : Int) : List Int → List (Int × Int)
  | [] => [(lo, hi)]
  | x :: r => if x = hi + 1 then runsFrom lo x r else (lo, hi) :: runsFrom x x r
def runs : List Int → List (Int × Int)
  | [] => []
  | x :: r => runsFrom x x r
def runText (p : Int × Int) : List UInt8 :=
  if p.2 - p.1 = 0 then itoa p.1 else if p.2 - p.1 = 1 then itoa p.1 ++ [44] ++ itoa p.2 else itoa p.1 ++ [45] ++ itoa p.2
def Cats.text (c : Cats) : List UInt8 := if runs c.list = [] then [45] else Lib.join ((runs c.list).map runText) [44]
theorem runs_drop {l : List Int} {i : Nat} (h : i < l.length) : runs (l.drop i) = runsFrom l[i] l[i] (l.drop (i + 1)) := by
  rw [List.drop_eq_getElem_cons h]; rfl
theorem runsFrom_step {l : List Int} {lo : Int} {k : Nat} (h : k + 1 < l.length) (he : l[k + 1] = l[k] + 1) : runsFrom lo l[k] (l.drop (k + 1)) = runsFrom lo l[k + 1] (l.drop (k + 2)) := by
  rw [List.drop_eq_getElem_cons h, runsFrom, if_pos he]
theorem runsFrom_stop {l : List Int} {lo : Int} {k : Nat} (h : k + 1 < l.length) (he : l[k + 1] ≠ l[k] + 1) : runsFrom lo l[k] (l.drop (k + 1)) = (lo, l[k]) :: runs (l.drop (k + 1)) := by
  rw [runs_drop h, List.drop_eq_getElem_cons h, runsFrom, if_neg he]
theorem runsFrom_end {l : List Int} {lo hi : Int} {k : Nat} (h : l.length ≤ k + 1) : runsFrom lo hi (l.drop (k + 1)) = (lo, hi) :: runs (l.drop (k + 1)) := by
  rw [List.drop_eq_nil_of_le h]; rfl
theorem decDigits_len (u : Nat) : (Lib.decDigits u).length ≤ u + 1 := by
  induction u using Nat.strongRecOn with
  | _ u ih =>
    rw [Lib.decDigits]
    split
    · simp
    · have := ih (u / 10) (by omega)
      simp; omega
theorem itoa_len {n : Int} (h : 0 ≤ n) : (Lib.itoa n).length ≤ n.toNat + 1 := by
  unfold Lib.itoa
  rw [if_neg (by omega)]
  exact decDigits_len _
theorem ba_append (a b : List UInt8) : (⟨a.toArray⟩ : ByteArray) ++ ⟨b.toArray⟩ = ⟨(a ++ b).toArray⟩ := by
  apply ByteArray.ext
  simp
theorem ba_size (a : List UInt8) : (⟨a.toArray⟩ : ByteArray).size = a.length := rfl
theorem runText_len (p : Int × Int) (h0 : 0 ≤ p.1) (h1 : p.1 ≤ 1000) (h2 : 0 ≤ p.2) (h3 : p.2 ≤ 1000) : (runText p).length ≤ 3000 := by
  have a := itoa_len h0
  have b := itoa_len h2
  unfold runText
  split
  · omega
  · split <;> simp <;> omega
theorem runsFrom_ne (lo hi : Int) : ∀ l, runsFrom lo hi l ≠ []
  | [] => by simp [runsFrom]
  | x :: r => by
    rw [runsFrom]
    split
    · exact runsFrom_ne lo x r
    · simp
theorem runs_nil {l : List Int} : runs l = [] ↔ l = [] := by
  cases l with
  | nil => simp [runs]
  | cons x r => simp [runs, runsFrom_ne]
theorem lens_le (n : Nat) : ∀ (ps : List (List UInt8)), (∀ p ∈ ps, p.length ≤ n) → Lib.lens ps ≤ ps.length * n
  | [], _ => by simp [Lib.lens]
  | p :: r, h => by
    have h1 := h p (by simp)
    have h2 := lens_le n r (fun x hx => h x (by simp [hx]))
    simp only [Lib.lens, List.map_cons, List.sum_cons, List.length_cons, Nat.add_mul] at *
    omega
theorem join_len (sep : List UInt8) (n : Nat) (ps : List (List UInt8)) (h : ∀ p ∈ ps, p.length ≤ n) : (Lib.join ps sep).length ≤ ps.length * (n + sep.length) := by
  cases ps with
  | nil => simp [Lib.join]
  | cons p r =>
    rw [Lib.join_length]
    have := lens_le n (p :: r) h
    have h3 : sep.length * r.length ≤ (p :: r).length * sep.length := by rw [Nat.mul_comm]; exact Nat.mul_le_mul_right _ (by simp)
    rw [Nat.mul_add]
    omega
end Go.Gu
