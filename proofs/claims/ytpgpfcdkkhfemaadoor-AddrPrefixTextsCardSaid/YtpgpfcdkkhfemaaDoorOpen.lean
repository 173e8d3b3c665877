/-
  Arguments opened: a slice of ints, a text, a number.
-/
import Derived.Test.YtpgpfcdkkhfemaaDoorPost
import Derived.ChangeSlices
import Derived.ChangeMaps5
namespace Go.Gu
set_option linter.unusedSimpArgs false
set_option linter.unusedVariables false
open Go Go.RowKit Go.ChangeShapes Go.WideShapes
section
variable {H : Type} {enc : TypeId × Value → H} {P : Program} {w : World} {base : Nat} {sp : Nat → Bool} {held : Bool}
theorem cells_slice (a : Option Addr) (n c : Nat) : (Value.slice a n c).cells.toList = [.slice a n c] := by simp [Value.cells]
theorem open_islice {r : Reach} {b0 : Nat} {t e : TypeId} {v : Value} {d : DataW H} {ps : List MemPlace} (ht : P.underlying t = some (.slice e)) (he : P.underlying e = some (.int .i64)) (hc : P.cellsOf e = 1)
    (hval : Value.okWide P w r b0 t v) (hd : DataW.Trod enc P w base sp held t v d ps) :
    ∃ (A : Option Addr) (l : List Int) (cap : Nat), v = .slice A l.length cap ∧ At w A 1 (l.map iv) ∧ l.length ≤ 9223372036854775807 ∧ ∀ n ∈ l, (Lit.int .i64 n).wf = true := by
  obtain ⟨a, len, cap, rfl⟩ := okWide_slice ht hval
  obtain ⟨fuel, hf⟩ := hd
  rw [cells_slice] at hf
  rcases open_ints ht he hc hf with ⟨h, hx⟩ | ⟨a', len', cap', zs, h, _, hl, hm, hz, hx, hcell, hwf⟩
  · simp only [List.cons.injEq, Value.slice.injEq, and_true] at h
    obtain ⟨rfl, rfl, rfl⟩ := h
    exact ⟨none, [], 0, rfl, At.nil _ _ _, by simp, by simp⟩
  · simp only [List.cons.injEq, Value.slice.injEq, and_true] at h
    obtain ⟨rfl, rfl, rfl⟩ := h
    have hle : len ≤ zs.length := by rw [hz]; split <;> omega
    have hlen : (zs.take len).length = len := by simp; omega
    unfold maxLen at hm
    refine ⟨some a', zs.take len, cap, by rw [hlen], fun i e hi => ?_, by rw [hlen]; omega, fun n hn => hwf n (List.mem_of_mem_take hn)⟩
    have hi' : i < len := by have := (List.getElem?_eq_some_iff.1 hi).1; simp at this; omega
    rw [List.getElem?_map, List.getElem?_take_of_lt hi', List.getElem?_eq_getElem (show i < zs.length by omega)] at hi
    simp only [Option.map_some, Option.some.injEq] at hi
    subst hi
    refine ⟨rfl, a', rfl, fun j u hj => ?_⟩
    have hj0 : j = 0 := by have := (Array.getElem?_eq_some_iff.1 hj).1; simp [iv] at this; omega
    subst hj0
    simp [iv] at hj
    have := hcell i (by omega)
    rw [List.getD_eq_getElem?_getD, List.getElem?_eq_getElem (show i < zs.length by omega)] at this
    rw [← hj]; simpa using this
end
end Go.Gu
