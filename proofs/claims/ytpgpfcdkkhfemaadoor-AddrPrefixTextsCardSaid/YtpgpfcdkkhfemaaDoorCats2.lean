/-
  Sets of categories, more.
-/
import Derived.Test.YtpgpfcdkkhfemaaDoorCats
namespace Go.Gu
namespace Cats
def put (c : Cats) (k : Int) (b : Bool) : Cats := if inR k then (if b then c.setB k else c.clrB k) else c
theorem or_same : ∀ (x y : Fin 256), (UInt8.ofNat x.val &&& UInt8.ofNat y.val != 0) = true → True := fun _ _ _ => trivial
theorem byte_set (x : UInt8) (m : Nat) (hm : m < 8) (h : (x &&& ((128 : UInt8) >>> UInt8.ofNat m)) ≠ 0) : x ||| ((128 : UInt8) >>> UInt8.ofNat m) = x := by
  have : ∀ (x : Fin 256) (m : Fin 8), UInt8.ofNat x.val &&& ((128 : UInt8) >>> UInt8.ofNat m.val) ≠ 0 → UInt8.ofNat x.val ||| ((128 : UInt8) >>> UInt8.ofNat m.val) = UInt8.ofNat x.val := by decide +kernel
  have h1 := this ⟨x.toNat, x.toNat_lt⟩ ⟨m, hm⟩
  simp only [UInt8.ofNat_toNat] at h1
  exact h1 h
theorem byte_clr (x : UInt8) (m : Nat) (hm : m < 8) (h : (x &&& ((128 : UInt8) >>> UInt8.ofNat m)) = 0) : x &&& ~~~ ((128 : UInt8) >>> UInt8.ofNat m) = x := by
  have : ∀ (x : Fin 256) (m : Fin 8), UInt8.ofNat x.val &&& ((128 : UInt8) >>> UInt8.ofNat m.val) = 0 → UInt8.ofNat x.val &&& ~~~ ((128 : UInt8) >>> UInt8.ofNat m.val) = UInt8.ofNat x.val := by decide +kernel
  have h1 := this ⟨x.toNat, x.toNat_lt⟩ ⟨m, hm⟩
  simp only [UInt8.ofNat_toNat] at h1
  exact h1 h
theorem set_get (c : Cats) (i : Nat) : c.set i (c.get i) = c := by
  apply ext_l
  simp only [set, get, List.getD_eq_getElem?_getD]
  apply List.ext_getElem?
  intro j
  rw [List.getElem?_set]
  split
  · rename_i h; subst h
    split
    · rename_i h; simp [h]
    · rename_i h; rw [List.getElem?_eq_none (by omega)]
  · rfl
theorem put_same (c : Cats) (k : Int) : c.put k (c.has k) = c := by
  unfold put
  cases hr : inR k with
  | false => simp
  | true =>
    have hk : 0 ≤ k := by simp [inR] at hr; omega
    simp only [if_true, has, hr, Bool.true_and]
    by_cases h : c.get (k / 8).toNat &&& bit k = 0
    · simp only [h, bne_self_eq_false, Bool.false_eq_true, if_false, clrB]
      rw [show c.get (k / 8).toNat &&& ~~~ bit k = c.get (k / 8).toNat from byte_clr _ _ (by omega) h, set_get]
    · have : (c.get (k / 8).toNat &&& bit k != 0) = true := by simpa using h
      simp only [this, if_true, setB]
      rw [show c.get (k / 8).toNat ||| bit k = c.get (k / 8).toNat from byte_set _ _ (by omega) h, set_get]
end Cats
end Go.Gu
