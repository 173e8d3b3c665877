/-
  Sets of categories: thirty bytes; plain Lean, no program in sight.
-/
import Derived.KernelRfl
namespace Go.Gu

structure Cats where
  l : List UInt8
  h : l.length = 30
  deriving DecidableEq

theorem Cats.ext_l {c d : Cats} (h : c.l = d.l) : c = d := by cases c; cases d; simp at h; subst h; rfl

namespace Cats
def zero : Cats := ⟨List.replicate 30 0, by decide⟩
def get (c : Cats) (i : Nat) : UInt8 := c.l.getD i 0
def set (c : Cats) (i : Nat) (b : UInt8) : Cats := ⟨c.l.set i b, by simp [c.h]⟩
def zip (f : UInt8 → UInt8 → UInt8) (c d : Cats) : Cats := ⟨List.zipWith f c.l d.l, by simp [c.h, d.h]⟩
/-- The first k bytes put together, the others as they are. -/
def zipTo (f : UInt8 → UInt8 → UInt8) (c d : Cats) (k : Nat) : Cats := ⟨(List.zipWith f c.l d.l).take k ++ c.l.drop k, by simp [c.h, d.h]; omega⟩
def or (c d : Cats) : Cats := c.zip (· ||| ·) d
def and (c d : Cats) : Cats := c.zip (· &&& ·) d
theorem get_lt {c : Cats} {i : Nat} (h : i < 30) : c.l[i]? = some (c.get i) := by
  have : i < c.l.length := by rw [c.h]; exact h
  simp [get, this]
theorem zipTo_zero (f) (c d : Cats) : c.zipTo f d 0 = c := Cats.ext_l (by simp [zipTo])
theorem zipTo_all (f) (c d : Cats) : c.zipTo f d 30 = c.zip f d := Cats.ext_l (by simp [zipTo, zip, c.h, d.h, List.take_of_length_le])
theorem zipTo_succ (f) (c d : Cats) {k : Nat} (h : k < 30) : c.zipTo f d (k + 1) = (c.zipTo f d k).set k (f (c.get k) (d.get k)) := by
  apply Cats.ext_l
  simp only [zipTo, set]
  apply List.ext_getElem?
  intro j
  have hz : (List.zipWith f c.l d.l).length = 30 := by simp [c.h, d.h]
  have hzk : (List.zipWith f c.l d.l)[k]? = some (f (c.get k) (d.get k)) := by simp [List.getElem?_zipWith, get_lt h]
  rw [List.getElem?_set]
  simp only [List.length_append, List.length_take, List.length_drop, hz, c.h]
  rcases Nat.lt_trichotomy j k with hlt | he | hgt
  · rw [if_neg (by omega), List.getElem?_append_left (by simp [hz]; omega), List.getElem?_append_left (by simp [hz]; omega), List.getElem?_take_of_lt (by omega), List.getElem?_take_of_lt hlt]
  · subst he
    rw [if_pos rfl, if_pos (by omega), List.getElem?_append_left (by simp [hz]; omega), List.getElem?_take_of_lt (by omega), hzk]
  · rw [if_neg (by omega), List.getElem?_append_right (by simp [hz]; omega), List.getElem?_append_right (by simp [hz]; omega)]
    simp only [List.length_take, hz, List.getElem?_drop]
    congr 1
    omega
theorem get_zipTo (f) (c d : Cats) {k : Nat} (h : k < 30) : (c.zipTo f d k).get k = c.get k := by
  have hz : (List.zipWith f c.l d.l).length = 30 := by simp [c.h, d.h]
  simp only [get, zipTo, List.getD_eq_getElem?_getD]
  rw [List.getElem?_append_right (by simp [hz]; omega)]
  simp [List.getElem?_drop, hz, Nat.min_eq_left (Nat.le_of_lt h)]
def union (l : List Cats) : Cats := l.foldl or zero
def meet (a : Cats) (l : List Cats) : Cats := l.foldl and a
/-- Is a number a category? -/
def inR (k : Int) : Bool := decide (0 ≤ k) && decide (k ≤ 239)
/-- A category's bit. -/
def bit (k : Int) : UInt8 := 128 >>> UInt8.ofNat (k % 8).toNat
def has (c : Cats) (k : Int) : Bool := inR k && (c.get (k / 8).toNat &&& bit k != 0)
def setB (c : Cats) (k : Int) : Cats := c.set (k / 8).toNat (c.get (k / 8).toNat ||| bit k)
def clrB (c : Cats) (k : Int) : Cats := c.set (k / 8).toNat (c.get (k / 8).toNat &&& ~~~ bit k)
def with1 (c : Cats) (k : Int) : Cats := if inR k then c.setB k else c
def without1 (c : Cats) (k : Int) : Cats := if inR k then c.clrB k else c
def with_ (c : Cats) (l : List Int) : Cats := l.foldl with1 c
def without (c : Cats) (l : List Int) : Cats := l.foldl without1 c
def of (l : List Int) : Cats × Bool := if l.all inR then (with_ zero l, true) else (zero, false)
/-- The categories below n, rising. -/
def listTo (c : Cats) (n : Nat) : List Int := ((List.range n).filter fun (k : Nat) => c.has (k : Int)).map (fun (k : Nat) => (k : Int))
def list (c : Cats) : List Int := c.listTo 240
theorem listTo_succ (c : Cats) (n : Nat) : c.listTo (n + 1) = if c.has (n : Int) then c.listTo n ++ [(n : Int)] else c.listTo n := by
  simp only [listTo, List.range_succ, List.filter_append, List.map_append]
  cases h : c.has (n : Int) <;> simp [h]
theorem listTo_le (c : Cats) (n : Nat) : (c.listTo n).length ≤ n := by
  simp only [listTo, List.length_map]
  exact Nat.le_trans (List.length_filter_le _ _) (by simp)
def within (a b : Cats) : Bool := meet a [b] == a
/-- How many bits a byte has. -/
def ones (b : UInt8) : Nat := ((List.range 8).filter fun i => b.toNat.testBit i).length
def countTo (c : Cats) (n : Nat) : Nat := ((List.range n).map fun i => ones (c.get i)).sum
def count (c : Cats) : Int := c.countTo 30
theorem ones_le (b : UInt8) : ones b ≤ 8 := Nat.le_trans (List.length_filter_le _ _) (by simp)
theorem countTo_succ (c : Cats) (n : Nat) : c.countTo (n + 1) = c.countTo n + ones (c.get n) := by simp [countTo, List.range_succ]
theorem countTo_le (c : Cats) : ∀ n, c.countTo n ≤ 8 * n
  | 0 => by simp [countTo]
  | n + 1 => by rw [countTo_succ]; have := countTo_le c n; have := ones_le (c.get n); omega
/-- The greatest category below k. -/
def mostTo (c : Cats) : Nat → Int
  | 0 => -1
  | k + 1 => if c.has (k : Int) then k else mostTo c k
def most (c : Cats) : Int := c.mostTo 240
def rwithinTo (a b : Cats) (n : Nat) : Bool := (List.range n).all fun (k : Nat) => !a.has (k : Int) || b.has (k : Int)
def rwithin (a b : Cats) : Bool := a.rwithinTo b 240
theorem rwithinTo_succ (a b : Cats) (n : Nat) : a.rwithinTo b (n + 1) = (a.rwithinTo b n && (!a.has (n : Int) || b.has (n : Int))) := by
  simp [rwithinTo, List.range_succ, List.all_append]
theorem rwithin_no {a b : Cats} {k : Nat} (hk : k < 240) (h1 : a.has (k : Int) = true) (h2 : b.has (k : Int) = false) : a.rwithin b = false := by
  unfold rwithin rwithinTo
  rw [List.all_eq_false]
  exact ⟨k, by simpa using hk, by simp [h1, h2]⟩
end Cats
end Go.Gu
