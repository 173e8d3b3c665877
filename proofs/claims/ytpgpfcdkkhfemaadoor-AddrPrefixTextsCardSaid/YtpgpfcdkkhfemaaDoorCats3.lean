/-
  Sets of categories: what is in a set says all of it; what is in unions, meets and the like; how many there are.
-/
import Derived.Test.YtpgpfcdkkhfemaaDoorCats2
namespace Go.Gu
namespace Cats
theorem byte_bit (x : UInt8) (m : Nat) (hm : m < 8) : (x &&& ((128 : UInt8) >>> UInt8.ofNat m) != 0) = x.toNat.testBit (7 - m) := by
  have : ∀ (x : Fin 256) (m : Fin 8), (UInt8.ofNat x.val &&& ((128 : UInt8) >>> UInt8.ofNat m.val) != 0) = x.val.testBit (7 - m.val) := by decide +kernel
  have h := this ⟨x.toNat, x.toNat_lt⟩ ⟨m, hm⟩
  simpa using h
theorem byte_or (x : UInt8) (m m' : Nat) (hm : m < 8) (hm' : m' < 8) : ((x ||| ((128 : UInt8) >>> UInt8.ofNat m)) &&& ((128 : UInt8) >>> UInt8.ofNat m') != 0) = ((x &&& ((128 : UInt8) >>> UInt8.ofNat m') != 0) || m == m') := by
  have : ∀ (x : Fin 256) (m m' : Fin 8), ((UInt8.ofNat x.val ||| ((128 : UInt8) >>> UInt8.ofNat m.val)) &&& ((128 : UInt8) >>> UInt8.ofNat m'.val) != 0) = ((UInt8.ofNat x.val &&& ((128 : UInt8) >>> UInt8.ofNat m'.val) != 0) || m.val == m'.val) := by decide +kernel
  have h := this ⟨x.toNat, x.toNat_lt⟩ ⟨m, hm⟩ ⟨m', hm'⟩
  simpa using h
theorem byte_andNot (x : UInt8) (m m' : Nat) (hm : m < 8) (hm' : m' < 8) : ((x &&& ~~~ ((128 : UInt8) >>> UInt8.ofNat m)) &&& ((128 : UInt8) >>> UInt8.ofNat m') != 0) = ((x &&& ((128 : UInt8) >>> UInt8.ofNat m') != 0) && !(m == m')) := by
  have : ∀ (x : Fin 256) (m m' : Fin 8), ((UInt8.ofNat x.val &&& ~~~ ((128 : UInt8) >>> UInt8.ofNat m.val)) &&& ((128 : UInt8) >>> UInt8.ofNat m'.val) != 0) = ((UInt8.ofNat x.val &&& ((128 : UInt8) >>> UInt8.ofNat m'.val) != 0) && !(m.val == m'.val)) := by decide +kernel
  have h := this ⟨x.toNat, x.toNat_lt⟩ ⟨m, hm⟩ ⟨m', hm'⟩
  simpa using h
theorem inR_iff {k : Int} : inR k = true ↔ 0 ≤ k ∧ k ≤ 239 := by simp [inR]
theorem has_bit (c : Cats) {k : Int} (h : inR k = true) : c.has k = (c.get (k / 8).toNat).toNat.testBit (7 - (k % 8).toNat) := by
  rw [has, h, Bool.true_and, bit, byte_bit _ _ (by have := inR_iff.1 h; omega)]
theorem has_inR {c : Cats} {k : Int} (h : c.has k = true) : inR k = true := by
  unfold has at h; exact (Bool.and_eq_true_iff.1 h).1
theorem ext_get {c d : Cats} (h : ∀ i, i < 30 → c.get i = d.get i) : c = d := by
  apply ext_l
  apply List.ext_getElem?
  intro i
  rcases Nat.lt_or_ge i 30 with hi | hi
  · rw [get_lt hi, get_lt hi, h i hi]
  · rw [List.getElem?_eq_none (by rw [c.h]; exact hi), List.getElem?_eq_none (by rw [d.h]; exact hi)]
theorem ext_has {c d : Cats} (h : ∀ k : Nat, k < 240 → c.has (k : Int) = d.has (k : Int)) : c = d := by
  apply ext_get
  intro i hi
  apply UInt8.toNat_inj.1
  apply Nat.eq_of_testBit_eq
  intro t
  rcases Nat.lt_or_ge t 8 with ht | ht
  · have h1 := h (8 * i + (7 - t)) (by omega)
    rw [has_bit c (inR_iff.2 (by omega)), has_bit d (inR_iff.2 (by omega))] at h1
    rw [show (((8 * i + (7 - t) : Nat) : Int) / 8).toNat = i from by omega, show 7 - (((8 * i + (7 - t) : Nat) : Int) % 8).toNat = t from by omega] at h1
    exact h1
  · have e : ∀ b : UInt8, b.toNat.testBit t = false := fun b => Nat.testBit_lt_two_pow (Nat.lt_of_lt_of_le b.toNat_lt (Nat.pow_le_pow_right (by decide) ht))
    rw [e, e]
theorem get_zip (f) (c d : Cats) {i : Nat} (h : i < 30) : (c.zip f d).get i = f (c.get i) (d.get i) := by
  have : (List.zipWith f c.l d.l)[i]? = some (f (c.get i) (d.get i)) := by simp [List.getElem?_zipWith, get_lt h]
  simp [get, zip, this] at *
theorem get_zero (i : Nat) : zero.get i = 0 := by
  simp only [get, zero, List.getD_eq_getElem?_getD, List.getElem?_replicate]
  split <;> rfl
theorem has_zero (k : Int) : zero.has k = false := by simp [has, get_zero]
theorem has_or (c d : Cats) (k : Int) : (c.or d).has k = (c.has k || d.has k) := by
  cases hr : inR k with
  | false => simp [has, hr]
  | true =>
    rw [has_bit _ hr, has_bit _ hr, has_bit _ hr, Cats.or, get_zip _ _ _ (by have := inR_iff.1 hr; omega), UInt8.toNat_or, Nat.testBit_or]
theorem has_and (c d : Cats) (k : Int) : (c.and d).has k = (c.has k && d.has k) := by
  cases hr : inR k with
  | false => simp [has, hr]
  | true =>
    rw [has_bit _ hr, has_bit _ hr, has_bit _ hr, Cats.and, get_zip _ _ _ (by have := inR_iff.1 hr; omega), UInt8.toNat_and, Nat.testBit_and]
theorem has_union (l : List Cats) (k : Int) : (union l).has k = l.any (·.has k) := by
  have : ∀ (l : List Cats) (c : Cats), (l.foldl Cats.or c).has k = (c.has k || l.any (·.has k)) := by
    intro l
    induction l with
    | nil => simp
    | cons x l ih => intro c; rw [List.foldl_cons, ih, has_or, List.any_cons, Bool.or_assoc]
  rw [union, this, has_zero, Bool.false_or]
theorem has_meet (a : Cats) (l : List Cats) (k : Int) : (meet a l).has k = (a.has k && l.all (·.has k)) := by
  have : ∀ (l : List Cats) (c : Cats), (l.foldl Cats.and c).has k = (c.has k && l.all (·.has k)) := by
    intro l
    induction l with
    | nil => simp
    | cons x l ih => intro c; rw [List.foldl_cons, ih, has_and, List.all_cons, Bool.and_assoc]
  rw [meet, this]
theorem get_set (c : Cats) (i j : Nat) (b : UInt8) (hi : i < 30) : (c.set i b).get j = if i = j then b else c.get j := by
  simp only [get, set, List.getD_eq_getElem?_getD, List.getElem?_set]
  split
  · rw [if_pos (by rw [c.h]; exact hi)]; rfl
  · rfl
theorem has_with1 (c : Cats) (j k : Int) : (c.with1 j).has k = (c.has k || (inR k && decide (j = k))) := by
  cases hr : inR k with
  | false => simp [has, hr]
  | true =>
    have hk := inR_iff.1 hr
    cases hj : inR j with
    | false =>
      have : j ≠ k := fun e => by rw [e, hr] at hj; cases hj
      simp [with1, hj, this]
    | true =>
      have hj' := inR_iff.1 hj
      simp only [with1, hj, if_true, setB, has, hr, Bool.true_and]
      rw [get_set _ _ _ _ (by omega)]
      by_cases e : (j / 8).toNat = (k / 8).toNat
      · rw [if_pos e, e]
        simp only [bit]
        rw [byte_or _ _ _ (by omega) (by omega)]
        congr 1
        rw [Bool.eq_iff_iff]
        simp only [beq_iff_eq, decide_eq_true_eq]
        omega
      · rw [if_neg e]
        have : j ≠ k := fun h => e (by rw [h])
        simp [this]
theorem has_without1 (c : Cats) (j k : Int) : (c.without1 j).has k = (c.has k && !decide (j = k)) := by
  cases hr : inR k with
  | false => simp [has, hr]
  | true =>
    have hk := inR_iff.1 hr
    cases hj : inR j with
    | false =>
      have : j ≠ k := fun e => by rw [e, hr] at hj; cases hj
      simp [without1, hj, this]
    | true =>
      have hj' := inR_iff.1 hj
      simp only [without1, hj, if_true, clrB, has, hr, Bool.true_and]
      rw [get_set _ _ _ _ (by omega)]
      by_cases e : (j / 8).toNat = (k / 8).toNat
      · rw [if_pos e, e]
        simp only [bit]
        rw [byte_andNot _ _ _ (by omega) (by omega)]
        congr 2
        rw [Bool.eq_iff_iff]
        simp only [beq_iff_eq, decide_eq_true_eq]
        omega
      · rw [if_neg e]
        have : j ≠ k := fun h => e (by rw [h])
        simp [this]
theorem has_with (l : List Int) : ∀ (c : Cats) (k : Int), (c.with_ l).has k = (c.has k || (inR k && decide (k ∈ l))) := by
  induction l with
  | nil => intro c k; simp [with_]
  | cons x l ih =>
    intro c k
    have := ih (c.with1 x) k
    rw [with_] at this ⊢
    rw [List.foldl_cons, this, has_with1]
    by_cases e : x = k
    · subst e; cases c.has x <;> cases inR x <;> simp
    · have e' : ¬ k = x := fun h => e h.symm
      simp [e, e']
theorem has_without (l : List Int) : ∀ (c : Cats) (k : Int), (c.without l).has k = (c.has k && !decide (k ∈ l)) := by
  induction l with
  | nil => intro c k; simp [without]
  | cons x l ih =>
    intro c k
    have := ih (c.without1 x) k
    rw [without] at this ⊢
    rw [List.foldl_cons, this, has_without1]
    by_cases e : x = k
    · subst e; cases c.has x <;> simp
    · have e' : ¬ k = x := fun h => e h.symm
      simp [e, e']
theorem put_true (c : Cats) (k : Int) : c.put k true = c.with1 k := rfl
theorem put_false (c : Cats) (k : Int) : c.put k false = c.without1 k := by simp [put, without1]
theorem mem_list (c : Cats) (k : Int) : k ∈ c.list ↔ c.has k = true := by
  simp only [list, listTo, List.mem_map, List.mem_filter, List.mem_range]
  constructor
  · rintro ⟨n, ⟨_, h⟩, rfl⟩; exact h
  · intro h
    have := inR_iff.1 (has_inR h)
    exact ⟨k.toNat, ⟨by omega, by rw [show ((k.toNat : Nat) : Int) = k from by omega]; exact h⟩, by omega⟩
theorem within_iff (a b : Cats) : a.within b = true ↔ ∀ k : Nat, k < 240 → a.has (k : Int) = true → b.has (k : Int) = true := by
  rw [within, beq_iff_eq]
  constructor
  · intro h k hk ha
    rw [← h, has_meet] at ha
    simp at ha; exact ha.2
  · intro h
    apply ext_has
    intro k hk
    rw [has_meet]
    cases ha : a.has (k : Int) with
    | false => simp
    | true => simp [h k hk ha]
theorem rwithin_eq (a b : Cats) : a.rwithin b = a.within b := by
  rw [Bool.eq_iff_iff, within_iff, rwithin, rwithinTo, List.all_eq_true]
  constructor
  · intro h k hk ha
    have := h k (by simpa using hk)
    simpa [ha] using this
  · intro h k hk
    have hk' : k < 240 := by simpa using hk
    cases ha : a.has (k : Int) with
    | false => simp
    | true => simp [h k hk' ha]
/-- How many of a list meet p. -/
theorem length_filter {α} (p : α → Bool) (l : List α) : (l.filter p).length = (l.map fun x => (p x).toNat).sum := by
  induction l with
  | nil => rfl
  | cons x l ih => cases h : p x <;> simp [h, ih]; omega
theorem sum_add {α} (f g : α → Nat) (l : List α) : (l.map f).sum + (l.map g).sum = (l.map fun x => f x + g x).sum := by
  induction l with
  | nil => rfl
  | cons x l ih => simp only [List.map_cons, List.sum_cons]; omega
theorem ones_sum (x y : UInt8) : ones (x ||| y) + ones (x &&& y) = ones x + ones y := by
  simp only [ones, length_filter, sum_add]
  congr 1
  apply List.map_congr_left
  intro t _
  rw [UInt8.toNat_or, UInt8.toNat_and, Nat.testBit_or, Nat.testBit_and]
  cases x.toNat.testBit t <;> cases y.toNat.testBit t <;> rfl
theorem count_sum (a b : Cats) : (union [a, b]).count + (meet a [b]).count = a.count + b.count := by
  have h : ∀ n, n ≤ 30 → (a.or b).countTo n + (a.and b).countTo n = a.countTo n + b.countTo n := by
    intro n
    induction n with
    | zero => intro _; simp [countTo]
    | succ n ih =>
      intro hn
      have h1 := ih (by omega)
      have h2 := ones_sum (a.get n) (b.get n)
      simp only [countTo_succ, Cats.or, Cats.and, get_zip _ _ _ (show n < 30 by omega)] at *
      omega
  have e : union [a, b] = a.or b := by
    apply ext_has; intro k _
    rw [has_union, has_or]; simp
  rw [e]
  have := h 30 (by omega)
  simp only [count, meet, List.foldl_cons, List.foldl_nil]
  omega
theorem count_len (c : Cats) : ∀ n, n ≤ 30 → (c.listTo (8 * n)).length = c.countTo n := by
  intro n
  induction n with
  | zero => intro _; simp [listTo, countTo]
  | succ n ih =>
    intro hn
    have hb : ∀ j, j < 8 → c.has ((8 * n + j : Nat) : Int) = (c.get n).toNat.testBit (7 - j) := by
      intro j hj
      rw [has_bit c (inR_iff.2 (by omega)), show (((8 * n + j : Nat) : Int) / 8).toNat = n from by omega, show (((8 * n + j : Nat) : Int) % 8).toNat = j from by omega]
    have hl : ∀ m, (c.listTo (m + 1)).length = (c.listTo m).length + (c.has (m : Int)).toNat := by
      intro m
      rw [listTo_succ]
      cases c.has (m : Int) <;> simp
    rw [countTo_succ, ← ih (by omega), show 8 * (n + 1) = 8 * n + 7 + 1 from by omega]
    rw [hl, hb 7 (by omega), show 8 * n + 7 = 8 * n + 6 + 1 from rfl, hl, hb 6 (by omega), show 8 * n + 6 = 8 * n + 5 + 1 from rfl, hl, hb 5 (by omega), show 8 * n + 5 = 8 * n + 4 + 1 from rfl, hl, hb 4 (by omega),
      show 8 * n + 4 = 8 * n + 3 + 1 from rfl, hl, hb 3 (by omega), show 8 * n + 3 = 8 * n + 2 + 1 from rfl, hl, hb 2 (by omega), show 8 * n + 2 = 8 * n + 1 + 1 from rfl, hl, hb 1 (by omega), hl, show (8 * n : Nat) = 8 * n + 0 from rfl, hb 0 (by omega)]
    rw [ones, length_filter]
    simp only [show List.range 8 = [0, 1, 2, 3, 4, 5, 6, 7] from rfl, List.map_cons, List.map_nil, List.sum_cons, List.sum_nil, Nat.reduceSub, Nat.sub_zero, Nat.sub_self, Nat.add_zero]
    omega
theorem count_list (c : Cats) : c.count = (c.list.length : Int) := by
  have := count_len c 30 (by omega)
  rw [count, ← this]; rfl
theorem mostTo_last (c : Cats) : ∀ k, c.mostTo k = (c.listTo k).getLastD (-1) := by
  intro k
  induction k with
  | zero => simp [mostTo, listTo]
  | succ k ih =>
    rw [mostTo, listTo_succ]
    split
    · simp
    · exact ih
theorem of_eq (l : List Int) : of l = (if l.all inR then zero.with_ l else zero, l.all inR) := by
  unfold of
  cases l.all inR <;> rfl
end Cats
end Go.Gu
