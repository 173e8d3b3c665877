/-
  Addresses and prefixes, told and read again. Plain Lean.
-/
import Derived.Test.YtpgpfcdkkhfemaaDoorTexts
namespace Go.Gu
open Go.Lib (itoa cut)
open Go.Gu.Cats (atoiOk atoiV)
namespace Ad
def bts (a : Int) : List Int := [a / 16777216 % 256, a / 65536 % 256, a / 256 % 256, a % 256]
def text (a : Int) : List UInt8 := Lib.join ((bts a).map itoa) [46]
def numOk (s : List UInt8) (most : Int) : Bool := atoiOk s && decide (0 ≤ atoiV s) && decide (atoiV s ≤ most) && (itoa (atoiV s) == s)
def readA : Int → List (List UInt8) → Option Int
  | a, [] => some a
  | a, w :: r => if numOk w 255 then readA (a * 256 + atoiV w) r else none
def parse (s : List UInt8) : Int × Bool := if (pieces 46 s).length = 4 then (match readA 0 (pieces 46 s) with | some a => (a, true) | none => (0, false)) else (0, false)
theorem numOk_iff {s : List UInt8} {most : Int} (h : numOk s most = true) : 0 ≤ atoiV s ∧ atoiV s ≤ most ∧ itoa (atoiV s) = s := by
  simp only [numOk, Bool.and_eq_true, decide_eq_true_eq, beq_iff_eq] at h
  exact ⟨h.1.1.2, h.1.2, h.2⟩
theorem numOk_itoa {n most : Int} (h0 : 0 ≤ n) (h : n ≤ most) (hm : most < 1000000) : numOk (itoa n) most = true ∧ atoiV (itoa n) = n := by
  have ha := atoi_itoa h0 (by omega : n < 1000000)
  have h1 : atoiOk (itoa n) = true := by simp [atoiOk, ha]
  have h2 : atoiV (itoa n) = n := by simp [atoiV, ha]
  refine ⟨?_, h2⟩
  simp only [numOk, h1, h2, Bool.and_eq_true, decide_eq_true_eq, beq_iff_eq, true_and, and_true]
  exact ⟨h0, h⟩
theorem readA_four (w0 w1 w2 w3 : List UInt8) {a : Int} (h : readA 0 [w0, w1, w2, w3] = some a) : ∃ n0 n1 n2 n3 : Int, (0 ≤ n0 ∧ n0 ≤ 255) ∧ (0 ≤ n1 ∧ n1 ≤ 255) ∧ (0 ≤ n2 ∧ n2 ≤ 255) ∧ (0 ≤ n3 ∧ n3 ≤ 255) ∧
    w0 = itoa n0 ∧ w1 = itoa n1 ∧ w2 = itoa n2 ∧ w3 = itoa n3 ∧ a = ((n0 * 256 + n1) * 256 + n2) * 256 + n3 := by
  have k0 : numOk w0 255 = true := by cases hk : numOk w0 255 with | true => rfl | false => simp [readA, hk] at h
  have k1 : numOk w1 255 = true := by cases hk : numOk w1 255 with | true => rfl | false => simp [readA, k0, hk] at h
  have k2 : numOk w2 255 = true := by cases hk : numOk w2 255 with | true => rfl | false => simp [readA, k0, k1, hk] at h
  have k3 : numOk w3 255 = true := by cases hk : numOk w3 255 with | true => rfl | false => simp [readA, k0, k1, k2, hk] at h
  simp [readA, k0, k1, k2, k3] at h
  obtain ⟨a0, a1, a2⟩ := numOk_iff k0
  obtain ⟨b0, b1, b2⟩ := numOk_iff k1
  obtain ⟨c0, c1, c2⟩ := numOk_iff k2
  obtain ⟨d0, d1, d2⟩ := numOk_iff k3
  exact ⟨_, _, _, _, ⟨a0, a1⟩, ⟨b0, b1⟩, ⟨c0, c1⟩, ⟨d0, d1⟩, a2.symm, b2.symm, c2.symm, d2.symm, h.symm⟩
theorem len_four {l : List (List UInt8)} (h : l.length = 4) : ∃ w0 w1 w2 w3, l = [w0, w1, w2, w3] := by
  rcases l with _ | ⟨a, _ | ⟨b, _ | ⟨c, _ | ⟨d, _ | ⟨e, r⟩⟩⟩⟩⟩ <;> simp at h
  exact ⟨a, b, c, d, rfl⟩
theorem parse_yes {s : List UInt8} (h : (parse s).2 = true) : text (parse s).1 = s ∧ 0 ≤ (parse s).1 ∧ (parse s).1 < 4294967296 := by
  unfold parse at *
  split at h
  · rename_i hlen
    rw [if_pos hlen]
    split at h
    · rename_i a ha
      obtain ⟨w0, w1, w2, w3, hp⟩ := len_four hlen
      rw [hp] at ha
      obtain ⟨n0, n1, n2, n3, h0, h1, h2, h3, e0, e1, e2, e3, rfl⟩ := readA_four _ _ _ _ ha
      refine ⟨?_, by show 0 ≤ ((n0 * 256 + n1) * 256 + n2) * 256 + n3; omega, by show ((n0 * 256 + n1) * 256 + n2) * 256 + n3 < _; omega⟩
      have hj := join_pieces 46 s
      rw [hp, e0, e1, e2, e3] at hj
      show text (((n0 * 256 + n1) * 256 + n2) * 256 + n3) = s
      rw [← hj, text, bts]
      simp only [List.map_cons, List.map_nil]
      rw [show (((n0 * 256 + n1) * 256 + n2) * 256 + n3) / 16777216 % 256 = n0 from by omega, show (((n0 * 256 + n1) * 256 + n2) * 256 + n3) / 65536 % 256 = n1 from by omega, show (((n0 * 256 + n1) * 256 + n2) * 256 + n3) / 256 % 256 = n2 from by omega, show (((n0 * 256 + n1) * 256 + n2) * 256 + n3) % 256 = n3 from by omega]
    · cases h
  · cases h
theorem parse_no {s : List UInt8} (h : (parse s).2 = false) : (parse s).1 = 0 := by
  unfold parse at *
  split at h
  · rename_i hlen
    rw [if_pos hlen]
    split at h
    · cases h
    · rfl
  · rename_i hlen; rw [if_neg hlen]
theorem parse_text {a : Int} (h0 : 0 ≤ a) (h1 : a < 4294967296) : parse (text a) = (a, true) := by
  have hp : pieces 46 (text a) = (bts a).map itoa := by
    refine pieces_join 46 _ (by simp [bts]) fun p hp => ?_
    obtain ⟨n, hn, rfl⟩ := List.mem_map.1 hp
    refine itoa_free ?_ (by decide)
    simp [bts] at hn
    omega
  have k0 := numOk_itoa (n := a / 16777216 % 256) (most := 255) (by omega) (by omega) (by omega)
  have k1 := numOk_itoa (n := a / 65536 % 256) (most := 255) (by omega) (by omega) (by omega)
  have k2 := numOk_itoa (n := a / 256 % 256) (most := 255) (by omega) (by omega) (by omega)
  have k3 := numOk_itoa (n := a % 256) (most := 255) (by omega) (by omega) (by omega)
  unfold parse
  rw [hp, if_pos (by simp [bts])]
  simp only [bts, List.map_cons, List.map_nil, readA, k0.1, k0.2, k1.1, k1.2, k2.1, k2.2, k3.1, k3.2, if_true]
  simp only [Prod.mk.injEq, and_true]
  omega
theorem text_four (a : Int) : text a = itoa (a / 16777216 % 256) ++ [46] ++ itoa (a / 65536 % 256) ++ [46] ++ itoa (a / 256 % 256) ++ [46] ++ itoa (a % 256) := by
  unfold text bts
  simp only [List.map_cons, List.map_nil]
  rw [Lib.join_cons]; simp [Lib.joinTail]
def kind (a : Int) : Int := if a / 16777216 % 256 = 0 then 0 else if a / 16777216 % 256 = 127 then 1 else if 240 ≤ a / 16777216 % 256 then 3 else if 224 ≤ a / 16777216 % 256 then 2 else 4
/-- One more byte. -/
theorem text_len {a : Int} (h0 : 0 ≤ a) : (text a).length ≤ 2000 := by
  have h : ∀ n : Int, 0 ≤ n → n < 256 → (itoa n).length ≤ 257 := fun n h0 h1 => by have := itoa_len h0; omega
  rw [text_four]
  have a1 := h (a / 16777216 % 256) (by omega) (by omega)
  have a2 := h (a / 65536 % 256) (by omega) (by omega)
  have a3 := h (a / 256 % 256) (by omega) (by omega)
  have a4 := h (a % 256) (by omega) (by omega)
  simp; omega
theorem text_free {a : Int} (h0 : 0 ≤ a) : (47 : UInt8) ∉ text a := by
  rw [text_four]
  have h : ∀ n : Int, 0 ≤ n → (47 : UInt8) ∉ itoa n := fun n h0 => itoa_free h0 (by decide)
  simp [h (a / 16777216 % 256) (by omega), h (a / 65536 % 256) (by omega), h (a / 256 % 256) (by omega), h (a % 256) (by omega)]
end Ad
end Go.Gu
