/- gueriteref03.Number and gueriteref08.Text: a number, and a set of categories, told by the document. -/
import Derived.Test.YtpgpfcdkkhfemaaDoorWParse
import Derived.Laws.IdiomStrings
open Go.RowKit Go.Reg Go.Gu
namespace Go.Proofs.YtpgpfcdkkhfemaaDoor
set_option linter.unusedSimpArgs false
set_option linter.unusedVariables false
set_option maxHeartbeats 1000000
/-! Bytes put together. -/
theorem conv_bytes (w : World) (xs : List UInt8) (cap : Nat) : (convert 101 9 (.slice (some ⟨w.heap.size, 0, none⟩) xs.length cap)).run Tryd.prog (w.alloc (.cells (xs.map bv).toArray 5)) = .ok (sv xs) (w.alloc (.cells (xs.map bv).toArray 5)) := by
  refine run_convert_bytes_back (P := Tryd.prog) _ 101 9 5 ⟨w.heap.size, 0, none⟩ cap xs Tryd.underlying101 Tryd.underlying5 Tryd.underlying9 fun j hj => ?_
  rw [add_zero_off, (Blk.new w _ _).cell]
  simp [hj, bv]
theorem u8_of {x : Int} (h0 : 0 ≤ x) (h1 : x < 256) : bv (UInt8.ofNat x.toNat) = .int .u8 x := by
  have : (UInt8.ofNat x.toNat).toNat = x.toNat := by simp [UInt8.toNat_ofNat']; omega
  unfold bv; rw [this]; congr 1; omega
@[go_sem] theorem conv_one (w : World) (x : Int) (h0 : 0 ≤ x) (h1 : x < 256) : (convert 101 9 (.slice (some ⟨w.heap.size, 0, none⟩) 1 1)).run Tryd.prog (w.alloc (.cells #[.int .u8 x] 5)) = .ok (sv [UInt8.ofNat x.toNat]) (w.alloc (.cells #[.int .u8 x] 5)) := by
  have := conv_bytes w [UInt8.ofNat x.toNat] 1
  simpa [u8_of h0 h1] using this
/-! gueriteref03.Number -/
def emptyS : Value → Nat
  | .string s => if s.size = 0 then 1 else 0
  | _ => 0
/-- What is left to tell, and what is told. -/
def NumInv (n m : Nat) (s : List UInt8) : Prop := (s = [] ∧ m = n) ∨ (s ≠ [] ∧ (if m = 0 then s else Lib.decDigits m ++ s) = Lib.decDigits n)
theorem NumInv.step {n m : Nat} {s : List UInt8} (h : NumInv n m s) (hm : 0 < m ∨ s = []) : NumInv n (m / 10) ([UInt8.ofNat (48 + m % 10)] ++ s) := by
  refine .inr ⟨by simp, ?_⟩
  have hd : (if m / 10 = 0 then [UInt8.ofNat (48 + m % 10)] else Lib.decDigits (m / 10) ++ [UInt8.ofNat (48 + m % 10)]) = Lib.decDigits m := by
    conv => rhs; rw [Lib.decDigits]
    by_cases h10 : m < 10
    · rw [dif_pos h10, if_pos (by omega), show m % 10 = m from by omega]
    · rw [dif_neg h10, if_neg (by omega)]
  rcases h with ⟨rfl, rfl⟩ | ⟨hs, h⟩
  · rw [← hd]; split <;> simp
  · have hm0 : m ≠ 0 := by
      rcases hm with h | h
      · omega
      · exact absurd h hs
    rw [if_neg hm0, ← hd] at h
    rw [← h]; split <;> simp
theorem NumInv.fin {n : Nat} {s : List UInt8} (h : NumInv n 0 s) (hs : s ≠ []) : s = Lib.decDigits n := by
  rcases h with ⟨rfl, _⟩ | ⟨_, h⟩
  · exact absurd rfl hs
  · simpa using h
set_option maxRecDepth 100000 in
theorem number_w (n : Int) (h0 : 0 ≤ n) (h1 : n ≤ 1000000) (w : World) :
    Calls Tryd.prog 56 #[.int .i64 n] w fun e w' => e = .returned (sv (Lib.itoa n)) ∧ Ext w w' := by
  obtain ⟨N, rfl⟩ := Int.eq_ofNat_of_zero_le h0
  have hit : Lib.itoa (N : Int) = Lib.decDigits N := by unfold Lib.itoa; rw [if_neg (by omega)]; rfl
  rw [hit]
  have Hit := Lib.hid hit; clear hit
  go_enter Tryd.func56, Tryd.ntmps56
  go_wp2_with fail
  go_loopw [0, 3] (fun s0 s3 wr => ∃ (m : Nat) (s : List UInt8), m ≤ N ∧ s0 = .int .i64 m ∧ s3 = sv s ∧ s.length + m ≤ N + 1 ∧ Ext w wr ∧ NumInv N m s) (fun s0 s3 _ => (intOf s0).toNat * 2 + emptyS s3)
  case atStart => exact ⟨N, [], Nat.le_refl _, rfl, rfl, by simp, Ext.refl _, .inl ⟨rfl, rfl⟩⟩
  case round =>
    obtain ⟨m, s, hm, rfl, rfl, hls, hE, hinv⟩ := hrel
    have hdig : 0 ≤ 48 + (m : Int) % 10 ∧ 48 + (m : Int) % 10 < 256 := by omega
    obtain ⟨hd0, hd1⟩ := hdig
    have hdc : [UInt8.ofNat (48 + (m : Int) % 10).toNat] ++ s = [UInt8.ofNat (48 + m % 10)] ++ s := by rw [show (48 + (m : Int) % 10).toNat = 48 + m % 10 from by omega]
    have Hdc := Lib.hid hdc; clear hdc
    by_cases hm0 : 0 < m
    · have Hinv := Lib.hid (hinv.step (.inl hm0)); clear hinv
      go_wp2_with fail
      refine ⟨⟨m / 10, [UInt8.ofNat (48 + m % 10)] ++ s, by omega, by simp, by simp, by simp; omega, hE.alloc _, Hinv.out⟩, ?_⟩
      simp [intOf, emptyS, ba_size]; omega
    · obtain rfl : m = 0 := by omega
      by_cases hs0 : s = []
      · subst hs0
        have Hinv := Lib.hid (hinv.step (.inr rfl)); clear hinv
        go_wp2_with fail
        refine ⟨⟨0, [48], by omega, by simp, by simp, by simp, hE.alloc _, by simpa using Hinv.out⟩, ?_⟩
        simp [intOf, emptyS, ba_size]
      · have hfin := hinv.fin hs0
        have hb : (s == []) = false := by simp [hs0]
        have hb2 : s.isEmpty = false := by cases s with | nil => exact absurd rfl hs0 | cons _ _ => rfl
        have Hfin := Lib.hid hfin; clear hfin hinv hs0
        go_wp2_with fail
        go_ret
        exact ⟨by rw [← Hfin.out]; rfl, hE⟩
/-! gueriteref08.Text -/
theorem refTo_len (c : Cats) : ∀ n, n ≤ 240 → (Cats.refTo c n).length ≤ n * 300
  | 0, _ => by simp [Cats.refTo]
  | n + 1, h => by
    have ih := refTo_len c n (by omega)
    have hi := itoa_len (n := (n : Int)) (by omega)
    have hi2 : (Lib.itoa (n : Int)).length ≤ 241 := by omega
    have h3 : n * 300 + 300 = (n + 1) * 300 := by omega
    rw [← h3]
    have key : ∀ s : List UInt8, s.length ≤ n * 300 → (Cats.refStep c s n).length ≤ n * 300 + 300 := by
      intro s hs
      unfold Cats.refStep
      split
      · exact Nat.le_trans hs (Nat.le_add_right _ _)
      · split
        · omega
        · split <;> simp <;> omega
    exact key _ ih
theorem text_len (c : Cats) : c.text.length ≤ 80000 := by
  rw [← Cats.refText_eq, Cats.refText]
  have := refTo_len c 240 (Nat.le_refl _)
  split
  · simp
  · omega
set_option maxRecDepth 100000 in
theorem rtext_w (c : Cats) (w : World) : Calls Tryd.prog 52 #[.agg (cv c)] w fun e w' => e = .returned (sv c.text) ∧ Ext w w' := by
  rw [← Cats.refText_eq c]
  have hrt : c.refText = if Cats.refTo c 240 = [] then [45] else Cats.refTo c 240 := rfl
  have Hrt := Lib.hid hrt; clear hrt
  obtain ⟨W, hW⟩ : ∃ W, W = w.alloc (.cells (cv c) 23) := ⟨_, rfl⟩
  have hB0 : Blk W w.heap.size 23 (cv c) := by rw [hW]; exact Blk.new w _ _
  have hEW : Ext w W := by rw [hW]; exact Ext.of_alloc w _
  go_enter Tryd.func52, Tryd.ntmps52
  go_wp2_with fail
  rw [← hW]
  clear hW
  go_loopw [3, 4] (fun s3 s4 wr => ∃ k : Nat, k ≤ 240 ∧ s4 = .int .i64 k ∧ s3 = sv (Cats.refTo c k) ∧ Ext W wr) (fun s3 s4 _ => 240 - (intOf s4).toNat)
  case atStart => exact ⟨0, by omega, rfl, rfl, Ext.refl _⟩
  case round =>
    obtain ⟨k, hk, rfl, rfl, hE⟩ := hrel
    have hlen := refTo_len c k hk
    have hil : (Lib.itoa (k : Int)).length ≤ k + 1 := by have := itoa_len (n := (k : Int)) (by omega); omega
    obtain ⟨S, hS⟩ : ∃ S, Cats.refTo c k = S := ⟨_, rfl⟩
    rw [hS] at hlen ⊢
    have HS := Lib.hid hS; clear hS
    by_cases hlt : k < 240
    · obtain ⟨f1, f2, f3, f4⟩ := (hB0.ext hE).facts 30 (cv_size _)
      cases h0 : c.has (k : Int) with
      | false =>
        go_wp2_with (first
          | (go_at_call 21; refine (rhas_w c _ _).mono ?_; rintro e wy ⟨rfl, hx⟩; have hE := hE.trans hx; clear f1 f2 f3 f4 hx; obtain ⟨f1, f2, f3, f4⟩ := (hB0.ext hE).facts 30 (cv_size _))
          | (go_at_call 56; refine (number_w _ (by omega) (by omega) _).mono ?_; rintro e wz ⟨rfl, hx⟩; have hE := hE.trans hx; clear hx))
        go_roundw
        case rel => exact ⟨k + 1, by omega, by go_num, by rw [show Cats.refTo c (k + 1) = Cats.refStep c (Cats.refTo c k) k from rfl, HS.out]; simp [Cats.refStep, *], hE⟩
        case measure => simp [intOf]; omega
      | true =>
        cases h1 : c.has ((k : Int) - 1) with
        | true =>
          cases h2 : c.has ((k : Int) + 1) with
          | true =>
            go_wp2_with (first
              | (go_at_call 21; refine (rhas_w c _ _).mono ?_; rintro e wy ⟨rfl, hx⟩; have hE := hE.trans hx; clear f1 f2 f3 f4 hx; obtain ⟨f1, f2, f3, f4⟩ := (hB0.ext hE).facts 30 (cv_size _))
              | (go_at_call 56; refine (number_w _ (by omega) (by omega) _).mono ?_; rintro e wz ⟨rfl, hx⟩; have hE := hE.trans hx; clear hx))
            go_roundw
            case rel => exact ⟨k + 1, by omega, by go_num, by rw [show Cats.refTo c (k + 1) = Cats.refStep c (Cats.refTo c k) k from rfl, HS.out]; simp [Cats.refStep, *], hE⟩
            case measure => simp [intOf]; omega
          | false =>
            by_cases hs0 : S = []
            · subst hs0
              go_wp2_with (first
                | (go_at_call 21; refine (rhas_w c _ _).mono ?_; rintro e wy ⟨rfl, hx⟩; have hE := hE.trans hx; clear f1 f2 f3 f4 hx; obtain ⟨f1, f2, f3, f4⟩ := (hB0.ext hE).facts 30 (cv_size _))
                | (go_at_call 56; refine (number_w _ (by omega) (by omega) _).mono ?_; rintro e wz ⟨rfl, hx⟩; have hE := hE.trans hx; clear hx))
              go_roundw
              case rel => exact ⟨k + 1, by omega, by go_num, by rw [show Cats.refTo c (k + 1) = Cats.refStep c (Cats.refTo c k) k from rfl, HS.out]; simp [Cats.refStep, *], hE⟩
              case measure => simp [intOf]; omega
            · have hb : (S == []) = false := by simp [hs0]
              have hb2 : S.isEmpty = false := by cases S with | nil => exact absurd rfl hs0 | cons _ _ => rfl
              cases h3 : c.has ((k : Int) - 2) with
              | true =>
                go_wp2_with (first
                  | (go_at_call 21; refine (rhas_w c _ _).mono ?_; rintro e wy ⟨rfl, hx⟩; have hE := hE.trans hx; clear f1 f2 f3 f4 hx; obtain ⟨f1, f2, f3, f4⟩ := (hB0.ext hE).facts 30 (cv_size _))
                  | (go_at_call 56; refine (number_w _ (by omega) (by omega) _).mono ?_; rintro e wz ⟨rfl, hx⟩; have hE := hE.trans hx; clear hx))
                go_roundw
                case rel => exact ⟨k + 1, by omega, by go_num, by rw [show Cats.refTo c (k + 1) = Cats.refStep c (Cats.refTo c k) k from rfl, HS.out]; simp [Cats.refStep, *], hE⟩
                case measure => simp [intOf]; omega
              | false =>
                go_wp2_with (first
                  | (go_at_call 21; refine (rhas_w c _ _).mono ?_; rintro e wy ⟨rfl, hx⟩; have hE := hE.trans hx; clear f1 f2 f3 f4 hx; obtain ⟨f1, f2, f3, f4⟩ := (hB0.ext hE).facts 30 (cv_size _))
                  | (go_at_call 56; refine (number_w _ (by omega) (by omega) _).mono ?_; rintro e wz ⟨rfl, hx⟩; have hE := hE.trans hx; clear hx))
                go_roundw
                case rel => exact ⟨k + 1, by omega, by go_num, by rw [show Cats.refTo c (k + 1) = Cats.refStep c (Cats.refTo c k) k from rfl, HS.out]; simp [Cats.refStep, *], hE⟩
                case measure => simp [intOf]; omega
        | false =>
          by_cases hs0 : S = []
          · subst hs0
            go_wp2_with (first
              | (go_at_call 21; refine (rhas_w c _ _).mono ?_; rintro e wy ⟨rfl, hx⟩; have hE := hE.trans hx; clear f1 f2 f3 f4 hx; obtain ⟨f1, f2, f3, f4⟩ := (hB0.ext hE).facts 30 (cv_size _))
              | (go_at_call 56; refine (number_w _ (by omega) (by omega) _).mono ?_; rintro e wz ⟨rfl, hx⟩; have hE := hE.trans hx; clear hx))
            go_roundw
            case rel => exact ⟨k + 1, by omega, by go_num, by rw [show Cats.refTo c (k + 1) = Cats.refStep c (Cats.refTo c k) k from rfl, HS.out]; simp [Cats.refStep, *], hE⟩
            case measure => simp [intOf]; omega
          · have hb : (S == []) = false := by simp [hs0]
            have hb2 : S.isEmpty = false := by cases S with | nil => exact absurd rfl hs0 | cons _ _ => rfl
            go_wp2_with (first
              | (go_at_call 21; refine (rhas_w c _ _).mono ?_; rintro e wy ⟨rfl, hx⟩; have hE := hE.trans hx; clear f1 f2 f3 f4 hx; obtain ⟨f1, f2, f3, f4⟩ := (hB0.ext hE).facts 30 (cv_size _))
              | (go_at_call 56; refine (number_w _ (by omega) (by omega) _).mono ?_; rintro e wz ⟨rfl, hx⟩; have hE := hE.trans hx; clear hx))
            go_roundw
            case rel => exact ⟨k + 1, by omega, by go_num, by rw [show Cats.refTo c (k + 1) = Cats.refStep c (Cats.refTo c k) k from rfl, HS.out]; simp [Cats.refStep, *], hE⟩
            case measure => simp [intOf]; omega
    · obtain rfl : k = 240 := by omega
      by_cases hs0 : S = []
      · subst hs0
        go_wp2_with fail
        go_ret
        exact ⟨by rw [Hrt.out, HS.out]; rfl, hEW.trans hE⟩
      · have hb : (S == []) = false := by simp [hs0]
        have hb2 : S.isEmpty = false := by cases S with | nil => exact absurd rfl hs0 | cons _ _ => rfl
        go_wp2_with fail
        go_ret
        exact ⟨by rw [Hrt.out, HS.out, if_neg hs0]; rfl, hEW.trans hE⟩
end Go.Proofs.YtpgpfcdkkhfemaaDoor
