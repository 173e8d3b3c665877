import Derived.Test.YtpgpfcdkkhfemaaDoorWText
open Go.RowKit Go.Reg Go.Gu
namespace Go.Proofs.YtpgpfcdkkhfemaaDoor
set_option linter.unusedSimpArgs false
set_option linter.unusedVariables false
set_option maxHeartbeats 1000000
/-! gueritelaw08.awake -/
def aw : Cats := (Cats.of [5, 3, 1, 2]).1
theorem aw_of : Cats.of [5, 3, 1, 2] = (aw, true) := by decide +kernel
theorem aw_list : aw.list = [1, 2, 3, 5] := by decide +kernel
theorem aw_text : aw.text = [49, 45, 51, 44, 53] := by unfold Cats.text; rw [aw_list]; simp [runs, runsFrom, runText, Lib.itoa, Lib.decDigits, Lib.join, List.intercalate, List.intersperse]
theorem aw_count : aw.count = 4 := by decide +kernel
set_option maxRecDepth 100000 in
theorem awake_w (w : World) (ht : TabOk w) : Calls Tryd.prog 14 #[] w fun e w' => e = .returned (.bool true) ∧ Ext w w' := by
  have Hof := Lib.hid aw_of
  have Htx := Lib.hid aw_text
  have Hct := Lib.hid aw_count
  go_enter Tryd.func14, Tryd.ntmps14
  have hA : At (w.alloc (.cells #[.int .i64 5, .int .i64 3, .int .i64 1, .int .i64 2] 3)) (some ⟨w.heap.size, 0, none⟩) 1 ([5, 3, 1, 2].map iv) := by
    have h := Sl.many w 3 (size := 1) (es := [5, 3, 1, 2].map iv) (by simp [iv])
    obtain ⟨A, cap, hv, hA⟩ := h
    simp only [Value.slice.injEq] at hv
    obtain ⟨rfl, _⟩ := hv
    exact hA
  have HA := Lib.hid hA; clear hA
  go_wp2_with (first | (go_at_call 16; refine (of_w [5, 3, 1, 2] _ 4 _ (by simp) HA.out).mono ?_; rintro e w1 ⟨rfl, hx⟩; rw [Hof.out]; have hE1 := (Ext.of_alloc w _).trans hx; clear hx) |
    (go_at_call 50; have hb := (Blk.new w1 23 (cv Cats.zero)).setRow (cv aw); have hE2 := (hE1.alloc (.cells (cv Cats.zero) 23)).setRow hE1.size (cv aw); refine (text_w aw _ (ht.ext hE2)).mono ?_; rintro e w2 ⟨rfl, hx⟩; rw [Htx.out]; obtain ⟨f1, f2, f3, f4⟩ := (hb.ext hx).facts 30 (cv_size _); have hE3 := hE2.trans hx; clear hx hE1 hE2) |
    (go_at_call 24; refine (count_w aw _).mono ?_; rintro e w3 ⟨rfl, hx⟩; rw [Hct.out]))
  go_ret
  exact ⟨rfl, hE3.trans hx⟩
end Go.Proofs.YtpgpfcdkkhfemaaDoor
