/- gueritelaw08.CatsTexts answers true at any set and text, and leaves what lay in memory as it was. -/
import Derived.Test.YtpgpfcdkkhfemaaDoorWTexts
open Go.RowKit Go.Reg Go.Gu
namespace Go.Proofs.YtpgpfcdkkhfemaaDoor
set_option linter.unusedSimpArgs false
set_option linter.unusedVariables false
set_option maxHeartbeats 1000000
@[go_sem] theorem texts_cats_beq (c : Cats) : (c == c) = true := by simp
@[go_sem] theorem texts_list_beq (l : List UInt8) : (l == l) = true := by simp
theorem text_len (c : Cats) : c.text.length ≤ 80000 := by
  rw [← Cats.refText_eq, Cats.refText]
  have := refTo_len c 240 (Nat.le_refl _)
  split
  · simp
  · omega
set_option maxRecDepth 100000 in
theorem texts_w (c : Cats) (s : List UInt8) (w : World) (ht : TabOk w) (hv : VarsOk w) (hsl : s.length ≤ 9223372036854775807) :
    Calls Tryd.prog 11 #[.agg (cv c), sv s] w fun e w' => e = .returned (.bool true) ∧ Ext w w' := by
  by_cases hlong : 200 < s.length
  · go_enter Tryd.func11, Tryd.ntmps11
    go_wp2_with (go_at_call 14; refine (awake_w _ (ht.ext (Ext.of_alloc w _))).mono ?_; rintro e w' ⟨rfl, hx⟩)
    go_ret
    exact ⟨rfl, (Ext.of_alloc w _).trans hx⟩
  · have htl := text_len c
    have hpt := Cats.parse_text c
    have Hpt := Lib.hid hpt; clear hpt
    have hpy := @Cats.parse_yes s
    have hpn := @Cats.parse_no s
    have hparse := fun w' h1 h2 => parse_w s (by omega) w' h1 h2
    have hparse2 := fun w' h1 h2 => parse_w c.text (by omega) w' h1 h2
    rw [Hpt.out] at hparse2
    obtain ⟨y, hy⟩ : ∃ y, (Cats.parse s).1 = y := ⟨_, rfl⟩
    obtain ⟨b, hb⟩ : ∃ b, (Cats.parse s).2 = b := ⟨_, rfl⟩
    rw [hy, hb] at hparse
    rw [hy, hb] at hpy hpn
    clear hy hb Hpt
    have Hparse := Lib.hid hparse; clear hparse
    have Hparse2 := Lib.hid hparse2; clear hparse2
    have Hpy := Lib.hid hpy; clear hpy
    have Hpn := Lib.hid hpn; clear hpn
    obtain ⟨W, hW⟩ : ∃ W, W = w.alloc (.cells (cv c) 23) := ⟨_, rfl⟩
    have b2 : Blk W w.heap.size 23 (cv c) := by rw [hW]; exact Blk.new w 23 (cv c)
    have hE : Ext w W := by rw [hW]; exact Ext.of_alloc w _
    obtain ⟨f1, f2, f3, f4⟩ := b2.facts 30 (cv_size _)
    go_enter Tryd.func11, Tryd.ntmps11
    go_upto_region 3 with (fail)
    rw [← hW]
    clear hW
    go_wp2_with fail
    refine (text_w c _ (ht.ext hE)).mono ?_
    rintro e w1 ⟨rfl, hx⟩
    have hE := hE.trans hx
    have b2 := b2.ext hx
    clear f1 f2 f3 f4 hx
    go_wp2_with fail
    refine (Hparse2.out _ (ht.ext hE) (hv.ext hE)).mono ?_
    rintro e w2 ⟨rfl, hx⟩
    have hE := hE.trans hx
    have b2 := b2.ext hx
    clear hx
    go_wp2_with fail
    obtain ⟨X, hX⟩ : ∃ X, X = (w2.alloc (.cells (cv Cats.zero) 23)).setRow w2.heap.size (cv c) := ⟨_, rfl⟩
    have hEX : Ext w2 X := by rw [hX]; exact (Ext.of_alloc w2 _).setRow (Nat.le_refl _) _
    have b6 : Blk X w2.heap.size 23 (cv c) := by rw [hX]; exact (Blk.new w2 23 (cv Cats.zero)).setRow _
    have hE := hE.trans hEX
    have b2 := b2.ext hEX
    rw [← hX]
    clear hX hEX
    refine (Hparse.out _ (ht.ext hE) (hv.ext hE)).mono ?_
    rintro e w3 ⟨rfl, hx⟩
    have hE := hE.trans hx
    have b2 := b2.ext hx
    have b6 := b6.ext hx
    clear hx
    obtain ⟨Y, hY⟩ : ∃ Y, Y = (w3.alloc (.cells (cv Cats.zero) 23)).setRow w3.heap.size (cv y) := ⟨_, rfl⟩
    have hEY : Ext w3 Y := by rw [hY]; exact (Ext.of_alloc w3 _).setRow (Nat.le_refl _) _
    have b8 : Blk Y w3.heap.size 23 (cv y) := by rw [hY]; exact (Blk.new w3 23 (cv Cats.zero)).setRow _
    have hE := hE.trans hEY
    have b2 := b2.ext hEY
    have b6 := b6.ext hEY
    go_upto_region 6 with (fail)
    rw [← hY]
    clear hY hEY
    obtain ⟨f1, f2, f3, f4⟩ := b2.facts 30 (cv_size _)
    obtain ⟨g1, g2, g3, g4⟩ := b6.facts 30 (cv_size _)
    obtain ⟨h1, h2, h3, h4⟩ := b8.facts 30 (cv_size _)
    cases b with
    | true =>
      have hyt : (y.text == s) = true := by simp [Hpy.out rfl]
      by_cases hyc : y = c
      · have hyc2 := hyc.symm; clear hyc; subst hyc2
        go_wp2_with (first
          | (go_at_call_of 52 (Value.agg (cv c)); refine (rtext_w c _).mono ?_; rintro e w4 ⟨rfl, hx⟩; have hE := hE.trans hx; have b2 := b2.ext hx; have b6 := b6.ext hx; have b8 := b8.ext hx; clear f1 f2 f3 f4 g1 g2 g3 g4 h1 h2 h3 h4 hx; obtain ⟨f1, f2, f3, f4⟩ := b2.facts 30 (cv_size _); obtain ⟨g1, g2, g3, g4⟩ := b6.facts 30 (cv_size _); obtain ⟨h1, h2, h3, h4⟩ := b8.facts 30 (cv_size _))
          | (go_at_call_of 52 (Value.agg (cv y)); refine (rtext_w y _).mono ?_; rintro e w5 ⟨rfl, hx⟩; have hE := hE.trans hx; have b8 := b8.ext hx; clear f1 f2 f3 f4 g1 g2 g3 g4 h1 h2 h3 h4 hx; obtain ⟨h1, h2, h3, h4⟩ := b8.facts 30 (cv_size _))
          | (go_at_call 14; refine (awake_w _ (ht.ext hE)).mono ?_; rintro e w6 ⟨rfl, hx⟩))
        go_ret
        exact ⟨rfl, hE.trans hx⟩
      ·
        go_wp2_with (first
          | (go_at_call_of 52 (Value.agg (cv c)); refine (rtext_w c _).mono ?_; rintro e w4 ⟨rfl, hx⟩; have hE := hE.trans hx; have b2 := b2.ext hx; have b6 := b6.ext hx; have b8 := b8.ext hx; clear f1 f2 f3 f4 g1 g2 g3 g4 h1 h2 h3 h4 hx; obtain ⟨f1, f2, f3, f4⟩ := b2.facts 30 (cv_size _); obtain ⟨g1, g2, g3, g4⟩ := b6.facts 30 (cv_size _); obtain ⟨h1, h2, h3, h4⟩ := b8.facts 30 (cv_size _))
          | (go_at_call_of 52 (Value.agg (cv y)); refine (rtext_w y _).mono ?_; rintro e w5 ⟨rfl, hx⟩; have hE := hE.trans hx; have b8 := b8.ext hx; clear f1 f2 f3 f4 g1 g2 g3 g4 h1 h2 h3 h4 hx; obtain ⟨h1, h2, h3, h4⟩ := b8.facts 30 (cv_size _))
          | (go_at_call 14; refine (awake_w _ (ht.ext hE)).mono ?_; rintro e w6 ⟨rfl, hx⟩))
        go_ret
        exact ⟨rfl, hE.trans hx⟩
    | false =>
      obtain rfl := Hpn.out rfl
      go_wp2_with (first
        | (go_at_call_of 52 (Value.agg (cv c)); refine (rtext_w c _).mono ?_; rintro e w4 ⟨rfl, hx⟩; have hE := hE.trans hx; have b2 := b2.ext hx; have b6 := b6.ext hx; have b8 := b8.ext hx; clear f1 f2 f3 f4 g1 g2 g3 g4 h1 h2 h3 h4 hx; obtain ⟨f1, f2, f3, f4⟩ := b2.facts 30 (cv_size _); obtain ⟨g1, g2, g3, g4⟩ := b6.facts 30 (cv_size _); obtain ⟨h1, h2, h3, h4⟩ := b8.facts 30 (cv_size _))
        | (go_at_call_of 52 (Value.agg (cv y)); refine (rtext_w y _).mono ?_; rintro e w5 ⟨rfl, hx⟩; have hE := hE.trans hx; have b8 := b8.ext hx; clear f1 f2 f3 f4 g1 g2 g3 g4 h1 h2 h3 h4 hx; obtain ⟨h1, h2, h3, h4⟩ := b8.facts 30 (cv_size _))
        | (go_at_call 14; refine (awake_w _ (ht.ext hE)).mono ?_; rintro e w6 ⟨rfl, hx⟩))
      go_ret
      exact ⟨rfl, hE.trans hx⟩
end Go.Proofs.YtpgpfcdkkhfemaaDoor
