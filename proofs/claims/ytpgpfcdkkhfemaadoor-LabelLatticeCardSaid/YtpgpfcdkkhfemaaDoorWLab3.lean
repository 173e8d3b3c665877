/- label.Parse, and the law's example. -/
import Derived.Test.YtpgpfcdkkhfemaaDoorWLab2
open Go.RowKit Go.Reg Go.Gu
namespace Go.Proofs.YtpgpfcdkkhfemaaDoor
set_option linter.unusedSimpArgs false
set_option linter.unusedVariables false
set_option maxHeartbeats 1000000
@[go_sem] theorem lab_list_beq (l : List UInt8) : (l == l) = true := by simp
set_option maxRecDepth 100000 in
theorem lparse_w (s : List UInt8) (hs : s.length ≤ 1000000) (w : World) (ht : TabOk w) (hv : VarsOk w) :
    Calls Tryd.prog 55 #[sv s] w fun e w' => e = .returned (.tuple #[.agg (lv (Lab.parse s).1), .bool (Lab.parse s).2]) ∧ Ext w w' := by
  have hp : Lab.parse s = if Cats.atoiOk (Lib.cut s [58]).1 && (Cats.parse (Lib.cut s [58]).2.1).2 && ((⟨Cats.atoiV (Lib.cut s [58]).1, (Cats.parse (Lib.cut s [58]).2.1).1⟩ : Lab).text == s)
    then (⟨Cats.atoiV (Lib.cut s [58]).1, (Cats.parse (Lib.cut s [58]).2.1).1⟩, true) else (Lab.zero, false) := rfl
  have hcl := cut_len s 58
  have hcw := fun w' h => cut_w s 58 (by omega) w' h
  obtain ⟨hd, hhd⟩ : ∃ x, (Lib.cut s [58]).1 = x := ⟨_, rfl⟩
  obtain ⟨tl, htl⟩ : ∃ x, (Lib.cut s [58]).2.1 = x := ⟨_, rfl⟩
  rw [hhd, htl] at hp hcl
  simp only [hhd, htl] at hcw
  clear hhd htl
  have hpw := fun w' h1 h2 => parse_w tl (by omega) w' h1 h2
  obtain ⟨y, hy⟩ : ∃ x, (Cats.parse tl).1 = x := ⟨_, rfl⟩
  obtain ⟨okb, hok⟩ : ∃ x, (Cats.parse tl).2 = x := ⟨_, rfl⟩
  rw [hy, hok] at hp
  simp only [hy, hok] at hpw
  clear hy hok
  obtain ⟨v, hvv⟩ : ∃ x, Cats.atoiV hd = x := ⟨_, rfl⟩
  have hvb := atoiV_bd hd
  rw [hvv] at hp hvb
  have Hv := Lib.hid hvv; clear hvv
  have Hp := Lib.hid hp; clear hp
  have Hcw := Lib.hid hcw; clear hcw
  have Hpw := Lib.hid hpw; clear hpw
  obtain ⟨W, hW⟩ : ∃ W, W = w.alloc (.cells (lv Lab.zero) 41) := ⟨_, rfl⟩
  have b2 : Blk W w.heap.size 41 (lv Lab.zero) := by rw [hW]; exact Blk.new w _ _
  have hE : Ext w W := by rw [hW]; exact Ext.of_alloc w _
  cases ho : Cats.atoiOk hd with
  | true =>
    cases okb with
    | true =>
      by_cases htx : (⟨v, y⟩ : Lab).text = s
      · have hfin : Lab.parse s = (⟨v, y⟩, true) := by rw [Hp.out, ho]; simp [htx]
        have Hfin := Lib.hid hfin; clear hfin
        have hb : (!(⟨v, y⟩ : Lab).text == s) = false := by simp [htx]
        clear htx
        go_enter Tryd.func55, Tryd.ntmps55
        go_upto_region 1 with (fail)
        rw [← hW]
        clear hW
        go_wp2_with (first
          | (go_at_call 87; refine (Hcw.out _ (hv.ext hE)).mono ?_; rintro e w1 ⟨rfl, hx⟩; have hE := hE.trans hx; have b2 := b2.ext hx; clear hx)
          | (go_at_call 93; refine (atoi_yes hd ho (by omega) _).mono ?_; rintro e w2 ⟨rfl, hx⟩; rw [Hv.out]; have hE := hE.trans hx; have b2 := b2.ext hx; clear hx)
          | (go_at_call 93; refine (atoi_no hd ho (by omega) _ (hv.ext hE)).mono ?_; rintro e w2 ⟨N, rfl, hx⟩; rw [Hv.out]; have hE := hE.trans hx; have b2 := b2.ext hx; clear hx))
        refine (Hpw.out _ (ht.ext hE) (hv.ext hE)).mono ?_
        rintro e w3 ⟨rfl, hx⟩
        have hE := hE.trans hx
        have b2 := b2.ext hx
        clear hx
        have hlt2 := b2.lt
        obtain ⟨X, hX⟩ : ∃ X, X = (w3.alloc (.cells (cv Cats.zero) 23)).setRow w3.heap.size (cv y) := ⟨_, rfl⟩
        have hEX : Ext w3 X := by rw [hX]; exact (Ext.of_alloc w3 _).setRow (Nat.le_refl _) _
        have b9 : Blk X w3.heap.size 23 (cv y) := by rw [hX]; exact (Blk.new w3 _ _).setRow _
        have hE := hE.trans hEX
        have b2 := b2.ext hEX
        obtain ⟨h1, h2, h3, h4⟩ := b9.facts 30 (cv_size _)
        have hltX := b9.lt
        have hneX : ¬ w3.heap.size = X.heap.size := by omega
        go_upto_region 4 with (fail)
        rw [← hX]
        clear hX hEX
        obtain ⟨Y, hY⟩ : ∃ Y, Y = (X.alloc (.cells (lv Lab.zero) 41)).setRow X.heap.size (lv ⟨v, y⟩) := ⟨_, rfl⟩
        have hEY : Ext X Y := by rw [hY]; exact (Ext.of_alloc X _).setRow (Nat.le_refl _) _
        have b11 : Blk Y X.heap.size 41 (lv ⟨v, y⟩) := by rw [hY]; exact (Blk.new X _ _).setRow _
        have hE := hE.trans hEY
        have b2 := b2.ext hEY
        go_upto_region 5 with (fail)
        rw [← hY]
        clear hY hEY h1 h2 h3 h4
        obtain ⟨f1, f2, f3, f4⟩ := b2.facts 31 (lv_size _)
        obtain ⟨g1, g2, g3, g4⟩ := b11.facts 31 (lv_size _)
        go_wp2_with (go_at_call 54; refine (ltext_w ⟨v, y⟩ _ (ht.ext hE)).mono ?_; rintro e w4 ⟨rfl, hx⟩; have hE := hE.trans hx; have b2 := b2.ext hx; have b11 := b11.ext hx; clear f1 f2 f3 f4 g1 g2 g3 g4 hx; obtain ⟨f1, f2, f3, f4⟩ := b2.facts 31 (lv_size _); obtain ⟨g1, g2, g3, g4⟩ := b11.facts 31 (lv_size _))
        exact ret_cell_tmp Tryd.underlying41 rfl i41 rfl w.heap.size (lv ⟨v, y⟩) (.bool true) rfl rfl (by simp [go_sem, *]) (by simp [go_sem, *]) rfl ⟨by rw [Hfin.out], hE.setRow (Nat.le_refl _) _⟩
      · have hfin : Lab.parse s = (Lab.zero, false) := by rw [Hp.out, ho]; simp [htx]
        have Hfin := Lib.hid hfin; clear hfin
        have hb : (!(⟨v, y⟩ : Lab).text == s) = true := by simp [htx]
        clear htx
        go_enter Tryd.func55, Tryd.ntmps55
        go_upto_region 1 with (fail)
        rw [← hW]
        clear hW
        go_wp2_with (first
          | (go_at_call 87; refine (Hcw.out _ (hv.ext hE)).mono ?_; rintro e w1 ⟨rfl, hx⟩; have hE := hE.trans hx; have b2 := b2.ext hx; clear hx)
          | (go_at_call 93; refine (atoi_yes hd ho (by omega) _).mono ?_; rintro e w2 ⟨rfl, hx⟩; rw [Hv.out]; have hE := hE.trans hx; have b2 := b2.ext hx; clear hx)
          | (go_at_call 93; refine (atoi_no hd ho (by omega) _ (hv.ext hE)).mono ?_; rintro e w2 ⟨N, rfl, hx⟩; rw [Hv.out]; have hE := hE.trans hx; have b2 := b2.ext hx; clear hx))
        refine (Hpw.out _ (ht.ext hE) (hv.ext hE)).mono ?_
        rintro e w3 ⟨rfl, hx⟩
        have hE := hE.trans hx
        have b2 := b2.ext hx
        clear hx
        have hlt2 := b2.lt
        obtain ⟨X, hX⟩ : ∃ X, X = (w3.alloc (.cells (cv Cats.zero) 23)).setRow w3.heap.size (cv y) := ⟨_, rfl⟩
        have hEX : Ext w3 X := by rw [hX]; exact (Ext.of_alloc w3 _).setRow (Nat.le_refl _) _
        have b9 : Blk X w3.heap.size 23 (cv y) := by rw [hX]; exact (Blk.new w3 _ _).setRow _
        have hE := hE.trans hEX
        have b2 := b2.ext hEX
        obtain ⟨h1, h2, h3, h4⟩ := b9.facts 30 (cv_size _)
        have hltX := b9.lt
        have hneX : ¬ w3.heap.size = X.heap.size := by omega
        go_upto_region 4 with (fail)
        rw [← hX]
        clear hX hEX
        obtain ⟨Y, hY⟩ : ∃ Y, Y = (X.alloc (.cells (lv Lab.zero) 41)).setRow X.heap.size (lv ⟨v, y⟩) := ⟨_, rfl⟩
        have hEY : Ext X Y := by rw [hY]; exact (Ext.of_alloc X _).setRow (Nat.le_refl _) _
        have b11 : Blk Y X.heap.size 41 (lv ⟨v, y⟩) := by rw [hY]; exact (Blk.new X _ _).setRow _
        have hE := hE.trans hEY
        have b2 := b2.ext hEY
        go_upto_region 5 with (fail)
        rw [← hY]
        clear hY hEY h1 h2 h3 h4
        obtain ⟨f1, f2, f3, f4⟩ := b2.facts 31 (lv_size _)
        obtain ⟨g1, g2, g3, g4⟩ := b11.facts 31 (lv_size _)
        go_wp2_with (go_at_call 54; refine (ltext_w ⟨v, y⟩ _ (ht.ext hE)).mono ?_; rintro e w4 ⟨rfl, hx⟩; have hE := hE.trans hx; have b2 := b2.ext hx; have b11 := b11.ext hx; clear f1 f2 f3 f4 g1 g2 g3 g4 hx; obtain ⟨f1, f2, f3, f4⟩ := b2.facts 31 (lv_size _); obtain ⟨g1, g2, g3, g4⟩ := b11.facts 31 (lv_size _))
        exact ret_cell_tmp Tryd.underlying41 rfl i41 rfl w.heap.size (lv Lab.zero) (.bool false) rfl rfl (by simp [go_sem, *]) (by simp [go_sem, *]) rfl ⟨by rw [Hfin.out], hE.setRow (Nat.le_refl _) _⟩
    | false =>
      have hfin : Lab.parse s = (Lab.zero, false) := by rw [Hp.out, ho]; simp
      have Hfin := Lib.hid hfin; clear hfin
      go_enter Tryd.func55, Tryd.ntmps55
      go_upto_region 1 with (fail)
      rw [← hW]
      clear hW
      go_wp2_with (first
        | (go_at_call 87; refine (Hcw.out _ (hv.ext hE)).mono ?_; rintro e w1 ⟨rfl, hx⟩; have hE := hE.trans hx; have b2 := b2.ext hx; clear hx)
        | (go_at_call 93; refine (atoi_yes hd ho (by omega) _).mono ?_; rintro e w2 ⟨rfl, hx⟩; rw [Hv.out]; have hE := hE.trans hx; have b2 := b2.ext hx; clear hx)
        | (go_at_call 93; refine (atoi_no hd ho (by omega) _ (hv.ext hE)).mono ?_; rintro e w2 ⟨N, rfl, hx⟩; rw [Hv.out]; have hE := hE.trans hx; have b2 := b2.ext hx; clear hx))
      refine (Hpw.out _ (ht.ext hE) (hv.ext hE)).mono ?_
      rintro e w3 ⟨rfl, hx⟩
      have hE := hE.trans hx
      have b2 := b2.ext hx
      clear hx
      have hlt2 := b2.lt
      obtain ⟨X, hX⟩ : ∃ X, X = (w3.alloc (.cells (cv Cats.zero) 23)).setRow w3.heap.size (cv y) := ⟨_, rfl⟩
      have hEX : Ext w3 X := by rw [hX]; exact (Ext.of_alloc w3 _).setRow (Nat.le_refl _) _
      have b9 : Blk X w3.heap.size 23 (cv y) := by rw [hX]; exact (Blk.new w3 _ _).setRow _
      have hE := hE.trans hEX
      have b2 := b2.ext hEX
      obtain ⟨h1, h2, h3, h4⟩ := b9.facts 30 (cv_size _)
      have hltX := b9.lt
      have hneX : ¬ w3.heap.size = X.heap.size := by omega
      go_upto_region 4 with (fail)
      rw [← hX]
      clear hX hEX
      obtain ⟨Y, hY⟩ : ∃ Y, Y = (X.alloc (.cells (lv Lab.zero) 41)).setRow X.heap.size (lv ⟨v, y⟩) := ⟨_, rfl⟩
      have hEY : Ext X Y := by rw [hY]; exact (Ext.of_alloc X _).setRow (Nat.le_refl _) _
      have b11 : Blk Y X.heap.size 41 (lv ⟨v, y⟩) := by rw [hY]; exact (Blk.new X _ _).setRow _
      have hE := hE.trans hEY
      have b2 := b2.ext hEY
      go_upto_region 5 with (fail)
      rw [← hY]
      clear hY hEY h1 h2 h3 h4
      obtain ⟨f1, f2, f3, f4⟩ := b2.facts 31 (lv_size _)
      obtain ⟨g1, g2, g3, g4⟩ := b11.facts 31 (lv_size _)
      go_wp2_with (go_at_call 54; refine (ltext_w ⟨v, y⟩ _ (ht.ext hE)).mono ?_; rintro e w4 ⟨rfl, hx⟩; have hE := hE.trans hx; have b2 := b2.ext hx; have b11 := b11.ext hx; clear f1 f2 f3 f4 g1 g2 g3 g4 hx; obtain ⟨f1, f2, f3, f4⟩ := b2.facts 31 (lv_size _); obtain ⟨g1, g2, g3, g4⟩ := b11.facts 31 (lv_size _))
      exact ret_cell_tmp Tryd.underlying41 rfl i41 rfl w.heap.size (lv Lab.zero) (.bool false) rfl rfl (by simp [go_sem, *]) (by simp [go_sem, *]) rfl ⟨by rw [Hfin.out], hE.setRow (Nat.le_refl _) _⟩
  | false =>
    have hfin : Lab.parse s = (Lab.zero, false) := by rw [Hp.out, ho]; simp
    have Hfin := Lib.hid hfin; clear hfin
    cases okb with
    | true =>
      go_enter Tryd.func55, Tryd.ntmps55
      go_upto_region 1 with (fail)
      rw [← hW]
      clear hW
      go_wp2_with (first
        | (go_at_call 87; refine (Hcw.out _ (hv.ext hE)).mono ?_; rintro e w1 ⟨rfl, hx⟩; have hE := hE.trans hx; have b2 := b2.ext hx; clear hx)
        | (go_at_call 93; refine (atoi_yes hd ho (by omega) _).mono ?_; rintro e w2 ⟨rfl, hx⟩; rw [Hv.out]; have hE := hE.trans hx; have b2 := b2.ext hx; clear hx)
        | (go_at_call 93; refine (atoi_no hd ho (by omega) _ (hv.ext hE)).mono ?_; rintro e w2 ⟨N, rfl, hx⟩; rw [Hv.out]; have hE := hE.trans hx; have b2 := b2.ext hx; clear hx))
      refine (Hpw.out _ (ht.ext hE) (hv.ext hE)).mono ?_
      rintro e w3 ⟨rfl, hx⟩
      have hE := hE.trans hx
      have b2 := b2.ext hx
      clear hx
      have hlt2 := b2.lt
      obtain ⟨X, hX⟩ : ∃ X, X = (w3.alloc (.cells (cv Cats.zero) 23)).setRow w3.heap.size (cv y) := ⟨_, rfl⟩
      have hEX : Ext w3 X := by rw [hX]; exact (Ext.of_alloc w3 _).setRow (Nat.le_refl _) _
      have b9 : Blk X w3.heap.size 23 (cv y) := by rw [hX]; exact (Blk.new w3 _ _).setRow _
      have hE := hE.trans hEX
      have b2 := b2.ext hEX
      obtain ⟨h1, h2, h3, h4⟩ := b9.facts 30 (cv_size _)
      have hltX := b9.lt
      have hneX : ¬ w3.heap.size = X.heap.size := by omega
      go_upto_region 4 with (fail)
      rw [← hX]
      clear hX hEX
      obtain ⟨Y, hY⟩ : ∃ Y, Y = (X.alloc (.cells (lv Lab.zero) 41)).setRow X.heap.size (lv ⟨v, y⟩) := ⟨_, rfl⟩
      have hEY : Ext X Y := by rw [hY]; exact (Ext.of_alloc X _).setRow (Nat.le_refl _) _
      have b11 : Blk Y X.heap.size 41 (lv ⟨v, y⟩) := by rw [hY]; exact (Blk.new X _ _).setRow _
      have hE := hE.trans hEY
      have b2 := b2.ext hEY
      go_upto_region 5 with (fail)
      rw [← hY]
      clear hY hEY h1 h2 h3 h4
      obtain ⟨f1, f2, f3, f4⟩ := b2.facts 31 (lv_size _)
      obtain ⟨g1, g2, g3, g4⟩ := b11.facts 31 (lv_size _)
      go_wp2_with (go_at_call 54; refine (ltext_w ⟨v, y⟩ _ (ht.ext hE)).mono ?_; rintro e w4 ⟨rfl, hx⟩; have hE := hE.trans hx; have b2 := b2.ext hx; have b11 := b11.ext hx; clear f1 f2 f3 f4 g1 g2 g3 g4 hx; obtain ⟨f1, f2, f3, f4⟩ := b2.facts 31 (lv_size _); obtain ⟨g1, g2, g3, g4⟩ := b11.facts 31 (lv_size _))
      exact ret_cell_tmp Tryd.underlying41 rfl i41 rfl w.heap.size (lv Lab.zero) (.bool false) rfl rfl (by simp [go_sem, *]) (by simp [go_sem, *]) rfl ⟨by rw [Hfin.out], hE.setRow (Nat.le_refl _) _⟩
    | false =>
      go_enter Tryd.func55, Tryd.ntmps55
      go_upto_region 1 with (fail)
      rw [← hW]
      clear hW
      go_wp2_with (first
        | (go_at_call 87; refine (Hcw.out _ (hv.ext hE)).mono ?_; rintro e w1 ⟨rfl, hx⟩; have hE := hE.trans hx; have b2 := b2.ext hx; clear hx)
        | (go_at_call 93; refine (atoi_yes hd ho (by omega) _).mono ?_; rintro e w2 ⟨rfl, hx⟩; rw [Hv.out]; have hE := hE.trans hx; have b2 := b2.ext hx; clear hx)
        | (go_at_call 93; refine (atoi_no hd ho (by omega) _ (hv.ext hE)).mono ?_; rintro e w2 ⟨N, rfl, hx⟩; rw [Hv.out]; have hE := hE.trans hx; have b2 := b2.ext hx; clear hx))
      refine (Hpw.out _ (ht.ext hE) (hv.ext hE)).mono ?_
      rintro e w3 ⟨rfl, hx⟩
      have hE := hE.trans hx
      have b2 := b2.ext hx
      clear hx
      have hlt2 := b2.lt
      obtain ⟨X, hX⟩ : ∃ X, X = (w3.alloc (.cells (cv Cats.zero) 23)).setRow w3.heap.size (cv y) := ⟨_, rfl⟩
      have hEX : Ext w3 X := by rw [hX]; exact (Ext.of_alloc w3 _).setRow (Nat.le_refl _) _
      have b9 : Blk X w3.heap.size 23 (cv y) := by rw [hX]; exact (Blk.new w3 _ _).setRow _
      have hE := hE.trans hEX
      have b2 := b2.ext hEX
      obtain ⟨h1, h2, h3, h4⟩ := b9.facts 30 (cv_size _)
      have hltX := b9.lt
      have hneX : ¬ w3.heap.size = X.heap.size := by omega
      go_upto_region 4 with (fail)
      rw [← hX]
      clear hX hEX
      obtain ⟨Y, hY⟩ : ∃ Y, Y = (X.alloc (.cells (lv Lab.zero) 41)).setRow X.heap.size (lv ⟨v, y⟩) := ⟨_, rfl⟩
      have hEY : Ext X Y := by rw [hY]; exact (Ext.of_alloc X _).setRow (Nat.le_refl _) _
      have b11 : Blk Y X.heap.size 41 (lv ⟨v, y⟩) := by rw [hY]; exact (Blk.new X _ _).setRow _
      have hE := hE.trans hEY
      have b2 := b2.ext hEY
      go_upto_region 5 with (fail)
      rw [← hY]
      clear hY hEY h1 h2 h3 h4
      obtain ⟨f1, f2, f3, f4⟩ := b2.facts 31 (lv_size _)
      obtain ⟨g1, g2, g3, g4⟩ := b11.facts 31 (lv_size _)
      go_wp2_with (go_at_call 54; refine (ltext_w ⟨v, y⟩ _ (ht.ext hE)).mono ?_; rintro e w4 ⟨rfl, hx⟩; have hE := hE.trans hx; have b2 := b2.ext hx; have b11 := b11.ext hx; clear f1 f2 f3 f4 g1 g2 g3 g4 hx; obtain ⟨f1, f2, f3, f4⟩ := b2.facts 31 (lv_size _); obtain ⟨g1, g2, g3, g4⟩ := b11.facts 31 (lv_size _))
      exact ret_cell_tmp Tryd.underlying41 rfl i41 rfl w.heap.size (lv Lab.zero) (.bool false) rfl rfl (by simp [go_sem, *]) (by simp [go_sem, *]) rfl ⟨by rw [Hfin.out], hE.setRow (Nat.le_refl _) _⟩
end Go.Proofs.YtpgpfcdkkhfemaaDoor
