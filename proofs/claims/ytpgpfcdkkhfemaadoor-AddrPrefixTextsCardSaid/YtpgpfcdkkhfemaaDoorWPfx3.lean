/- addr.ParsePrefix, the example, and gueritelaw03.AddrTexts. -/
import Derived.Test.YtpgpfcdkkhfemaaDoorWPfx2
open Go.RowKit Go.Reg Go.Gu
namespace Go.Proofs.YtpgpfcdkkhfemaaDoor
set_option linter.unusedSimpArgs false
set_option linter.unusedVariables false
set_option maxHeartbeats 600000
@[go_sem] theorem ad_list_beq (l : List UInt8) : (l == l) = true := by simp
theorem aparse_bd (s : List UInt8) : 0 ≤ (Ad.parse s).1 ∧ (Ad.parse s).1 < 4294967296 := by
  cases h : (Ad.parse s).2 with
  | true => exact (Ad.parse_yes h).2
  | false => rw [Ad.parse_no h]; omega
set_option maxRecDepth 100000 in
theorem pparse_w (s : List UInt8) (hs : s.length ≤ 1000000) (w : World) (ht : TabOk w) (hv : VarsOk w) :
    Calls Tryd.prog 47 #[sv s] w fun e w' => e = .returned (.tuple #[.agg #[.int .u32 (Ad.pparse s).1.1, .int .i64 (Ad.pparse s).1.2], .bool (Ad.pparse s).2]) ∧ Ext w w' := by
  have hp : Ad.pparse s = if (Ad.parse (Lib.cut s [47]).1).2 && Ad.numOk (Lib.cut s [47]).2.1 32 && Ad.right (Ad.parse (Lib.cut s [47]).1).1 (Cats.atoiV (Lib.cut s [47]).2.1)
    then (((Ad.parse (Lib.cut s [47]).1).1, Cats.atoiV (Lib.cut s [47]).2.1), true) else ((0, 0), false) := rfl
  have hcl := cut_len s 47
  have hcw := fun w' h => cut_w s 47 (by omega) w' h
  obtain ⟨hd, hhd⟩ : ∃ x, (Lib.cut s [47]).1 = x := ⟨_, rfl⟩
  obtain ⟨tl, htl⟩ : ∃ x, (Lib.cut s [47]).2.1 = x := ⟨_, rfl⟩
  rw [hhd, htl] at hp hcl
  simp only [hhd, htl] at hcw
  clear hhd htl
  have hpw := fun w' h1 h2 => aparse_w hd (by omega) w' h1 h2
  have hnw := fun w' h1 h2 => anum_w tl 32 (by omega) (by omega) (by omega) w' h1 h2
  obtain ⟨hyb0, hyb1⟩ := aparse_bd hd
  obtain ⟨y, hy⟩ : ∃ x, (Ad.parse hd).1 = x := ⟨_, rfl⟩
  obtain ⟨ok1, hok⟩ : ∃ x, (Ad.parse hd).2 = x := ⟨_, rfl⟩
  obtain ⟨n, hn⟩ : ∃ x, Cats.atoiV tl = x := ⟨_, rfl⟩
  obtain ⟨ok2, hok2⟩ : ∃ x, Ad.numOk tl 32 = x := ⟨_, rfl⟩
  rw [hy, hok, hn, hok2] at hp
  rw [hy] at hyb0 hyb1
  simp only [hy, hok] at hpw
  simp only [hn, hok2] at hnw
  clear hy hok hn hok2
  have Hp := Lib.hid hp; clear hp
  have Hcw := Lib.hid hcw; clear hcw
  have Hpw := Lib.hid hpw; clear hpw
  have Hnw := Lib.hid hnw; clear hnw
  obtain ⟨W, hW⟩ : ∃ W, W = w.alloc (.cells #[.int .u32 0, .int .i64 0] 70) := ⟨_, rfl⟩
  have b2 : Blk W w.heap.size 70 (pv 0 0) := by rw [hW]; exact Blk.new w _ _
  have hE : Ext w W := by rw [hW]; exact Ext.of_alloc w _
  cases ok1 with
  | true =>
    cases ok2 with
    | true =>
      cases hrr : Ad.right y n with
      | true =>
        have hfin : Ad.pparse s = ((y, n), true) := by rw [Hp.out, hrr]; rfl
        have Hfin := Lib.hid hfin; clear hfin
        go_enter Tryd.func47, Tryd.ntmps47
        go_upto_region 1 with (fail)
        rw [← hW]
        clear hW
        go_wp2_with (first
          | (go_at_call 87; refine (Hcw.out _ (hv.ext hE)).mono ?_; rintro e w1 ⟨rfl, hx⟩; have hE := hE.trans hx; have b2 := b2.ext hx; clear hx)
          | (go_at_call 41; refine (Hpw.out _ (ht.ext hE) (hv.ext hE)).mono ?_; rintro e w2 ⟨rfl, hx⟩; have hE := hE.trans hx; have b2 := b2.ext hx; clear hx))
        refine (Hnw.out _ (ht.ext hE) (hv.ext hE)).mono ?_
        rintro e w3 ⟨rfl, hx⟩
        have hE := hE.trans hx
        have b2 := b2.ext hx
        clear hx
        have hlt2 := b2.lt
        obtain ⟨Y, hY⟩ : ∃ Y, Y = (w3.alloc (.cells #[.int .u32 0, .int .i64 0] 70)).setRow w3.heap.size #[.int .u32 y, .int .i64 n] := ⟨_, rfl⟩
        have hEY : Ext w3 Y := by rw [hY]; exact (Ext.of_alloc w3 _).setRow (Nat.le_refl _) _
        have b11 : Blk Y w3.heap.size 70 (pv y n) := by rw [hY]; exact (Blk.new w3 _ _).setRow _
        have hE := hE.trans hEY
        have b2 := b2.ext hEY
        go_upto_region 5 with (fail)
        rw [← hY]
        clear hY hEY
        obtain ⟨f1, f2, f3, f4, f5⟩ := pfx_facts b2
        obtain ⟨g1, g2, g3, g4, g5⟩ := pfx_facts b11
        go_wp2_with (go_at_call 86; refine (aright_w y n hyb0 hyb1 _).mono ?_; rintro e w4 ⟨rfl, hx⟩; (first | rw [hrr] | skip); have hE := hE.trans hx; have b2 := b2.ext hx; have b11 := b11.ext hx; clear f1 f2 f3 f4 f5 g1 g2 g3 g4 g5 hx; obtain ⟨f1, f2, f3, f4, f5⟩ := pfx_facts b2; obtain ⟨g1, g2, g3, g4, g5⟩ := pfx_facts b11)
        exact ret_cell_tmp Tryd.underlying70 rfl i70 rfl w.heap.size #[.int .u32 y, .int .i64 n] (.bool true) rfl rfl (by simp [go_sem, *]) (by simp [go_sem, *]) rfl ⟨by rw [Hfin.out], hE.setRow (Nat.le_refl _) _⟩
      | false =>
        have hfin : Ad.pparse s = ((0, 0), false) := by rw [Hp.out, hrr]; rfl
        have Hfin := Lib.hid hfin; clear hfin
        go_enter Tryd.func47, Tryd.ntmps47
        go_upto_region 1 with (fail)
        rw [← hW]
        clear hW
        go_wp2_with (first
          | (go_at_call 87; refine (Hcw.out _ (hv.ext hE)).mono ?_; rintro e w1 ⟨rfl, hx⟩; have hE := hE.trans hx; have b2 := b2.ext hx; clear hx)
          | (go_at_call 41; refine (Hpw.out _ (ht.ext hE) (hv.ext hE)).mono ?_; rintro e w2 ⟨rfl, hx⟩; have hE := hE.trans hx; have b2 := b2.ext hx; clear hx))
        refine (Hnw.out _ (ht.ext hE) (hv.ext hE)).mono ?_
        rintro e w3 ⟨rfl, hx⟩
        have hE := hE.trans hx
        have b2 := b2.ext hx
        clear hx
        have hlt2 := b2.lt
        obtain ⟨Y, hY⟩ : ∃ Y, Y = (w3.alloc (.cells #[.int .u32 0, .int .i64 0] 70)).setRow w3.heap.size #[.int .u32 y, .int .i64 n] := ⟨_, rfl⟩
        have hEY : Ext w3 Y := by rw [hY]; exact (Ext.of_alloc w3 _).setRow (Nat.le_refl _) _
        have b11 : Blk Y w3.heap.size 70 (pv y n) := by rw [hY]; exact (Blk.new w3 _ _).setRow _
        have hE := hE.trans hEY
        have b2 := b2.ext hEY
        go_upto_region 5 with (fail)
        rw [← hY]
        clear hY hEY
        obtain ⟨f1, f2, f3, f4, f5⟩ := pfx_facts b2
        obtain ⟨g1, g2, g3, g4, g5⟩ := pfx_facts b11
        go_wp2_with (go_at_call 86; refine (aright_w y n hyb0 hyb1 _).mono ?_; rintro e w4 ⟨rfl, hx⟩; (first | rw [hrr] | skip); have hE := hE.trans hx; have b2 := b2.ext hx; have b11 := b11.ext hx; clear f1 f2 f3 f4 f5 g1 g2 g3 g4 g5 hx; obtain ⟨f1, f2, f3, f4, f5⟩ := pfx_facts b2; obtain ⟨g1, g2, g3, g4, g5⟩ := pfx_facts b11)
        exact ret_cell_tmp Tryd.underlying70 rfl i70 rfl w.heap.size #[.int .u32 0, .int .i64 0] (.bool false) rfl rfl (by simp [go_sem, *]) (by simp [go_sem, *]) rfl ⟨by rw [Hfin.out], hE.setRow (Nat.le_refl _) _⟩
    | false =>
      have hfin : Ad.pparse s = ((0, 0), false) := by rw [Hp.out]; rfl
      have Hfin := Lib.hid hfin; clear hfin
      have hrr : True := trivial
      go_enter Tryd.func47, Tryd.ntmps47
      go_upto_region 1 with (fail)
      rw [← hW]
      clear hW
      go_wp2_with (first
        | (go_at_call 87; refine (Hcw.out _ (hv.ext hE)).mono ?_; rintro e w1 ⟨rfl, hx⟩; have hE := hE.trans hx; have b2 := b2.ext hx; clear hx)
        | (go_at_call 41; refine (Hpw.out _ (ht.ext hE) (hv.ext hE)).mono ?_; rintro e w2 ⟨rfl, hx⟩; have hE := hE.trans hx; have b2 := b2.ext hx; clear hx))
      refine (Hnw.out _ (ht.ext hE) (hv.ext hE)).mono ?_
      rintro e w3 ⟨rfl, hx⟩
      have hE := hE.trans hx
      have b2 := b2.ext hx
      clear hx
      have hlt2 := b2.lt
      obtain ⟨Y, hY⟩ : ∃ Y, Y = (w3.alloc (.cells #[.int .u32 0, .int .i64 0] 70)).setRow w3.heap.size #[.int .u32 y, .int .i64 n] := ⟨_, rfl⟩
      have hEY : Ext w3 Y := by rw [hY]; exact (Ext.of_alloc w3 _).setRow (Nat.le_refl _) _
      have b11 : Blk Y w3.heap.size 70 (pv y n) := by rw [hY]; exact (Blk.new w3 _ _).setRow _
      have hE := hE.trans hEY
      have b2 := b2.ext hEY
      go_upto_region 5 with (fail)
      rw [← hY]
      clear hY hEY
      obtain ⟨f1, f2, f3, f4, f5⟩ := pfx_facts b2
      obtain ⟨g1, g2, g3, g4, g5⟩ := pfx_facts b11
      go_wp2_with (go_at_call 86; refine (aright_w y n hyb0 hyb1 _).mono ?_; rintro e w4 ⟨rfl, hx⟩; (first | rw [hrr] | skip); have hE := hE.trans hx; have b2 := b2.ext hx; have b11 := b11.ext hx; clear f1 f2 f3 f4 f5 g1 g2 g3 g4 g5 hx; obtain ⟨f1, f2, f3, f4, f5⟩ := pfx_facts b2; obtain ⟨g1, g2, g3, g4, g5⟩ := pfx_facts b11)
      exact ret_cell_tmp Tryd.underlying70 rfl i70 rfl w.heap.size #[.int .u32 0, .int .i64 0] (.bool false) rfl rfl (by simp [go_sem, *]) (by simp [go_sem, *]) rfl ⟨by rw [Hfin.out], hE.setRow (Nat.le_refl _) _⟩
  | false =>
    have hfin : Ad.pparse s = ((0, 0), false) := by rw [Hp.out]; rfl
    have Hfin := Lib.hid hfin; clear hfin
    have hrr : True := trivial
    cases ok2 with
    | true =>
      go_enter Tryd.func47, Tryd.ntmps47
      go_upto_region 1 with (fail)
      rw [← hW]
      clear hW
      go_wp2_with (first
        | (go_at_call 87; refine (Hcw.out _ (hv.ext hE)).mono ?_; rintro e w1 ⟨rfl, hx⟩; have hE := hE.trans hx; have b2 := b2.ext hx; clear hx)
        | (go_at_call 41; refine (Hpw.out _ (ht.ext hE) (hv.ext hE)).mono ?_; rintro e w2 ⟨rfl, hx⟩; have hE := hE.trans hx; have b2 := b2.ext hx; clear hx))
      refine (Hnw.out _ (ht.ext hE) (hv.ext hE)).mono ?_
      rintro e w3 ⟨rfl, hx⟩
      have hE := hE.trans hx
      have b2 := b2.ext hx
      clear hx
      have hlt2 := b2.lt
      obtain ⟨Y, hY⟩ : ∃ Y, Y = (w3.alloc (.cells #[.int .u32 0, .int .i64 0] 70)).setRow w3.heap.size #[.int .u32 y, .int .i64 n] := ⟨_, rfl⟩
      have hEY : Ext w3 Y := by rw [hY]; exact (Ext.of_alloc w3 _).setRow (Nat.le_refl _) _
      have b11 : Blk Y w3.heap.size 70 (pv y n) := by rw [hY]; exact (Blk.new w3 _ _).setRow _
      have hE := hE.trans hEY
      have b2 := b2.ext hEY
      go_upto_region 5 with (fail)
      rw [← hY]
      clear hY hEY
      obtain ⟨f1, f2, f3, f4, f5⟩ := pfx_facts b2
      obtain ⟨g1, g2, g3, g4, g5⟩ := pfx_facts b11
      go_wp2_with (go_at_call 86; refine (aright_w y n hyb0 hyb1 _).mono ?_; rintro e w4 ⟨rfl, hx⟩; (first | rw [hrr] | skip); have hE := hE.trans hx; have b2 := b2.ext hx; have b11 := b11.ext hx; clear f1 f2 f3 f4 f5 g1 g2 g3 g4 g5 hx; obtain ⟨f1, f2, f3, f4, f5⟩ := pfx_facts b2; obtain ⟨g1, g2, g3, g4, g5⟩ := pfx_facts b11)
      exact ret_cell_tmp Tryd.underlying70 rfl i70 rfl w.heap.size #[.int .u32 0, .int .i64 0] (.bool false) rfl rfl (by simp [go_sem, *]) (by simp [go_sem, *]) rfl ⟨by rw [Hfin.out], hE.setRow (Nat.le_refl _) _⟩
    | false =>
      go_enter Tryd.func47, Tryd.ntmps47
      go_upto_region 1 with (fail)
      rw [← hW]
      clear hW
      go_wp2_with (first
        | (go_at_call 87; refine (Hcw.out _ (hv.ext hE)).mono ?_; rintro e w1 ⟨rfl, hx⟩; have hE := hE.trans hx; have b2 := b2.ext hx; clear hx)
        | (go_at_call 41; refine (Hpw.out _ (ht.ext hE) (hv.ext hE)).mono ?_; rintro e w2 ⟨rfl, hx⟩; have hE := hE.trans hx; have b2 := b2.ext hx; clear hx))
      refine (Hnw.out _ (ht.ext hE) (hv.ext hE)).mono ?_
      rintro e w3 ⟨rfl, hx⟩
      have hE := hE.trans hx
      have b2 := b2.ext hx
      clear hx
      have hlt2 := b2.lt
      obtain ⟨Y, hY⟩ : ∃ Y, Y = (w3.alloc (.cells #[.int .u32 0, .int .i64 0] 70)).setRow w3.heap.size #[.int .u32 y, .int .i64 n] := ⟨_, rfl⟩
      have hEY : Ext w3 Y := by rw [hY]; exact (Ext.of_alloc w3 _).setRow (Nat.le_refl _) _
      have b11 : Blk Y w3.heap.size 70 (pv y n) := by rw [hY]; exact (Blk.new w3 _ _).setRow _
      have hE := hE.trans hEY
      have b2 := b2.ext hEY
      go_upto_region 5 with (fail)
      rw [← hY]
      clear hY hEY
      obtain ⟨f1, f2, f3, f4, f5⟩ := pfx_facts b2
      obtain ⟨g1, g2, g3, g4, g5⟩ := pfx_facts b11
      go_wp2_with (go_at_call 86; refine (aright_w y n hyb0 hyb1 _).mono ?_; rintro e w4 ⟨rfl, hx⟩; (first | rw [hrr] | skip); have hE := hE.trans hx; have b2 := b2.ext hx; have b11 := b11.ext hx; clear f1 f2 f3 f4 f5 g1 g2 g3 g4 g5 hx; obtain ⟨f1, f2, f3, f4, f5⟩ := pfx_facts b2; obtain ⟨g1, g2, g3, g4, g5⟩ := pfx_facts b11)
      exact ret_cell_tmp Tryd.underlying70 rfl i70 rfl w.heap.size #[.int .u32 0, .int .i64 0] (.bool false) rfl rfl (by simp [go_sem, *]) (by simp [go_sem, *]) rfl ⟨by rw [Hfin.out], hE.setRow (Nat.le_refl _) _⟩
/-! The example. -/
theorem aw_pt : Ad.ptext 167837696 16 = [49, 48, 46, 49, 46, 48, 46, 48, 47, 49, 54] := by
  rw [Ad.ptext_right (by decide +kernel), Ad.text_four]; simp [Lib.itoa, Lib.decDigits]
theorem aw_at : Ad.text 167838211 = [49, 48, 46, 49, 46, 50, 46, 51] := by
  rw [Ad.text_four]; simp [Lib.itoa, Lib.decDigits]
theorem aw_pp : Ad.pparse [49, 48, 46, 49, 46, 48, 46, 48, 47, 49, 54] = ((167837696, 16), true) := by rw [← aw_pt]; exact Ad.pparse_text (by omega) (by omega) (by decide +kernel)
theorem aw_ap : Ad.parse [49, 48, 46, 49, 46, 50, 46, 51] = (167838211, true) := by rw [← aw_at]; exact Ad.parse_text (by omega) (by omega)
set_option maxRecDepth 100000 in
theorem aawake_w (w : World) (ht : TabOk w) (hv : VarsOk w) : Calls Tryd.prog 40 #[] w fun e w' => e = .returned (.bool true) ∧ Ext w w' := by
  have h1 := pparse_w [49, 48, 46, 49, 46, 48, 46, 48, 47, 49, 54] (by simp) w ht hv
  rw [aw_pp] at h1
  have h2 := fun w' h h' => aparse_w [49, 48, 46, 49, 46, 50, 46, 51] (by simp) w' h h'
  rw [aw_ap] at h2
  have h3 := fun w' => holds_w 167837696 16 167838211 (by omega) (by omega) (by omega) (by omega) (by decide +kernel) w'
  rw [show (Ad.cutA 167838211 16 == 167837696) = true from by decide +kernel] at h3
  have h4 := fun w' => kind_w 167838211 (by omega) (by omega) w'
  rw [show Ad.kind 167838211 = 4 from by decide +kernel] at h4
  simp only at h1 h2
  obtain ⟨p, hp⟩ : ∃ p : Int, (167837696 : Int) = p := ⟨_, rfl⟩
  obtain ⟨q, hq⟩ : ∃ q : Int, (167838211 : Int) = q := ⟨_, rfl⟩
  rw [hp] at h1 h3
  rw [hq] at h2 h3 h4
  clear hp hq
  have H1 := Lib.hid h1; clear h1
  have H2 := Lib.hid h2; clear h2
  have H3 := Lib.hid h3; clear h3
  have H4 := Lib.hid h4; clear h4
  go_enter Tryd.func40, Tryd.ntmps40
  go_wp2_with fail
  refine H1.out.mono ?_
  rintro e w1 ⟨rfl, hE⟩
  go_wp2_with fail
  obtain ⟨X, hX⟩ : ∃ X, X = (w1.alloc (.cells #[.int .u32 0, .int .i64 0] 70)).setRow w1.heap.size #[.int .u32 p, .int .i64 16] := ⟨_, rfl⟩
  have hEX : Ext w1 X := by rw [hX]; exact (Ext.of_alloc w1 _).setRow (Nat.le_refl _) _
  have b1 : Blk X w1.heap.size 70 (pv p 16) := by rw [hX]; exact (Blk.new w1 _ _).setRow _
  have hE := hE.trans hEX
  rw [← hX]
  clear hX hEX
  refine (H2.out _ (ht.ext hE) (hv.ext hE)).mono ?_
  rintro e w2 ⟨rfl, hx⟩
  have hE := hE.trans hx
  have b1 := b1.ext hx
  clear hx
  obtain ⟨f1, f2, f3, f4, f5⟩ := pfx_facts b1
  go_wp2_with (first
    | (go_at_call 80; refine (H3.out _).mono ?_; rintro e w3 ⟨rfl, hx⟩; have hE := hE.trans hx; clear hx)
    | (go_at_call 44; refine (H4.out _).mono ?_; rintro e w4 ⟨rfl, hx⟩; have hE := hE.trans hx; clear hx))
  go_ret
  exact ⟨rfl, hE⟩
/-! gueritelaw03.AddrTexts -/
set_option maxRecDepth 100000 in
theorem atexts_w (x : Int) (h0 : 0 ≤ x) (h1 : x < 4294967296) (s : List UInt8) (w : World) (ht : TabOk w) (hv : VarsOk w) (hsl : s.length ≤ 9223372036854775807) :
    Calls Tryd.prog 9 #[.int .u32 x, sv s] w fun e w' => e = .returned (.bool true) ∧ Ext w w' := by
  have hE : Ext w w := Ext.refl w
  by_cases hlong : 60 < s.length
  · go_enter Tryd.func9, Tryd.ntmps9
    go_wp2_with (go_at_call 40; refine (aawake_w _ ht hv).mono ?_; rintro e w' ⟨rfl, hx⟩)
    go_ret
    exact ⟨rfl, hx⟩
  · have htl := Ad.text_len h0
    have hp2 := fun w' h h' => aparse_w (Ad.text x) (by omega) w' h h'
    rw [Ad.parse_text h0 h1] at hp2
    by_cases hst0 : Ad.text x = s
    ·
      obtain ⟨t, htt⟩ : ∃ t, Ad.text x = t := ⟨_, rfl⟩
      rw [htt] at hst0
      subst hst0
      simp only [htt] at hp2
      have Htx := Lib.hid htt; clear htt
      have Hp2 := Lib.hid hp2; clear hp2
      have Hp : True := trivial
      have Hyt : True := trivial
      have y : True := trivial
      have hy0 : True := trivial
      have hy1 : True := trivial
      clear htl
      go_enter Tryd.func9, Tryd.ntmps9
      go_wp2_with (first
        | (go_at_call 42; refine (atext_w x h0 h1 _ (ht.ext hE)).mono ?_; rintro e w1 ⟨rfl, hx⟩; have hE := hE.trans hx; clear hx; try rw [Htx.out])
        | (go_at_call_of 41 (sv t); refine (Hp2.out _ (ht.ext hE) (hv.ext hE)).mono ?_; rintro e w2 ⟨rfl, hx⟩; have hE := hE.trans hx; clear hx)
        | (go_at_call 41; refine (Hp.out _ (ht.ext hE) (hv.ext hE)).mono ?_; rintro e w3 ⟨rfl, hx⟩; have hE := hE.trans hx; clear hx)
        | (go_at_call_of 43 (Value.int IntKind.u32 x); refine (ratext_w x h0 h1 _).mono ?_; rintro e w4 ⟨rfl, hx⟩; have hE := hE.trans hx; clear hx; try rw [Htx.out])
        | (go_at_call 43; refine (ratext_w y hy0 hy1 _).mono ?_; rintro e w5 ⟨rfl, hx⟩; have hE := hE.trans hx; clear hx; try rw [Hyt.out])
        | (go_at_call 44; refine (kind_w x h0 h1 _).mono ?_; rintro e w6 ⟨rfl, hx⟩; have hE := hE.trans hx; clear hx)
        | (go_at_call 45; refine (rkind_w x h0 h1 _).mono ?_; rintro e w7 ⟨rfl, rfl⟩)
        | (go_at_call 40; refine (aawake_w _ (ht.ext hE) (hv.ext hE)).mono ?_; rintro e w8 ⟨rfl, hx⟩; have hE := hE.trans hx; clear hx))
      go_ret
      exact ⟨rfl, hE⟩
    have hp := fun w' h h' => aparse_w s (by omega) w' h h'
    have hyes := @Ad.parse_yes s
    have hno := @Ad.parse_no s
    obtain ⟨hy0, hy1⟩ := aparse_bd s
    obtain ⟨y, hy⟩ : ∃ y, (Ad.parse s).1 = y := ⟨_, rfl⟩
    obtain ⟨b, hb⟩ : ∃ b, (Ad.parse s).2 = b := ⟨_, rfl⟩
    rw [hy] at hy0 hy1
    rw [hy, hb] at hyes hno
    simp only [hy, hb] at hp
    clear hy hb
    obtain ⟨t, htt⟩ : ∃ t, Ad.text x = t := ⟨_, rfl⟩
    simp only [htt] at hp2
    have Htx := Lib.hid htt; clear htt
    have Hp := Lib.hid hp; clear hp
    have Hp2 := Lib.hid hp2; clear hp2
    clear htl
    go_enter Tryd.func9, Tryd.ntmps9
    have hyx : b = true → y ≠ x := fun h e => by
      have h2 := (hyes h).1
      rw [e] at h2
      exact hst0 h2
    clear hst0
    cases b with
    | true =>
      have hyt := (hyes rfl).1
      have hyx := hyx rfl
      have Hyt := Lib.hid hyt; clear hyt hyes hno
      go_wp2_with (first
        | (go_at_call 42; refine (atext_w x h0 h1 _ (ht.ext hE)).mono ?_; rintro e w1 ⟨rfl, hx⟩; have hE := hE.trans hx; clear hx; try rw [Htx.out])
        | (go_at_call_of 41 (sv t); refine (Hp2.out _ (ht.ext hE) (hv.ext hE)).mono ?_; rintro e w2 ⟨rfl, hx⟩; have hE := hE.trans hx; clear hx)
        | (go_at_call 41; refine (Hp.out _ (ht.ext hE) (hv.ext hE)).mono ?_; rintro e w3 ⟨rfl, hx⟩; have hE := hE.trans hx; clear hx)
        | (go_at_call_of 43 (Value.int IntKind.u32 x); refine (ratext_w x h0 h1 _).mono ?_; rintro e w4 ⟨rfl, hx⟩; have hE := hE.trans hx; clear hx; try rw [Htx.out])
        | (go_at_call 43; refine (ratext_w y hy0 hy1 _).mono ?_; rintro e w5 ⟨rfl, hx⟩; have hE := hE.trans hx; clear hx; try rw [Hyt.out])
        | (go_at_call 44; refine (kind_w x h0 h1 _).mono ?_; rintro e w6 ⟨rfl, hx⟩; have hE := hE.trans hx; clear hx)
        | (go_at_call 45; refine (rkind_w x h0 h1 _).mono ?_; rintro e w7 ⟨rfl, rfl⟩)
        | (go_at_call 40; refine (aawake_w _ (ht.ext hE) (hv.ext hE)).mono ?_; rintro e w8 ⟨rfl, hx⟩; have hE := hE.trans hx; clear hx))
      go_ret
      exact ⟨rfl, hE⟩
    | false =>
      obtain rfl := hno rfl
      have Hyt : True := trivial
      clear hyes hno hyx
      go_wp2_with (first
        | (go_at_call 42; refine (atext_w x h0 h1 _ (ht.ext hE)).mono ?_; rintro e w1 ⟨rfl, hx⟩; have hE := hE.trans hx; clear hx; try rw [Htx.out])
        | (go_at_call_of 41 (sv t); refine (Hp2.out _ (ht.ext hE) (hv.ext hE)).mono ?_; rintro e w2 ⟨rfl, hx⟩; have hE := hE.trans hx; clear hx)
        | (go_at_call 41; refine (Hp.out _ (ht.ext hE) (hv.ext hE)).mono ?_; rintro e w3 ⟨rfl, hx⟩; have hE := hE.trans hx; clear hx)
        | (go_at_call_of 43 (Value.int IntKind.u32 x); refine (ratext_w x h0 h1 _).mono ?_; rintro e w4 ⟨rfl, hx⟩; have hE := hE.trans hx; clear hx; try rw [Htx.out])
        | (go_at_call 43; refine (ratext_w y hy0 hy1 _).mono ?_; rintro e w5 ⟨rfl, hx⟩; have hE := hE.trans hx; clear hx; try rw [Hyt.out])
        | (go_at_call 44; refine (kind_w x h0 h1 _).mono ?_; rintro e w6 ⟨rfl, hx⟩; have hE := hE.trans hx; clear hx)
        | (go_at_call 45; refine (rkind_w x h0 h1 _).mono ?_; rintro e w7 ⟨rfl, rfl⟩)
        | (go_at_call 40; refine (aawake_w _ (ht.ext hE) (hv.ext hE)).mono ?_; rintro e w8 ⟨rfl, hx⟩; have hE := hE.trans hx; clear hx))
      go_ret
      exact ⟨rfl, hE⟩
end Go.Proofs.YtpgpfcdkkhfemaaDoor
