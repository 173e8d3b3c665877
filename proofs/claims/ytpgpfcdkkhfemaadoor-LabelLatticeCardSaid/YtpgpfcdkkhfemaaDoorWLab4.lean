/- The example of the laws on labels. -/
import Derived.Test.YtpgpfcdkkhfemaaDoorWLab3
open Go.RowKit Go.Reg Go.Gu
namespace Go.Proofs.YtpgpfcdkkhfemaaDoor
set_option linter.unusedSimpArgs false
set_option linter.unusedVariables false
set_option maxHeartbeats 1000000
def ca : Cats := Cats.zero.with_ [1]
def cb : Cats := Cats.zero.with_ [2]
def la : Lab := ⟨3, ca⟩
def lb : Lab := ⟨2, cb⟩
def lc : Lab := la.join [lb]
theorem ca_list : ca.list = [1] := by decide +kernel
theorem cb_list : cb.list = [2] := by decide +kernel
theorem lc_list : lc.cats.list = [1, 2] := by decide +kernel
theorem ca_text : ca.text = [49] := by unfold Cats.text; rw [ca_list]; simp [runs, runsFrom, runText, Lib.itoa, Lib.decDigits, Lib.join, List.intercalate, List.intersperse]
theorem cb_text : cb.text = [50] := by unfold Cats.text; rw [cb_list]; simp [runs, runsFrom, runText, Lib.itoa, Lib.decDigits, Lib.join, List.intercalate, List.intersperse]
theorem lc_ctext : lc.cats.text = [49, 44, 50] := by unfold Cats.text; rw [lc_list]; simp [runs, runsFrom, runText, Lib.itoa, Lib.decDigits, Lib.join, List.intercalate, List.intersperse]
theorem la_text : la.text = [51, 58, 49] := by
  rw [Lab.text_of_right (by decide +kernel), show la.cats = ca from rfl, ca_text, show la.level = 3 from rfl]; simp [Lib.itoa, Lib.decDigits]
theorem lb_text : lb.text = [50, 58, 50] := by
  rw [Lab.text_of_right (by decide +kernel), show lb.cats = cb from rfl, cb_text, show lb.level = 2 from rfl]; simp [Lib.itoa, Lib.decDigits]
theorem lc_text : lc.text = [51, 58, 49, 44, 50] := by
  rw [Lab.text_of_right (by decide +kernel), lc_ctext, show lc.level = 3 from by decide +kernel]; simp [Lib.itoa, Lib.decDigits]
theorem la_parse : Lab.parse [51, 58, 49] = (la, true) := by rw [← la_text]; exact Lab.parse_text (by decide +kernel)
theorem lb_parse : Lab.parse [50, 58, 50] = (lb, true) := by rw [← lb_text]; exact Lab.parse_text (by decide +kernel)
theorem la_dom : la.dom lb = false := by decide +kernel
theorem at_labs (w : World) (es : List Lab) : At (w.alloc (.cells (rowOf (es.map lv)) 41)) (some ⟨w.heap.size, 0, none⟩) 31 (es.map lv) := by
  obtain ⟨A, cap, hv, hA⟩ := Sl.many w 41 (size := 31) (es := es.map lv) (by intro e he; obtain ⟨x, _, rfl⟩ := List.mem_map.1 he; exact lv_size x)
  simp only [Value.slice.injEq] at hv
  obtain ⟨rfl, _⟩ := hv
  exact hA
set_option maxRecDepth 100000 in
theorem lawake_w (w : World) (ht : TabOk w) (hv : VarsOk w) : Calls Tryd.prog 53 #[] w fun e w' => e = .returned (.bool true) ∧ Ext w w' := by
  have h1 := lparse_w [51, 58, 49] (by simp) w ht hv
  rw [la_parse] at h1
  have h2 := fun w' h h' => lparse_w [50, 58, 50] (by simp) w' h h'
  rw [lb_parse] at h2
  have H1 := Lib.hid h1; clear h1
  have H2 := Lib.hid h2; clear h2
  have hd : la.dom lb = false := la_dom
  have htx : lc.text = [51, 58, 49, 44, 50] := lc_text
  have Htx := Lib.hid htx; clear htx
  have Hd := Lib.hid hd; clear hd
  have hjn : la.join [lb] = lc := rfl
  have Hjn := Lib.hid hjn; clear hjn
  generalize la = a at *
  generalize lb = b at *
  generalize lc = c at *
  go_enter Tryd.func53, Tryd.ntmps53
  go_wp2_with fail
  refine H1.out.mono ?_
  rintro e w1 ⟨rfl, hE⟩
  go_wp2_with fail
  obtain ⟨X, hX⟩ : ∃ X, X = (w1.alloc (.cells (lv Lab.zero) 41)).setRow w1.heap.size (lv a) := ⟨_, rfl⟩
  have hEX : Ext w1 X := by rw [hX]; exact (Ext.of_alloc w1 _).setRow (Nat.le_refl _) _
  have b1 : Blk X w1.heap.size 41 (lv a) := by rw [hX]; exact (Blk.new w1 _ _).setRow _
  have hE := hE.trans hEX
  rw [← hX]
  clear hX hEX
  refine (H2.out _ (ht.ext hE) (hv.ext hE)).mono ?_
  rintro e w2 ⟨rfl, hx⟩
  have hE := hE.trans hx
  have b1 := b1.ext hx
  clear hx
  obtain ⟨Y, hY⟩ : ∃ Y, Y = (w2.alloc (.cells (lv Lab.zero) 41)).setRow w2.heap.size (lv b) := ⟨_, rfl⟩
  have hEY : Ext w2 Y := by rw [hY]; exact (Ext.of_alloc w2 _).setRow (Nat.le_refl _) _
  have b3 : Blk Y w2.heap.size 41 (lv b) := by rw [hY]; exact (Blk.new w2 _ _).setRow _
  have hE := hE.trans hEY
  have b1 := b1.ext hEY
  go_upto_region 3 with (fail)
  rw [← hY]
  clear hY hEY
  obtain ⟨f1, f2, f3, f4⟩ := b1.facts 31 (lv_size _)
  obtain ⟨g1, g2, g3, g4⟩ := b3.facts 31 (lv_size _)
  go_wp2_with (first
    | (go_at_call 57; refine (ljoin_w a [b] _ 1 _ (by simp) (at_labs _ [b])).mono ?_; rintro e w3 ⟨rfl, hx⟩; rw [Hjn.out]; have hx2 := (Ext.of_alloc _ _).trans hx; have hE := hE.trans hx2; have b1 := b1.ext hx2; have b3 := b3.ext hx2; clear f1 f2 f3 f4 g1 g2 g3 g4 hx hx2)
    | (go_at_call 54; refine (ltext_w c _ (ht.ext hE)).mono ?_; rintro e w4 ⟨rfl, hx⟩; rw [Htx.out]; have hE := hE.trans hx; have b1 := b1.ext hx; have b3 := b3.ext hx; clear hx; obtain ⟨f1, f2, f3, f4⟩ := b1.facts 31 (lv_size _); obtain ⟨g1, g2, g3, g4⟩ := b3.facts 31 (lv_size _))
    | (go_at_call 91; refine (ldom_w a b _).mono ?_; rintro e w5 ⟨rfl, hx⟩; rw [Hd.out]))
  go_ret
  exact ⟨rfl, hE.trans hx⟩
end Go.Proofs.YtpgpfcdkkhfemaaDoor
