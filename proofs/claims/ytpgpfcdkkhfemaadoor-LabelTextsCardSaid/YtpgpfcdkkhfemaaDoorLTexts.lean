/- gueritelaw09.LabelTexts answers true at any label and text, and leaves what lay in memory as it was. -/
import Derived.Test.YtpgpfcdkkhfemaaDoorWLab4
import Derived.Deep.DeepCutAuto
open Go.RowKit Go.Reg Go.Gu
namespace Go.Proofs.YtpgpfcdkkhfemaaDoor
set_option linter.unusedSimpArgs false
set_option linter.unusedVariables false
set_option maxHeartbeats 1000000
@[go_sem] theorem lt_beq (c : Lab) : (c == c) = true := by simp
set_option maxRecDepth 100000 in
theorem ltexts_w (l : Lab) (hll : -9223372036854775808 ≤ l.level ∧ l.level ≤ 9223372036854775807) (s : List UInt8) (w : World) (ht : TabOk w) (hv : VarsOk w) (hsl : s.length ≤ 9223372036854775807) :
    Calls Tryd.prog 12 #[.agg (lv l), sv s] w fun e w' => e = .returned (.bool true) ∧ Ext w w' := by
  obtain ⟨W, hW⟩ : ∃ W, W = w.alloc (.cells (lv l) 41) := ⟨_, rfl⟩
  have b2 : Blk W w.heap.size 41 (lv l) := by rw [hW]; exact Blk.new w _ _
  have hEW : Ext w W := by rw [hW]; exact Ext.of_alloc w _
  by_cases hlong : 200 < s.length
  · go_enter Tryd.func12, Tryd.ntmps12
    go_wp2_with (rw [← hW]; go_at_call 53; refine (lawake_w _ (ht.ext hEW) (hv.ext hEW)).mono ?_; rintro e w' ⟨rfl, hx⟩)
    go_ret
    exact ⟨rfl, hEW.trans hx⟩
  · obtain ⟨hl0, hl1⟩ := hll
    have htl : l.text.length ≤ 90000 := by
      cases hr : l.right with
      | false => rw [Lab.text_of_wrong hr]; simp
      | true =>
        have hb : 0 ≤ l.level ∧ l.level ≤ 255 := by simpa [Lab.right] using hr
        have h1 := itoa_len hb.1
        have h2 := text_len l.cats
        rw [Lab.text_of_right hr]; simp; omega
    obtain ⟨y, hy⟩ : ∃ y, (Lab.parse s).1 = y := ⟨_, rfl⟩
    obtain ⟨b, hb⟩ : ∃ b, (Lab.parse s).2 = b := ⟨_, rfl⟩
    have hpy := @Lab.parse_yes s
    have hpn := @Lab.parse_no s
    have hpr := @Lab.parse_right s
    have hparse := fun w' h1 h2 => lparse_w s (by omega) w' h1 h2
    simp only [hy, hb] at hparse
    rw [hy, hb] at hpy hpn hpr
    obtain ⟨x, hx'⟩ : ∃ y, (Lab.parse l.text).1 = y := ⟨_, rfl⟩
    obtain ⟨okx, hokx⟩ : ∃ b, (Lab.parse l.text).2 = b := ⟨_, rfl⟩
    have hparse2 := fun w' h1 h2 => lparse_w l.text (by omega) w' h1 h2
    simp only [hx', hokx] at hparse2
    have hxr : l.right = true → x = l ∧ okx = true := fun h => by rw [← hx', ← hokx, Lab.parse_text h]; exact ⟨rfl, rfl⟩
    have hxw : l.right = false → okx = false := fun h => by rw [← hokx, Lab.text_of_wrong h, Lab.parse_empty]
    clear hx' hokx hy hb
    obtain ⟨t, htt⟩ : ∃ t, l.text = t := ⟨_, rfl⟩
    have htr : l.right = true → Lib.itoa l.level ++ 58 :: l.cats.text = t := fun h => by rw [← htt, Lab.text_of_right h]; simp
    have htw : l.right = false → t = [] := fun h => by rw [← htt, Lab.text_of_wrong h]
    have hyr : b = true → Lib.itoa y.level ++ 58 :: y.cats.text = s := fun h => by rw [← hpy h, Lab.text_of_right (hpr h)]; simp
    have hyb : b = true → 0 ≤ y.level ∧ y.level ≤ 255 := fun h => by simpa [Lab.right] using hpr h
    simp only [htt] at hparse2
    have Htt := Lib.hid htt; clear htt
    have Hparse := Lib.hid hparse; clear hparse
    have Hparse2 := Lib.hid hparse2; clear hparse2
    clear hpy hpr htl
    obtain ⟨f1, f2, f3, f4⟩ := b2.facts 31 (lv_size _)
    go_enter Tryd.func12, Tryd.ntmps12
    go_upto_region 3 with (fail)
    rw [← hW]
    clear hW
    go_wp2_with fail
    refine (ltext_w l _ (ht.ext hEW)).mono ?_
    rintro e w1 ⟨rfl, hx⟩
    rw [Htt.out]
    have hEW := hEW.trans hx
    have b2 := b2.ext hx
    clear f1 f2 f3 f4 hx
    go_wp2_with fail
    refine (Hparse2.out _ (ht.ext hEW) (hv.ext hEW)).mono ?_
    rintro e w2 ⟨rfl, hx⟩
    have hEW := hEW.trans hx
    have b2 := b2.ext hx
    clear hx
    go_wp2_with fail
    obtain ⟨X, hX⟩ : ∃ X, X = (w2.alloc (.cells (lv Lab.zero) 41)).setRow w2.heap.size (lv x) := ⟨_, rfl⟩
    have hEX : Ext w2 X := by rw [hX]; exact (Ext.of_alloc w2 _).setRow (Nat.le_refl _) _
    have b6 : Blk X w2.heap.size 41 (lv x) := by rw [hX]; exact (Blk.new w2 _ _).setRow _
    have hEW := hEW.trans hEX
    have b2 := b2.ext hEX
    rw [← hX]
    clear hX hEX
    refine (Hparse.out _ (ht.ext hEW) (hv.ext hEW)).mono ?_
    rintro e w3 ⟨rfl, hx⟩
    have hEW := hEW.trans hx
    have b2 := b2.ext hx
    have b6 := b6.ext hx
    clear hx
    obtain ⟨Y, hY⟩ : ∃ Y, Y = (w3.alloc (.cells (lv Lab.zero) 41)).setRow w3.heap.size (lv y) := ⟨_, rfl⟩
    have hEY : Ext w3 Y := by rw [hY]; exact (Ext.of_alloc w3 _).setRow (Nat.le_refl _) _
    have b8 : Blk Y w3.heap.size 41 (lv y) := by rw [hY]; exact (Blk.new w3 _ _).setRow _
    have hEW := hEW.trans hEY
    have b2 := b2.ext hEY
    have b6 := b6.ext hEY
    go_upto_region 6 with (fail)
    rw [← hY]
    clear hY hEY
    go_cut [47] (fun s47 wx => s47 = .bool false ∧ Ext Y wx)
    case first =>
      cases b with
      | true =>
        obtain ⟨hy0, hy1⟩ := hyb rfl
        have hyt : (Lib.itoa y.level ++ 58 :: y.cats.text == s) = true := by simp [hyr rfl]
        have hil := itoa_len hy0
        have hcl := text_len y.cats
        clear hyr hyb hpn hxr hxw htr htw
        refine wp_region_by (R := Ext) [([(9, none)], none), ([(26, some 0)], none), ([(8, none), (27, some 1)], some (27, true)), ([(28, some 2), (27, some 1)], some (27, true)), ([(29, some 3), (27, some 1)], some (27, true)), ([(30, some 4), (27, some 1)], some (27, true)), ([(8, none), (27, some 1)], some (27, true)), ([(32, some 6), (27, some 1)], some (27, true)), ([(33, some 7), (27, some 1)], some (27, true)), ([(31, some 5), (34, some 8), (27, some 1)], some (27, true)), ([(1, none), (27, some 1)], some (27, true)), ([(35, some 9), (36, some 10), (27, some 1)], some (27, true)), ([(27, some 1), (37, some 11)], none), ([(38, some 12)], none), ([(9, none), (39, some 13)], some (39, false)), ([(40, some 14), (39, some 13)], some (39, false)), ([(41, some 15), (39, some 13)], some (39, false)), ([(8, none), (42, some 16)], some (42, true)), ([(42, some 16)], some (42, true))]
          [Sp.ex ?r3v0, Sp.ex ?r3v1, Sp.ex ?r3v2, Sp.ex ?r3v3, Sp.ex ?r3v4, Sp.ex ?r3v5, Sp.ex ?r3v6, Sp.ex ?r3v7, Sp.ex ?r3v8, Sp.ex ?r3v9, Sp.ex ?r3v10, Sp.ex ?r3v11, Sp.ex ?r3v12, Sp.ex ?r3v13, Sp.ex ?r3v14, Sp.ex ?r3v15, Sp.ex ?r3v16, Sp.ex ?r3v17, Sp.ex ?r3v18]
          (by kernel_rfl) (fun _ _ _ h1 h2 => h1.trans h2) (fun _ _ h => h.size) (Ext.refl _) rfl (by kernel_rfl) ?r3st (And.intro ?r3o0 (And.intro ?r3o1 (And.intro ?r3o2 (And.intro ?r3o3 (And.intro ?r3o4 (And.intro ?r3o5 (And.intro ?r3o6 (And.intro ?r3o7 (And.intro ?r3o8 (And.intro ?r3o9 (And.intro ?r3o10 (And.intro ?r3o11 (And.intro ?r3o12 (And.intro ?r3o13 (And.intro ?r3o14 (And.intro ?r3o15 (And.intro ?r3o16 (And.intro ?r3o17 (And.intro ?r3o18 trivial))))))))))))))))))) ?r3fin
        case r3o0 | r3o1 | r3o2 | r3o3 =>
          intro a w1 K hR hE hK; simp [go_sem, EnvF, Sp.says, mk, Act.eval] at hE; obtain ⟨f1, f2, f3, ⟨f4, f5⟩, f6⟩ := lab_facts (b8.drew.ext hR); dsimp only [Runs]; go_simp; try go_bits
          go_wp2_with fail
          exact hK _ (Ext.refl _)
        case r3o4 =>
          intro a w1 K hR hE hK; simp [go_sem, EnvF, Sp.says, mk, Act.eval] at hE; obtain ⟨f1, f2, f3, ⟨f4, f5⟩, f6⟩ := lab_facts (b8.drew.ext hR); dsimp only [Runs]; go_simp; try go_bits
          go_wp2_with fail
          refine (number_w y.level (by omega) (by omega) _).mono ?_; rintro e w' ⟨rfl, hx⟩; exact hK _ hx
        case r3o5 | r3o6 | r3o7 =>
          intro a w1 K hR hE hK; simp [go_sem, EnvF, Sp.says, mk, Act.eval] at hE; obtain ⟨f1, f2, f3, ⟨f4, f5⟩, f6⟩ := lab_facts (b8.drew.ext hR); dsimp only [Runs]; go_simp; try go_bits
          go_wp2_with fail
          exact hK _ (Ext.refl _)
        case r3o8 =>
          intro a w1 K hR hE hK; simp [go_sem, EnvF, Sp.says, mk, Act.eval] at hE; obtain ⟨f1, f2, f3, ⟨f4, f5⟩, f6⟩ := lab_facts (b8.drew.ext hR); dsimp only [Runs]; go_simp; try go_bits
          go_wp2_with fail
          refine (rtext_w y.cats _).mono ?_; rintro e w' ⟨rfl, hx⟩; exact hK _ hx
        case r3o9 | r3o10 | r3o11 | r3o12 | r3o13 | r3o14 | r3o15 | r3o16 | r3o17 | r3o18 =>
          intro a w1 K hR hE hK; simp [go_sem, EnvF, Sp.says, mk, Act.eval] at hE; obtain ⟨f1, f2, f3, ⟨f4, f5⟩, f6⟩ := lab_facts (b8.drew.ext hR); dsimp only [Runs]; go_simp; try go_bits
          go_wp2_with fail
          exact hK _ (Ext.refl _)
        case r3st => simp only [StOk]
        case r3fin =>
          simp only [FinR, mk, Act.put, List.length_cons, List.length_nil, Nat.reduceAdd, Nat.zero_add, List.drop_succ_cons, List.drop_zero, List.setIfInBounds_toArray, List.set_cons_succ, List.set_cons_zero]
          intro w9 hR _ _
          go_wp2_with fail
          go_meet
          exact ⟨rfl, (Ext.refl Y).drew.trans hR⟩
      | false =>
        obtain rfl := hpn rfl
        clear hyr hyb hpn hxr hxw htr htw
        refine wp_region_by (R := Ext) [([(9, none)], none), ([(26, some 0)], none), ([(8, none), (27, some 1)], some (27, true)), ([(28, some 2), (27, some 1)], some (27, true)), ([(29, some 3), (27, some 1)], some (27, true)), ([(30, some 4), (27, some 1)], some (27, true)), ([(8, none), (27, some 1)], some (27, true)), ([(32, some 6), (27, some 1)], some (27, true)), ([(33, some 7), (27, some 1)], some (27, true)), ([(31, some 5), (34, some 8), (27, some 1)], some (27, true)), ([(1, none), (27, some 1)], some (27, true)), ([(35, some 9), (36, some 10), (27, some 1)], some (27, true)), ([(27, some 1), (37, some 11)], none), ([(38, some 12)], none), ([(9, none), (39, some 13)], some (39, false)), ([(40, some 14), (39, some 13)], some (39, false)), ([(41, some 15), (39, some 13)], some (39, false)), ([(8, none), (42, some 16)], some (42, true)), ([(42, some 16)], some (42, true))]
          [Sp.ex ?r2v0, Sp.ex ?r2v1, Sp.ex ?r2v2, Sp.ex ?r2v3, Sp.ex ?r2v4, Sp.ex ?r2v5, Sp.ex ?r2v6, Sp.ex ?r2v7, Sp.ex ?r2v8, Sp.ex ?r2v9, Sp.ex ?r2v10, Sp.ex ?r2v11, Sp.ex ?r2v12, Sp.ex ?r2v13, Sp.ex ?r2v14, Sp.ex ?r2v15, Sp.ex ?r2v16, Sp.ex ?r2v17, Sp.ex ?r2v18]
          (by kernel_rfl) (fun _ _ _ h1 h2 => h1.trans h2) (fun _ _ h => h.size) (Ext.refl _) rfl (by kernel_rfl) ?r2st (And.intro ?r2o0 (And.intro ?r2o1 (And.intro ?r2o2 (And.intro ?r2o3 (And.intro ?r2o4 (And.intro ?r2o5 (And.intro ?r2o6 (And.intro ?r2o7 (And.intro ?r2o8 (And.intro ?r2o9 (And.intro ?r2o10 (And.intro ?r2o11 (And.intro ?r2o12 (And.intro ?r2o13 (And.intro ?r2o14 (And.intro ?r2o15 (And.intro ?r2o16 (And.intro ?r2o17 (And.intro ?r2o18 trivial))))))))))))))))))) ?r2fin
        case r2o0 | r2o1 | r2o2 | r2o3 | r2o4 | r2o5 | r2o6 | r2o7 | r2o8 | r2o9 | r2o10 | r2o11 | r2o12 | r2o13 | r2o14 | r2o15 | r2o16 | r2o17 | r2o18 =>
          intro a w1 K hR hE hK; simp [go_sem, EnvF, Sp.says, mk, Act.eval] at hE; obtain ⟨f1, f2, f3, ⟨f4, f5⟩, f6⟩ := lab_facts (b8.drew.ext hR); dsimp only [Runs]; go_simp; try go_bits
          go_wp2_with fail
          exact hK _ (Ext.refl _)
        case r2st => simp only [StOk]
        case r2fin =>
          simp only [FinR, mk, Act.put, List.length_cons, List.length_nil, Nat.reduceAdd, Nat.zero_add, List.drop_succ_cons, List.drop_zero, List.setIfInBounds_toArray, List.set_cons_succ, List.set_cons_zero]
          intro w9 hR _ _
          go_wp2_with fail
          go_meet
          exact ⟨rfl, (Ext.refl Y).drew.trans hR⟩
    case rest =>
      obtain ⟨rfl, hx⟩ := hcut
      have hEW := hEW.trans hx
      have b2 := b2.ext hx
      have b6 := b6.ext hx
      clear hx hyr hyb hpn b8
      obtain ⟨f1, f2, f3, ⟨f4, f5⟩, f6⟩ := lab_facts b2
      obtain ⟨g1, g2, g3, g4⟩ := b6.facts 31 (lv_size _)
      by_cases hr : 0 ≤ l.level ∧ l.level ≤ 255
      · obtain ⟨hr0, hr1⟩ := hr
        have hright : l.right = true := by simp [Lab.right, hr0, hr1]
        obtain ⟨rfl, rfl⟩ := hxr hright
        have htt2 : (t == Lib.itoa x.level ++ 58 :: x.cats.text) = true := by simp [htr hright]
        have hil := itoa_len hr0
        have hcl := text_len x.cats
        clear hxr hxw htr htw hright
        go_wp2_with fail
        clear f1 f2 f3 f4 f5 f6 g1 g2 g3 g4
        refine wp_region_by (R := Ext) [([(5, none)], none), ([(2, none)], none), ([(66, some 1)], none), ([(67, some 2)], none), ([(68, some 3)], none), ([(2, none)], none), ([(70, some 5)], none), ([(71, some 6)], none), ([(69, some 4), (72, some 7)], none), ([(65, some 0), (73, some 8)], none), ([(74, some 9)], none), ([(6, none), (75, some 10)], some (75, true)), ([(2, none), (75, some 10)], some (75, true))]
          [Sp.ex ?r1v0, Sp.ex ?r1v1, Sp.ex ?r1v2, Sp.ex ?r1v3, Sp.ex ?r1v4, Sp.ex ?r1v5, Sp.ex ?r1v6, Sp.ex ?r1v7, Sp.ex ?r1v8, Sp.ex ?r1v9, Sp.ex ?r1v10, Sp.ex ?r1v11, Sp.ex ?r1v12]
          (by kernel_rfl) (fun _ _ _ h1 h2 => h1.trans h2) (fun _ _ h => h.size) (Ext.refl _) rfl (by kernel_rfl) ?r1st (And.intro ?r1o0 (And.intro ?r1o1 (And.intro ?r1o2 (And.intro ?r1o3 (And.intro ?r1o4 (And.intro ?r1o5 (And.intro ?r1o6 (And.intro ?r1o7 (And.intro ?r1o8 (And.intro ?r1o9 (And.intro ?r1o10 (And.intro ?r1o11 (And.intro ?r1o12 trivial))))))))))))) ?r1fin
        case r1o0 | r1o1 | r1o2 =>
          intro a w1 K hR hE hK; simp [go_sem, EnvF, Sp.says, mk, Act.eval] at hE; obtain ⟨f1, f2, f3, ⟨f4, f5⟩, f6⟩ := lab_facts (b2.drew.ext hR); obtain ⟨g1, g2, g3, g4⟩ := (b6.drew.ext hR).facts 31 (lv_size _); dsimp only [Runs]; go_simp; try go_bits
          go_wp2_with fail
          exact hK _ (Ext.refl _)
        case r1o3 =>
          intro a w1 K hR hE hK; simp [go_sem, EnvF, Sp.says, mk, Act.eval] at hE; obtain ⟨f1, f2, f3, ⟨f4, f5⟩, f6⟩ := lab_facts (b2.drew.ext hR); obtain ⟨g1, g2, g3, g4⟩ := (b6.drew.ext hR).facts 31 (lv_size _); dsimp only [Runs]; go_simp; try go_bits
          go_wp2_with fail
          refine (number_w x.level (by omega) (by omega) _).mono ?_; rintro e w' ⟨rfl, hx⟩; exact hK _ hx
        case r1o4 | r1o5 | r1o6 =>
          intro a w1 K hR hE hK; simp [go_sem, EnvF, Sp.says, mk, Act.eval] at hE; obtain ⟨f1, f2, f3, ⟨f4, f5⟩, f6⟩ := lab_facts (b2.drew.ext hR); obtain ⟨g1, g2, g3, g4⟩ := (b6.drew.ext hR).facts 31 (lv_size _); dsimp only [Runs]; go_simp; try go_bits
          go_wp2_with fail
          exact hK _ (Ext.refl _)
        case r1o7 =>
          intro a w1 K hR hE hK; simp [go_sem, EnvF, Sp.says, mk, Act.eval] at hE; obtain ⟨f1, f2, f3, ⟨f4, f5⟩, f6⟩ := lab_facts (b2.drew.ext hR); obtain ⟨g1, g2, g3, g4⟩ := (b6.drew.ext hR).facts 31 (lv_size _); dsimp only [Runs]; go_simp; try go_bits
          go_wp2_with fail
          refine (rtext_w x.cats _).mono ?_; rintro e w' ⟨rfl, hx⟩; exact hK _ hx
        case r1o8 | r1o9 | r1o10 | r1o11 | r1o12 =>
          intro a w1 K hR hE hK; simp [go_sem, EnvF, Sp.says, mk, Act.eval] at hE; obtain ⟨f1, f2, f3, ⟨f4, f5⟩, f6⟩ := lab_facts (b2.drew.ext hR); obtain ⟨g1, g2, g3, g4⟩ := (b6.drew.ext hR).facts 31 (lv_size _); dsimp only [Runs]; go_simp; try go_bits
          go_wp2_with fail
          exact hK _ (Ext.refl _)
        case r1st => simp only [StOk]
        case r1fin =>
          simp only [FinR, mk, Act.put, List.length_cons, List.length_nil, Nat.reduceAdd, Nat.zero_add, List.drop_succ_cons, List.drop_zero, List.setIfInBounds_toArray, List.set_cons_succ, List.set_cons_zero]
          intro w9 hR _ _
          go_wp2_with (go_at_call 53; refine (lawake_w _ (ht.ext (hEW.drew.trans hR)) (hv.ext (hEW.drew.trans hR))).mono ?_; rintro e w' ⟨rfl, hx⟩)
          go_ret
          exact ⟨rfl, (hEW.drew.trans hR).trans hx⟩
      · have hright : l.right = false := by
          cases h : l.right with
          | false => rfl
          | true => exact absurd (by simpa [Lab.right] using h) hr
        obtain rfl := htw hright
        obtain rfl := hxw hright
        clear hxr hxw htr htw
        have hr2 : l.level < 0 ∨ 255 < l.level := by omega
        clear hr
        rcases hr2 with hr2 | hr2
        · go_wp2_with (go_at_call 53; refine (lawake_w _ (ht.ext hEW) (hv.ext hEW)).mono ?_; rintro e w' ⟨rfl, hx⟩)
          go_ret
          exact ⟨rfl, hEW.trans hx⟩
        · go_wp2_with (go_at_call 53; refine (lawake_w _ (ht.ext hEW) (hv.ext hEW)).mono ?_; rintro e w' ⟨rfl, hx⟩)
          go_ret
          exact ⟨rfl, hEW.trans hx⟩
end Go.Proofs.YtpgpfcdkkhfemaaDoor
