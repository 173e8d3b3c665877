/- label.right, label.Right, label.Dominates, the law's dominates, label.Text, label.Join, label.Meet. -/
import Derived.Test.YtpgpfcdkkhfemaaDoorWLab
import Derived.Deep.DeepCutAuto
open Go.RowKit Go.Reg Go.Gu
namespace Go.Proofs.YtpgpfcdkkhfemaaDoor
set_option linter.unusedSimpArgs false
set_option linter.unusedVariables false
set_option maxHeartbeats 1000000
set_option maxRecDepth 100000 in
theorem lright_w (l : Lab) (w : World) : Calls Tryd.prog 92 #[.agg (lv l)] w fun e w' => e = .returned (.bool l.right) ∧ Ext w w' := by
  obtain ⟨W, hW⟩ : ∃ W, W = w.alloc (.cells (lv l) 41) := ⟨_, rfl⟩
  have b1 : Blk W w.heap.size 41 (lv l) := by rw [hW]; exact Blk.new w _ _
  have hE : Ext w W := by rw [hW]; exact Ext.of_alloc w _
  obtain ⟨f1, f2, f3, f4, f5⟩ := lab_facts b1
  have hr : l.right = (decide (0 ≤ l.level) && decide (l.level ≤ 255)) := rfl
  rw [hr]
  have Hr := Lib.hid hr; clear hr
  go_enter Tryd.func92, Tryd.ntmps92
  go_upto_region 1 with (fail)
  rw [← hW]
  clear hW
  by_cases h0 : 0 ≤ l.level
  · by_cases h1 : l.level ≤ 255
    · go_wp2_with fail
      go_ret
      exact ⟨by simp [h0, h1], hE⟩
    · go_wp2_with fail
      go_ret
      exact ⟨by simp [h0, h1], hE⟩
  · go_wp2_with fail
    go_ret
    exact ⟨by rw [show decide (0 ≤ l.level) = false from decide_eq_false (by omega)]; rfl, hE⟩
/-! dominates -/
set_option maxRecDepth 100000 in
theorem dom_w (a b : Lab) (w : World) : Calls Tryd.prog 59 #[.agg (lv a), .agg (lv b)] w fun e w' => e = .returned (.bool (a.dom b)) ∧ Ext w w' := by
  obtain ⟨W, hW⟩ : ∃ W, W = (w.alloc (.cells (lv a) 41)).alloc (.cells (lv b) 41) := ⟨_, rfl⟩
  have b1 : Blk W w.heap.size 41 (lv a) := by rw [hW]; exact (Blk.new w _ _).alloc _
  have b2 : Blk W (w.heap.size + 1) 41 (lv b) := by rw [hW]; simpa using Blk.new (w.alloc (.cells (lv a) 41)) 41 (lv b)
  have hE : Ext w W := by rw [hW]; exact (Ext.of_alloc w _).alloc _
  obtain ⟨f1, f2, f3, ⟨f4, f5⟩, f6⟩ := lab_facts b1
  obtain ⟨g1, g2, g3, ⟨g4, g5⟩, g6⟩ := lab_facts b2
  have hd : a.dom b = (decide (b.level ≤ a.level) && b.cats.within a.cats) := rfl
  have Hd := Lib.hid hd; clear hd
  go_enter Tryd.func59, Tryd.ntmps59
  go_upto_region 1 with (fail)
  rw [← hW]
  clear hW
  by_cases h0 : b.level ≤ a.level
  · go_wp2_with (go_at_call 29; refine (rwithin_w b.cats a.cats _).mono ?_; rintro e w1 ⟨rfl, hx⟩)
    go_ret
    exact ⟨by rw [Hd.out]; simp [h0, Cats.rwithin_eq], hE.trans hx⟩
  · go_wp2_with fail
    go_ret
    exact ⟨by rw [Hd.out, show decide (b.level ≤ a.level) = false from decide_eq_false (by omega)]; rfl, hE⟩
set_option maxRecDepth 100000 in
theorem ldom_w (a b : Lab) (w : World) : Calls Tryd.prog 91 #[.agg (lv a), .agg (lv b)] w fun e w' => e = .returned (.bool (a.dom b)) ∧ Ext w w' := by
  obtain ⟨W, hW⟩ : ∃ W, W = (w.alloc (.cells (lv a) 41)).alloc (.cells (lv b) 41) := ⟨_, rfl⟩
  have b1 : Blk W w.heap.size 41 (lv a) := by rw [hW]; exact (Blk.new w _ _).alloc _
  have b2 : Blk W (w.heap.size + 1) 41 (lv b) := by rw [hW]; simpa using Blk.new (w.alloc (.cells (lv a) 41)) 41 (lv b)
  have hE : Ext w W := by rw [hW]; exact (Ext.of_alloc w _).alloc _
  obtain ⟨f1, f2, f3, ⟨f4, f5⟩, f6⟩ := lab_facts b1
  obtain ⟨g1, g2, g3, ⟨g4, g5⟩, g6⟩ := lab_facts b2
  have hd : a.dom b = (decide (b.level ≤ a.level) && b.cats.within a.cats) := rfl
  have Hd := Lib.hid hd; clear hd
  go_enter Tryd.func91, Tryd.ntmps91
  go_upto_region 1 with (fail)
  rw [← hW]
  clear hW
  by_cases h0 : b.level ≤ a.level
  · go_wp2_with (go_at_call 28; refine (within_w b.cats a.cats _).mono ?_; rintro e w1 ⟨rfl, hx⟩)
    go_ret
    exact ⟨by rw [Hd.out]; simp [h0, Cats.rwithin_eq], hE.trans hx⟩
  · go_wp2_with fail
    go_ret
    exact ⟨by rw [Hd.out, show decide (b.level ≤ a.level) = false from decide_eq_false (by omega)]; rfl, hE⟩
/-! label.Text -/
set_option maxRecDepth 100000 in
theorem ltext_w (l : Lab) (w : World) (ht : TabOk w) : Calls Tryd.prog 54 #[.agg (lv l)] w fun e w' => e = .returned (sv l.text) ∧ Ext w w' := by
  obtain ⟨W, hW⟩ : ∃ W, W = w.alloc (.cells (lv l) 41) := ⟨_, rfl⟩
  have b1 : Blk W w.heap.size 41 (lv l) := by rw [hW]; exact Blk.new w _ _
  have hE : Ext w W := by rw [hW]; exact Ext.of_alloc w _
  obtain ⟨f1, f2, f3, ⟨f4, f5⟩, f6⟩ := lab_facts b1
  have hcl := text_len l.cats
  cases hr : l.right with
  | true =>
    have hb : 0 ≤ l.level ∧ l.level ≤ 255 := by simpa [Lab.right] using hr
    obtain ⟨hb0, hb1⟩ := hb
    have htx := Lab.text_of_right hr
    have Htx := Lib.hid htx; clear htx
    have hil := itoa_len hb0
    go_enter Tryd.func54, Tryd.ntmps54
    go_upto_region 1 with (fail)
    rw [← hW]
    clear hW
    go_wp2_with (go_at_call 92; refine (lright_w l _).mono ?_; rintro e W1 ⟨rfl, hx⟩)
    have hEW := hE.trans hx
    have b1 := b1.ext hx
    clear f1 f2 f3 f4 f5 f6 hx
    refine wp_region_by (R := Ext) [([(1, none)], none), ([(6, some 0)], none), ([(7, some 1)], none), ([(8, some 2)], none), ([(1, none)], none), ([(10, some 4)], none), ([(11, some 5)], none)]
      [Sp.ex ?r3v0, Sp.ex ?r3v1, Sp.ex ?r3v2, Sp.ex ?r3v3, Sp.ex ?r3v4, Sp.ex ?r3v5, Sp.ex ?r3v6]
      (by kernel_rfl) (fun _ _ _ h1 h2 => h1.trans h2) (fun _ _ h => h.size) (Ext.refl _) rfl (by kernel_rfl) ?r3st (And.intro ?r3o0 (And.intro ?r3o1 (And.intro ?r3o2 (And.intro ?r3o3 (And.intro ?r3o4 (And.intro ?r3o5 (And.intro ?r3o6 trivial))))))) ?r3fin
    case r3o0 | r3o1 =>
      intro a w1 K hR hE hK; simp [go_sem, EnvF, Sp.says, mk, Act.eval] at hE; obtain ⟨f1, f2, f3, ⟨f4, f5⟩, f6⟩ := lab_facts (b1.drew.ext hR); dsimp only [Runs]; go_simp; try go_bits
      go_wp2_with fail
      exact hK _ (Ext.refl _)
    case r3o2 =>
      intro a w1 K hR hE hK; simp [go_sem, EnvF, Sp.says, mk, Act.eval] at hE; obtain ⟨f1, f2, f3, ⟨f4, f5⟩, f6⟩ := lab_facts (b1.drew.ext hR); dsimp only [Runs]; go_simp; try go_bits
      go_wp2_with fail
      refine (itoa_w l.level (by omega) (by omega) _ (ht.ext (hEW.drew.trans hR))).mono ?_; rintro e w' ⟨rfl, hx⟩; exact hK _ hx
    case r3o3 | r3o4 | r3o5 =>
      intro a w1 K hR hE hK; simp [go_sem, EnvF, Sp.says, mk, Act.eval] at hE; obtain ⟨f1, f2, f3, ⟨f4, f5⟩, f6⟩ := lab_facts (b1.drew.ext hR); dsimp only [Runs]; go_simp; try go_bits
      go_wp2_with fail
      exact hK _ (Ext.refl _)
    case r3o6 =>
      intro a w1 K hR hE hK; simp [go_sem, EnvF, Sp.says, mk, Act.eval] at hE; obtain ⟨f1, f2, f3, ⟨f4, f5⟩, f6⟩ := lab_facts (b1.drew.ext hR); dsimp only [Runs]; go_simp; try go_bits
      go_wp2_with fail
      refine (text_w l.cats _ (ht.ext (hEW.drew.trans hR))).mono ?_; rintro e w' ⟨rfl, hx⟩; exact hK _ hx
    case r3st => simp only [StOk]
    case r3fin =>
      simp only [FinR, mk, Act.put, List.length_cons, List.length_nil, Nat.reduceAdd, Nat.zero_add, List.drop_succ_cons, List.drop_zero, List.setIfInBounds_toArray, List.set_cons_succ, List.set_cons_zero]
      intro w9 hR _ _
      go_wp2_with fail
      go_ret
      exact ⟨by rw [Htx.out]; simp, hEW.drew.trans hR⟩
  | false =>
    have htx := Lab.text_of_wrong hr
    have Htx := Lib.hid htx; clear htx
    go_enter Tryd.func54, Tryd.ntmps54
    go_upto_region 1 with (fail)
    rw [← hW]
    clear hW
    go_wp2_with (go_at_call 92; refine (lright_w l _).mono ?_; rintro e W1 ⟨rfl, hx⟩)
    go_ret
    exact ⟨by rw [Htx.out]; rfl, hE.trans hx⟩
/-! label.Join, label.Meet -/
set_option maxRecDepth 100000 in
theorem ljoin_w (a0 : Lab) (es : List Lab) (A : Option Addr) (cap : Nat) (w : World) (hl : es.length ≤ 9223372036854775807) (hA : At w A 31 (es.map lv)) :
    Calls Tryd.prog 57 #[.agg (lv a0), .slice A es.length cap] w fun e w' => e = .returned (.agg (lv (a0.join es))) ∧ Ext w w' := by
  go_enter Tryd.func57, Tryd.ntmps57
  obtain ⟨W, hW⟩ : ∃ W, W = (w.alloc (.cells (lv a0) 41)).alloc (.cells (lv Lab.zero) 41) := ⟨_, rfl⟩
  have b2 : Blk W w.heap.size 41 (lv a0) := by rw [hW]; exact (Blk.new w _ _).alloc _
  have b4 : Blk W (w.heap.size + 1) 41 (lv Lab.zero) := by rw [hW]; simpa using Blk.new (w.alloc (.cells (lv a0) 41)) 41 (lv Lab.zero)
  have hEW : Ext w W := by rw [hW]; exact (Ext.of_alloc w _).alloc _
  go_wp2_with fail
  rw [← hW]
  clear hW
  go_loopw [6, 9] (fun s6 s9 wr => ∃ k : Nat, k ≤ es.length ∧ s9 = .int .i64 k ∧ Ext w wr ∧ Blk wr w.heap.size 41 (lv (a0.join (es.take k))) ∧ Blk wr (w.heap.size + 1) 41 (lv Lab.zero)) (fun s6 s9 _ => es.length - (intOf s9).toNat)
  case atStart => exact ⟨0, by omega, rfl, hEW, b2, b4⟩
  case round =>
    clear b2 b4 hEW
    obtain ⟨k, hk, rfl, hEr, b2, b4⟩ := hrel
    by_cases hlt : k < es.length
    · obtain ⟨a, rfl, hc1, hc2⟩ := At.facts (hA.ext hEr) (i := k) (by simpa using hlt)
      rw [List.getElem_map] at hc2
      have hstep : a0.join (es.take (k + 1)) = (a0.join (es.take k)).join1 es[k] := by rw [List.take_succ_eq_append_getElem hlt, Lab.join, List.foldl_append]; rfl
      have Hstep := Lib.hid hstep; clear hstep
      generalize a0.join (es.take k) = d at *
      generalize es[k] = x at *
      have hlt4 := b4.lt
      go_wp2_with fail
      obtain ⟨X, hX⟩ : ∃ X, X = (wr.alloc (Obj.cells (lv Lab.zero) 41)).setRow wr.heap.size (lv x) := ⟨_, rfl⟩
      rw [← hX]
      have hEX : Ext wr X := by rw [hX]; exact (Ext.of_alloc wr _).setRow (Nat.le_refl _) _
      have b6 : Blk X wr.heap.size 41 (lv x) := by rw [hX]; exact (Blk.new wr _ _).setRow _
      have hEr2 := hEr.trans hEX
      have b2 := b2.ext hEX
      have b4 := b4.ext hEX
      clear hX hc1 hc2
      refine wp_region_by (R := Ext) [([(2, none)], none), ([(13, some 0)], none), ([(6, none)], none), ([(15, some 2)], none), ([(14, some 1), (16, some 3)], none), ([(2, none)], none), ([(18, some 5)], none), ([(6, none)], none), ([(20, some 7)], none), ([(19, some 6), (21, some 8)], none), ([(22, some 9)], none)]
        [Sp.ex ?r2v0, Sp.ex ?r2v1, Sp.ex ?r2v2, Sp.ex ?r2v3, Sp.ex ?r2v4, Sp.ex ?r2v5, Sp.ex ?r2v6, Sp.ex ?r2v7, Sp.ex ?r2v8, Sp.un (PSl 30 [cv d.cats, cv x.cats]) true, Sp.ex ?r2v10]
        (by kernel_rfl) (fun _ _ _ h1 h2 => h1.trans h2) (fun _ _ h => h.size) (Ext.refl _) rfl (by kernel_rfl) ?r2st (And.intro ?r2o0 (And.intro ?r2o1 (And.intro ?r2o2 (And.intro ?r2o3 (And.intro ?r2o4 (And.intro ?r2o5 (And.intro ?r2o6 (And.intro ?r2o7 (And.intro ?r2o8 (And.intro ?r2o9 (And.intro ?r2o10 trivial))))))))))) ?r2fin
      case r2o0 | r2o1 | r2o2 | r2o3 | r2o4 | r2o5 | r2o6 | r2o7 | r2o8 =>
        intro a w1 K hR hE hK; simp [go_sem, EnvF, Sp.says, mk, Act.eval] at hE; obtain ⟨f1, f2, f3, ⟨f4, f5⟩, f6⟩ := lab_facts (b2.drew.ext hR); obtain ⟨g1, g2, g3, ⟨g4, g5⟩, g6⟩ := lab_facts (b6.drew.ext hR); dsimp only [Runs]; go_simp; try go_bits
        go_wp2_with fail
        exact hK _ (Ext.refl _)
      case r2o9 =>
        intro a w1 K hR hE hK; simp [go_sem, EnvF, Sp.says, mk, Act.eval] at hE; obtain ⟨f1, f2, f3, ⟨f4, f5⟩, f6⟩ := lab_facts (b2.drew.ext hR); obtain ⟨g1, g2, g3, ⟨g4, g5⟩, g6⟩ := lab_facts (b6.drew.ext hR); dsimp only [Runs]; go_simp; try go_bits
        go_wp2_with fail
        exact hK _ _ (Ext.of_alloc _ _) (Sl.many w1 _ (es := [cv d.cats, cv x.cats]) (by simp [cv_size])) (fun _ => Fr.slice _ _ _ _)
      case r2o10 =>
        intro a w1 K hR hE hK; simp [go_sem, EnvF, Sp.says, mk, Act.eval] at hE; obtain ⟨f1, f2, f3, ⟨f4, f5⟩, f6⟩ := lab_facts (b2.drew.ext hR); obtain ⟨g1, g2, g3, ⟨g4, g5⟩, g6⟩ := lab_facts (b6.drew.ext hR); dsimp only [Runs]; go_simp; try go_bits
        go_wp2_with fail
        obtain ⟨A', cap', hv, hAt⟩ := hE; rw [hv]; refine (union_w [d.cats, x.cats] A' cap' _ (by simp) hAt).mono ?_; rintro e w' ⟨rfl, hx⟩; exact hK _ hx
      case r2st => simp only [StOk]; exact ⟨PSl.st, trivial⟩
      case r2fin =>
        simp only [FinR, mk, Act.put, List.length_cons, List.length_nil, Nat.reduceAdd, Nat.zero_add, List.drop_succ_cons, List.drop_zero, List.setIfInBounds_toArray, List.set_cons_succ, List.set_cons_zero]
        intro v w9 hR hF _
        have hR2 := (Ext.refl X).drew.trans hR
        obtain ⟨f1, f2, f3, f4⟩ := (b2.ext hR2).facts 31 (lv_size _)
        go_wp2_with fail
        refine ⟨⟨k + 1, by omega, by go_num, (hEr2.trans hR2).setRow (Nat.le_refl _) _, by rw [Hstep.out]; exact (b2.ext hR2).setRow _, (b4.ext hR2).farRow (by omega) _⟩, ?_⟩
        simp [intOf]; omega
    · obtain rfl : k = es.length := by omega
      rw [List.take_length] at b2
      obtain ⟨f1, f2, f3, f4⟩ := b2.facts 31 (lv_size _)
      obtain ⟨g1, g2, g3, g4⟩ := b4.facts 31 (lv_size _)
      go_wp2_with fail
      exact ret_cell Tryd.underlying41 rfl i41 rfl (w.heap.size + 1) _ rfl (by simp [go_sem, *]) (by simp [go_sem, *]) rfl ⟨rfl, hEr.setRow (by simp) _⟩
set_option maxRecDepth 100000 in
theorem lmeet_w (a0 : Lab) (es : List Lab) (A : Option Addr) (cap : Nat) (w : World) (hl : es.length ≤ 9223372036854775807) (hA : At w A 31 (es.map lv)) :
    Calls Tryd.prog 58 #[.agg (lv a0), .slice A es.length cap] w fun e w' => e = .returned (.agg (lv (a0.meet es))) ∧ Ext w w' := by
  go_enter Tryd.func58, Tryd.ntmps58
  obtain ⟨W, hW⟩ : ∃ W, W = (w.alloc (.cells (lv a0) 41)).alloc (.cells (lv Lab.zero) 41) := ⟨_, rfl⟩
  have b2 : Blk W w.heap.size 41 (lv a0) := by rw [hW]; exact (Blk.new w _ _).alloc _
  have b4 : Blk W (w.heap.size + 1) 41 (lv Lab.zero) := by rw [hW]; simpa using Blk.new (w.alloc (.cells (lv a0) 41)) 41 (lv Lab.zero)
  have hEW : Ext w W := by rw [hW]; exact (Ext.of_alloc w _).alloc _
  go_wp2_with fail
  rw [← hW]
  clear hW
  go_loopw [6, 9] (fun s6 s9 wr => ∃ k : Nat, k ≤ es.length ∧ s9 = .int .i64 k ∧ Ext w wr ∧ Blk wr w.heap.size 41 (lv (a0.meet (es.take k))) ∧ Blk wr (w.heap.size + 1) 41 (lv Lab.zero)) (fun s6 s9 _ => es.length - (intOf s9).toNat)
  case atStart => exact ⟨0, by omega, rfl, hEW, b2, b4⟩
  case round =>
    clear b2 b4 hEW
    obtain ⟨k, hk, rfl, hEr, b2, b4⟩ := hrel
    by_cases hlt : k < es.length
    · obtain ⟨a, rfl, hc1, hc2⟩ := At.facts (hA.ext hEr) (i := k) (by simpa using hlt)
      rw [List.getElem_map] at hc2
      have hstep : a0.meet (es.take (k + 1)) = (a0.meet (es.take k)).meet1 es[k] := by rw [List.take_succ_eq_append_getElem hlt, Lab.meet, List.foldl_append]; rfl
      have Hstep := Lib.hid hstep; clear hstep
      generalize a0.meet (es.take k) = d at *
      generalize es[k] = x at *
      have hlt4 := b4.lt
      go_wp2_with fail
      obtain ⟨X, hX⟩ : ∃ X, X = (wr.alloc (Obj.cells (lv Lab.zero) 41)).setRow wr.heap.size (lv x) := ⟨_, rfl⟩
      rw [← hX]
      have hEX : Ext wr X := by rw [hX]; exact (Ext.of_alloc wr _).setRow (Nat.le_refl _) _
      have b6 : Blk X wr.heap.size 41 (lv x) := by rw [hX]; exact (Blk.new wr _ _).setRow _
      have hEr2 := hEr.trans hEX
      have b2 := b2.ext hEX
      have b4 := b4.ext hEX
      clear hX hc1 hc2
      refine wp_region_by (R := Ext) [([(2, none)], none), ([(13, some 0)], none), ([(6, none)], none), ([(15, some 2)], none), ([(14, some 1), (16, some 3)], none), ([(2, none)], none), ([(18, some 5)], none), ([(6, none)], none), ([(20, some 7)], none), ([(21, some 8)], none), ([(19, some 6), (22, some 9)], none)]
        [Sp.ex ?r1v0, Sp.ex ?r1v1, Sp.ex ?r1v2, Sp.ex ?r1v3, Sp.ex ?r1v4, Sp.ex ?r1v5, Sp.ex ?r1v6, Sp.ex ?r1v7, Sp.ex ?r1v8, Sp.un (PSl 30 [cv x.cats]) true, Sp.ex ?r1v10]
        (by kernel_rfl) (fun _ _ _ h1 h2 => h1.trans h2) (fun _ _ h => h.size) (Ext.refl _) rfl (by kernel_rfl) ?r1st (And.intro ?r1o0 (And.intro ?r1o1 (And.intro ?r1o2 (And.intro ?r1o3 (And.intro ?r1o4 (And.intro ?r1o5 (And.intro ?r1o6 (And.intro ?r1o7 (And.intro ?r1o8 (And.intro ?r1o9 (And.intro ?r1o10 trivial))))))))))) ?r1fin
      case r1o0 | r1o1 | r1o2 | r1o3 | r1o4 | r1o5 | r1o6 | r1o7 | r1o8 =>
        intro a w1 K hR hE hK; simp [go_sem, EnvF, Sp.says, mk, Act.eval] at hE; obtain ⟨f1, f2, f3, ⟨f4, f5⟩, f6⟩ := lab_facts (b2.drew.ext hR); obtain ⟨g1, g2, g3, ⟨g4, g5⟩, g6⟩ := lab_facts (b6.drew.ext hR); dsimp only [Runs]; go_simp; try go_bits
        go_wp2_with fail
        exact hK _ (Ext.refl _)
      case r1o9 =>
        intro a w1 K hR hE hK; simp [go_sem, EnvF, Sp.says, mk, Act.eval] at hE; obtain ⟨f1, f2, f3, ⟨f4, f5⟩, f6⟩ := lab_facts (b2.drew.ext hR); obtain ⟨g1, g2, g3, ⟨g4, g5⟩, g6⟩ := lab_facts (b6.drew.ext hR); dsimp only [Runs]; go_simp; try go_bits
        go_wp2_with fail
        exact hK _ _ (Ext.of_alloc _ _) (Sl.many w1 _ (es := [cv x.cats]) (by simp [cv_size])) (fun _ => Fr.slice _ _ _ _)
      case r1o10 =>
        intro a w1 K hR hE hK; simp [go_sem, EnvF, Sp.says, mk, Act.eval] at hE; obtain ⟨f1, f2, f3, ⟨f4, f5⟩, f6⟩ := lab_facts (b2.drew.ext hR); obtain ⟨g1, g2, g3, ⟨g4, g5⟩, g6⟩ := lab_facts (b6.drew.ext hR); dsimp only [Runs]; go_simp; try go_bits
        go_wp2_with fail
        obtain ⟨hE1, A', cap', hv, hAt⟩ := hE; rw [hv]; refine (meet_w d.cats [x.cats] A' cap' _ (by simp) hAt).mono ?_; rintro e w' ⟨rfl, hx⟩; exact hK _ hx
      case r1st => simp only [StOk]; exact ⟨PSl.st, trivial⟩
      case r1fin =>
        simp only [FinR, mk, Act.put, List.length_cons, List.length_nil, Nat.reduceAdd, Nat.zero_add, List.drop_succ_cons, List.drop_zero, List.setIfInBounds_toArray, List.set_cons_succ, List.set_cons_zero]
        intro v w9 hR hF _
        have hR2 := (Ext.refl X).drew.trans hR
        obtain ⟨f1, f2, f3, f4⟩ := (b2.ext hR2).facts 31 (lv_size _)
        go_wp2_with fail
        refine ⟨⟨k + 1, by omega, by go_num, (hEr2.trans hR2).setRow (Nat.le_refl _) _, by rw [Hstep.out]; exact (b2.ext hR2).setRow _, (b4.ext hR2).farRow (by omega) _⟩, ?_⟩
        simp [intOf]; omega
    · obtain rfl : k = es.length := by omega
      rw [List.take_length] at b2
      obtain ⟨f1, f2, f3, f4⟩ := b2.facts 31 (lv_size _)
      obtain ⟨g1, g2, g3, g4⟩ := b4.facts 31 (lv_size _)
      go_wp2_with fail
      exact ret_cell Tryd.underlying41 rfl i41 rfl (w.heap.size + 1) _ rfl (by simp [go_sem, *]) (by simp [go_sem, *]) rfl ⟨rfl, hEr.setRow (by simp) _⟩
end Go.Proofs.YtpgpfcdkkhfemaaDoor
