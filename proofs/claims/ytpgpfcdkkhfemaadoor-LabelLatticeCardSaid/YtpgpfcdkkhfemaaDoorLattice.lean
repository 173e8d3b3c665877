/- gueritelaw09.LabelLattice answers true at any three labels, and leaves what lay in memory as it was. -/
import Derived.Test.YtpgpfcdkkhfemaaDoorWLab4
import Derived.Deep.DeepCutAuto
open Go.RowKit Go.Reg Go.Gu
namespace Go.Proofs.YtpgpfcdkkhfemaaDoor
set_option linter.unusedSimpArgs false
set_option linter.unusedVariables false
set_option maxHeartbeats 1000000
@[go_sem] theorem latt_beq (c : Lab) : (c == c) = true := by simp
@[go_sem] theorem latt_bool (b : Bool) : (b == b) = true := by simp
/-- What a guarded operation yields, if it runs. -/
def PIf (p : Bool) (u : Value) : Value → World → Prop := fun v _ => p = true → v = u
theorem PIf.st {p u} : ∀ v w w', PIf p u v w → Ext w w' → PIf p u v w' := fun _ _ _ h _ => h
set_option maxRecDepth 100000 in
theorem lattice_w (x y z : Lab) (w : World) (ht : TabOk w) (hv : VarsOk w) : Calls Tryd.prog 13 #[.agg (lv x), .agg (lv y), .agg (lv z)] w fun e w' => e = .returned (.bool true) ∧ Ext w w' := by
  obtain ⟨W, hW⟩ : ∃ W, W = ((w.alloc (.cells (lv x) 41)).alloc (.cells (lv y) 41)).alloc (.cells (lv z) 41) := ⟨_, rfl⟩
  have b3 : Blk W w.heap.size 41 (lv x) := by rw [hW]; exact ((Blk.new w _ _).alloc _).alloc _
  have b4 : Blk W (w.heap.size + 1) 41 (lv y) := by rw [hW]; refine Blk.alloc ?_ _; simpa using Blk.new (w.alloc (.cells (lv x) 41)) 41 (lv y)
  have b5 : Blk W (w.heap.size + 1 + 1) 41 (lv z) := by rw [hW]; simpa using Blk.new ((w.alloc (.cells (lv x) 41)).alloc (.cells (lv y) 41)) 41 (lv z)
  have ltW := b5.lt
  have hEW : Ext w W := by rw [hW]; exact ((Ext.of_alloc w _).alloc _).alloc _
  go_enter Tryd.func13, Tryd.ntmps13
  go_wp2_with fail
  rw [← hW]
  clear hW
  obtain ⟨j, hj⟩ : ∃ j, x.join1 y = j := ⟨_, rfl⟩
  obtain ⟨m, hm⟩ : ∃ m, x.meet1 y = m := ⟨_, rfl⟩
  have k1 : j.dom x = true := by rw [← hj]; exact Lab.dom_join_l x y
  have k2 : j.dom y = true := by rw [← hj]; exact Lab.dom_join_r x y
  have k3 : x.dom m = true := by rw [← hm]; exact Lab.dom_meet_l x y
  have k4 : y.dom m = true := by rw [← hm]; exact Lab.dom_meet_r x y
  have k5 : z.dom j = (z.dom x && z.dom y) := by rw [← hj, Lab.dom_join]
  have k6 : m.dom z = (x.dom z && y.dom z) := by rw [← hm, Lab.dom_meet]
  have k7 : x.join [y, z] = z.join [j] := by rw [← hj]; exact Lab.join_three x y z
  have k8 : x.meet [y, z] = z.meet [m] := by rw [← hm]; exact Lab.meet_three x y z
  have k9 : x.meet [j] = x := by rw [← hj]; exact Lab.meet_join x y
  have k10 : x.join [m] = x := by rw [← hm]; exact Lab.join_meet x y
  have k11 : x.join [] = x := rfl
  have k12 : x.join [y] = j := hj
  have k13 : x.meet [y] = m := hm
  have K1 := Lib.hid k1; clear k1
  have K2 := Lib.hid k2; clear k2
  have K3 := Lib.hid k3; clear k3
  have K4 := Lib.hid k4; clear k4
  have K5 := Lib.hid k5; clear k5
  have K6 := Lib.hid k6; clear k6
  have K7 := Lib.hid k7; clear k7
  have K8 := Lib.hid k8; clear k8
  have K9 := Lib.hid k9; clear k9
  have K10 := Lib.hid k10; clear k10
  have K11 := Lib.hid k11; clear k11
  have K12 := Lib.hid k12; clear k12
  have K13 := Lib.hid k13; clear k13
  clear hj hm
  refine wp_region_by (R := Ext) [([(3, none)], none), ([(4, none)], none), ([(10, some 1)], none), ([(9, some 0), (11, some 2)], none), ([(3, none)], none), ([(4, none)], none), ([(14, some 5)], none), ([(13, some 4), (15, some 6)], none), ([], none), ([], none)]
    [Sp.ex ?r3v0, Sp.ex ?r3v1, Sp.un (PSl 31 [lv y]) true, Sp.ex ?r3v3, Sp.ex ?r3v4, Sp.ex ?r3v5, Sp.un (PSl 31 [lv y]) true, Sp.ex ?r3v7, Sp.un (PBlk 41 (lv Lab.zero)) true, Sp.un (PBlk 41 (lv Lab.zero)) true]
    (by kernel_rfl) (fun _ _ _ h1 h2 => h1.trans h2) (fun _ _ h => h.size) (Ext.refl _) rfl (by kernel_rfl) ?r3st (And.intro ?r3o0 (And.intro ?r3o1 (And.intro ?r3o2 (And.intro ?r3o3 (And.intro ?r3o4 (And.intro ?r3o5 (And.intro ?r3o6 (And.intro ?r3o7 (And.intro ?r3o8 (And.intro ?r3o9 trivial)))))))))) ?r3fin
  case r3o0 | r3o1 =>
    intro a w1 K hR hE hK; simp [go_sem, EnvF, Sp.says, mk, Act.eval] at hE; obtain ⟨f1, f2, f3, f4⟩ := (b3.drew.ext hR).facts 31 (lv_size _); obtain ⟨g1, g2, g3, g4⟩ := (b4.drew.ext hR).facts 31 (lv_size _); dsimp only [Runs]; go_simp; try go_bits
    go_wp2_with fail
    exact hK _ (Ext.refl _)
  case r3o2 =>
    intro a w1 K hR hE hK; simp [go_sem, EnvF, Sp.says, mk, Act.eval] at hE; obtain ⟨f1, f2, f3, f4⟩ := (b3.drew.ext hR).facts 31 (lv_size _); obtain ⟨g1, g2, g3, g4⟩ := (b4.drew.ext hR).facts 31 (lv_size _); dsimp only [Runs]; go_simp; try go_bits
    go_wp2_with fail
    exact hK _ _ (Ext.of_alloc _ _) (Sl.many w1 _ (es := [lv y]) (by simp [lv_size])) (fun _ => Fr.slice _ _ _ _)
  case r3o3 =>
    intro a w1 K hR hE hK; simp [go_sem, EnvF, Sp.says, mk, Act.eval] at hE; obtain ⟨f1, f2, f3, f4⟩ := (b3.drew.ext hR).facts 31 (lv_size _); obtain ⟨g1, g2, g3, g4⟩ := (b4.drew.ext hR).facts 31 (lv_size _); dsimp only [Runs]; go_simp; try go_bits
    go_wp2_with fail
    obtain ⟨hE1, A', cap', hv', hAt⟩ := hE; rw [hv']; refine (ljoin_w x [y] A' cap' _ (by simp) hAt).mono ?_; rintro e w' ⟨rfl, hx⟩; rw [K12.out]; exact hK _ hx
  case r3o4 | r3o5 =>
    intro a w1 K hR hE hK; simp [go_sem, EnvF, Sp.says, mk, Act.eval] at hE; obtain ⟨f1, f2, f3, f4⟩ := (b3.drew.ext hR).facts 31 (lv_size _); obtain ⟨g1, g2, g3, g4⟩ := (b4.drew.ext hR).facts 31 (lv_size _); dsimp only [Runs]; go_simp; try go_bits
    go_wp2_with fail
    exact hK _ (Ext.refl _)
  case r3o6 =>
    intro a w1 K hR hE hK; simp [go_sem, EnvF, Sp.says, mk, Act.eval] at hE; obtain ⟨f1, f2, f3, f4⟩ := (b3.drew.ext hR).facts 31 (lv_size _); obtain ⟨g1, g2, g3, g4⟩ := (b4.drew.ext hR).facts 31 (lv_size _); dsimp only [Runs]; go_simp; try go_bits
    go_wp2_with fail
    exact hK _ _ (Ext.of_alloc _ _) (Sl.many w1 _ (es := [lv y]) (by simp [lv_size])) (fun _ => Fr.slice _ _ _ _)
  case r3o7 =>
    intro a w1 K hR hE hK; simp [go_sem, EnvF, Sp.says, mk, Act.eval] at hE; obtain ⟨f1, f2, f3, f4⟩ := (b3.drew.ext hR).facts 31 (lv_size _); obtain ⟨g1, g2, g3, g4⟩ := (b4.drew.ext hR).facts 31 (lv_size _); dsimp only [Runs]; go_simp; try go_bits
    go_wp2_with fail
    obtain ⟨hE1, A', cap', hv', hAt⟩ := hE; rw [hv']; refine (lmeet_w x [y] A' cap' _ (by simp) hAt).mono ?_; rintro e w' ⟨rfl, hx⟩; rw [K13.out]; exact hK _ hx
  case r3o8 =>
    intro a w1 K hR hE hK; simp [go_sem, EnvF, Sp.says, mk, Act.eval] at hE; obtain ⟨f1, f2, f3, f4⟩ := (b3.drew.ext hR).facts 31 (lv_size _); obtain ⟨g1, g2, g3, g4⟩ := (b4.drew.ext hR).facts 31 (lv_size _); dsimp only [Runs]; go_simp; try go_bits
    go_wp2_with fail
    exact hK _ _ (Ext.of_alloc _ _) ⟨_, rfl, Blk.new _ _ _⟩ (fun _ => Fr.ptr _ _)
  case r3o9 =>
    intro a w1 K hR hE hK; simp [go_sem, EnvF, Sp.says, mk, Act.eval] at hE; obtain ⟨f1, f2, f3, f4⟩ := (b3.drew.ext hR).facts 31 (lv_size _); obtain ⟨g1, g2, g3, g4⟩ := (b4.drew.ext hR).facts 31 (lv_size _); dsimp only [Runs]; go_simp; try go_bits
    go_wp2_with fail
    exact hK _ _ (Ext.of_alloc _ _) ⟨_, rfl, Blk.new _ _ _⟩ (fun _ => Fr.ptr _ _)
  case r3st => simp only [StOk]; exact ⟨PSl.st, PSl.st, PBlk.st, PBlk.st, trivial⟩
  case r3fin =>
    simp only [FinR, mk, Act.put, List.length_cons, List.length_nil, Nat.reduceAdd, Nat.zero_add, List.drop_succ_cons, List.drop_zero, List.setIfInBounds_toArray, List.set_cons_succ, List.set_cons_zero]
    intro v1 v2 v3 v4 w1 hR hF hAp
    obtain ⟨⟨_, gu, hv3, hU⟩, gm, hv4, hM⟩ := hF
    rw [hv3, hv4] at hAp
    simp only [↓reduceIte] at hAp
    rw [hv3, hv4]
    obtain ⟨hA4, hA43, hA3, _⟩ := hAp
    obtain ⟨hm1, hm2⟩ := hA4 gm rfl
    obtain ⟨hu1, hu2⟩ := hA3 gu rfl
    have hne : gm ≠ gu := fun e => hA43 (.pointer (some ⟨gu, 0, none⟩)) (by simp) gm rfl (by rw [e]; rfl)
    have hne' : gu ≠ gm := fun e => hne e.symm
    have hsz : W.drew.heap.size = W.heap.size := rfl
    rw [hsz] at hm1 hu1
    clear hA4 hA43 hA3 hv3 hv4 hsz
    have hR1 := (Ext.refl W).drew.trans hR
    have b3 := b3.ext hR1
    have b4 := b4.ext hR1
    have b5 := b5.ext hR1
    have lt5 := b5.lt
    obtain ⟨f1, f2, f3, f4⟩ := hU.facts 31 (lv_size _)
    obtain ⟨g1, g2, g3, g4⟩ := hM.facts 31 (lv_size _)
    go_upto_region 2 with (fail)
    obtain ⟨Y, hY⟩ : ∃ Y, Y = (w1.setRow gu (lv j)).setRow gm (lv m) := ⟨_, rfl⟩
    have hEY : Ext W Y := by rw [hY]; exact (hR1.setRow hu1 _).setRow hm1 _
    have b3 : Blk Y w.heap.size 41 (lv x) := by rw [hY]; exact (b3.farRow (by omega) _).farRow (by omega) _
    have b4 : Blk Y (w.heap.size + 1) 41 (lv y) := by rw [hY]; exact (b4.farRow (by omega) _).farRow (by omega) _
    have b5 : Blk Y (w.heap.size + 1 + 1) 41 (lv z) := by rw [hY]; exact (b5.farRow (by omega) _).farRow (by omega) _
    have b7 : Blk Y gu 41 (lv j) := by rw [hY]; exact (hU.setRow _).farRow hne' _
    have b8 : Blk Y gm 41 (lv m) := by rw [hY]; exact (hM.farRow hne _).setRow _
    have hEY := hEW.trans hEY
    rw [← hY]
    clear hY f1 f2 f3 f4 g1 g2 g3 g4 hU hM hR1 hR hne hne' hm1 hm2 hu1 hu2 lt5
    obtain ⟨c1, c2, c3, c4⟩ := b3.facts 31 (lv_size _)
    obtain ⟨d1, d2, d3, d4⟩ := b4.facts 31 (lv_size _)
    obtain ⟨f1, f2, f3, f4⟩ := b7.facts 31 (lv_size _)
    obtain ⟨g1, g2, g3, g4⟩ := b8.facts 31 (lv_size _)
    go_wp2_with (go_at_call 59; refine (dom_w _ _ _).mono ?_; rintro e w' ⟨rfl, hx⟩; (first | rw [K1.out] | rw [K2.out] | rw [K3.out] | rw [K4.out]); have hEY := hEY.trans hx; have b3 := b3.ext hx; have b4 := b4.ext hx; have b5 := b5.ext hx; have b7 := b7.ext hx; have b8 := b8.ext hx; clear c1 c2 c3 c4 d1 d2 d3 d4 f1 f2 f3 f4 g1 g2 g3 g4 hx; obtain ⟨c1, c2, c3, c4⟩ := b3.facts 31 (lv_size _); obtain ⟨d1, d2, d3, d4⟩ := b4.facts 31 (lv_size _); obtain ⟨f1, f2, f3, f4⟩ := b7.facts 31 (lv_size _); obtain ⟨g1, g2, g3, g4⟩ := b8.facts 31 (lv_size _))
    clear c1 c2 c3 c4 d1 d2 d3 d4 f1 f2 f3 f4 g1 g2 g3 g4
    obtain ⟨p, hp⟩ : ∃ b, z.dom x = b := ⟨_, rfl⟩
    obtain ⟨q, hq⟩ : ∃ b, z.dom y = b := ⟨_, rfl⟩
    obtain ⟨p2, hp2⟩ : ∃ b, x.dom z = b := ⟨_, rfl⟩
    obtain ⟨q2, hq2⟩ : ∃ b, y.dom z = b := ⟨_, rfl⟩
    have k5 := K5.out
    have k6 := K6.out
    rw [hp, hq] at k5
    rw [hp2, hq2] at k6
    clear K5 K6
    have Hp := Lib.hid hp; clear hp
    have Hq := Lib.hid hq; clear hq
    have Hp2 := Lib.hid hp2; clear hp2
    have Hq2 := Lib.hid hq2; clear hq2
    have K5 := Lib.hid k5; clear k5
    have K6 := Lib.hid k6; clear k6
    refine wp_region_by (R := Ext) [([(5, none)], none), ([(3, none)], none), ([(39, some 0), (40, some 1)], none), ([(41, some 2)], none), ([(5, none), (42, some 3)], some (42, true)), ([(4, none), (42, some 3)], some (42, true)), ([(43, some 4), (44, some 5), (42, some 3)], some (42, true)), ([(42, some 3), (45, some 6)], none), ([(5, none)], none), ([(7, none)], none), ([(47, some 8), (48, some 9)], none), ([(46, some 7), (49, some 10)], none), ([(50, some 11)], none), ([(3, none), (51, some 12)], some (51, false)), ([(5, none), (51, some 12)], some (51, false)), ([(52, some 13), (53, some 14), (51, some 12)], some (51, false)), ([(54, some 15), (51, some 12)], some (51, false)), ([(4, none), (55, some 16)], some (55, true)), ([(5, none), (55, some 16)], some (55, true)), ([(56, some 17), (57, some 18), (55, some 16)], some (55, true)), ([(55, some 16), (58, some 19), (51, some 12)], some (51, false)), ([(8, none), (51, some 12)], some (51, false)), ([(5, none), (51, some 12)], some (51, false)), ([(60, some 21), (61, some 22), (51, some 12)], some (51, false))]
      [Sp.ex ?r2v0, Sp.ex ?r2v1, Sp.ex ?r2v2, Sp.ex ?r2v3, Sp.un (PIf p (.agg (lv z))) false, Sp.un (PIf p (.agg (lv y))) false, Sp.un (PIf p (.bool q)) false, Sp.ex (.bool (p && q)), Sp.ex ?r2v8, Sp.ex ?r2v9, Sp.ex ?r2v10, Sp.ex ?r2v11, Sp.ex ?r2v12, Sp.ex ?r2v13, Sp.ex ?r2v14, Sp.ex ?r2v15, Sp.ex ?r2v16, Sp.un (PIf p2 (.agg (lv y))) false, Sp.un (PIf p2 (.agg (lv z))) false, Sp.un (PIf p2 (.bool q2)) false, Sp.ex (.bool (p2 && q2)), Sp.ex ?r2v21, Sp.ex ?r2v22, Sp.ex ?r2v23]
      (by kernel_rfl) (fun _ _ _ h1 h2 => h1.trans h2) (fun _ _ h => h.size) (Ext.refl _) rfl (by kernel_rfl) ?r2st (And.intro ?r2o0 (And.intro ?r2o1 (And.intro ?r2o2 (And.intro ?r2o3 (And.intro ?r2o4 (And.intro ?r2o5 (And.intro ?r2o6 (And.intro ?r2o7 (And.intro ?r2o8 (And.intro ?r2o9 (And.intro ?r2o10 (And.intro ?r2o11 (And.intro ?r2o12 (And.intro ?r2o13 (And.intro ?r2o14 (And.intro ?r2o15 (And.intro ?r2o16 (And.intro ?r2o17 (And.intro ?r2o18 (And.intro ?r2o19 (And.intro ?r2o20 (And.intro ?r2o21 (And.intro ?r2o22 (And.intro ?r2o23 trivial)))))))))))))))))))))))) ?r2fin
    case r2o0 | r2o1 =>
      intro a w1 K hR hE hK; simp [go_sem, EnvF, Sp.says, mk, Act.eval] at hE; obtain ⟨c1, c2, c3, c4⟩ := (b3.drew.ext hR).facts 31 (lv_size _); obtain ⟨d1, d2, d3, d4⟩ := (b4.drew.ext hR).facts 31 (lv_size _); obtain ⟨e1, e2, e3, e4⟩ := (b5.drew.ext hR).facts 31 (lv_size _); obtain ⟨f1, f2, f3, f4⟩ := (b7.drew.ext hR).facts 31 (lv_size _); obtain ⟨g1, g2, g3, g4⟩ := (b8.drew.ext hR).facts 31 (lv_size _); dsimp only [Runs]; go_simp; try go_bits
      go_wp2_with fail
      exact hK _ (Ext.refl _)
    case r2o2 =>
      intro a w1 K hR hE hK; simp [go_sem, EnvF, Sp.says, mk, Act.eval] at hE; obtain ⟨c1, c2, c3, c4⟩ := (b3.drew.ext hR).facts 31 (lv_size _); obtain ⟨d1, d2, d3, d4⟩ := (b4.drew.ext hR).facts 31 (lv_size _); obtain ⟨e1, e2, e3, e4⟩ := (b5.drew.ext hR).facts 31 (lv_size _); obtain ⟨f1, f2, f3, f4⟩ := (b7.drew.ext hR).facts 31 (lv_size _); obtain ⟨g1, g2, g3, g4⟩ := (b8.drew.ext hR).facts 31 (lv_size _); dsimp only [Runs]; go_simp; try go_bits
      go_wp2_with fail
      refine (dom_w z x _).mono ?_; rintro e w' ⟨rfl, hx⟩; rw [Hp.out]; exact hK _ hx
    case r2o3 =>
      intro a w1 K hR hE hK; simp [go_sem, EnvF, Sp.says, mk, Act.eval] at hE; obtain ⟨c1, c2, c3, c4⟩ := (b3.drew.ext hR).facts 31 (lv_size _); obtain ⟨d1, d2, d3, d4⟩ := (b4.drew.ext hR).facts 31 (lv_size _); obtain ⟨e1, e2, e3, e4⟩ := (b5.drew.ext hR).facts 31 (lv_size _); obtain ⟨f1, f2, f3, f4⟩ := (b7.drew.ext hR).facts 31 (lv_size _); obtain ⟨g1, g2, g3, g4⟩ := (b8.drew.ext hR).facts 31 (lv_size _); dsimp only [Runs]; go_simp; try go_bits
      go_wp2_with fail
      exact hK _ (Ext.refl _)
    case r2o4 =>
      intro a w1 K hR hE hK; simp [go_sem, EnvF, Sp.says, mk, Act.eval] at hE; obtain ⟨c1, c2, c3, c4⟩ := (b3.drew.ext hR).facts 31 (lv_size _); obtain ⟨d1, d2, d3, d4⟩ := (b4.drew.ext hR).facts 31 (lv_size _); obtain ⟨e1, e2, e3, e4⟩ := (b5.drew.ext hR).facts 31 (lv_size _); obtain ⟨f1, f2, f3, f4⟩ := (b7.drew.ext hR).facts 31 (lv_size _); obtain ⟨g1, g2, g3, g4⟩ := (b8.drew.ext hR).facts 31 (lv_size _); dsimp only [Runs]; go_simp; try go_bits
      go_wp2_with fail
      all_goals (first | exact hK _ _ (Ext.refl _) (fun _ => rfl) (fun h => by cases h) | exact hK _ _ (Ext.refl _) (fun h => absurd h (by assumption)) (fun h => by cases h))
    case r2o5 =>
      intro a w1 K hR hE hK; simp [go_sem, EnvF, Sp.says, mk, Act.eval] at hE; obtain ⟨c1, c2, c3, c4⟩ := (b3.drew.ext hR).facts 31 (lv_size _); obtain ⟨d1, d2, d3, d4⟩ := (b4.drew.ext hR).facts 31 (lv_size _); obtain ⟨e1, e2, e3, e4⟩ := (b5.drew.ext hR).facts 31 (lv_size _); obtain ⟨f1, f2, f3, f4⟩ := (b7.drew.ext hR).facts 31 (lv_size _); obtain ⟨g1, g2, g3, g4⟩ := (b8.drew.ext hR).facts 31 (lv_size _); dsimp only [Runs]; go_simp; try go_bits
      go_wp2_with fail
      all_goals (first | exact hK _ _ (Ext.refl _) (fun _ => rfl) (fun h => by cases h) | exact hK _ _ (Ext.refl _) (fun h => absurd h (by assumption)) (fun h => by cases h))
    case r2o6 =>
      intro a w1 K hR hE hK; simp [go_sem, EnvF, Sp.says, mk, Act.eval] at hE; obtain ⟨c1, c2, c3, c4⟩ := (b3.drew.ext hR).facts 31 (lv_size _); obtain ⟨d1, d2, d3, d4⟩ := (b4.drew.ext hR).facts 31 (lv_size _); obtain ⟨e1, e2, e3, e4⟩ := (b5.drew.ext hR).facts 31 (lv_size _); obtain ⟨f1, f2, f3, f4⟩ := (b7.drew.ext hR).facts 31 (lv_size _); obtain ⟨g1, g2, g3, g4⟩ := (b8.drew.ext hR).facts 31 (lv_size _); dsimp only [Runs]; go_simp; try go_bits
      go_wp2_with fail
      all_goals first | (rcases hE with ⟨h1, h2, h3⟩; rw [h1 (by assumption), h2 (by assumption)]; refine (dom_w z y _).mono ?_; rintro e w' ⟨rfl, hx⟩; rw [Hq.out]; exact hK _ _ hx (fun _ => rfl) (fun h => by cases h)) | exact hK _ _ (Ext.refl _) (fun h => absurd h (by assumption)) (fun h => by cases h)
    case r2o7 =>
      intro a w1 K hR hE hK; simp [go_sem, EnvF, Sp.says, mk, Act.eval] at hE; obtain ⟨c1, c2, c3, c4⟩ := (b3.drew.ext hR).facts 31 (lv_size _); obtain ⟨d1, d2, d3, d4⟩ := (b4.drew.ext hR).facts 31 (lv_size _); obtain ⟨e1, e2, e3, e4⟩ := (b5.drew.ext hR).facts 31 (lv_size _); obtain ⟨f1, f2, f3, f4⟩ := (b7.drew.ext hR).facts 31 (lv_size _); obtain ⟨g1, g2, g3, g4⟩ := (b8.drew.ext hR).facts 31 (lv_size _); dsimp only [Runs]; go_simp; try go_bits
      go_wp2_with fail
      all_goals (have hk2 := hK w1 (Ext.refl _); first | (have h0 : p = true := (by assumption); have h2 : a.tmps[45]?.getD undef = .bool q := hE.2 h0; rw [h2]; rw [show (p && q) = q from by simp [h0]] at hk2; exact hk2) | (have h0 : p = false := Bool.eq_false_iff.2 (by assumption); rw [show (p && q) = false from by simp [h0]] at hk2; exact hk2))
    case r2o8 | r2o9 =>
      intro a w1 K hR hE hK; simp [go_sem, EnvF, Sp.says, mk, Act.eval] at hE; obtain ⟨c1, c2, c3, c4⟩ := (b3.drew.ext hR).facts 31 (lv_size _); obtain ⟨d1, d2, d3, d4⟩ := (b4.drew.ext hR).facts 31 (lv_size _); obtain ⟨e1, e2, e3, e4⟩ := (b5.drew.ext hR).facts 31 (lv_size _); obtain ⟨f1, f2, f3, f4⟩ := (b7.drew.ext hR).facts 31 (lv_size _); obtain ⟨g1, g2, g3, g4⟩ := (b8.drew.ext hR).facts 31 (lv_size _); dsimp only [Runs]; go_simp; try go_bits
      go_wp2_with fail
      exact hK _ (Ext.refl _)
    case r2o10 =>
      intro a w1 K hR hE hK; simp [go_sem, EnvF, Sp.says, mk, Act.eval] at hE; obtain ⟨c1, c2, c3, c4⟩ := (b3.drew.ext hR).facts 31 (lv_size _); obtain ⟨d1, d2, d3, d4⟩ := (b4.drew.ext hR).facts 31 (lv_size _); obtain ⟨e1, e2, e3, e4⟩ := (b5.drew.ext hR).facts 31 (lv_size _); obtain ⟨f1, f2, f3, f4⟩ := (b7.drew.ext hR).facts 31 (lv_size _); obtain ⟨g1, g2, g3, g4⟩ := (b8.drew.ext hR).facts 31 (lv_size _); dsimp only [Runs]; go_simp; try go_bits
      go_wp2_with fail
      refine (dom_w z j _).mono ?_; rintro e w' ⟨rfl, hx⟩; rw [K5.out]; exact hK _ hx
    case r2o11 | r2o12 | r2o13 | r2o14 =>
      intro a w1 K hR hE hK; simp [go_sem, EnvF, Sp.says, mk, Act.eval] at hE; obtain ⟨c1, c2, c3, c4⟩ := (b3.drew.ext hR).facts 31 (lv_size _); obtain ⟨d1, d2, d3, d4⟩ := (b4.drew.ext hR).facts 31 (lv_size _); obtain ⟨e1, e2, e3, e4⟩ := (b5.drew.ext hR).facts 31 (lv_size _); obtain ⟨f1, f2, f3, f4⟩ := (b7.drew.ext hR).facts 31 (lv_size _); obtain ⟨g1, g2, g3, g4⟩ := (b8.drew.ext hR).facts 31 (lv_size _); dsimp only [Runs]; go_simp; try go_bits
      go_wp2_with fail
      exact hK _ (Ext.refl _)
    case r2o15 =>
      intro a w1 K hR hE hK; simp [go_sem, EnvF, Sp.says, mk, Act.eval] at hE; obtain ⟨c1, c2, c3, c4⟩ := (b3.drew.ext hR).facts 31 (lv_size _); obtain ⟨d1, d2, d3, d4⟩ := (b4.drew.ext hR).facts 31 (lv_size _); obtain ⟨e1, e2, e3, e4⟩ := (b5.drew.ext hR).facts 31 (lv_size _); obtain ⟨f1, f2, f3, f4⟩ := (b7.drew.ext hR).facts 31 (lv_size _); obtain ⟨g1, g2, g3, g4⟩ := (b8.drew.ext hR).facts 31 (lv_size _); dsimp only [Runs]; go_simp; try go_bits
      go_wp2_with fail
      refine (dom_w x z _).mono ?_; rintro e w' ⟨rfl, hx⟩; rw [Hp2.out]; exact hK _ hx
    case r2o16 =>
      intro a w1 K hR hE hK; simp [go_sem, EnvF, Sp.says, mk, Act.eval] at hE; obtain ⟨c1, c2, c3, c4⟩ := (b3.drew.ext hR).facts 31 (lv_size _); obtain ⟨d1, d2, d3, d4⟩ := (b4.drew.ext hR).facts 31 (lv_size _); obtain ⟨e1, e2, e3, e4⟩ := (b5.drew.ext hR).facts 31 (lv_size _); obtain ⟨f1, f2, f3, f4⟩ := (b7.drew.ext hR).facts 31 (lv_size _); obtain ⟨g1, g2, g3, g4⟩ := (b8.drew.ext hR).facts 31 (lv_size _); dsimp only [Runs]; go_simp; try go_bits
      go_wp2_with fail
      exact hK _ (Ext.refl _)
    case r2o17 =>
      intro a w1 K hR hE hK; simp [go_sem, EnvF, Sp.says, mk, Act.eval] at hE; obtain ⟨c1, c2, c3, c4⟩ := (b3.drew.ext hR).facts 31 (lv_size _); obtain ⟨d1, d2, d3, d4⟩ := (b4.drew.ext hR).facts 31 (lv_size _); obtain ⟨e1, e2, e3, e4⟩ := (b5.drew.ext hR).facts 31 (lv_size _); obtain ⟨f1, f2, f3, f4⟩ := (b7.drew.ext hR).facts 31 (lv_size _); obtain ⟨g1, g2, g3, g4⟩ := (b8.drew.ext hR).facts 31 (lv_size _); dsimp only [Runs]; go_simp; try go_bits
      go_wp2_with fail
      all_goals (first | exact hK _ _ (Ext.refl _) (fun _ => rfl) (fun h => by cases h) | exact hK _ _ (Ext.refl _) (fun h => absurd h (by assumption)) (fun h => by cases h))
    case r2o18 =>
      intro a w1 K hR hE hK; simp [go_sem, EnvF, Sp.says, mk, Act.eval] at hE; obtain ⟨c1, c2, c3, c4⟩ := (b3.drew.ext hR).facts 31 (lv_size _); obtain ⟨d1, d2, d3, d4⟩ := (b4.drew.ext hR).facts 31 (lv_size _); obtain ⟨e1, e2, e3, e4⟩ := (b5.drew.ext hR).facts 31 (lv_size _); obtain ⟨f1, f2, f3, f4⟩ := (b7.drew.ext hR).facts 31 (lv_size _); obtain ⟨g1, g2, g3, g4⟩ := (b8.drew.ext hR).facts 31 (lv_size _); dsimp only [Runs]; go_simp; try go_bits
      go_wp2_with fail
      all_goals (first | exact hK _ _ (Ext.refl _) (fun _ => rfl) (fun h => by cases h) | exact hK _ _ (Ext.refl _) (fun h => absurd h (by assumption)) (fun h => by cases h))
    case r2o19 =>
      intro a w1 K hR hE hK; simp [go_sem, EnvF, Sp.says, mk, Act.eval] at hE; obtain ⟨c1, c2, c3, c4⟩ := (b3.drew.ext hR).facts 31 (lv_size _); obtain ⟨d1, d2, d3, d4⟩ := (b4.drew.ext hR).facts 31 (lv_size _); obtain ⟨e1, e2, e3, e4⟩ := (b5.drew.ext hR).facts 31 (lv_size _); obtain ⟨f1, f2, f3, f4⟩ := (b7.drew.ext hR).facts 31 (lv_size _); obtain ⟨g1, g2, g3, g4⟩ := (b8.drew.ext hR).facts 31 (lv_size _); dsimp only [Runs]; go_simp; try go_bits
      go_wp2_with fail
      all_goals first | (rcases hE with ⟨h1, h2, h3⟩; rw [h1 (by assumption), h2 (by assumption)]; refine (dom_w y z _).mono ?_; rintro e w' ⟨rfl, hx⟩; rw [Hq2.out]; exact hK _ _ hx (fun _ => rfl) (fun h => by cases h)) | exact hK _ _ (Ext.refl _) (fun h => absurd h (by assumption)) (fun h => by cases h)
    case r2o20 =>
      intro a w1 K hR hE hK; simp [go_sem, EnvF, Sp.says, mk, Act.eval] at hE; obtain ⟨c1, c2, c3, c4⟩ := (b3.drew.ext hR).facts 31 (lv_size _); obtain ⟨d1, d2, d3, d4⟩ := (b4.drew.ext hR).facts 31 (lv_size _); obtain ⟨e1, e2, e3, e4⟩ := (b5.drew.ext hR).facts 31 (lv_size _); obtain ⟨f1, f2, f3, f4⟩ := (b7.drew.ext hR).facts 31 (lv_size _); obtain ⟨g1, g2, g3, g4⟩ := (b8.drew.ext hR).facts 31 (lv_size _); dsimp only [Runs]; go_simp; try go_bits
      go_wp2_with fail
      all_goals (have hk2 := hK w1 (Ext.refl _); first | (have h0 : p2 = true := (by assumption); have h2 : a.tmps[58]?.getD undef = .bool q2 := hE.2.1 h0; rw [h2]; rw [show (p2 && q2) = q2 from by simp [h0]] at hk2; exact hk2) | (have h0 : p2 = false := Bool.eq_false_iff.2 (by assumption); rw [show (p2 && q2) = false from by simp [h0]] at hk2; exact hk2))
    case r2o21 | r2o22 =>
      intro a w1 K hR hE hK; simp [go_sem, EnvF, Sp.says, mk, Act.eval] at hE; obtain ⟨c1, c2, c3, c4⟩ := (b3.drew.ext hR).facts 31 (lv_size _); obtain ⟨d1, d2, d3, d4⟩ := (b4.drew.ext hR).facts 31 (lv_size _); obtain ⟨e1, e2, e3, e4⟩ := (b5.drew.ext hR).facts 31 (lv_size _); obtain ⟨f1, f2, f3, f4⟩ := (b7.drew.ext hR).facts 31 (lv_size _); obtain ⟨g1, g2, g3, g4⟩ := (b8.drew.ext hR).facts 31 (lv_size _); dsimp only [Runs]; go_simp; try go_bits
      go_wp2_with fail
      exact hK _ (Ext.refl _)
    case r2o23 =>
      intro a w1 K hR hE hK; simp [go_sem, EnvF, Sp.says, mk, Act.eval] at hE; obtain ⟨c1, c2, c3, c4⟩ := (b3.drew.ext hR).facts 31 (lv_size _); obtain ⟨d1, d2, d3, d4⟩ := (b4.drew.ext hR).facts 31 (lv_size _); obtain ⟨e1, e2, e3, e4⟩ := (b5.drew.ext hR).facts 31 (lv_size _); obtain ⟨f1, f2, f3, f4⟩ := (b7.drew.ext hR).facts 31 (lv_size _); obtain ⟨g1, g2, g3, g4⟩ := (b8.drew.ext hR).facts 31 (lv_size _); dsimp only [Runs]; go_simp; try go_bits
      go_wp2_with fail
      refine (dom_w m z _).mono ?_; rintro e w' ⟨rfl, hx⟩; rw [K6.out]; exact hK _ hx
    case r2st => simp only [StOk]; exact ⟨PIf.st, PIf.st, PIf.st, PIf.st, PIf.st, PIf.st, trivial⟩
    case r2fin =>
      simp only [FinR, mk, Act.put, List.length_cons, List.length_nil, Nat.reduceAdd, Nat.zero_add, List.drop_succ_cons, List.drop_zero, List.setIfInBounds_toArray, List.set_cons_succ, List.set_cons_zero]
      intro v1 v2 v3 v4 v5 v6 w9 hR hF _
      clear hF
      have hR1 := (Ext.refl _).drew.trans hR
      have hEY := hEY.trans hR1
      have b3 := b3.ext hR1
      have b4 := b4.ext hR1
      have b5 := b5.ext hR1
      have b7 := b7.ext hR1
      have b8 := b8.ext hR1
      clear hR hR1
      go_wp2_with fail
      have k7 := K7.out
      have k8 := K8.out
      obtain ⟨n1, hn1⟩ : ∃ n, z.join [j] = n := ⟨_, rfl⟩
      obtain ⟨n2, hn2⟩ : ∃ n, z.meet [m] = n := ⟨_, rfl⟩
      rw [hn1] at k7
      rw [hn2] at k8
      have K7 := Lib.hid k7; clear k7
      have K8 := Lib.hid k8; clear k8
      have N1 := Lib.hid hn1; clear hn1
      have N2 := Lib.hid hn2; clear hn2
      refine wp_region_by (R := Ext) [([(3, none)], none), ([(4, none)], none), ([(5, none)], none), ([(66, some 1), (67, some 2)], none), ([(65, some 0), (68, some 3)], none), ([(5, none)], none), ([(7, none)], none), ([(71, some 6)], none), ([(70, some 5), (72, some 7)], none), ([(69, some 4), (73, some 8)], none), ([(74, some 9)], none), ([(3, none), (75, some 10)], some (75, true)), ([(4, none), (75, some 10)], some (75, true)), ([(5, none), (75, some 10)], some (75, true)), ([(77, some 12), (78, some 13), (75, some 10)], some (75, true)), ([(76, some 11), (79, some 14), (75, some 10)], some (75, true)), ([(5, none), (75, some 10)], some (75, true)), ([(8, none), (75, some 10)], some (75, true)), ([(82, some 17), (75, some 10)], some (75, true)), ([(81, some 16), (83, some 18), (75, some 10)], some (75, true)), ([(80, some 15), (84, some 19), (75, some 10)], some (75, true)), ([(75, some 10), (85, some 20)], none), ([(86, some 21)], none), ([(3, none), (87, some 22)], some (87, true)), ([(88, some 23), (87, some 22)], some (87, true)), ([(3, none), (87, some 22)], some (87, true)), ([(89, some 24), (90, some 25), (87, some 22)], some (87, true)), ([(87, some 22), (91, some 26)], none), ([(92, some 27)], none), ([(3, none), (93, some 28)], some (93, true)), ([(7, none), (93, some 28)], some (93, true)), ([(95, some 30), (93, some 28)], some (93, true)), ([(94, some 29), (96, some 31), (93, some 28)], some (93, true)), ([(3, none), (93, some 28)], some (93, true)), ([(97, some 32), (98, some 33), (93, some 28)], some (93, true)), ([(93, some 28), (99, some 34)], none), ([(100, some 35)], none), ([(3, none), (101, some 36)], some (101, true)), ([(8, none), (101, some 36)], some (101, true)), ([(103, some 38), (101, some 36)], some (101, true)), ([(102, some 37), (104, some 39), (101, some 36)], some (101, true)), ([(3, none), (101, some 36)], some (101, true))]
        [Sp.ex ?r1v0, Sp.ex ?r1v1, Sp.ex ?r1v2, Sp.un (PSl 31 [lv y, lv z]) false, Sp.ex ?r1v4, Sp.ex ?r1v5, Sp.ex ?r1v6, Sp.un (PSl 31 [lv j]) false, Sp.ex ?r1v8, Sp.ex ?r1v9, Sp.ex ?r1v10, Sp.ex ?r1v11, Sp.ex ?r1v12, Sp.ex ?r1v13, Sp.un (PSl 31 [lv y, lv z]) false, Sp.ex ?r1v15, Sp.ex ?r1v16, Sp.ex ?r1v17, Sp.un (PSl 31 [lv m]) false, Sp.ex ?r1v19, Sp.ex ?r1v20, Sp.ex ?r1v21, Sp.ex ?r1v22, Sp.ex ?r1v23, Sp.ex ?r1v24, Sp.ex ?r1v25, Sp.ex ?r1v26, Sp.ex ?r1v27, Sp.ex ?r1v28, Sp.ex ?r1v29, Sp.ex ?r1v30, Sp.un (PSl 31 [lv j]) false, Sp.ex ?r1v32, Sp.ex ?r1v33, Sp.ex ?r1v34, Sp.ex ?r1v35, Sp.ex ?r1v36, Sp.ex ?r1v37, Sp.ex ?r1v38, Sp.un (PSl 31 [lv m]) false, Sp.ex ?r1v40, Sp.ex ?r1v41]
        (by kernel_rfl) (fun _ _ _ h1 h2 => h1.trans h2) (fun _ _ h => h.size) (Ext.refl _) rfl (by kernel_rfl) ?r1st (And.intro ?r1o0 (And.intro ?r1o1 (And.intro ?r1o2 (And.intro ?r1o3 (And.intro ?r1o4 (And.intro ?r1o5 (And.intro ?r1o6 (And.intro ?r1o7 (And.intro ?r1o8 (And.intro ?r1o9 (And.intro ?r1o10 (And.intro ?r1o11 (And.intro ?r1o12 (And.intro ?r1o13 (And.intro ?r1o14 (And.intro ?r1o15 (And.intro ?r1o16 (And.intro ?r1o17 (And.intro ?r1o18 (And.intro ?r1o19 (And.intro ?r1o20 (And.intro ?r1o21 (And.intro ?r1o22 (And.intro ?r1o23 (And.intro ?r1o24 (And.intro ?r1o25 (And.intro ?r1o26 (And.intro ?r1o27 (And.intro ?r1o28 (And.intro ?r1o29 (And.intro ?r1o30 (And.intro ?r1o31 (And.intro ?r1o32 (And.intro ?r1o33 (And.intro ?r1o34 (And.intro ?r1o35 (And.intro ?r1o36 (And.intro ?r1o37 (And.intro ?r1o38 (And.intro ?r1o39 (And.intro ?r1o40 (And.intro ?r1o41 trivial)))))))))))))))))))))))))))))))))))))))))) ?r1fin
      case r1o0 | r1o1 | r1o2 =>
        intro a w1 K hR hE hK; simp [go_sem, EnvF, Sp.says, mk, Act.eval] at hE; obtain ⟨c1, c2, c3, c4⟩ := (b3.drew.ext hR).facts 31 (lv_size _); obtain ⟨d1, d2, d3, d4⟩ := (b4.drew.ext hR).facts 31 (lv_size _); obtain ⟨e1, e2, e3, e4⟩ := (b5.drew.ext hR).facts 31 (lv_size _); obtain ⟨f1, f2, f3, f4⟩ := (b7.drew.ext hR).facts 31 (lv_size _); obtain ⟨g1, g2, g3, g4⟩ := (b8.drew.ext hR).facts 31 (lv_size _); dsimp only [Runs]; go_simp; try go_bits
        go_wp2_with fail
        exact hK _ (Ext.refl _)
      case r1o3 =>
        intro a w1 K hR hE hK; simp [go_sem, EnvF, Sp.says, mk, Act.eval] at hE; obtain ⟨c1, c2, c3, c4⟩ := (b3.drew.ext hR).facts 31 (lv_size _); obtain ⟨d1, d2, d3, d4⟩ := (b4.drew.ext hR).facts 31 (lv_size _); obtain ⟨e1, e2, e3, e4⟩ := (b5.drew.ext hR).facts 31 (lv_size _); obtain ⟨f1, f2, f3, f4⟩ := (b7.drew.ext hR).facts 31 (lv_size _); obtain ⟨g1, g2, g3, g4⟩ := (b8.drew.ext hR).facts 31 (lv_size _); dsimp only [Runs]; go_simp; try go_bits
        go_wp2_with fail
        exact hK _ _ (Ext.of_alloc _ _) (Sl.many w1 _ (es := [lv y, lv z]) (by simp [lv_size])) (fun h => by cases h)
      case r1o4 =>
        intro a w1 K hR hE hK; simp [go_sem, EnvF, Sp.says, mk, Act.eval] at hE; obtain ⟨c1, c2, c3, c4⟩ := (b3.drew.ext hR).facts 31 (lv_size _); obtain ⟨d1, d2, d3, d4⟩ := (b4.drew.ext hR).facts 31 (lv_size _); obtain ⟨e1, e2, e3, e4⟩ := (b5.drew.ext hR).facts 31 (lv_size _); obtain ⟨f1, f2, f3, f4⟩ := (b7.drew.ext hR).facts 31 (lv_size _); obtain ⟨g1, g2, g3, g4⟩ := (b8.drew.ext hR).facts 31 (lv_size _); dsimp only [Runs]; go_simp; try go_bits
        go_wp2_with fail
        obtain ⟨hE1, A', cap', hv', hAt⟩ := hE; rw [hv']; refine (ljoin_w x [y, z] A' cap' _ (by simp) hAt).mono ?_; rintro e w' ⟨rfl, hx⟩; rw [K7.out]; exact hK _ hx
      case r1o5 | r1o6 =>
        intro a w1 K hR hE hK; simp [go_sem, EnvF, Sp.says, mk, Act.eval] at hE; obtain ⟨c1, c2, c3, c4⟩ := (b3.drew.ext hR).facts 31 (lv_size _); obtain ⟨d1, d2, d3, d4⟩ := (b4.drew.ext hR).facts 31 (lv_size _); obtain ⟨e1, e2, e3, e4⟩ := (b5.drew.ext hR).facts 31 (lv_size _); obtain ⟨f1, f2, f3, f4⟩ := (b7.drew.ext hR).facts 31 (lv_size _); obtain ⟨g1, g2, g3, g4⟩ := (b8.drew.ext hR).facts 31 (lv_size _); dsimp only [Runs]; go_simp; try go_bits
        go_wp2_with fail
        exact hK _ (Ext.refl _)
      case r1o7 =>
        intro a w1 K hR hE hK; simp [go_sem, EnvF, Sp.says, mk, Act.eval] at hE; obtain ⟨c1, c2, c3, c4⟩ := (b3.drew.ext hR).facts 31 (lv_size _); obtain ⟨d1, d2, d3, d4⟩ := (b4.drew.ext hR).facts 31 (lv_size _); obtain ⟨e1, e2, e3, e4⟩ := (b5.drew.ext hR).facts 31 (lv_size _); obtain ⟨f1, f2, f3, f4⟩ := (b7.drew.ext hR).facts 31 (lv_size _); obtain ⟨g1, g2, g3, g4⟩ := (b8.drew.ext hR).facts 31 (lv_size _); dsimp only [Runs]; go_simp; try go_bits
        go_wp2_with fail
        exact hK _ _ (Ext.of_alloc _ _) (Sl.many w1 _ (es := [lv j]) (by simp [lv_size])) (fun h => by cases h)
      case r1o8 =>
        intro a w1 K hR hE hK; simp [go_sem, EnvF, Sp.says, mk, Act.eval] at hE; obtain ⟨c1, c2, c3, c4⟩ := (b3.drew.ext hR).facts 31 (lv_size _); obtain ⟨d1, d2, d3, d4⟩ := (b4.drew.ext hR).facts 31 (lv_size _); obtain ⟨e1, e2, e3, e4⟩ := (b5.drew.ext hR).facts 31 (lv_size _); obtain ⟨f1, f2, f3, f4⟩ := (b7.drew.ext hR).facts 31 (lv_size _); obtain ⟨g1, g2, g3, g4⟩ := (b8.drew.ext hR).facts 31 (lv_size _); dsimp only [Runs]; go_simp; try go_bits
        go_wp2_with fail
        obtain ⟨hE1, A', cap', hv', hAt⟩ := hE; rw [hv']; refine (ljoin_w z [j] A' cap' _ (by simp) hAt).mono ?_; rintro e w' ⟨rfl, hx⟩; rw [N1.out]; exact hK _ hx
      case r1o9 | r1o10 | r1o11 | r1o12 | r1o13 =>
        intro a w1 K hR hE hK; simp [go_sem, EnvF, Sp.says, mk, Act.eval] at hE; obtain ⟨c1, c2, c3, c4⟩ := (b3.drew.ext hR).facts 31 (lv_size _); obtain ⟨d1, d2, d3, d4⟩ := (b4.drew.ext hR).facts 31 (lv_size _); obtain ⟨e1, e2, e3, e4⟩ := (b5.drew.ext hR).facts 31 (lv_size _); obtain ⟨f1, f2, f3, f4⟩ := (b7.drew.ext hR).facts 31 (lv_size _); obtain ⟨g1, g2, g3, g4⟩ := (b8.drew.ext hR).facts 31 (lv_size _); dsimp only [Runs]; go_simp; try go_bits
        go_wp2_with fail
        exact hK _ (Ext.refl _)
      case r1o14 =>
        intro a w1 K hR hE hK; simp [go_sem, EnvF, Sp.says, mk, Act.eval] at hE; obtain ⟨c1, c2, c3, c4⟩ := (b3.drew.ext hR).facts 31 (lv_size _); obtain ⟨d1, d2, d3, d4⟩ := (b4.drew.ext hR).facts 31 (lv_size _); obtain ⟨e1, e2, e3, e4⟩ := (b5.drew.ext hR).facts 31 (lv_size _); obtain ⟨f1, f2, f3, f4⟩ := (b7.drew.ext hR).facts 31 (lv_size _); obtain ⟨g1, g2, g3, g4⟩ := (b8.drew.ext hR).facts 31 (lv_size _); dsimp only [Runs]; go_simp; try go_bits
        go_wp2_with fail
        exact hK _ _ (Ext.of_alloc _ _) (Sl.many w1 _ (es := [lv y, lv z]) (by simp [lv_size])) (fun h => by cases h)
      case r1o15 =>
        intro a w1 K hR hE hK; simp [go_sem, EnvF, Sp.says, mk, Act.eval] at hE; obtain ⟨c1, c2, c3, c4⟩ := (b3.drew.ext hR).facts 31 (lv_size _); obtain ⟨d1, d2, d3, d4⟩ := (b4.drew.ext hR).facts 31 (lv_size _); obtain ⟨e1, e2, e3, e4⟩ := (b5.drew.ext hR).facts 31 (lv_size _); obtain ⟨f1, f2, f3, f4⟩ := (b7.drew.ext hR).facts 31 (lv_size _); obtain ⟨g1, g2, g3, g4⟩ := (b8.drew.ext hR).facts 31 (lv_size _); dsimp only [Runs]; go_simp; try go_bits
        go_wp2_with fail
        obtain ⟨hE1, ⟨A', cap', hv', hAt⟩, hE2⟩ := hE; rw [hv']; refine (lmeet_w x [y, z] A' cap' _ (by simp) hAt).mono ?_; rintro e w' ⟨rfl, hx⟩; rw [K8.out]; exact hK _ hx
      case r1o16 | r1o17 =>
        intro a w1 K hR hE hK; simp [go_sem, EnvF, Sp.says, mk, Act.eval] at hE; obtain ⟨c1, c2, c3, c4⟩ := (b3.drew.ext hR).facts 31 (lv_size _); obtain ⟨d1, d2, d3, d4⟩ := (b4.drew.ext hR).facts 31 (lv_size _); obtain ⟨e1, e2, e3, e4⟩ := (b5.drew.ext hR).facts 31 (lv_size _); obtain ⟨f1, f2, f3, f4⟩ := (b7.drew.ext hR).facts 31 (lv_size _); obtain ⟨g1, g2, g3, g4⟩ := (b8.drew.ext hR).facts 31 (lv_size _); dsimp only [Runs]; go_simp; try go_bits
        go_wp2_with fail
        exact hK _ (Ext.refl _)
      case r1o18 =>
        intro a w1 K hR hE hK; simp [go_sem, EnvF, Sp.says, mk, Act.eval] at hE; obtain ⟨c1, c2, c3, c4⟩ := (b3.drew.ext hR).facts 31 (lv_size _); obtain ⟨d1, d2, d3, d4⟩ := (b4.drew.ext hR).facts 31 (lv_size _); obtain ⟨e1, e2, e3, e4⟩ := (b5.drew.ext hR).facts 31 (lv_size _); obtain ⟨f1, f2, f3, f4⟩ := (b7.drew.ext hR).facts 31 (lv_size _); obtain ⟨g1, g2, g3, g4⟩ := (b8.drew.ext hR).facts 31 (lv_size _); dsimp only [Runs]; go_simp; try go_bits
        go_wp2_with fail
        exact hK _ _ (Ext.of_alloc _ _) (Sl.many w1 _ (es := [lv m]) (by simp [lv_size])) (fun h => by cases h)
      case r1o19 =>
        intro a w1 K hR hE hK; simp [go_sem, EnvF, Sp.says, mk, Act.eval] at hE; obtain ⟨c1, c2, c3, c4⟩ := (b3.drew.ext hR).facts 31 (lv_size _); obtain ⟨d1, d2, d3, d4⟩ := (b4.drew.ext hR).facts 31 (lv_size _); obtain ⟨e1, e2, e3, e4⟩ := (b5.drew.ext hR).facts 31 (lv_size _); obtain ⟨f1, f2, f3, f4⟩ := (b7.drew.ext hR).facts 31 (lv_size _); obtain ⟨g1, g2, g3, g4⟩ := (b8.drew.ext hR).facts 31 (lv_size _); dsimp only [Runs]; go_simp; try go_bits
        go_wp2_with fail
        obtain ⟨hE1, ⟨A', cap', hv', hAt⟩, hE2⟩ := hE; rw [hv']; refine (lmeet_w z [m] A' cap' _ (by simp) hAt).mono ?_; rintro e w' ⟨rfl, hx⟩; rw [N2.out]; exact hK _ hx
      case r1o20 | r1o21 | r1o22 | r1o23 =>
        intro a w1 K hR hE hK; simp [go_sem, EnvF, Sp.says, mk, Act.eval] at hE; obtain ⟨c1, c2, c3, c4⟩ := (b3.drew.ext hR).facts 31 (lv_size _); obtain ⟨d1, d2, d3, d4⟩ := (b4.drew.ext hR).facts 31 (lv_size _); obtain ⟨e1, e2, e3, e4⟩ := (b5.drew.ext hR).facts 31 (lv_size _); obtain ⟨f1, f2, f3, f4⟩ := (b7.drew.ext hR).facts 31 (lv_size _); obtain ⟨g1, g2, g3, g4⟩ := (b8.drew.ext hR).facts 31 (lv_size _); dsimp only [Runs]; go_simp; try go_bits
        go_wp2_with fail
        exact hK _ (Ext.refl _)
      case r1o24 =>
        intro a w1 K hR hE hK; simp [go_sem, EnvF, Sp.says, mk, Act.eval] at hE; obtain ⟨c1, c2, c3, c4⟩ := (b3.drew.ext hR).facts 31 (lv_size _); obtain ⟨d1, d2, d3, d4⟩ := (b4.drew.ext hR).facts 31 (lv_size _); obtain ⟨e1, e2, e3, e4⟩ := (b5.drew.ext hR).facts 31 (lv_size _); obtain ⟨f1, f2, f3, f4⟩ := (b7.drew.ext hR).facts 31 (lv_size _); obtain ⟨g1, g2, g3, g4⟩ := (b8.drew.ext hR).facts 31 (lv_size _); dsimp only [Runs]; go_simp; try go_bits
        go_wp2_with fail
        refine (ljoin_w x [] none 0 _ (by simp) (At.nil _ _ _)).mono ?_; rintro e w' ⟨rfl, hx⟩; rw [K11.out]; exact hK _ hx
      case r1o25 | r1o26 | r1o27 | r1o28 | r1o29 | r1o30 =>
        intro a w1 K hR hE hK; simp [go_sem, EnvF, Sp.says, mk, Act.eval] at hE; obtain ⟨c1, c2, c3, c4⟩ := (b3.drew.ext hR).facts 31 (lv_size _); obtain ⟨d1, d2, d3, d4⟩ := (b4.drew.ext hR).facts 31 (lv_size _); obtain ⟨e1, e2, e3, e4⟩ := (b5.drew.ext hR).facts 31 (lv_size _); obtain ⟨f1, f2, f3, f4⟩ := (b7.drew.ext hR).facts 31 (lv_size _); obtain ⟨g1, g2, g3, g4⟩ := (b8.drew.ext hR).facts 31 (lv_size _); dsimp only [Runs]; go_simp; try go_bits
        go_wp2_with fail
        exact hK _ (Ext.refl _)
      case r1o31 =>
        intro a w1 K hR hE hK; simp [go_sem, EnvF, Sp.says, mk, Act.eval] at hE; obtain ⟨c1, c2, c3, c4⟩ := (b3.drew.ext hR).facts 31 (lv_size _); obtain ⟨d1, d2, d3, d4⟩ := (b4.drew.ext hR).facts 31 (lv_size _); obtain ⟨e1, e2, e3, e4⟩ := (b5.drew.ext hR).facts 31 (lv_size _); obtain ⟨f1, f2, f3, f4⟩ := (b7.drew.ext hR).facts 31 (lv_size _); obtain ⟨g1, g2, g3, g4⟩ := (b8.drew.ext hR).facts 31 (lv_size _); dsimp only [Runs]; go_simp; try go_bits
        go_wp2_with fail
        exact hK _ _ (Ext.of_alloc _ _) (Sl.many w1 _ (es := [lv j]) (by simp [lv_size])) (fun h => by cases h)
      case r1o32 =>
        intro a w1 K hR hE hK; simp [go_sem, EnvF, Sp.says, mk, Act.eval] at hE; obtain ⟨c1, c2, c3, c4⟩ := (b3.drew.ext hR).facts 31 (lv_size _); obtain ⟨d1, d2, d3, d4⟩ := (b4.drew.ext hR).facts 31 (lv_size _); obtain ⟨e1, e2, e3, e4⟩ := (b5.drew.ext hR).facts 31 (lv_size _); obtain ⟨f1, f2, f3, f4⟩ := (b7.drew.ext hR).facts 31 (lv_size _); obtain ⟨g1, g2, g3, g4⟩ := (b8.drew.ext hR).facts 31 (lv_size _); dsimp only [Runs]; go_simp; try go_bits
        go_wp2_with fail
        obtain ⟨hE1, ⟨A', cap', hv', hAt⟩, hE2⟩ := hE; rw [hv']; refine (lmeet_w x [j] A' cap' _ (by simp) hAt).mono ?_; rintro e w' ⟨rfl, hx⟩; rw [K9.out]; exact hK _ hx
      case r1o33 | r1o34 | r1o35 | r1o36 | r1o37 | r1o38 =>
        intro a w1 K hR hE hK; simp [go_sem, EnvF, Sp.says, mk, Act.eval] at hE; obtain ⟨c1, c2, c3, c4⟩ := (b3.drew.ext hR).facts 31 (lv_size _); obtain ⟨d1, d2, d3, d4⟩ := (b4.drew.ext hR).facts 31 (lv_size _); obtain ⟨e1, e2, e3, e4⟩ := (b5.drew.ext hR).facts 31 (lv_size _); obtain ⟨f1, f2, f3, f4⟩ := (b7.drew.ext hR).facts 31 (lv_size _); obtain ⟨g1, g2, g3, g4⟩ := (b8.drew.ext hR).facts 31 (lv_size _); dsimp only [Runs]; go_simp; try go_bits
        go_wp2_with fail
        exact hK _ (Ext.refl _)
      case r1o39 =>
        intro a w1 K hR hE hK; simp [go_sem, EnvF, Sp.says, mk, Act.eval] at hE; obtain ⟨c1, c2, c3, c4⟩ := (b3.drew.ext hR).facts 31 (lv_size _); obtain ⟨d1, d2, d3, d4⟩ := (b4.drew.ext hR).facts 31 (lv_size _); obtain ⟨e1, e2, e3, e4⟩ := (b5.drew.ext hR).facts 31 (lv_size _); obtain ⟨f1, f2, f3, f4⟩ := (b7.drew.ext hR).facts 31 (lv_size _); obtain ⟨g1, g2, g3, g4⟩ := (b8.drew.ext hR).facts 31 (lv_size _); dsimp only [Runs]; go_simp; try go_bits
        go_wp2_with fail
        exact hK _ _ (Ext.of_alloc _ _) (Sl.many w1 _ (es := [lv m]) (by simp [lv_size])) (fun h => by cases h)
      case r1o40 =>
        intro a w1 K hR hE hK; simp [go_sem, EnvF, Sp.says, mk, Act.eval] at hE; obtain ⟨c1, c2, c3, c4⟩ := (b3.drew.ext hR).facts 31 (lv_size _); obtain ⟨d1, d2, d3, d4⟩ := (b4.drew.ext hR).facts 31 (lv_size _); obtain ⟨e1, e2, e3, e4⟩ := (b5.drew.ext hR).facts 31 (lv_size _); obtain ⟨f1, f2, f3, f4⟩ := (b7.drew.ext hR).facts 31 (lv_size _); obtain ⟨g1, g2, g3, g4⟩ := (b8.drew.ext hR).facts 31 (lv_size _); dsimp only [Runs]; go_simp; try go_bits
        go_wp2_with fail
        obtain ⟨hE1, ⟨A', cap', hv', hAt⟩, hE2⟩ := hE; rw [hv']; refine (ljoin_w x [m] A' cap' _ (by simp) hAt).mono ?_; rintro e w' ⟨rfl, hx⟩; rw [K10.out]; exact hK _ hx
      case r1o41 =>
        intro a w1 K hR hE hK; simp [go_sem, EnvF, Sp.says, mk, Act.eval] at hE; obtain ⟨c1, c2, c3, c4⟩ := (b3.drew.ext hR).facts 31 (lv_size _); obtain ⟨d1, d2, d3, d4⟩ := (b4.drew.ext hR).facts 31 (lv_size _); obtain ⟨e1, e2, e3, e4⟩ := (b5.drew.ext hR).facts 31 (lv_size _); obtain ⟨f1, f2, f3, f4⟩ := (b7.drew.ext hR).facts 31 (lv_size _); obtain ⟨g1, g2, g3, g4⟩ := (b8.drew.ext hR).facts 31 (lv_size _); dsimp only [Runs]; go_simp; try go_bits
        go_wp2_with fail
        exact hK _ (Ext.refl _)
      case r1st => simp only [StOk]; exact ⟨PSl.st, PSl.st, PSl.st, PSl.st, PSl.st, PSl.st, trivial⟩
      case r1fin =>
        simp only [FinR, mk, Act.put, List.length_cons, List.length_nil, Nat.reduceAdd, Nat.zero_add, List.drop_succ_cons, List.drop_zero, List.setIfInBounds_toArray, List.set_cons_succ, List.set_cons_zero]
        intros
        rename_i w9 hR hF hAp
        go_wp2_with (go_at_call 53; refine (lawake_w _ (ht.ext (hEY.drew.trans hR)) (hv.ext (hEY.drew.trans hR))).mono ?_; rintro e w' ⟨rfl, hx⟩)
        go_ret
        exact ⟨rfl, (hEY.drew.trans hR).trans hx⟩
end Go.Proofs.YtpgpfcdkkhfemaaDoor
