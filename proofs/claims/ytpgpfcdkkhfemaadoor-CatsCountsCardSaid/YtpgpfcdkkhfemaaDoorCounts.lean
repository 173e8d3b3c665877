/- gueritelaw08.CatsCounts answers true at any two sets, and leaves what lay in memory as it was. -/
import Derived.Test.YtpgpfcdkkhfemaaDoorWAwake
import Derived.Test.YtpgpfcdkkhfemaaDoorCats3
open Go.RowKit Go.Reg Go.Gu
namespace Go.Proofs.YtpgpfcdkkhfemaaDoor
set_option maxHeartbeats 1000000
@[go_sem] theorem cats_beq' (c : Cats) : (c == c) = true := by simp
theorem count_bd (c : Cats) : 0 ≤ c.count ∧ c.count ≤ 240 := by
  have := c.countTo_le 30
  unfold Cats.count; omega
theorem list_len (c : Cats) : c.list.length ≤ 9223372036854775807 := by
  have := c.listTo_le 240
  unfold Cats.list; omega
set_option maxRecDepth 100000 in
theorem counts_w (p q : Cats) (w : World) (ht : TabOk w) : Calls Tryd.prog 5 #[.agg (cv p), .agg (cv q)] w fun e w' => e = .returned (.bool true) ∧ Ext w w' := by
  go_enter Tryd.func5, Tryd.ntmps5
  go_wp2_with fail
  obtain ⟨W, hW⟩ : ∃ W, W = (w.alloc (.cells (cv p) 23)).alloc (.cells (cv q) 23) := ⟨_, rfl⟩
  have hB0 : Blk W w.heap.size 23 (cv p) := by rw [hW]; exact (Blk.new w 23 (cv p)).alloc _
  have hB1 : Blk W (w.heap.size + 1) 23 (cv q) := by rw [hW]; simpa using Blk.new (w.alloc (.cells (cv p) 23)) 23 (cv q)
  have hEW : Ext w W := by rw [hW]; exact (Ext.of_alloc w _).alloc _
  rw [← hW]
  clear hW
  refine wp_region_by (R := Ext) [([(2, none)], none), ([(3, none)], none), ([(9, some 0), (10, some 1)], none), ([(11, some 2)], none), ([(2, none)], none), ([(3, none)], none), ([(14, some 5)], none), ([(13, some 4), (15, some 6)], none), ([], none), ([], none)]
    [.ex ?r2v0, .ex ?r2v1, .un (PSl 30 [cv p, cv q]) true, .ex ?r2v3, .ex ?r2v4, .ex ?r2v5, .un (PSl 30 [cv q]) true, .ex ?r2v7, .un (PBlk 23 (cv Cats.zero)) true, .un (PBlk 23 (cv Cats.zero)) true]
    (by kernel_rfl) (fun _ _ _ h1 h2 => h1.trans h2) (fun _ _ h => h.size) (Ext.refl _) rfl (by kernel_rfl) ?r2st (And.intro ?r2o0 (And.intro ?r2o1 (And.intro ?r2o2 (And.intro ?r2o3 (And.intro ?r2o4 (And.intro ?r2o5 (And.intro ?r2o6 (And.intro ?r2o7 (And.intro ?r2o8 (And.intro ?r2o9 trivial)))))))))) ?r2fin
  case r2o0 | r2o1 =>
    intro a w1 K hR hE hK; simp [go_sem, EnvF, Sp.says, mk, Act.eval] at hE; obtain ⟨f1, f2, f3, f4⟩ := (hB0.drew.ext hR).facts 30 (cv_size _); obtain ⟨g1, g2, g3, g4⟩ := (hB1.drew.ext hR).facts 30 (cv_size _); dsimp only [Runs]; go_simp; try go_bits
    go_wp2_with fail
    exact hK _ (Ext.refl _)
  case r2o2 =>
    intro a w1 K hR hE hK; simp [go_sem, EnvF, Sp.says, mk, Act.eval] at hE; obtain ⟨f1, f2, f3, f4⟩ := (hB0.drew.ext hR).facts 30 (cv_size _); obtain ⟨g1, g2, g3, g4⟩ := (hB1.drew.ext hR).facts 30 (cv_size _); dsimp only [Runs]; go_simp; try go_bits
    go_wp2_with fail
    exact hK _ _ (Ext.of_alloc _ _) (Sl.many w1 _ (es := [cv p, cv q]) (by simp [cv_size])) (fun _ => Fr.slice _ _ _ _)
  case r2o3 =>
    intro a w1 K hR hE hK; simp [go_sem, EnvF, Sp.says, mk, Act.eval] at hE; obtain ⟨f1, f2, f3, f4⟩ := (hB0.drew.ext hR).facts 30 (cv_size _); obtain ⟨g1, g2, g3, g4⟩ := (hB1.drew.ext hR).facts 30 (cv_size _); dsimp only [Runs]; go_simp; try go_bits
    go_wp2_with fail
    obtain ⟨A, cap, hv, hAt⟩ := hE; rw [hv]; refine (union_w [p, q] A cap _ (by simp) hAt).mono ?_; rintro e w' ⟨rfl, hx⟩; exact hK _ hx
  case r2o4 | r2o5 =>
    intro a w1 K hR hE hK; simp [go_sem, EnvF, Sp.says, mk, Act.eval] at hE; obtain ⟨f1, f2, f3, f4⟩ := (hB0.drew.ext hR).facts 30 (cv_size _); obtain ⟨g1, g2, g3, g4⟩ := (hB1.drew.ext hR).facts 30 (cv_size _); dsimp only [Runs]; go_simp; try go_bits
    go_wp2_with fail
    exact hK _ (Ext.refl _)
  case r2o6 =>
    intro a w1 K hR hE hK; simp [go_sem, EnvF, Sp.says, mk, Act.eval] at hE; obtain ⟨f1, f2, f3, f4⟩ := (hB0.drew.ext hR).facts 30 (cv_size _); obtain ⟨g1, g2, g3, g4⟩ := (hB1.drew.ext hR).facts 30 (cv_size _); dsimp only [Runs]; go_simp; try go_bits
    go_wp2_with fail
    exact hK _ _ (Ext.of_alloc _ _) (Sl.many w1 _ (es := [cv q]) (by simp [cv_size])) (fun _ => Fr.slice _ _ _ _)
  case r2o7 =>
    intro a w1 K hR hE hK; simp [go_sem, EnvF, Sp.says, mk, Act.eval] at hE; obtain ⟨f1, f2, f3, f4⟩ := (hB0.drew.ext hR).facts 30 (cv_size _); obtain ⟨g1, g2, g3, g4⟩ := (hB1.drew.ext hR).facts 30 (cv_size _); dsimp only [Runs]; go_simp; try go_bits
    go_wp2_with fail
    obtain ⟨hE1, A, cap, hv, hAt⟩ := hE; rw [hv]; refine (meet_w p [q] A cap _ (by simp) hAt).mono ?_; rintro e w' ⟨rfl, hx⟩; exact hK _ hx
  case r2o8 =>
    intro a w1 K hR hE hK; simp [go_sem, EnvF, Sp.says, mk, Act.eval] at hE; obtain ⟨f1, f2, f3, f4⟩ := (hB0.drew.ext hR).facts 30 (cv_size _); obtain ⟨g1, g2, g3, g4⟩ := (hB1.drew.ext hR).facts 30 (cv_size _); dsimp only [Runs]; go_simp; try go_bits
    go_wp2_with fail
    exact hK _ _ (Ext.of_alloc _ _) ⟨_, rfl, Blk.new _ _ _⟩ (fun _ => Fr.ptr _ _)
  case r2o9 =>
    intro a w1 K hR hE hK; simp [go_sem, EnvF, Sp.says, mk, Act.eval] at hE; obtain ⟨f1, f2, f3, f4⟩ := (hB0.drew.ext hR).facts 30 (cv_size _); obtain ⟨g1, g2, g3, g4⟩ := (hB1.drew.ext hR).facts 30 (cv_size _); dsimp only [Runs]; go_simp; try go_bits
    go_wp2_with fail
    exact hK _ _ (Ext.of_alloc _ _) ⟨_, rfl, Blk.new _ _ _⟩ (fun _ => Fr.ptr _ _)
  case r2st => simp only [StOk]; exact ⟨PSl.st, PSl.st, PBlk.st, PBlk.st, trivial⟩
  case r2fin =>
    simp only [FinR, mk, Act.put, List.length_cons, List.length_nil, Nat.reduceAdd, Nat.zero_add, List.drop_succ_cons, List.drop_zero, List.setIfInBounds_toArray, List.set_cons_succ, List.set_cons_zero]
    intro v1 v2 v3 v4 w1 hR hF hAp
    obtain ⟨⟨_, gu, hv3, hU⟩, gm, hv4, hM⟩ := hF
    rw [hv3, hv4] at hAp
    simp only [↓reduceIte] at hAp
    rw [hv3, hv4]
    obtain ⟨hA4, hA43, hA3, _⟩ := hAp
    obtain ⟨hm1, hm2⟩ := hA4 gm rfl
    obtain ⟨hu1, hu2⟩ := hA3 gu rfl
    have hne : gm ≠ gu := fun e => hA43 (.pointer (some ⟨gu, 0, none⟩)) (by simp) gm rfl (by rw [e]; rfl)
    have hne' : gu ≠ gm := fun e => hne e.symm
    have hsz : W.drew.heap.size = W.heap.size := rfl
    rw [hsz] at hm1 hu1
    have hltB := hB1.lt
    clear hA4 hA43 hA3 hv3 hv4 hsz
    have hB0' := hB0.drew.ext hR
    have hB1' := hB1.drew.ext hR
    have hE1 : Ext W w1 := (Ext.refl W).drew.trans hR
    have hex : ∃ U M Z, U = Cats.union [p, q] ∧ M = Cats.meet p [q] ∧ Z = p.without q.list := ⟨_, _, _, rfl, rfl, rfl⟩
    obtain ⟨U, M, Z, hUe, hMe, hZe⟩ := hex
    rw [← hUe, ← hMe]
    have hhU : ∀ k : Nat, U.has (k : Int) = (p.has (k : Int) || q.has (k : Int)) := fun k => by rw [hUe, Cats.has_union]; simp
    have hhM : ∀ k : Nat, M.has (k : Int) = (p.has (k : Int) && q.has (k : Int)) := fun k => by rw [hMe, Cats.has_meet]; simp
    have hml : ∀ (c : Cats) (k : Nat), decide ((k : Int) ∈ c.list) = c.has (k : Int) := fun c k => by rw [Bool.eq_iff_iff, decide_eq_true_eq, Cats.mem_list]
    have hhZ : ∀ k : Nat, Z.has (k : Int) = (p.has (k : Int) && !q.has (k : Int)) := fun k => by rw [hZe, Cats.has_without, hml]
    have hin : ∀ k : Nat, k < 240 → Cats.inR (k : Int) = true := fun k h => Cats.inR_iff.2 (by omega)
    have hcnt : U.count + M.count = p.count + q.count := by rw [hUe, hMe, Cats.count_sum]
    have hw1 : Z.with_ M.list = p := Cats.ext_has fun k h => by
      rw [Cats.has_with, hml, hin k h, hhZ, hhM]; cases p.has (k : Int) <;> cases q.has (k : Int) <;> rfl
    have hw2 : p.with_ q.list = U := Cats.ext_has fun k h => by
      rw [Cats.has_with, hml, hin k h, hhU]; cases p.has (k : Int) <;> cases q.has (k : Int) <;> rfl
    have hw3 : Cats.meet Z [q] = Cats.zero := Cats.ext_has fun k h => by
      rw [Cats.has_meet, hhZ, Cats.has_zero]; simp only [List.all_cons, List.all_nil, Bool.and_true]; cases p.has (k : Int) <;> cases q.has (k : Int) <;> rfl
    obtain ⟨nu1, nu2⟩ := count_bd U
    obtain ⟨nm1, nm2⟩ := count_bd M
    obtain ⟨np1, np2⟩ := count_bd p
    obtain ⟨nq1, nq2⟩ := count_bd q
    obtain ⟨cu, hcu⟩ : ∃ n, U.count = n := ⟨_, rfl⟩
    obtain ⟨cm, hcm⟩ : ∃ n, M.count = n := ⟨_, rfl⟩
    obtain ⟨cp, hcp⟩ : ∃ n, p.count = n := ⟨_, rfl⟩
    obtain ⟨cq, hcq⟩ : ∃ n, q.count = n := ⟨_, rfl⟩
    rw [hcu] at nu1 nu2 hcnt
    rw [hcm] at nm1 nm2 hcnt
    rw [hcp] at np1 np2 hcnt
    rw [hcq] at nq1 nq2 hcnt
    have hcnt2 : (cu + cm == cp + cq) = true := by simpa using hcnt
    have Hcu := Lib.hid hcu; clear hcu
    have Hcm := Lib.hid hcm; clear hcm
    have Hcp := Lib.hid hcp; clear hcp
    have Hcq := Lib.hid hcq; clear hcq
    have Hcnt := Lib.hid hcnt; clear hcnt
    have HZe := Lib.hid hZe.symm; clear hZe
    have Hw1 := Lib.hid hw1; clear hw1
    have Hw2 := Lib.hid hw2; clear hw2
    have Hw3 := Lib.hid hw3; clear hw3
    clear hhU hhM hhZ hml hin hUe hMe
    clear hB0 hB1
    obtain ⟨f1, f2, f3, f4⟩ := hU.facts 30 (cv_size _)
    obtain ⟨g1, g2, g3, g4⟩ := hM.facts 30 (cv_size _)
    have hXl : Blk ((w1.setRow gu (cv U)).setRow gm (cv M)) (w.heap.size + 1) 23 (cv q) := (hB1'.farRow (by omega) _).farRow (by omega) _
    obtain ⟨h1, h2, h3, h4⟩ := hXl.facts 30 (cv_size _)
    go_wp2_with (first
      | (go_at_call 23
         clear f1 f2 f3 f4 g1 g2 g3 g4 h1 h2 h3 h4 hXl
         obtain ⟨X, hX⟩ : ∃ X, X = (w1.setRow gu (cv U)).setRow gm (cv M) := ⟨_, rfl⟩
         have bU : Blk X gu 23 (cv U) := by rw [hX]; exact (hU.setRow _).farRow hne' _
         have bM : Blk X gm 23 (cv M) := by rw [hX]; exact (hM.farRow hne _).setRow _
         have b0 : Blk X w.heap.size 23 (cv p) := by rw [hX]; exact (hB0'.farRow (by omega) _).farRow (by omega) _
         have b1 : Blk X (w.heap.size + 1) 23 (cv q) := by rw [hX]; exact (hB1'.farRow (by omega) _).farRow (by omega) _
         have hEX : Ext W X := by rw [hX]; exact (hE1.setRow hu1 _).setRow hm1 _
         rw [← hX]
         clear hX hU hM hB0' hB1' hR hE1 hm1 hm2 hu1 hu2 hne hne' hltB
         refine (list_w q _).mono ?_
         rintro e w2 ⟨v, rfl, hx2, hown⟩
         obtain ⟨A, cap, hv, hAt⟩ := hown.sl
         rw [List.length_map] at hv
         rw [hv]
         clear hown hv
         obtain ⟨f1, f2, f3, f4⟩ := (b0.ext hx2).facts 30 (cv_size _)
         have hE2 := hEX.trans hx2)
      | (go_at_call 19; refine (without_w p q.list A cap _ (list_len q) hAt).mono ?_; rintro e w3 ⟨rfl, hx3⟩; rw [HZe.out]))
    clear f1 f2 f3 f4
    obtain ⟨Y, hY⟩ : ∃ Y, Y = (w3.alloc (.cells (cv Cats.zero) 23)).setRow w3.heap.size (cv Z) := ⟨_, rfl⟩
    have hE3 := hx2.trans hx3
    have bZ : Blk Y w3.heap.size 23 (cv Z) := by rw [hY]; exact (Blk.new w3 23 (cv Cats.zero)).setRow _
    have hEY : Ext X Y := by rw [hY]; exact (hE3.alloc _).setRow hE3.size _
    have hE3Y : Ext w3 Y := by rw [hY]; exact (Ext.of_alloc w3 _).setRow (Nat.le_refl _) _
    have hAY := hAt.ext (hx3.trans hE3Y)
    rw [← hY]
    clear hY hx2 hx3 hE3 hE3Y hAt hE2
    have bUY := bU.ext hEY
    have bMY := bM.ext hEY
    have b0Y := b0.ext hEY
    have b1Y := b1.ext hEY
    have hEWY := hEW.trans (hEX.trans hEY)
    have htY := ht.ext hEWY
    clear bU bM b0 b1 hEX hEY
    refine wp_region_by (R := Ext) [([(5, none)], none), ([(22, some 0)], none), ([(6, none)], none), ([(24, some 2)], none), ([(23, some 1), (25, some 3)], none), ([(2, none)], none), ([(27, some 5)], none), ([(3, none)], none), ([(29, some 7)], none), ([(28, some 6), (30, some 8)], none), ([(26, some 4), (31, some 9)], none), ([(32, some 10)], none), ([(8, none), (33, some 11)], some (33, true)), ([(6, none), (33, some 11)], some (33, true)), ([(35, some 13), (33, some 11)], some (33, true)), ([(34, some 12), (36, some 14), (33, some 11)], some (33, true)), ([(2, none), (33, some 11)], some (33, true)), ([(37, some 15), (38, some 16), (33, some 11)], some (33, true)), ([(33, some 11), (39, some 17)], none), ([(40, some 18)], none), ([(2, none), (41, some 19)], some (41, true)), ([(7, none), (41, some 19)], some (41, true)), ([(42, some 20), (43, some 21), (41, some 19)], some (41, true)), ([(5, none), (41, some 19)], some (41, true)), ([(44, some 22), (45, some 23), (41, some 19)], some (41, true)), ([(41, some 19), (46, some 24)], none), ([(47, some 25)], none), ([(8, none), (48, some 26)], some (48, true)), ([(3, none), (48, some 26)], some (48, true)), ([(50, some 28), (48, some 26)], some (48, true)), ([(49, some 27), (51, some 29), (48, some 26)], some (48, true)), ([(48, some 26)], some (48, true))]
      [.ex ?r1v0, .ex ?r1v1, .ex ?r1v2, .ex ?r1v3, .ex ?r1v4, .ex ?r1v5, .ex ?r1v6, .ex ?r1v7, .ex ?r1v8, .ex ?r1v9, .ex ?r1v10, .ex ?r1v11, .ex ?r1v12, .ex ?r1v13, .un (PSl 1 (M.list.map iv)) false, .ex ?r1v15, .ex ?r1v16, .ex ?r1v17, .ex ?r1v18, .ex ?r1v19, .ex ?r1v20, .ex ?r1v21, .ex ?r1v22, .ex ?r1v23, .ex ?r1v24, .ex ?r1v25, .ex ?r1v26, .ex ?r1v27, .ex ?r1v28, .un (PSl 30 [cv q]) false, .ex ?r1v30, .ex ?r1v31]
      (by kernel_rfl) (fun _ _ _ h1 h2 => h1.trans h2) (fun _ _ h => h.size) (Ext.refl _) rfl (by kernel_rfl) ?r1st (And.intro ?r1o0 (And.intro ?r1o1 (And.intro ?r1o2 (And.intro ?r1o3 (And.intro ?r1o4 (And.intro ?r1o5 (And.intro ?r1o6 (And.intro ?r1o7 (And.intro ?r1o8 (And.intro ?r1o9 (And.intro ?r1o10 (And.intro ?r1o11 (And.intro ?r1o12 (And.intro ?r1o13 (And.intro ?r1o14 (And.intro ?r1o15 (And.intro ?r1o16 (And.intro ?r1o17 (And.intro ?r1o18 (And.intro ?r1o19 (And.intro ?r1o20 (And.intro ?r1o21 (And.intro ?r1o22 (And.intro ?r1o23 (And.intro ?r1o24 (And.intro ?r1o25 (And.intro ?r1o26 (And.intro ?r1o27 (And.intro ?r1o28 (And.intro ?r1o29 (And.intro ?r1o30 (And.intro ?r1o31 trivial)))))))))))))))))))))))))))))))) ?r1fin
    case r1o0 =>
      intro a w1 K hR hE hK; simp [go_sem, EnvF, Sp.says, mk, Act.eval] at hE; obtain ⟨f1, f2, f3, f4⟩ := (b0Y.drew.ext hR).facts 30 (cv_size _); obtain ⟨g1, g2, g3, g4⟩ := (b1Y.drew.ext hR).facts 30 (cv_size _); obtain ⟨h1, h2, h3, h4⟩ := (bUY.drew.ext hR).facts 30 (cv_size _); obtain ⟨k1, k2, k3, k4⟩ := (bMY.drew.ext hR).facts 30 (cv_size _); obtain ⟨l1, l2, l3, l4⟩ := (bZ.drew.ext hR).facts 30 (cv_size _); dsimp only [Runs]; go_simp; try go_bits
      go_wp2_with fail
      exact hK _ (Ext.refl _)
    case r1o1 =>
      intro a w1 K hR hE hK; simp [go_sem, EnvF, Sp.says, mk, Act.eval] at hE; obtain ⟨f1, f2, f3, f4⟩ := (b0Y.drew.ext hR).facts 30 (cv_size _); obtain ⟨g1, g2, g3, g4⟩ := (b1Y.drew.ext hR).facts 30 (cv_size _); obtain ⟨h1, h2, h3, h4⟩ := (bUY.drew.ext hR).facts 30 (cv_size _); obtain ⟨k1, k2, k3, k4⟩ := (bMY.drew.ext hR).facts 30 (cv_size _); obtain ⟨l1, l2, l3, l4⟩ := (bZ.drew.ext hR).facts 30 (cv_size _); dsimp only [Runs]; go_simp; try go_bits
      go_wp2_with fail
      refine (count_w U _).mono ?_; rintro e w' ⟨rfl, hx⟩; rw [Hcu.out]; exact hK _ hx
    case r1o2 =>
      intro a w1 K hR hE hK; simp [go_sem, EnvF, Sp.says, mk, Act.eval] at hE; obtain ⟨f1, f2, f3, f4⟩ := (b0Y.drew.ext hR).facts 30 (cv_size _); obtain ⟨g1, g2, g3, g4⟩ := (b1Y.drew.ext hR).facts 30 (cv_size _); obtain ⟨h1, h2, h3, h4⟩ := (bUY.drew.ext hR).facts 30 (cv_size _); obtain ⟨k1, k2, k3, k4⟩ := (bMY.drew.ext hR).facts 30 (cv_size _); obtain ⟨l1, l2, l3, l4⟩ := (bZ.drew.ext hR).facts 30 (cv_size _); dsimp only [Runs]; go_simp; try go_bits
      go_wp2_with fail
      exact hK _ (Ext.refl _)
    case r1o3 =>
      intro a w1 K hR hE hK; simp [go_sem, EnvF, Sp.says, mk, Act.eval] at hE; obtain ⟨f1, f2, f3, f4⟩ := (b0Y.drew.ext hR).facts 30 (cv_size _); obtain ⟨g1, g2, g3, g4⟩ := (b1Y.drew.ext hR).facts 30 (cv_size _); obtain ⟨h1, h2, h3, h4⟩ := (bUY.drew.ext hR).facts 30 (cv_size _); obtain ⟨k1, k2, k3, k4⟩ := (bMY.drew.ext hR).facts 30 (cv_size _); obtain ⟨l1, l2, l3, l4⟩ := (bZ.drew.ext hR).facts 30 (cv_size _); dsimp only [Runs]; go_simp; try go_bits
      go_wp2_with fail
      refine (count_w M _).mono ?_; rintro e w' ⟨rfl, hx⟩; rw [Hcm.out]; exact hK _ hx
    case r1o4 | r1o5 =>
      intro a w1 K hR hE hK; simp [go_sem, EnvF, Sp.says, mk, Act.eval] at hE; obtain ⟨f1, f2, f3, f4⟩ := (b0Y.drew.ext hR).facts 30 (cv_size _); obtain ⟨g1, g2, g3, g4⟩ := (b1Y.drew.ext hR).facts 30 (cv_size _); obtain ⟨h1, h2, h3, h4⟩ := (bUY.drew.ext hR).facts 30 (cv_size _); obtain ⟨k1, k2, k3, k4⟩ := (bMY.drew.ext hR).facts 30 (cv_size _); obtain ⟨l1, l2, l3, l4⟩ := (bZ.drew.ext hR).facts 30 (cv_size _); dsimp only [Runs]; go_simp; try go_bits
      go_wp2_with fail
      exact hK _ (Ext.refl _)
    case r1o6 =>
      intro a w1 K hR hE hK; simp [go_sem, EnvF, Sp.says, mk, Act.eval] at hE; obtain ⟨f1, f2, f3, f4⟩ := (b0Y.drew.ext hR).facts 30 (cv_size _); obtain ⟨g1, g2, g3, g4⟩ := (b1Y.drew.ext hR).facts 30 (cv_size _); obtain ⟨h1, h2, h3, h4⟩ := (bUY.drew.ext hR).facts 30 (cv_size _); obtain ⟨k1, k2, k3, k4⟩ := (bMY.drew.ext hR).facts 30 (cv_size _); obtain ⟨l1, l2, l3, l4⟩ := (bZ.drew.ext hR).facts 30 (cv_size _); dsimp only [Runs]; go_simp; try go_bits
      go_wp2_with fail
      refine (count_w p _).mono ?_; rintro e w' ⟨rfl, hx⟩; rw [Hcp.out]; exact hK _ hx
    case r1o7 =>
      intro a w1 K hR hE hK; simp [go_sem, EnvF, Sp.says, mk, Act.eval] at hE; obtain ⟨f1, f2, f3, f4⟩ := (b0Y.drew.ext hR).facts 30 (cv_size _); obtain ⟨g1, g2, g3, g4⟩ := (b1Y.drew.ext hR).facts 30 (cv_size _); obtain ⟨h1, h2, h3, h4⟩ := (bUY.drew.ext hR).facts 30 (cv_size _); obtain ⟨k1, k2, k3, k4⟩ := (bMY.drew.ext hR).facts 30 (cv_size _); obtain ⟨l1, l2, l3, l4⟩ := (bZ.drew.ext hR).facts 30 (cv_size _); dsimp only [Runs]; go_simp; try go_bits
      go_wp2_with fail
      exact hK _ (Ext.refl _)
    case r1o8 =>
      intro a w1 K hR hE hK; simp [go_sem, EnvF, Sp.says, mk, Act.eval] at hE; obtain ⟨f1, f2, f3, f4⟩ := (b0Y.drew.ext hR).facts 30 (cv_size _); obtain ⟨g1, g2, g3, g4⟩ := (b1Y.drew.ext hR).facts 30 (cv_size _); obtain ⟨h1, h2, h3, h4⟩ := (bUY.drew.ext hR).facts 30 (cv_size _); obtain ⟨k1, k2, k3, k4⟩ := (bMY.drew.ext hR).facts 30 (cv_size _); obtain ⟨l1, l2, l3, l4⟩ := (bZ.drew.ext hR).facts 30 (cv_size _); dsimp only [Runs]; go_simp; try go_bits
      go_wp2_with fail
      refine (count_w q _).mono ?_; rintro e w' ⟨rfl, hx⟩; rw [Hcq.out]; exact hK _ hx
    case r1o9 | r1o10 | r1o11 | r1o12 | r1o13 =>
      intro a w1 K hR hE hK; simp [go_sem, EnvF, Sp.says, mk, Act.eval] at hE; obtain ⟨f1, f2, f3, f4⟩ := (b0Y.drew.ext hR).facts 30 (cv_size _); obtain ⟨g1, g2, g3, g4⟩ := (b1Y.drew.ext hR).facts 30 (cv_size _); obtain ⟨h1, h2, h3, h4⟩ := (bUY.drew.ext hR).facts 30 (cv_size _); obtain ⟨k1, k2, k3, k4⟩ := (bMY.drew.ext hR).facts 30 (cv_size _); obtain ⟨l1, l2, l3, l4⟩ := (bZ.drew.ext hR).facts 30 (cv_size _); dsimp only [Runs]; go_simp; try go_bits
      go_wp2_with fail
      exact hK _ (Ext.refl _)
    case r1o14 =>
      intro a w1 K hR hE hK; simp [go_sem, EnvF, Sp.says, mk, Act.eval] at hE; obtain ⟨f1, f2, f3, f4⟩ := (b0Y.drew.ext hR).facts 30 (cv_size _); obtain ⟨g1, g2, g3, g4⟩ := (b1Y.drew.ext hR).facts 30 (cv_size _); obtain ⟨h1, h2, h3, h4⟩ := (bUY.drew.ext hR).facts 30 (cv_size _); obtain ⟨k1, k2, k3, k4⟩ := (bMY.drew.ext hR).facts 30 (cv_size _); obtain ⟨l1, l2, l3, l4⟩ := (bZ.drew.ext hR).facts 30 (cv_size _); dsimp only [Runs]; go_simp; try go_bits
      go_wp2_with fail
      refine (list_w M _).mono ?_; rintro e w' ⟨v, rfl, hx, hown⟩; exact hK _ _ hx hown.sl (fun h => by cases h)
    case r1o15 =>
      intro a w1 K hR hE hK; simp [go_sem, EnvF, Sp.says, mk, Act.eval] at hE; obtain ⟨f1, f2, f3, f4⟩ := (b0Y.drew.ext hR).facts 30 (cv_size _); obtain ⟨g1, g2, g3, g4⟩ := (b1Y.drew.ext hR).facts 30 (cv_size _); obtain ⟨h1, h2, h3, h4⟩ := (bUY.drew.ext hR).facts 30 (cv_size _); obtain ⟨k1, k2, k3, k4⟩ := (bMY.drew.ext hR).facts 30 (cv_size _); obtain ⟨l1, l2, l3, l4⟩ := (bZ.drew.ext hR).facts 30 (cv_size _); dsimp only [Runs]; go_simp; try go_bits
      go_wp2_with fail
      obtain ⟨hE1, ⟨A', cap', hv, hAt⟩, hE2⟩ := hE; rw [List.length_map] at hv; rw [hv]; refine (with_w Z M.list A' cap' _ (list_len M) hAt).mono ?_; rintro e w' ⟨rfl, hx⟩; rw [Hw1.out]; exact hK _ hx
    case r1o16 | r1o17 | r1o18 | r1o19 | r1o20 | r1o21 =>
      intro a w1 K hR hE hK; simp [go_sem, EnvF, Sp.says, mk, Act.eval] at hE; obtain ⟨f1, f2, f3, f4⟩ := (b0Y.drew.ext hR).facts 30 (cv_size _); obtain ⟨g1, g2, g3, g4⟩ := (b1Y.drew.ext hR).facts 30 (cv_size _); obtain ⟨h1, h2, h3, h4⟩ := (bUY.drew.ext hR).facts 30 (cv_size _); obtain ⟨k1, k2, k3, k4⟩ := (bMY.drew.ext hR).facts 30 (cv_size _); obtain ⟨l1, l2, l3, l4⟩ := (bZ.drew.ext hR).facts 30 (cv_size _); dsimp only [Runs]; go_simp; try go_bits
      go_wp2_with fail
      exact hK _ (Ext.refl _)
    case r1o22 =>
      intro a w1 K hR hE hK; simp [go_sem, EnvF, Sp.says, mk, Act.eval] at hE; obtain ⟨f1, f2, f3, f4⟩ := (b0Y.drew.ext hR).facts 30 (cv_size _); obtain ⟨g1, g2, g3, g4⟩ := (b1Y.drew.ext hR).facts 30 (cv_size _); obtain ⟨h1, h2, h3, h4⟩ := (bUY.drew.ext hR).facts 30 (cv_size _); obtain ⟨k1, k2, k3, k4⟩ := (bMY.drew.ext hR).facts 30 (cv_size _); obtain ⟨l1, l2, l3, l4⟩ := (bZ.drew.ext hR).facts 30 (cv_size _); dsimp only [Runs]; go_simp; try go_bits
      go_wp2_with fail
      refine (with_w p q.list A cap _ (list_len q) (hAY.ext ((Ext.refl _).drew.trans hR))).mono ?_; rintro e w' ⟨rfl, hx⟩; rw [Hw2.out]; exact hK _ hx
    case r1o23 | r1o24 | r1o25 | r1o26 | r1o27 | r1o28 =>
      intro a w1 K hR hE hK; simp [go_sem, EnvF, Sp.says, mk, Act.eval] at hE; obtain ⟨f1, f2, f3, f4⟩ := (b0Y.drew.ext hR).facts 30 (cv_size _); obtain ⟨g1, g2, g3, g4⟩ := (b1Y.drew.ext hR).facts 30 (cv_size _); obtain ⟨h1, h2, h3, h4⟩ := (bUY.drew.ext hR).facts 30 (cv_size _); obtain ⟨k1, k2, k3, k4⟩ := (bMY.drew.ext hR).facts 30 (cv_size _); obtain ⟨l1, l2, l3, l4⟩ := (bZ.drew.ext hR).facts 30 (cv_size _); dsimp only [Runs]; go_simp; try go_bits
      go_wp2_with fail
      exact hK _ (Ext.refl _)
    case r1o29 =>
      intro a w1 K hR hE hK; simp [go_sem, EnvF, Sp.says, mk, Act.eval] at hE; obtain ⟨f1, f2, f3, f4⟩ := (b0Y.drew.ext hR).facts 30 (cv_size _); obtain ⟨g1, g2, g3, g4⟩ := (b1Y.drew.ext hR).facts 30 (cv_size _); obtain ⟨h1, h2, h3, h4⟩ := (bUY.drew.ext hR).facts 30 (cv_size _); obtain ⟨k1, k2, k3, k4⟩ := (bMY.drew.ext hR).facts 30 (cv_size _); obtain ⟨l1, l2, l3, l4⟩ := (bZ.drew.ext hR).facts 30 (cv_size _); dsimp only [Runs]; go_simp; try go_bits
      go_wp2_with fail
      exact hK _ _ (Ext.of_alloc _ _) (Sl.many w1 _ (es := [cv q]) (by simp [cv_size])) (fun h => by cases h)
    case r1o30 =>
      intro a w1 K hR hE hK; simp [go_sem, EnvF, Sp.says, mk, Act.eval] at hE; obtain ⟨f1, f2, f3, f4⟩ := (b0Y.drew.ext hR).facts 30 (cv_size _); obtain ⟨g1, g2, g3, g4⟩ := (b1Y.drew.ext hR).facts 30 (cv_size _); obtain ⟨h1, h2, h3, h4⟩ := (bUY.drew.ext hR).facts 30 (cv_size _); obtain ⟨k1, k2, k3, k4⟩ := (bMY.drew.ext hR).facts 30 (cv_size _); obtain ⟨l1, l2, l3, l4⟩ := (bZ.drew.ext hR).facts 30 (cv_size _); dsimp only [Runs]; go_simp; try go_bits
      go_wp2_with fail
      obtain ⟨hE1, ⟨A', cap', hv, hAt⟩, hE2⟩ := hE; rw [hv]; refine (meet_w Z [q] A' cap' _ (by simp) hAt).mono ?_; rintro e w' ⟨rfl, hx⟩; rw [Hw3.out]; exact hK _ hx
    case r1o31 =>
      intro a w1 K hR hE hK; simp [go_sem, EnvF, Sp.says, mk, Act.eval] at hE; obtain ⟨f1, f2, f3, f4⟩ := (b0Y.drew.ext hR).facts 30 (cv_size _); obtain ⟨g1, g2, g3, g4⟩ := (b1Y.drew.ext hR).facts 30 (cv_size _); obtain ⟨h1, h2, h3, h4⟩ := (bUY.drew.ext hR).facts 30 (cv_size _); obtain ⟨k1, k2, k3, k4⟩ := (bMY.drew.ext hR).facts 30 (cv_size _); obtain ⟨l1, l2, l3, l4⟩ := (bZ.drew.ext hR).facts 30 (cv_size _); dsimp only [Runs]; go_simp; try go_bits
      go_wp2_with fail
      exact hK _ (Ext.refl _)
    case r1st => simp only [StOk]; exact ⟨PSl.st, PSl.st, trivial⟩
    case r1fin =>
      simp only [FinR, mk, Act.put, List.length_cons, List.length_nil, Nat.reduceAdd, Nat.zero_add, List.drop_succ_cons, List.drop_zero, List.setIfInBounds_toArray, List.set_cons_succ, List.set_cons_zero]
      intro u1 u2 w9 hR _ _
      have hE9 := (Ext.refl Y).drew.trans hR
      go_wp2_with (go_at_call 14; refine (awake_w _ (htY.ext hE9)).mono ?_; rintro e w' ⟨rfl, hx⟩)
      go_ret
      exact ⟨rfl, (hEWY.trans hE9).trans hx⟩
end Go.Proofs.YtpgpfcdkkhfemaaDoor
