/- gueritelaw08.CatsMeets answers true at any three sets, and leaves what lay in memory as it was. -/
import Derived.Test.YtpgpfcdkkhfemaaDoorWAwake
import Derived.Test.YtpgpfcdkkhfemaaDoorCats3
open Go.RowKit Go.Reg Go.Gu
namespace Go.Proofs.YtpgpfcdkkhfemaaDoor
set_option maxHeartbeats 1000000
@[go_sem] theorem cats_beq (c : Cats) : (c == c) = true := by simp
set_option maxRecDepth 100000 in
theorem meets_w (p q r : Cats) (w : World) (ht : TabOk w) : Calls Tryd.prog 4 #[.agg (cv p), .agg (cv q), .agg (cv r)] w fun e w' => e = .returned (.bool true) ∧ Ext w w' := by
  go_enter Tryd.func4, Tryd.ntmps4
  go_wp2_with fail
  obtain ⟨W, hW⟩ : ∃ W, W = ((w.alloc (.cells (cv p) 23)).alloc (.cells (cv q) 23)).alloc (.cells (cv r) 23) := ⟨_, rfl⟩
  have hB0 : Blk W w.heap.size 23 (cv p) := by rw [hW]; exact ((Blk.new w 23 (cv p)).alloc _).alloc _
  have hB1 : Blk W (w.heap.size + 1) 23 (cv q) := by rw [hW]; simpa using (Blk.new (w.alloc (.cells (cv p) 23)) 23 (cv q)).alloc _
  have hB2 : Blk W (w.heap.size + 2) 23 (cv r) := by rw [hW]; simpa using Blk.new ((w.alloc (.cells (cv p) 23)).alloc (.cells (cv q) 23)) 23 (cv r)
  have hEW : Ext w W := by rw [hW]; exact ((Ext.of_alloc w _).alloc _).alloc _
  rw [← hW]
  clear hW
  refine wp_region_by (R := Ext) [([(3, none)], none), ([(4, none)], none), ([(5, none)], none), ([(13, some 0), (14, some 1), (15, some 2)], none), ([(16, some 3)], none), ([(3, none)], none), ([(4, none)], none), ([(5, none)], none), ([(19, some 6), (20, some 7)], none), ([(18, some 5), (21, some 8)], none), ([], none), ([], none)]
    [.ex ?r4v0, .ex ?r4v1, .ex ?r4v2, .un (PSl 30 [cv p, cv q, cv r]) true, .ex ?r4v4, .ex ?r4v5, .ex ?r4v6, .ex ?r4v7, .un (PSl 30 [cv q, cv r]) true, .ex ?r4v9, .un (PBlk 23 (cv Cats.zero)) true, .un (PBlk 23 (cv Cats.zero)) true]
    (by kernel_rfl) (fun _ _ _ h1 h2 => h1.trans h2) (fun _ _ h => h.size) (Ext.refl _) rfl (by kernel_rfl) ?r4st (And.intro ?r4o0 (And.intro ?r4o1 (And.intro ?r4o2 (And.intro ?r4o3 (And.intro ?r4o4 (And.intro ?r4o5 (And.intro ?r4o6 (And.intro ?r4o7 (And.intro ?r4o8 (And.intro ?r4o9 (And.intro ?r4o10 (And.intro ?r4o11 trivial)))))))))))) ?r4fin
  case r4o0 | r4o1 | r4o2 =>
    intro a w1 K hR hE hK; simp [go_sem, EnvF, Sp.says, mk, Act.eval] at hE; obtain ⟨f1, f2, f3, f4⟩ := (hB0.drew.ext hR).facts 30 (cv_size _); obtain ⟨g1, g2, g3, g4⟩ := (hB1.drew.ext hR).facts 30 (cv_size _); obtain ⟨h1, h2, h3, h4⟩ := (hB2.drew.ext hR).facts 30 (cv_size _); dsimp only [Runs]; go_simp; try go_bits
    go_wp2_with fail
    exact hK _ (Ext.refl _)
  case r4o3 =>
    intro a w1 K hR hE hK; simp [go_sem, EnvF, Sp.says, mk, Act.eval] at hE; obtain ⟨f1, f2, f3, f4⟩ := (hB0.drew.ext hR).facts 30 (cv_size _); obtain ⟨g1, g2, g3, g4⟩ := (hB1.drew.ext hR).facts 30 (cv_size _); obtain ⟨h1, h2, h3, h4⟩ := (hB2.drew.ext hR).facts 30 (cv_size _); dsimp only [Runs]; go_simp; try go_bits
    go_wp2_with fail
    exact hK _ _ (Ext.of_alloc _ _) (Sl.many w1 _ (es := [cv p, cv q, cv r]) (by simp [cv_size])) (fun _ => Fr.slice _ _ _ _)
  case r4o4 =>
    intro a w1 K hR hE hK; simp [go_sem, EnvF, Sp.says, mk, Act.eval] at hE; obtain ⟨f1, f2, f3, f4⟩ := (hB0.drew.ext hR).facts 30 (cv_size _); obtain ⟨g1, g2, g3, g4⟩ := (hB1.drew.ext hR).facts 30 (cv_size _); obtain ⟨h1, h2, h3, h4⟩ := (hB2.drew.ext hR).facts 30 (cv_size _); dsimp only [Runs]; go_simp; try go_bits
    go_wp2_with fail
    obtain ⟨A, cap, hv, hAt⟩ := hE; rw [hv]; refine (union_w [p, q, r] A cap _ (by simp) hAt).mono ?_; rintro e w' ⟨rfl, hx⟩; exact hK _ hx
  case r4o5 | r4o6 | r4o7 =>
    intro a w1 K hR hE hK; simp [go_sem, EnvF, Sp.says, mk, Act.eval] at hE; obtain ⟨f1, f2, f3, f4⟩ := (hB0.drew.ext hR).facts 30 (cv_size _); obtain ⟨g1, g2, g3, g4⟩ := (hB1.drew.ext hR).facts 30 (cv_size _); obtain ⟨h1, h2, h3, h4⟩ := (hB2.drew.ext hR).facts 30 (cv_size _); dsimp only [Runs]; go_simp; try go_bits
    go_wp2_with fail
    exact hK _ (Ext.refl _)
  case r4o8 =>
    intro a w1 K hR hE hK; simp [go_sem, EnvF, Sp.says, mk, Act.eval] at hE; obtain ⟨f1, f2, f3, f4⟩ := (hB0.drew.ext hR).facts 30 (cv_size _); obtain ⟨g1, g2, g3, g4⟩ := (hB1.drew.ext hR).facts 30 (cv_size _); obtain ⟨h1, h2, h3, h4⟩ := (hB2.drew.ext hR).facts 30 (cv_size _); dsimp only [Runs]; go_simp; try go_bits
    go_wp2_with fail
    exact hK _ _ (Ext.of_alloc _ _) (Sl.many w1 _ (es := [cv q, cv r]) (by simp [cv_size])) (fun _ => Fr.slice _ _ _ _)
  case r4o9 =>
    intro a w1 K hR hE hK; simp [go_sem, EnvF, Sp.says, mk, Act.eval] at hE; obtain ⟨f1, f2, f3, f4⟩ := (hB0.drew.ext hR).facts 30 (cv_size _); obtain ⟨g1, g2, g3, g4⟩ := (hB1.drew.ext hR).facts 30 (cv_size _); obtain ⟨h1, h2, h3, h4⟩ := (hB2.drew.ext hR).facts 30 (cv_size _); dsimp only [Runs]; go_simp; try go_bits
    go_wp2_with fail
    obtain ⟨hE1, A, cap, hv, hAt⟩ := hE; rw [hv]; refine (meet_w p [q, r] A cap _ (by simp) hAt).mono ?_; rintro e w' ⟨rfl, hx⟩; exact hK _ hx
  case r4o10 =>
    intro a w1 K hR hE hK; simp [go_sem, EnvF, Sp.says, mk, Act.eval] at hE; obtain ⟨f1, f2, f3, f4⟩ := (hB0.drew.ext hR).facts 30 (cv_size _); obtain ⟨g1, g2, g3, g4⟩ := (hB1.drew.ext hR).facts 30 (cv_size _); obtain ⟨h1, h2, h3, h4⟩ := (hB2.drew.ext hR).facts 30 (cv_size _); dsimp only [Runs]; go_simp; try go_bits
    go_wp2_with fail
    exact hK _ _ (Ext.of_alloc _ _) ⟨_, rfl, Blk.new _ _ _⟩ (fun _ => Fr.ptr _ _)
  case r4o11 =>
    intro a w1 K hR hE hK; simp [go_sem, EnvF, Sp.says, mk, Act.eval] at hE; obtain ⟨f1, f2, f3, f4⟩ := (hB0.drew.ext hR).facts 30 (cv_size _); obtain ⟨g1, g2, g3, g4⟩ := (hB1.drew.ext hR).facts 30 (cv_size _); obtain ⟨h1, h2, h3, h4⟩ := (hB2.drew.ext hR).facts 30 (cv_size _); dsimp only [Runs]; go_simp; try go_bits
    go_wp2_with fail
    exact hK _ _ (Ext.of_alloc _ _) ⟨_, rfl, Blk.new _ _ _⟩ (fun _ => Fr.ptr _ _)
  case r4st => simp only [StOk]; exact ⟨PSl.st, PSl.st, PBlk.st, PBlk.st, trivial⟩
  case r4fin =>
    simp only [FinR, mk, Act.put, List.length_cons, List.length_nil, Nat.reduceAdd, Nat.zero_add, List.drop_succ_cons, List.drop_zero, List.setIfInBounds_toArray, List.set_cons_succ, List.set_cons_zero]
    intro v1 v2 v3 v4 w1 hR hF hAp
    obtain ⟨⟨_, gu, hv3, hU⟩, gm, hv4, hM⟩ := hF
    rw [hv3, hv4] at hAp
    simp only [↓reduceIte] at hAp
    rw [hv3, hv4]
    obtain ⟨hA4, hA43, hA3, _⟩ := hAp
    obtain ⟨hm1, hm2⟩ := hA4 gm rfl
    obtain ⟨hu1, hu2⟩ := hA3 gu rfl
    have hne : gm ≠ gu := fun e => hA43 (.pointer (some ⟨gu, 0, none⟩)) (by simp) gm rfl (by rw [e]; rfl)
    have hne' : gu ≠ gm := fun e => hne e.symm
    have hsz : W.drew.heap.size = W.heap.size := rfl
    rw [hsz] at hm1 hu1
    have hltB := hB2.lt
    clear hA4 hA43 hA3 hv3 hv4 hsz
    obtain ⟨f1, f2, f3, f4⟩ := hU.facts 30 (cv_size _)
    obtain ⟨g1, g2, g3, g4⟩ := hM.facts 30 (cv_size _)
    have hB0' := hB0.drew.ext hR
    have hB1' := hB1.drew.ext hR
    have hB2' := hB2.drew.ext hR
    have hE1 : Ext W w1 := (Ext.refl W).drew.trans hR
    have hex : ∃ U M, U = Cats.union [p, q, r] ∧ M = Cats.meet p [q, r] := ⟨_, _, rfl, rfl⟩
    obtain ⟨U, M, hUe, hMe⟩ := hex
    rw [← hUe, ← hMe]
    have hhU : ∀ k : Nat, U.has (k : Int) = (p.has (k : Int) || (q.has (k : Int) || r.has (k : Int))) := fun k => by rw [hUe, Cats.has_union]; simp
    have hhM : ∀ k : Nat, M.has (k : Int) = (p.has (k : Int) && (q.has (k : Int) && r.has (k : Int))) := fun k => by rw [hMe, Cats.has_meet]; simp
    have HhU := Lib.hid hhU; clear hhU hUe
    have HhM := Lib.hid hhM; clear hhM hMe
    clear hB0 hB1 hB2
    go_wp2_with fail
    clear f1 f2 f3 f4 g1 g2 g3 g4
    obtain ⟨X, hX⟩ : ∃ X, X = (w1.setRow gu (cv U)).setRow gm (cv M) := ⟨_, rfl⟩
    have bU : Blk X gu 23 (cv U) := by rw [hX]; exact (hU.setRow _).farRow hne' _
    have bM : Blk X gm 23 (cv M) := by rw [hX]; exact (hM.farRow hne _).setRow _
    have b0 : Blk X w.heap.size 23 (cv p) := by rw [hX]; exact (hB0'.farRow (by omega) _).farRow (by omega) _
    have b1 : Blk X (w.heap.size + 1) 23 (cv q) := by rw [hX]; exact (hB1'.farRow (by omega) _).farRow (by omega) _
    have b2 : Blk X (w.heap.size + 2) 23 (cv r) := by rw [hX]; exact (hB2'.farRow (by omega) _).farRow (by omega) _
    have hEX : Ext W X := by rw [hX]; exact (hE1.setRow hu1 _).setRow hm1 _
    rw [← hX]
    clear hX hU hM hB0' hB1' hB2' hR hE1 hm1 hm2 hu1 hu2 hne hne' hltB
    go_loopw [9] (fun s9 wr => ∃ k : Nat, k ≤ 240 ∧ s9 = .int .i64 k ∧ Ext X wr) (fun s9 _ => 240 - (intOf s9).toNat)
    case atStart => exact ⟨0, by omega, rfl, Ext.refl _⟩
    case round =>
      obtain ⟨k, hk, rfl, hEr⟩ := hrel
      by_cases hlt : k < 240
      · go_wp2_with fail
        refine wp_region_by (R := Ext) [([(3, none)], none), ([(9, none)], none), ([(27, some 0), (28, some 1)], none), ([(4, none)], none), ([(9, none)], none), ([(30, some 3), (31, some 4)], none), ([(5, none)], none), ([(9, none)], none)]
          [.ex ?r3v0, .ex ?r3v1, .ex ?r3v2, .ex ?r3v3, .ex ?r3v4, .ex ?r3v5, .ex ?r3v6, .ex ?r3v7]
          (by kernel_rfl) (fun _ _ _ h1 h2 => h1.trans h2) (fun _ _ h => h.size) (Ext.refl _) rfl (by kernel_rfl) ?r3st (And.intro ?r3o0 (And.intro ?r3o1 (And.intro ?r3o2 (And.intro ?r3o3 (And.intro ?r3o4 (And.intro ?r3o5 (And.intro ?r3o6 (And.intro ?r3o7 trivial)))))))) ?r3fin
        case r3o0 | r3o1 =>
          intro a w1 K hR hE hK; simp [go_sem, EnvF, Sp.says, mk, Act.eval] at hE; have hE5 := hEr.drew.trans hR; obtain ⟨f1, f2, f3, f4⟩ := (b0.ext hE5).facts 30 (cv_size _); obtain ⟨g1, g2, g3, g4⟩ := (b1.ext hE5).facts 30 (cv_size _); obtain ⟨h1, h2, h3, h4⟩ := (b2.ext hE5).facts 30 (cv_size _); dsimp only [Runs]; go_simp; try go_bits
          go_wp2_with fail
          exact hK _ (Ext.refl _)
        case r3o2 =>
          intro a w1 K hR hE hK; simp [go_sem, EnvF, Sp.says, mk, Act.eval] at hE; have hE5 := hEr.drew.trans hR; obtain ⟨f1, f2, f3, f4⟩ := (b0.ext hE5).facts 30 (cv_size _); obtain ⟨g1, g2, g3, g4⟩ := (b1.ext hE5).facts 30 (cv_size _); obtain ⟨h1, h2, h3, h4⟩ := (b2.ext hE5).facts 30 (cv_size _); dsimp only [Runs]; go_simp; try go_bits
          go_wp2_with fail
          refine (rhas_w p _ _).mono ?_; rintro e w' ⟨rfl, hx⟩; exact hK _ hx
        case r3o3 | r3o4 =>
          intro a w1 K hR hE hK; simp [go_sem, EnvF, Sp.says, mk, Act.eval] at hE; have hE5 := hEr.drew.trans hR; obtain ⟨f1, f2, f3, f4⟩ := (b0.ext hE5).facts 30 (cv_size _); obtain ⟨g1, g2, g3, g4⟩ := (b1.ext hE5).facts 30 (cv_size _); obtain ⟨h1, h2, h3, h4⟩ := (b2.ext hE5).facts 30 (cv_size _); dsimp only [Runs]; go_simp; try go_bits
          go_wp2_with fail
          exact hK _ (Ext.refl _)
        case r3o5 =>
          intro a w1 K hR hE hK; simp [go_sem, EnvF, Sp.says, mk, Act.eval] at hE; have hE5 := hEr.drew.trans hR; obtain ⟨f1, f2, f3, f4⟩ := (b0.ext hE5).facts 30 (cv_size _); obtain ⟨g1, g2, g3, g4⟩ := (b1.ext hE5).facts 30 (cv_size _); obtain ⟨h1, h2, h3, h4⟩ := (b2.ext hE5).facts 30 (cv_size _); dsimp only [Runs]; go_simp; try go_bits
          go_wp2_with fail
          refine (rhas_w q _ _).mono ?_; rintro e w' ⟨rfl, hx⟩; exact hK _ hx
        case r3o6 | r3o7 =>
          intro a w1 K hR hE hK; simp [go_sem, EnvF, Sp.says, mk, Act.eval] at hE; have hE5 := hEr.drew.trans hR; obtain ⟨f1, f2, f3, f4⟩ := (b0.ext hE5).facts 30 (cv_size _); obtain ⟨g1, g2, g3, g4⟩ := (b1.ext hE5).facts 30 (cv_size _); obtain ⟨h1, h2, h3, h4⟩ := (b2.ext hE5).facts 30 (cv_size _); dsimp only [Runs]; go_simp; try go_bits
          go_wp2_with fail
          exact hK _ (Ext.refl _)
        case r3st => simp only [StOk]
        case r3fin =>
          simp only [FinR, mk, Act.put, List.length_cons, List.length_nil, Nat.reduceAdd, Nat.zero_add, List.drop_succ_cons, List.drop_zero, List.setIfInBounds_toArray, List.set_cons_succ, List.set_cons_zero]
          intro w5 hR _ _
          have hE5 := hEr.drew.trans hR
          clear hR hEr
          have e1 := HhU.out k
          have e2 := HhM.out k
          have bU5 := bU.ext hE5
          have bM5 := bM.ext hE5
          generalize p.has (k : Int) = x at *
          generalize q.has (k : Int) = y at *
          generalize hz : r.has (k : Int) = z at *
          have E1 := Lib.hid e1; clear e1
          have E2 := Lib.hid e2; clear e2
          have Hz := Lib.hid hz; clear hz
          cases x <;> cases y <;> cases z
          all_goals
            go_wp2_with (first | (go_at_call_of 21 (Value.agg (cv r)); refine (rhas_w r _ _).mono ?_; rintro e w6 ⟨rfl, hx6⟩; rw [Hz.out]; have bU6 := bU5.ext hx6; have bM6 := bM5.ext hx6; obtain ⟨U1, U2, U3, U4⟩ := bU6.facts 30 (cv_size _)) | (go_at_call_of 21 (Value.agg (cv U)); refine (rhas_w U _ _).mono ?_; rintro e w7 ⟨rfl, hx7⟩; rw [E1.out]; obtain ⟨M1, M2, M3, M4⟩ := (bM6.ext hx7).facts 30 (cv_size _)) | (go_at_call_of 21 (Value.agg (cv M)); refine (rhas_w M _ _).mono ?_; rintro e w8 ⟨rfl, hx8⟩; rw [E2.out]))
            go_roundw
            case rel => exact ⟨k + 1, by omega, by go_num, ((hE5.trans hx6).trans hx7).trans hx8⟩
            case measure => simp [intOf]; omega
      · obtain rfl : k = 240 := by omega
        go_wp2_with fail
        have hw1 : M.within p = true := by
          rw [Cats.within_iff]; intro k _ h; rw [HhM.out k] at h; simp at h; exact h.1
        have hw2 : p.within U = true := by
          rw [Cats.within_iff]; intro k _ h; rw [HhU.out k, h]; simp
        have Hw1 := Lib.hid hw1; clear hw1
        have Hw2 := Lib.hid hw2; clear hw2
        have hm0 : Cats.meet p [] = p := rfl
        have Hm0 := Lib.hid hm0; clear hm0
        have hu0 : Cats.union [] = Cats.zero := rfl
        have Hu0 := Lib.hid hu0; clear hu0
        obtain ⟨b, hw⟩ : ∃ b, p.within q = b := ⟨_, rfl⟩
        have Hw := Lib.hid hw; clear hw
        have Hr := Lib.hid (Cats.rwithin_eq p q)
        have htX := ht.ext (hEW.trans hEX)
        cases b
        ·
          refine wp_region_by (R := Ext) [([(3, none)], none), ([(4, none)], none), ([(60, some 0), (61, some 1)], none), ([(3, none)], none), ([(4, none)], none), ([(63, some 3), (64, some 4)], none), ([(62, some 2), (65, some 5)], none), ([(66, some 6)], none), ([(8, none), (67, some 7)], some (67, true)), ([(3, none), (67, some 7)], some (67, true)), ([(68, some 8), (69, some 9), (67, some 7)], some (67, true)), ([(67, some 7), (70, some 10)], none), ([(71, some 11)], none), ([(3, none), (72, some 12)], some (72, true)), ([(7, none), (72, some 12)], some (72, true)), ([(73, some 13), (74, some 14), (72, some 12)], some (72, true)), ([(72, some 12), (75, some 15)], none), ([(76, some 16)], none), ([(3, none), (77, some 17)], some (77, true)), ([(78, some 18), (77, some 17)], some (77, true)), ([(3, none), (77, some 17)], some (77, true)), ([(79, some 19), (80, some 20), (77, some 17)], some (77, true)), ([(77, some 17), (81, some 21)], none), ([(82, some 22)], none), ([(83, some 23)], some (83, true)), ([(83, some 23)], some (83, true))]
            [.ex ?r2v0, .ex ?r2v1, .ex ?r2v2, .ex ?r2v3, .ex ?r2v4, .ex ?r2v5, .ex ?r2v6, .ex ?r2v7, .ex ?r2v8, .ex ?r2v9, .ex ?r2v10, .ex ?r2v11, .ex ?r2v12, .ex ?r2v13, .ex ?r2v14, .ex ?r2v15, .ex ?r2v16, .ex ?r2v17, .ex ?r2v18, .ex ?r2v19, .ex ?r2v20, .ex ?r2v21, .ex ?r2v22, .ex ?r2v23, .ex ?r2v24, .ex ?r2v25]
            (by kernel_rfl) (fun _ _ _ h1 h2 => h1.trans h2) (fun _ _ h => h.size) (Ext.refl _) rfl (by kernel_rfl) ?r2st (And.intro ?r2o0 (And.intro ?r2o1 (And.intro ?r2o2 (And.intro ?r2o3 (And.intro ?r2o4 (And.intro ?r2o5 (And.intro ?r2o6 (And.intro ?r2o7 (And.intro ?r2o8 (And.intro ?r2o9 (And.intro ?r2o10 (And.intro ?r2o11 (And.intro ?r2o12 (And.intro ?r2o13 (And.intro ?r2o14 (And.intro ?r2o15 (And.intro ?r2o16 (And.intro ?r2o17 (And.intro ?r2o18 (And.intro ?r2o19 (And.intro ?r2o20 (And.intro ?r2o21 (And.intro ?r2o22 (And.intro ?r2o23 (And.intro ?r2o24 (And.intro ?r2o25 trivial)))))))))))))))))))))))))) ?r2fin
          case r2o0 | r2o1 =>
            intro a w1 K hR hE hK; simp [go_sem, EnvF, Sp.says, mk, Act.eval] at hE; have hE5 := hEr.drew.trans hR; obtain ⟨f1, f2, f3, f4⟩ := (b0.ext hE5).facts 30 (cv_size _); obtain ⟨g1, g2, g3, g4⟩ := (b1.ext hE5).facts 30 (cv_size _); obtain ⟨h1, h2, h3, h4⟩ := (bU.ext hE5).facts 30 (cv_size _); obtain ⟨k1, k2, k3, k4⟩ := (bM.ext hE5).facts 30 (cv_size _); dsimp only [Runs]; go_simp; try go_bits
            go_wp2_with fail
            exact hK _ (Ext.refl _)
          case r2o2 =>
            intro a w1 K hR hE hK; simp [go_sem, EnvF, Sp.says, mk, Act.eval] at hE; have hE5 := hEr.drew.trans hR; obtain ⟨f1, f2, f3, f4⟩ := (b0.ext hE5).facts 30 (cv_size _); obtain ⟨g1, g2, g3, g4⟩ := (b1.ext hE5).facts 30 (cv_size _); obtain ⟨h1, h2, h3, h4⟩ := (bU.ext hE5).facts 30 (cv_size _); obtain ⟨k1, k2, k3, k4⟩ := (bM.ext hE5).facts 30 (cv_size _); dsimp only [Runs]; go_simp; try go_bits
            go_wp2_with fail
            refine (within_w p q _).mono ?_; rintro e w' ⟨rfl, hx⟩; rw [Hw.out]; exact hK _ hx
          case r2o3 | r2o4 =>
            intro a w1 K hR hE hK; simp [go_sem, EnvF, Sp.says, mk, Act.eval] at hE; have hE5 := hEr.drew.trans hR; obtain ⟨f1, f2, f3, f4⟩ := (b0.ext hE5).facts 30 (cv_size _); obtain ⟨g1, g2, g3, g4⟩ := (b1.ext hE5).facts 30 (cv_size _); obtain ⟨h1, h2, h3, h4⟩ := (bU.ext hE5).facts 30 (cv_size _); obtain ⟨k1, k2, k3, k4⟩ := (bM.ext hE5).facts 30 (cv_size _); dsimp only [Runs]; go_simp; try go_bits
            go_wp2_with fail
            exact hK _ (Ext.refl _)
          case r2o5 =>
            intro a w1 K hR hE hK; simp [go_sem, EnvF, Sp.says, mk, Act.eval] at hE; have hE5 := hEr.drew.trans hR; obtain ⟨f1, f2, f3, f4⟩ := (b0.ext hE5).facts 30 (cv_size _); obtain ⟨g1, g2, g3, g4⟩ := (b1.ext hE5).facts 30 (cv_size _); obtain ⟨h1, h2, h3, h4⟩ := (bU.ext hE5).facts 30 (cv_size _); obtain ⟨k1, k2, k3, k4⟩ := (bM.ext hE5).facts 30 (cv_size _); dsimp only [Runs]; go_simp; try go_bits
            go_wp2_with fail
            refine (rwithin_w p q _).mono ?_; rintro e w' ⟨rfl, hx⟩; rw [Hr.out, Hw.out]; exact hK _ hx
          case r2o6 | r2o7 | r2o8 | r2o9 =>
            intro a w1 K hR hE hK; simp [go_sem, EnvF, Sp.says, mk, Act.eval] at hE; have hE5 := hEr.drew.trans hR; obtain ⟨f1, f2, f3, f4⟩ := (b0.ext hE5).facts 30 (cv_size _); obtain ⟨g1, g2, g3, g4⟩ := (b1.ext hE5).facts 30 (cv_size _); obtain ⟨h1, h2, h3, h4⟩ := (bU.ext hE5).facts 30 (cv_size _); obtain ⟨k1, k2, k3, k4⟩ := (bM.ext hE5).facts 30 (cv_size _); dsimp only [Runs]; go_simp; try go_bits
            go_wp2_with fail
            exact hK _ (Ext.refl _)
          case r2o10 =>
            intro a w1 K hR hE hK; simp [go_sem, EnvF, Sp.says, mk, Act.eval] at hE; have hE5 := hEr.drew.trans hR; obtain ⟨f1, f2, f3, f4⟩ := (b0.ext hE5).facts 30 (cv_size _); obtain ⟨g1, g2, g3, g4⟩ := (b1.ext hE5).facts 30 (cv_size _); obtain ⟨h1, h2, h3, h4⟩ := (bU.ext hE5).facts 30 (cv_size _); obtain ⟨k1, k2, k3, k4⟩ := (bM.ext hE5).facts 30 (cv_size _); dsimp only [Runs]; go_simp; try go_bits
            go_wp2_with fail
            refine (within_w M p _).mono ?_; rintro e w' ⟨rfl, hx⟩; rw [Hw1.out]; exact hK _ hx
          case r2o11 | r2o12 | r2o13 | r2o14 =>
            intro a w1 K hR hE hK; simp [go_sem, EnvF, Sp.says, mk, Act.eval] at hE; have hE5 := hEr.drew.trans hR; obtain ⟨f1, f2, f3, f4⟩ := (b0.ext hE5).facts 30 (cv_size _); obtain ⟨g1, g2, g3, g4⟩ := (b1.ext hE5).facts 30 (cv_size _); obtain ⟨h1, h2, h3, h4⟩ := (bU.ext hE5).facts 30 (cv_size _); obtain ⟨k1, k2, k3, k4⟩ := (bM.ext hE5).facts 30 (cv_size _); dsimp only [Runs]; go_simp; try go_bits
            go_wp2_with fail
            exact hK _ (Ext.refl _)
          case r2o15 =>
            intro a w1 K hR hE hK; simp [go_sem, EnvF, Sp.says, mk, Act.eval] at hE; have hE5 := hEr.drew.trans hR; obtain ⟨f1, f2, f3, f4⟩ := (b0.ext hE5).facts 30 (cv_size _); obtain ⟨g1, g2, g3, g4⟩ := (b1.ext hE5).facts 30 (cv_size _); obtain ⟨h1, h2, h3, h4⟩ := (bU.ext hE5).facts 30 (cv_size _); obtain ⟨k1, k2, k3, k4⟩ := (bM.ext hE5).facts 30 (cv_size _); dsimp only [Runs]; go_simp; try go_bits
            go_wp2_with fail
            refine (within_w p U _).mono ?_; rintro e w' ⟨rfl, hx⟩; rw [Hw2.out]; exact hK _ hx
          case r2o16 | r2o17 | r2o18 =>
            intro a w1 K hR hE hK; simp [go_sem, EnvF, Sp.says, mk, Act.eval] at hE; have hE5 := hEr.drew.trans hR; obtain ⟨f1, f2, f3, f4⟩ := (b0.ext hE5).facts 30 (cv_size _); obtain ⟨g1, g2, g3, g4⟩ := (b1.ext hE5).facts 30 (cv_size _); obtain ⟨h1, h2, h3, h4⟩ := (bU.ext hE5).facts 30 (cv_size _); obtain ⟨k1, k2, k3, k4⟩ := (bM.ext hE5).facts 30 (cv_size _); dsimp only [Runs]; go_simp; try go_bits
            go_wp2_with fail
            exact hK _ (Ext.refl _)
          case r2o19 =>
            intro a w1 K hR hE hK; simp [go_sem, EnvF, Sp.says, mk, Act.eval] at hE; have hE5 := hEr.drew.trans hR; obtain ⟨f1, f2, f3, f4⟩ := (b0.ext hE5).facts 30 (cv_size _); obtain ⟨g1, g2, g3, g4⟩ := (b1.ext hE5).facts 30 (cv_size _); obtain ⟨h1, h2, h3, h4⟩ := (bU.ext hE5).facts 30 (cv_size _); obtain ⟨k1, k2, k3, k4⟩ := (bM.ext hE5).facts 30 (cv_size _); dsimp only [Runs]; go_simp; try go_bits
            go_wp2_with fail
            refine (meet_w p [] none 0 _ (by simp) (At.nil _ _ _)).mono ?_; rintro e w' ⟨rfl, hx⟩; rw [Hm0.out]; exact hK _ hx
          case r2o20 | r2o21 | r2o22 | r2o23 =>
            intro a w1 K hR hE hK; simp [go_sem, EnvF, Sp.says, mk, Act.eval] at hE; have hE5 := hEr.drew.trans hR; obtain ⟨f1, f2, f3, f4⟩ := (b0.ext hE5).facts 30 (cv_size _); obtain ⟨g1, g2, g3, g4⟩ := (b1.ext hE5).facts 30 (cv_size _); obtain ⟨h1, h2, h3, h4⟩ := (bU.ext hE5).facts 30 (cv_size _); obtain ⟨k1, k2, k3, k4⟩ := (bM.ext hE5).facts 30 (cv_size _); dsimp only [Runs]; go_simp; try go_bits
            go_wp2_with fail
            exact hK _ (Ext.refl _)
          case r2o24 =>
            intro a w1 K hR hE hK; simp [go_sem, EnvF, Sp.says, mk, Act.eval] at hE; have hE5 := hEr.drew.trans hR; obtain ⟨f1, f2, f3, f4⟩ := (b0.ext hE5).facts 30 (cv_size _); obtain ⟨g1, g2, g3, g4⟩ := (b1.ext hE5).facts 30 (cv_size _); obtain ⟨h1, h2, h3, h4⟩ := (bU.ext hE5).facts 30 (cv_size _); obtain ⟨k1, k2, k3, k4⟩ := (bM.ext hE5).facts 30 (cv_size _); dsimp only [Runs]; go_simp; try go_bits
            go_wp2_with fail
            refine (union_w [] none 0 _ (by simp) (At.nil _ _ _)).mono ?_; rintro e w' ⟨rfl, hx⟩; rw [Hu0.out]; exact hK _ hx
          case r2o25 =>
            intro a w1 K hR hE hK; simp [go_sem, EnvF, Sp.says, mk, Act.eval] at hE; have hE5 := hEr.drew.trans hR; obtain ⟨f1, f2, f3, f4⟩ := (b0.ext hE5).facts 30 (cv_size _); obtain ⟨g1, g2, g3, g4⟩ := (b1.ext hE5).facts 30 (cv_size _); obtain ⟨h1, h2, h3, h4⟩ := (bU.ext hE5).facts 30 (cv_size _); obtain ⟨k1, k2, k3, k4⟩ := (bM.ext hE5).facts 30 (cv_size _); dsimp only [Runs]; go_simp; try go_bits
            go_wp2_with fail
            exact hK _ (Ext.refl _)
          case r2st => simp only [StOk]
          case r2fin =>
            simp only [FinR, mk, Act.put, List.length_cons, List.length_nil, Nat.reduceAdd, Nat.zero_add, List.drop_succ_cons, List.drop_zero, List.setIfInBounds_toArray, List.set_cons_succ, List.set_cons_zero]
            intro w9 hR _ _
            have hE9 := hEr.drew.trans hR
            go_wp2_with (go_at_call 14; refine (awake_w _ (htX.ext hE9)).mono ?_; rintro e w' ⟨rfl, hx⟩)
            go_ret
            exact ⟨rfl, ((hEW.trans hEX).trans hE9).trans hx⟩
        ·
          refine wp_region_by (R := Ext) [([(3, none)], none), ([(4, none)], none), ([(60, some 0), (61, some 1)], none), ([(3, none)], none), ([(4, none)], none), ([(63, some 3), (64, some 4)], none), ([(62, some 2), (65, some 5)], none), ([(66, some 6)], none), ([(8, none), (67, some 7)], some (67, true)), ([(3, none), (67, some 7)], some (67, true)), ([(68, some 8), (69, some 9), (67, some 7)], some (67, true)), ([(67, some 7), (70, some 10)], none), ([(71, some 11)], none), ([(3, none), (72, some 12)], some (72, true)), ([(7, none), (72, some 12)], some (72, true)), ([(73, some 13), (74, some 14), (72, some 12)], some (72, true)), ([(72, some 12), (75, some 15)], none), ([(76, some 16)], none), ([(3, none), (77, some 17)], some (77, true)), ([(78, some 18), (77, some 17)], some (77, true)), ([(3, none), (77, some 17)], some (77, true)), ([(79, some 19), (80, some 20), (77, some 17)], some (77, true)), ([(77, some 17), (81, some 21)], none), ([(82, some 22)], none), ([(83, some 23)], some (83, true)), ([(83, some 23)], some (83, true))]
            [.ex ?r1v0, .ex ?r1v1, .ex ?r1v2, .ex ?r1v3, .ex ?r1v4, .ex ?r1v5, .ex ?r1v6, .ex ?r1v7, .ex ?r1v8, .ex ?r1v9, .ex ?r1v10, .ex ?r1v11, .ex ?r1v12, .ex ?r1v13, .ex ?r1v14, .ex ?r1v15, .ex ?r1v16, .ex ?r1v17, .ex ?r1v18, .ex ?r1v19, .ex ?r1v20, .ex ?r1v21, .ex ?r1v22, .ex ?r1v23, .ex ?r1v24, .ex ?r1v25]
            (by kernel_rfl) (fun _ _ _ h1 h2 => h1.trans h2) (fun _ _ h => h.size) (Ext.refl _) rfl (by kernel_rfl) ?r1st (And.intro ?r1o0 (And.intro ?r1o1 (And.intro ?r1o2 (And.intro ?r1o3 (And.intro ?r1o4 (And.intro ?r1o5 (And.intro ?r1o6 (And.intro ?r1o7 (And.intro ?r1o8 (And.intro ?r1o9 (And.intro ?r1o10 (And.intro ?r1o11 (And.intro ?r1o12 (And.intro ?r1o13 (And.intro ?r1o14 (And.intro ?r1o15 (And.intro ?r1o16 (And.intro ?r1o17 (And.intro ?r1o18 (And.intro ?r1o19 (And.intro ?r1o20 (And.intro ?r1o21 (And.intro ?r1o22 (And.intro ?r1o23 (And.intro ?r1o24 (And.intro ?r1o25 trivial)))))))))))))))))))))))))) ?r1fin
          case r1o0 | r1o1 =>
            intro a w1 K hR hE hK; simp [go_sem, EnvF, Sp.says, mk, Act.eval] at hE; have hE5 := hEr.drew.trans hR; obtain ⟨f1, f2, f3, f4⟩ := (b0.ext hE5).facts 30 (cv_size _); obtain ⟨g1, g2, g3, g4⟩ := (b1.ext hE5).facts 30 (cv_size _); obtain ⟨h1, h2, h3, h4⟩ := (bU.ext hE5).facts 30 (cv_size _); obtain ⟨k1, k2, k3, k4⟩ := (bM.ext hE5).facts 30 (cv_size _); dsimp only [Runs]; go_simp; try go_bits
            go_wp2_with fail
            exact hK _ (Ext.refl _)
          case r1o2 =>
            intro a w1 K hR hE hK; simp [go_sem, EnvF, Sp.says, mk, Act.eval] at hE; have hE5 := hEr.drew.trans hR; obtain ⟨f1, f2, f3, f4⟩ := (b0.ext hE5).facts 30 (cv_size _); obtain ⟨g1, g2, g3, g4⟩ := (b1.ext hE5).facts 30 (cv_size _); obtain ⟨h1, h2, h3, h4⟩ := (bU.ext hE5).facts 30 (cv_size _); obtain ⟨k1, k2, k3, k4⟩ := (bM.ext hE5).facts 30 (cv_size _); dsimp only [Runs]; go_simp; try go_bits
            go_wp2_with fail
            refine (within_w p q _).mono ?_; rintro e w' ⟨rfl, hx⟩; rw [Hw.out]; exact hK _ hx
          case r1o3 | r1o4 =>
            intro a w1 K hR hE hK; simp [go_sem, EnvF, Sp.says, mk, Act.eval] at hE; have hE5 := hEr.drew.trans hR; obtain ⟨f1, f2, f3, f4⟩ := (b0.ext hE5).facts 30 (cv_size _); obtain ⟨g1, g2, g3, g4⟩ := (b1.ext hE5).facts 30 (cv_size _); obtain ⟨h1, h2, h3, h4⟩ := (bU.ext hE5).facts 30 (cv_size _); obtain ⟨k1, k2, k3, k4⟩ := (bM.ext hE5).facts 30 (cv_size _); dsimp only [Runs]; go_simp; try go_bits
            go_wp2_with fail
            exact hK _ (Ext.refl _)
          case r1o5 =>
            intro a w1 K hR hE hK; simp [go_sem, EnvF, Sp.says, mk, Act.eval] at hE; have hE5 := hEr.drew.trans hR; obtain ⟨f1, f2, f3, f4⟩ := (b0.ext hE5).facts 30 (cv_size _); obtain ⟨g1, g2, g3, g4⟩ := (b1.ext hE5).facts 30 (cv_size _); obtain ⟨h1, h2, h3, h4⟩ := (bU.ext hE5).facts 30 (cv_size _); obtain ⟨k1, k2, k3, k4⟩ := (bM.ext hE5).facts 30 (cv_size _); dsimp only [Runs]; go_simp; try go_bits
            go_wp2_with fail
            refine (rwithin_w p q _).mono ?_; rintro e w' ⟨rfl, hx⟩; rw [Hr.out, Hw.out]; exact hK _ hx
          case r1o6 | r1o7 | r1o8 | r1o9 =>
            intro a w1 K hR hE hK; simp [go_sem, EnvF, Sp.says, mk, Act.eval] at hE; have hE5 := hEr.drew.trans hR; obtain ⟨f1, f2, f3, f4⟩ := (b0.ext hE5).facts 30 (cv_size _); obtain ⟨g1, g2, g3, g4⟩ := (b1.ext hE5).facts 30 (cv_size _); obtain ⟨h1, h2, h3, h4⟩ := (bU.ext hE5).facts 30 (cv_size _); obtain ⟨k1, k2, k3, k4⟩ := (bM.ext hE5).facts 30 (cv_size _); dsimp only [Runs]; go_simp; try go_bits
            go_wp2_with fail
            exact hK _ (Ext.refl _)
          case r1o10 =>
            intro a w1 K hR hE hK; simp [go_sem, EnvF, Sp.says, mk, Act.eval] at hE; have hE5 := hEr.drew.trans hR; obtain ⟨f1, f2, f3, f4⟩ := (b0.ext hE5).facts 30 (cv_size _); obtain ⟨g1, g2, g3, g4⟩ := (b1.ext hE5).facts 30 (cv_size _); obtain ⟨h1, h2, h3, h4⟩ := (bU.ext hE5).facts 30 (cv_size _); obtain ⟨k1, k2, k3, k4⟩ := (bM.ext hE5).facts 30 (cv_size _); dsimp only [Runs]; go_simp; try go_bits
            go_wp2_with fail
            refine (within_w M p _).mono ?_; rintro e w' ⟨rfl, hx⟩; rw [Hw1.out]; exact hK _ hx
          case r1o11 | r1o12 | r1o13 | r1o14 =>
            intro a w1 K hR hE hK; simp [go_sem, EnvF, Sp.says, mk, Act.eval] at hE; have hE5 := hEr.drew.trans hR; obtain ⟨f1, f2, f3, f4⟩ := (b0.ext hE5).facts 30 (cv_size _); obtain ⟨g1, g2, g3, g4⟩ := (b1.ext hE5).facts 30 (cv_size _); obtain ⟨h1, h2, h3, h4⟩ := (bU.ext hE5).facts 30 (cv_size _); obtain ⟨k1, k2, k3, k4⟩ := (bM.ext hE5).facts 30 (cv_size _); dsimp only [Runs]; go_simp; try go_bits
            go_wp2_with fail
            exact hK _ (Ext.refl _)
          case r1o15 =>
            intro a w1 K hR hE hK; simp [go_sem, EnvF, Sp.says, mk, Act.eval] at hE; have hE5 := hEr.drew.trans hR; obtain ⟨f1, f2, f3, f4⟩ := (b0.ext hE5).facts 30 (cv_size _); obtain ⟨g1, g2, g3, g4⟩ := (b1.ext hE5).facts 30 (cv_size _); obtain ⟨h1, h2, h3, h4⟩ := (bU.ext hE5).facts 30 (cv_size _); obtain ⟨k1, k2, k3, k4⟩ := (bM.ext hE5).facts 30 (cv_size _); dsimp only [Runs]; go_simp; try go_bits
            go_wp2_with fail
            refine (within_w p U _).mono ?_; rintro e w' ⟨rfl, hx⟩; rw [Hw2.out]; exact hK _ hx
          case r1o16 | r1o17 | r1o18 =>
            intro a w1 K hR hE hK; simp [go_sem, EnvF, Sp.says, mk, Act.eval] at hE; have hE5 := hEr.drew.trans hR; obtain ⟨f1, f2, f3, f4⟩ := (b0.ext hE5).facts 30 (cv_size _); obtain ⟨g1, g2, g3, g4⟩ := (b1.ext hE5).facts 30 (cv_size _); obtain ⟨h1, h2, h3, h4⟩ := (bU.ext hE5).facts 30 (cv_size _); obtain ⟨k1, k2, k3, k4⟩ := (bM.ext hE5).facts 30 (cv_size _); dsimp only [Runs]; go_simp; try go_bits
            go_wp2_with fail
            exact hK _ (Ext.refl _)
          case r1o19 =>
            intro a w1 K hR hE hK; simp [go_sem, EnvF, Sp.says, mk, Act.eval] at hE; have hE5 := hEr.drew.trans hR; obtain ⟨f1, f2, f3, f4⟩ := (b0.ext hE5).facts 30 (cv_size _); obtain ⟨g1, g2, g3, g4⟩ := (b1.ext hE5).facts 30 (cv_size _); obtain ⟨h1, h2, h3, h4⟩ := (bU.ext hE5).facts 30 (cv_size _); obtain ⟨k1, k2, k3, k4⟩ := (bM.ext hE5).facts 30 (cv_size _); dsimp only [Runs]; go_simp; try go_bits
            go_wp2_with fail
            refine (meet_w p [] none 0 _ (by simp) (At.nil _ _ _)).mono ?_; rintro e w' ⟨rfl, hx⟩; rw [Hm0.out]; exact hK _ hx
          case r1o20 | r1o21 | r1o22 | r1o23 =>
            intro a w1 K hR hE hK; simp [go_sem, EnvF, Sp.says, mk, Act.eval] at hE; have hE5 := hEr.drew.trans hR; obtain ⟨f1, f2, f3, f4⟩ := (b0.ext hE5).facts 30 (cv_size _); obtain ⟨g1, g2, g3, g4⟩ := (b1.ext hE5).facts 30 (cv_size _); obtain ⟨h1, h2, h3, h4⟩ := (bU.ext hE5).facts 30 (cv_size _); obtain ⟨k1, k2, k3, k4⟩ := (bM.ext hE5).facts 30 (cv_size _); dsimp only [Runs]; go_simp; try go_bits
            go_wp2_with fail
            exact hK _ (Ext.refl _)
          case r1o24 =>
            intro a w1 K hR hE hK; simp [go_sem, EnvF, Sp.says, mk, Act.eval] at hE; have hE5 := hEr.drew.trans hR; obtain ⟨f1, f2, f3, f4⟩ := (b0.ext hE5).facts 30 (cv_size _); obtain ⟨g1, g2, g3, g4⟩ := (b1.ext hE5).facts 30 (cv_size _); obtain ⟨h1, h2, h3, h4⟩ := (bU.ext hE5).facts 30 (cv_size _); obtain ⟨k1, k2, k3, k4⟩ := (bM.ext hE5).facts 30 (cv_size _); dsimp only [Runs]; go_simp; try go_bits
            go_wp2_with fail
            refine (union_w [] none 0 _ (by simp) (At.nil _ _ _)).mono ?_; rintro e w' ⟨rfl, hx⟩; rw [Hu0.out]; exact hK _ hx
          case r1o25 =>
            intro a w1 K hR hE hK; simp [go_sem, EnvF, Sp.says, mk, Act.eval] at hE; have hE5 := hEr.drew.trans hR; obtain ⟨f1, f2, f3, f4⟩ := (b0.ext hE5).facts 30 (cv_size _); obtain ⟨g1, g2, g3, g4⟩ := (b1.ext hE5).facts 30 (cv_size _); obtain ⟨h1, h2, h3, h4⟩ := (bU.ext hE5).facts 30 (cv_size _); obtain ⟨k1, k2, k3, k4⟩ := (bM.ext hE5).facts 30 (cv_size _); dsimp only [Runs]; go_simp; try go_bits
            go_wp2_with fail
            exact hK _ (Ext.refl _)
          case r1st => simp only [StOk]
          case r1fin =>
            simp only [FinR, mk, Act.put, List.length_cons, List.length_nil, Nat.reduceAdd, Nat.zero_add, List.drop_succ_cons, List.drop_zero, List.setIfInBounds_toArray, List.set_cons_succ, List.set_cons_zero]
            intro w9 hR _ _
            have hE9 := hEr.drew.trans hR
            go_wp2_with (go_at_call 14; refine (awake_w _ (htX.ext hE9)).mono ?_; rintro e w' ⟨rfl, hx⟩)
            go_ret
            exact ⟨rfl, ((hEW.trans hEX).trans hE9).trans hx⟩
end Go.Proofs.YtpgpfcdkkhfemaaDoor
