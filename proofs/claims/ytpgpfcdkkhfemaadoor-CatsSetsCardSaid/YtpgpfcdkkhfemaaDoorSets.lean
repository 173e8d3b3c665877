/- gueritelaw08.CatsSets answers true at any set, list and number, and leaves what lay in memory as it was. -/
import Derived.Test.YtpgpfcdkkhfemaaDoorWAwake
import Derived.Test.YtpgpfcdkkhfemaaDoorCats3
import Derived.Laws.Tables
import Derived.BigRegion
import Derived.RegionTactic
import Derived.ChangeAlike
import Derived.Deep.DeepCutAuto
open Go.RowKit Go.Reg Go.Gu
namespace Go.Proofs.YtpgpfcdkkhfemaaDoor
set_option linter.unusedSimpArgs false
set_option linter.unusedVariables false
set_option maxHeartbeats 1000000
@[go_sem] theorem cats_beq'' (c : Cats) : (c == c) = true := by simp
@[go_sem] theorem bool_beq_self (b : Bool) : (b == b) = true := by simp
theorem addr_add_block (a : Addr) (i : Nat) : (a.add i).block = a.block := by unfold Addr.add; split <;> rfl
theorem sets_list_len (c : Cats) : c.list.length ≤ 240 := c.listTo_le 240
theorem three (W : World) (c : Cats) (i j k : Nat) (hi : W.heap.size ≤ i ∧ i < W.heap.size + 3) (hj : W.heap.size ≤ j ∧ j < W.heap.size + 3) (hk : W.heap.size ≤ k ∧ k < W.heap.size + 3) (h1 : i ≠ j) (h2 : i ≠ k) (h3 : j ≠ k) :
    W.heap.size ≤ i ∧ W.heap.size ≤ j ∧ W.heap.size ≤ k ∧ i ≠ j ∧ i ≠ k ∧ j ≠ k ∧
    Ext W ((((((W.alloc (Obj.cells (cv Cats.zero) 23)).alloc (Obj.cells (cv Cats.zero) 23)).alloc (Obj.cells (cv Cats.zero) 23)).setRow i (cv Cats.zero)).setRow j (cv c)).setRow k (cv c)).drew ∧
    Blk ((((((W.alloc (Obj.cells (cv Cats.zero) 23)).alloc (Obj.cells (cv Cats.zero) 23)).alloc (Obj.cells (cv Cats.zero) 23)).setRow i (cv Cats.zero)).setRow j (cv c)).setRow k (cv c)).drew i 23 (cv Cats.zero) ∧
    Blk ((((((W.alloc (Obj.cells (cv Cats.zero) 23)).alloc (Obj.cells (cv Cats.zero) 23)).alloc (Obj.cells (cv Cats.zero) 23)).setRow i (cv Cats.zero)).setRow j (cv c)).setRow k (cv c)).drew j 23 (cv c) ∧
    Blk ((((((W.alloc (Obj.cells (cv Cats.zero) 23)).alloc (Obj.cells (cv Cats.zero) 23)).alloc (Obj.cells (cv Cats.zero) 23)).setRow i (cv Cats.zero)).setRow j (cv c)).setRow k (cv c)).drew k 23 (cv c) := by
  obtain ⟨X, hX⟩ : ∃ X, X = ((W.alloc (Obj.cells (cv Cats.zero) 23)).alloc (Obj.cells (cv Cats.zero) 23)).alloc (Obj.cells (cv Cats.zero) 23) := ⟨_, rfl⟩
  have hb : ∀ q, W.heap.size ≤ q → q < W.heap.size + 3 → Blk X q 23 (cv Cats.zero) := fun q h1 h2 => by
    rw [hX]
    have b0 : Blk (W.alloc (Obj.cells (cv Cats.zero) 23)) W.heap.size 23 (cv Cats.zero) := Blk.new _ _ _
    have b1 : Blk ((W.alloc (Obj.cells (cv Cats.zero) 23)).alloc (Obj.cells (cv Cats.zero) 23)) (W.heap.size + 1) 23 (cv Cats.zero) := by simpa using Blk.new (W.alloc (Obj.cells (cv Cats.zero) 23)) 23 (cv Cats.zero)
    have b2 : Blk (((W.alloc (Obj.cells (cv Cats.zero) 23)).alloc (Obj.cells (cv Cats.zero) 23)).alloc (Obj.cells (cv Cats.zero) 23)) (W.heap.size + 1 + 1) 23 (cv Cats.zero) := by simpa using Blk.new ((W.alloc (Obj.cells (cv Cats.zero) 23)).alloc (Obj.cells (cv Cats.zero) 23)) 23 (cv Cats.zero)
    rcases (by omega : q = W.heap.size ∨ q = W.heap.size + 1 ∨ q = W.heap.size + 1 + 1) with rfl | rfl | rfl
    · exact (b0.alloc _).alloc _
    · exact b1.alloc _
    · exact b2
  have hE : Ext W X := by rw [hX]; exact ((Ext.of_alloc W _).alloc _).alloc _
  rw [← hX]
  exact ⟨hi.1, hj.1, hk.1, h1, h2, h3, (((hE.setRow hi.1 _).setRow hj.1 _).setRow hk.1 _).drew, (((hb i hi.1 hi.2).setRow _).farRow h1 _).farRow h2 _, (((hb j hj.1 hj.2).farRow (Ne.symm h1) _).setRow _).farRow h3 _, (((hb k hk.1 hk.2).farRow (Ne.symm h2) _).farRow (Ne.symm h3) _).setRow _⟩
set_option maxRecDepth 100000 in
theorem sets_w (c : Cats) (l : List Int) (A : Option Addr) (cap : Nat) (k : Int) (w : World) (ht : TabOk w) (hl : l.length ≤ 9223372036854775807) (hA : At w A 1 (l.map iv)) :
    Calls Tryd.prog 3 #[.agg (cv c), .slice A l.length cap, .int .i64 k] w fun e w' => e = .returned (.bool true) ∧ Ext w w' := by
  by_cases hlong : 300 < l.length
  · go_enter Tryd.func3, Tryd.ntmps3
    go_wp2_with (go_at_call 14; refine (awake_w _ (ht.ext (Ext.of_alloc w _))).mono ?_; rintro e w' ⟨rfl, hx⟩)
    go_ret
    exact ⟨rfl, (Ext.of_alloc w _).trans hx⟩
  · go_enter Tryd.func3, Tryd.ntmps3
    go_wp2_with fail
    obtain ⟨W, hW⟩ : ∃ W, W = w.alloc (.cells (cv c) 23) := ⟨_, rfl⟩
    have hB0 : Blk W w.heap.size 23 (cv c) := by rw [hW]; exact Blk.new w 23 (cv c)
    have hEW : Ext w W := by rw [hW]; exact Ext.of_alloc w _
    rw [← hW]
    clear hW
    have hAW := hA.ext hEW
    have htW := ht.ext hEW
    clear ht hA
    obtain ⟨f1, f2, f3, f4⟩ := hB0.facts 30 (cv_size _)
    have hltB := hB0.lt
    have hn0 : ¬ w.heap.size = W.heap.size := by omega
    have hn1 : ¬ w.heap.size = W.heap.size + 1 := by omega
    have hn2 : ¬ w.heap.size = W.heap.size + 1 + 1 := by omega
    go_upto_region 4 with (fail)
    go_cut [8, 9, 10] (fun s8 s9 s10 wx => ∃ g8 g9 g10, s8 = .pointer (some ⟨g8, 0, none⟩) ∧ s9 = .pointer (some ⟨g9, 0, none⟩) ∧ s10 = .pointer (some ⟨g10, 0, none⟩) ∧ W.heap.size ≤ g8 ∧ W.heap.size ≤ g9 ∧ W.heap.size ≤ g10 ∧ g8 ≠ g9 ∧ g8 ≠ g10 ∧ g9 ≠ g10 ∧ Ext W wx ∧ Blk wx g8 23 (cv Cats.zero) ∧ Blk wx g9 23 (cv c) ∧ Blk wx g10 23 (cv c))
    case first =>
      go_region
      all_goals (go_wp2_with fail; go_meet; exact ⟨_, _, _, rfl, rfl, rfl, three W c _ _ _ (by omega) (by omega) (by omega) (by omega) (by omega) (by omega)⟩)
    case rest =>
      obtain ⟨g8, g9, g10, rfl, rfl, rfl, h8, h9, h10, h89, h810, h910, hE0, b8, b9, b10⟩ := hcut
      clear f1 f2 f3 f4 hn0 hn1 hn2
      go_wp2_with fail
      go_loopw [7, 11] (fun s7 s11 wr => ∃ i : Nat, i ≤ l.length ∧ s11 = .int .i64 i ∧ s7 = .bool ((l.take i).all Cats.inR) ∧ Ext W wr ∧ Blk wr g8 23 (cv (Cats.zero.with_ (l.take i))) ∧ Blk wr g9 23 (cv (c.with_ (l.take i))) ∧ Blk wr g10 23 (cv (c.without (l.take i)))) (fun s7 s11 _ => l.length - (intOf s11).toNat)
      case atStart => exact ⟨0, by omega, rfl, rfl, hE0, b8, b9, b10⟩
      case round =>
        clear hE0 b8 b9 b10
        obtain ⟨i, hi, rfl, rfl, hEr, b8, b9, b10⟩ := hrel
        by_cases hlt : i < l.length
        · obtain ⟨ad, rfl, hc⟩ := (hAW.ext hEr).int hlt
          have hlb := hAW.ext (Ext.refl W)
          obtain ⟨ad', had, hcW⟩ := hAW.int hlt
          cases had
          have hadB : ad.block < W.heap.size := by
            have := block_lt_of_cell hcW
            rw [addr_add_block] at this; exact this
          clear hlb hcW
          have hs7 : (l.take (i + 1)).all Cats.inR = ((l.take i).all Cats.inR && Cats.inR l[i]) := by rw [List.take_succ_eq_append_getElem hlt, List.all_append]; simp
          have hs8 : Cats.zero.with_ (l.take (i + 1)) = (Cats.zero.with_ (l.take i)).put l[i] true := by rw [List.take_succ_eq_append_getElem hlt, Cats.with_, List.foldl_append, Cats.put_true]; rfl
          have hs9 : c.with_ (l.take (i + 1)) = (c.with_ (l.take i)).put l[i] true := by rw [List.take_succ_eq_append_getElem hlt, Cats.with_, List.foldl_append, Cats.put_true]; rfl
          have hs10 : c.without (l.take (i + 1)) = (c.without (l.take i)).put l[i] false := by rw [List.take_succ_eq_append_getElem hlt, Cats.without, List.foldl_append, Cats.put_false]; rfl
          obtain ⟨n7, hn7⟩ : ∃ n, (l.take (i + 1)).all Cats.inR = n := ⟨_, rfl⟩
          rw [hn7] at hs7
          have Hn7 := Lib.hid hn7; clear hn7
          generalize l[i] = x at *
          generalize Cats.zero.with_ (l.take i) = o8 at *
          generalize c.with_ (l.take i) = o9 at *
          generalize c.without (l.take i) = o10 at *
          generalize (l.take i).all Cats.inR = o7 at *
          have Hs7 := Lib.hid hs7; clear hs7
          have Hs8 := Lib.hid hs8; clear hs8
          have Hs9 := Lib.hid hs9; clear hs9
          have Hs10 := Lib.hid hs10; clear hs10
          go_upto_region 8 with (fail)
          go_cut [7] (fun s7 wx => s7 = .bool n7 ∧ wx = wr)
          case first =>
            go_wp2_with fail
            all_goals (go_meet; exact ⟨by rw [Hs7.out]; first | (simp [Cats.inR, *]; done) | (simp [Cats.inR, *]; omega), rfl⟩)
          case rest =>
            obtain ⟨rfl, rfl⟩ := hcut
            go_wp2_with fail
            refine wp_region_by (R := Ext) [([(8, none)], none), ([(1, none)], none), ([(11, none)], none), ([(45, some 1), (46, some 2)], none), ([(47, some 3)], none)]
              [Sp.ex ?r4v0, Sp.ex ?r4v1, Sp.ex ?r4v2, Sp.ex ?r4v3, Sp.ex ?r4v4]
              (by kernel_rfl) (fun _ _ _ h1 h2 => h1.trans h2) (fun _ _ h => h.size) (Ext.refl _) rfl (by kernel_rfl) ?r4st (And.intro ?r4o0 (And.intro ?r4o1 (And.intro ?r4o2 (And.intro ?r4o3 (And.intro ?r4o4 trivial))))) ?r4fin
            case r4o0 | r4o1 | r4o2 | r4o3 | r4o4 =>
              intro a w1 K hR hE hK; simp [go_sem, EnvF, Sp.says, mk, Act.eval] at hE; obtain ⟨f1, f2, f3, f4⟩ := (b8.drew.ext hR).facts 30 (cv_size _); have hc1 := ((Ext.refl _).drew.trans hR).cell hc; dsimp only [Runs]; go_simp; try go_bits
              go_wp2_with fail
              exact hK _ (Ext.refl _)
            case r4st => simp only [StOk]
            case r4fin =>
              simp only [FinR, mk, Act.put, List.length_cons, List.length_nil, Nat.reduceAdd, Nat.zero_add, List.drop_succ_cons, List.drop_zero, List.setIfInBounds_toArray, List.set_cons_succ, List.set_cons_zero]
              intro w9 hR _ _
              go_wp2_with (go_at_call 15; refine (put_w _ x true _).mono ?_; rintro e w10 ⟨rfl, hx⟩; have hRx := (Ext.refl _).drew.trans (hR.trans hx); obtain ⟨f1, f2, f3, f4⟩ := (b8.ext hRx).facts 30 (cv_size _))
              have hErx := hEr.trans hRx
              have hcx := hRx.cell hc
              have b8x := b8.ext hRx
              have b9x := b9.ext hRx
              have b10x := b10.ext hRx
              clear hR hx hRx hEr hc b8 b9 b10 f1 f2 f3 f4
              obtain ⟨y1, hy1⟩ : ∃ y, y = w10.setRow g8 (cv (o8.put x true)) := ⟨_, rfl⟩
              have hEr : Ext W y1 := by rw [hy1]; exact hErx.setRow h8 _
              have hc : y1.cell? (ad.add i) = some (.int .i64 x) := by rw [hy1, cell_setRow_other w10 _ _ _ (by rw [addr_add_block]; omega)]; exact hcx
              have b8 : Blk y1 g8 23 (cv (o8.put x true)) := by rw [hy1]; exact b8x.setRow _
              have b9 : Blk y1 g9 23 (cv o9) := by rw [hy1]; exact b9x.farRow (by omega) _
              have b10 : Blk y1 g10 23 (cv o10) := by rw [hy1]; exact b10x.farRow (by omega) _
              rw [← hy1]
              clear hy1 hErx hcx b8x b9x b10x
              refine wp_region_by (R := Ext) [([(9, none)], none), ([(1, none)], none), ([(11, none)], none), ([(51, some 1), (52, some 2)], none), ([(53, some 3)], none)]
                [Sp.ex ?r3v0, Sp.ex ?r3v1, Sp.ex ?r3v2, Sp.ex ?r3v3, Sp.ex ?r3v4]
                (by kernel_rfl) (fun _ _ _ h1 h2 => h1.trans h2) (fun _ _ h => h.size) (Ext.refl _) rfl (by kernel_rfl) ?r3st (And.intro ?r3o0 (And.intro ?r3o1 (And.intro ?r3o2 (And.intro ?r3o3 (And.intro ?r3o4 trivial))))) ?r3fin
              case r3o0 | r3o1 | r3o2 | r3o3 | r3o4 =>
                intro a w1 K hR hE hK; simp [go_sem, EnvF, Sp.says, mk, Act.eval] at hE; obtain ⟨f1, f2, f3, f4⟩ := (b9.drew.ext hR).facts 30 (cv_size _); have hc1 := ((Ext.refl _).drew.trans hR).cell hc; dsimp only [Runs]; go_simp; try go_bits
                go_wp2_with fail
                exact hK _ (Ext.refl _)
              case r3st => simp only [StOk]
              case r3fin =>
                simp only [FinR, mk, Act.put, List.length_cons, List.length_nil, Nat.reduceAdd, Nat.zero_add, List.drop_succ_cons, List.drop_zero, List.setIfInBounds_toArray, List.set_cons_succ, List.set_cons_zero]
                intro w9 hR _ _
                go_wp2_with (go_at_call 15; refine (put_w _ x true _).mono ?_; rintro e w10 ⟨rfl, hx⟩; have hRx := (Ext.refl _).drew.trans (hR.trans hx); obtain ⟨f1, f2, f3, f4⟩ := (b9.ext hRx).facts 30 (cv_size _))
                have hErx := hEr.trans hRx
                have hcx := hRx.cell hc
                have b8x := b8.ext hRx
                have b9x := b9.ext hRx
                have b10x := b10.ext hRx
                clear hR hx hRx hEr hc b8 b9 b10 f1 f2 f3 f4
                obtain ⟨y2, hy2⟩ : ∃ y, y = w10.setRow g9 (cv (o9.put x true)) := ⟨_, rfl⟩
                have hEr : Ext W y2 := by rw [hy2]; exact hErx.setRow h9 _
                have hc : y2.cell? (ad.add i) = some (.int .i64 x) := by rw [hy2, cell_setRow_other w10 _ _ _ (by rw [addr_add_block]; omega)]; exact hcx
                have b8 : Blk y2 g8 23 (cv (o8.put x true)) := by rw [hy2]; exact b8x.farRow (by omega) _
                have b9 : Blk y2 g9 23 (cv (o9.put x true)) := by rw [hy2]; exact b9x.setRow _
                have b10 : Blk y2 g10 23 (cv o10) := by rw [hy2]; exact b10x.farRow (by omega) _
                rw [← hy2]
                clear hy2 hErx hcx b8x b9x b10x
                refine wp_region_by (R := Ext) [([(10, none)], none), ([(1, none)], none), ([(11, none)], none), ([(57, some 1), (58, some 2)], none), ([(59, some 3)], none)]
                  [Sp.ex ?r2v0, Sp.ex ?r2v1, Sp.ex ?r2v2, Sp.ex ?r2v3, Sp.ex ?r2v4]
                  (by kernel_rfl) (fun _ _ _ h1 h2 => h1.trans h2) (fun _ _ h => h.size) (Ext.refl _) rfl (by kernel_rfl) ?r2st (And.intro ?r2o0 (And.intro ?r2o1 (And.intro ?r2o2 (And.intro ?r2o3 (And.intro ?r2o4 trivial))))) ?r2fin
                case r2o0 | r2o1 | r2o2 | r2o3 | r2o4 =>
                  intro a w1 K hR hE hK; simp [go_sem, EnvF, Sp.says, mk, Act.eval] at hE; obtain ⟨f1, f2, f3, f4⟩ := (b10.drew.ext hR).facts 30 (cv_size _); have hc1 := ((Ext.refl _).drew.trans hR).cell hc; dsimp only [Runs]; go_simp; try go_bits
                  go_wp2_with fail
                  exact hK _ (Ext.refl _)
                case r2st => simp only [StOk]
                case r2fin =>
                  simp only [FinR, mk, Act.put, List.length_cons, List.length_nil, Nat.reduceAdd, Nat.zero_add, List.drop_succ_cons, List.drop_zero, List.setIfInBounds_toArray, List.set_cons_succ, List.set_cons_zero]
                  intro w9 hR _ _
                  go_wp2_with (go_at_call 15; refine (put_w _ x false _).mono ?_; rintro e w10 ⟨rfl, hx⟩; have hRx := (Ext.refl _).drew.trans (hR.trans hx); obtain ⟨f1, f2, f3, f4⟩ := (b10.ext hRx).facts 30 (cv_size _))
                  have hErx := hEr.trans hRx
                  have hcx := hRx.cell hc
                  have b8x := b8.ext hRx
                  have b9x := b9.ext hRx
                  have b10x := b10.ext hRx
                  clear hR hx hRx hEr hc b8 b9 b10 f1 f2 f3 f4
                  go_roundw
                  case rel => exact ⟨i + 1, by omega, by go_num, by rw [Hn7.out], hErx.setRow h10 _, by rw [Hs8.out]; exact b8x.farRow (by omega) _, by rw [Hs9.out]; exact b9x.farRow (by omega) _, by rw [Hs10.out]; exact b10x.setRow _⟩
                  case measure => simp [intOf]; omega
        · obtain rfl : i = l.length := by omega
          rw [List.take_length] at b8 b9 b10
          simp only [List.take_length]
          go_upto_if 63 with (fail)
          go_cut [7] (fun s7 wx => s7 = .bool (l.all Cats.inR) ∧ Ext W wx ∧ Blk wx g8 23 (cv (Cats.of l).1) ∧ Blk wx g9 23 (cv (c.with_ l)) ∧ Blk wx g10 23 (cv (c.without l)))
          case first =>
            obtain ⟨f1, f2, f3, f4⟩ := b8.facts 30 (cv_size _)
            have hof := Cats.of_eq l
            have Hof := Lib.hid hof; clear hof
            cases hall : l.all Cats.inR with
            | true =>
              go_wp2_with fail
              go_meet
              exact ⟨by rw [hall], hEr, by rw [Hof.out, hall]; exact b8, b9, b10⟩
            | false =>
              go_wp2_with fail
              go_meet
              exact ⟨by rw [hall], hEr.setRow h8 _, by rw [Hof.out, hall]; exact b8.setRow _, b9.farRow (by omega) _, b10.farRow (by omega) _⟩
          case rest =>
            clear hEr b8 b9 b10
            obtain ⟨rfl, hEr, b8, b9, b10⟩ := hcut
            have hof := Cats.of_eq l
            generalize hall : l.all Cats.inR = al at *
            have hof2 : (Cats.of l).2 = al := by rw [hof]
            clear hof hall
            have Hof := Lib.hid hof2; clear hof2
            obtain ⟨o1, ho1⟩ : ∃ o, (Cats.of l).1 = o := ⟨_, rfl⟩
            rw [ho1] at b8
            have Ho1 := Lib.hid ho1; clear ho1
            go_wp2_with (go_at_call 16; refine (of_w l A cap _ hl (hAW.ext hEr)).mono ?_; rintro e w1 ⟨rfl, hx⟩; rw [Ho1.out, Hof.out]; have hE1 := hEr.trans hx; obtain ⟨f1, f2, f3, f4⟩ := (hB0.ext hE1).facts 30 (cv_size _); have hlt1 := (hB0.ext hE1).lt; have hne1 : ¬ w.heap.size = w1.heap.size := by omega)
            obtain ⟨X, hX⟩ : ∃ X, X = (w1.alloc (.cells (cv Cats.zero) 23)).setRow w1.heap.size (cv o1) := ⟨_, rfl⟩
            have hEX : Ext W X := by rw [hX]; exact (hE1.alloc _).setRow hE1.size _
            have hwX : Ext w1 X := by rw [hX]; exact (Ext.of_alloc w1 _).setRow (Nat.le_refl _) _
            have b12 : Blk X w1.heap.size 23 (cv o1) := by rw [hX]; exact (Blk.new w1 23 (cv Cats.zero)).setRow _
            have hxX := hx.trans hwX
            have b8 := b8.ext hxX
            have b9 := b9.ext hxX
            have b10 := b10.ext hxX
            rw [← hX]
            clear hX hx hE1 f1 f2 f3 f4 hwX hxX
            refine (rlist_w c _).mono ?_
            rintro e w2 ⟨v, rfl, hx2, hown⟩
            obtain ⟨A2, cap2, hv, hA2⟩ := hown.sl
            rw [List.length_map] at hv
            subst hv
            have hE2 := hEX.trans hx2
            have b12 := b12.ext hx2
            have b8 := b8.ext hx2
            have b9 := b9.ext hx2
            have b10 := b10.ext hx2
            have b0 := hB0.ext hE2
            clear hx2 hown hEX
            have hnl := sets_list_len c
            have hmost := Cats.mostTo_last c 240
            have hcl := Cats.count_list c
            have hlist : c.listTo 240 = c.list := rfl
            rw [hlist] at hmost
            have Hcl := Lib.hid hcl; clear hcl hlist
            have Hmost := Lib.hid hmost; clear hmost
            have hlast : ∀ h : 0 < c.list.length, c.list[c.list.length - 1]'(by omega) = c.most := fun h => by
              rw [Cats.most, Hmost.out, List.getLastD_eq_getLast?, List.getLast?_eq_getElem?, List.getElem?_eq_getElem (by omega)]; rfl
            have hlast2 : 0 < c.list.length → ∃ a2, A2 = some a2 ∧ w2.cell? (a2.add (c.list.length - 1)) = some (.int .i64 c.most) := fun h => by
              obtain ⟨a2, ha2, hc2⟩ := hA2.int (i := c.list.length - 1) (by omega)
              rw [hlast h] at hc2
              exact ⟨a2, ha2, hc2⟩
            have hlast3 : c.list.length = 0 → c.most = -1 := fun h => by
              rw [Cats.most, Hmost.out, List.length_eq_zero_iff.1 h]; rfl
            clear hlast Hmost
            obtain ⟨n, hn⟩ : ∃ n, c.list.length = n := ⟨_, rfl⟩
            rw [hn] at hnl hlast2 hlast3 ⊢
            have Hn := Lib.hid hn; clear hn
            have Hl2 := Lib.hid hlast2; clear hlast2
            have Hl3 := Lib.hid hlast3; clear hlast3
            go_upto_if 74 with (fail)
            go_cut [15] (fun s15 wx => s15 = .int .i64 c.most ∧ wx = w2)
            case first =>
              by_cases hz : 0 < n
              · obtain ⟨a2, ha2, hc2⟩ := Hl2.out hz
                subst ha2
                have hz2 : 1 ≤ n := hz
                go_wp2_with fail
                go_meet
                exact ⟨rfl, rfl⟩
              · have h0 : n = 0 := by omega
                have h1 := Hl3.out h0
                have H1 := Lib.hid h1; clear h1
                have hd : decide ((n : Int) > 0) = false := by simp; omega
                have hd3 : (n : Int) ≤ 0 := by omega
                have hd2 : decide (0 < n) = false := by simp; omega
                clear h0 hz
                go_wp2_with fail
                go_meet
                exact ⟨by rw [H1.out], rfl⟩
            case rest =>
              obtain ⟨rfl, rfl⟩ := hcut
              go_wp2_with fail
              have hE3 := hEW.trans hE2
              have htX := htW.ext hE2
              have hAX := hAW.ext hE2
              clear Hl2 Hl3 hlong
              refine wp_region_by (R := Ext) [([(12, none)], none), ([(8, none)], none), ([(81, some 0), (82, some 1)], none), ([(83, some 2)], none), ([(13, none), (84, some 3)], some (84, true)), ([(7, none), (84, some 3)], some (84, true)), ([(85, some 4), (86, some 5), (84, some 3)], some (84, true)), ([(84, some 3), (87, some 6)], none), ([(88, some 7)], none), ([(3, none), (89, some 8)], some (89, true)), ([(1, none), (89, some 8)], some (89, true)), ([(90, some 9), (91, some 10), (89, some 8)], some (89, true)), ([(9, none), (89, some 8)], some (89, true)), ([(92, some 11), (93, some 12), (89, some 8)], some (89, true)), ([(89, some 8), (94, some 13)], none), ([(95, some 14)], none), ([(3, none), (96, some 15)], some (96, true)), ([(1, none), (96, some 15)], some (96, true)), ([(97, some 16), (98, some 17), (96, some 15)], some (96, true)), ([(10, none), (96, some 15)], some (96, true)), ([(99, some 18), (100, some 19), (96, some 15)], some (96, true)), ([(96, some 15), (101, some 20)], none), ([(102, some 21)], none), ([(3, none), (103, some 22)], some (103, true)), ([(2, none), (103, some 22)], some (103, true)), ([(104, some 23), (105, some 24), (103, some 22)], some (103, true)), ([(3, none), (103, some 22)], some (103, true)), ([(2, none), (103, some 22)], some (103, true)), ([(107, some 26), (108, some 27), (103, some 22)], some (103, true)), ([(106, some 25), (109, some 28), (103, some 22)], some (103, true)), ([(103, some 22), (110, some 29)], none), ([(111, some 30)], none), ([(3, none), (112, some 31)], some (112, true)), ([(113, some 32), (112, some 31)], some (112, true)), ([(14, none), (112, some 31)], some (112, true)), ([(114, some 33), (115, some 34), (112, some 31)], some (112, true)), ([(112, some 31), (116, some 35)], none), ([(117, some 36)], none), ([(3, none), (118, some 37)], some (118, true)), ([(119, some 38), (118, some 37)], some (118, true)), ([(14, none), (118, some 37)], some (118, true)), ([(121, some 40), (118, some 37)], some (118, true)), ([(120, some 39), (122, some 41), (118, some 37)], some (118, true)), ([(118, some 37), (123, some 42)], none), ([(124, some 43)], none), ([(3, none), (125, some 44)], some (125, true)), ([(126, some 45), (125, some 44)], some (125, true)), ([(15, none), (125, some 44)], some (125, true))]
                [Sp.ex ?r1v0, Sp.ex ?r1v1, Sp.ex ?r1v2, Sp.ex ?r1v3, Sp.ex ?r1v4, Sp.ex ?r1v5, Sp.ex ?r1v6, Sp.ex ?r1v7, Sp.ex ?r1v8, Sp.ex ?r1v9, Sp.ex ?r1v10, Sp.ex ?r1v11, Sp.ex ?r1v12, Sp.ex ?r1v13, Sp.ex ?r1v14, Sp.ex ?r1v15, Sp.ex ?r1v16, Sp.ex ?r1v17, Sp.ex ?r1v18, Sp.ex ?r1v19, Sp.ex ?r1v20, Sp.ex ?r1v21, Sp.ex ?r1v22, Sp.ex ?r1v23, Sp.ex ?r1v24, Sp.ex ?r1v25, Sp.ex ?r1v26, Sp.ex ?r1v27, Sp.ex ?r1v28, Sp.ex ?r1v29, Sp.ex ?r1v30, Sp.ex ?r1v31, Sp.ex ?r1v32, Sp.un (PSl 1 (c.list.map iv)) false, Sp.ex ?r1v34, Sp.ex ?r1v35, Sp.ex ?r1v36, Sp.ex ?r1v37, Sp.ex ?r1v38, Sp.ex ?r1v39, Sp.ex ?r1v40, Sp.ex ?r1v41, Sp.ex ?r1v42, Sp.ex ?r1v43, Sp.ex ?r1v44, Sp.ex ?r1v45, Sp.ex ?r1v46, Sp.ex ?r1v47]
                (by kernel_rfl) (fun _ _ _ h1 h2 => h1.trans h2) (fun _ _ h => h.size) (Ext.refl _) rfl (by kernel_rfl) ?r1st (And.intro ?r1o0 (And.intro ?r1o1 (And.intro ?r1o2 (And.intro ?r1o3 (And.intro ?r1o4 (And.intro ?r1o5 (And.intro ?r1o6 (And.intro ?r1o7 (And.intro ?r1o8 (And.intro ?r1o9 (And.intro ?r1o10 (And.intro ?r1o11 (And.intro ?r1o12 (And.intro ?r1o13 (And.intro ?r1o14 (And.intro ?r1o15 (And.intro ?r1o16 (And.intro ?r1o17 (And.intro ?r1o18 (And.intro ?r1o19 (And.intro ?r1o20 (And.intro ?r1o21 (And.intro ?r1o22 (And.intro ?r1o23 (And.intro ?r1o24 (And.intro ?r1o25 (And.intro ?r1o26 (And.intro ?r1o27 (And.intro ?r1o28 (And.intro ?r1o29 (And.intro ?r1o30 (And.intro ?r1o31 (And.intro ?r1o32 (And.intro ?r1o33 (And.intro ?r1o34 (And.intro ?r1o35 (And.intro ?r1o36 (And.intro ?r1o37 (And.intro ?r1o38 (And.intro ?r1o39 (And.intro ?r1o40 (And.intro ?r1o41 (And.intro ?r1o42 (And.intro ?r1o43 (And.intro ?r1o44 (And.intro ?r1o45 (And.intro ?r1o46 (And.intro ?r1o47 trivial)))))))))))))))))))))))))))))))))))))))))))))))) ?r1fin
              case r1o0 | r1o1 | r1o2 | r1o3 | r1o4 | r1o5 | r1o6 | r1o7 | r1o8 | r1o9 | r1o10 =>
                intro a w1 K hR hE hK; simp [go_sem, EnvF, Sp.says, mk, Act.eval] at hE; obtain ⟨a1, a2, a3, a4⟩ := (b0.drew.ext hR).facts 30 (cv_size _); obtain ⟨f1, f2, f3, f4⟩ := (b8.drew.ext hR).facts 30 (cv_size _); obtain ⟨k1, k2, k3, k4⟩ := (b9.drew.ext hR).facts 30 (cv_size _); obtain ⟨l1, l2, l3, l4⟩ := (b10.drew.ext hR).facts 30 (cv_size _); obtain ⟨m1, m2, m3, m4⟩ := (b12.drew.ext hR).facts 30 (cv_size _); dsimp only [Runs]; go_simp; try go_bits
                go_wp2_with fail
                exact hK _ (Ext.refl _)
              case r1o11 =>
                intro a w1 K hR hE hK; simp [go_sem, EnvF, Sp.says, mk, Act.eval] at hE; obtain ⟨a1, a2, a3, a4⟩ := (b0.drew.ext hR).facts 30 (cv_size _); obtain ⟨f1, f2, f3, f4⟩ := (b8.drew.ext hR).facts 30 (cv_size _); obtain ⟨k1, k2, k3, k4⟩ := (b9.drew.ext hR).facts 30 (cv_size _); obtain ⟨l1, l2, l3, l4⟩ := (b10.drew.ext hR).facts 30 (cv_size _); obtain ⟨m1, m2, m3, m4⟩ := (b12.drew.ext hR).facts 30 (cv_size _); dsimp only [Runs]; go_simp; try go_bits
                go_wp2_with fail
                refine (with_w c l A cap _ hl (hAX.ext ((Ext.refl _).drew.trans hR))).mono ?_; rintro e w' ⟨rfl, hx⟩; exact hK _ hx
              case r1o12 | r1o13 | r1o14 | r1o15 | r1o16 | r1o17 =>
                intro a w1 K hR hE hK; simp [go_sem, EnvF, Sp.says, mk, Act.eval] at hE; obtain ⟨a1, a2, a3, a4⟩ := (b0.drew.ext hR).facts 30 (cv_size _); obtain ⟨f1, f2, f3, f4⟩ := (b8.drew.ext hR).facts 30 (cv_size _); obtain ⟨k1, k2, k3, k4⟩ := (b9.drew.ext hR).facts 30 (cv_size _); obtain ⟨l1, l2, l3, l4⟩ := (b10.drew.ext hR).facts 30 (cv_size _); obtain ⟨m1, m2, m3, m4⟩ := (b12.drew.ext hR).facts 30 (cv_size _); dsimp only [Runs]; go_simp; try go_bits
                go_wp2_with fail
                exact hK _ (Ext.refl _)
              case r1o18 =>
                intro a w1 K hR hE hK; simp [go_sem, EnvF, Sp.says, mk, Act.eval] at hE; obtain ⟨a1, a2, a3, a4⟩ := (b0.drew.ext hR).facts 30 (cv_size _); obtain ⟨f1, f2, f3, f4⟩ := (b8.drew.ext hR).facts 30 (cv_size _); obtain ⟨k1, k2, k3, k4⟩ := (b9.drew.ext hR).facts 30 (cv_size _); obtain ⟨l1, l2, l3, l4⟩ := (b10.drew.ext hR).facts 30 (cv_size _); obtain ⟨m1, m2, m3, m4⟩ := (b12.drew.ext hR).facts 30 (cv_size _); dsimp only [Runs]; go_simp; try go_bits
                go_wp2_with fail
                refine (without_w c l A cap _ hl (hAX.ext ((Ext.refl _).drew.trans hR))).mono ?_; rintro e w' ⟨rfl, hx⟩; exact hK _ hx
              case r1o19 | r1o20 | r1o21 | r1o22 | r1o23 | r1o24 =>
                intro a w1 K hR hE hK; simp [go_sem, EnvF, Sp.says, mk, Act.eval] at hE; obtain ⟨a1, a2, a3, a4⟩ := (b0.drew.ext hR).facts 30 (cv_size _); obtain ⟨f1, f2, f3, f4⟩ := (b8.drew.ext hR).facts 30 (cv_size _); obtain ⟨k1, k2, k3, k4⟩ := (b9.drew.ext hR).facts 30 (cv_size _); obtain ⟨l1, l2, l3, l4⟩ := (b10.drew.ext hR).facts 30 (cv_size _); obtain ⟨m1, m2, m3, m4⟩ := (b12.drew.ext hR).facts 30 (cv_size _); dsimp only [Runs]; go_simp; try go_bits
                go_wp2_with fail
                exact hK _ (Ext.refl _)
              case r1o25 =>
                intro a w1 K hR hE hK; simp [go_sem, EnvF, Sp.says, mk, Act.eval] at hE; obtain ⟨a1, a2, a3, a4⟩ := (b0.drew.ext hR).facts 30 (cv_size _); obtain ⟨f1, f2, f3, f4⟩ := (b8.drew.ext hR).facts 30 (cv_size _); obtain ⟨k1, k2, k3, k4⟩ := (b9.drew.ext hR).facts 30 (cv_size _); obtain ⟨l1, l2, l3, l4⟩ := (b10.drew.ext hR).facts 30 (cv_size _); obtain ⟨m1, m2, m3, m4⟩ := (b12.drew.ext hR).facts 30 (cv_size _); dsimp only [Runs]; go_simp; try go_bits
                go_wp2_with fail
                refine (has_w c k _).mono ?_; rintro e w' ⟨rfl, hx⟩; exact hK _ hx
              case r1o26 | r1o27 =>
                intro a w1 K hR hE hK; simp [go_sem, EnvF, Sp.says, mk, Act.eval] at hE; obtain ⟨a1, a2, a3, a4⟩ := (b0.drew.ext hR).facts 30 (cv_size _); obtain ⟨f1, f2, f3, f4⟩ := (b8.drew.ext hR).facts 30 (cv_size _); obtain ⟨k1, k2, k3, k4⟩ := (b9.drew.ext hR).facts 30 (cv_size _); obtain ⟨l1, l2, l3, l4⟩ := (b10.drew.ext hR).facts 30 (cv_size _); obtain ⟨m1, m2, m3, m4⟩ := (b12.drew.ext hR).facts 30 (cv_size _); dsimp only [Runs]; go_simp; try go_bits
                go_wp2_with fail
                exact hK _ (Ext.refl _)
              case r1o28 =>
                intro a w1 K hR hE hK; simp [go_sem, EnvF, Sp.says, mk, Act.eval] at hE; obtain ⟨a1, a2, a3, a4⟩ := (b0.drew.ext hR).facts 30 (cv_size _); obtain ⟨f1, f2, f3, f4⟩ := (b8.drew.ext hR).facts 30 (cv_size _); obtain ⟨k1, k2, k3, k4⟩ := (b9.drew.ext hR).facts 30 (cv_size _); obtain ⟨l1, l2, l3, l4⟩ := (b10.drew.ext hR).facts 30 (cv_size _); obtain ⟨m1, m2, m3, m4⟩ := (b12.drew.ext hR).facts 30 (cv_size _); dsimp only [Runs]; go_simp; try go_bits
                go_wp2_with fail
                refine (rhas_w c k _).mono ?_; rintro e w' ⟨rfl, hx⟩; exact hK _ hx
              case r1o29 | r1o30 | r1o31 | r1o32 =>
                intro a w1 K hR hE hK; simp [go_sem, EnvF, Sp.says, mk, Act.eval] at hE; obtain ⟨a1, a2, a3, a4⟩ := (b0.drew.ext hR).facts 30 (cv_size _); obtain ⟨f1, f2, f3, f4⟩ := (b8.drew.ext hR).facts 30 (cv_size _); obtain ⟨k1, k2, k3, k4⟩ := (b9.drew.ext hR).facts 30 (cv_size _); obtain ⟨l1, l2, l3, l4⟩ := (b10.drew.ext hR).facts 30 (cv_size _); obtain ⟨m1, m2, m3, m4⟩ := (b12.drew.ext hR).facts 30 (cv_size _); dsimp only [Runs]; go_simp; try go_bits
                go_wp2_with fail
                exact hK _ (Ext.refl _)
              case r1o33 =>
                intro a w1 K hR hE hK; simp [go_sem, EnvF, Sp.says, mk, Act.eval] at hE; obtain ⟨a1, a2, a3, a4⟩ := (b0.drew.ext hR).facts 30 (cv_size _); obtain ⟨f1, f2, f3, f4⟩ := (b8.drew.ext hR).facts 30 (cv_size _); obtain ⟨k1, k2, k3, k4⟩ := (b9.drew.ext hR).facts 30 (cv_size _); obtain ⟨l1, l2, l3, l4⟩ := (b10.drew.ext hR).facts 30 (cv_size _); obtain ⟨m1, m2, m3, m4⟩ := (b12.drew.ext hR).facts 30 (cv_size _); dsimp only [Runs]; go_simp; try go_bits
                go_wp2_with fail
                refine (list_w c _).mono ?_; rintro e w' ⟨v, rfl, hx, hown⟩; exact hK _ _ hx hown.sl (fun h => by cases h)
              case r1o34 =>
                intro a w1 K hR hE hK; simp [go_sem, EnvF, Sp.says, mk, Act.eval] at hE; obtain ⟨a1, a2, a3, a4⟩ := (b0.drew.ext hR).facts 30 (cv_size _); obtain ⟨f1, f2, f3, f4⟩ := (b8.drew.ext hR).facts 30 (cv_size _); obtain ⟨k1, k2, k3, k4⟩ := (b9.drew.ext hR).facts 30 (cv_size _); obtain ⟨l1, l2, l3, l4⟩ := (b10.drew.ext hR).facts 30 (cv_size _); obtain ⟨m1, m2, m3, m4⟩ := (b12.drew.ext hR).facts 30 (cv_size _); dsimp only [Runs]; go_simp; try go_bits
                go_wp2_with fail
                exact hK _ (Ext.refl _)
              case r1o35 =>
                intro a w1 K hR hE hK; simp [go_sem, EnvF, Sp.says, mk, Act.eval] at hE; obtain ⟨a1, a2, a3, a4⟩ := (b0.drew.ext hR).facts 30 (cv_size _); obtain ⟨f1, f2, f3, f4⟩ := (b8.drew.ext hR).facts 30 (cv_size _); obtain ⟨k1, k2, k3, k4⟩ := (b9.drew.ext hR).facts 30 (cv_size _); obtain ⟨l1, l2, l3, l4⟩ := (b10.drew.ext hR).facts 30 (cv_size _); obtain ⟨m1, m2, m3, m4⟩ := (b12.drew.ext hR).facts 30 (cv_size _); dsimp only [Runs]; go_simp; try go_bits
                go_wp2_with fail
                obtain ⟨⟨A', cap', hv, hAt⟩, hE2'⟩ := hE; rw [List.length_map, Hn.out] at hv; rw [hv]; have hi := ints_w c.list c.list A' A2 cap' cap2 w1 (by rw [Hn.out]; omega) (by rw [Hn.out]; omega) hAt (hA2.ext ((Ext.refl _).drew.trans hR)); rw [Hn.out] at hi; refine hi.mono ?_; rintro e w' ⟨rfl, hx⟩; rw [beq_self_eq_true]; exact hK _ hx
              case r1o36 | r1o37 | r1o38 =>
                intro a w1 K hR hE hK; simp [go_sem, EnvF, Sp.says, mk, Act.eval] at hE; obtain ⟨a1, a2, a3, a4⟩ := (b0.drew.ext hR).facts 30 (cv_size _); obtain ⟨f1, f2, f3, f4⟩ := (b8.drew.ext hR).facts 30 (cv_size _); obtain ⟨k1, k2, k3, k4⟩ := (b9.drew.ext hR).facts 30 (cv_size _); obtain ⟨l1, l2, l3, l4⟩ := (b10.drew.ext hR).facts 30 (cv_size _); obtain ⟨m1, m2, m3, m4⟩ := (b12.drew.ext hR).facts 30 (cv_size _); dsimp only [Runs]; go_simp; try go_bits
                go_wp2_with fail
                exact hK _ (Ext.refl _)
              case r1o39 =>
                intro a w1 K hR hE hK; simp [go_sem, EnvF, Sp.says, mk, Act.eval] at hE; obtain ⟨a1, a2, a3, a4⟩ := (b0.drew.ext hR).facts 30 (cv_size _); obtain ⟨f1, f2, f3, f4⟩ := (b8.drew.ext hR).facts 30 (cv_size _); obtain ⟨k1, k2, k3, k4⟩ := (b9.drew.ext hR).facts 30 (cv_size _); obtain ⟨l1, l2, l3, l4⟩ := (b10.drew.ext hR).facts 30 (cv_size _); obtain ⟨m1, m2, m3, m4⟩ := (b12.drew.ext hR).facts 30 (cv_size _); dsimp only [Runs]; go_simp; try go_bits
                go_wp2_with fail
                refine (count_w c _).mono ?_; rintro e w' ⟨rfl, hx⟩; rw [Hcl.out, Hn.out]; exact hK _ hx
              case r1o40 | r1o41 | r1o42 | r1o43 | r1o44 | r1o45 =>
                intro a w1 K hR hE hK; simp [go_sem, EnvF, Sp.says, mk, Act.eval] at hE; obtain ⟨a1, a2, a3, a4⟩ := (b0.drew.ext hR).facts 30 (cv_size _); obtain ⟨f1, f2, f3, f4⟩ := (b8.drew.ext hR).facts 30 (cv_size _); obtain ⟨k1, k2, k3, k4⟩ := (b9.drew.ext hR).facts 30 (cv_size _); obtain ⟨l1, l2, l3, l4⟩ := (b10.drew.ext hR).facts 30 (cv_size _); obtain ⟨m1, m2, m3, m4⟩ := (b12.drew.ext hR).facts 30 (cv_size _); dsimp only [Runs]; go_simp; try go_bits
                go_wp2_with fail
                exact hK _ (Ext.refl _)
              case r1o46 =>
                intro a w1 K hR hE hK; simp [go_sem, EnvF, Sp.says, mk, Act.eval] at hE; obtain ⟨a1, a2, a3, a4⟩ := (b0.drew.ext hR).facts 30 (cv_size _); obtain ⟨f1, f2, f3, f4⟩ := (b8.drew.ext hR).facts 30 (cv_size _); obtain ⟨k1, k2, k3, k4⟩ := (b9.drew.ext hR).facts 30 (cv_size _); obtain ⟨l1, l2, l3, l4⟩ := (b10.drew.ext hR).facts 30 (cv_size _); obtain ⟨m1, m2, m3, m4⟩ := (b12.drew.ext hR).facts 30 (cv_size _); dsimp only [Runs]; go_simp; try go_bits
                go_wp2_with fail
                refine (most_w c _).mono ?_; rintro e w' ⟨rfl, hx⟩; exact hK _ hx
              case r1o47 =>
                intro a w1 K hR hE hK; simp [go_sem, EnvF, Sp.says, mk, Act.eval] at hE; obtain ⟨a1, a2, a3, a4⟩ := (b0.drew.ext hR).facts 30 (cv_size _); obtain ⟨f1, f2, f3, f4⟩ := (b8.drew.ext hR).facts 30 (cv_size _); obtain ⟨k1, k2, k3, k4⟩ := (b9.drew.ext hR).facts 30 (cv_size _); obtain ⟨l1, l2, l3, l4⟩ := (b10.drew.ext hR).facts 30 (cv_size _); obtain ⟨m1, m2, m3, m4⟩ := (b12.drew.ext hR).facts 30 (cv_size _); dsimp only [Runs]; go_simp; try go_bits
                go_wp2_with fail
                exact hK _ (Ext.refl _)
              case r1st => simp only [StOk]; exact ⟨PSl.st, trivial⟩
              case r1fin =>
                simp only [FinR, mk, Act.put, List.length_cons, List.length_nil, Nat.reduceAdd, Nat.zero_add, List.drop_succ_cons, List.drop_zero, List.setIfInBounds_toArray, List.set_cons_succ, List.set_cons_zero]
                intro u1 w9 hR _ _
                go_wp2_with (go_at_call 14; refine (awake_w _ (htX.ext ((Ext.refl _).drew.trans hR))).mono ?_; rintro e w' ⟨rfl, hx⟩)
                go_ret
                exact ⟨rfl, (hE3.drew.trans hR).trans hx⟩
end Go.Proofs.YtpgpfcdkkhfemaaDoor
