/- gueritelaw03.AddrPrefixTexts answers true at any prefix and text, and leaves what lay in memory as it was. -/
import Derived.Test.YtpgpfcdkkhfemaaDoorWPfx3
open Go.RowKit Go.Reg Go.Gu
namespace Go.Proofs.YtpgpfcdkkhfemaaDoor
set_option linter.unusedSimpArgs false
set_option linter.unusedVariables false
set_option maxHeartbeats 600000
theorem right_all {x b : Int} (h0 : 0 ≤ b) (h1 : b ≤ 32) (hx : 0 ≤ x) : Ad.right x b = true ↔ ∀ j : Int, b ≤ j → j < 32 → x / 2 ^ (31 - j).toNat % 2 = 0 := by
  obtain ⟨X, rfl⟩ := Int.eq_ofNat_of_zero_le hx
  have hz := Ad.bits_zero X (32 - b).toNat
  have hr : Ad.right (X : Int) b = true ↔ X % 2 ^ (32 - b).toNat = 0 := by
    simp only [Ad.right, Bool.and_eq_true, decide_eq_true_eq]
    have e : ((X : Int) % 2 ^ (32 - b).toNat) = ((X % 2 ^ (32 - b).toNat : Nat) : Int) := by simp
    rw [e]; omega
  rw [hr, hz]
  have e : ∀ n : Nat, ((X : Int) / 2 ^ n % 2) = ((X / 2 ^ n % 2 : Nat) : Int) := fun n => by simp
  constructor
  · intro h j hj hj2
    have := h (31 - j).toNat (by omega)
    rw [e, this]; rfl
  · intro h i hi
    have := h (31 - (i : Int)) (by omega) (by omega)
    rw [show (31 - (31 - (i : Int))).toNat = i from by omega, e] at this
    omega
set_option maxRecDepth 100000 in
theorem rright_w (x b : Int) (ha0 : 0 ≤ x) (ha1 : x < 4294967296) (w : World) : Calls Tryd.prog 48 #[.agg #[.int .u32 x, .int .i64 b]] w fun e w' => e = .returned (.bool (Ad.right x b)) ∧ Ext w w' := by
  obtain ⟨W, hW⟩ : ∃ W, W = w.alloc (.cells #[.int .u32 x, .int .i64 b] 70) := ⟨_, rfl⟩
  have b1 : Blk W w.heap.size 70 (pv x b) := by rw [hW]; exact Blk.new w _ _
  have hEW : Ext w W := by rw [hW]; exact Ext.of_alloc w _
  obtain ⟨f1, f2, f3, f4, f5⟩ := pfx_facts b1
  obtain ⟨R, hR⟩ : ∃ R, Ad.right x b = R := ⟨_, rfl⟩
  rw [hR]
  go_enter Tryd.func48, Tryd.ntmps48
  go_upto_region 1 with (fail)
  rw [← hW]
  clear hW
  by_cases h0 : 0 ≤ b
  · by_cases h1 : b ≤ 32
    · have hall := right_all h0 h1 ha0
      rw [hR] at hall
      have Hall := Lib.hid hall; clear hall
      have HR := Lib.hid hR; clear hR
      go_wp2_with fail
      clear f1 f2 f3 f4 f5
      go_loopw [3] (fun s3 wr => ∃ k : Int, b ≤ k ∧ k ≤ 32 ∧ s3 = .int .i64 k ∧ Ext W wr ∧ (∀ j : Int, b ≤ j → j < k → x / 2 ^ (31 - j).toNat % 2 = 0)) (fun s3 _ => 32 - (intOf s3).toNat)
      case atStart => exact ⟨b, Int.le_refl _, h1, rfl, Ext.refl _, fun j h h' => by omega⟩
      case round =>
        obtain ⟨k, hk0, hk1, rfl, hE, hz⟩ := hrel
        have Hz := Lib.hid hz; clear hz
        obtain ⟨f1, f2, f3, f4, f5⟩ := pfx_facts (b1.ext hE)
        by_cases hlt : k < 32
        · obtain ⟨v, hv⟩ : ∃ v, x / 2 ^ (31 - k).toNat % 2 = v := ⟨_, rfl⟩
          have hv2 : v = 0 ∨ v = 1 := by omega
          have hbw := fun w' => bit_w2 x k ha0 ha1 (by omega) hlt w'
          rw [hv] at hbw
          have Hv := Lib.hid hv; clear hv
          have Hbw := Lib.hid hbw; clear hbw
          rcases hv2 with rfl | rfl
          · go_wp2_with (go_at_call 88; refine (Hbw.out _).mono ?_; rintro e w1 ⟨rfl, hx⟩)
            refine ⟨⟨k + 1, by omega, by omega, rfl, hE.trans hx, fun j h h' => ?_⟩, by simp [intOf]; omega⟩
            by_cases e : j = k
            · subst e; exact Hv.out
            · exact Hz.out j h (by omega)
          · have hfalse : R = false := by
              cases R with
              | false => rfl
              | true => have := (Hall.out.1 rfl) k hk0 hlt; rw [Hv.out] at this; omega
            subst hfalse
            go_wp2_with (go_at_call 88; refine (Hbw.out _).mono ?_; rintro e w1 ⟨rfl, hx⟩)
            go_ret
            exact ⟨rfl, (hEW.trans hE).trans hx⟩
        · obtain rfl : k = 32 := by omega
          have htrue : R = true := Hall.out.2 Hz.out
          subst htrue
          go_wp2_with fail
          go_ret
          exact ⟨rfl, hEW.trans hE⟩
    · have hfalse : R = false := by rw [← hR]; unfold Ad.right; rw [show decide (b ≤ 32) = false from decide_eq_false h1]; simp
      subst hfalse
      clear hR
      go_wp2_with fail
      go_ret
      exact ⟨rfl, hEW⟩
  · have hfalse : R = false := by rw [← hR]; unfold Ad.right; rw [show decide (0 ≤ b) = false from decide_eq_false h0]; simp
    subst hfalse
    clear hR
    go_wp2_with fail
    go_ret
    exact ⟨rfl, hEW⟩
/-! gueriteref03.PrefixText -/
set_option maxRecDepth 100000 in
theorem rptext_w (x b : Int) (ha0 : 0 ≤ x) (ha1 : x < 4294967296) (hb0 : 0 ≤ b) (hb1 : b ≤ 32) (w : World) :
    Calls Tryd.prog 49 #[.agg #[.int .u32 x, .int .i64 b]] w fun e w' => e = .returned (sv (Ad.text x ++ 47 :: Lib.itoa b)) ∧ Ext w w' := by
  obtain ⟨W, hW⟩ : ∃ W, W = w.alloc (.cells #[.int .u32 x, .int .i64 b] 70) := ⟨_, rfl⟩
  have b1 : Blk W w.heap.size 70 (pv x b) := by rw [hW]; exact Blk.new w _ _
  have hEW : Ext w W := by rw [hW]; exact Ext.of_alloc w _
  have hil := itoa_len hb0
  have htl := Ad.text_len ha0
  go_enter Tryd.func49, Tryd.ntmps49
  go_upto_region 1 with (fail)
  rw [← hW]
  clear hW
  refine wp_region_by (R := Ext) [([(1, none)], none), ([(3, some 0)], none), ([(4, some 1)], none), ([(5, some 2)], none), ([(1, none)], none), ([(7, some 4)], none), ([(8, some 5)], none)]
    [Sp.ex ?r1v0, Sp.ex ?r1v1, Sp.ex ?r1v2, Sp.ex ?r1v3, Sp.ex ?r1v4, Sp.ex ?r1v5, Sp.ex ?r1v6]
    (by kernel_rfl) (fun _ _ _ h1 h2 => h1.trans h2) (fun _ _ h => h.size) (Ext.refl _) rfl (by kernel_rfl) ?r1st (And.intro ?r1o0 (And.intro ?r1o1 (And.intro ?r1o2 (And.intro ?r1o3 (And.intro ?r1o4 (And.intro ?r1o5 (And.intro ?r1o6 trivial))))))) ?r1fin
  case r1o0 | r1o1 =>
    intro ac w1 K hR hE hK; simp [go_sem, EnvF, Sp.says, mk, Act.eval] at hE; obtain ⟨f1, f2, f3, f4, f5⟩ := pfx_facts (b1.drew.ext hR); dsimp only [Runs]; go_simp; try go_bits
    go_wp2_with fail
    exact hK _ (Ext.refl _)
  case r1o2 =>
    intro ac w1 K hR hE hK; simp [go_sem, EnvF, Sp.says, mk, Act.eval] at hE; obtain ⟨f1, f2, f3, f4, f5⟩ := pfx_facts (b1.drew.ext hR); dsimp only [Runs]; go_simp; try go_bits
    go_wp2_with fail
    refine (ratext_w x ha0 ha1 _).mono ?_; rintro e w' ⟨rfl, hx⟩; exact hK _ hx
  case r1o3 | r1o4 | r1o5 =>
    intro ac w1 K hR hE hK; simp [go_sem, EnvF, Sp.says, mk, Act.eval] at hE; obtain ⟨f1, f2, f3, f4, f5⟩ := pfx_facts (b1.drew.ext hR); dsimp only [Runs]; go_simp; try go_bits
    go_wp2_with fail
    exact hK _ (Ext.refl _)
  case r1o6 =>
    intro ac w1 K hR hE hK; simp [go_sem, EnvF, Sp.says, mk, Act.eval] at hE; obtain ⟨f1, f2, f3, f4, f5⟩ := pfx_facts (b1.drew.ext hR); dsimp only [Runs]; go_simp; try go_bits
    go_wp2_with fail
    refine (number_w b (by omega) (by omega) _).mono ?_; rintro e w' ⟨rfl, hx⟩; exact hK _ hx
  case r1st => simp only [StOk]
  case r1fin =>
    simp only [FinR, mk, Act.put, List.length_cons, List.length_nil, Nat.reduceAdd, Nat.zero_add, List.drop_succ_cons, List.drop_zero, List.setIfInBounds_toArray, List.set_cons_succ, List.set_cons_zero]
    intro w9 hR _ _
    go_wp2_with fail
    go_ret
    exact ⟨by simp, hEW.drew.trans hR⟩
/-! The law. -/
theorem pparse_bd (s : List UInt8) : 0 ≤ (Ad.pparse s).1.1 ∧ (Ad.pparse s).1.1 < 4294967296 := by
  cases h : (Ad.pparse s).2 with
  | true => exact (Ad.pparse_yes h).2.2
  | false => rw [Ad.pparse_no h]; omega
theorem ptext_len {x b : Int} (h0 : 0 ≤ x) : (Ad.ptext x b).length ≤ 3000 := by
  cases hr : Ad.right x b with
  | false => rw [Ad.ptext_wrong hr]; simp
  | true =>
    obtain ⟨hb0, hb1, _⟩ := Ad.right_iff hr
    have h1 := itoa_len hb0
    have h2 := Ad.text_len h0
    rw [Ad.ptext_right hr]; simp; omega
set_option maxRecDepth 100000 in
theorem aptexts_w (x b : Int) (ha0 : 0 ≤ x) (ha1 : x < 4294967296) (s : List UInt8) (w : World) (ht : TabOk w) (hv : VarsOk w) (hsl : s.length ≤ 9223372036854775807) :
    Calls Tryd.prog 10 #[.agg #[.int .u32 x, .int .i64 b], sv s] w fun e w' => e = .returned (.bool true) ∧ Ext w w' := by
  obtain ⟨W, hW⟩ : ∃ W, W = w.alloc (.cells #[.int .u32 x, .int .i64 b] 70) := ⟨_, rfl⟩
  have b2 : Blk W w.heap.size 70 (pv x b) := by rw [hW]; exact Blk.new w _ _
  have hE : Ext w W := by rw [hW]; exact Ext.of_alloc w _
  by_cases hlong : 60 < s.length
  · go_enter Tryd.func10, Tryd.ntmps10
    go_wp2_with (rw [← hW]; go_at_call 40; refine (aawake_w _ (ht.ext hE) (hv.ext hE)).mono ?_; rintro e w' ⟨rfl, hx⟩)
    go_ret
    exact ⟨rfl, hE.trans hx⟩
  · have htl := ptext_len (b := b) ha0
    have hp2 := fun w' h h' => pparse_w (Ad.ptext x b) (by omega) w' h h'
    have hp := fun w' h h' => pparse_w s (by omega) w' h h'
    have hyes := @Ad.pparse_yes s
    have hno := @Ad.pparse_no s
    obtain ⟨hy0, hy1⟩ := pparse_bd s
    obtain ⟨y, hy⟩ : ∃ y, (Ad.pparse s).1.1 = y := ⟨_, rfl⟩
    obtain ⟨z, hz⟩ : ∃ z, (Ad.pparse s).1.2 = z := ⟨_, rfl⟩
    obtain ⟨ok, hok⟩ : ∃ ok, (Ad.pparse s).2 = ok := ⟨_, rfl⟩
    have hno2 : ok = false → y = 0 ∧ z = 0 := fun h => by rw [← hy, ← hz, hno (hok.trans h)]; exact ⟨rfl, rfl⟩
    rw [hy] at hy0 hy1
    rw [hy, hz, hok] at hyes
    simp only [hy, hz, hok] at hp
    clear hy hz hok hno
    have hyes2 : ok = true → Ad.right y z = true ∧ (Ad.text y ++ 47 :: Lib.itoa z == s) = true ∧ 0 ≤ z ∧ z ≤ 32 := fun h => by
      obtain ⟨h1, h2, _⟩ := hyes h
      obtain ⟨h3, h4, _⟩ := Ad.right_iff h1
      exact ⟨h1, by simp [← h2], h3, h4⟩
    clear hyes
    obtain ⟨t, htt⟩ : ∃ t, Ad.ptext x b = t := ⟨_, rfl⟩
    obtain ⟨p, hp1⟩ : ∃ p, (Ad.pparse t).1.1 = p := ⟨_, rfl⟩
    obtain ⟨q, hq1⟩ : ∃ q, (Ad.pparse t).1.2 = q := ⟨_, rfl⟩
    obtain ⟨k, hk1⟩ : ∃ k, (Ad.pparse t).2 = k := ⟨_, rfl⟩
    have hright : Ad.right x b = true → p = x ∧ q = b ∧ k = true ∧ (t == Ad.text x ++ 47 :: Lib.itoa b) = true ∧ 0 ≤ b ∧ b ≤ 32 := fun h => by
      obtain ⟨h3, h4, _⟩ := Ad.right_iff h
      rw [← hp1, ← hq1, ← hk1, ← htt, Ad.pparse_text ha0 ha1 h]
      exact ⟨rfl, rfl, rfl, by simp [Ad.ptext_right h], h3, h4⟩
    have hwrong : Ad.right x b = false → k = false ∧ t = [] := fun h => by
      rw [← hk1, ← htt, Ad.ptext_wrong h, Ad.pparse_empty]; exact ⟨rfl, rfl⟩
    rw [htt] at hp2
    simp only [hp1, hq1, hk1] at hp2
    clear hp1 hq1 hk1 htl
    have Htt := Lib.hid htt; clear htt
    have Hp := Lib.hid hp; clear hp
    have Hp2 := Lib.hid hp2; clear hp2
    obtain ⟨f1, f2, f3, f4, f5⟩ := pfx_facts b2
    go_enter Tryd.func10, Tryd.ntmps10
    go_upto_region 3 with (fail)
    rw [← hW]
    clear hW
    go_wp2_with fail
    refine (ptext_w x b ha0 ha1 _ (ht.ext hE)).mono ?_
    rintro e w1 ⟨rfl, hx⟩
    rw [Htt.out]
    have hE := hE.trans hx
    have b2 := b2.ext hx
    clear f1 f2 f3 f4 f5 hx
    go_wp2_with fail
    refine (Hp2.out _ (ht.ext hE) (hv.ext hE)).mono ?_
    rintro e w2 ⟨rfl, hx⟩
    have hE := hE.trans hx
    have b2 := b2.ext hx
    clear hx
    go_wp2_with fail
    obtain ⟨X, hX⟩ : ∃ X, X = (w2.alloc (.cells #[.int .u32 0, .int .i64 0] 70)).setRow w2.heap.size #[.int .u32 p, .int .i64 q] := ⟨_, rfl⟩
    have hEX : Ext w2 X := by rw [hX]; exact (Ext.of_alloc w2 _).setRow (Nat.le_refl _) _
    have b6 : Blk X w2.heap.size 70 (pv p q) := by rw [hX]; exact (Blk.new w2 _ _).setRow _
    have hE := hE.trans hEX
    have b2 := b2.ext hEX
    rw [← hX]
    clear hX hEX
    refine (Hp.out _ (ht.ext hE) (hv.ext hE)).mono ?_
    rintro e w3 ⟨rfl, hx⟩
    have hE := hE.trans hx
    have b2 := b2.ext hx
    have b6 := b6.ext hx
    clear hx
    obtain ⟨Y, hY⟩ : ∃ Y, Y = (w3.alloc (.cells #[.int .u32 0, .int .i64 0] 70)).setRow w3.heap.size #[.int .u32 y, .int .i64 z] := ⟨_, rfl⟩
    have hEY : Ext w3 Y := by rw [hY]; exact (Ext.of_alloc w3 _).setRow (Nat.le_refl _) _
    have b8 : Blk Y w3.heap.size 70 (pv y z) := by rw [hY]; exact (Blk.new w3 _ _).setRow _
    have hE := hE.trans hEY
    have b2 := b2.ext hEY
    have b6 := b6.ext hEY
    go_upto_region 6 with (fail)
    rw [← hY]
    clear hY hEY
    obtain ⟨f1, f2, f3, f4, f5⟩ := pfx_facts b2
    obtain ⟨g1, g2, g3, g4, g5⟩ := pfx_facts b6
    obtain ⟨h1, h2, h3, h4, h5⟩ := pfx_facts b8
    cases hr : Ad.right x b with
    | false =>
      obtain ⟨rfl, rfl⟩ := hwrong hr
      have Hr := Lib.hid hr; clear hr hright hwrong hno2 hyes2
      have hb0 : True := trivial
      have hb1 : True := trivial
      have Hyr : True := trivial
      have hz0 : True := trivial
      have hz1 : True := trivial
      go_wp2_with (first
        | (go_at_call_of 48 (Value.agg #[Value.int IntKind.u32 x, Value.int IntKind.i64 b]); refine (rright_w x b ha0 ha1 _).mono ?_; rintro e w4 ⟨rfl, hx⟩; rw [Hr.out]; clear f1 f2 f3 f4 f5 g1 g2 g3 g4 g5 h1 h2 h3 h4 h5; have hE := hE.trans hx; have b2 := b2.ext hx; have b6 := b6.ext hx; have b8 := b8.ext hx; clear hx; obtain ⟨f1, f2, f3, f4, f5⟩ := pfx_facts b2; obtain ⟨g1, g2, g3, g4, g5⟩ := pfx_facts b6; obtain ⟨h1, h2, h3, h4, h5⟩ := pfx_facts b8)
        | (go_at_call 48; refine (rright_w y z hy0 hy1 _).mono ?_; rintro e w5 ⟨rfl, hx⟩; rw [Hyr.out]; clear f1 f2 f3 f4 f5 g1 g2 g3 g4 g5 h1 h2 h3 h4 h5; have hE := hE.trans hx; have b2 := b2.ext hx; have b6 := b6.ext hx; have b8 := b8.ext hx; clear hx; obtain ⟨f1, f2, f3, f4, f5⟩ := pfx_facts b2; obtain ⟨g1, g2, g3, g4, g5⟩ := pfx_facts b6; obtain ⟨h1, h2, h3, h4, h5⟩ := pfx_facts b8)
        | (go_at_call_of 49 (Value.agg #[Value.int IntKind.u32 x, Value.int IntKind.i64 b]); refine (rptext_w x b ha0 ha1 hb0 hb1 _).mono ?_; rintro e w6 ⟨rfl, hx⟩; clear f1 f2 f3 f4 f5 g1 g2 g3 g4 g5 h1 h2 h3 h4 h5; have hE := hE.trans hx; have b2 := b2.ext hx; have b6 := b6.ext hx; have b8 := b8.ext hx; clear hx; obtain ⟨f1, f2, f3, f4, f5⟩ := pfx_facts b2; obtain ⟨g1, g2, g3, g4, g5⟩ := pfx_facts b6; obtain ⟨h1, h2, h3, h4, h5⟩ := pfx_facts b8)
        | (go_at_call 49; refine (rptext_w y z hy0 hy1 hz0 hz1 _).mono ?_; rintro e w7 ⟨rfl, hx⟩; clear f1 f2 f3 f4 f5 g1 g2 g3 g4 g5 h1 h2 h3 h4 h5; have hE := hE.trans hx; have b2 := b2.ext hx; have b6 := b6.ext hx; have b8 := b8.ext hx; clear hx; obtain ⟨f1, f2, f3, f4, f5⟩ := pfx_facts b2; obtain ⟨g1, g2, g3, g4, g5⟩ := pfx_facts b6; obtain ⟨h1, h2, h3, h4, h5⟩ := pfx_facts b8)
        | (go_at_call 40; refine (aawake_w _ (ht.ext hE) (hv.ext hE)).mono ?_; rintro e w8 ⟨rfl, hx⟩; clear f1 f2 f3 f4 f5 g1 g2 g3 g4 g5 h1 h2 h3 h4 h5; have hE := hE.trans hx; have b2 := b2.ext hx; have b6 := b6.ext hx; have b8 := b8.ext hx; clear hx; obtain ⟨f1, f2, f3, f4, f5⟩ := pfx_facts b2; obtain ⟨g1, g2, g3, g4, g5⟩ := pfx_facts b6; obtain ⟨h1, h2, h3, h4, h5⟩ := pfx_facts b8))
      go_ret
      exact ⟨rfl, hE⟩
    | true =>
      obtain ⟨rfl, rfl, rfl, htb, hb0, hb1⟩ := hright hr
      have Hr := Lib.hid hr; clear hr hright hwrong
      cases ok with
      | true =>
        obtain ⟨hyr, hyt, hz0, hz1⟩ := hyes2 rfl
        have Hyr := Lib.hid hyr; clear hyr hyes2 hno2
        go_wp2_with (first
          | (go_at_call_of 48 (Value.agg #[Value.int IntKind.u32 p, Value.int IntKind.i64 q]); refine (rright_w p q ha0 ha1 _).mono ?_; rintro e w4 ⟨rfl, hx⟩; rw [Hr.out]; clear f1 f2 f3 f4 f5 g1 g2 g3 g4 g5 h1 h2 h3 h4 h5; have hE := hE.trans hx; have b2 := b2.ext hx; have b6 := b6.ext hx; have b8 := b8.ext hx; clear hx; obtain ⟨f1, f2, f3, f4, f5⟩ := pfx_facts b2; obtain ⟨g1, g2, g3, g4, g5⟩ := pfx_facts b6; obtain ⟨h1, h2, h3, h4, h5⟩ := pfx_facts b8)
          | (go_at_call 48; refine (rright_w y z hy0 hy1 _).mono ?_; rintro e w5 ⟨rfl, hx⟩; rw [Hyr.out]; clear f1 f2 f3 f4 f5 g1 g2 g3 g4 g5 h1 h2 h3 h4 h5; have hE := hE.trans hx; have b2 := b2.ext hx; have b6 := b6.ext hx; have b8 := b8.ext hx; clear hx; obtain ⟨f1, f2, f3, f4, f5⟩ := pfx_facts b2; obtain ⟨g1, g2, g3, g4, g5⟩ := pfx_facts b6; obtain ⟨h1, h2, h3, h4, h5⟩ := pfx_facts b8)
          | (go_at_call_of 49 (Value.agg #[Value.int IntKind.u32 p, Value.int IntKind.i64 q]); refine (rptext_w p q ha0 ha1 hb0 hb1 _).mono ?_; rintro e w6 ⟨rfl, hx⟩; clear f1 f2 f3 f4 f5 g1 g2 g3 g4 g5 h1 h2 h3 h4 h5; have hE := hE.trans hx; have b2 := b2.ext hx; have b6 := b6.ext hx; have b8 := b8.ext hx; clear hx; obtain ⟨f1, f2, f3, f4, f5⟩ := pfx_facts b2; obtain ⟨g1, g2, g3, g4, g5⟩ := pfx_facts b6; obtain ⟨h1, h2, h3, h4, h5⟩ := pfx_facts b8)
          | (go_at_call 49; refine (rptext_w y z hy0 hy1 hz0 hz1 _).mono ?_; rintro e w7 ⟨rfl, hx⟩; clear f1 f2 f3 f4 f5 g1 g2 g3 g4 g5 h1 h2 h3 h4 h5; have hE := hE.trans hx; have b2 := b2.ext hx; have b6 := b6.ext hx; have b8 := b8.ext hx; clear hx; obtain ⟨f1, f2, f3, f4, f5⟩ := pfx_facts b2; obtain ⟨g1, g2, g3, g4, g5⟩ := pfx_facts b6; obtain ⟨h1, h2, h3, h4, h5⟩ := pfx_facts b8)
          | (go_at_call 40; refine (aawake_w _ (ht.ext hE) (hv.ext hE)).mono ?_; rintro e w8 ⟨rfl, hx⟩; clear f1 f2 f3 f4 f5 g1 g2 g3 g4 g5 h1 h2 h3 h4 h5; have hE := hE.trans hx; have b2 := b2.ext hx; have b6 := b6.ext hx; have b8 := b8.ext hx; clear hx; obtain ⟨f1, f2, f3, f4, f5⟩ := pfx_facts b2; obtain ⟨g1, g2, g3, g4, g5⟩ := pfx_facts b6; obtain ⟨h1, h2, h3, h4, h5⟩ := pfx_facts b8))
        go_ret
        exact ⟨rfl, hE⟩
      | false =>
        obtain ⟨rfl, rfl⟩ := hno2 rfl
        clear hyes2 hno2
        have Hyr : True := trivial
        have hz0 : True := trivial
        have hz1 : True := trivial
        go_wp2_with (first
          | (go_at_call_of 48 (Value.agg #[Value.int IntKind.u32 p, Value.int IntKind.i64 q]); refine (rright_w p q ha0 ha1 _).mono ?_; rintro e w4 ⟨rfl, hx⟩; rw [Hr.out]; clear f1 f2 f3 f4 f5 g1 g2 g3 g4 g5 h1 h2 h3 h4 h5; have hE := hE.trans hx; have b2 := b2.ext hx; have b6 := b6.ext hx; have b8 := b8.ext hx; clear hx; obtain ⟨f1, f2, f3, f4, f5⟩ := pfx_facts b2; obtain ⟨g1, g2, g3, g4, g5⟩ := pfx_facts b6; obtain ⟨h1, h2, h3, h4, h5⟩ := pfx_facts b8)
          | (go_at_call 48; refine (rright_w y z hy0 hy1 _).mono ?_; rintro e w5 ⟨rfl, hx⟩; rw [Hyr.out]; clear f1 f2 f3 f4 f5 g1 g2 g3 g4 g5 h1 h2 h3 h4 h5; have hE := hE.trans hx; have b2 := b2.ext hx; have b6 := b6.ext hx; have b8 := b8.ext hx; clear hx; obtain ⟨f1, f2, f3, f4, f5⟩ := pfx_facts b2; obtain ⟨g1, g2, g3, g4, g5⟩ := pfx_facts b6; obtain ⟨h1, h2, h3, h4, h5⟩ := pfx_facts b8)
          | (go_at_call_of 49 (Value.agg #[Value.int IntKind.u32 p, Value.int IntKind.i64 q]); refine (rptext_w p q ha0 ha1 hb0 hb1 _).mono ?_; rintro e w6 ⟨rfl, hx⟩; clear f1 f2 f3 f4 f5 g1 g2 g3 g4 g5 h1 h2 h3 h4 h5; have hE := hE.trans hx; have b2 := b2.ext hx; have b6 := b6.ext hx; have b8 := b8.ext hx; clear hx; obtain ⟨f1, f2, f3, f4, f5⟩ := pfx_facts b2; obtain ⟨g1, g2, g3, g4, g5⟩ := pfx_facts b6; obtain ⟨h1, h2, h3, h4, h5⟩ := pfx_facts b8)
          | (go_at_call 49; refine (rptext_w y z hy0 hy1 hz0 hz1 _).mono ?_; rintro e w7 ⟨rfl, hx⟩; clear f1 f2 f3 f4 f5 g1 g2 g3 g4 g5 h1 h2 h3 h4 h5; have hE := hE.trans hx; have b2 := b2.ext hx; have b6 := b6.ext hx; have b8 := b8.ext hx; clear hx; obtain ⟨f1, f2, f3, f4, f5⟩ := pfx_facts b2; obtain ⟨g1, g2, g3, g4, g5⟩ := pfx_facts b6; obtain ⟨h1, h2, h3, h4, h5⟩ := pfx_facts b8)
          | (go_at_call 40; refine (aawake_w _ (ht.ext hE) (hv.ext hE)).mono ?_; rintro e w8 ⟨rfl, hx⟩; clear f1 f2 f3 f4 f5 g1 g2 g3 g4 g5 h1 h2 h3 h4 h5; have hE := hE.trans hx; have b2 := b2.ext hx; have b6 := b6.ext hx; have b8 := b8.ext hx; clear hx; obtain ⟨f1, f2, f3, f4, f5⟩ := pfx_facts b2; obtain ⟨g1, g2, g3, g4, g5⟩ := pfx_facts b6; obtain ⟨h1, h2, h3, h4, h5⟩ := pfx_facts b8))
        go_ret
        exact ⟨rfl, hE⟩
end Go.Proofs.YtpgpfcdkkhfemaaDoor
