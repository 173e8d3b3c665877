/- addr.Holds, addr.PrefixText, addr.ParsePrefix, addr.Kind, the document's own, and the example. -/
import Derived.Test.YtpgpfcdkkhfemaaDoorWPfx
open Go.RowKit Go.Reg Go.Gu
namespace Go.Proofs.YtpgpfcdkkhfemaaDoor
set_option linter.unusedSimpArgs false
set_option linter.unusedVariables false
set_option maxHeartbeats 600000
set_option maxRecDepth 100000 in
theorem holds_w (x b y : Int) (ha0 : 0 ≤ x) (ha1 : x < 4294967296) (hy0 : 0 ≤ y) (hy1 : y < 4294967296) (hr : Ad.right x b = true) (w : World) :
    Calls Tryd.prog 80 #[.agg #[.int .u32 x, .int .i64 b], .int .u32 y] w fun e w' => e = .returned (.bool (Ad.cutA y b == x)) ∧ Ext w w' := by
  obtain ⟨hb0, hb1, _⟩ := Ad.right_iff hr
  obtain ⟨W, hW⟩ : ∃ W, W = w.alloc (.cells #[.int .u32 x, .int .i64 b] 70) := ⟨_, rfl⟩
  have b1 : Blk W w.heap.size 70 (pv x b) := by rw [hW]; exact Blk.new w _ _
  have hEW : Ext w W := by rw [hW]; exact Ext.of_alloc w _
  have Hr := Lib.hid hr; clear hr
  have hand := and_cut y b hy0 hy1 hb0 hb1
  have Hand := Lib.hid hand; clear hand
  go_enter Tryd.func80, Tryd.ntmps80
  go_upto_region 1 with (fail)
  rw [← hW]
  clear hW
  refine wp_region_by (R := Ext) [([(2, none)], none), ([(5, some 0)], none), ([(6, some 1)], none), ([(1, none), (7, some 2)], some (7, true)), ([(2, none), (7, some 2)], some (7, true)), ([(9, some 4), (7, some 2)], some (7, true)), ([(10, some 5), (7, some 2)], some (7, true)), ([(8, some 3), (11, some 6), (7, some 2)], some (7, true)), ([(2, none), (7, some 2)], some (7, true)), ([(13, some 8), (7, some 2)], some (7, true))]
    [Sp.ex ?r2v0, Sp.ex ?r2v1, Sp.ex ?r2v2, Sp.ex ?r2v3, Sp.ex ?r2v4, Sp.ex ?r2v5, Sp.ex ?r2v6, Sp.ex ?r2v7, Sp.ex ?r2v8, Sp.ex ?r2v9]
    (by kernel_rfl) (fun _ _ _ h1 h2 => h1.trans h2) (fun _ _ h => h.size) (Ext.refl _) rfl (by kernel_rfl) ?r2st (And.intro ?r2o0 (And.intro ?r2o1 (And.intro ?r2o2 (And.intro ?r2o3 (And.intro ?r2o4 (And.intro ?r2o5 (And.intro ?r2o6 (And.intro ?r2o7 (And.intro ?r2o8 (And.intro ?r2o9 trivial)))))))))) ?r2fin
  case r2o0 =>
    intro ac w1 K hR hE hK; simp [go_sem, EnvF, Sp.says, mk, Act.eval] at hE; obtain ⟨f1, f2, f3, f4, f5⟩ := pfx_facts (b1.drew.ext hR); dsimp only [Runs]; go_simp; try go_bits
    go_wp2_with fail
    exact hK _ (Ext.refl _)
  case r2o1 =>
    intro ac w1 K hR hE hK; simp [go_sem, EnvF, Sp.says, mk, Act.eval] at hE; obtain ⟨f1, f2, f3, f4, f5⟩ := pfx_facts (b1.drew.ext hR); dsimp only [Runs]; go_simp; try go_bits
    go_wp2_with fail
    refine (aright_w x b ha0 ha1 _).mono ?_; rintro e w' ⟨rfl, hx⟩; rw [Hr.out]; exact hK _ hx
  case r2o2 | r2o3 | r2o4 | r2o5 =>
    intro ac w1 K hR hE hK; simp [go_sem, EnvF, Sp.says, mk, Act.eval] at hE; obtain ⟨f1, f2, f3, f4, f5⟩ := pfx_facts (b1.drew.ext hR); dsimp only [Runs]; go_simp; try go_bits
    go_wp2_with fail
    exact hK _ (Ext.refl _)
  case r2o6 =>
    intro ac w1 K hR hE hK; simp [go_sem, EnvF, Sp.says, mk, Act.eval] at hE; obtain ⟨f1, f2, f3, f4, f5⟩ := pfx_facts (b1.drew.ext hR); dsimp only [Runs]; go_simp; try go_bits
    go_wp2_with fail
    refine (mask_w b hb0 hb1 _).mono ?_; rintro e w' ⟨rfl, hx⟩; exact hK _ hx
  case r2o7 | r2o8 | r2o9 =>
    intro ac w1 K hR hE hK; simp [go_sem, EnvF, Sp.says, mk, Act.eval] at hE; obtain ⟨f1, f2, f3, f4, f5⟩ := pfx_facts (b1.drew.ext hR); dsimp only [Runs]; go_simp; try go_bits
    go_wp2_with fail
    exact hK _ (Ext.refl _)
  case r2st => simp only [StOk]
  case r2fin =>
    simp only [FinR, mk, Act.put, List.length_cons, List.length_nil, Nat.reduceAdd, Nat.zero_add, List.drop_succ_cons, List.drop_zero, List.setIfInBounds_toArray, List.set_cons_succ, List.set_cons_zero]
    intro w9 hR _ _
    go_wp2_with fail
    go_ret
    refine ⟨?_, hEW.drew.trans hR⟩
    rw [← Hand.out]; rfl
/-! addr.PrefixText -/
set_option maxRecDepth 100000 in
theorem ptext_w (x b : Int) (ha0 : 0 ≤ x) (ha1 : x < 4294967296) (w : World) (ht : TabOk w) :
    Calls Tryd.prog 46 #[.agg #[.int .u32 x, .int .i64 b]] w fun e w' => e = .returned (sv (Ad.ptext x b)) ∧ Ext w w' := by
  obtain ⟨W, hW⟩ : ∃ W, W = w.alloc (.cells #[.int .u32 x, .int .i64 b] 70) := ⟨_, rfl⟩
  have b1 : Blk W w.heap.size 70 (pv x b) := by rw [hW]; exact Blk.new w _ _
  have hEW : Ext w W := by rw [hW]; exact Ext.of_alloc w _
  obtain ⟨f1, f2, f3, f4, f5⟩ := pfx_facts b1
  cases hr : Ad.right x b with
  | true =>
    obtain ⟨hb0, hb1, _⟩ := Ad.right_iff hr
    have hil := itoa_len hb0
    have htl := Ad.text_len ha0
    have htx := Ad.ptext_right hr
    have Htx := Lib.hid htx; clear htx
    go_enter Tryd.func46, Tryd.ntmps46
    go_upto_region 1 with (fail)
    rw [← hW]
    clear hW
    go_wp2_with (go_at_call 86; refine (aright_w x b ha0 ha1 _).mono ?_; rintro e W1 ⟨rfl, hx⟩)
    have hEW := hEW.trans hx
    have b1 := b1.ext hx
    clear f1 f2 f3 f4 f5 hx
    refine wp_region_by (R := Ext) [([(1, none)], none), ([(6, some 0)], none), ([(7, some 1)], none), ([(8, some 2)], none), ([(1, none)], none), ([(10, some 4)], none), ([(11, some 5)], none)]
      [Sp.ex ?r1v0, Sp.ex ?r1v1, Sp.ex ?r1v2, Sp.ex ?r1v3, Sp.ex ?r1v4, Sp.ex ?r1v5, Sp.ex ?r1v6]
      (by kernel_rfl) (fun _ _ _ h1 h2 => h1.trans h2) (fun _ _ h => h.size) (Ext.refl _) rfl (by kernel_rfl) ?r1st (And.intro ?r1o0 (And.intro ?r1o1 (And.intro ?r1o2 (And.intro ?r1o3 (And.intro ?r1o4 (And.intro ?r1o5 (And.intro ?r1o6 trivial))))))) ?r1fin
    case r1o0 | r1o1 =>
      intro ac w1 K hR hE hK; simp [go_sem, EnvF, Sp.says, mk, Act.eval] at hE; obtain ⟨f1, f2, f3, f4, f5⟩ := pfx_facts (b1.drew.ext hR); dsimp only [Runs]; go_simp; try go_bits
      go_wp2_with fail
      exact hK _ (Ext.refl _)
    case r1o2 =>
      intro ac w1 K hR hE hK; simp [go_sem, EnvF, Sp.says, mk, Act.eval] at hE; obtain ⟨f1, f2, f3, f4, f5⟩ := pfx_facts (b1.drew.ext hR); dsimp only [Runs]; go_simp; try go_bits
      go_wp2_with fail
      refine (atext_w x ha0 ha1 _ (ht.ext (hEW.drew.trans hR))).mono ?_; rintro e w' ⟨rfl, hx⟩; exact hK _ hx
    case r1o3 | r1o4 | r1o5 =>
      intro ac w1 K hR hE hK; simp [go_sem, EnvF, Sp.says, mk, Act.eval] at hE; obtain ⟨f1, f2, f3, f4, f5⟩ := pfx_facts (b1.drew.ext hR); dsimp only [Runs]; go_simp; try go_bits
      go_wp2_with fail
      exact hK _ (Ext.refl _)
    case r1o6 =>
      intro ac w1 K hR hE hK; simp [go_sem, EnvF, Sp.says, mk, Act.eval] at hE; obtain ⟨f1, f2, f3, f4, f5⟩ := pfx_facts (b1.drew.ext hR); dsimp only [Runs]; go_simp; try go_bits
      go_wp2_with fail
      refine (itoa_w b (by omega) (by omega) _ (ht.ext (hEW.drew.trans hR))).mono ?_; rintro e w' ⟨rfl, hx⟩; exact hK _ hx
    case r1st => simp only [StOk]
    case r1fin =>
      simp only [FinR, mk, Act.put, List.length_cons, List.length_nil, Nat.reduceAdd, Nat.zero_add, List.drop_succ_cons, List.drop_zero, List.setIfInBounds_toArray, List.set_cons_succ, List.set_cons_zero]
      intro w9 hR _ _
      go_wp2_with fail
      go_ret
      exact ⟨by rw [Htx.out]; simp, hEW.drew.trans hR⟩
  | false =>
    have htx := Ad.ptext_wrong hr
    have Htx := Lib.hid htx; clear htx
    go_enter Tryd.func46, Tryd.ntmps46
    go_upto_region 1 with (fail)
    rw [← hW]
    clear hW
    go_wp2_with (go_at_call 86; refine (aright_w x b ha0 ha1 _).mono ?_; rintro e W1 ⟨rfl, hx⟩)
    go_ret
    exact ⟨by rw [Htx.out]; rfl, hEW.trans hx⟩
/-! addr.Kind -/
theorem kind_cases (x : Int) (h0 : 0 ≤ x) (h1 : x < 4294967296) : (x < 16777216 ∧ Ad.kind x = 0) ∨ (2130706432 ≤ x ∧ x < 2147483648 ∧ Ad.kind x = 1) ∨ (4026531840 ≤ x ∧ Ad.kind x = 3) ∨ (3758096384 ≤ x ∧ x < 4026531840 ∧ Ad.kind x = 2) ∨ (16777216 ≤ x ∧ x < 3758096384 ∧ (x < 2130706432 ∨ 2147483648 ≤ x) ∧ Ad.kind x = 4) := by
  unfold Ad.kind
  by_cases a : x < 16777216
  · left; rw [if_pos (by omega)]; exact ⟨a, rfl⟩
  · rw [if_neg (by omega)]
    by_cases b : x / 16777216 % 256 = 127
    · rw [if_pos b]; right; left; exact ⟨by omega, by omega, rfl⟩
    · rw [if_neg b]
      by_cases c : 240 ≤ x / 16777216 % 256
      · rw [if_pos c]; right; right; left; exact ⟨by omega, rfl⟩
      · rw [if_neg c]
        by_cases d : 224 ≤ x / 16777216 % 256
        · rw [if_pos d]; right; right; right; left; exact ⟨by omega, by omega, rfl⟩
        · rw [if_neg d]; right; right; right; right; exact ⟨by omega, by omega, by omega, rfl⟩
set_option maxRecDepth 100000 in
theorem kind_w (x : Int) (h0 : 0 ≤ x) (h1 : x < 4294967296) (w : World) : Calls Tryd.prog 44 #[.int .u32 x] w fun e w' => e = .returned (.int .i64 (Ad.kind x)) ∧ Ext w w' := by
  obtain ⟨z, hz⟩ : ∃ z, x / 16777216 % 256 = z := ⟨_, rfl⟩
  have hk : Ad.kind x = if z = 0 then 0 else if z = 127 then 1 else if 240 ≤ z then 3 else if 224 ≤ z then 2 else 4 := by rw [← hz]; rfl
  have hz0 : 0 ≤ z ∧ z < 256 := by omega
  have Hz := Lib.hid hz; clear hz
  obtain ⟨z0, z1⟩ := hz0
  obtain ⟨r, hr⟩ : ∃ r, Ad.kind x = r := ⟨_, rfl⟩
  rw [hr] at hk ⊢
  clear hr
  have hb : bv4 x = #[.int .u8 z, .int .u8 (x / 65536 % 256), .int .u8 (x / 256 % 256), .int .u8 (x % 256)] := by unfold bv4; rw [Hz.out]
  have Hb := Lib.hid hb; clear hb
  go_enter Tryd.func44, Tryd.ntmps44
  by_cases c0 : z = 0
  · subst c0
    go_wp2_with (go_at_call 83; refine (bytes_w x h0 h1 _).mono ?_; rintro e w1 ⟨rfl, hx⟩; rw [Hb.out])
    go_ret
    exact ⟨by rw [hk]; rfl, hx⟩
  · by_cases c1 : z = 127
    · subst c1
      go_wp2_with (go_at_call 83; refine (bytes_w x h0 h1 _).mono ?_; rintro e w1 ⟨rfl, hx⟩; rw [Hb.out])
      go_ret
      exact ⟨by rw [hk]; rfl, hx⟩
    · have d0 : (z == 0) = false := by simpa using c0
      have d1 : (z == 127) = false := by simpa using c1
      rw [if_neg c0, if_neg c1] at hk
      clear c0 c1
      have Hk := Lib.hid hk; clear hk
      by_cases c2 : 240 ≤ z
      · go_wp2_with (go_at_call 83; refine (bytes_w x h0 h1 _).mono ?_; rintro e w1 ⟨rfl, hx⟩; rw [Hb.out])
        go_ret
        exact ⟨by rw [Hk.out, if_pos c2]; rfl, hx⟩
      · by_cases c3 : 224 ≤ z
        · go_wp2_with (go_at_call 83; refine (bytes_w x h0 h1 _).mono ?_; rintro e w1 ⟨rfl, hx⟩; rw [Hb.out])
          go_ret
          exact ⟨by rw [Hk.out, if_neg (by omega), if_pos c3]; rfl, hx⟩
        · go_wp2_with (go_at_call 83; refine (bytes_w x h0 h1 _).mono ?_; rintro e w1 ⟨rfl, hx⟩; rw [Hb.out])
          go_ret
          exact ⟨by rw [Hk.out, if_neg (by omega), if_neg (by omega)]; rfl, hx⟩
set_option maxRecDepth 100000 in
theorem rkind_w (x : Int) (h0 : 0 ≤ x) (h1 : x < 4294967296) (w : World) : Calls Tryd.prog 45 #[.int .u32 x] w fun e w' => e = .returned (.int .i64 (Ad.kind x)) ∧ w = w' := by
  go_enter Tryd.func45, Tryd.ntmps45
  rcases kind_cases x h0 h1 with ⟨a, hk⟩ | ⟨a, b, hk⟩ | ⟨a, hk⟩ | ⟨a, b, hk⟩ | ⟨a, b, c | c, hk⟩
  all_goals
    have Hk := Lib.hid hk; clear hk
    go_wp2_with fail
    go_ret
    exact ⟨by rw [Hk.out]; rfl, rfl⟩
end Go.Proofs.YtpgpfcdkkhfemaaDoor
