import Derived.Test.YtpgpfcdkkhfemaaDoorWCats
import Derived.Test.YtpgpfcdkkhfemaaDoorCats2
import Derived.Test.YtpgpfcdkkhfemaaDoorShelf
open Go.RowKit Go.Reg Go.Gu
namespace Go.Proofs.YtpgpfcdkkhfemaaDoor
set_option linter.unusedSimpArgs false
set_option linter.unusedVariables false
set_option maxHeartbeats 400000
theorem info_int : (Tryd.prog.info? 3).map (fun i => (i.zero, i.size, i.bytes)) = some (some (.int .i64 0), 1, 8) := by kernel_rfl
/-! cats.List -/
set_option maxRecDepth 100000 in
theorem list_w (c : Cats) (w : World) :
    Calls Tryd.prog 23 #[.agg (cv c)] w fun e w' => ∃ v, e = .returned v ∧ Ext w w' ∧ OwnR w.heap.size w' 3 1 v (c.list.map iv) := by
  go_enter Tryd.func23, Tryd.ntmps23
  go_wp2_with fail
  have hB0 : Blk (w.alloc (.cells (cv c) 23)) w.heap.size 23 (cv c) := Blk.new w _ _
  obtain ⟨W, hW⟩ : ∃ W, W = w.alloc (.cells (cv c) 23) := ⟨_, rfl⟩
  have hEW : Ext w W := by rw [hW]; exact Ext.of_alloc w _
  rw [← hW] at hB0 ⊢
  have hWs : w.heap.size < W.heap.size := hB0.lt
  clear hW
  go_loopw [3, 5] (fun s3 s5 wr => ∃ k : Nat, k ≤ 240 ∧ s5 = .int .i64 k ∧ Ext W wr ∧ OwnR W.heap.size wr 3 1 s3 ((c.listTo k).map iv)) (fun _ s5 _ => 240 - (intOf s5).toNat)
  case atStart => exact ⟨0, by omega, rfl, Ext.refl _, by simpa [Cats.listTo] using OwnR.nil _ _ _ _⟩
  case round =>
    obtain ⟨k, hk, rfl, hE, hown⟩ := hrel
    by_cases hlt : k < 240
    · obtain ⟨f1, f2, f3, f4⟩ := (hB0.ext hE).facts 30 (cv_size _)
      have hstep := c.listTo_succ k
      have Hstep := Lib.hid hstep; clear hstep
      have hlen := c.listTo_le k
      cases hr : c.has (k : Int) with
      | true =>
        go_wp2_with (first | (go_at_call 20; refine (has_w _ _ _).mono ?_; rintro e w1 ⟨rfl, hx⟩) | (at_builtin; refine wpList_append_one rfl _ _ 24 rfl Tryd.underlying24 info_int rfl (by decide) W (hown.ext hx) (hE.trans hx) rfl rfl (iv_ones (k : Int)) rfl ?_ ?_ ?_))
        · simp; omega
        · simp [maxLen]; omega
        intro v' w' ho' hE'
        go_wp2_with fail
        go_roundw
        case rel => exact ⟨k + 1, by omega, by go_num, hE', by rw [Hstep.out, hr]; simpa [iv] using ho'⟩
        case measure => simp [intOf]; omega
      | false =>
        go_wp2_with (go_at_call 20; refine (has_w _ _ _).mono ?_; rintro e w1 ⟨rfl, hx⟩)
        go_roundw
        case rel => exact ⟨k + 1, by omega, by go_num, hE.trans hx, by rw [Hstep.out, hr]; simpa using hown.ext hx⟩
        case measure => simp [intOf]; omega
    · obtain rfl : k = 240 := by omega
      go_wp2_with fail
      go_ret
      exact ⟨_, rfl, hEW.trans hE, hown.mono (by omega)⟩
/-! gueriteref08.Has -/
theorem rhas_byte : ∀ (b : Fin 256) (m : Fin 8), (bits BinOp.and IntKind.u8 ((b.val : Int) / 2 ^ (7 - m.val)) 1 == 1) = ((UInt8.ofNat b.val) &&& (128 >>> UInt8.ofNat m.val) != 0) := by decide +kernel
theorem rhas_eq (c : Cats) (k : Int) (_h : 0 ≤ k) : (bits BinOp.and IntKind.u8 (((c.get (k / 8).toNat).toNat : Int) / 2 ^ (7 - k % 8).toNat) 1 == 1) = (c.get (k / 8).toNat &&& Cats.bit k != 0) := by
  have h := rhas_byte ⟨(c.get (k / 8).toNat).toNat, (c.get (k / 8).toNat).toNat_lt⟩ ⟨(k % 8).toNat, by omega⟩
  simp only at h
  rw [show (7 - k % 8).toNat = 7 - (k % 8).toNat from by omega, h]
  simp [Cats.bit]
set_option maxRecDepth 100000 in
theorem rhas_w (c : Cats) (k : Int) (w : World) : Calls Tryd.prog 21 #[.agg (cv c), .int .i64 k] w fun e w' => e = .returned (.bool (Cats.has c k)) ∧ Ext w w' := by
  cases hr : Cats.inR k with
  | true =>
    obtain ⟨h0, h1⟩ := inR_bd hr
    have hkn : (k / 8).toNat < 30 := by omega
    have h2 : k < 240 := by omega
    go_enter Tryd.func21, Tryd.ntmps21
    go_wp2_with fail
    go_ret
    exact ⟨by simp [Cats.has, hr, rhas_eq _ _ h0], Ext.of_alloc w _⟩
  | false =>
    by_cases h0 : 0 ≤ k
    · have h1 : ¬ k < 240 := fun h => by
        have : Cats.inR k = true := by simp [Cats.inR, h0]; omega
        rw [hr] at this; cases this
      go_enter Tryd.func21, Tryd.ntmps21
      go_wp2_with fail
      go_ret
      exact ⟨by simp [Cats.has, hr], Ext.of_alloc w _⟩
    · go_enter Tryd.func21, Tryd.ntmps21
      go_wp2_with fail
      go_ret
      exact ⟨by simp [Cats.has, hr], Ext.of_alloc w _⟩
/-! cats.Count -/
theorem onesCount_eq (b : UInt8) : Lib.onesCount b.toNat = Cats.ones b := by
  have : ∀ n : Fin 256, Lib.onesCount n.val = Cats.ones (UInt8.ofNat n.val) := by decide +kernel
  have h := this ⟨b.toNat, b.toNat_lt⟩
  simpa using h
set_option maxRecDepth 100000 in
theorem count_w (c : Cats) (w : World) : Calls Tryd.prog 24 #[.agg (cv c)] w fun e w' => e = .returned (.int .i64 c.count) ∧ Ext w w' := by
  go_enter Tryd.func24, Tryd.ntmps24
  have hB0 : Blk (w.alloc (.cells (cv c) 23)) w.heap.size 23 (cv c) := Blk.new w _ _
  obtain ⟨f1, f2, f3, f4⟩ := hB0.facts 30 (cv_size _)
  go_wp2_with fail
  clear f1 f2 f3 f4 hB0
  go_loop [3, 7] (fun s3 s7 => ∃ k : Nat, k ≤ 30 ∧ s7 = .int .i64 k ∧ s3 = .int .i64 (c.countTo k)) (fun _ s7 => 30 - (intOf s7).toNat)
  case atStart => exact ⟨0, by omega, rfl, by simp [Cats.countTo]⟩
  case round =>
    obtain ⟨k, hk, rfl, rfl⟩ := hrel
    have hle := c.countTo_le k
    by_cases hlt : k < 30
    · have hstep := c.countTo_succ k
      have Hstep := Lib.hid hstep; clear hstep
      have ho := Cats.ones_le (c.get k)
      have hb8 : ((c.get k).toNat : Int) ≤ 255 := by have := (c.get k).toNat_lt; omega
      go_wp2_with (go_at_call 62; refine (Tryd.bits_OnesCount8 ((c.get k).toNat : Int) _ (by omega) hb8).mono ?_; rintro e w' ⟨rfl, rfl⟩; rw [Int.toNat_natCast, onesCount_eq])
      go_round
      case rel => exact ⟨k + 1, by omega, by go_num, by rw [Hstep.out]; go_num⟩
      case measure => simp [intOf]; omega
    · obtain rfl : k = 30 := by omega
      go_wp2_with fail
      go_ret
      exact ⟨rfl, Ext.of_alloc w _⟩
/-! cats.Most -/
set_option maxRecDepth 100000 in
theorem most_w (c : Cats) (w : World) : Calls Tryd.prog 25 #[.agg (cv c)] w fun e w' => e = .returned (.int .i64 c.most) ∧ Ext w w' := by
  go_enter Tryd.func25, Tryd.ntmps25
  go_wp2_with fail
  have hB0 : Blk (w.alloc (.cells (cv c) 23)) w.heap.size 23 (cv c) := Blk.new w _ _
  go_loopw [3] (fun s3 wr => ∃ k : Nat, k ≤ 240 ∧ s3 = .int .i64 ((k : Int) - 1) ∧ Ext (w.alloc (.cells (cv c) 23)) wr ∧ c.mostTo k = c.most) (fun s3 _ => (intOf s3 + 1).toNat)
  case atStart => exact ⟨240, by omega, rfl, Ext.refl _, rfl⟩
  case round =>
    obtain ⟨k, hk, rfl, hE, hm⟩ := hrel
    obtain ⟨f1, f2, f3, f4⟩ := (hB0.ext hE).facts 30 (cv_size _)
    clear hB0
    have Hm := Lib.hid hm; clear hm
    cases k with
    | zero =>
      go_wp2_with fail
      go_ret
      exact ⟨by rw [← Hm.out]; rfl, (Ext.of_alloc w _).trans hE⟩
    | succ k =>
      have e1 : (((k + 1 : Nat) : Int) - 1) = (k : Int) := by omega
      rw [e1]
      cases hr : c.has (k : Int) with
      | true =>
        go_wp2_with (go_at_call 20; refine (has_w _ _ _).mono ?_; rintro e w1 ⟨rfl, hx⟩)
        go_ret
        exact ⟨by rw [← Hm.out]; simp [Cats.mostTo, hr], ((Ext.of_alloc w _).trans hE).trans hx⟩
      | false =>
        go_wp2_with (go_at_call 20; refine (has_w _ _ _).mono ?_; rintro e w1 ⟨rfl, hx⟩)
        go_roundw
        case rel => exact ⟨k, by omega, by go_num, hE.trans hx, by rw [← Hm.out]; simp [Cats.mostTo, hr]⟩
        case measure => simp [intOf]
/-! gueritelaw08.ints -/
set_option maxRecDepth 100000 in
theorem ints_w (a b : List Int) (A B : Option Addr) (ca cb : Nat) (w : World) (ha : a.length ≤ 9223372036854775807) (hb : b.length ≤ 9223372036854775807) (hA : At w A 1 (a.map iv)) (hB : At w B 1 (b.map iv)) :
    Calls Tryd.prog 22 #[.slice A a.length ca, .slice B b.length cb] w fun e w' => e = .returned (.bool (a == b)) ∧ Ext w w' := by
  by_cases hl : a.length = b.length
  · go_enter Tryd.func22, Tryd.ntmps22
    go_wp2_with fail
    go_loopw [5] (fun s5 wr => ∃ k : Nat, k ≤ a.length ∧ s5 = .int .i64 k ∧ Ext w wr ∧ a.take k = b.take k) (fun s5 _ => a.length - (intOf s5).toNat)
    case atStart => exact ⟨0, by omega, rfl, Ext.refl _, rfl⟩
    case round =>
      obtain ⟨k, hk, rfl, hE, hm⟩ := hrel
      have Hm := Lib.hid hm; clear hm
      have Hl := Lib.hid hl; clear hl
      by_cases hlt : k < a.length
      · have hltb : k < b.length := by have := Hl.out; omega
        obtain ⟨p, rfl, hca⟩ := (hA.ext hE).int hlt
        obtain ⟨q, rfl, hcb⟩ := (hB.ext hE).int hltb
        have hstep : a.take (k + 1) = b.take (k + 1) ↔ a[k] = b[k] := by
          rw [List.take_succ_eq_append_getElem hlt, List.take_succ_eq_append_getElem hltb, Hm.out, List.append_cancel_left_eq]; simp only [List.cons.injEq, and_true]
        have Hstep := Lib.hid hstep; clear hstep
        have hne : a[k] ≠ b[k] → (a == b) = false := fun h => by rw [beq_eq_false_iff_ne]; intro e; apply h; subst e; rfl
        have Hne := Lib.hid hne; clear hne
        generalize a[k] = x at *
        generalize b[k] = y at *
        go_wp2_with fail
        refine wp_region_by (R := Ext) [([(0, none)], none), ([(5, none)], none), ([(17, some 0), (18, some 1)], none), ([(19, some 2)], none), ([(1, none)], none), ([(5, none)], none), ([(21, some 4), (22, some 5)], none), ([(23, some 6)], none)]
          [.ex ?r4v0, .ex ?r4v1, .ex ?r4v2, .ex ?r4v3, .ex ?r4v4, .ex ?r4v5, .ex ?r4v6, .ex ?r4v7]
          (by kernel_rfl) (fun _ _ _ h1 h2 => h1.trans h2) (fun _ _ h => h.size) (Ext.refl _) rfl (by kernel_rfl) ?r4st (And.intro ?r4o0 (And.intro ?r4o1 (And.intro ?r4o2 (And.intro ?r4o3 (And.intro ?r4o4 (And.intro ?r4o5 (And.intro ?r4o6 (And.intro ?r4o7 trivial)))))))) ?r4fin
        case r4o0 | r4o1 | r4o2 | r4o3 | r4o4 | r4o5 | r4o6 | r4o7 =>
          intro a w1 K hR hE hK; simp [go_sem, EnvF, Sp.says, mk, Act.eval] at hE; have f1 := hR.cell (a := wr.drew) hca; have f2 := hR.cell (a := wr.drew) hcb; dsimp only [Runs]; go_simp; try go_bits
          go_wp2_with fail
          exact hK _ (Ext.refl _)
        case r4st => simp only [StOk]
        case r4fin =>
          simp only [FinR, mk, Act.put, List.length_cons, List.length_nil, Nat.reduceAdd, Nat.zero_add, List.drop_succ_cons, List.drop_zero, List.setIfInBounds_toArray, List.set_cons_succ, List.set_cons_zero]
          intro w1 hR _ _
          by_cases hxy : x = y
          · subst hxy
            have hd : (x != x) = false := by simp
            go_wp2_with fail
            go_roundw
            case rel => exact ⟨k + 1, by omega, by go_num, hE.drew.trans hR, Hstep.out.2 rfl⟩
            case measure => simp [intOf]; omega
          · have hd : (x != y) = true := by simpa using hxy
            go_wp2_with fail
            go_ret
            exact ⟨by rw [Hne.out hxy]; rfl, hE.drew.trans hR⟩
      · obtain rfl : k = a.length := by omega
        go_wp2_with fail
        go_ret
        refine ⟨?_, hE⟩
        have h1 := Hm.out
        have h2 := Hl.out
        rw [List.take_length, h2, List.take_length] at h1
        simp [h1]
  · go_enter Tryd.func22, Tryd.ntmps22
    have hne : (a == b) = false := by rw [beq_eq_false_iff_ne]; intro h; exact hl (by rw [h])
    have Hne := Lib.hid hne; clear hne
    go_wp2_with fail
    go_ret
    exact ⟨by rw [Hne.out]; rfl, Ext.refl _⟩
/-! gueriteref08.List, cats.Within, gueriteref08.Within -/
set_option maxRecDepth 100000 in
theorem rlist_w (c : Cats) (w : World) :
    Calls Tryd.prog 17 #[.agg (cv c)] w fun e w' => ∃ v, e = .returned v ∧ Ext w w' ∧ OwnR w.heap.size w' 3 1 v (c.list.map iv) := by
  go_enter Tryd.func17, Tryd.ntmps17
  go_wp2_with fail
  have hB0 : Blk (w.alloc (.cells (cv c) 23)) w.heap.size 23 (cv c) := Blk.new w _ _
  obtain ⟨W, hW⟩ : ∃ W, W = w.alloc (.cells (cv c) 23) := ⟨_, rfl⟩
  have hEW : Ext w W := by rw [hW]; exact Ext.of_alloc w _
  rw [← hW] at hB0 ⊢
  have hWs : w.heap.size < W.heap.size := hB0.lt
  clear hW
  go_loopw [3, 4] (fun s3 s5 wr => ∃ k : Nat, k ≤ 240 ∧ s5 = .int .i64 k ∧ Ext W wr ∧ OwnR W.heap.size wr 3 1 s3 ((c.listTo k).map iv)) (fun _ s5 _ => 240 - (intOf s5).toNat)
  case atStart => exact ⟨0, by omega, rfl, Ext.refl _, by simpa [Cats.listTo] using OwnR.nil _ _ _ _⟩
  case round =>
    obtain ⟨k, hk, rfl, hE, hown⟩ := hrel
    by_cases hlt : k < 240
    · obtain ⟨f1, f2, f3, f4⟩ := (hB0.ext hE).facts 30 (cv_size _)
      have hstep := c.listTo_succ k
      have Hstep := Lib.hid hstep; clear hstep
      have hlen := c.listTo_le k
      cases hr : c.has (k : Int) with
      | true =>
        go_wp2_with (first | (go_at_call 21; refine (rhas_w _ _ _).mono ?_; rintro e w1 ⟨rfl, hx⟩) | (at_builtin; refine wpList_append_one rfl _ _ 24 rfl Tryd.underlying24 info_int rfl (by decide) W (hown.ext hx) (hE.trans hx) rfl rfl (iv_ones (k : Int)) rfl ?_ ?_ ?_))
        · simp; omega
        · simp [maxLen]; omega
        intro v' w' ho' hE'
        go_wp2_with fail
        go_roundw
        case rel => exact ⟨k + 1, by omega, by go_num, hE', by rw [Hstep.out, hr]; simpa [iv] using ho'⟩
        case measure => simp [intOf]; omega
      | false =>
        go_wp2_with (go_at_call 21; refine (rhas_w _ _ _).mono ?_; rintro e w1 ⟨rfl, hx⟩)
        go_roundw
        case rel => exact ⟨k + 1, by omega, by go_num, hE.trans hx, by rw [Hstep.out, hr]; simpa using hown.ext hx⟩
        case measure => simp [intOf]; omega
    · obtain rfl : k = 240 := by omega
      go_wp2_with fail
      go_ret
      exact ⟨_, rfl, hEW.trans hE, hown.mono (by omega)⟩
set_option maxRecDepth 100000 in
theorem rwithin_w (a b : Cats) (w : World) : Calls Tryd.prog 29 #[.agg (cv a), .agg (cv b)] w fun e w' => e = .returned (.bool (a.rwithin b)) ∧ Ext w w' := by
  go_enter Tryd.func29, Tryd.ntmps29
  go_wp2_with fail
  have hB0 : Blk ((w.alloc (.cells (cv a) 23)).alloc (.cells (cv b) 23)) w.heap.size 23 (cv a) := (Blk.new w _ _).alloc _
  have hB1 : Blk ((w.alloc (.cells (cv a) 23)).alloc (.cells (cv b) 23)) (w.heap.size + 1) 23 (cv b) := by simpa using Blk.new (w.alloc (.cells (cv a) 23)) _ (cv b)
  obtain ⟨W, hW⟩ : ∃ W, W = (w.alloc (.cells (cv a) 23)).alloc (.cells (cv b) 23) := ⟨_, rfl⟩
  have hEW : Ext w W := by rw [hW]; exact (Ext.of_alloc w _).alloc _
  rw [← hW] at hB0 hB1 ⊢
  clear hW
  go_loopw [4, 5] (fun s4 s5 wr => ∃ k : Nat, k ≤ 240 ∧ s5 = .int .i64 k ∧ Ext W wr ∧ a.rwithinTo b k = true) (fun _ s5 _ => 240 - (intOf s5).toNat)
  case atStart => exact ⟨0, by omega, rfl, Ext.refl _, rfl⟩
  case round =>
    obtain ⟨k, hk, rfl, hE, hm⟩ := hrel
    have Hm := Lib.hid hm; clear hm
    obtain ⟨f1, f2, f3, f4⟩ := (hB0.ext hE).facts 30 (cv_size _)
    obtain ⟨g1, g2, g3, g4⟩ := (hB1.ext hE).facts 30 (cv_size _)
    have hb1 := hB1.ext hE
    by_cases hlt : k < 240
    · have hstep := Cats.rwithinTo_succ a b k
      have Hstep := Lib.hid hstep; clear hstep
      have hfin := Cats.rwithin_no (a := a) (b := b) hlt
      have Hfin := Lib.hid hfin; clear hfin
      cases hr : a.has (k : Int) with
      | false =>
        go_wp2_with (go_at_call 21; refine (rhas_w _ _ _).mono ?_; rintro e w1 ⟨rfl, hx⟩)
        go_roundw
        case rel => exact ⟨k + 1, by omega, by go_num, hE.trans hx, by rw [Hstep.out, Hm.out, hr]; rfl⟩
        case measure => simp [intOf]; omega
      | true =>
        cases hr2 : b.has (k : Int) with
        | true =>
          go_wp2_with (first | (go_at_call_of 21 (Value.agg (cv a)); refine (rhas_w a _ _).mono ?_; rintro e w1 ⟨rfl, hx⟩; clear g1 g2 g3 g4; obtain ⟨g1, g2, g3, g4⟩ := (hb1.ext hx).facts 30 (cv_size _)) | (go_at_call 21; refine (rhas_w b _ _).mono ?_; rintro e w2 ⟨rfl, hx2⟩))
          exact ⟨⟨k + 1, by omega, by go_num, (hE.trans hx).trans hx2, by rw [Hstep.out, Hm.out, hr, hr2]; rfl⟩, by simp [intOf]; omega⟩
        | false =>
          go_wp2_with (first | (go_at_call_of 21 (Value.agg (cv a)); refine (rhas_w a _ _).mono ?_; rintro e w1 ⟨rfl, hx⟩; clear g1 g2 g3 g4; obtain ⟨g1, g2, g3, g4⟩ := (hb1.ext hx).facts 30 (cv_size _)) | (go_at_call 21; refine (rhas_w b _ _).mono ?_; rintro e w2 ⟨rfl, hx2⟩))
          go_ret
          exact ⟨by rw [Hfin.out hr hr2]; rfl, ((hEW.trans hE).trans hx).trans hx2⟩
    · obtain rfl : k = 240 := by omega
      go_wp2_with fail
      go_ret
      exact ⟨by rw [show a.rwithin b = true from Hm.out]; rfl, hEW.trans hE⟩
theorem u8_beq (a b : UInt8) : ((a.toNat : Int) == (b.toNat : Int)) = (a == b) := by
  rw [Bool.eq_iff_iff]
  simp only [beq_iff_eq]
  constructor
  · intro h; exact UInt8.toNat_inj.1 (by omega)
  · intro h; rw [h]
theorem all_get (a b : Cats) : ((List.range 30).all fun i => a.get i == b.get i) = (a == b) := by
  rw [Bool.eq_iff_iff]
  simp only [List.all_eq_true, List.mem_range, beq_iff_eq]
  constructor
  · intro h
    apply Cats.ext_l
    apply List.ext_getElem?
    intro i
    rcases Nat.lt_or_ge i 30 with hi | hi
    · rw [Cats.get_lt hi, Cats.get_lt hi, h i hi]
    · rw [List.getElem?_eq_none (by rw [a.h]; exact hi), List.getElem?_eq_none (by rw [b.h]; exact hi)]
  · rintro rfl i _; rfl
@[go_sem] theorem equalIn23 (a b : Cats) (w : World) : (Op.equalIn 10000 23 (.agg (cv a)) (.agg (cv b))).run Tryd.prog w = .ok (a == b) w := by
  rw [← all_get]
  refine Gu.run_equalIn_array (P := Tryd.prog) (d := 9999) w Tryd.underlying23 i5 Tryd.underlying5 rfl (cv a) (cv b) (cv_size a) (cv_size b) (fun i => a.get i == b.get i) fun i h => ?_
  rw [cv_getElem, cv_getElem, run_equalIn_int w _ _ _ _ _ _ Tryd.underlying5, u8_beq]
@[go_sem] theorem eqGuard23 : Tryd.prog.eqGuardType Tryd.prog.depth 23 = false := by kernel_rfl
set_option maxRecDepth 100000 in
theorem within_w (a0 b : Cats) (w : World) : Calls Tryd.prog 28 #[.agg (cv a0), .agg (cv b)] w fun e w' => e = .returned (.bool (a0.within b)) ∧ Ext w w' := by
  go_enter Tryd.func28, Tryd.ntmps28
  go_wp2_with fail
  have hB0 : Blk ((w.alloc (.cells (cv a0) 23)).alloc (.cells (cv b) 23)) w.heap.size 23 (cv a0) := (Blk.new w _ _).alloc _
  have hB1 : Blk ((w.alloc (.cells (cv a0) 23)).alloc (.cells (cv b) 23)) (w.heap.size + 1) 23 (cv b) := by simpa using Blk.new (w.alloc (.cells (cv a0) 23)) _ (cv b)
  obtain ⟨W, hW⟩ : ∃ W, W = (w.alloc (.cells (cv a0) 23)).alloc (.cells (cv b) 23) := ⟨_, rfl⟩
  have hEW : Ext w W := by rw [hW]; exact (Ext.of_alloc w _).alloc _
  rw [← hW] at hB0 hB1 ⊢
  clear hW
  refine wp_region_by (R := Ext) [([(2, none)], none), ([(3, none)], none), ([(6, some 1)], none), ([(5, some 0), (7, some 2)], none), ([(2, none)], none)]
    [.ex ?r3v0, .ex ?r3v1, .un (PSl 30 [cv b]) true, .ex ?r3v3, .ex ?r3v4]
    (by kernel_rfl) (fun _ _ _ h1 h2 => h1.trans h2) (fun _ _ h => h.size) (Ext.refl _) rfl (by kernel_rfl) ?r3st (And.intro ?r3o0 (And.intro ?r3o1 (And.intro ?r3o2 (And.intro ?r3o3 (And.intro ?r3o4 trivial))))) ?r3fin
  case r3o0 | r3o1 =>
    intro a w1 K hR hE hK; simp [go_sem, EnvF, Sp.says, mk, Act.eval] at hE; obtain ⟨f1, f2, f3, f4⟩ := (hB0.drew.ext hR).facts 30 (cv_size _); obtain ⟨g1, g2, g3, g4⟩ := (hB1.drew.ext hR).facts 30 (cv_size _); dsimp only [Runs]; go_simp; try go_bits
    go_wp2_with fail
    exact hK _ (Ext.refl _)
  case r3o2 =>
    intro a w1 K hR hE hK; simp [go_sem, EnvF, Sp.says, mk, Act.eval] at hE; obtain ⟨f1, f2, f3, f4⟩ := (hB0.drew.ext hR).facts 30 (cv_size _); obtain ⟨g1, g2, g3, g4⟩ := (hB1.drew.ext hR).facts 30 (cv_size _); dsimp only [Runs]; go_simp; try go_bits
    go_wp2_with fail
    exact hK _ _ (Ext.of_alloc _ _) (Sl.many w1 _ (es := [cv b]) (by simp [cv_size])) (fun _ => Fr.slice _ _ _ _)
  case r3o3 =>
    intro a w1 K hR hE hK; simp [go_sem, EnvF, Sp.says, mk, Act.eval] at hE; obtain ⟨f1, f2, f3, f4⟩ := (hB0.drew.ext hR).facts 30 (cv_size _); obtain ⟨g1, g2, g3, g4⟩ := (hB1.drew.ext hR).facts 30 (cv_size _); dsimp only [Runs]; go_simp; try go_bits
    go_wp2_with fail
    obtain ⟨hE1, A, cap, hv, hAt⟩ := hE; rw [hv]; refine (meet_w a0 [b] A cap _ (by simp) hAt).mono ?_; rintro e w' ⟨rfl, hx⟩; exact hK _ hx
  case r3o4 =>
    intro a w1 K hR hE hK; simp [go_sem, EnvF, Sp.says, mk, Act.eval] at hE; obtain ⟨f1, f2, f3, f4⟩ := (hB0.drew.ext hR).facts 30 (cv_size _); obtain ⟨g1, g2, g3, g4⟩ := (hB1.drew.ext hR).facts 30 (cv_size _); dsimp only [Runs]; go_simp; try go_bits
    go_wp2_with fail
    exact hK _ (Ext.refl _)
  case r3st => simp only [StOk]; exact ⟨PSl.st, trivial⟩
  case r3fin =>
    simp only [FinR, mk, Act.put, List.length_cons, List.length_nil, Nat.reduceAdd, Nat.zero_add, List.drop_succ_cons, List.drop_zero, List.setIfInBounds_toArray, List.set_cons_succ, List.set_cons_zero]
    intro v w1 hR _ _
    obtain ⟨f1, f2, f3, f4⟩ := (hB0.drew.ext hR).facts 30 (cv_size _)
    go_wp2_with fail
    go_ret
    exact ⟨rfl, (hEW.drew).trans hR⟩
/-! gueriteref08.Put -/
theorem has_byte {c : Cats} {k : Int} (hr : Cats.inR k = true) : c.has k = (c.get (k / 8).toNat &&& Cats.bit k != 0) := by simp [Cats.has, hr]
theorem put_byte : ∀ (x : Fin 256) (m : Fin 8), ((UInt8.ofNat x.val &&& ((128 : UInt8) >>> UInt8.ofNat m.val) != 0) = false → ((x.val : Int) + 2 ^ (7 - m.val)) % 256 = ((UInt8.ofNat x.val ||| ((128 : UInt8) >>> UInt8.ofNat m.val)).toNat : Int)) ∧
    ((UInt8.ofNat x.val &&& ((128 : UInt8) >>> UInt8.ofNat m.val) != 0) = true → ((x.val : Int) - 2 ^ (7 - m.val)) % 256 = ((UInt8.ofNat x.val &&& ~~~ ((128 : UInt8) >>> UInt8.ofNat m.val)).toNat : Int)) := by decide +kernel
theorem put_add {c : Cats} {k : Int} (_h0 : 0 ≤ k) (h : (c.get (k / 8).toNat &&& Cats.bit k != 0) = false) : (((c.get (k / 8).toNat).toNat : Int) + 2 ^ (7 - k % 8).toNat) % 256 = ((c.get (k / 8).toNat ||| Cats.bit k).toNat : Int) := by
  have h1 := (put_byte ⟨(c.get (k / 8).toNat).toNat, (c.get (k / 8).toNat).toNat_lt⟩ ⟨(k % 8).toNat, by omega⟩).1
  simp only [UInt8.ofNat_toNat] at h1
  rw [show (7 - k % 8).toNat = 7 - (k % 8).toNat from by omega]
  exact h1 h
theorem put_sub {c : Cats} {k : Int} (_h0 : 0 ≤ k) (h : (c.get (k / 8).toNat &&& Cats.bit k != 0) = true) : (((c.get (k / 8).toNat).toNat : Int) - 2 ^ (7 - k % 8).toNat) % 256 = ((c.get (k / 8).toNat &&& ~~~ Cats.bit k).toNat : Int) := by
  have h1 := (put_byte ⟨(c.get (k / 8).toNat).toNat, (c.get (k / 8).toNat).toNat_lt⟩ ⟨(k % 8).toNat, by omega⟩).2
  simp only [UInt8.ofNat_toNat] at h1
  rw [show (7 - k % 8).toNat = 7 - (k % 8).toNat from by omega]
  exact h1 h
@[go_sem] theorem cv_set' (c : Cats) (i : Nat) (b : UInt8) : (cv c).setIfInBounds i (.int .u8 (b.toNat : Int)) = cv (c.set i b) := cv_set c i b
set_option maxRecDepth 100000 in
theorem put_w (c : Cats) (k : Int) (b : Bool) (w : World) : Calls Tryd.prog 15 #[.agg (cv c), .int .i64 k, .bool b] w fun e w' => e = .returned (.agg (cv (c.put k b))) ∧ Ext w w' := by
  by_cases h0 : 0 ≤ k
  · by_cases h1 : k ≤ 239
    · have hr : Cats.inR k = true := by simp [Cats.inR, h0, h1]
      have hkn : (k / 8).toNat < 30 := by omega
      by_cases hh : c.has k = b
      · subst hh
        have hput : c.put k (c.has k) = c := Cats.put_same c k
        have Hput := Lib.hid hput; clear hput
        go_enter Tryd.func15, Tryd.ntmps15
        have hB0 : Blk ((w.alloc (.cells (cv c) 23)).alloc (.cells (cv Cats.zero) 23)) w.heap.size 23 (cv c) := (Blk.new w _ _).alloc _
        have hB1 : Blk ((w.alloc (.cells (cv c) 23)).alloc (.cells (cv Cats.zero) 23)) (w.heap.size + 1) 23 (cv Cats.zero) := by simpa using Blk.new (w.alloc (.cells (cv c) 23)) _ (cv Cats.zero)
        go_wp2_with (go_at_call 21; refine (rhas_w c _ _).mono ?_; rintro e w1 ⟨rfl, hx⟩; obtain ⟨f1, f2, f3, f4⟩ := (hB0.ext hx).facts 30 (cv_size _); obtain ⟨g1, g2, g3, g4⟩ := (hB1.ext hx).facts 30 (cv_size _))
        exact ret_cell Tryd.underlying23 rfl i23 rfl (w.heap.size + 1) (cv c) rfl (by simp [go_sem, *]) (by simp [go_sem, *]) rfl ⟨by rw [Hput.out], (((Ext.of_alloc w _).alloc _).trans hx).setRow (by simp) _⟩
      · have hne := hh
        cases b with
        | true =>
          have hhf : c.has k = false := by simpa using hh
          clear hh hne
          go_enter Tryd.func15, Tryd.ntmps15
          have hB0 : Blk ((w.alloc (.cells (cv c) 23)).alloc (.cells (cv Cats.zero) 23)) w.heap.size 23 (cv c) := (Blk.new w _ _).alloc _
          have hB1 : Blk ((w.alloc (.cells (cv c) 23)).alloc (.cells (cv Cats.zero) 23)) (w.heap.size + 1) 23 (cv Cats.zero) := by simpa using Blk.new (w.alloc (.cells (cv c) 23)) _ (cv Cats.zero)
          go_wp2_with (go_at_call 21; refine (rhas_w c _ _).mono ?_; rintro e w1 ⟨rfl, hx⟩; rw [hhf]; have hB0' := hB0.ext hx; have hB1' := hB1.ext hx; have hE' : Ext w w1 := ((Ext.of_alloc w _).alloc _).trans hx; clear hx hB0 hB1)
          refine wp_region_by (R := Ext) [([(1, none)], none), ([(22, some 0)], none), ([(1, none)], none), ([(24, some 2)], none), ([(3, none), (25, some 3)], none), ([(26, some 4)], none), ([(1, none)], none), ([(28, some 6)], none), ([(29, some 7)], none), ([(30, some 8)], none), ([(27, some 5), (31, some 9)], none)]
            [.ex ?r2v0, .ex ?r2v1, .ex ?r2v2, .ex ?r2v3, .ex ?r2v4, .ex ?r2v5, .ex ?r2v6, .ex ?r2v7, .ex ?r2v8, .ex ?r2v9, .ex ?r2v10]
            (by kernel_rfl) (fun _ _ _ h1 h2 => h1.trans h2) (fun _ _ h => h.size) (Ext.refl _) rfl (by kernel_rfl) ?r2st (And.intro ?r2o0 (And.intro ?r2o1 (And.intro ?r2o2 (And.intro ?r2o3 (And.intro ?r2o4 (And.intro ?r2o5 (And.intro ?r2o6 (And.intro ?r2o7 (And.intro ?r2o8 (And.intro ?r2o9 (And.intro ?r2o10 trivial))))))))))) ?r2fin
          case r2o0 | r2o1 | r2o2 | r2o3 | r2o4 | r2o5 | r2o6 | r2o7 | r2o8 | r2o9 | r2o10 =>
            intro a w1 K hR hE hK; simp [go_sem, EnvF, Sp.says, mk, Act.eval] at hE; obtain ⟨f1, f2, f3, f4⟩ := (hB0'.drew.ext hR).facts 30 (cv_size _); dsimp only [Runs]; go_simp; try go_bits
            go_wp2_with fail
            exact hK _ (Ext.refl _)
          case r2st => simp only [StOk]
          case r2fin =>
            simp only [FinR, mk, Act.put, List.length_cons, List.length_nil, Nat.reduceAdd, Nat.zero_add, List.drop_succ_cons, List.drop_zero, List.setIfInBounds_toArray, List.set_cons_succ, List.set_cons_zero]
            intro w2 hR _ _
            have hb0 := hB0'.drew.ext hR
            have hb1 := hB1'.drew.ext hR
            obtain ⟨f1, f2, f3, f4⟩ := hb0.facts 30 (cv_size _)
            obtain ⟨g1, g2, g3, g4⟩ := hb1.facts 30 (cv_size _)
            have he : Ext w w2 := hE'.drew.trans hR
            clear hR hE' hB0' hB1'
            have hval := put_add h0 (by rw [← has_byte hr]; exact hhf)
            clear hhf
            obtain ⟨b', hb'⟩ : ∃ b', b' = c.get (k / 8).toNat ||| Cats.bit k := ⟨_, rfl⟩
            rw [← hb'] at hval
            have Hb := Lib.hid hb'; clear hb'
            go_wp2_with fail
            exact ret_cell Tryd.underlying23 rfl i23 rfl (w.heap.size + 1) (cv (c.set (k / 8).toNat b')) rfl (by simp [go_sem, *]) (by simp [go_sem, *]) rfl ⟨by rw [Cats.put, hr, Hb.out]; rfl, (he.setCell (by simp) _).setRow (by simp) _⟩
        | false =>
          have hhf : c.has k = true := by simpa using hh
          clear hh hne
          go_enter Tryd.func15, Tryd.ntmps15
          have hB0 : Blk ((w.alloc (.cells (cv c) 23)).alloc (.cells (cv Cats.zero) 23)) w.heap.size 23 (cv c) := (Blk.new w _ _).alloc _
          have hB1 : Blk ((w.alloc (.cells (cv c) 23)).alloc (.cells (cv Cats.zero) 23)) (w.heap.size + 1) 23 (cv Cats.zero) := by simpa using Blk.new (w.alloc (.cells (cv c) 23)) _ (cv Cats.zero)
          go_wp2_with (go_at_call 21; refine (rhas_w c _ _).mono ?_; rintro e w1 ⟨rfl, hx⟩; rw [hhf]; have hB0' := hB0.ext hx; have hB1' := hB1.ext hx; have hE' : Ext w w1 := ((Ext.of_alloc w _).alloc _).trans hx; clear hx hB0 hB1)
          refine wp_region_by (R := Ext) [([(1, none)], none), ([(34, some 0)], none), ([(1, none)], none), ([(36, some 2)], none), ([(3, none), (37, some 3)], none), ([(38, some 4)], none), ([(1, none)], none), ([(40, some 6)], none), ([(41, some 7)], none), ([(42, some 8)], none), ([(39, some 5), (43, some 9)], none)]
            [.ex ?r1v0, .ex ?r1v1, .ex ?r1v2, .ex ?r1v3, .ex ?r1v4, .ex ?r1v5, .ex ?r1v6, .ex ?r1v7, .ex ?r1v8, .ex ?r1v9, .ex ?r1v10]
            (by kernel_rfl) (fun _ _ _ h1 h2 => h1.trans h2) (fun _ _ h => h.size) (Ext.refl _) rfl (by kernel_rfl) ?r1st (And.intro ?r1o0 (And.intro ?r1o1 (And.intro ?r1o2 (And.intro ?r1o3 (And.intro ?r1o4 (And.intro ?r1o5 (And.intro ?r1o6 (And.intro ?r1o7 (And.intro ?r1o8 (And.intro ?r1o9 (And.intro ?r1o10 trivial))))))))))) ?r1fin
          case r1o0 | r1o1 | r1o2 | r1o3 | r1o4 | r1o5 | r1o6 | r1o7 | r1o8 | r1o9 | r1o10 =>
            intro a w1 K hR hE hK; simp [go_sem, EnvF, Sp.says, mk, Act.eval] at hE; obtain ⟨f1, f2, f3, f4⟩ := (hB0'.drew.ext hR).facts 30 (cv_size _); dsimp only [Runs]; go_simp; try go_bits
            go_wp2_with fail
            exact hK _ (Ext.refl _)
          case r1st => simp only [StOk]
          case r1fin =>
            simp only [FinR, mk, Act.put, List.length_cons, List.length_nil, Nat.reduceAdd, Nat.zero_add, List.drop_succ_cons, List.drop_zero, List.setIfInBounds_toArray, List.set_cons_succ, List.set_cons_zero]
            intro w2 hR _ _
            have hb0 := hB0'.drew.ext hR
            have hb1 := hB1'.drew.ext hR
            obtain ⟨f1, f2, f3, f4⟩ := hb0.facts 30 (cv_size _)
            obtain ⟨g1, g2, g3, g4⟩ := hb1.facts 30 (cv_size _)
            have he : Ext w w2 := hE'.drew.trans hR
            clear hR hE' hB0' hB1'
            have hval := put_sub h0 (by rw [← has_byte hr]; exact hhf)
            clear hhf
            obtain ⟨b', hb'⟩ : ∃ b', b' = c.get (k / 8).toNat &&& ~~~ Cats.bit k := ⟨_, rfl⟩
            rw [← hb'] at hval
            have Hb := Lib.hid hb'; clear hb'
            go_wp2_with fail
            exact ret_cell Tryd.underlying23 rfl i23 rfl (w.heap.size + 1) (cv (c.set (k / 8).toNat b')) rfl (by simp [go_sem, *]) (by simp [go_sem, *]) rfl ⟨by rw [Cats.put, hr, Hb.out]; rfl, (he.setCell (by simp) _).setRow (by simp) _⟩
    · have hr : Cats.inR k = false := by simp [Cats.inR]; omega
      go_enter Tryd.func15, Tryd.ntmps15
      go_wp2_with fail
      exact ret_cell Tryd.underlying23 rfl i23 rfl (w.heap.size + 1) (cv c) rfl (by simp [go_sem]) (by simp [go_sem]) rfl ⟨by rw [Cats.put, hr]; rfl, ((Ext.of_alloc w _).alloc _).setRow (by simp) _⟩
  · have hr : Cats.inR k = false := by simp [Cats.inR]; omega
    go_enter Tryd.func15, Tryd.ntmps15
    go_wp2_with fail
    exact ret_cell Tryd.underlying23 rfl i23 rfl (w.heap.size + 1) (cv c) rfl (by simp [go_sem]) (by simp [go_sem]) rfl ⟨by rw [Cats.put, hr]; rfl, ((Ext.of_alloc w _).alloc _).setRow (by simp) _⟩
end Go.Proofs.YtpgpfcdkkhfemaaDoor
