/- addr.Mask, addr.Cut, addr.Right, addr.PrefixText, addr.ParsePrefix; the document's own. -/
import Derived.Test.YtpgpfcdkkhfemaaDoorWAddr
import Derived.Test.YtpgpfcdkkhfemaaDoorPfx
open Go.RowKit Go.Reg Go.Gu
namespace Go.Proofs.YtpgpfcdkkhfemaaDoor
set_option linter.unusedSimpArgs false
set_option linter.unusedVariables false
set_option maxHeartbeats 300000
theorem i70 : (Tryd.prog.info? 70).map (·.size) = some 2 := by kernel_rfl
@[go_sem ↓] theorem loadA70 (ρ : Operand → Value) (dst : Option Tmp) (x : Operand) (t : TypeId) (pos : String) (aft : Array Edge) (gd : Option (Nat × Bool)) (w : World) (h1 : isPtr (ρ x) = true) (h2 : atP w (addrOf (ρ x)) 2) :
    (execOp ρ ⟨dst, .load 70 x, t, pos, aft, gd⟩).run Tryd.prog w = .ok (.value (.agg (cellsAt w (addrOf (ρ x)) 2))) w := exec_loadA Tryd.underlying70 rfl i70 ρ dst x t pos aft gd w h1 h2
@[go_sem ↓] theorem loadV70 (ρ : Operand → Value) (dst : Option Tmp) (x : Operand) (t : TypeId) (pos : String) (aft : Array Edge) (gd : Option (Nat × Bool)) (w : World) (h1 : isPtr (ρ x) = true) (h0 : (addrOf (ρ x)).off = 0) (h3 : (addrOf (ρ x)).spot = none) (h2 : isV w (addrOf (ρ x)).block 70 2) :
    (execOp ρ ⟨dst, .load 70 x, t, pos, aft, gd⟩).run Tryd.prog w = .ok (.value (.agg (row w (addrOf (ρ x)).block))) w := exec_loadV Tryd.underlying70 rfl i70 ρ dst x t pos aft gd w h1 h0 h3 h2
@[go_sem ↓] theorem storeV70 (ρ : Operand → Value) (dst : Option Tmp) (x y : Operand) (t : TypeId) (pos : String) (aft : Array Edge) (gd : Option (Nat × Bool)) (w : World) (h1 : isPtr (ρ x) = true) (h0 : (addrOf (ρ x)).off = 0) (h3 : (addrOf (ρ x)).spot = none) (h2 : isV w (addrOf (ρ x)).block 70 2) (h4 : isAggV (ρ y) = true) (h5 : (cellsOf (ρ y)).size = 2) (h6 : ones (cellsOf (ρ y))) :
    (execOp ρ ⟨dst, .store 70 x y, t, pos, aft, gd⟩).run Tryd.prog w = .ok .skip (w.setRow (addrOf (ρ x)).block (cellsOf (ρ y))) := exec_storeV i70 ρ dst x y t pos aft gd w h1 h0 h3 h2 h4 h5 h6
@[go_sem] theorem row_setRow70 (w : World) (b : Nat) (cs : Array Value) (g : Nat) (h : isT w b 70) : row (w.setRow b cs) g = if g = b then cs else row w g := row_setRow_isT h cs g
def pv (a b : Int) : Array Value := #[.int .u32 a, .int .i64 b]
theorem pv_ones (a b : Int) : ones (pv a b) := by
  intro v hv
  simp [pv] at hv
  rcases hv with rfl | rfl <;> rfl
/-- What the walk is told of a prefix's variable. -/
theorem pfx_facts {w : World} {g : Nat} {a b : Int} (h : Blk w g 70 (pv a b)) : isV w g 70 2 ∧ Gu.row w g = #[.int .u32 a, .int .i64 b] ∧ w.cell? ⟨g, 0, none⟩ = some (.int .u32 a) ∧ w.cell? ⟨g, 1, none⟩ = some (.int .i64 b) ∧ isT w g 70 := by
  obtain ⟨h1, h2, h3, h4⟩ := h.facts 2 rfl
  exact ⟨h1, h2, h3 0, h3 1, h4.2⟩
@[go_sem] theorem ones_two (a b : Int) : ones #[Value.int .u32 a, Value.int .i64 b] ↔ True := by simp only [iff_true]; exact pv_ones a b
theorem equalIn_pfx {P : Program} {t ti tc : TypeId} (a b c d : Int) (w : World) (hu : P.underlying t = some (.struct (P.fieldsOf t))) (hp : P.stoodInHeld t = false)
    (hf : (P.fieldsOf t).toList.map (fun f => (f.type, f.offset, f.name == "_")) = [(ti, 0, false), (tc, 1, false)]) (hti : P.underlying ti = some (.int .u32)) (htc : P.underlying tc = some (.int .i64))
    (hai : ∀ w, (isAgg ti).run P w = .ok false w) (hac : ∀ w, (isAgg tc).run P w = .ok false w) :
    (Op.equalIn (9999 + 1) t (.agg #[.int .u32 a, .int .i64 b]) (.agg #[.int .u32 c, .int .i64 d])).run P w = .ok ((a == c) && (b == d)) w := by
  rw [run_equalIn_agg w 9999 t _ _ hu hp]
  generalize (P.fieldsOf t).toList = L at hf
  obtain ⟨f0, f1, rfl⟩ : ∃ f0 f1, L = [f0, f1] := by
    have hlen := congrArg List.length hf
    rcases L with _ | ⟨a, _ | ⟨b, _ | ⟨c, r⟩⟩⟩
    · simp at hlen
    · simp at hlen
    · exact ⟨a, b, rfl⟩
    · simp at hlen
  simp only [List.map_cons, List.map_nil, List.cons.injEq, Prod.mk.injEq, and_true] at hf
  obtain ⟨⟨h1, h2, h3⟩, h4, h5, h6⟩ := hf
  have n0 : f0.name ≠ "_" := by simpa using h3
  have n1 : f1.name ≠ "_" := by simpa using h6
  have p0 : ∀ x y : Int, (part ti #[.int .u32 x, .int .i64 y] 0).run P w = .ok (.int .u32 x) w := fun x y => by
    simp [part, Sem.run_bind, hai, Result.andThen_ok]
  have p1 : ∀ x y : Int, (part tc #[.int .u32 x, .int .i64 y] 1).run P w = .ok (.int .i64 y) w := fun x y => by
    simp [part, Sem.run_bind, hac, Result.andThen_ok]
  have q0 : (Op.equalIn 9999 ti (.int .u32 a) (.int .u32 c)).run P w = .ok (a == c) w := run_equalIn_int w _ _ _ _ _ _ hti
  have q1 : (Op.equalIn 9999 tc (.int .i64 b) (.int .i64 d)).run P w = .ok (b == d) w := run_equalIn_int w _ _ _ _ _ _ htc
  simp only [Op.eqFields, n0, n1, ne_eq, not_false_eq_true, if_true, h1, h2, h4, h5, Sem.run_bind, p0, p1, Result.andThen_ok, q0]
  generalize (a == c) = x
  cases x with
  | false => simp
  | true =>
    simp only [Bool.not_true, Bool.false_eq_true, if_false, Sem.run_bind, p1, Result.andThen_ok, q1, Bool.true_and]
    generalize (b == d) = y
    cases y <;> simp
theorem fields70 : (Tryd.prog.fieldsOf 70).toList.map (fun f => (f.type, f.offset, f.name == "_")) = [(39, 0, false), (3, 1, false)] := by kernel_rfl
theorem und70 : Tryd.prog.underlying 70 = some (.struct (Tryd.prog.fieldsOf 70)) := by kernel_rfl
theorem held70 : Tryd.prog.stoodInHeld 70 = false := by kernel_rfl
@[go_sem high] theorem equalIn70 (a b c d : Int) (w : World) : (Op.equalIn 10000 70 (.agg #[.int .u32 a, .int .i64 b]) (.agg #[.int .u32 c, .int .i64 d])).run Tryd.prog w = .ok ((a == c) && (b == d)) w :=
  equalIn_pfx (P := Tryd.prog) a b c d w und70 held70 fields70 Tryd.underlying39 Tryd.underlying3 Tryd.isAgg39 Tryd.isAgg3
@[go_sem] theorem eqGuard70 : Tryd.prog.eqGuardType Tryd.prog.depth 70 = false := by kernel_rfl
theorem mask_eq (b : Int) (h0 : 0 ≤ b) (h1 : b ≤ 32) : (4294967295 : Int) * 2 ^ (32 - min (max b 0) 32).toNat % 4294967296 = Ad.mask b := by
  have h : ∀ n : Fin 33, (4294967295 : Int) * 2 ^ n.val % 4294967296 = 4294967296 - 2 ^ n.val := by decide +kernel
  have e : (32 - min (max b 0) 32).toNat = (32 - b).toNat := by omega
  rw [e, Ad.mask]
  exact h ⟨(32 - b).toNat, by omega⟩
set_option maxRecDepth 100000 in
theorem mask_w (b : Int) (h0 : 0 ≤ b) (h1 : b ≤ 32) (w : World) : Calls Tryd.prog 107 #[.int .i64 b] w fun e w' => e = .returned (.int .u32 (Ad.mask b)) ∧ Ext w w' := by
  go_enter Tryd.func107, Tryd.ntmps107
  go_wp2_with fail
  go_ret
  exact ⟨by rw [← mask_eq b h0 h1]; rfl, Ext.refl _⟩
theorem and_one (x : Int) (h0 : 0 ≤ x) (h1 : x < 4294967296) : bits BinOp.and IntKind.u32 x 1 = x % 2 := by
  obtain ⟨n, rfl⟩ := Int.eq_ofNat_of_zero_le h0
  have h := u32_and_nat n 1 (by omega) (by omega)
  rw [show ((1 : Nat) : Int) = 1 from rfl] at h
  rw [h, Nat.and_one_is_mod]; omega
theorem div_bd (a : Int) (n : Nat) (h0 : 0 ≤ a) (h1 : a < 4294967296) : 0 ≤ a / 2 ^ n ∧ a / 2 ^ n < 4294967296 := by
  have hp : (0 : Int) < 2 ^ n := Int.pow_pos (by omega)
  exact ⟨Int.ediv_nonneg h0 (by omega), Int.lt_of_le_of_lt (Int.ediv_le_self _ h0) h1⟩
set_option maxRecDepth 100000 in
theorem bit_w2 (a k : Int) (ha0 : 0 ≤ a) (ha1 : a < 4294967296) (h0 : 0 ≤ k) (h1 : k < 32) (w : World) : Calls Tryd.prog 88 #[.int .u32 a, .int .i64 k] w fun e w' => e = .returned (.int .i64 (a / 2 ^ (31 - k).toNat % 2)) ∧ Ext w w' := by
  obtain ⟨d0, d1⟩ := div_bd a (31 - k).toNat ha0 ha1
  have hand := and_one _ d0 d1
  have hwr : wrap64 (a / 2 ^ (31 - k).toNat % 2) = a / 2 ^ (31 - k).toNat % 2 := by
    generalize a / 2 ^ (31 - k).toNat = z
    unfold wrap64; omega
  have Hand := Lib.hid hand; clear hand
  have Hwr := Lib.hid hwr; clear hwr
  go_enter Tryd.func88, Tryd.ntmps88
  go_wp2_with fail
  go_ret
  refine ⟨?_, Ext.refl _⟩
  rw [Hand.out, Hwr.out]; rfl
/-! addr.Cut, addr.Right -/
theorem and_cut (a b : Int) (ha0 : 0 ≤ a) (ha1 : a < 4294967296) (h0 : 0 ≤ b) (h1 : b ≤ 32) : bits BinOp.and IntKind.u32 a (Ad.mask b) = Ad.cutA a b := by
  obtain ⟨A, rfl⟩ := Int.eq_ofNat_of_zero_le ha0
  have hk : (32 - b).toNat ≤ 32 := by omega
  have hm : Ad.mask b = ((4294967296 - 2 ^ (32 - b).toNat : Nat) : Int) := by
    have : (2 : Nat) ^ (32 - b).toNat ≤ 4294967296 := by have := Nat.pow_le_pow_right (n := 2) (by decide) hk; simpa using this
    unfold Ad.mask
    rw [Int.natCast_sub this]; simp
  have h := u32_and_nat A (4294967296 - 2 ^ (32 - b).toNat) (by omega) (by have := Nat.two_pow_pos (32 - b).toNat; omega)
  rw [hm, h, Ad.and_mask A _ (by omega) hk, Ad.cutA]
  have : A % 2 ^ (32 - b).toNat ≤ A := Nat.mod_le _ _
  rw [Int.natCast_sub this]; simp
set_option maxRecDepth 100000 in
theorem cutp_w (a b : Int) (ha0 : 0 ≤ a) (ha1 : a < 4294967296) (h0 : 0 ≤ b) (h1 : b ≤ 32) (w : World) : Calls Tryd.prog 111 #[.int .u32 a, .int .i64 b] w fun e w' => e = .returned (.agg #[.int .u32 (Ad.cutA a b), .int .i64 b]) ∧ Ext w w' := by
  have hand := and_cut a b ha0 ha1 h0 h1
  have Hand := Lib.hid hand; clear hand
  have hmm : min (max b 0) 32 = b := by omega
  go_enter Tryd.func111, Tryd.ntmps111
  go_wp2_with (go_at_call 107; refine (mask_w b h0 h1 _).mono ?_; rintro e w1 ⟨rfl, hx⟩; obtain ⟨f1, f2, f3, f4, f5⟩ := pfx_facts ((Blk.new w 70 (pv 0 0)).ext hx))
  refine ret_cell Tryd.underlying70 rfl i70 rfl w.heap.size _ rfl ?_ ?_ rfl ⟨rfl, ((Ext.of_alloc w _).trans hx).setRow (Nat.le_refl _) _⟩
  · simp [go_sem, *]
  · rw [← Hand.out]; simp [go_sem, *]
set_option maxRecDepth 100000 in
theorem aright_w (a b : Int) (ha0 : 0 ≤ a) (ha1 : a < 4294967296) (w : World) : Calls Tryd.prog 86 #[.agg #[.int .u32 a, .int .i64 b]] w fun e w' => e = .returned (.bool (Ad.right a b)) ∧ Ext w w' := by
  obtain ⟨W, hW⟩ : ∃ W, W = w.alloc (.cells #[.int .u32 a, .int .i64 b] 70) := ⟨_, rfl⟩
  have b1 : Blk W w.heap.size 70 (pv a b) := by rw [hW]; exact Blk.new w _ _
  have hEW : Ext w W := by rw [hW]; exact Ext.of_alloc w _
  go_enter Tryd.func86, Tryd.ntmps86
  go_upto_region 1 with (fail)
  rw [← hW]
  clear hW
  by_cases h0 : 0 ≤ b
  · by_cases h1 : b ≤ 32
    ·
      have hq : Ad.right a b = (a == Ad.cutA a b) := by
        unfold Ad.right Ad.cutA
        rw [Bool.eq_iff_iff]
        simp only [Bool.and_eq_true, decide_eq_true_eq, beq_iff_eq]
        omega
      have Hq := Lib.hid hq; clear hq
      refine wp_region_by (R := Ext) [([(1, none)], none), ([(3, some 0)], none), ([(4, some 1)], none), ([(5, some 2)], none), ([(1, none), (6, some 3)], some (6, true)), ([(7, some 4), (6, some 3)], some (6, true)), ([(8, some 5), (6, some 3)], some (6, true)), ([(6, some 3), (9, some 6)], none), ([(10, some 7)], none), ([(1, none), (11, some 8)], some (11, true)), ([(1, none), (11, some 8)], some (11, true)), ([(13, some 10), (11, some 8)], some (11, true)), ([(1, none), (11, some 8)], some (11, true)), ([(15, some 12), (11, some 8)], some (11, true)), ([(14, some 11), (16, some 13), (11, some 8)], some (11, true))]
        [Sp.ex ?r3v0, Sp.ex ?r3v1, Sp.ex ?r3v2, Sp.ex ?r3v3, Sp.ex ?r3v4, Sp.ex ?r3v5, Sp.ex ?r3v6, Sp.ex ?r3v7, Sp.ex ?r3v8, Sp.ex ?r3v9, Sp.ex ?r3v10, Sp.ex ?r3v11, Sp.ex ?r3v12, Sp.ex ?r3v13, Sp.ex ?r3v14]
        (by kernel_rfl) (fun _ _ _ h1 h2 => h1.trans h2) (fun _ _ h => h.size) (Ext.refl _) rfl (by kernel_rfl) ?r3st (And.intro ?r3o0 (And.intro ?r3o1 (And.intro ?r3o2 (And.intro ?r3o3 (And.intro ?r3o4 (And.intro ?r3o5 (And.intro ?r3o6 (And.intro ?r3o7 (And.intro ?r3o8 (And.intro ?r3o9 (And.intro ?r3o10 (And.intro ?r3o11 (And.intro ?r3o12 (And.intro ?r3o13 (And.intro ?r3o14 trivial))))))))))))))) ?r3fin
      case r3o0 | r3o1 | r3o2 | r3o3 | r3o4 | r3o5 | r3o6 | r3o7 | r3o8 | r3o9 | r3o10 | r3o11 | r3o12 | r3o13 =>
        intro ac w1 K hR hE hK; simp [go_sem, EnvF, Sp.says, mk, Act.eval] at hE; obtain ⟨f1, f2, f3, f4, f5⟩ := pfx_facts (b1.drew.ext hR); dsimp only [Runs]; go_simp; try go_bits
        go_wp2_with fail
        exact hK _ (Ext.refl _)
      case r3o14 =>
        intro ac w1 K hR hE hK; simp [go_sem, EnvF, Sp.says, mk, Act.eval] at hE; obtain ⟨f1, f2, f3, f4, f5⟩ := pfx_facts (b1.drew.ext hR); dsimp only [Runs]; go_simp; try go_bits
        go_wp2_with fail
        refine (cutp_w a b ha0 ha1 h0 h1 _).mono ?_; rintro e w' ⟨rfl, hx⟩; exact hK _ hx
      case r3st => simp only [StOk]
      case r3fin =>
        simp only [FinR, mk, Act.put, List.length_cons, List.length_nil, Nat.reduceAdd, Nat.zero_add, List.drop_succ_cons, List.drop_zero, List.setIfInBounds_toArray, List.set_cons_succ, List.set_cons_zero]
        intro w9 hR _ _
        go_wp2_with fail
        go_ret
        exact ⟨by rw [Hq.out]; simp, hEW.drew.trans hR⟩
    ·
      have hd1 : decide (b ≤ 32) = false := decide_eq_false h1
      have hq : Ad.right a b = false := by unfold Ad.right; rw [hd1]; simp
      clear h1
      have Hq := Lib.hid hq; clear hq
      refine wp_region_by (R := Ext) [([(1, none)], none), ([(3, some 0)], none), ([(4, some 1)], none), ([(5, some 2)], none), ([(1, none), (6, some 3)], some (6, true)), ([(7, some 4), (6, some 3)], some (6, true)), ([(8, some 5), (6, some 3)], some (6, true)), ([(6, some 3), (9, some 6)], none), ([(10, some 7)], none), ([(1, none), (11, some 8)], some (11, true)), ([(1, none), (11, some 8)], some (11, true)), ([(13, some 10), (11, some 8)], some (11, true)), ([(1, none), (11, some 8)], some (11, true)), ([(15, some 12), (11, some 8)], some (11, true)), ([(14, some 11), (16, some 13), (11, some 8)], some (11, true))]
        [Sp.ex ?r2v0, Sp.ex ?r2v1, Sp.ex ?r2v2, Sp.ex ?r2v3, Sp.ex ?r2v4, Sp.ex ?r2v5, Sp.ex ?r2v6, Sp.ex ?r2v7, Sp.ex ?r2v8, Sp.ex ?r2v9, Sp.ex ?r2v10, Sp.ex ?r2v11, Sp.ex ?r2v12, Sp.ex ?r2v13, Sp.ex ?r2v14]
        (by kernel_rfl) (fun _ _ _ h1 h2 => h1.trans h2) (fun _ _ h => h.size) (Ext.refl _) rfl (by kernel_rfl) ?r2st (And.intro ?r2o0 (And.intro ?r2o1 (And.intro ?r2o2 (And.intro ?r2o3 (And.intro ?r2o4 (And.intro ?r2o5 (And.intro ?r2o6 (And.intro ?r2o7 (And.intro ?r2o8 (And.intro ?r2o9 (And.intro ?r2o10 (And.intro ?r2o11 (And.intro ?r2o12 (And.intro ?r2o13 (And.intro ?r2o14 trivial))))))))))))))) ?r2fin
      case r2o0 | r2o1 | r2o2 | r2o3 | r2o4 | r2o5 | r2o6 | r2o7 | r2o8 | r2o9 | r2o10 | r2o11 | r2o12 | r2o13 | r2o14 =>
        intro ac w1 K hR hE hK; simp [go_sem, EnvF, Sp.says, mk, Act.eval] at hE; obtain ⟨f1, f2, f3, f4, f5⟩ := pfx_facts (b1.drew.ext hR); dsimp only [Runs]; go_simp; try go_bits
        go_wp2_with fail
        exact hK _ (Ext.refl _)
      case r2st => simp only [StOk]
      case r2fin =>
        simp only [FinR, mk, Act.put, List.length_cons, List.length_nil, Nat.reduceAdd, Nat.zero_add, List.drop_succ_cons, List.drop_zero, List.setIfInBounds_toArray, List.set_cons_succ, List.set_cons_zero]
        intro w9 hR _ _
        go_wp2_with fail
        go_ret
        exact ⟨by rw [Hq.out]; rfl, hEW.drew.trans hR⟩
  ·
    have hd0 : decide (0 ≤ b) = false := decide_eq_false h0
    have hq : Ad.right a b = false := by unfold Ad.right; rw [hd0]; simp
    clear h0
    have Hq := Lib.hid hq; clear hq
    refine wp_region_by (R := Ext) [([(1, none)], none), ([(3, some 0)], none), ([(4, some 1)], none), ([(5, some 2)], none), ([(1, none), (6, some 3)], some (6, true)), ([(7, some 4), (6, some 3)], some (6, true)), ([(8, some 5), (6, some 3)], some (6, true)), ([(6, some 3), (9, some 6)], none), ([(10, some 7)], none), ([(1, none), (11, some 8)], some (11, true)), ([(1, none), (11, some 8)], some (11, true)), ([(13, some 10), (11, some 8)], some (11, true)), ([(1, none), (11, some 8)], some (11, true)), ([(15, some 12), (11, some 8)], some (11, true)), ([(14, some 11), (16, some 13), (11, some 8)], some (11, true))]
      [Sp.ex ?r1v0, Sp.ex ?r1v1, Sp.ex ?r1v2, Sp.ex ?r1v3, Sp.ex ?r1v4, Sp.ex ?r1v5, Sp.ex ?r1v6, Sp.ex ?r1v7, Sp.ex ?r1v8, Sp.ex ?r1v9, Sp.ex ?r1v10, Sp.ex ?r1v11, Sp.ex ?r1v12, Sp.ex ?r1v13, Sp.ex ?r1v14]
      (by kernel_rfl) (fun _ _ _ h1 h2 => h1.trans h2) (fun _ _ h => h.size) (Ext.refl _) rfl (by kernel_rfl) ?r1st (And.intro ?r1o0 (And.intro ?r1o1 (And.intro ?r1o2 (And.intro ?r1o3 (And.intro ?r1o4 (And.intro ?r1o5 (And.intro ?r1o6 (And.intro ?r1o7 (And.intro ?r1o8 (And.intro ?r1o9 (And.intro ?r1o10 (And.intro ?r1o11 (And.intro ?r1o12 (And.intro ?r1o13 (And.intro ?r1o14 trivial))))))))))))))) ?r1fin
    case r1o0 | r1o1 | r1o2 | r1o3 | r1o4 | r1o5 | r1o6 | r1o7 | r1o8 | r1o9 | r1o10 | r1o11 | r1o12 | r1o13 | r1o14 =>
      intro ac w1 K hR hE hK; simp [go_sem, EnvF, Sp.says, mk, Act.eval] at hE; obtain ⟨f1, f2, f3, f4, f5⟩ := pfx_facts (b1.drew.ext hR); dsimp only [Runs]; go_simp; try go_bits
      go_wp2_with fail
      exact hK _ (Ext.refl _)
    case r1st => simp only [StOk]
    case r1fin =>
      simp only [FinR, mk, Act.put, List.length_cons, List.length_nil, Nat.reduceAdd, Nat.zero_add, List.drop_succ_cons, List.drop_zero, List.setIfInBounds_toArray, List.set_cons_succ, List.set_cons_zero]
      intro w9 hR _ _
      go_wp2_with fail
      go_ret
      exact ⟨by rw [Hq.out]; rfl, hEW.drew.trans hR⟩
end Go.Proofs.YtpgpfcdkkhfemaaDoor
