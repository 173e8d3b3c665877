import Derived.Test.YtpgpfcdkkhfemaaDoorProg
import Derived.Test.YtpgpfcdkkhfemaaDoorReg
import Derived.Test.YtpgpfcdkkhfemaaDoorMem
import Derived.Test.YtpgpfcdkkhfemaaDoorCats
import Derived.WalkKit
import Derived.OwnWalk
import Derived.Outline
import Derived.WalkLawsBesides
import Derived.WalkSpells
import Derived.Lib.Hide
import Derived.Laws.Rows
open Go.RowKit Go.Reg Go.Gu
namespace Go.Proofs.YtpgpfcdkkhfemaaDoor
set_option linter.unusedSimpArgs false
set_option linter.unusedVariables false
/-- A byte as a value. -/
def bv (b : UInt8) : Value := .int .u8 (b.toNat : Int)
def cv (c : Cats) : Array Value := (c.l.map bv).toArray
theorem cv_size (c : Cats) : (cv c).size = 30 := by simp [cv, c.h]
theorem cv_get {c : Cats} {i : Nat} (h : i < 30) : (cv c)[i]? = some (bv (c.get i)) := by simp [cv, Cats.get_lt h]
theorem cv_set (c : Cats) (i : Nat) (b : UInt8) : (cv c).setIfInBounds i (bv b) = cv (c.set i b) := by
  simp [cv, Cats.set, List.map_set]
theorem cv_ones (c : Cats) : ones (cv c) := by
  intro v hv
  simp only [cv, List.mem_toArray, List.mem_map] at hv
  obtain ⟨b, _, rfl⟩ := hv
  rfl
theorem cv_zero : #[Value.int IntKind.u8 0, Value.int IntKind.u8 0, Value.int IntKind.u8 0, Value.int IntKind.u8 0, Value.int IntKind.u8 0, Value.int IntKind.u8 0, Value.int IntKind.u8 0, Value.int IntKind.u8 0, Value.int IntKind.u8 0, Value.int IntKind.u8 0, Value.int IntKind.u8 0, Value.int IntKind.u8 0, Value.int IntKind.u8 0, Value.int IntKind.u8 0, Value.int IntKind.u8 0, Value.int IntKind.u8 0, Value.int IntKind.u8 0, Value.int IntKind.u8 0, Value.int IntKind.u8 0, Value.int IntKind.u8 0, Value.int IntKind.u8 0, Value.int IntKind.u8 0, Value.int IntKind.u8 0, Value.int IntKind.u8 0, Value.int IntKind.u8 0, Value.int IntKind.u8 0, Value.int IntKind.u8 0, Value.int IntKind.u8 0, Value.int IntKind.u8 0, Value.int IntKind.u8 0] = cv Cats.zero := rfl
theorem cv_inj {c d : Cats} (h : cv c = cv d) : c = d := by
  simp only [cv, Array.mk.injEq] at h
  apply Cats.ext_l
  have : ∀ (l m : List UInt8), l.map bv = m.map bv → l = m := by
    intro l
    induction l with
    | nil => intro m h; cases m with | nil => rfl | cons _ _ => simp at h
    | cons a l ih =>
      intro m h
      cases m with
      | nil => simp at h
      | cons b m =>
        simp only [List.map_cons, List.cons.injEq, bv, Value.int.injEq, true_and] at h
        have e1 : a.toNat = b.toNat := by omega
        rw [ih m h.2, UInt8.toNat_inj.1 e1]
  exact this _ _ (by simpa using h)
theorem i23 : (Tryd.prog.info? 23).map (·.size) = some 30 := by kernel_rfl
@[go_sem ↓] theorem loadA23 (ρ : Operand → Value) (dst : Option Tmp) (x : Operand) (t : TypeId) (pos : String) (aft : Array Edge) (gd : Option (Nat × Bool)) (w : World) (h1 : isPtr (ρ x) = true) (h2 : atP w (addrOf (ρ x)) 30) :
    (execOp ρ ⟨dst, .load 23 x, t, pos, aft, gd⟩).run Tryd.prog w = .ok (.value (.agg (cellsAt w (addrOf (ρ x)) 30))) w := exec_loadA Tryd.underlying23 rfl i23 ρ dst x t pos aft gd w h1 h2
@[go_sem ↓] theorem loadV23 (ρ : Operand → Value) (dst : Option Tmp) (x : Operand) (t : TypeId) (pos : String) (aft : Array Edge) (gd : Option (Nat × Bool)) (w : World) (h1 : isPtr (ρ x) = true) (h0 : (addrOf (ρ x)).off = 0) (h3 : (addrOf (ρ x)).spot = none) (h2 : isV w (addrOf (ρ x)).block 23 30) :
    (execOp ρ ⟨dst, .load 23 x, t, pos, aft, gd⟩).run Tryd.prog w = .ok (.value (.agg (row w (addrOf (ρ x)).block))) w := exec_loadV Tryd.underlying23 rfl i23 ρ dst x t pos aft gd w h1 h0 h3 h2
@[go_sem ↓] theorem storeV23 (ρ : Operand → Value) (dst : Option Tmp) (x y : Operand) (t : TypeId) (pos : String) (aft : Array Edge) (gd : Option (Nat × Bool)) (w : World) (h1 : isPtr (ρ x) = true) (h0 : (addrOf (ρ x)).off = 0) (h3 : (addrOf (ρ x)).spot = none) (h2 : isV w (addrOf (ρ x)).block 23 30) (h4 : isAggV (ρ y) = true) (h5 : (cellsOf (ρ y)).size = 30) (h6 : ones (cellsOf (ρ y))) :
    (execOp ρ ⟨dst, .store 23 x y, t, pos, aft, gd⟩).run Tryd.prog w = .ok .skip (w.setRow (addrOf (ρ x)).block (cellsOf (ρ y))) := exec_storeV i23 ρ dst x y t pos aft gd w h1 h0 h3 h2 h4 h5 h6
@[go_sem] theorem row_setRow23 (w : World) (b : Nat) (cs : Array Value) (g : Nat) (h : isT w b 23) : row (w.setRow b cs) g = if g = b then cs else row w g := row_setRow_isT h cs g
theorem i5 : (Tryd.prog.info? 5).map (·.size) = some 1 := by kernel_rfl
@[go_sem ↓] theorem index23 (cs : Array Value) (k : IntKind) (i : Int) (w : World) (h0 : 0 ≤ i) (h1 : i < (30 : Nat)) (hs : cs.size = 30) : (Instr.index 23 (.agg cs) (.int k i)).run Tryd.prog w = .ok (cs[i.toNat]?.getD undef) w := index_of Tryd.underlying23 Tryd.underlying5 rfl i5 cs k i w h0 h1 hs
theorem cv_getElem (c : Cats) (j : Nat) (h : j < (cv c).size) : (cv c)[j] = .int .u8 ((c.get j).toNat : Int) := by
  have h' : j < 30 := by rw [cv_size] at h; exact h
  have := cv_get (c := c) h'
  rw [Array.getElem?_eq_getElem h] at this
  exact Option.some.inj this
attribute [go_sem] cv_getElem cv_size cv_ones cv_zero
theorem infCs : (Tryd.prog.info? 23).map (fun i => (i.zero, i.size, i.bytes)) = some (some (.agg (cv Cats.zero)), 30, 30) := by kernel_rfl
@[go_sem ↓] theorem bs1Cs (ρ : Operand → Value) (dst : Option Tmp) (t : TypeId) (pos : String) (aft : Array Edge) (gd : Option (Nat × Bool)) (w : World) (x : Operand) (h1 : isAggV (ρ x) = true) (h2 : (cellsOf (ρ x)).size = 30) :
    (execOp ρ ⟨dst, .buildSlice 90 1 #[(0, x)], t, pos, aft, gd⟩).run Tryd.prog w = .ok (.value (.slice (some ⟨w.heap.size, 0, none⟩) 1 1)) (w.alloc (.cells (rowOf [cellsOf (ρ x)]) 23)) := exec_bs1 Tryd.underlying90 infCs rfl (by decide) (by decide) ρ dst t pos aft gd w x h1 h2
@[go_sem ↓] theorem bs2Cs (ρ : Operand → Value) (dst : Option Tmp) (t : TypeId) (pos : String) (aft : Array Edge) (gd : Option (Nat × Bool)) (w : World) (x y : Operand) (h1 : isAggV (ρ x) = true) (h2 : (cellsOf (ρ x)).size = 30) (h3 : isAggV (ρ y) = true) (h4 : (cellsOf (ρ y)).size = 30) :
    (execOp ρ ⟨dst, .buildSlice 90 2 #[(0, x), (1, y)], t, pos, aft, gd⟩).run Tryd.prog w = .ok (.value (.slice (some ⟨w.heap.size, 0, none⟩) 2 2)) (w.alloc (.cells (rowOf [cellsOf (ρ x), cellsOf (ρ y)]) 23)) := exec_bs2 Tryd.underlying90 infCs rfl (by decide) (by decide) ρ dst t pos aft gd w x y h1 h2 h3 h4
@[go_sem ↓] theorem bs3Cs (ρ : Operand → Value) (dst : Option Tmp) (t : TypeId) (pos : String) (aft : Array Edge) (gd : Option (Nat × Bool)) (w : World) (x y u : Operand) (h1 : isAggV (ρ x) = true) (h2 : (cellsOf (ρ x)).size = 30) (h3 : isAggV (ρ y) = true) (h4 : (cellsOf (ρ y)).size = 30) (h5 : isAggV (ρ u) = true) (h6 : (cellsOf (ρ u)).size = 30) :
    (execOp ρ ⟨dst, .buildSlice 90 3 #[(0, x), (1, y), (2, u)], t, pos, aft, gd⟩).run Tryd.prog w = .ok (.value (.slice (some ⟨w.heap.size, 0, none⟩) 3 3)) (w.alloc (.cells (rowOf [cellsOf (ρ x), cellsOf (ρ y), cellsOf (ρ u)]) 23)) := exec_bs3 Tryd.underlying90 infCs rfl (by decide) (by decide) ρ dst t pos aft gd w x y u h1 h2 h3 h4 h5 h6
theorem or_bv (x y : UInt8) : bits BinOp.or IntKind.u8 (x.toNat : Int) (y.toNat : Int) = ((x ||| y).toNat : Int) := by
  rw [u8_or_nat _ _ x.toNat_lt y.toNat_lt]; simp
theorem and_bv (x y : UInt8) : bits BinOp.and IntKind.u8 (x.toNat : Int) (y.toNat : Int) = ((x &&& y).toNat : Int) := by
  rw [u8_and_nat _ _ x.toNat_lt y.toNat_lt]; simp
set_option maxHeartbeats 400000
set_option maxRecDepth 100000 in
theorem union_w (es : List Cats) (A : Option Addr) (cap : Nat) (w : World) (hl : es.length ≤ 9223372036854775807) (hA : At w A 30 (es.map cv)) :
    Calls Tryd.prog 26 #[.slice A es.length cap] w fun e w' => e = .returned (.agg (cv (Cats.union es))) ∧ Ext w w' := by
    go_enter Tryd.func26, Tryd.ntmps26
    go_wp2_with fail
    go_loopw [5, 10] (fun s5 s10 wr => ∃ k : Nat, k ≤ es.length ∧ s10 = .int .i64 k ∧ Ext w wr ∧ Blk wr w.heap.size 23 (cv Cats.zero) ∧ Blk wr (w.heap.size + 1) 23 (cv (Cats.union (es.take k)))) (fun s5 s10 _ => es.length - (intOf s10).toNat)
    case atStart => exact ⟨0, by omega, rfl, (Ext.of_alloc w _).alloc _, (Blk.new w 23 _).alloc _, by simpa [Cats.union] using Blk.new (w.alloc (.cells (cv Cats.zero) 23)) 23 (cv Cats.zero)⟩
    case round =>
      obtain ⟨k, hk, rfl, hE, hB2, hB3⟩ := hrel
      by_cases hlt : k < es.length
      · obtain ⟨a, rfl, hc1, hc2⟩ := At.facts (hA.ext hE) (i := k) (by simpa using hlt)
        rw [List.getElem_map] at hc2
        obtain ⟨f1, f2, f3, f4⟩ := hB3.facts 30 (cv_size _)
        have hlt2 := hB3.lt
        have hne : ¬ wr.heap.size = w.heap.size + 1 := by omega
        have hne2 : ¬ w.heap.size + 1 = wr.heap.size := by omega
        go_wp2_with fail
        obtain ⟨wo, hwo⟩ : ∃ wo, wo = (wr.alloc (Obj.cells (cv Cats.zero) 23)).setRow wr.heap.size (cv es[k]) := ⟨_, rfl⟩
        rw [← hwo]
        have hbn : Blk (wr.alloc (Obj.cells (cv Cats.zero) 23)) wr.heap.size 23 (cv Cats.zero) := Blk.new _ _ _
        have hEo : Ext w wo := by rw [hwo]; exact (hE.alloc _).setRow hE.size _
        have hB2o : Blk wo w.heap.size 23 (cv Cats.zero) := by rw [hwo]; exact (hB2.alloc _).farRow (by omega) _
        have hB3o : Blk wo (w.heap.size + 1) 23 (cv (Cats.union (es.take k))) := by rw [hwo]; exact (hB3.alloc _).farRow (by omega) _
        clear hwo hbn f1 f2 f3 f4 hne hne2 hc1 hc2
        go_loopw [15] (fun s15 wi => ∃ j : Nat, j ≤ 30 ∧ s15 = .int .i64 j ∧ Ext w wi ∧ Blk wi w.heap.size 23 (cv Cats.zero) ∧ Blk wi (w.heap.size + 1) 23 (cv ((Cats.union (es.take k)).zipTo (· ||| ·) es[k] j))) (fun s15 _ => 30 - (intOf s15).toNat)
        case atStart => exact ⟨0, by omega, rfl, hEo, hB2o, by rw [Cats.zipTo_zero]; exact hB3o⟩
        case round =>
          obtain ⟨j, hj, rfl, hEi, hB2i, hB3i⟩ := hrel
          obtain ⟨f1, f2, f3, f4⟩ := hB3i.facts 30 (cv_size _)
          by_cases hlj : j < 30
          · have hy := Cats.get_zipTo (· ||| ·) (Cats.union (es.take k)) es[k] hlj
            go_wp2_with fail
            rw [or_bv]
            go_roundw
            case rel => exact ⟨j + 1, by omega, by go_num, hEi.setCell (by simp) _, hB2i.far (by simp) _, by rw [Cats.zipTo_succ _ _ _ hlj, ← cv_set]; exact hB3i.setCell j _⟩
            case measure => simp [intOf]; omega
          · go_wp2_with fail
            obtain rfl : j = 30 := by omega
            rw [Cats.zipTo_all] at hB3i
            exact ⟨⟨k + 1, by omega, by go_num, hEi, hB2i, by rw [List.take_succ_eq_append_getElem hlt, Cats.union, List.foldl_append]; exact hB3i⟩, by simp [intOf]; omega⟩
      · obtain ⟨f1, f2, f3, f4⟩ := hB3.facts 30 (cv_size _)
        obtain ⟨g1, g2, g3, g4⟩ := hB2.facts 30 (cv_size _)
        obtain rfl : k = es.length := by omega
        go_wp2_with fail
        exact ret_cell Tryd.underlying23 rfl i23 rfl w.heap.size _ rfl (by simp [go_sem, *]) (by simp [go_sem, *]) rfl ⟨rfl, hE.setRow (Nat.le_refl _) _⟩
/-! cats.right, cats.bit, cats.Has -/
theorem right_w (k : Int) (w : World) : Calls Tryd.prog 60 #[.int .i64 k] w fun e w' => e = .returned (.bool (Cats.inR k)) ∧ w = w' := by
  by_cases h0 : 0 ≤ k
  · by_cases h1 : k ≤ 239
    · go_enter Tryd.func60, Tryd.ntmps60
      go_wp2
      go_ret
      simp [Cats.inR, h0, h1]
    · go_enter Tryd.func60, Tryd.ntmps60
      go_wp2
      go_ret
      simp [Cats.inR, h1]
  · go_enter Tryd.func60, Tryd.ntmps60
    go_wp2
    go_ret
    simp [Cats.inR]; omega
theorem bit_eq (k : Int) (_h : 0 ≤ k) : (128 : Int) / 2 ^ (k % 8).toNat = ((Cats.bit k).toNat : Int) := by
  have : ∀ n : Nat, n < 8 → (128 : Int) / 2 ^ n = (((128 : UInt8) >>> UInt8.ofNat n).toNat : Int) := by decide
  unfold Cats.bit
  exact this _ (by omega)
theorem bit_w (k : Int) (w : World) (_h : 0 ≤ k) : Calls Tryd.prog 61 #[.int .i64 k] w fun e w' => e = .returned (.int .u8 ((Cats.bit k).toNat : Int)) ∧ w = w' := by
  go_enter Tryd.func61, Tryd.ntmps61
  go_wp2
  go_ret
  simp [← bit_eq k _h]
theorem and_nz (x y : UInt8) : (bits BinOp.and IntKind.u8 (x.toNat : Int) (y.toNat : Int) != 0) = (x &&& y != 0) := by
  rw [and_bv, Bool.eq_iff_iff]
  simp only [bne_iff_ne, ne_eq]
  constructor
  · intro h e; apply h; rw [e]; rfl
  · intro h e; apply h; apply UInt8.toNat_inj.1; simpa using e
set_option maxRecDepth 100000 in
theorem has_w (c : Cats) (k : Int) (w : World) : Calls Tryd.prog 20 #[.agg (cv c), .int .i64 k] w fun e w' => e = .returned (.bool (Cats.has c k)) ∧ Ext w w' := by
  cases hr : Cats.inR k with
  | true =>
    have hk : 0 ≤ k ∧ k ≤ 239 := by simpa [Cats.inR] using hr
    obtain ⟨h0, h1⟩ := hk
    have hkn : (k / 8).toNat < 30 := by omega
    go_enter Tryd.func20, Tryd.ntmps20
    go_wp2_with fail
    refine wp_region_by (R := Ext) [([(1, none)], none), ([(5, some 0)], none), ([(6, some 1)], none), ([(1, none), (7, some 2)], some (7, true)), ([(8, some 3), (7, some 2)], some (7, true)), ([(2, none), (9, some 4), (7, some 2)], some (7, true)), ([(10, some 5), (7, some 2)], some (7, true)), ([(1, none), (7, some 2)], some (7, true)), ([(12, some 7), (7, some 2)], some (7, true))]
      [.ex ?r4v0, .ex ?r4v1, .ex ?r4v2, .ex ?r4v3, .ex ?r4v4, .ex ?r4v5, .ex ?r4v6, .ex ?r4v7, .ex ?r4v8]
      (by kernel_rfl) (fun _ _ _ h1 h2 => h1.trans h2) (fun _ _ h => h.size) (Ext.refl _) rfl (by kernel_rfl) ?r4st (And.intro ?r4o0 (And.intro ?r4o1 (And.intro ?r4o2 (And.intro ?r4o3 (And.intro ?r4o4 (And.intro ?r4o5 (And.intro ?r4o6 (And.intro ?r4o7 (And.intro ?r4o8 trivial))))))))) ?r4fin
    case r4o0 =>
      intro a w1 K hR hE hK; simp [go_sem, EnvF, Sp.says, mk, Act.eval] at hE; have hb := (Blk.new w 23 (cv c)).drew.ext hR; obtain ⟨f1, f2, f3, f4⟩ := hb.facts 30 (cv_size _); dsimp only [Runs]; go_simp; try go_bits
      go_wp2_with fail
      exact hK _ (Ext.refl _)
    case r4o1 =>
      intro a w1 K hR hE hK; simp [go_sem, EnvF, Sp.says, mk, Act.eval] at hE; have hb := (Blk.new w 23 (cv c)).drew.ext hR; obtain ⟨f1, f2, f3, f4⟩ := hb.facts 30 (cv_size _); dsimp only [Runs]; go_simp; try go_bits
      go_wp2_with fail
      refine (right_w _ _).mono ?_; rintro e w' ⟨rfl, rfl⟩; exact hK _ (Ext.refl _)
    case r4o2 | r4o3 | r4o4 | r4o5 | r4o6 | r4o7 =>
      intro a w1 K hR hE hK; simp [go_sem, EnvF, Sp.says, mk, Act.eval] at hE; have hb := (Blk.new w 23 (cv c)).drew.ext hR; obtain ⟨f1, f2, f3, f4⟩ := hb.facts 30 (cv_size _); dsimp only [Runs]; go_simp; try go_bits
      go_wp2_with fail
      exact hK _ (Ext.refl _)
    case r4o8 =>
      intro a w1 K hR hE hK; simp [go_sem, EnvF, Sp.says, mk, Act.eval] at hE; have hb := (Blk.new w 23 (cv c)).drew.ext hR; obtain ⟨f1, f2, f3, f4⟩ := hb.facts 30 (cv_size _); dsimp only [Runs]; go_simp; try go_bits
      go_wp2_with fail
      refine (bit_w _ _ h0).mono ?_; rintro e w' ⟨rfl, rfl⟩; exact hK _ (Ext.refl _)
    case r4st => simp only [StOk]
    case r4fin =>
      simp only [FinR, mk, Act.put, List.length_cons, List.length_nil, Nat.reduceAdd, Nat.zero_add, List.drop_succ_cons, List.drop_zero, List.setIfInBounds_toArray, List.set_cons_succ, List.set_cons_zero]
      intro w1 hR _ _
      go_wp2_with fail
      go_ret
      exact ⟨by simp [Cats.has, hr, and_nz], (Ext.of_alloc w _).drew.trans hR⟩
  | false =>
    go_enter Tryd.func20, Tryd.ntmps20
    go_wp2_with fail
    refine wp_region_by (R := Ext) [([(1, none)], none), ([(5, some 0)], none), ([(6, some 1)], none), ([(1, none), (7, some 2)], some (7, true)), ([(8, some 3), (7, some 2)], some (7, true)), ([(2, none), (9, some 4), (7, some 2)], some (7, true)), ([(10, some 5), (7, some 2)], some (7, true)), ([(1, none), (7, some 2)], some (7, true)), ([(12, some 7), (7, some 2)], some (7, true))]
      [.ex ?r3v0, .ex ?r3v1, .ex ?r3v2, .ex ?r3v3, .ex ?r3v4, .ex ?r3v5, .ex ?r3v6, .ex ?r3v7, .ex ?r3v8]
      (by kernel_rfl) (fun _ _ _ h1 h2 => h1.trans h2) (fun _ _ h => h.size) (Ext.refl _) rfl (by kernel_rfl) ?r3st (And.intro ?r3o0 (And.intro ?r3o1 (And.intro ?r3o2 (And.intro ?r3o3 (And.intro ?r3o4 (And.intro ?r3o5 (And.intro ?r3o6 (And.intro ?r3o7 (And.intro ?r3o8 trivial))))))))) ?r3fin
    case r3o0 =>
      intro a w1 K hR hE hK; simp [go_sem, EnvF, Sp.says, mk, Act.eval] at hE; dsimp only [Runs]; go_simp; try go_bits
      go_wp2_with fail
      exact hK _ (Ext.refl _)
    case r3o1 =>
      intro a w1 K hR hE hK; simp [go_sem, EnvF, Sp.says, mk, Act.eval] at hE; dsimp only [Runs]; go_simp; try go_bits
      go_wp2_with fail
      refine (right_w _ _).mono ?_; rintro e w' ⟨rfl, rfl⟩; exact hK _ (Ext.refl _)
    case r3o2 | r3o3 | r3o4 | r3o5 | r3o6 | r3o7 | r3o8 =>
      intro a w1 K hR hE hK; simp [go_sem, EnvF, Sp.says, mk, Act.eval] at hE; dsimp only [Runs]; go_simp; try go_bits
      go_wp2_with fail
      exact hK _ (Ext.refl _)
    case r3st => simp only [StOk]
    case r3fin =>
      simp only [FinR, mk, Act.put, List.length_cons, List.length_nil, Nat.reduceAdd, Nat.zero_add, List.drop_succ_cons, List.drop_zero, List.setIfInBounds_toArray, List.set_cons_succ, List.set_cons_zero]
      intro w1 hR _ _
      go_wp2_with fail
      go_ret
      exact ⟨by simp [Cats.has, hr], (Ext.of_alloc w _).drew.trans hR⟩
/-! cats.With, cats.Without -/
theorem inR_bd {k : Int} (h : Cats.inR k = true) : 0 ≤ k ∧ k ≤ 239 := by simpa [Cats.inR] using h
theorem andNot_bv (x y : UInt8) : bits BinOp.andNot IntKind.u8 (x.toNat : Int) (y.toNat : Int) = ((x &&& ~~~ y).toNat : Int) := by
  have h : ∀ a b : Nat, a < 256 → b < 256 → bits BinOp.andNot IntKind.u8 (a : Int) (b : Int) = ((a &&& (255 - b) : Nat) : Int) := by
    intro a b ha hb
    show IntKind.u8.wrap ((BitVec.ofInt 8 (a : Int) &&& ~~~ BitVec.ofInt 8 (b : Int)).toNat : Int) = _
    rw [BitVec.toNat_and, BitVec.toNat_not, ofInt_u8 a ha, ofInt_u8 b hb]
    have : a &&& (255 - b) ≤ a := Nat.and_le_left
    rw [show 2 ^ 8 - 1 - b = 255 - b from by omega, IntKind.wrap_u8']
    omega
  rw [h _ _ x.toNat_lt y.toNat_lt]
  congr 1
  rw [UInt8.toNat_and, UInt8.toNat_not]
  rfl
set_option maxRecDepth 100000 in
theorem with_w (c : Cats) (l : List Int) (A : Option Addr) (cap : Nat) (w : World) (hl : l.length ≤ 9223372036854775807) (hA : At w A 1 (l.map iv)) :
    Calls Tryd.prog 18 #[.agg (cv c), .slice A l.length cap] w fun e w' => e = .returned (.agg (cv (c.with_ l))) ∧ Ext w w' := by
  go_enter Tryd.func18, Tryd.ntmps18
  go_wp2_with fail
  have hB0 : Blk ((w.alloc (.cells (cv c) 23)).alloc (.cells (cv Cats.zero) 23)) w.heap.size 23 (cv c) := (Blk.new w _ _).alloc _
  have hB1 : Blk ((w.alloc (.cells (cv c) 23)).alloc (.cells (cv Cats.zero) 23)) (w.heap.size + 1) 23 (cv Cats.zero) := by simpa using Blk.new (w.alloc (.cells (cv c) 23)) _ (cv Cats.zero)
  go_loopw [9] (fun s9 wr => ∃ k : Nat, k ≤ l.length ∧ s9 = .int .i64 k ∧ Ext w wr ∧ Blk wr w.heap.size 23 (cv (c.with_ (l.take k))) ∧ Blk wr (w.heap.size + 1) 23 (cv Cats.zero)) (fun s9 _ => l.length - (intOf s9).toNat)
  case atStart => exact ⟨0, by omega, rfl, (Ext.of_alloc w _).alloc _, hB0, hB1⟩
  case round =>
    clear hB0 hB1
    obtain ⟨k, hk, rfl, hE, hB0, hB1⟩ := hrel
    by_cases hlt : k < l.length
    · obtain ⟨a, rfl, hc⟩ := (hA.ext hE).int hlt
      have hstep : c.with_ (l.take (k + 1)) = (c.with_ (l.take k)).with1 l[k] := by rw [List.take_succ_eq_append_getElem hlt, Cats.with_, List.foldl_append]; rfl
      have Hstep := Lib.hid hstep; clear hstep
      generalize l[k] = x at *
      generalize c.with_ (l.take k) = d at *
      cases hr : Cats.inR x with
      | true =>
        obtain ⟨h0, h1⟩ := inR_bd hr
        have hkn : (x / 8).toNat < 30 := by omega
        go_wp2_with (go_at_call 60; refine (right_w _ _).mono ?_; rintro e w' ⟨rfl, rfl⟩)
        refine wp_region_by (R := Ext) [([(6, none)], none), ([(15, some 0)], none), ([(2, none), (16, some 1)], none), ([(17, some 2)], none), ([(6, none)], none), ([(19, some 4)], none)]
          [.ex ?r2v0, .ex ?r2v1, .ex ?r2v2, .ex ?r2v3, .ex ?r2v4, .ex ?r2v5]
          (by kernel_rfl) (fun _ _ _ h1 h2 => h1.trans h2) (fun _ _ h => h.size) (Ext.refl _) rfl (by kernel_rfl) ?r2st (And.intro ?r2o0 (And.intro ?r2o1 (And.intro ?r2o2 (And.intro ?r2o3 (And.intro ?r2o4 (And.intro ?r2o5 trivial)))))) ?r2fin
        case r2o0 | r2o1 | r2o2 | r2o3 | r2o4 =>
          intro a w1 K hR hE hK; simp [go_sem, EnvF, Sp.says, mk, Act.eval] at hE; have hb := hB0.drew.ext hR; obtain ⟨f1, f2, f3, f4⟩ := hb.facts 30 (cv_size _); dsimp only [Runs]; go_simp; try go_bits
          go_wp2_with fail
          exact hK _ (Ext.refl _)
        case r2o5 =>
          intro a w1 K hR hE hK; simp [go_sem, EnvF, Sp.says, mk, Act.eval] at hE; have hb := hB0.drew.ext hR; obtain ⟨f1, f2, f3, f4⟩ := hb.facts 30 (cv_size _); dsimp only [Runs]; go_simp; try go_bits
          go_wp2_with fail
          refine (bit_w _ _ h0).mono ?_; rintro e w' ⟨rfl, rfl⟩; exact hK _ (Ext.refl _)
        case r2st => simp only [StOk]
        case r2fin =>
          simp only [FinR, mk, Act.put, List.length_cons, List.length_nil, Nat.reduceAdd, Nat.zero_add, List.drop_succ_cons, List.drop_zero, List.setIfInBounds_toArray, List.set_cons_succ, List.set_cons_zero]
          intro w1 hR _ _
          have hb0 := hB0.drew.ext hR
          have hb1 := hB1.drew.ext hR
          have he := hE.drew.trans hR
          obtain ⟨f1, f2, f3, f4⟩ := hb0.facts 30 (cv_size _)
          clear hE hB0 hB1 hR
          go_wp2_with fail
          go_roundw
          case rel => exact ⟨k + 1, by omega, by go_num, he.setCell (by simp) _, by rw [Hstep.out, Cats.with1, hr, or_bv, if_pos rfl, Cats.setB, ← cv_set]; exact hb0.setCell _ _, hb1.far (by simp) _⟩
          case measure => simp [intOf]; omega
      | false =>
        go_wp2_with (go_at_call 60; refine (right_w _ _).mono ?_; rintro e w' ⟨rfl, rfl⟩)
        go_roundw
        case rel => exact ⟨k + 1, by omega, by go_num, hE, by rw [Hstep.out, Cats.with1, hr]; exact hB0, hB1⟩
        case measure => simp [intOf]; omega
    · obtain ⟨f1, f2, f3, f4⟩ := hB0.facts 30 (cv_size _)
      obtain ⟨g1, g2, g3, g4⟩ := hB1.facts 30 (cv_size _)
      obtain rfl : k = l.length := by omega
      rw [List.take_length] at f2
      go_wp2_with fail
      exact ret_cell Tryd.underlying23 rfl i23 rfl (w.heap.size + 1) _ rfl (by simp [go_sem, *]) (by simp [go_sem, *]) rfl ⟨rfl, hE.setRow (by simp) _⟩
set_option maxRecDepth 100000 in
theorem without_w (c : Cats) (l : List Int) (A : Option Addr) (cap : Nat) (w : World) (hl : l.length ≤ 9223372036854775807) (hA : At w A 1 (l.map iv)) :
    Calls Tryd.prog 19 #[.agg (cv c), .slice A l.length cap] w fun e w' => e = .returned (.agg (cv (c.without l))) ∧ Ext w w' := by
  go_enter Tryd.func19, Tryd.ntmps19
  go_wp2_with fail
  have hB0 : Blk ((w.alloc (.cells (cv c) 23)).alloc (.cells (cv Cats.zero) 23)) w.heap.size 23 (cv c) := (Blk.new w _ _).alloc _
  have hB1 : Blk ((w.alloc (.cells (cv c) 23)).alloc (.cells (cv Cats.zero) 23)) (w.heap.size + 1) 23 (cv Cats.zero) := by simpa using Blk.new (w.alloc (.cells (cv c) 23)) _ (cv Cats.zero)
  go_loopw [9] (fun s9 wr => ∃ k : Nat, k ≤ l.length ∧ s9 = .int .i64 k ∧ Ext w wr ∧ Blk wr w.heap.size 23 (cv (c.without (l.take k))) ∧ Blk wr (w.heap.size + 1) 23 (cv Cats.zero)) (fun s9 _ => l.length - (intOf s9).toNat)
  case atStart => exact ⟨0, by omega, rfl, (Ext.of_alloc w _).alloc _, hB0, hB1⟩
  case round =>
    clear hB0 hB1
    obtain ⟨k, hk, rfl, hE, hB0, hB1⟩ := hrel
    by_cases hlt : k < l.length
    · obtain ⟨a, rfl, hc⟩ := (hA.ext hE).int hlt
      have hstep : c.without (l.take (k + 1)) = (c.without (l.take k)).without1 l[k] := by rw [List.take_succ_eq_append_getElem hlt, Cats.without, List.foldl_append]; rfl
      have Hstep := Lib.hid hstep; clear hstep
      generalize l[k] = x at *
      generalize c.without (l.take k) = d at *
      cases hr : Cats.inR x with
      | true =>
        obtain ⟨h0, h1⟩ := inR_bd hr
        have hkn : (x / 8).toNat < 30 := by omega
        go_wp2_with (go_at_call 60; refine (right_w _ _).mono ?_; rintro e w' ⟨rfl, rfl⟩)
        refine wp_region_by (R := Ext) [([(6, none)], none), ([(15, some 0)], none), ([(2, none), (16, some 1)], none), ([(17, some 2)], none), ([(6, none)], none), ([(19, some 4)], none)]
          [.ex ?r1v0, .ex ?r1v1, .ex ?r1v2, .ex ?r1v3, .ex ?r1v4, .ex ?r1v5]
          (by kernel_rfl) (fun _ _ _ h1 h2 => h1.trans h2) (fun _ _ h => h.size) (Ext.refl _) rfl (by kernel_rfl) ?r1st (And.intro ?r1o0 (And.intro ?r1o1 (And.intro ?r1o2 (And.intro ?r1o3 (And.intro ?r1o4 (And.intro ?r1o5 trivial)))))) ?r1fin
        case r1o0 | r1o1 | r1o2 | r1o3 | r1o4 =>
          intro a w1 K hR hE hK; simp [go_sem, EnvF, Sp.says, mk, Act.eval] at hE; have hb := hB0.drew.ext hR; obtain ⟨f1, f2, f3, f4⟩ := hb.facts 30 (cv_size _); dsimp only [Runs]; go_simp; try go_bits
          go_wp2_with fail
          exact hK _ (Ext.refl _)
        case r1o5 =>
          intro a w1 K hR hE hK; simp [go_sem, EnvF, Sp.says, mk, Act.eval] at hE; have hb := hB0.drew.ext hR; obtain ⟨f1, f2, f3, f4⟩ := hb.facts 30 (cv_size _); dsimp only [Runs]; go_simp; try go_bits
          go_wp2_with fail
          refine (bit_w _ _ h0).mono ?_; rintro e w' ⟨rfl, rfl⟩; exact hK _ (Ext.refl _)
        case r1st => simp only [StOk]
        case r1fin =>
          simp only [FinR, mk, Act.put, List.length_cons, List.length_nil, Nat.reduceAdd, Nat.zero_add, List.drop_succ_cons, List.drop_zero, List.setIfInBounds_toArray, List.set_cons_succ, List.set_cons_zero]
          intro w1 hR _ _
          have hb0 := hB0.drew.ext hR
          have hb1 := hB1.drew.ext hR
          have he := hE.drew.trans hR
          obtain ⟨f1, f2, f3, f4⟩ := hb0.facts 30 (cv_size _)
          clear hE hB0 hB1 hR
          go_wp2_with fail
          go_roundw
          case rel => exact ⟨k + 1, by omega, by go_num, he.setCell (by simp) _, by rw [Hstep.out, Cats.without1, hr, andNot_bv, if_pos rfl, Cats.clrB, ← cv_set]; exact hb0.setCell _ _, hb1.far (by simp) _⟩
          case measure => simp [intOf]; omega
      | false =>
        go_wp2_with (go_at_call 60; refine (right_w _ _).mono ?_; rintro e w' ⟨rfl, rfl⟩)
        go_roundw
        case rel => exact ⟨k + 1, by omega, by go_num, hE, by rw [Hstep.out, Cats.without1, hr]; exact hB0, hB1⟩
        case measure => simp [intOf]; omega
    · obtain ⟨f1, f2, f3, f4⟩ := hB0.facts 30 (cv_size _)
      obtain ⟨g1, g2, g3, g4⟩ := hB1.facts 30 (cv_size _)
      obtain rfl : k = l.length := by omega
      rw [List.take_length] at f2
      go_wp2_with fail
      exact ret_cell Tryd.underlying23 rfl i23 rfl (w.heap.size + 1) _ rfl (by simp [go_sem, *]) (by simp [go_sem, *]) rfl ⟨rfl, hE.setRow (by simp) _⟩
/-! cats.Of, cats.Meet -/
set_option maxRecDepth 100000 in
theorem of_w (l : List Int) (A : Option Addr) (cap : Nat) (w : World) (hl : l.length ≤ 9223372036854775807) (hA : At w A 1 (l.map iv)) :
    Calls Tryd.prog 16 #[.slice A l.length cap] w fun e w' => e = .returned (.tuple #[.agg (cv (Cats.of l).1), .bool (Cats.of l).2]) ∧ Ext w w' := by
  go_enter Tryd.func16, Tryd.ntmps16
  go_wp2_with fail
  have hB0 : Blk (w.alloc (.cells (cv Cats.zero) 23)) w.heap.size 23 (cv Cats.zero) := Blk.new w _ _
  go_loopw [8] (fun s8 wr => ∃ k : Nat, k ≤ l.length ∧ s8 = .int .i64 k ∧ Ext w wr ∧ Blk wr w.heap.size 23 (cv Cats.zero) ∧ (l.take k).all Cats.inR = true) (fun s8 _ => l.length - (intOf s8).toNat)
  case atStart => exact ⟨0, by omega, rfl, Ext.of_alloc w _, hB0, rfl⟩
  case round =>
    clear hB0
    obtain ⟨k, hk, rfl, hE, hB0, hall⟩ := hrel
    by_cases hlt : k < l.length
    · obtain ⟨a, rfl, hc⟩ := (hA.ext hE).int hlt
      have hstep : (l.take (k + 1)).all Cats.inR = ((l.take k).all Cats.inR && Cats.inR l[k]) := by rw [List.take_succ_eq_append_getElem hlt, List.all_append]; simp
      have hmem : l[k] ∈ l := List.getElem_mem hlt
      have Hstep := Lib.hid hstep; clear hstep
      generalize hx : l[k] = x at *
      have Hx := Lib.hid hx; clear hx
      have Hall := Lib.hid hall; clear hall
      cases hr : Cats.inR x with
      | true =>
        go_wp2_with (go_at_call 60; refine (right_w _ _).mono ?_; rintro e w' ⟨rfl, rfl⟩)
        go_roundw
        case rel => exact ⟨k + 1, by omega, by go_num, hE, hB0, by rw [Hstep.out, Hall.out, hr]; rfl⟩
        case measure => simp [intOf]; omega
      | false =>
        obtain ⟨f1, f2, f3, f4⟩ := hB0.facts 30 (cv_size _)
        go_wp2_with (go_at_call 60; refine (right_w _ _).mono ?_; rintro e w' ⟨rfl, rfl⟩)
        have hno : Cats.of l = (Cats.zero, false) := by
          unfold Cats.of
          rw [if_neg]
          intro h
          have := List.all_eq_true.1 h x hmem
          rw [hr] at this; cases this
        refine ret_cell_tmp Tryd.underlying23 rfl i23 rfl w.heap.size (cv Cats.zero) (.bool false) rfl rfl (by simp [go_sem, *]) (by simp [go_sem, *]) rfl ⟨by rw [hno], hE.setRow (by simp) _⟩
    · obtain ⟨f1, f2, f3, f4⟩ := hB0.facts 30 (cv_size _)
      obtain rfl : k = l.length := by omega
      rw [List.take_length] at hall
      have hyes : Cats.of l = (Cats.zero.with_ l, true) := by unfold Cats.of; rw [if_pos hall]
      have Hyes := Lib.hid hyes; clear hyes hall
      have hA' := hA.ext hE
      go_wp2_with (go_at_call 18; refine (with_w _ _ _ _ _ hl hA').mono ?_; rintro e w1 ⟨rfl, hx⟩; clear f1 f2 f3 f4; have hb := hB0.ext hx; obtain ⟨f1, f2, f3, f4⟩ := hb.facts 30 (cv_size _))
      exact ret_cell_tmp Tryd.underlying23 rfl i23 rfl w.heap.size (cv (Cats.zero.with_ l)) (.bool true) rfl rfl (by simp [go_sem, *]) (by simp [go_sem, *]) rfl ⟨by rw [Hyes.out], (hE.trans hx).setRow (by simp) _⟩
/-! cats.Meet -/
set_option maxRecDepth 100000 in
theorem meet_w (a0 : Cats) (es : List Cats) (A : Option Addr) (cap : Nat) (w : World) (hl : es.length ≤ 9223372036854775807) (hA : At w A 30 (es.map cv)) :
    Calls Tryd.prog 27 #[.agg (cv a0), .slice A es.length cap] w fun e w' => e = .returned (.agg (cv (Cats.meet a0 es))) ∧ Ext w w' := by
    go_enter Tryd.func27, Tryd.ntmps27
    go_wp2_with fail
    have hB0 : Blk ((w.alloc (.cells (cv a0) 23)).alloc (.cells (cv Cats.zero) 23)) w.heap.size 23 (cv a0) := (Blk.new w _ _).alloc _
    have hB1 : Blk ((w.alloc (.cells (cv a0) 23)).alloc (.cells (cv Cats.zero) 23)) (w.heap.size + 1) 23 (cv Cats.zero) := by simpa using Blk.new (w.alloc (.cells (cv a0) 23)) _ (cv Cats.zero)
    go_loopw [6, 11] (fun s6 s11 wr => ∃ k : Nat, k ≤ es.length ∧ s11 = .int .i64 k ∧ Ext w wr ∧ Blk wr (w.heap.size + 1) 23 (cv Cats.zero) ∧ Blk wr w.heap.size 23 (cv (Cats.meet a0 (es.take k)))) (fun s6 s11 _ => es.length - (intOf s11).toNat)
    case atStart => exact ⟨0, by omega, rfl, (Ext.of_alloc w _).alloc _, hB1, hB0⟩
    case round =>
      clear hB0 hB1
      obtain ⟨k, hk, rfl, hE, hB2, hB3⟩ := hrel
      by_cases hlt : k < es.length
      · obtain ⟨a, rfl, hc1, hc2⟩ := At.facts (hA.ext hE) (i := k) (by simpa using hlt)
        rw [List.getElem_map] at hc2
        obtain ⟨f1, f2, f3, f4⟩ := hB3.facts 30 (cv_size _)
        have hlt2 := hB2.lt
        have hne : ¬ wr.heap.size = w.heap.size + 1 := by omega
        have hne2 : ¬ w.heap.size + 1 = wr.heap.size := by omega
        go_wp2_with fail
        obtain ⟨wo, hwo⟩ : ∃ wo, wo = (wr.alloc (Obj.cells (cv Cats.zero) 23)).setRow wr.heap.size (cv es[k]) := ⟨_, rfl⟩
        rw [← hwo]
        have hEo : Ext w wo := by rw [hwo]; exact (hE.alloc _).setRow hE.size _
        have hB2o : Blk wo (w.heap.size + 1) 23 (cv Cats.zero) := by rw [hwo]; exact (hB2.alloc _).farRow (by omega) _
        have hB3o : Blk wo w.heap.size 23 (cv (Cats.meet a0 (es.take k))) := by rw [hwo]; exact (hB3.alloc _).farRow (by omega) _
        clear hwo f1 f2 f3 f4 hne hne2 hc1 hc2
        go_loopw [16] (fun s15 wi => ∃ j : Nat, j ≤ 30 ∧ s15 = .int .i64 j ∧ Ext w wi ∧ Blk wi (w.heap.size + 1) 23 (cv Cats.zero) ∧ Blk wi w.heap.size 23 (cv ((Cats.meet a0 (es.take k)).zipTo (· &&& ·) es[k] j))) (fun s15 _ => 30 - (intOf s15).toNat)
        case atStart => exact ⟨0, by omega, rfl, hEo, hB2o, by rw [Cats.zipTo_zero]; exact hB3o⟩
        case round =>
          obtain ⟨j, hj, rfl, hEi, hB2i, hB3i⟩ := hrel
          obtain ⟨f1, f2, f3, f4⟩ := hB3i.facts 30 (cv_size _)
          by_cases hlj : j < 30
          · have hy := Cats.get_zipTo (· &&& ·) (Cats.meet a0 (es.take k)) es[k] hlj
            go_wp2_with fail
            rw [and_bv]
            go_roundw
            case rel => exact ⟨j + 1, by omega, by go_num, hEi.setCell (by simp) _, hB2i.far (by simp) _, by rw [Cats.zipTo_succ _ _ _ hlj, ← cv_set]; exact hB3i.setCell j _⟩
            case measure => simp [intOf]; omega
          · go_wp2_with fail
            obtain rfl : j = 30 := by omega
            rw [Cats.zipTo_all] at hB3i
            exact ⟨⟨k + 1, by omega, by go_num, hEi, hB2i, by rw [List.take_succ_eq_append_getElem hlt, Cats.meet, List.foldl_append]; exact hB3i⟩, by simp [intOf]; omega⟩
      · obtain ⟨f1, f2, f3, f4⟩ := hB3.facts 30 (cv_size _)
        obtain ⟨g1, g2, g3, g4⟩ := hB2.facts 30 (cv_size _)
        obtain rfl : k = es.length := by omega
        rw [List.take_length] at f2
        go_wp2_with fail
        exact ret_cell Tryd.underlying23 rfl i23 rfl (w.heap.size + 1) _ rfl (by simp [go_sem, *]) (by simp [go_sem, *]) rfl ⟨rfl, hE.setRow (by simp) _⟩
end Go.Proofs.YtpgpfcdkkhfemaaDoor
