/- Labels as values; label.Text, label.Parse, label.Join, label.Meet, label.Dominates, and the laws' own. -/
import Derived.Test.YtpgpfcdkkhfemaaDoorWTexts
import Derived.Test.YtpgpfcdkkhfemaaDoorLab
open Go.RowKit Go.Reg Go.Gu
namespace Go.Proofs.YtpgpfcdkkhfemaaDoor
set_option linter.unusedSimpArgs false
set_option linter.unusedVariables false
set_option maxHeartbeats 1000000
def lv (l : Lab) : Array Value := #[.int .i64 l.level] ++ cv l.cats
theorem lv_size (l : Lab) : (lv l).size = 31 := by simp [lv, cv_size]
theorem lv_ones (l : Lab) : ones (lv l) := by
  intro v hv
  simp only [lv, Array.mem_append] at hv
  rcases hv with hv | hv
  · simp at hv; subst hv; rfl
  · exact cv_ones l.cats v hv
theorem lv_zero_get (l : Lab) : (lv l)[0]? = some (.int .i64 l.level) := by unfold lv; rw [Array.getElem?_append_left (by simp)]; simp
theorem lv_succ_get (l : Lab) (j : Nat) : (lv l)[j + 1]? = (cv l.cats)[j]? := by
  unfold lv
  rw [Array.getElem?_append_right (by simp)]
  simp
attribute [go_sem] lv_size lv_ones
theorem i41 : (Tryd.prog.info? 41).map (·.size) = some 31 := by kernel_rfl
@[go_sem ↓] theorem loadA41 (ρ : Operand → Value) (dst : Option Tmp) (x : Operand) (t : TypeId) (pos : String) (aft : Array Edge) (gd : Option (Nat × Bool)) (w : World) (h1 : isPtr (ρ x) = true) (h2 : atP w (addrOf (ρ x)) 31) :
    (execOp ρ ⟨dst, .load 41 x, t, pos, aft, gd⟩).run Tryd.prog w = .ok (.value (.agg (cellsAt w (addrOf (ρ x)) 31))) w := exec_loadA Tryd.underlying41 rfl i41 ρ dst x t pos aft gd w h1 h2
@[go_sem ↓] theorem loadV41 (ρ : Operand → Value) (dst : Option Tmp) (x : Operand) (t : TypeId) (pos : String) (aft : Array Edge) (gd : Option (Nat × Bool)) (w : World) (h1 : isPtr (ρ x) = true) (h0 : (addrOf (ρ x)).off = 0) (h3 : (addrOf (ρ x)).spot = none) (h2 : isV w (addrOf (ρ x)).block 41 31) :
    (execOp ρ ⟨dst, .load 41 x, t, pos, aft, gd⟩).run Tryd.prog w = .ok (.value (.agg (row w (addrOf (ρ x)).block))) w := exec_loadV Tryd.underlying41 rfl i41 ρ dst x t pos aft gd w h1 h0 h3 h2
@[go_sem ↓] theorem storeV41 (ρ : Operand → Value) (dst : Option Tmp) (x y : Operand) (t : TypeId) (pos : String) (aft : Array Edge) (gd : Option (Nat × Bool)) (w : World) (h1 : isPtr (ρ x) = true) (h0 : (addrOf (ρ x)).off = 0) (h3 : (addrOf (ρ x)).spot = none) (h2 : isV w (addrOf (ρ x)).block 41 31) (h4 : isAggV (ρ y) = true) (h5 : (cellsOf (ρ y)).size = 31) (h6 : ones (cellsOf (ρ y))) :
    (execOp ρ ⟨dst, .store 41 x y, t, pos, aft, gd⟩).run Tryd.prog w = .ok .skip (w.setRow (addrOf (ρ x)).block (cellsOf (ρ y))) := exec_storeV i41 ρ dst x y t pos aft gd w h1 h0 h3 h2 h4 h5 h6
@[go_sem] theorem row_setRow41 (w : World) (b : Nat) (cs : Array Value) (g : Nat) (h : isT w b 41) : row (w.setRow b cs) g = if g = b then cs else row w g := row_setRow_isT h cs g
theorem infLb : (Tryd.prog.info? 41).map (fun i => (i.zero, i.size, i.bytes)) = some (some (.agg (lv Lab.zero)), 31, 40) := by kernel_rfl
@[go_sem ↓] theorem bs1Lb (ρ : Operand → Value) (dst : Option Tmp) (t : TypeId) (pos : String) (aft : Array Edge) (gd : Option (Nat × Bool)) (w : World) (x : Operand) (h1 : isAggV (ρ x) = true) (h2 : (cellsOf (ρ x)).size = 31) :
    (execOp ρ ⟨dst, .buildSlice 137 1 #[(0, x)], t, pos, aft, gd⟩).run Tryd.prog w = .ok (.value (.slice (some ⟨w.heap.size, 0, none⟩) 1 1)) (w.alloc (.cells (rowOf [cellsOf (ρ x)]) 41)) := exec_bs1 Tryd.underlying137 infLb rfl (by decide) (by decide) ρ dst t pos aft gd w x h1 h2
@[go_sem ↓] theorem bs2Lb (ρ : Operand → Value) (dst : Option Tmp) (t : TypeId) (pos : String) (aft : Array Edge) (gd : Option (Nat × Bool)) (w : World) (x y : Operand) (h1 : isAggV (ρ x) = true) (h2 : (cellsOf (ρ x)).size = 31) (h3 : isAggV (ρ y) = true) (h4 : (cellsOf (ρ y)).size = 31) :
    (execOp ρ ⟨dst, .buildSlice 137 2 #[(0, x), (1, y)], t, pos, aft, gd⟩).run Tryd.prog w = .ok (.value (.slice (some ⟨w.heap.size, 0, none⟩) 2 2)) (w.alloc (.cells (rowOf [cellsOf (ρ x), cellsOf (ρ y)]) 41)) := exec_bs2 Tryd.underlying137 infLb rfl (by decide) (by decide) ρ dst t pos aft gd w x y h1 h2 h3 h4
@[go_sem ↓] theorem bs3Lb (ρ : Operand → Value) (dst : Option Tmp) (t : TypeId) (pos : String) (aft : Array Edge) (gd : Option (Nat × Bool)) (w : World) (x y u : Operand) (h1 : isAggV (ρ x) = true) (h2 : (cellsOf (ρ x)).size = 31) (h3 : isAggV (ρ y) = true) (h4 : (cellsOf (ρ y)).size = 31) (h5 : isAggV (ρ u) = true) (h6 : (cellsOf (ρ u)).size = 31) :
    (execOp ρ ⟨dst, .buildSlice 137 3 #[(0, x), (1, y), (2, u)], t, pos, aft, gd⟩).run Tryd.prog w = .ok (.value (.slice (some ⟨w.heap.size, 0, none⟩) 3 3)) (w.alloc (.cells (rowOf [cellsOf (ρ x), cellsOf (ρ y), cellsOf (ρ u)]) 41)) := exec_bs3 Tryd.underlying137 infLb rfl (by decide) (by decide) ρ dst t pos aft gd w x y u h1 h2 h3 h4 h5 h6
/-- What the walk is told of a label's variable. -/
theorem lab_facts {w : World} {g : Nat} {l : Lab} (h : Blk w g 41 (lv l)) : isV w g 41 31 ∧ Gu.row w g = lv l ∧ w.cell? ⟨g, 0, none⟩ = some (.int .i64 l.level) ∧ (atP w ⟨g, 1, none⟩ 30 ∧ cellsAt w ⟨g, 1, none⟩ 30 = cv l.cats) ∧ isT w g 41 := by
  obtain ⟨h1, h2, h3, h4⟩ := h.facts 31 (lv_size l)
  refine ⟨h1, h2, by rw [h3, lv_zero_get], at_facts (cv_size _) fun j v hj => ?_, h4.2⟩
  have e : (⟨g, 1, none⟩ : Addr).add j = ⟨g, j + 1, none⟩ := by unfold Addr.add; split <;> simp_all <;> omega
  rw [e, h3, lv_succ_get]; exact hj
@[go_sem] theorem lv_zero : #[Value.int IntKind.i64 0, Value.int IntKind.u8 0, Value.int IntKind.u8 0, Value.int IntKind.u8 0, Value.int IntKind.u8 0, Value.int IntKind.u8 0, Value.int IntKind.u8 0, Value.int IntKind.u8 0, Value.int IntKind.u8 0, Value.int IntKind.u8 0, Value.int IntKind.u8 0, Value.int IntKind.u8 0, Value.int IntKind.u8 0, Value.int IntKind.u8 0, Value.int IntKind.u8 0, Value.int IntKind.u8 0, Value.int IntKind.u8 0, Value.int IntKind.u8 0, Value.int IntKind.u8 0, Value.int IntKind.u8 0, Value.int IntKind.u8 0, Value.int IntKind.u8 0, Value.int IntKind.u8 0, Value.int IntKind.u8 0, Value.int IntKind.u8 0, Value.int IntKind.u8 0, Value.int IntKind.u8 0, Value.int IntKind.u8 0, Value.int IntKind.u8 0, Value.int IntKind.u8 0, Value.int IntKind.u8 0] = lv Lab.zero := rfl
@[go_sem] theorem lv_mk (n : Int) (c : Cats) : #[Value.int IntKind.i64 n] ++ cv c = lv ⟨n, c⟩ := rfl
@[go_sem] theorem lv_eta (l : Lab) : (⟨l.level, l.cats⟩ : Lab) = l := rfl
@[go_sem] theorem cells_i (k : IntKind) (n : Int) : (Value.int k n).cells = #[.int k n] := rfl
@[go_sem] theorem cells_a (cs : Array Value) : (Value.agg cs).cells = cs := rfl
section
variable {P : Program}
/-- A struct of two fields is put together. -/
theorem exec_build2 {t : TypeId} {z : Array Value} {k : Nat} (hb : ∀ parts, P.built t parts = Instr.fill (fun i => ([(0, 1), (1, k)] : List (Nat × Nat))[i]?) z parts) (hz : z.size = 1 + k)
    (ρ : Operand → Value) (dst : Option Tmp) (x y : Operand) (ty : TypeId) (pos : String) (aft : Array Edge) (gd : Option (Nat × Bool)) (w : World) (h1 : (ρ x).cells.size = 1) (h2 : (ρ y).cells.size = k) :
    (execOp ρ ⟨dst, .build t #[(0, x), (1, y)], ty, pos, aft, gd⟩).run P w = .ok (.value (.agg ((ρ x).cells ++ (ρ y).cells))) w := by
  have hf : P.built t ((#[(0, x), (1, y)].map fun (i, x) => (i, ρ x)) : Array (Nat × Value)).toList = some ((ρ x).cells ++ (ρ y).cells) := by
    rw [hb]
    have e1 : (ρ x).cells.zipIdx.foldl (fun cs p => cs.setIfInBounds (0 + p.2) p.1) z = (z.toList.take (0 + 0) ++ (ρ x).cells.toList ++ z.toList.drop (0 + 0 + (ρ x).cells.toList.length)).toArray := by
      rw [← foldl_seg (ρ x).cells.toList 0 0 z (by simp [h1, hz]), ← Array.foldl_toList]; simp
    have hz1 : ((z.toList.take (0 + 0) ++ (ρ x).cells.toList ++ z.toList.drop (0 + 0 + (ρ x).cells.toList.length)).toArray).size = 1 + k := by simp [h1, hz]
    generalize hz1e : (z.toList.take (0 + 0) ++ (ρ x).cells.toList ++ z.toList.drop (0 + 0 + (ρ x).cells.toList.length)).toArray = z1 at *
    have e2 : (ρ y).cells.zipIdx.foldl (fun cs p => cs.setIfInBounds (1 + p.2) p.1) z1 = (z1.toList.take (1 + 0) ++ (ρ y).cells.toList ++ z1.toList.drop (1 + 0 + (ρ y).cells.toList.length)).toArray := by
      rw [← foldl_seg (ρ y).cells.toList 1 0 z1 (by simp [h2, hz1]), ← Array.foldl_toList]; simp
    have e3 : (z1.toList.take (1 + 0) ++ (ρ y).cells.toList ++ z1.toList.drop (1 + 0 + (ρ y).cells.toList.length)).toArray = (ρ x).cells ++ (ρ y).cells := by
      have d : z1.toList.drop (1 + 0 + (ρ y).cells.toList.length) = [] := by rw [List.drop_eq_nil_iff]; simp [h2, hz1]
      have t1 : z1.toList.take (1 + 0) = (ρ x).cells.toList := by
        rw [← hz1e]; simp [h1]
      rw [d, t1]; apply Array.ext'; simp
    have hsz : ((ρ x).cells.zipIdx.foldl (fun cs p => cs.setIfInBounds (0 + p.2) p.1) z).size = 1 + k := by rw [e1, hz1]
    rw [← e3, ← e2, ← e1]
    have ep : ((#[(0, x), (1, y)].map fun (i, x) => (i, ρ x)) : Array (Nat × Value)).toList = [(0, ρ x), (1, ρ y)] := by simp
    rw [ep]
    generalize hzz : (ρ x).cells.zipIdx.foldl (fun cs p => cs.setIfInBounds (0 + p.2) p.1) z = zz at hsz ⊢
    have hzz2 : (ρ x).cells.zipIdx.foldl (fun cs (c, j) => cs.setIfInBounds (0 + j) c) z = zz := hzz
    simp only [Instr.fill, List.getElem?_cons_zero, List.getElem?_cons_succ, hzz2]
    rw [if_neg (by simp [h1, hz]), if_neg (by simp [h2, hsz])]
  have hr := Go.run_build (P := P) w t (#[(0, x), (1, y)].map fun (i, x) => (i, ρ x)) _ hf
  simp only [execOp, Sem.run_bind, hr, Result.andThen_ok, Sem.run_pure]
end
theorem zero41 : (Tryd.prog.info? 41).map (·.zero) = some (some (.agg (lv Lab.zero))) := by kernel_rfl
set_option maxRecDepth 100000 in
theorem built41 (parts : List (Nat × Value)) : Tryd.prog.built 41 parts = Instr.fill (fun i => ([(0, 1), (1, 30)] : List (Nat × Nat))[i]?) (lv Lab.zero) parts := by
  have h3 : ((Tryd.prog.fieldsOf 41).toList.mapM (fun f => (Tryd.prog.info? f.type).map fun i => (f.offset, i.size))) = some [(0, 1), (1, 30)] := by kernel_rfl
  have hu : Tryd.prog.underlying 41 = some (.struct (Tryd.prog.fieldsOf 41)) := by kernel_rfl
  have h1 := zero41
  unfold Program.built
  cases hi : Tryd.prog.info? 41 with
  | none => rw [hi] at h1; cases h1
  | some it =>
    rw [hi] at h1
    simp only [Option.map_some, Option.some.injEq] at h1
    rw [hu]
    simp only [h1, h3, cells_a, List.getElem?_toArray]
@[go_sem ↓] theorem build41 (ρ : Operand → Value) (dst : Option Tmp) (x y : Operand) (ty : TypeId) (pos : String) (aft : Array Edge) (gd : Option (Nat × Bool)) (w : World) (h1 : (ρ x).cells.size = 1) (h2 : (ρ y).cells.size = 30) :
    (execOp ρ ⟨dst, .build 41 #[(0, x), (1, y)], ty, pos, aft, gd⟩).run Tryd.prog w = .ok (.value (.agg ((ρ x).cells ++ (ρ y).cells))) w := exec_build2 built41 (lv_size _) ρ dst x y ty pos aft gd w h1 h2
@[go_sem] theorem eqGuard41 : Tryd.prog.eqGuardType Tryd.prog.depth 41 = false := by kernel_rfl
theorem lv_extract (l : Lab) : (lv l).extract 1 (1 + 30) = cv l.cats := by
  apply Array.ext_getElem?
  intro j
  rw [Array.getElem?_extract]
  by_cases hj : j < 30
  · rw [if_pos (by simp [lv_size]; omega), Nat.add_comm 1 j, lv_succ_get]
  · rw [if_neg (by simp [lv_size]; omega), Array.getElem?_eq_none (by rw [cv_size]; omega)]
theorem equalIn23b (a b : Cats) (w : World) : (Op.equalIn 9999 23 (.agg (cv a)) (.agg (cv b))).run Tryd.prog w = .ok (a == b) w := by
  rw [← all_get]
  refine Gu.run_equalIn_array (P := Tryd.prog) (d := 9998) w Tryd.underlying23 i5 Tryd.underlying5 rfl (cv a) (cv b) (cv_size a) (cv_size b) (fun i => a.get i == b.get i) fun i h => ?_
  rw [cv_getElem, cv_getElem, run_equalIn_int w _ _ _ _ _ _ Tryd.underlying5, u8_beq]
theorem lab_beq (a b : Lab) : (a == b) = ((a.level == b.level) && (a.cats == b.cats)) := by
  rw [Bool.eq_iff_iff]
  simp only [beq_iff_eq, Bool.and_eq_true]
  constructor
  · rintro rfl; exact ⟨rfl, rfl⟩
  · rintro ⟨h1, h2⟩; exact Lab.ext' h1 h2
theorem equalIn_lab {P : Program} {t ti tc : TypeId} (a b : Lab) (w : World) (hu : P.underlying t = some (.struct (P.fieldsOf t))) (hp : P.stoodInHeld t = false)
    (hf : (P.fieldsOf t).toList.map (fun f => (f.type, f.offset, f.name == "_")) = [(ti, 0, false), (tc, 1, false)]) (hti : P.underlying ti = some (.int .i64))
    (hai : ∀ w, (isAgg ti).run P w = .ok false w) (hac : ∀ w, (isAgg tc).run P w = .ok true w) (hsc : ∀ w, (sizeOf tc).run P w = .ok 30 w)
    (hq : ∀ (c d : Cats) w, (Op.equalIn 9999 tc (.agg (cv c)) (.agg (cv d))).run P w = .ok (c == d) w) :
    (Op.equalIn (9999 + 1) t (.agg (lv a)) (.agg (lv b))).run P w = .ok (a == b) w := by
  rw [run_equalIn_agg w 9999 t (lv a) (lv b) hu hp]
  generalize (P.fieldsOf t).toList = L at hf
  obtain ⟨f0, f1, rfl⟩ : ∃ f0 f1, L = [f0, f1] := by
    have hlen := congrArg List.length hf
    rcases L with _ | ⟨a, _ | ⟨b, _ | ⟨c, r⟩⟩⟩
    · simp at hlen
    · simp at hlen
    · exact ⟨a, b, rfl⟩
    · simp at hlen
  simp only [List.map_cons, List.map_nil, List.cons.injEq, Prod.mk.injEq, and_true] at hf
  obtain ⟨⟨h1, h2, h3⟩, h4, h5, h6⟩ := hf
  have n0 : f0.name ≠ "_" := by simpa using h3
  have n1 : f1.name ≠ "_" := by simpa using h6
  have p0 : ∀ l : Lab, (part ti (lv l) 0).run P w = .ok (.int .i64 l.level) w := fun l => by
    simp only [part, Sem.run_bind, hai, Result.andThen_ok, Bool.false_eq_true, if_false, lv_zero_get, Sem.run_pure]
  have p1 : ∀ l : Lab, (part tc (lv l) 1).run P w = .ok (.agg (cv l.cats)) w := fun l => by
    simp only [part, Sem.run_bind, hac, hsc, Result.andThen_ok, if_true, Sem.run_pure, lv_extract]
  have q0 : (Op.equalIn 9999 ti (.int .i64 a.level) (.int .i64 b.level)).run P w = .ok (a.level == b.level) w := run_equalIn_int w _ _ _ _ _ _ hti
  have q1 := hq a.cats b.cats w
  rw [lab_beq]
  simp only [Op.eqFields, n0, n1, ne_eq, not_false_eq_true, if_true, h1, h2, h4, h5, Sem.run_bind, p0, p1, Result.andThen_ok, q0]
  generalize (a.level == b.level) = x
  cases x with
  | false => simp
  | true =>
    simp only [Bool.not_true, Bool.false_eq_true, if_false, Sem.run_bind, p1, Result.andThen_ok, q1, Bool.true_and]
    generalize (a.cats == b.cats) = y
    cases y <;> simp
theorem fields41 : (Tryd.prog.fieldsOf 41).toList.map (fun f => (f.type, f.offset, f.name == "_")) = [(3, 0, false), (23, 1, false)] := by kernel_rfl
theorem und41 : Tryd.prog.underlying 41 = some (.struct (Tryd.prog.fieldsOf 41)) := by kernel_rfl
theorem held41 : Tryd.prog.stoodInHeld 41 = false := by kernel_rfl
@[go_sem high] theorem equalIn41 (a b : Lab) (w : World) : (Op.equalIn 10000 41 (.agg (lv a)) (.agg (lv b))).run Tryd.prog w = .ok (a == b) w :=
  equalIn_lab (P := Tryd.prog) a b w und41 held41 fields41 Tryd.underlying3 Tryd.isAgg3 Tryd.isAgg23 Tryd.sizeOf23 equalIn23b
end Go.Proofs.YtpgpfcdkkhfemaaDoor
