/-
  A prefix among the arguments; what a number of its kind is.
-/
import Derived.Test.YtpgpfcdkkhfemaaDoorFrame2
import Derived.Test.YtpgpfcdkkhfemaaDoorWPfx
namespace Go.Proofs.YtpgpfcdkkhfemaaDoor
open Go.RowKit Go.Reg Go.Gu Go.ChangeShapes Go.WideShapes
theorem wf_u32 {n : Int} (h : (Lit.int .u32 n).wf = true) : 0 ≤ n ∧ n < 4294967296 := by
  simp [Lit.wf, IntKind.min, IntKind.max, IntKind.signed, IntKind.bits] at h; omega
theorem cellsPfx : Tryd.prog.cellsOf 70 = 2 := by kernel_rfl
theorem cellsInt2 : Tryd.prog.cellsOf 3 = 1 := by kernel_rfl
theorem cellsU32 : Tryd.prog.cellsOf 39 = 1 := by kernel_rfl
theorem trod_pfx {H : Type} {enc : TypeId × Value → H} {P : Program} {w : World} {base : Nat} {sp : Nat → Bool} {held : Bool} {t ti tc : TypeId} {v : Value} {d : DataW H} {ps : List MemPlace} {f0 f1 : Field}
    (ht : P.underlying t = some (.struct #[f0, f1])) (h0 : f0.type = ti ∧ f0.offset = 0) (h1 : f1.type = tc ∧ f1.offset = 1) (hti : P.underlying ti = some (.int .u32)) (htc : P.underlying tc = some (.int .i64)) (hct : P.cellsOf t = 2) (hci : P.cellsOf ti = 1) (hcc : P.cellsOf tc = 1)
    (h : DataW.Trod enc P w base sp held t v d ps) : ∃ a b : Int, v = .agg #[.int .u32 a, .int .i64 b] ∧ (Lit.int .u32 a).wf = true ∧ (Lit.int .i64 b).wf = true := by
  obtain ⟨fuel, hf⟩ := h
  obtain ⟨y0, y1, n, _, hl, e0, e1⟩ := trod_struct2 ht hf
  rw [h0.1, h0.2, hci] at e0
  rw [h1.1, h1.2, hcc] at e1
  rw [hct] at hl
  obtain ⟨z, hz, _, hw⟩ := DataW.trod_int hti e0
  obtain ⟨z', hz', _, hw'⟩ := DataW.trod_int htc e1
  refine ⟨z, z', ?_, hw, hw'⟩
  have hv : v = .agg v.cells := by
    cases v <;> first | rfl | (simp [Value.cells] at hl)
  rw [hv]
  congr 1
  apply Array.ext'
  have ha : v.cells.toList = v.cells.toList.take 1 ++ (v.cells.toList.drop 1).take 1 := by
    rw [List.take_of_length_le (l := v.cells.toList.drop 1) (by simp at hl ⊢; omega), List.take_append_drop]
  simp only [List.drop_zero] at hz
  rw [ha, hz, hz']
  rfl
theorem open_prefix {H : Type} {enc : TypeId × Value → H} {w : World} {base b0 : Nat} {r : Reach} {sp : Nat → Bool} {held : Bool} {v : Value} {d : DataW H} {ps : List MemPlace} (_ : Value.okWide Tryd.prog w r b0 70 v) (h : DataW.Trod enc Tryd.prog w base sp held 70 v d ps) :
    ∃ a b : Int, v = .agg #[.int .u32 a, .int .i64 b] ∧ (Lit.int .u32 a).wf = true ∧ (Lit.int .i64 b).wf = true :=
  trod_pfx Tryd.underlying70 ⟨rfl, rfl⟩ ⟨rfl, rfl⟩ Tryd.underlying39 Tryd.underlying3 cellsPfx cellsU32 cellsInt2 h
end Go.Proofs.YtpgpfcdkkhfemaaDoor
