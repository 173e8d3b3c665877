/-
  A label among the arguments.
-/
import Derived.Test.YtpgpfcdkkhfemaaDoorFrame2
import Derived.Test.YtpgpfcdkkhfemaaDoorWLab
namespace Go.Proofs.YtpgpfcdkkhfemaaDoor
open Go.RowKit Go.Reg Go.Gu Go.ChangeShapes Go.WideShapes
theorem cellsLab : Tryd.prog.cellsOf 41 = 31 := by kernel_rfl
theorem cellsInt1 : Tryd.prog.cellsOf 3 = 1 := by kernel_rfl
theorem trod_lab {H : Type} {enc : TypeId × Value → H} {P : Program} {w : World} {base : Nat} {sp : Nat → Bool} {held : Bool} {t ti tc : TypeId} {v : Value} {d : DataW H} {ps : List MemPlace} {f0 f1 : Field}
    (ht : P.underlying t = some (.struct #[f0, f1])) (h0 : f0.type = ti ∧ f0.offset = 0) (h1 : f1.type = tc ∧ f1.offset = 1) (hti : P.underlying ti = some (.int .i64)) (hct : P.cellsOf t = 31) (hci : P.cellsOf ti = 1) (hcc : P.cellsOf tc = 30)
    (hopen : ∀ {u : Value} {d : DataW H} {ps : List MemPlace}, DataW.Trod enc P w base sp held tc u d ps → ∃ c : Cats, u = .agg (cv c)) (h : DataW.Trod enc P w base sp held t v d ps) : ∃ l : Lab, v = .agg (lv l) ∧ (Lit.int .i64 l.level).wf = true := by
  obtain ⟨fuel, hf⟩ := h
  obtain ⟨y0, y1, n, _, hl, e0, e1⟩ := trod_struct2 ht hf
  rw [h0.1, h0.2, hci] at e0
  rw [h1.1, h1.2, hcc] at e1
  rw [hct] at hl
  obtain ⟨z, hz, _, hw⟩ := DataW.trod_int hti e0
  have hc2 : (Value.agg ((v.cells.toList.drop 1).take 30).toArray).cells.toList = (v.cells.toList.drop 1).take 30 := rfl
  rw [← hc2] at e1
  obtain ⟨c, hc⟩ := hopen (d := y1.1) (ps := y1.2) ⟨n, e1⟩
  refine ⟨⟨z, c⟩, ?_, hw⟩
  have hv : v = .agg v.cells := by
    cases v <;> first | rfl | (simp [Value.cells] at hl)
  rw [hv]
  congr 1
  apply Array.ext'
  simp only [Value.agg.injEq] at hc
  have hc3 : (v.cells.toList.drop 1).take 30 = (cv c).toList := by rw [← hc]
  have ha : v.cells.toList = v.cells.toList.take 1 ++ (v.cells.toList.drop 1).take 30 := by
    rw [List.take_of_length_le (l := v.cells.toList.drop 1) (by simp at hl ⊢; omega), List.take_append_drop]
  rw [ha, hc3]
  simp only [List.drop_zero] at hz
  rw [hz]
  simp [lv]
theorem open_lab {H : Type} {enc : TypeId × Value → H} {w : World} {base b0 : Nat} {r : Reach} {sp : Nat → Bool} {held : Bool} {v : Value} {d : DataW H} {ps : List MemPlace} (_ : Value.okWide Tryd.prog w r b0 41 v) (h : DataW.Trod enc Tryd.prog w base sp held 41 v d ps) : ∃ l : Lab, v = .agg (lv l) ∧ (Lit.int .i64 l.level).wf = true :=
  trod_lab Tryd.underlying41 ⟨rfl, rfl⟩ ⟨rfl, rfl⟩ Tryd.underlying3 cellsLab cellsInt1 cellsCats (fun h => open_cats h) h
theorem wf_i64 {n : Int} (h : (Lit.int .i64 n).wf = true) : -9223372036854775808 ≤ n ∧ n ≤ 9223372036854775807 := by
  simp [Lit.wf, IntKind.min, IntKind.max, IntKind.signed, IntKind.bits] at h; omega
end Go.Proofs.YtpgpfcdkkhfemaaDoor
