/-
  What the laws that read and tell texts are given: the tables and the library's variables.
-/
import Derived.Test.YtpgpfcdkkhfemaaDoorFrame
import Derived.Test.YtpgpfcdkkhfemaaDoorOpen
import Derived.Test.YtpgpfcdkkhfemaaDoorWParse
import Derived.Shelf.Vars
import Derived.LaidLaws
import Derived.Lay
namespace Go.Proofs.YtpgpfcdkkhfemaaDoor
open Go.RowKit Go.Reg Go.Gu Go.ChangeShapes Go.WideShapes
theorem maxLen_of {W : World} (h : W.ShapedOpen Tryd.prog) : ∃ m, W.cell? ⟨0, 0, none⟩ = some (.int .i64 m) :=
  Go.Proofs.cell_of_shapedOpen_int (zero := #[.int .i64 0]) (t := 3) h (of_decide_eq_true (by kernel_rfl)) (by kernel_rfl) rfl (by kernel_rfl) (by kernel_rfl) Tryd.underlying3
theorem gRange : Tryd.prog.globalNamed "strconv.ErrRange" = some 2 := by kernel_rfl
theorem gSyn : Tryd.prog.globalNamed "strconv.ErrSyntax" = some 1 := by kernel_rfl
theorem tRange : (Tryd.prog.globals[2]?).map (·.type) = some 134 := by kernel_rfl
theorem tSyn : (Tryd.prog.globals[1]?).map (·.type) = some 134 := by kernel_rfl
theorem cellsErrStr : Tryd.prog.cellsOf 203 = 1 := by kernel_rfl
theorem cellsStr : Tryd.prog.cellsOf 9 = 1 := by kernel_rfl
theorem star : "*" ++ "errors.errorString" = "*errors.errorString" := by decide
theorem namesErr (u : TypeId) (h : Tryd.prog.typeName? 3 u = some "*errors.errorString") : u = 201 :=
  typeName_ptr_named (nm := "errors.errorString") (by rw [star]; kernel_rfl) (by kernel_rfl) (by decide) u (by rw [star]; exact h)
theorem textVars {W : World} (h : laidMetH Tryd.prog Rows.catsTextsRow.laid W) (hS : W.ShapedOpen Tryd.prog) : TabOk W ∧ VarsOk W := by
  have h1 : laidMet Tryd.prog Rows.catsTextsRow.laid W := h
  have h2 := laidMet.tail (laidMet.tail h1)
  have h4 := laidMet.tail (laidMet.tail h2)
  have h5 := laidMet.tail h4
  refine ⟨Lib.tabIs_of_head (zs := Lib.pow10Tab) gPow gPowType Tryd.underlying194 Tryd.underlying179 cellsU64 cellsPow h2, maxLen_of hS, ?_, ?_⟩
  · obtain ⟨a, s, hv, _⟩ := laid_sentinel h5 gSyn tSyn Tryd.underlying134 namesErr Tryd.underlying201 Tryd.underlying203 rfl rfl Tryd.underlying9 cellsErrStr cellsStr
    exact ⟨_, _, by simpa using World.var?_cell gSyn hv 0⟩
  · obtain ⟨a, s, hv, _⟩ := laid_sentinel h4 gRange tRange Tryd.underlying134 namesErr Tryd.underlying201 Tryd.underlying203 rfl rfl Tryd.underlying9 cellsErrStr cellsStr
    exact ⟨_, _, by simpa using World.var?_cell gRange hv 0⟩
theorem ba_list (s : ByteArray) : ∃ l : List UInt8, s = ⟨l.toArray⟩ ∧ s.size = l.length := ⟨s.data.toList, by cases s; rfl, by rw [Lib.size_eq]⟩
theorem text_laid (os : Os) (args : Array Value) : laidMet Tryd.prog Rows.catsTextsRow.laid ((World.laidAll Tryd.prog os Rows.catsTextsRow.laid).forCall (fun _ _ => 0) ⟨#[], args, []⟩).memory := laidMet_laidAll args (by kernel_rfl) (by kernel_rfl)
end Go.Proofs.YtpgpfcdkkhfemaaDoor
