/-
  What the laws on sets of categories are given: an argument that reads as a set is one; the row's tables; a world that holds them.
-/
import Derived.Test.YtpgpfcdkkhfemaaDoorCards
import Derived.Test.YtpgpfcdkkhfemaaDoorTie
import Derived.Test.YtpgpfcdkkhfemaaDoorPost
import Derived.Test.YtpgpfcdkkhfemaaDoorWAwake
import Derived.Stop.LaidErr
namespace Go.Proofs.YtpgpfcdkkhfemaaDoor
open Go.RowKit Go.Reg Go.Gu Go.ChangeShapes Go.WideShapes
theorem own : ownKnob Tryd.prog.godebug = none := by kernel_rfl
theorem laidOut : laidOutB Tryd.prog = true := by kernel_rfl
theorem cellsU8 : Tryd.prog.cellsOf 5 = 1 := by kernel_rfl
theorem cellsCats : Tryd.prog.cellsOf 23 = 30 := by kernel_rfl
theorem open_cats {H : Type} {enc : TypeId × Value → H} {w : World} {base : Nat} {sp : Nat → Bool} {held : Bool} {v : Value} {d : DataW H} {ps : List MemPlace} (h : DataW.Trod enc Tryd.prog w base sp held 23 v d ps) : ∃ c : Cats, v = .agg (cv c) := by
  obtain ⟨zs, hn, rfl, hw⟩ := trod_ints Tryd.underlying23 Tryd.underlying5 cellsU8 cellsCats (by decide) h
  refine ⟨⟨zs.map fun z => UInt8.ofNat z.toNat, by simpa using hn⟩, ?_⟩
  congr 1
  simp only [cv, List.map_map]
  congr 1
  apply List.map_congr_left
  intro z hz
  have := hw z hz
  simp [Lit.wf, IntKind.min, IntKind.max, IntKind.signed, IntKind.bits] at this
  simp only [Function.comp_apply, bv, UInt8.toNat_ofNat']
  congr 1
  omega
theorem gPow : Tryd.prog.globalNamed "internal/strconv.uint64pow10" = some 3 := by kernel_rfl
theorem gPowType : (Tryd.prog.globals[3]?).map (·.type) = some 194 := by kernel_rfl
theorem cellsPow : Tryd.prog.cellsOf 194 = 20 := by kernel_rfl
theorem cellsU64 : Tryd.prog.cellsOf 179 = 1 := by kernel_rfl
theorem tabOk_of {W : World} (h : laidMetH Tryd.prog Rows.catsMeetsRow.laid W) : TabOk W := by
  have h1 : laidMet Tryd.prog Rows.catsMeetsRow.laid W := h
  exact Lib.tabIs_of_head (rest := []) (zs := Lib.pow10Tab) gPow gPowType Tryd.underlying194 Tryd.underlying179 cellsU64 cellsPow (laidMet.tail (laidMet.tail h1))
/-- A world for the witness: the settled one, the three tables laid. -/
noncomputable def laid3 (os : Os) : World :=
  let w := World.holding Tryd.prog os ⟨#[], #[], []⟩
  { w with heap := ((w.heap.modify 3 fun
      | .cells _ t frozen => .cells (Lib.pow10Tab.map fun z => Value.int .u64 z).toArray t frozen
      | o => o).modify 6 fun
      | .cells _ t frozen => .cells #[.int .u8 0, .int .u8 1, .int .u8 28, .int .u8 2, .int .u8 29, .int .u8 14, .int .u8 24, .int .u8 3, .int .u8 30, .int .u8 22, .int .u8 20, .int .u8 15, .int .u8 25, .int .u8 17, .int .u8 4, .int .u8 8, .int .u8 31, .int .u8 27, .int .u8 13, .int .u8 23, .int .u8 21, .int .u8 19, .int .u8 16, .int .u8 7, .int .u8 26, .int .u8 12, .int .u8 18, .int .u8 6, .int .u8 11, .int .u8 5, .int .u8 10, .int .u8 9] t frozen
      | o => o).modify 7 fun
      | .cells _ t frozen => .cells #[.int .u8 0, .int .u8 1, .int .u8 56, .int .u8 2, .int .u8 57, .int .u8 49, .int .u8 28, .int .u8 3, .int .u8 61, .int .u8 58, .int .u8 42, .int .u8 50, .int .u8 38, .int .u8 29, .int .u8 17, .int .u8 4, .int .u8 62, .int .u8 47, .int .u8 59, .int .u8 36, .int .u8 45, .int .u8 43, .int .u8 51, .int .u8 22, .int .u8 53, .int .u8 39, .int .u8 33, .int .u8 30, .int .u8 24, .int .u8 18, .int .u8 12, .int .u8 5, .int .u8 63, .int .u8 55, .int .u8 48, .int .u8 27, .int .u8 60, .int .u8 41, .int .u8 37, .int .u8 16, .int .u8 46, .int .u8 35, .int .u8 44, .int .u8 21, .int .u8 52, .int .u8 32, .int .u8 23, .int .u8 11, .int .u8 54, .int .u8 26, .int .u8 40, .int .u8 15, .int .u8 34, .int .u8 20, .int .u8 31, .int .u8 10, .int .u8 25, .int .u8 14, .int .u8 19, .int .u8 9, .int .u8 13, .int .u8 8, .int .u8 7, .int .u8 6] t frozen
      | o => o }
end Go.Proofs.YtpgpfcdkkhfemaaDoor
