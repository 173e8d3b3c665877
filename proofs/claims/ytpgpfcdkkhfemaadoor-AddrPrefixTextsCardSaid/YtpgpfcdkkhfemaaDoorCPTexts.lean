/- gueritelaw03.AddrPrefixTexts answers true at every input, each argument reading afterwards as before: the row, with the listed tables and errors of the program's text, tied by the card. -/
import Derived.Test.YtpgpfcdkkhfemaaDoorPTexts
import Derived.Test.YtpgpfcdkkhfemaaDoorFrame4
namespace Go.Proofs.YtpgpfcdkkhfemaaDoor.addrPrefixTexts
open Go.RowKit Go.Reg Go.Gu Go.ChangeShapes Go.WideShapes Go.ChangeAt Go.ChangeMaps
theorem readable : (Tryd.f10.params.toList.all fun t => Tryd.prog.readableRec t && decide (t < Tryd.prog.types.size)) = true := by kernel_rfl
set_option maxRecDepth 100000 in
theorem contract (H : Type) (enc : TypeId × Value → H) (W : World) (base : Nat) (args : Array Value) (ds gs : List (DataW H)) (before : List MemPlace)
    (hval : ∀ (j : Nat) t v, Tryd.f10.params[j]? = some t → args[j]? = some v → Value.okWide Tryd.prog W .any base t v)
    (hW : DataW.Whole enc Tryd.prog Tryd.f10.params.toList Rows.addrPrefixTextsSpec.vars false W args.toList ds gs before) (hL : laidMetH Tryd.prog Rows.addrPrefixTextsRow.laid W) (hS : W.ShapedOpen Tryd.prog) :
    Calls Tryd.prog 10 args W fun e W' => ∃ v, e = .returned v ∧ Rows.addrPrefixTextsSpec.post enc Tryd.prog Tryd.f10 false true false false W args v W' := by
  have hW' := hW
  obtain ⟨p, q, hA0, hV, rfl, hfz, hnd⟩ := hW
  have hA : DataW.TrodAll enc Tryd.prog W 0 (fun _ => true) true Tryd.f10.params.toList args.toList ds p := hA0
  rw [Tryd.params10] at hA
  obtain ⟨v0, vs0, d0, ds0, p0, q0, hargs, rfl, rfl, h0, r0⟩ := trodAll_cons hA
  obtain ⟨v1, vs1, d1, ds1, p1, q1, rfl, rfl, rfl, h1, r1⟩ := trodAll_cons r0
  obtain ⟨rfl, rfl, rfl⟩ := trodAll_nil r1
  obtain rfl : args = #[v0, v1] := by cases args; simp_all
  have hv0 := hval 0 70 v0 (by kernel_rfl) (by simp)
  have hv1 := hval 1 9 v1 (by kernel_rfl) (by simp)
  obtain ⟨a0, b0, rfl, wfa0, wfb0⟩ := open_prefix hv0 h0
  obtain ⟨s1, rfl, _, _, hm1⟩ := open_string Tryd.underlying9 hv1 h1; obtain ⟨l1, rfl, hl1⟩ := ba_list s1
  clear hA0
  obtain ⟨hTab, hVars⟩ := textVars hL hS
  refine (aptexts_w a0 b0 (wf_u32 wfa0).1 (wf_u32 wfa0).2 l1 W hTab hVars (by unfold maxLen at hm1; omega)).mono fun e W' ⟨he, hg⟩ => ⟨_, he, ?_⟩
  exact law_post laidOut readable (by kernel_rfl) Tryd.underlying4 rfl hW' rfl rfl rfl hg
noncomputable def wit : Array Value := #[.agg #[.int .u32 0, .int .i64 0], .string ⟨#[]⟩]
theorem laid_met (os : Os) : laidMet Tryd.prog Rows.addrPrefixTextsRow.laid ((World.laidAll Tryd.prog os Rows.addrPrefixTextsRow.laid).forCall (fun _ _ => 0) ⟨#[], wit, []⟩).memory := laidMet_laidAll wit (by kernel_rfl) (by kernel_rfl)
theorem reads (os : Os) {H : Type} (enc : TypeId × Value → H) : DataW.whole enc Tryd.prog ((World.laidAll Tryd.prog os Rows.addrPrefixTextsRow.laid).forCall (fun _ _ => 0) ⟨#[], wit, []⟩).memory Tryd.f10.params.toList Rows.addrPrefixTextsSpec.vars false wit.toList 8 = some ([.agg [.lit (.int .u32 0), .lit (.int .i64 0)], .lit (.string [])], [], []) := by kernel_rfl
set_option maxRecDepth 100000 in
theorem lifted (os : Os) (started : os.Started) (H : Type) (enc : TypeId × Value → H) (F : Stop.Interp) :
    ReturnsInHanded {} Tryd.checked os 10 .any ((OpenSpec.ofChange Rows.addrPrefixTextsSpec).preRow enc Tryd.prog Tryd.f10 Rows.addrPrefixTextsRow.domain false Rows.addrPrefixTextsRow.laid) (((OpenSpec.ofChange Rows.addrPrefixTextsSpec).at F).post enc Tryd.prog Tryd.f10 false true false false) := by
  refine returnsInHanded_of_row (C := Tryd.checked) (s := OpenSpec.ofChange Rows.addrPrefixTextsSpec) own started (by kernel_rfl) Tryd.func10
    (witness_row_at (enc := enc) (C := Tryd.checked) false (World.laidAll Tryd.prog os Rows.addrPrefixTextsRow.laid) wit (World.laidAll_os _ _ _) (by kernel_rfl) (by kernel_rfl) (by kernel_rfl)
      (OpenSpec.preRow_of_cond 8 (reads os enc) (by kernel_rfl) (fun k hk => by cases hk) (by kernel_rfl) (laid_met os))) ?_
  intro W base args ds gs before hval hW _ _ _ hL hS _
  exact contract H enc W base args ds gs before hval hW hL hS
theorem said : Rows.AddrPrefixTextsSaid :=
  OpenClaim.holds_of_cond 10 Tryd.f10 rfl rfl rfl rfl rfl rfl rfl ⟨rfl, rfl, rfl, rfl, rfl⟩ rfl rfl rfl rfl rfl (by kernel_rfl) Tryd.func10 (by kernel_rfl)
    (of_decide_eq_true (by kernel_rfl)) (by unfold Func.isWrapper; first | (rw [if_pos (by decide +kernel)]; kernel_rfl) | (rw [if_neg (by decide +kernel)]; exact ⟨rfl, rfl⟩))
    (fun os started H enc _ F => by rw [OpenClaim.pre_eq_preRow]; exact lifted os started H enc F)
theorem plain (f : FuncId) (fn : Func) (hf : Tryd.pinned.checked.prog.funcNamed "guerite/gueritelaw03.AddrPrefixTexts" = some f) (hfn : Tryd.pinned.checked.prog.funcs[f]? = some fn) :
    true = Tryd.pinned.checked.prog.looks [] ∧ ∀ (j : Nat) t, fn.params[j]? = some t → Tryd.pinned.checked.prog.wantsStandIn t = false := by
  obtain rfl : f = 10 := Option.some.inj ((show Tryd.prog.funcNamed "guerite/gueritelaw03.AddrPrefixTexts" = some 10 by kernel_rfl).symm.trans hf) |>.symm
  obtain rfl : fn = Tryd.f10 := (Option.some.inj (Tryd.func10.symm.trans hfn)).symm
  refine ⟨by kernel_rfl, fun j t ht => ?_⟩
  have hall : (Tryd.f10.params.toList.all fun u => !Tryd.prog.wantsStandIn u) = true := by kernel_rfl
  have hm : t ∈ Tryd.f10.params.toList := by simpa using Array.mem_of_getElem? ht
  exact (show Tryd.prog.wantsStandIn t = false by simpa using List.all_eq_true.1 hall t hm)
/-- The card. -/
theorem card : Rows.AddrPrefixTextsCardSaid :=
  Claim7.holds_tied_plain_at .later [] _ _ _ _ said (fun _ h => by cases h) (by kernel_rfl) (fun _ h => by cases h) addrPrefixTexts_row_tie rfl ⟨rfl, rfl⟩ (by kernel_rfl) rfl plain (by kernel_rfl)
end Go.Proofs.YtpgpfcdkkhfemaaDoor.addrPrefixTexts
