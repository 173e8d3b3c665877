/-
  The frame of a law's proof: a law's call that answers true and leaves what lay in memory as it was leaves each argument reading as it did.
-/
import Derived.Test.YtpgpfcdkkhfemaaDoorMem
import Derived.WalkKit
import Derived.ProofKit
import Derived.OpenShut
import Derived.ChangeSame
import Derived.WideKeyArgs
import Derived.Deep.DeepHandedRow
import Derived.Lib.LaidTab
namespace Go.Gu
set_option linter.unusedSimpArgs false
set_option linter.unusedVariables false
open Go Go.RowKit Go.ChangeShapes Go.WideShapes
theorem trodAll_stays {H : Type} {enc : TypeId × Value → H} {P : Program} (hl : laidOutB P = true) {W W' : World} (hE : Ext W W') : ∀ {ts : List TypeId} {vs : List Value} {ds : List (DataW H)} {ps : List MemPlace},
    (ts.all fun t => P.readableRec t && decide (t < P.types.size)) = true → DataW.TrodAll enc P W 0 (fun _ => true) true ts vs ds ps → (∀ p ∈ ps, p.block < W.heap.size) →
    ∀ sp : Nat → Bool, (∀ p ∈ ps, sp p.block = true) → DataW.TrodAll enc P W' 0 sp true ts vs ds ps
  | [], [], [], _, _, h, _, _, _ => h
  | [], _ :: _, _, _, _, h, _, _, _ => h.elim
  | [], [], _ :: _, _, _, h, _, _, _ => h.elim
  | _ :: _, [], _, _, _, h, _, _, _ => h.elim
  | _ :: _, _ :: _, [], _, _, h, _, _, _ => h.elim
  | t :: ts, v :: vs, d :: ds, ps, hall, h, hlt, sp, hsp => by
    obtain ⟨p, q, h0, hr, e⟩ := h
    simp only [List.all_cons, Bool.and_eq_true, decide_eq_true_eq] at hall
    refine ⟨p, q, WideElems.Trod_stays hl hall.1.1 hall.1.2 h0 (fun x hx => Below.same hE (hlt x (by rw [e]; simp [hx]))) (fun x hx => hsp x (by rw [e]; simp [hx])), ?_, e⟩
    exact trodAll_stays hl hE hall.2 hr (fun x hx => hlt x (by rw [e]; simp [hx])) sp (fun x hx => hsp x (by rw [e]; simp [hx]))

theorem law_post {H : Type} {enc : TypeId × Value → H} {P : Program} {f : Func} {s : ChangeSpec} {W W' : World} {args : Array Value} {ds gs : List (DataW H)} {before : List MemPlace} {tb : TypeId}
    (hl : laidOutB P = true) (hts : (f.params.toList.all fun t => P.readableRec t && decide (t < P.types.size)) = true) (hres : f.resultTypes = #[tb]) (htb : P.underlying tb = some .bool) (hvars : s.vars = [])
    (hW : DataW.Whole enc P f.params.toList s.vars false W args.toList ds gs before)
    (h1 : (s.fn H ds).results = [.lit (.bool true)]) (h2 : (s.fn H ds).args = ds) (h3 : (s.fn H ds).vars = []) (hE : Ext W W') : s.post enc P f false true false false W args (.bool true) W' := by
  have hlt := hW.lt
  have hW' := hW
  obtain ⟨p, q, hA, hV, hb, hfz, hnd⟩ := hW
  have hgq : gs = [] ∧ q = [] := by
    rw [hvars] at hV
    cases gs with
    | nil => exact ⟨rfl, hV⟩
    | cons _ _ => exact hV.elim
  obtain ⟨rfl, rfl⟩ := hgq
  have hlt' : ∀ x ∈ p, x.block < W.heap.size := fun x hx => hlt x (by rw [hb]; simpa using hx)
  have hres' : ∀ (b : Nat) (sp : Nat → Bool) (hd : Bool), DataW.TrodAll enc P W' b sp hd f.resultTypes.toList ((Value.bool true).resultList f.resultTypes.size) (s.fn H (ds ++ [])).results [] := fun b sp hd => by
    rw [List.append_nil, h1, hres]
    exact trodAll_mk1 (RowKit.shut_bool htb true)
  have hargs : ∀ sp : Nat → Bool, (∀ x ∈ p, sp x.block = true) → DataW.TrodAll enc P W' 0 sp true f.params.toList args.toList (s.fn H (ds ++ [])).args p := fun sp hsp => by
    rw [List.append_nil, h2]
    exact trodAll_stays hl hE hts hA hlt' sp hsp
  have hvs : ∀ sp : Nat → Bool, DataW.TrodVars enc P W' sp s.vars (s.fn H (ds ++ [])).vars [] := fun sp => by
    rw [List.append_nil, h3, hvars]
    rfl
  have hb' : before = p := by simpa using hb
  subst hb'
  have hold : ∀ x ∈ before, (fun b => decide (b < W.heap.size)) x.block = true := fun x hx => by simpa using hlt' x hx
  refine ⟨ds, [], before, [], before, [], hW', hres' _ _ _, hargs _ hold, hvs _, World.keptBut_mono (fun x hx => ⟨hx, Or.inr (by simpa using hx)⟩) (Below.frame hE _), fun _ => ⟨ok_one hres rfl (okWide_bool_mk htb _), _, _, ([] ++ before) ++ [], ⟨[] ++ before, [], trodAll_append (hargs _ (fun _ _ => rfl)) (hres' _ _ _), hvs _, rfl, ?_, fun h => by cases h⟩, fun x hx _ => by simpa using hx⟩⟩
  intro b off hp
  have hp' : MemPlace.cell b off ∈ before := by simpa using hp
  rw [Below.frozen hE (show b < W.heap.size from hlt' _ hp')]
  exact hfz b off hp'
/-- What an array of integers of one kind reads as. -/
theorem trod_ints {H : Type} {enc : TypeId × Value → H} {P : Program} {w : World} {base : Nat} {sp : Nat → Bool} {held : Bool} {t e : TypeId} {n : Nat} {k : IntKind} {v : Value} {d : DataW H} {ps : List MemPlace}
    (ht : P.underlying t = some (.array n e)) (he : P.underlying e = some (.int k)) (hce : P.cellsOf e = 1) (hct : P.cellsOf t = n) (hn : n ≠ 1) (h : DataW.Trod enc P w base sp held t v d ps) :
    ∃ zs : List Int, zs.length = n ∧ v = .agg (zs.map fun z => Value.int k z).toArray ∧ ∀ z ∈ zs, (Lit.int k z).wf = true := by
  obtain ⟨fuel, hf⟩ := h
  obtain ⟨xs, m, _, hx, hl, hxl, hel⟩ := DataW.trod_array ht hf
  rw [hct] at hl
  have hcells : ∀ i, i < n → ∃ z, v.cells[i]? = some (.int k z) ∧ (Lit.int k z).wf = true := by
    intro i hi
    have h1 := hel i hi
    have h2 : xs[i]? = some xs[i] := List.getElem?_eq_getElem (by omega)
    rw [h2, hce] at h1
    obtain ⟨z, hz, _, hw⟩ := DataW.trod_int he h1
    refine ⟨z, ?_, hw⟩
    have := congrArg (·[0]?) hz
    simpa [List.getElem?_take, List.getElem?_drop] using this
  have hv : v = .agg v.cells := by
    cases v <;> first | rfl | (simp [Value.cells] at hl; omega)
  refine ⟨v.cells.toList.map fun u => (match u with | .int _ z => z | _ => 0), by simpa using hl, ?_, ?_⟩
  · conv => lhs; rw [hv]
    congr 1
    apply Array.ext'
    simp only [List.map_map]
    apply List.ext_getElem?
    intro i
    by_cases hi : i < n
    · obtain ⟨z, hz, _⟩ := hcells i hi
      simp [hz]
    · rw [List.getElem?_eq_none (by omega), List.getElem?_eq_none (by simp at hl ⊢; omega)]
  · intro z hz
    obtain ⟨u, hu, rfl⟩ := List.mem_map.1 hz
    obtain ⟨i, hi, rfl⟩ := List.mem_iff_getElem.1 hu
    obtain ⟨z, hz2, hw⟩ := hcells i (by omega)
    have : v.cells.toList[i] = .int k z := by
      rw [List.getElem_eq_iff, ← hz2]; simp
    rw [this]; exact hw
end Go.Gu
