/- cats.Parse, and what it calls: strings.Cut, strings.Split, strconv.Atoi as words on lists. -/
import Derived.Test.YtpgpfcdkkhfemaaDoorWAwake
import Derived.Test.YtpgpfcdkkhfemaaDoorTexts
import Derived.Laws.Tables
import Derived.Deep.DeepCutAuto
open Go.RowKit Go.Reg Go.Gu
namespace Go.Proofs.YtpgpfcdkkhfemaaDoor
set_option linter.unusedSimpArgs false
set_option linter.unusedVariables false
set_option maxHeartbeats 1000000
/-- The library's variables hold what they should. -/
def VarsOk (w : World) : Prop := (∃ m, w.cell? ⟨0, 0, none⟩ = some (.int .i64 m)) ∧ (∃ t p, w.cell? ⟨1, 0, none⟩ = some (.iface t p)) ∧ (∃ t p, w.cell? ⟨2, 0, none⟩ = some (.iface t p))
theorem VarsOk.ext {w w' : World} (h : VarsOk w) (he : Ext w w') : VarsOk w' := by
  obtain ⟨⟨m, h1⟩, ⟨t, p, h2⟩, ⟨t', p', h3⟩⟩ := h
  exact ⟨⟨m, he.cell h1⟩, ⟨t, p, he.cell h2⟩, ⟨t', p', he.cell h3⟩⟩
theorem ext_drewN (w : World) (n : Nat) : Ext w (w.drewN n) := ⟨rfl, rfl, rfl, Nat.le_refl _, fun _ _ => rfl⟩
theorem cut_w (s : List UInt8) (c : UInt8) (hs : s.length < 4294967281) (w : World) (hv : VarsOk w) :
    Calls Tryd.prog 87 #[sv s, sv [c]] w fun e w' => e = .returned (.tuple #[sv (Lib.cut s [c]).1, sv (Lib.cut s [c]).2.1, .bool (Lib.cut s [c]).2.2]) ∧ Ext w w' := by
  obtain ⟨⟨m, hm⟩, _⟩ := hv
  exact (Tryd.strings_Cut ⟨s.toArray⟩ ⟨#[c]⟩ m w (by simpa [ba_size] using hs) hm).mono fun e w' ⟨he, n, hw⟩ => ⟨by simpa using he, by rw [hw]; exact ext_drewN w n⟩
theorem split_w (s : List UInt8) (c : UInt8) (hs : s.length < 4294967281) (w : World) (hv : VarsOk w) :
    Calls Tryd.prog 81 #[sv s, sv [c]] w fun e w' => ∃ cap, e = .returned (.slice (some ⟨w.heap.size, 0, none⟩) (pieces c s).length cap) ∧ Ext w w' ∧ At w' (some ⟨w.heap.size, 0, none⟩) 1 ((pieces c s).map svc) := by
  obtain ⟨⟨m, hm⟩, _⟩ := hv
  refine (Tryd.strings_Split ⟨s.toArray⟩ ⟨#[c]⟩ m w (by simpa [ba_size] using hs) hm (by simp [ba_size])).mono fun e w' ⟨he, hw⟩ => ?_
  have hd := Lib.splitB_data ⟨#[c]⟩ 0 (Lib.countB ⟨s.toArray⟩ ⟨#[c]⟩) ⟨s.toArray⟩
  have hsp : Lib.splitK [c] 0 (Lib.countB ⟨s.toArray⟩ ⟨#[c]⟩) s = pieces c s := split_pieces c s
  have hd2 : (Lib.splitB ⟨#[c]⟩ 0 (Lib.countB ⟨s.toArray⟩ ⟨#[c]⟩) ⟨s.toArray⟩).map (·.data.toList) = pieces c s := by rw [hd]; simpa using hsp
  have hlen : Lib.countB ⟨s.toArray⟩ ⟨#[c]⟩ + 1 = (pieces c s).length := by
    rw [← hd2, List.length_map]; exact (Lib.splitB_all ⟨#[c]⟩ (by simp [ba_size]) 0 _ ⟨s.toArray⟩ rfl).symm
  have hrow : ((Lib.splitB ⟨#[c]⟩ 0 (Lib.countB ⟨s.toArray⟩ ⟨#[c]⟩) ⟨s.toArray⟩).map Value.string).toArray = rowOf ((pieces c s).map svc) := by
    rw [← hd2]
    generalize Lib.splitB ⟨#[c]⟩ 0 (Lib.countB ⟨s.toArray⟩ ⟨#[c]⟩) ⟨s.toArray⟩ = L
    simp only [rowOf, List.flatMap_map, svc]
    congr 1
    induction L with
    | nil => rfl
    | cons x L ih => simp only [List.map_cons, List.flatMap_cons, ih]; rfl
  rw [hrow] at hw
  have hS := Sl.many w 9 (size := 1) (es := (pieces c s).map svc) (by intro e he; obtain ⟨x, _, rfl⟩ := List.mem_map.1 he; rfl)
  obtain ⟨A, cap, hv', hA⟩ := hS
  rw [List.length_map] at hv'
  simp only [Value.slice.injEq] at hv'
  obtain ⟨rfl, _, rfl⟩ := hv'
  refine ⟨(pieces c s).length, ?_, by rw [hw]; exact Ext.of_alloc w _, by rw [hw]; exact hA⟩
  rw [he, hlen]
theorem atoi_yes (l : List UInt8) (h : Cats.atoiOk l = true) (hl : l.length ≤ 281474976710656) (w : World) :
    Calls Tryd.prog 93 #[sv l] w fun e w' => e = .returned (.tuple #[.int .i64 (Cats.atoiV l), .nilIface]) ∧ Ext w w' := by
  have hk : ∃ v, Lib.atoiAll l = .ok v ∧ Cats.atoiV l = v := by
    unfold Cats.atoiOk at h; unfold Cats.atoiV
    cases hh : Lib.atoiAll l with
    | ok v => exact ⟨v, rfl, rfl⟩
    | _ => rw [hh] at h; cases h
  obtain ⟨v, h1, h2⟩ := hk
  rw [h2]
  refine (Tryd.strconv_Atoi_ok ⟨l.toArray⟩ (by simp [ba_size]; omega) v (by simpa using h1) w).mono fun e w' ⟨he, hw⟩ => ⟨he, ?_⟩
  rcases hw with rfl | ⟨t, rfl⟩
  · exact Ext.refl _
  · exact Lib.bytesWorld_below w _ t
theorem atoi_no (l : List UInt8) (h : Cats.atoiOk l = false) (hl : l.length ≤ 281474976710656) (w : World) (hv : VarsOk w) :
    Calls Tryd.prog 93 #[sv l] w fun e w' => ∃ N, e = .returned (.tuple #[.int .i64 (Cats.atoiV l), .iface 167 (.pointer (some ⟨N, 0, none⟩))]) ∧ Ext w w' := by
  obtain ⟨_, ⟨t, p, h2⟩, ⟨t', p', h3⟩⟩ := hv
  cases hh : Lib.atoiAll l with
  | ok v => unfold Cats.atoiOk at h; rw [hh] at h; cases h
  | range =>
    have he : Cats.atoiV l = Lib.atoiSat l := by unfold Cats.atoiV; rw [hh]
    rw [he]
    refine (Tryd.strconv_Atoi_range ⟨l.toArray⟩ (by simpa [ba_size] using hl) (by simpa using hh) _ w h3 (.inr ⟨_, _, rfl⟩)).mono fun e w' ⟨N, he, _, _, hw⟩ => ⟨N, by simpa using he, hw⟩
  | _ =>
    have he : Cats.atoiV l = 0 := by unfold Cats.atoiV; rw [hh]
    rw [he]
    refine (Tryd.strconv_Atoi_syntax ⟨l.toArray⟩ (by simpa [ba_size] using hl) hh _ w h2 (.inr ⟨_, _, rfl⟩)).mono fun e w' ⟨N, he, _, _, hw⟩ => ⟨N, he, hw⟩
theorem atoiV_bd (l : List UInt8) : -9223372036854775808 ≤ Cats.atoiV l ∧ Cats.atoiV l ≤ 9223372036854775807 := by
  unfold Cats.atoiV
  split
  · rename_i v h; exact Lib.atoiAll_bounds h
  · exact Lib.atoiSat_bounds l
  · omega
/-! cats.span -/
theorem cut_len (s : List UInt8) (c : UInt8) : (Lib.cut s [c]).1.length ≤ s.length ∧ (Lib.cut s [c]).2.1.length ≤ s.length := by
  unfold Lib.cut; split
  · simp; omega
  · simp
set_option maxRecDepth 100000 in
theorem span_w (s : List UInt8) (hs : s.length ≤ 1000000) (w : World) (hv : VarsOk w) :
    Calls Tryd.prog 90 #[sv s] w fun e w' => e = .returned (.tuple #[.int .i64 (Cats.spanOf s).1, .int .i64 (Cats.spanOf s).2.1, .bool (Cats.spanOf s).2.2]) ∧ Ext w w' := by
  have hcl := cut_len s 45
  have hsp : Cats.spanOf s = Cats.spanOf s := rfl
  conv at hsp => rhs; unfold Cats.spanOf
  have hcw := cut_w s 45 (by omega) w hv
  generalize (Lib.cut s [45]).1 = hd at *
  generalize (Lib.cut s [45]).2.1 = tl at *
  have hb1 := atoiV_bd hd
  have hb2 := atoiV_bd tl
  cases htwo : (Lib.cut s [45]).2.2 with
  | false =>
    rw [htwo] at hsp hcw
    have Hsp := Lib.hid hsp; clear hsp htwo
    have Hcw := Lib.hid hcw; clear hcw
    cases ho : Cats.atoiOk hd with
    | true =>
      go_enter Tryd.func90, Tryd.ntmps90
      go_wp2_with (first
        | (go_at_call 87; refine Hcw.out.mono ?_; rintro e w1 ⟨rfl, hx1⟩)
        | (go_at_call_of 93 (sv hd); refine (atoi_yes hd ho (by omega) _).mono ?_; rintro e w2 ⟨rfl, hx2⟩)
        | (go_at_call_of 93 (sv hd); refine (atoi_no hd ho (by omega) _ (hv.ext hx1)).mono ?_; rintro e w2 ⟨N, rfl, hx2⟩)
        | (go_at_call_of 93 (sv tl); refine (atoi_yes tl ho2 (by omega) _).mono ?_; rintro e w4 ⟨rfl, hx4⟩)
        | (go_at_call_of 93 (sv tl); refine (atoi_no tl ho2 (by omega) _ (hv.ext (hx1.trans hx2))).mono ?_; rintro e w4 ⟨N', rfl, hx4⟩)
        | (go_at_call 60; refine (right_w _ _).mono ?_; rintro e w3 ⟨rfl, rfl⟩))
      go_ret3
      exact ⟨by rw [Hsp.out]; simp [ho], hx1.trans hx2⟩
    | false =>
      go_enter Tryd.func90, Tryd.ntmps90
      go_wp2_with (first
        | (go_at_call 87; refine Hcw.out.mono ?_; rintro e w1 ⟨rfl, hx1⟩)
        | (go_at_call_of 93 (sv hd); refine (atoi_yes hd ho (by omega) _).mono ?_; rintro e w2 ⟨rfl, hx2⟩)
        | (go_at_call_of 93 (sv hd); refine (atoi_no hd ho (by omega) _ (hv.ext hx1)).mono ?_; rintro e w2 ⟨N, rfl, hx2⟩)
        | (go_at_call_of 93 (sv tl); refine (atoi_yes tl ho2 (by omega) _).mono ?_; rintro e w4 ⟨rfl, hx4⟩)
        | (go_at_call_of 93 (sv tl); refine (atoi_no tl ho2 (by omega) _ (hv.ext (hx1.trans hx2))).mono ?_; rintro e w4 ⟨N', rfl, hx4⟩)
        | (go_at_call 60; refine (right_w _ _).mono ?_; rintro e w3 ⟨rfl, rfl⟩))
      go_ret3
      exact ⟨by rw [Hsp.out]; simp [ho], hx1.trans hx2⟩
  | true =>
    rw [htwo] at hsp hcw
    have Hsp := Lib.hid hsp; clear hsp htwo
    have Hcw := Lib.hid hcw; clear hcw
    cases ho : Cats.atoiOk hd with
    | true =>
      cases ho2 : Cats.atoiOk tl with
      | true =>
        cases hr : Cats.inR (Cats.atoiV hd) with
        | true =>
          go_enter Tryd.func90, Tryd.ntmps90
          go_wp2_with (first
            | (go_at_call 87; refine Hcw.out.mono ?_; rintro e w1 ⟨rfl, hx1⟩)
            | (go_at_call_of 93 (sv hd); refine (atoi_yes hd ho (by omega) _).mono ?_; rintro e w2 ⟨rfl, hx2⟩)
            | (go_at_call_of 93 (sv hd); refine (atoi_no hd ho (by omega) _ (hv.ext hx1)).mono ?_; rintro e w2 ⟨N, rfl, hx2⟩)
            | (go_at_call_of 93 (sv tl); refine (atoi_yes tl ho2 (by omega) _).mono ?_; rintro e w4 ⟨rfl, hx4⟩)
            | (go_at_call_of 93 (sv tl); refine (atoi_no tl ho2 (by omega) _ (hv.ext (hx1.trans hx2))).mono ?_; rintro e w4 ⟨N', rfl, hx4⟩)
            | (go_at_call 60; refine (right_w _ _).mono ?_; rintro e w3 ⟨rfl, rfl⟩))
          go_ret3
          exact ⟨by rw [Hsp.out]; simp [ho, ho2, hr], (hx1.trans hx2).trans hx4⟩
        | false =>
          go_enter Tryd.func90, Tryd.ntmps90
          go_wp2_with (first
            | (go_at_call 87; refine Hcw.out.mono ?_; rintro e w1 ⟨rfl, hx1⟩)
            | (go_at_call_of 93 (sv hd); refine (atoi_yes hd ho (by omega) _).mono ?_; rintro e w2 ⟨rfl, hx2⟩)
            | (go_at_call_of 93 (sv hd); refine (atoi_no hd ho (by omega) _ (hv.ext hx1)).mono ?_; rintro e w2 ⟨N, rfl, hx2⟩)
            | (go_at_call_of 93 (sv tl); refine (atoi_yes tl ho2 (by omega) _).mono ?_; rintro e w4 ⟨rfl, hx4⟩)
            | (go_at_call_of 93 (sv tl); refine (atoi_no tl ho2 (by omega) _ (hv.ext (hx1.trans hx2))).mono ?_; rintro e w4 ⟨N', rfl, hx4⟩)
            | (go_at_call 60; refine (right_w _ _).mono ?_; rintro e w3 ⟨rfl, rfl⟩))
          go_ret3
          exact ⟨by rw [Hsp.out]; simp [ho, ho2, hr], (hx1.trans hx2).trans hx4⟩
      | false =>
        go_enter Tryd.func90, Tryd.ntmps90
        go_wp2_with (first
          | (go_at_call 87; refine Hcw.out.mono ?_; rintro e w1 ⟨rfl, hx1⟩)
          | (go_at_call_of 93 (sv hd); refine (atoi_yes hd ho (by omega) _).mono ?_; rintro e w2 ⟨rfl, hx2⟩)
          | (go_at_call_of 93 (sv hd); refine (atoi_no hd ho (by omega) _ (hv.ext hx1)).mono ?_; rintro e w2 ⟨N, rfl, hx2⟩)
          | (go_at_call_of 93 (sv tl); refine (atoi_yes tl ho2 (by omega) _).mono ?_; rintro e w4 ⟨rfl, hx4⟩)
          | (go_at_call_of 93 (sv tl); refine (atoi_no tl ho2 (by omega) _ (hv.ext (hx1.trans hx2))).mono ?_; rintro e w4 ⟨N', rfl, hx4⟩)
          | (go_at_call 60; refine (right_w _ _).mono ?_; rintro e w3 ⟨rfl, rfl⟩))
        go_ret3
        exact ⟨by rw [Hsp.out]; simp [ho, ho2], (hx1.trans hx2).trans hx4⟩
    | false =>
      cases ho2 : Cats.atoiOk tl with
      | true =>
        go_enter Tryd.func90, Tryd.ntmps90
        go_wp2_with (first
          | (go_at_call 87; refine Hcw.out.mono ?_; rintro e w1 ⟨rfl, hx1⟩)
          | (go_at_call_of 93 (sv hd); refine (atoi_yes hd ho (by omega) _).mono ?_; rintro e w2 ⟨rfl, hx2⟩)
          | (go_at_call_of 93 (sv hd); refine (atoi_no hd ho (by omega) _ (hv.ext hx1)).mono ?_; rintro e w2 ⟨N, rfl, hx2⟩)
          | (go_at_call_of 93 (sv tl); refine (atoi_yes tl ho2 (by omega) _).mono ?_; rintro e w4 ⟨rfl, hx4⟩)
          | (go_at_call_of 93 (sv tl); refine (atoi_no tl ho2 (by omega) _ (hv.ext (hx1.trans hx2))).mono ?_; rintro e w4 ⟨N', rfl, hx4⟩)
          | (go_at_call 60; refine (right_w _ _).mono ?_; rintro e w3 ⟨rfl, rfl⟩))
        go_ret3
        exact ⟨by rw [Hsp.out]; simp [ho, ho2], (hx1.trans hx2).trans hx4⟩
      | false =>
        go_enter Tryd.func90, Tryd.ntmps90
        go_wp2_with (first
          | (go_at_call 87; refine Hcw.out.mono ?_; rintro e w1 ⟨rfl, hx1⟩)
          | (go_at_call_of 93 (sv hd); refine (atoi_yes hd ho (by omega) _).mono ?_; rintro e w2 ⟨rfl, hx2⟩)
          | (go_at_call_of 93 (sv hd); refine (atoi_no hd ho (by omega) _ (hv.ext hx1)).mono ?_; rintro e w2 ⟨N, rfl, hx2⟩)
          | (go_at_call_of 93 (sv tl); refine (atoi_yes tl ho2 (by omega) _).mono ?_; rintro e w4 ⟨rfl, hx4⟩)
          | (go_at_call_of 93 (sv tl); refine (atoi_no tl ho2 (by omega) _ (hv.ext (hx1.trans hx2))).mono ?_; rintro e w4 ⟨N', rfl, hx4⟩)
          | (go_at_call 60; refine (right_w _ _).mono ?_; rintro e w3 ⟨rfl, rfl⟩))
        go_ret3
        exact ⟨by rw [Hsp.out]; simp [ho, ho2], (hx1.trans hx2).trans hx4⟩
/-! cats.Parse -/
theorem readP_drop {c : Cats} {l : List (List UInt8)} {i : Nat} (h : i < l.length) : Cats.readP c (l.drop i) = if (Cats.spanOf l[i]).2.2 then Cats.readP (Cats.addR c (Cats.spanOf l[i]).1 (Cats.spanOf l[i]).2.1) (l.drop (i + 1)) else none := by
  rw [List.drop_eq_getElem_cons h, Cats.readP]
theorem span_bd {s : List UInt8} (h : (Cats.spanOf s).2.2 = true) : (0 ≤ (Cats.spanOf s).1 ∧ (Cats.spanOf s).1 ≤ 239) ∧ 0 ≤ (Cats.spanOf s).2.1 ∧ (Cats.spanOf s).2.1 ≤ 239 := by
  unfold Cats.spanOf at *
  split
  · rename_i h1
    rw [if_pos h1] at h
    simp only [Bool.and_eq_true, Cats.inR_iff] at h
    exact ⟨h.1.2, h.2⟩
  · rename_i h1
    rw [if_neg h1] at h
    simp only [Bool.and_eq_true, Cats.inR_iff] at h
    exact ⟨h.2, h.2⟩
theorem at_str {w : World} {A : Option Addr} {l : List (List UInt8)} (h : At w A 1 (l.map svc)) {i : Nat} (hi : i < l.length) : ∃ a, A = some a ∧ w.cell? (a.add i) = some (sv l[i]) := by
  obtain ⟨_, a, h2, h3⟩ := h i (svc l[i]) (by simp [hi])
  exact ⟨a, h2, by simpa using h3 0 (sv l[i]) rfl⟩
theorem addr_add_block (a : Addr) (i : Nat) : (a.add i).block = a.block := by unfold Addr.add; split <;> rfl
theorem add_zero_off (b i : Nat) : (⟨b, 0, none⟩ : Addr).add i = ⟨b, i, none⟩ := by unfold Addr.add; split <;> simp_all
theorem At_setRow {w : World} {a : Addr} {size es} (h : At w (some a) size es) {g : Nat} (hne : a.block ≠ g) (cs : Array Value) : At (w.setRow g cs) (some a) size es := fun i e hi => by
  obtain ⟨h1, b, h2, h3⟩ := h i e hi
  cases h2
  exact ⟨h1, a, rfl, fun j v hj => by rw [cell_setRow_other w g cs _ (by rw [addr_add_block]; exact hne)]; exact h3 j v hj⟩
theorem at_one_int (w : World) (k : Int) : At (w.alloc (.cells #[.int .i64 k] 3)) (some ⟨w.heap.size, 0, none⟩) 1 ([k].map iv) := by
  obtain ⟨A, cap, hv, hA⟩ := Sl.one w 3 (iv k)
  simp only [Value.slice.injEq] at hv
  obtain ⟨rfl, _⟩ := hv
  exact hA
set_option maxRecDepth 100000 in
theorem parse_w (s : List UInt8) (hs : s.length ≤ 1000000) (w : World) (ht : TabOk w) (hv : VarsOk w) :
    Calls Tryd.prog 51 #[sv s] w fun e w' => e = .returned (.tuple #[.agg (cv (Cats.parse s).1), .bool (Cats.parse s).2]) ∧ Ext w w' := by
  have hp : Cats.parse s = match Cats.readS s with | none => (Cats.zero, false) | some c => if c.text = s then (c, true) else (Cats.zero, false) := rfl
  have Hp := Lib.hid hp; clear hp
  have hrs : Cats.readS s = if s = [45] then some Cats.zero else Cats.readP Cats.zero (pieces 44 s) := rfl
  have Hrs := Lib.hid hrs; clear hrs
  obtain ⟨W, hW⟩ : ∃ W, W = (w.alloc (.cells (cv Cats.zero) 23)).alloc (.cells (cv Cats.zero) 23) := ⟨_, rfl⟩
  have b2 : Blk W w.heap.size 23 (cv Cats.zero) := by rw [hW]; exact (Blk.new w _ _).alloc _
  have b4 : Blk W (w.heap.size + 1) 23 (cv Cats.zero) := by rw [hW]; simpa using Blk.new (w.alloc (.cells (cv Cats.zero) 23)) 23 (cv Cats.zero)
  have hE : Ext w W := by rw [hW]; exact (Ext.of_alloc w _).alloc _
  by_cases h45 : s = [45]
  · have hWs := b4.lt
    have hb0 : (!s == [45]) = false := by simp [h45]
    have hS : Cats.readS s = some Cats.zero := by rw [Hrs.out, if_pos h45]
    clear h45
    go_enter Tryd.func51, Tryd.ntmps51
    obtain ⟨f1, f2, f3, f4⟩ := b4.facts 30 (cv_size _)
    obtain ⟨g1, g2, g3, g4⟩ := b2.facts 30 (cv_size _)
    go_upto_if 12 with (fail)
    rw [← hW]
    clear hW hWs
    obtain ⟨d, hd⟩ : ∃ d, d = Cats.zero := ⟨_, rfl⟩
    rw [← hd] at b4 hS f2 f3
    have Hd := Lib.hid hd; clear hd
    rename_i hh
    by_cases htx : d.text = s
    · have hfin : Cats.parse s = (d, true) := by rw [Hp.out, hS]; simp [htx]
      have Hfin := Lib.hid hfin; clear hfin hS
      have hb : (!d.text == s) = false := by simp [htx]
      clear htx
      go_wp2_with (go_at_call 50; refine (text_w d _ (ht.ext hE)).mono ?_; rintro e w9 ⟨rfl, hx9⟩; clear f1 f2 f3 f4 g1 g2 g3 g4; obtain ⟨f1, f2, f3, f4⟩ := (b4.ext hx9).facts 30 (cv_size _); obtain ⟨g1, g2, g3, g4⟩ := (b2.ext hx9).facts 30 (cv_size _))
      exact ret_cell_tmp Tryd.underlying23 rfl i23 rfl w.heap.size (cv d) (.bool true) rfl rfl (by simp [go_sem, *]) (by simp [go_sem, *]) rfl ⟨by rw [Hfin.out], (hE.trans hx9).setRow (Nat.le_refl _) _⟩
    · have hfin : Cats.parse s = (Cats.zero, false) := by rw [Hp.out, hS]; simp [htx]
      have Hfin := Lib.hid hfin; clear hfin hS
      have hb : (!d.text == s) = true := by simp [htx]
      clear htx
      go_wp2_with (go_at_call 50; refine (text_w d _ (ht.ext hE)).mono ?_; rintro e w9 ⟨rfl, hx9⟩; clear f1 f2 f3 f4 g1 g2 g3 g4; obtain ⟨f1, f2, f3, f4⟩ := (b4.ext hx9).facts 30 (cv_size _); obtain ⟨g1, g2, g3, g4⟩ := (b2.ext hx9).facts 30 (cv_size _))
      exact ret_cell_tmp Tryd.underlying23 rfl i23 rfl w.heap.size (cv Cats.zero) (.bool false) rfl rfl (by simp [go_sem, *]) (by simp [go_sem, *]) rfl ⟨by rw [Hfin.out], (hE.trans hx9).setRow (Nat.le_refl _) _⟩
  · have hb0 : (!s == [45]) = true := by simp [h45]
    have hS : Cats.readS s = Cats.readP Cats.zero (pieces 44 s) := by rw [Hrs.out, if_neg h45]
    have HS := Lib.hid hS; clear hS h45
    have hpl := pieces_len 44 s
    have hpm := pieces_mem_len 44 s
    have hsw := split_w s 44 (by omega) W (hv.ext hE)
    generalize pieces 44 s = L at *
    go_enter Tryd.func51, Tryd.ntmps51
    go_wp2_with fail
    rw [← hW]
    clear hW
    have hWs := b4.lt
    refine hsw.mono ?_
    rintro e W1 ⟨cap, rfl, hx1, hA⟩
    have hE := hE.trans hx1
    have b2 := b2.ext hx1
    have b4 := b4.ext hx1
    clear hx1 hsw
    go_wp2_with fail
    go_loopw [16] (fun s16 wr => ∃ (i : Nat) (d : Cats), i ≤ L.length ∧ s16 = .int .i64 i ∧ Ext w wr ∧ At wr (some ⟨W.heap.size, 0, none⟩) 1 (L.map svc) ∧ Blk wr w.heap.size 23 (cv Cats.zero) ∧ Blk wr (w.heap.size + 1) 23 (cv d) ∧ Cats.readS s = Cats.readP d (L.drop i)) (fun s16 _ => L.length - (intOf s16).toNat)
    case atStart => exact ⟨0, Cats.zero, by omega, rfl, hE, hA, b2, b4, HS.out⟩
    case round =>
      clear hE b2 b4 HS hA
      obtain ⟨i, d, hi, rfl, hE, hA, b2, b4, hrd⟩ := hrel
      by_cases hlt : i < L.length
      · obtain ⟨a, ha, hc⟩ := at_str hA hlt
        cases ha
        rw [add_zero_off] at hc
        rw [readP_drop hlt] at hrd
        have hpl1 : L[i].length ≤ 1000000 := Nat.le_trans (hpm _ (List.getElem_mem hlt)) hs
        generalize L[i] = p at *
        have hsb := @span_bd p
        have hsw := fun w' hx => span_w p hpl1 w' hx
        generalize (Cats.spanOf p).1 = lo at *
        generalize (Cats.spanOf p).2.1 = hi' at *
        cases hok : (Cats.spanOf p).2.2 with
        | false =>
          rw [hok] at hrd hsw
          have hfin : Cats.parse s = (Cats.zero, false) := by rw [Hp.out, hrd]; simp
          have Hfin := Lib.hid hfin; clear hfin hrd
          have Hsw := Lib.hid hsw; clear hsw hsb hok
          go_wp2_with (go_at_call 90; refine (Hsw.out _ (hv.ext hE)).mono ?_; rintro e w9 ⟨rfl, hx9⟩; obtain ⟨g1, g2, g3, g4⟩ := (b2.ext hx9).facts 30 (cv_size _))
          exact ret_cell_tmp Tryd.underlying23 rfl i23 rfl w.heap.size (cv Cats.zero) (.bool false) rfl rfl (by simp [go_sem, *]) (by simp [go_sem, *]) rfl ⟨by rw [Hfin.out], (hE.trans hx9).setRow (Nat.le_refl _) _⟩
        | true =>
          rw [hok] at hrd hsw
          obtain ⟨⟨hl0, hl1⟩, hh0, hh1⟩ := hsb hok
          rw [if_pos rfl] at hrd
          have Hrd := Lib.hid hrd; clear hrd
          have Hsw := Lib.hid hsw; clear hsw hsb hok
          go_wp2_with (go_at_call 90; refine (Hsw.out _ (hv.ext hE)).mono ?_; rintro e w9 ⟨rfl, hx9⟩)
          have hE := hE.trans hx9
          have hA := hA.ext hx9
          have b2 := b2.ext hx9
          have b4 := b4.ext hx9
          clear hx9 hc
          go_loopw [10] (fun s10 wi => ∃ (j : Nat), (j : Int) ≤ max (hi' + 1 - lo) 0 ∧ s10 = .int .i64 (lo + j) ∧ Ext w wi ∧ At wi (some ⟨W.heap.size, 0, none⟩) 1 (L.map svc) ∧ Blk wi w.heap.size 23 (cv Cats.zero) ∧ Blk wi (w.heap.size + 1) 23 (cv (Cats.addN d lo j))) (fun s10 _ => (hi' + 1 - intOf s10).toNat)
          case atStart => exact ⟨0, by omega, by simp, hE, hA, b2, b4⟩
          case round =>
            clear hE hA b2 b4
            obtain ⟨j, hj, rfl, hE, hA, b2, b4⟩ := hrel
            obtain ⟨f1, f2, f3, f4⟩ := b4.facts 30 (cv_size _)
            have hlt4 := b4.lt
            by_cases hjl : lo + j ≤ hi'
            · go_wp2_with (go_at_call 18; refine (with_w (d.addN lo j) [lo + j] _ 1 _ (by simp) (at_one_int _ _)).mono ?_; rintro e w8 ⟨rfl, hx8⟩; have hEw := (Ext.of_alloc _ _).trans hx8; clear f1 f2 f3 f4 hx8; obtain ⟨f1, f2, f3, f4⟩ := (b4.ext hEw).facts 30 (cv_size _))
              go_roundw
              case rel => exact ⟨j + 1, by omega, by simp; omega, (hE.trans hEw).setRow (by omega) _, At_setRow (hA.ext hEw) (by show W.heap.size ≠ _; omega) _, (b2.ext hEw).farRow (by omega) _, (b4.ext hEw).setRow _⟩
              case measure => simp [intOf]; omega
            · have hj2 : j = (hi' + 1 - lo).toNat := by omega
              have hadd : Cats.addN d lo j = Cats.addR d lo hi' := by rw [hj2]; rfl
              rw [hadd] at b4
              clear hj2 hadd f2
              go_wp2_with fail
              exact ⟨⟨i + 1, _, by omega, by go_num, hE, hA, b2, b4, Hrd.out⟩, by simp [intOf]; omega⟩
      · obtain rfl : i = L.length := by omega
        have hS : Cats.readS s = some d := by rw [hrd]; simp [Cats.readP]
        clear hrd
        obtain ⟨f1, f2, f3, f4⟩ := b4.facts 30 (cv_size _)
        obtain ⟨g1, g2, g3, g4⟩ := b2.facts 30 (cv_size _)
        by_cases htx : d.text = s
        · have hfin : Cats.parse s = (d, true) := by rw [Hp.out, hS]; simp [htx]
          have Hfin := Lib.hid hfin; clear hfin hS
          have hb : (!d.text == s) = false := by simp [htx]
          clear htx
          go_wp2_with (go_at_call 50; refine (text_w d _ (ht.ext hE)).mono ?_; rintro e w9 ⟨rfl, hx9⟩; clear f1 f2 f3 f4 g1 g2 g3 g4; obtain ⟨f1, f2, f3, f4⟩ := (b4.ext hx9).facts 30 (cv_size _); obtain ⟨g1, g2, g3, g4⟩ := (b2.ext hx9).facts 30 (cv_size _))
          exact ret_cell_tmp Tryd.underlying23 rfl i23 rfl w.heap.size (cv d) (.bool true) rfl rfl (by simp [go_sem, *]) (by simp [go_sem, *]) rfl ⟨by rw [Hfin.out], (hE.trans hx9).setRow (Nat.le_refl _) _⟩
        · have hfin : Cats.parse s = (Cats.zero, false) := by rw [Hp.out, hS]; simp [htx]
          have Hfin := Lib.hid hfin; clear hfin hS
          have hb : (!d.text == s) = true := by simp [htx]
          clear htx
          go_wp2_with (go_at_call 50; refine (text_w d _ (ht.ext hE)).mono ?_; rintro e w9 ⟨rfl, hx9⟩; clear f1 f2 f3 f4 g1 g2 g3 g4; obtain ⟨f1, f2, f3, f4⟩ := (b4.ext hx9).facts 30 (cv_size _); obtain ⟨g1, g2, g3, g4⟩ := (b2.ext hx9).facts 30 (cv_size _))
          exact ret_cell_tmp Tryd.underlying23 rfl i23 rfl w.heap.size (cv Cats.zero) (.bool false) rfl rfl (by simp [go_sem, *]) (by simp [go_sem, *]) rfl ⟨by rw [Hfin.out], (hE.trans hx9).setRow (Nat.le_refl _) _⟩
end Go.Proofs.YtpgpfcdkkhfemaaDoor
