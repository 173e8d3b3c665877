import Derived.Test.YtpgpfcdkkhfemaaDoorWCats2
import Derived.Test.YtpgpfcdkkhfemaaDoorText
import Derived.Lib.AppendIntMem
open Go.RowKit Go.Reg Go.Gu
namespace Go.Proofs.YtpgpfcdkkhfemaaDoor
set_option linter.unusedSimpArgs false
set_option linter.unusedVariables false
set_option maxHeartbeats 4000000
/-- The table that strconv.Itoa reads. -/
def TabOk (w : World) : Prop := Lib.TabIs Tryd.prog w "internal/strconv.uint64pow10" .u64 Lib.pow10Tab
theorem TabOk.ext {w w' : World} (h : TabOk w) (he : Ext w w') : TabOk w' := Lib.tabBelow_of_tabIs h w' he
theorem TabOk.drew {w : World} (h : TabOk w) : TabOk w.drew := h.ext (Ext.refl w).drew
/-- A text as a value. -/
abbrev sv (l : List UInt8) : Value := .string ⟨l.toArray⟩
theorem itoa_w (n : Int) (h0 : -9223372036854775808 ≤ n) (h1 : n ≤ 9223372036854775807) (w : World) (ht : TabOk w) :
    Calls Tryd.prog 84 #[.int .i64 n] w fun e w' => e = .returned (sv (Lib.itoa n)) ∧ Ext w w' :=
  (Tryd.strconv_Itoa n h0 h1 w ht).mono fun _ _ ⟨he, k, os, hw⟩ => ⟨he, by rw [hw]; exact Lib.below_grow _ w (Nat.le_refl _) k os⟩
attribute [go_sem] ba_append
/-! cats.run -/
set_option maxRecDepth 100000 in
theorem run_w (lo hi : Int) (h0 : 0 ≤ lo) (h1 : lo ≤ hi) (h2 : hi ≤ 1000) (w : World) (ht : TabOk w) :
    Calls Tryd.prog 89 #[.int .i64 lo, .int .i64 hi] w fun e w' => e = .returned (sv (runText (lo, hi))) ∧ Ext w w' := by
  by_cases e0 : hi - lo = 0
  · obtain rfl : hi = lo := by omega
    have ht1 : runText (hi, hi) = Lib.itoa hi := by simp [runText]
    have Ht := Lib.hid ht1; clear ht1
    clear e0
    go_enter Tryd.func89, Tryd.ntmps89
    go_wp2_with (go_at_call 84; refine (itoa_w hi (by omega) (by omega) _ ht).mono ?_; rintro e w1 ⟨rfl, hx⟩)
    go_ret
    exact ⟨by rw [Ht.out]; rfl, hx⟩
  · have hn0 : ((hi - lo) == 0) = false := by simpa using e0
    by_cases e1 : hi - lo = 1
    · have hn1 : ((hi - lo) == 1) = true := by simpa using e1
      have ht1 : runText (lo, hi) = Lib.itoa lo ++ [44] ++ Lib.itoa hi := by simp [runText, e1]
      have Ht := Lib.hid ht1; clear ht1
      clear e0 e1
      have hl1 := itoa_len h0
      have hl2 := itoa_len (show 0 ≤ hi by omega)
      go_enter Tryd.func89, Tryd.ntmps89
      go_wp2_with (first | (go_at_call_of 84 (Value.int IntKind.i64 lo); refine (itoa_w lo (by omega) (by omega) _ ht).mono ?_; rintro e w1 ⟨rfl, hx⟩; have ht2 := ht.ext hx) | (go_at_call 84; refine (itoa_w hi (by omega) (by omega) _ ht2).mono ?_; rintro e w2 ⟨rfl, hx2⟩))
      go_ret
      exact ⟨by rw [Ht.out]; simp, hx.trans hx2⟩
    · have hn1 : ((hi - lo) == 1) = false := by simpa using e1
      have ht1 : runText (lo, hi) = Lib.itoa lo ++ [45] ++ Lib.itoa hi := by simp [runText, e0, e1]
      have Ht := Lib.hid ht1; clear ht1
      clear e0 e1
      have hl1 := itoa_len h0
      have hl2 := itoa_len (show 0 ≤ hi by omega)
      go_enter Tryd.func89, Tryd.ntmps89
      go_wp2_with (first | (go_at_call_of 84 (Value.int IntKind.i64 lo); refine (itoa_w lo (by omega) (by omega) _ ht).mono ?_; rintro e w1 ⟨rfl, hx⟩; have ht2 := ht.ext hx) | (go_at_call 84; refine (itoa_w hi (by omega) (by omega) _ ht2).mono ?_; rintro e w2 ⟨rfl, hx2⟩))
      go_ret
      exact ⟨by rw [Ht.out]; simp, hx.trans hx2⟩
/-! cats.Text -/
theorem ownR_row {B : Nat} {w : World} {t : TypeId} {v : Value} {es : List (Array Value)} (h : OwnR B w t 1 v es) (hne : es ≠ []) : ∃ g cap, v = .slice (some ⟨g, 0, none⟩) es.length cap ∧ es.length ≤ cap ∧ g < w.heap.size ∧ ∀ (j : Nat) u, es[j]? = some #[u] → w.cell? ⟨g, j, none⟩ = some u := by
  obtain ⟨⟨hlen, hv⟩, hs⟩ := h
  rcases hv with ⟨rfl, h0⟩ | ⟨g, cap, cur, rfl, hg, hh, h1, h2, h3, h4⟩
  · exact absurd (List.length_eq_zero_iff.1 h0) hne
  · refine ⟨g, cap, rfl, by omega, (Array.getElem?_eq_some_iff.1 hh).1, fun j u hj => ?_⟩
    have hf := flat_get (j := 0) hs hj (u := u) rfl
    rw [← h4, List.getElem?_take] at hf
    split at hf
    · rw [cell_of_row w g _ cur t (0, 0) hh]; simpa using hf
    · cases hf
def svc (l : List UInt8) : Array Value := #[sv l]
theorem svc_ones (l : List UInt8) : ones (svc l) := by intro v hv; simp [svc] at hv; subst hv; rfl
theorem inf_str : (Tryd.prog.info? 9).map (fun i => (i.zero, i.size, i.bytes)) = some (some (.string ⟨#[]⟩), 1, 16) := by kernel_rfl
theorem list_bd (c : Cats) : ∀ x ∈ c.list, 0 ≤ x ∧ x ≤ 239 := by
  have : ∀ k : Nat, k ≤ 240 → ∀ x ∈ c.listTo k, 0 ≤ x ∧ x ≤ 239 := by
    intro k
    induction k with
    | zero => intro _ x hx; simp [Cats.listTo] at hx
    | succ k ih =>
      intro hk x hx
      rw [Cats.listTo_succ] at hx
      split at hx
      · rcases List.mem_append.1 hx with h | h
        · exact ih (by omega) x h
        · simp at h; omega
      · exact ih (by omega) x hx
  exact this 240 (Nat.le_refl _)
set_option maxRecDepth 100000 in
theorem text_w (c : Cats) (w : World) (ht : TabOk w) : Calls Tryd.prog 50 #[.agg (cv c)] w fun e w' => e = .returned (sv c.text) ∧ Ext w w' := by
  go_enter Tryd.func50, Tryd.ntmps50
  go_wp2_with (go_at_call 23; refine (list_w c _).mono ?_; rintro e W ⟨v, rfl, hx, hown⟩)
  have hEW : Ext w W := (Ext.of_alloc w _).trans hx
  have htW := ht.ext hEW
  obtain ⟨A, cap, rfl, hAt⟩ := hown.sl
  clear hown hx
  have hlen : c.list.length ≤ 240 := c.listTo_le 240
  have hbd := list_bd c
  have htext : c.text = if runs c.list = [] then [45] else Lib.join ((runs c.list).map runText) [44] := rfl
  have Htext := Lib.hid htext; clear htext
  generalize c.list = L at *
  rw [List.length_map] at *
  obtain ⟨g, hg⟩ : ∃ g : Nat → Int, ∀ k (h : k < L.length), L[k] = g k := ⟨fun k => L.getD k 0, fun k h => by simp [h]⟩
  have hgb : ∀ k, k < L.length → 0 ≤ g k ∧ g k ≤ 239 := fun k h => by rw [← hg k h]; exact hbd _ (List.getElem_mem h)
  have hdrop : ∀ i, i < L.length → runs (L.drop i) = runsFrom (g i) (g i) (L.drop (i + 1)) := fun i h => by rw [runs_drop h, hg i h]
  have hstep : ∀ lo k, k + 1 < L.length → g (k + 1) = g k + 1 → runsFrom lo (g k) (L.drop (k + 1)) = runsFrom lo (g (k + 1)) (L.drop (k + 2)) := fun lo k h he => by
    have := runsFrom_step (lo := lo) h (by rw [hg _ h, hg k (by omega)]; exact he)
    rw [hg _ h, hg k (by omega)] at this; exact this
  have hstop : ∀ lo k, k < L.length → (k + 1 < L.length → g (k + 1) ≠ g k + 1) → runsFrom lo (g k) (L.drop (k + 1)) = (lo, g k) :: runs (L.drop (k + 1)) := fun lo k h0 he => by
    by_cases h : k + 1 < L.length
    · have := runsFrom_stop (lo := lo) h (by rw [hg _ h, hg k (by omega)]; exact he h)
      rw [hg k (by omega)] at this; exact this
    · exact runsFrom_end (by omega)
  have hcell : ∀ wr, Ext W wr → ∀ k, k < L.length → ∃ a, A = some a ∧ wr.cell? (a.add k) = some (.int .i64 (g k)) := fun wr hE k h => by
    obtain ⟨a, h1, h2⟩ := (hAt.ext hE).int h
    exact ⟨a, h1, by rw [← hg k h]; exact h2⟩
  have Hdrop := Lib.hid hdrop; clear hdrop
  have Hstep := Lib.hid hstep; clear hstep
  have Hstop := Lib.hid hstop; clear hstop
  have Hcell := Lib.hid hcell; clear hcell
  have Hgb := Lib.hid hgb; clear hgb
  clear hg hbd hAt
  go_loopw [3, 5] (fun s3 s5 wr => ∃ (i : Nat) (ps : List (List UInt8)), i ≤ L.length ∧ s5 = .int .i64 i ∧ Ext W wr ∧ OwnR W.heap.size wr 9 1 s3 (ps.map svc) ∧ ps.length ≤ i ∧ (∀ p ∈ ps, p.length ≤ 3000) ∧ ps ++ (runs (L.drop i)).map runText = (runs L).map runText) (fun _ s5 _ => L.length - (intOf s5).toNat)
  case atStart => exact ⟨0, [], by omega, rfl, Ext.refl _, OwnR.nil _ _ _ _, by simp, by simp, by simp⟩
  case round =>
    obtain ⟨i, ps, hi, rfl, hE, hown, hps, hpl, hrun⟩ := hrel
    have Hrun := Lib.hid hrun; clear hrun
    by_cases hlt : i < L.length
    · go_wp2_with fail
      obtain ⟨ad, rfl, _⟩ := Hcell.out W (Ext.refl _) i hlt
      go_loopw [6] (fun s6 wi => ∃ k : Nat, i ≤ k ∧ k < L.length ∧ s6 = .int .i64 k ∧ Ext wr wi ∧ g i ≤ g k ∧ runsFrom (g i) (g k) (L.drop (k + 1)) = runs (L.drop i)) (fun s6 _ => L.length - (intOf s6).toNat)
      case atStart => exact ⟨i, by omega, hlt, rfl, Ext.refl _, Int.le_refl _, (Hdrop.out i hlt).symm⟩
      case round =>
        obtain ⟨k, hik, hk, rfl, hEi, hgle, hrf⟩ := hrel
        have Hrf := Lib.hid hrf; clear hrf
        have hE1 := hE.trans hEi
        have hgk := Hgb.out k hk
        have hgi := Hgb.out i hlt
        obtain ⟨hgk0, hgk1⟩ := hgk
        obtain ⟨hgi0, hgi1⟩ := hgi
        by_cases hn : k + 1 < L.length
        · obtain ⟨hgn0, hgn1⟩ := Hgb.out (k + 1) hn
          by_cases he : g (k + 1) = g k + 1
          · have heb : (g (k + 1) == g k + 1) = true := by simpa using he
            have He := Lib.hid he; clear he
            go_wp2_with fail
            refine wp_region_by (R := Ext) [([(6, none)], none), ([(14, some 0)], none), ([(4, none)], none), ([(16, some 2)], none), ([(15, some 1), (17, some 3)], none), ([(18, some 4)], none), ([(4, none), (19, some 5)], some (19, true)), ([(6, none), (19, some 5)], some (19, true)), ([(21, some 7), (19, some 5)], some (19, true)), ([(20, some 6), (22, some 8), (19, some 5)], some (19, true)), ([(23, some 9), (19, some 5)], some (19, true)), ([(4, none), (19, some 5)], some (19, true)), ([(6, none), (19, some 5)], some (19, true)), ([(25, some 11), (26, some 12), (19, some 5)], some (19, true)), ([(27, some 13), (19, some 5)], some (19, true)), ([(28, some 14), (19, some 5)], some (19, true))]
              [.ex ?r5v0, .ex ?r5v1, .ex ?r5v2, .ex ?r5v3, .ex ?r5v4, .ex ?r5v5, .ex ?r5v6, .ex ?r5v7, .ex ?r5v8, .ex ?r5v9, .ex ?r5v10, .ex ?r5v11, .ex ?r5v12, .ex ?r5v13, .ex ?r5v14, .ex ?r5v15]
              (by kernel_rfl) (fun _ _ _ h1 h2 => h1.trans h2) (fun _ _ h => h.size) (Ext.refl _) rfl (by kernel_rfl) ?r5st (And.intro ?r5o0 (And.intro ?r5o1 (And.intro ?r5o2 (And.intro ?r5o3 (And.intro ?r5o4 (And.intro ?r5o5 (And.intro ?r5o6 (And.intro ?r5o7 (And.intro ?r5o8 (And.intro ?r5o9 (And.intro ?r5o10 (And.intro ?r5o11 (And.intro ?r5o12 (And.intro ?r5o13 (And.intro ?r5o14 (And.intro ?r5o15 trivial)))))))))))))))) ?r5fin
            case r5o0 | r5o1 | r5o2 | r5o3 | r5o4 | r5o5 | r5o6 | r5o7 | r5o8 | r5o9 | r5o10 | r5o11 | r5o12 | r5o13 | r5o14 | r5o15 =>
              intro a w1 K hR hE hK; simp [go_sem, EnvF, Sp.says, mk, Act.eval] at hE; obtain ⟨a1, ha1, hc1⟩ := Hcell.out _ (hE1.drew.trans hR) k hk; cases ha1; obtain ⟨a2, ha2, hc2⟩ := Hcell.out _ (hE1.drew.trans hR) (k + 1) hn; cases ha2; rw [show ad.add (k + 1) = ⟨ad.block, ad.off + (k + 1), none⟩ from by simp [Addr.add]] at hc2; dsimp only [Runs]; go_simp; try go_bits
              go_wp2_with fail
              exact hK _ (Ext.refl _)
            case r5st => simp only [StOk]
            case r5fin =>
              simp only [FinR, mk, Act.put, List.length_cons, List.length_nil, Nat.reduceAdd, Nat.zero_add, List.drop_succ_cons, List.drop_zero, List.setIfInBounds_toArray, List.set_cons_succ, List.set_cons_zero]
              intro w1 hR _ _
              go_wp2_with fail
              go_roundw
              case rel => exact ⟨k + 1, by omega, hn, by go_num, hEi.drew.trans hR, by have := He.out; omega, by rw [← Hrf.out]; exact (Hstep.out _ k hn He.out).symm⟩
              case measure => simp [intOf]; omega
          · have heb : (g (k + 1) == g k + 1) = false := by simpa using he
            have He := Lib.hid he; clear he
            go_wp2_with fail
            refine wp_region_by (R := Ext) [([(6, none)], none), ([(14, some 0)], none), ([(4, none)], none), ([(16, some 2)], none), ([(15, some 1), (17, some 3)], none), ([(18, some 4)], none), ([(4, none), (19, some 5)], some (19, true)), ([(6, none), (19, some 5)], some (19, true)), ([(21, some 7), (19, some 5)], some (19, true)), ([(20, some 6), (22, some 8), (19, some 5)], some (19, true)), ([(23, some 9), (19, some 5)], some (19, true)), ([(4, none), (19, some 5)], some (19, true)), ([(6, none), (19, some 5)], some (19, true)), ([(25, some 11), (26, some 12), (19, some 5)], some (19, true)), ([(27, some 13), (19, some 5)], some (19, true)), ([(28, some 14), (19, some 5)], some (19, true))]
              [.ex ?r4v0, .ex ?r4v1, .ex ?r4v2, .ex ?r4v3, .ex ?r4v4, .ex ?r4v5, .ex ?r4v6, .ex ?r4v7, .ex ?r4v8, .ex ?r4v9, .ex ?r4v10, .ex ?r4v11, .ex ?r4v12, .ex ?r4v13, .ex ?r4v14, .ex ?r4v15]
              (by kernel_rfl) (fun _ _ _ h1 h2 => h1.trans h2) (fun _ _ h => h.size) (Ext.refl _) rfl (by kernel_rfl) ?r4st (And.intro ?r4o0 (And.intro ?r4o1 (And.intro ?r4o2 (And.intro ?r4o3 (And.intro ?r4o4 (And.intro ?r4o5 (And.intro ?r4o6 (And.intro ?r4o7 (And.intro ?r4o8 (And.intro ?r4o9 (And.intro ?r4o10 (And.intro ?r4o11 (And.intro ?r4o12 (And.intro ?r4o13 (And.intro ?r4o14 (And.intro ?r4o15 trivial)))))))))))))))) ?r4fin
            case r4o0 | r4o1 | r4o2 | r4o3 | r4o4 | r4o5 | r4o6 | r4o7 | r4o8 | r4o9 | r4o10 | r4o11 | r4o12 | r4o13 | r4o14 | r4o15 =>
              intro a w1 K hR hE hK; simp [go_sem, EnvF, Sp.says, mk, Act.eval] at hE; obtain ⟨a1, ha1, hc1⟩ := Hcell.out _ (hE1.drew.trans hR) k hk; cases ha1; obtain ⟨a2, ha2, hc2⟩ := Hcell.out _ (hE1.drew.trans hR) (k + 1) hn; cases ha2; rw [show ad.add (k + 1) = ⟨ad.block, ad.off + (k + 1), none⟩ from by simp [Addr.add]] at hc2; dsimp only [Runs]; go_simp; try go_bits
              go_wp2_with fail
              exact hK _ (Ext.refl _)
            case r4st => simp only [StOk]
            case r4fin =>
              simp only [FinR, mk, Act.put, List.length_cons, List.length_nil, Nat.reduceAdd, Nat.zero_add, List.drop_succ_cons, List.drop_zero, List.setIfInBounds_toArray, List.set_cons_succ, List.set_cons_zero]
              intro w1 hR _ _
              have hE8 : Ext W w1 := hE1.drew.trans hR
              have hown1 := hown.ext (hEi.drew.trans hR)
              clear hR hE1 hown
              go_wp2_with fail
              refine wp_region_by (R := Ext) [([(3, none)], none), ([(4, none)], none), ([(5, none)], none), ([(35, some 1), (36, some 2)], none), ([(37, some 3)], none), ([(4, none)], none), ([(6, none)], none), ([(39, some 5), (40, some 6)], none), ([(41, some 7)], none), ([(38, some 4), (42, some 8)], none), ([(43, some 9)], none)]
                [.ex ?r3v0, .ex ?r3v1, .ex ?r3v2, .ex ?r3v3, .ex ?r3v4, .ex ?r3v5, .ex ?r3v6, .ex ?r3v7, .ex ?r3v8, .ex ?r3v9, .un (PSl 1 [svc (runText (g i, g k))]) true]
                (by kernel_rfl) (fun _ _ _ h1 h2 => h1.trans h2) (fun _ _ h => h.size) (Ext.refl _) rfl (by kernel_rfl) ?r3st (And.intro ?r3o0 (And.intro ?r3o1 (And.intro ?r3o2 (And.intro ?r3o3 (And.intro ?r3o4 (And.intro ?r3o5 (And.intro ?r3o6 (And.intro ?r3o7 (And.intro ?r3o8 (And.intro ?r3o9 (And.intro ?r3o10 trivial))))))))))) ?r3fin
              case r3o0 | r3o1 | r3o2 | r3o3 | r3o4 | r3o5 | r3o6 | r3o7 | r3o8 =>
                intro a w1 K hR hE hK; simp [go_sem, EnvF, Sp.says, mk, Act.eval] at hE; obtain ⟨a1, ha1, hc1⟩ := Hcell.out _ (hE8.drew.trans hR) k hk; cases ha1; obtain ⟨a2, ha2, hc2⟩ := Hcell.out _ (hE8.drew.trans hR) i (by omega); cases ha2; dsimp only [Runs]; go_simp; try go_bits
                go_wp2_with fail
                exact hK _ (Ext.refl _)
              case r3o9 =>
                intro a w1 K hR hE hK; simp [go_sem, EnvF, Sp.says, mk, Act.eval] at hE; obtain ⟨a1, ha1, hc1⟩ := Hcell.out _ (hE8.drew.trans hR) k hk; cases ha1; obtain ⟨a2, ha2, hc2⟩ := Hcell.out _ (hE8.drew.trans hR) i (by omega); cases ha2; dsimp only [Runs]; go_simp; try go_bits
                go_wp2_with fail
                refine (run_w _ _ hgi0 hgle (by omega) _ (htW.ext (hE8.drew.trans hR))).mono ?_; rintro e w' ⟨rfl, hx⟩; exact hK _ hx
              case r3o10 =>
                intro a w1 K hR hE hK; simp [go_sem, EnvF, Sp.says, mk, Act.eval] at hE; obtain ⟨a1, ha1, hc1⟩ := Hcell.out _ (hE8.drew.trans hR) k hk; cases ha1; obtain ⟨a2, ha2, hc2⟩ := Hcell.out _ (hE8.drew.trans hR) i (by omega); cases ha2; dsimp only [Runs]; go_simp; try go_bits
                go_wp2_with fail
                exact hK _ _ (Ext.of_alloc _ _) (Sl.one w1 _ (svc (runText (g i, g k)))) (fun _ => Fr.slice _ _ _ _)
              case r3st => simp only [StOk]; exact ⟨PSl.st, trivial⟩
              case r3fin =>
                simp only [FinR, mk, Act.put, List.length_cons, List.length_nil, Nat.reduceAdd, Nat.zero_add, List.drop_succ_cons, List.drop_zero, List.setIfInBounds_toArray, List.set_cons_succ, List.set_cons_zero]
                intro v w2 hR hF _
                have hsl := hF.2
                have hE9 := hE8.drew.trans hR
                have hown2 := hown1.drew.ext hR
                clear hF hR hown1 hE8
                go_wp2_with (at_builtin; refine wpList_append_sl rfl (.tmp 34) (.tmp 44) 119 rfl Tryd.underlying119 inf_str rfl (by decide) W hown2 hE9 rfl rfl hsl (svc_ones _) rfl ?_ ?_ ?_)
                · simp; omega
                · simp [maxLen]; omega
                intro v' w' ho' hE'
                go_wp2_with fail
                refine ⟨⟨k + 1, ps ++ [runText (g i, g k)], by omega, by go_num, hE', by simpa using ho', by simp; omega, ?_, ?_⟩, by simp [intOf]; omega⟩
                · intro p hp
                  rcases List.mem_append.1 hp with h | h
                  · exact hpl p h
                  · simp at h; subst h
                    exact runText_len _ (by omega) (by simp; omega) (by simp; omega) (by simp; omega)
                · rw [← Hrun.out, ← Hrf.out, Hstop.out _ k hk (fun _ => He.out)]
                  simp
        ·
          go_wp2_with fail
          refine wp_region_by (R := Ext) [([(6, none)], none), ([(14, some 0)], none), ([(4, none)], none), ([(16, some 2)], none), ([(15, some 1), (17, some 3)], none), ([(18, some 4)], none), ([(4, none), (19, some 5)], some (19, true)), ([(6, none), (19, some 5)], some (19, true)), ([(21, some 7), (19, some 5)], some (19, true)), ([(20, some 6), (22, some 8), (19, some 5)], some (19, true)), ([(23, some 9), (19, some 5)], some (19, true)), ([(4, none), (19, some 5)], some (19, true)), ([(6, none), (19, some 5)], some (19, true)), ([(25, some 11), (26, some 12), (19, some 5)], some (19, true)), ([(27, some 13), (19, some 5)], some (19, true)), ([(28, some 14), (19, some 5)], some (19, true))]
            [.ex ?r2v0, .ex ?r2v1, .ex ?r2v2, .ex ?r2v3, .ex ?r2v4, .ex ?r2v5, .ex ?r2v6, .ex ?r2v7, .ex ?r2v8, .ex ?r2v9, .ex ?r2v10, .ex ?r2v11, .ex ?r2v12, .ex ?r2v13, .ex ?r2v14, .ex ?r2v15]
            (by kernel_rfl) (fun _ _ _ h1 h2 => h1.trans h2) (fun _ _ h => h.size) (Ext.refl _) rfl (by kernel_rfl) ?r2st (And.intro ?r2o0 (And.intro ?r2o1 (And.intro ?r2o2 (And.intro ?r2o3 (And.intro ?r2o4 (And.intro ?r2o5 (And.intro ?r2o6 (And.intro ?r2o7 (And.intro ?r2o8 (And.intro ?r2o9 (And.intro ?r2o10 (And.intro ?r2o11 (And.intro ?r2o12 (And.intro ?r2o13 (And.intro ?r2o14 (And.intro ?r2o15 trivial)))))))))))))))) ?r2fin
          case r2o0 | r2o1 | r2o2 | r2o3 | r2o4 | r2o5 | r2o6 | r2o7 | r2o8 | r2o9 | r2o10 | r2o11 | r2o12 | r2o13 | r2o14 | r2o15 =>
            intro a w1 K hR hE hK; simp [go_sem, EnvF, Sp.says, mk, Act.eval] at hE; dsimp only [Runs]; go_simp; try go_bits
            go_wp2_with fail
            exact hK _ (Ext.refl _)
          case r2st => simp only [StOk]
          case r2fin =>
            simp only [FinR, mk, Act.put, List.length_cons, List.length_nil, Nat.reduceAdd, Nat.zero_add, List.drop_succ_cons, List.drop_zero, List.setIfInBounds_toArray, List.set_cons_succ, List.set_cons_zero]
            intro w1 hR _ _
            have hE8 : Ext W w1 := hE1.drew.trans hR
            have hown1 := hown.ext (hEi.drew.trans hR)
            clear hR hE1 hown
            go_wp2_with fail
            refine wp_region_by (R := Ext) [([(3, none)], none), ([(4, none)], none), ([(5, none)], none), ([(35, some 1), (36, some 2)], none), ([(37, some 3)], none), ([(4, none)], none), ([(6, none)], none), ([(39, some 5), (40, some 6)], none), ([(41, some 7)], none), ([(38, some 4), (42, some 8)], none), ([(43, some 9)], none)]
              [.ex ?r1v0, .ex ?r1v1, .ex ?r1v2, .ex ?r1v3, .ex ?r1v4, .ex ?r1v5, .ex ?r1v6, .ex ?r1v7, .ex ?r1v8, .ex ?r1v9, .un (PSl 1 [svc (runText (g i, g k))]) true]
              (by kernel_rfl) (fun _ _ _ h1 h2 => h1.trans h2) (fun _ _ h => h.size) (Ext.refl _) rfl (by kernel_rfl) ?r1st (And.intro ?r1o0 (And.intro ?r1o1 (And.intro ?r1o2 (And.intro ?r1o3 (And.intro ?r1o4 (And.intro ?r1o5 (And.intro ?r1o6 (And.intro ?r1o7 (And.intro ?r1o8 (And.intro ?r1o9 (And.intro ?r1o10 trivial))))))))))) ?r1fin
            case r1o0 | r1o1 | r1o2 | r1o3 | r1o4 | r1o5 | r1o6 | r1o7 | r1o8 =>
              intro a w1 K hR hE hK; simp [go_sem, EnvF, Sp.says, mk, Act.eval] at hE; obtain ⟨a1, ha1, hc1⟩ := Hcell.out _ (hE8.drew.trans hR) k hk; cases ha1; obtain ⟨a2, ha2, hc2⟩ := Hcell.out _ (hE8.drew.trans hR) i (by omega); cases ha2; dsimp only [Runs]; go_simp; try go_bits
              go_wp2_with fail
              exact hK _ (Ext.refl _)
            case r1o9 =>
              intro a w1 K hR hE hK; simp [go_sem, EnvF, Sp.says, mk, Act.eval] at hE; obtain ⟨a1, ha1, hc1⟩ := Hcell.out _ (hE8.drew.trans hR) k hk; cases ha1; obtain ⟨a2, ha2, hc2⟩ := Hcell.out _ (hE8.drew.trans hR) i (by omega); cases ha2; dsimp only [Runs]; go_simp; try go_bits
              go_wp2_with fail
              refine (run_w _ _ hgi0 hgle (by omega) _ (htW.ext (hE8.drew.trans hR))).mono ?_; rintro e w' ⟨rfl, hx⟩; exact hK _ hx
            case r1o10 =>
              intro a w1 K hR hE hK; simp [go_sem, EnvF, Sp.says, mk, Act.eval] at hE; obtain ⟨a1, ha1, hc1⟩ := Hcell.out _ (hE8.drew.trans hR) k hk; cases ha1; obtain ⟨a2, ha2, hc2⟩ := Hcell.out _ (hE8.drew.trans hR) i (by omega); cases ha2; dsimp only [Runs]; go_simp; try go_bits
              go_wp2_with fail
              exact hK _ _ (Ext.of_alloc _ _) (Sl.one w1 _ (svc (runText (g i, g k)))) (fun _ => Fr.slice _ _ _ _)
            case r1st => simp only [StOk]; exact ⟨PSl.st, trivial⟩
            case r1fin =>
              simp only [FinR, mk, Act.put, List.length_cons, List.length_nil, Nat.reduceAdd, Nat.zero_add, List.drop_succ_cons, List.drop_zero, List.setIfInBounds_toArray, List.set_cons_succ, List.set_cons_zero]
              intro v w2 hR hF _
              have hsl := hF.2
              have hE9 := hE8.drew.trans hR
              have hown2 := hown1.drew.ext hR
              clear hF hR hown1 hE8
              go_wp2_with (at_builtin; refine wpList_append_sl rfl (.tmp 34) (.tmp 44) 119 rfl Tryd.underlying119 inf_str rfl (by decide) W hown2 hE9 rfl rfl hsl (svc_ones _) rfl ?_ ?_ ?_)
              · simp; omega
              · simp [maxLen]; omega
              intro v' w' ho' hE'
              go_wp2_with fail
              refine ⟨⟨k + 1, ps ++ [runText (g i, g k)], by omega, by go_num, hE', by simpa using ho', by simp; omega, ?_, ?_⟩, by simp [intOf]; omega⟩
              · intro p hp
                rcases List.mem_append.1 hp with h | h
                · exact hpl p h
                · simp at h; subst h
                  exact runText_len _ (by omega) (by simp; omega) (by simp; omega) (by simp; omega)
              · rw [← Hrun.out, ← Hrf.out, Hstop.out _ k hk (fun h => absurd h hn)]
                simp
    · obtain rfl : i = L.length := by omega
      have hps2 : ps = (runs L).map runText := by rw [← Hrun.out]; simp [runs]
      by_cases hn : ps = []
      · subst hn
        obtain ⟨A', cap', rfl, _⟩ := hown.sl
        have hr : runs L = [] := by simpa using hps2.symm
        simp only [List.map_nil, List.length_nil]
        go_wp2_with fail
        go_ret
        exact ⟨by rw [Htext.out, if_pos hr]; rfl, hEW.trans hE⟩
      · obtain ⟨g', cap', rfl, hcap, hg', hcells⟩ := ownR_row hown (by simpa using hn)
        rw [List.length_map] at hcap ⊢
        have hr : runs L ≠ [] := fun h => hn (by rw [hps2, h]; rfl)
        have hpos : 0 < ps.length := List.length_pos_iff.2 hn
        have hj := join_len [44] 3000 ps hpl
        have hjoin := Tryd.strings_Join g' 0 cap' (ps.map fun p => ⟨p.toArray⟩) ⟨#[44]⟩ wr (fun j x hx => by
          rw [Nat.zero_add]
          simp only [List.getElem?_map, Option.map_eq_some_iff] at hx
          obtain ⟨p, hp, rfl⟩ := hx
          exact hcells j _ (by simp [hp, svc])) hg' (by simp; omega) (by simpa using hcap) (by simp at hj; simp [Function.comp_def]; omega)
        rw [List.length_map] at hjoin
        have Hjoin := Lib.hid hjoin; clear hjoin
        clear hcells hj
        have Hps2 := Lib.hid hps2; clear hps2
        go_wp2_with (go_at_call 85; refine Hjoin.out.mono ?_; rintro e w' ⟨rfl, hx⟩)
        go_ret
        refine ⟨?_, (hEW.trans hE).trans hx⟩
        rw [Htext.out, if_neg hr, ← Hps2.out]
        simp [Function.comp_def]
end Go.Proofs.YtpgpfcdkkhfemaaDoor
