/- addr.bytes, addr.Text, addr.number, addr.Parse, addr.Kind; the document's own. -/
import Derived.Test.YtpgpfcdkkhfemaaDoorWTexts
import Derived.Test.YtpgpfcdkkhfemaaDoorAddr
import Derived.Lib.EndianBits
import Derived.Deep.DeepCutAuto
open Go.RowKit Go.Reg Go.Gu
namespace Go.Proofs.YtpgpfcdkkhfemaaDoor
set_option linter.unusedSimpArgs false
set_option linter.unusedVariables false
set_option maxHeartbeats 1000000
def bv4 (a : Int) : Array Value := #[.int .u8 (a / 16777216 % 256), .int .u8 (a / 65536 % 256), .int .u8 (a / 256 % 256), .int .u8 (a % 256)]
theorem iB4 : (Tryd.prog.info? 123).map (·.size) = some 4 := by kernel_rfl
@[go_sem ↓] theorem loadAB4 (ρ : Operand → Value) (dst : Option Tmp) (x : Operand) (t : TypeId) (pos : String) (aft : Array Edge) (gd : Option (Nat × Bool)) (w : World) (h1 : isPtr (ρ x) = true) (h2 : atP w (addrOf (ρ x)) 4) :
    (execOp ρ ⟨dst, .load 123 x, t, pos, aft, gd⟩).run Tryd.prog w = .ok (.value (.agg (cellsAt w (addrOf (ρ x)) 4))) w := exec_loadA Tryd.underlying123 rfl iB4 ρ dst x t pos aft gd w h1 h2
@[go_sem ↓] theorem loadVB4 (ρ : Operand → Value) (dst : Option Tmp) (x : Operand) (t : TypeId) (pos : String) (aft : Array Edge) (gd : Option (Nat × Bool)) (w : World) (h1 : isPtr (ρ x) = true) (h0 : (addrOf (ρ x)).off = 0) (h3 : (addrOf (ρ x)).spot = none) (h2 : isV w (addrOf (ρ x)).block 123 4) :
    (execOp ρ ⟨dst, .load 123 x, t, pos, aft, gd⟩).run Tryd.prog w = .ok (.value (.agg (row w (addrOf (ρ x)).block))) w := exec_loadV Tryd.underlying123 rfl iB4 ρ dst x t pos aft gd w h1 h0 h3 h2
@[go_sem ↓] theorem storeVB4 (ρ : Operand → Value) (dst : Option Tmp) (x y : Operand) (t : TypeId) (pos : String) (aft : Array Edge) (gd : Option (Nat × Bool)) (w : World) (h1 : isPtr (ρ x) = true) (h0 : (addrOf (ρ x)).off = 0) (h3 : (addrOf (ρ x)).spot = none) (h2 : isV w (addrOf (ρ x)).block 123 4) (h4 : isAggV (ρ y) = true) (h5 : (cellsOf (ρ y)).size = 4) (h6 : ones (cellsOf (ρ y))) :
    (execOp ρ ⟨dst, .store 123 x y, t, pos, aft, gd⟩).run Tryd.prog w = .ok .skip (w.setRow (addrOf (ρ x)).block (cellsOf (ρ y))) := exec_storeV iB4 ρ dst x y t pos aft gd w h1 h0 h3 h2 h4 h5 h6
@[go_sem] theorem row_setRowB4 (w : World) (b : Nat) (cs : Array Value) (g : Nat) (h : isT w b 123) : row (w.setRow b cs) g = if g = b then cs else row w g := row_setRow_isT h cs g
@[go_sem ↓] theorem indexB4 (cs : Array Value) (k : IntKind) (i : Int) (w : World) (h0 : 0 ≤ i) (h1 : i < (4 : Nat)) (hs : cs.size = 4) : (Instr.index 123 (.agg cs) (.int k i)).run Tryd.prog w = .ok (cs[i.toNat]?.getD undef) w := index_of Tryd.underlying123 Tryd.underlying5 rfl i5 cs k i w h0 h1 hs
theorem bv4_size (a : Int) : (bv4 a).size = 4 := rfl
theorem bv4_ones (a : Int) : ones (bv4 a) := by
  intro v hv
  simp [bv4] at hv
  rcases hv with rfl | rfl | rfl | rfl <;> rfl
set_option maxRecDepth 100000 in
theorem bytes_w (a : Int) (h0 : 0 ≤ a) (h1 : a < 4294967296) (w : World) : Calls Tryd.prog 83 #[.int .u32 a] w fun e w' => e = .returned (.agg (bv4 a)) ∧ Ext w w' := by
  go_enter Tryd.func83, Tryd.ntmps83
  go_wp2_with fail
  have e : bv4 a = #[.int .u8 (a / 16777216), .int .u8 (a / 65536 % 256), .int .u8 (a / 256 % 256), .int .u8 (a % 256)] := by unfold bv4; rw [show a / 16777216 % 256 = a / 16777216 from by omega]
  refine ret_cell Tryd.underlying123 rfl iB4 rfl w.heap.size (bv4 a) rfl ?_ ?_ rfl ⟨rfl, Ext.of_alloc w _⟩
  · simp [go_sem]
  · rw [e]; simp [go_sem]
/-! strings.Join -/
theorem join_w (B : Nat) (w : World) (v : Value) (c : UInt8) (ps : List (List UInt8)) (ho : OwnR B w 9 1 v (ps.map svc)) (hne : ps ≠ []) (hn : ps.length ≤ 10000) (hpl : ∀ p ∈ ps, p.length ≤ 3000) :
    Calls Tryd.prog 85 #[v, sv [c]] w fun e w' => e = .returned (sv (Lib.join ps [c])) ∧ Ext w w' := by
  obtain ⟨g', cap', rfl, hcap, hg', hcells⟩ := ownR_row ho (by simpa using hne)
  rw [List.length_map] at hcap ⊢
  have hj := join_len [c] 3000 ps hpl
  have hjoin := Tryd.strings_Join g' 0 cap' (ps.map fun p => ⟨p.toArray⟩) ⟨#[c]⟩ w (fun j x hx => by
    rw [Nat.zero_add]
    simp only [List.getElem?_map, Option.map_eq_some_iff] at hx
    obtain ⟨p, hp, rfl⟩ := hx
    exact hcells j _ (by simp [hp, svc])) hg' (by simp; omega) (by simpa using hcap) (by
      have : (ps.map fun p => (⟨p.toArray⟩ : ByteArray)).map (·.data.toList) = ps := by simp [Function.comp_def]
      rw [this]; simp at hj ⊢; omega)
  rw [List.length_map] at hjoin
  refine hjoin.mono fun e w' ⟨he, hw⟩ => ⟨?_, hw⟩
  have : (ps.map fun p => (⟨p.toArray⟩ : ByteArray)).map (·.data.toList) = ps := by simp [Function.comp_def]
  rw [this] at he
  exact he
/-! addr.Text -/
set_option maxRecDepth 100000 in
theorem atext_w (a : Int) (h0 : 0 ≤ a) (h1 : a < 4294967296) (w : World) (ht : TabOk w) : Calls Tryd.prog 42 #[.int .u32 a] w fun e w' => e = .returned (sv (Ad.text a)) ∧ Ext w w' := by
  have htx : Ad.text a = Lib.join ((Ad.bts a).map Lib.itoa) [46] := rfl
  have Htx := Lib.hid htx; clear htx
  obtain ⟨g, hg⟩ : ∃ g : Nat → Int, g = fun k => (Ad.bts a).getD k 0 := ⟨_, rfl⟩
  have hgb : ∀ k, k < 4 → 0 ≤ g k ∧ g k < 256 := fun k h => by
    rw [hg]
    rcases (by omega : k = 0 ∨ k = 1 ∨ k = 2 ∨ k = 3) with rfl | rfl | rfl | rfl <;> simp [Ad.bts] <;> omega
  have hbv : ∀ k, k < 4 → (bv4 a)[k]? = some (.int .u8 (g k)) := fun k h => by
    rw [hg]
    rcases (by omega : k = 0 ∨ k = 1 ∨ k = 2 ∨ k = 3) with rfl | rfl | rfl | rfl <;> simp [Ad.bts, bv4]
  have hsnoc : ∀ k, k < 4 → ((Ad.bts a).take (k + 1)).map Lib.itoa = ((Ad.bts a).take k).map Lib.itoa ++ [Lib.itoa (g k)] := fun k h => by
    rw [hg]
    rcases (by omega : k = 0 ∨ k = 1 ∨ k = 2 ∨ k = 3) with rfl | rfl | rfl | rfl <;> simp [Ad.bts]
  have hall : ((Ad.bts a).take 4).map Lib.itoa = (Ad.bts a).map Lib.itoa := by rw [List.take_of_length_le (by simp [Ad.bts])]
  have Hgb := Lib.hid hgb; clear hgb
  have Hbv := Lib.hid hbv; clear hbv
  have Hsnoc := Lib.hid hsnoc; clear hsnoc
  have Hall := Lib.hid hall; clear hall hg
  have hLl : (Ad.bts a).length = 4 := rfl
  have HL := Lib.hid hLl; clear hLl
  generalize Ad.bts a = L at *
  go_enter Tryd.func42, Tryd.ntmps42
  go_wp2_with (go_at_call 83; refine (bytes_w a h0 h1 _).mono ?_; rintro e W ⟨rfl, hEW⟩)
  have hsz := bv4_size a
  generalize bv4 a = B at *
  go_loopw [3, 8] (fun s3 s8 wr => ∃ (k : Nat) (ps : List (List UInt8)), k ≤ 4 ∧ s8 = .int .i64 k ∧ Ext W wr ∧ OwnR W.heap.size wr 9 1 s3 (ps.map svc) ∧ ps = (L.take k).map Lib.itoa ∧ ps.length ≤ k ∧ (∀ p ∈ ps, p.length ≤ 3000)) (fun _ s8 _ => 4 - (intOf s8).toNat)
  case atStart => exact ⟨0, [], by omega, rfl, Ext.refl _, OwnR.nil _ _ _ _, by simp, by simp, by simp⟩
  case round =>
    obtain ⟨k, ps, hk, rfl, hE, hown, hps, hpl, hpb⟩ := hrel
    have Hps := Lib.hid hps; clear hps
    by_cases hlt : k < 4
    · obtain ⟨hg0, hg1⟩ := Hgb.out k hlt
      have hbk0 := Hbv.out k hlt
      have hbk : ∀ (h : k < B.size), B[k]'h = .int .u8 (g k) := fun h => by rw [Array.getElem?_eq_getElem h] at hbk0; exact Option.some.inj hbk0
      clear hbk0
      have hil := itoa_len hg0
      go_wp2_with (first
        | (go_at_call 84; refine (itoa_w (g k) (by omega) (by omega) _ (ht.ext (hEW.trans hE))).mono ?_; rintro e w1 ⟨rfl, hx⟩; have hE1 := hE.trans hx; have hown1 := hown.ext hx; clear hx hown hE)
        | (at_builtin; refine wpList_append_one rfl _ _ 119 rfl Tryd.underlying119 inf_str rfl (by decide) W hown1 hE1 rfl rfl (svc_ones (Lib.itoa (g k))) rfl ?_ ?_ ?_))
      · simp; omega
      · simp [maxLen]; omega
      intro v' w' ho' hE'
      go_wp2_with fail
      refine ⟨⟨k + 1, ps ++ [Lib.itoa (g k)], by omega, by go_num, hE', by rw [List.map_append]; exact ho', by rw [Hps.out, Hsnoc.out k hlt], by simp; omega, ?_⟩, by simp [intOf]; omega⟩
      intro p hp
      rcases List.mem_append.1 hp with h | h
      · exact hpb p h
      · simp at h; subst h; omega
    · obtain rfl : k = 4 := by omega
      have hne : ps ≠ [] := fun h => by
        have h1 := congrArg List.length Hps.out
        rw [h] at h1; simp [HL.out] at h1
      have hj := join_w W.heap.size wr _ 46 ps hown hne (by omega) hpb
      have Hj := Lib.hid hj; clear hj
      go_wp2_with (go_at_call 85; refine Hj.out.mono ?_; rintro e w1 ⟨rfl, hx⟩)
      go_ret
      exact ⟨by rw [Htx.out, ← Hall.out, ← Hps.out]; rfl, (hEW.trans hE).trans hx⟩
/-! addr.number -/
set_option maxRecDepth 100000 in
theorem anum_w (s : List UInt8) (most : Int) (hs : s.length ≤ 1000000) (hm : most ≤ 100000) (hm0 : 0 ≤ most) (w : World) (ht : TabOk w) (hv : VarsOk w) :
    Calls Tryd.prog 82 #[sv s, .int .i64 most] w fun e w' => e = .returned (.tuple #[.int .i64 (Cats.atoiV s), .bool (Ad.numOk s most)]) ∧ Ext w w' := by
  have hn : Ad.numOk s most = (Cats.atoiOk s && decide (0 ≤ Cats.atoiV s) && decide (Cats.atoiV s ≤ most) && (Lib.itoa (Cats.atoiV s) == s)) := rfl
  have hb := atoiV_bd s
  obtain ⟨v, hvv⟩ : ∃ v, Cats.atoiV s = v := ⟨_, rfl⟩
  rw [hvv] at hn hb ⊢
  have Hn := Lib.hid hn; clear hn
  have Hvv := Lib.hid hvv; clear hvv
  cases ho : Cats.atoiOk s with
  | false =>
    have hfin : Ad.numOk s most = false := by rw [Hn.out, ho]; rfl
    rw [hfin]
    clear hfin
    go_enter Tryd.func82, Tryd.ntmps82
    go_wp2_with (first
      | (go_at_call 93; refine (atoi_yes s ho (by omega) _).mono ?_; rintro e w1 ⟨rfl, hx1⟩; rw [Hvv.out])
      | (go_at_call 93; refine (atoi_no s ho (by omega) _ hv).mono ?_; rintro e w1 ⟨N, rfl, hx1⟩; rw [Hvv.out])
      | (go_at_call 84; refine (itoa_w v (by omega) (by omega) _ (ht.ext hx1)).mono ?_; rintro e w2 ⟨rfl, hx2⟩))
    go_ret2
    exact ⟨rfl, hx1⟩
  | true =>
    by_cases h0 : 0 ≤ v
    · by_cases h1 : v ≤ most
      · have hfin : Ad.numOk s most = (Lib.itoa v == s) := by rw [Hn.out, ho]; simp [h0, h1]
        have Hfin := Lib.hid hfin; clear hfin
        rw [Hfin.out]
        go_enter Tryd.func82, Tryd.ntmps82
        go_wp2_with (first
          | (go_at_call 93; refine (atoi_yes s ho (by omega) _).mono ?_; rintro e w1 ⟨rfl, hx1⟩; rw [Hvv.out])
          | (go_at_call 93; refine (atoi_no s ho (by omega) _ hv).mono ?_; rintro e w1 ⟨N, rfl, hx1⟩; rw [Hvv.out])
          | (go_at_call 84; refine (itoa_w v (by omega) (by omega) _ (ht.ext hx1)).mono ?_; rintro e w2 ⟨rfl, hx2⟩))
        go_ret2
        exact ⟨rfl, hx1.trans hx2⟩
      · have hfin : Ad.numOk s most = false := by rw [Hn.out, ho]; simp; intro _ h; omega
        rw [hfin]
        clear hfin
        go_enter Tryd.func82, Tryd.ntmps82
        go_wp2_with (first
          | (go_at_call 93; refine (atoi_yes s ho (by omega) _).mono ?_; rintro e w1 ⟨rfl, hx1⟩; rw [Hvv.out])
          | (go_at_call 93; refine (atoi_no s ho (by omega) _ hv).mono ?_; rintro e w1 ⟨N, rfl, hx1⟩; rw [Hvv.out])
          | (go_at_call 84; refine (itoa_w v (by omega) (by omega) _ (ht.ext hx1)).mono ?_; rintro e w2 ⟨rfl, hx2⟩))
        go_ret2
        exact ⟨rfl, hx1⟩
    · have hfin : Ad.numOk s most = false := by rw [Hn.out, ho]; simp; intro h; omega
      rw [hfin]
      clear hfin
      go_enter Tryd.func82, Tryd.ntmps82
      go_wp2_with (first
        | (go_at_call 93; refine (atoi_yes s ho (by omega) _).mono ?_; rintro e w1 ⟨rfl, hx1⟩; rw [Hvv.out])
        | (go_at_call 93; refine (atoi_no s ho (by omega) _ hv).mono ?_; rintro e w1 ⟨N, rfl, hx1⟩; rw [Hvv.out])
        | (go_at_call 84; refine (itoa_w v (by omega) (by omega) _ (ht.ext hx1)).mono ?_; rintro e w2 ⟨rfl, hx2⟩))
      go_ret2
      exact ⟨rfl, hx1⟩
/-! addr.Parse -/
theorem or_add (a n : Int) (h0 : 0 ≤ a) (h1 : a < 16777216) (h2 : 0 ≤ n) (h3 : n < 256) : bits BinOp.or IntKind.u32 (a * 256) n = a * 256 + n := by
  have h := u32_or8 (y := n) (x := a * 256) h2 h3 (by omega) (by omega) (by omega)
  rw [u32_or _ _ (by omega) (by omega) (by omega) (by omega)] at h ⊢
  rw [Nat.or_comm, h]; omega
theorem readA_drop {a : Int} {l : List (List UInt8)} {i : Nat} (h : i < l.length) : Ad.readA a (l.drop i) = if Ad.numOk l[i] 255 then Ad.readA (a * 256 + Cats.atoiV l[i]) (l.drop (i + 1)) else none := by
  rw [List.drop_eq_getElem_cons h, Ad.readA]
set_option maxRecDepth 100000 in
theorem aparse_w (s : List UInt8) (hs : s.length ≤ 1000000) (w : World) (ht : TabOk w) (hv : VarsOk w) :
    Calls Tryd.prog 41 #[sv s] w fun e w' => e = .returned (.tuple #[.int .u32 (Ad.parse s).1, .bool (Ad.parse s).2]) ∧ Ext w w' := by
  have hp : Ad.parse s = if (pieces 46 s).length = 4 then (match Ad.readA 0 (pieces 46 s) with | some a => (a, true) | none => (0, false)) else (0, false) := rfl
  have hpl := pieces_len 46 s
  have hpm := pieces_mem_len 46 s
  have hsw := split_w s 46 (by omega) w hv
  generalize pieces 46 s = L at *
  have Hsw := Lib.hid hsw; clear hsw
  go_enter Tryd.func41, Tryd.ntmps41
  by_cases h4 : L.length = 4
  · have Hp := Lib.hid hp; clear hp
    have hd4 : ((L.length : Int) != 4) = false := by simp; omega
    have hl4 : L.length ≤ 4 := by omega
    have hl5 : 4 ≤ L.length := by omega
    have H4 := Lib.hid h4; clear h4
    go_wp2_with (go_at_call 81; refine Hsw.out.mono ?_; rintro e W ⟨cap, rfl, hEW, hA⟩)
    go_loopw [5, 17] (fun s5 s17 wr => ∃ (i : Nat) (a : Int), i ≤ L.length ∧ s17 = .int .i64 i ∧ s5 = .int .u32 a ∧ 0 ≤ a ∧ a < 256 ^ i ∧ Ext W wr ∧ Ad.readA 0 L = Ad.readA a (L.drop i)) (fun _ s17 _ => L.length - (intOf s17).toNat)
    case atStart => exact ⟨0, 0, by omega, rfl, rfl, by omega, by simp, Ext.refl _, rfl⟩
    case round =>
      obtain ⟨i, a, hi, rfl, rfl, ha0, ha1, hE, hrd⟩ := hrel
      by_cases hlt : i < L.length
      · obtain ⟨ad, had, hc⟩ := at_str (hA.ext hE) hlt
        cases had
        rw [add_zero_off] at hc
        rw [readA_drop hlt] at hrd
        have hpl1 : L[i].length ≤ 1000000 := Nat.le_trans (hpm _ (List.getElem_mem hlt)) hs
        have ha2 : a < 16777216 := by
          rcases (by omega : i = 0 ∨ i = 1 ∨ i = 2 ∨ i = 3) with rfl | rfl | rfl | rfl <;> omega
        have ha3 : (256 : Int) ^ (i + 1) = 256 ^ i * 256 := by rw [Int.pow_succ]
        have Ha3 := Lib.hid ha3; clear ha3
        generalize L[i] = p at *
        have hnb := @Ad.numOk_iff p 255
        have hnw := fun w' h h' => anum_w p 255 hpl1 (by omega) (by omega) w' h h'
        generalize Cats.atoiV p = n at *
        cases hok : Ad.numOk p 255 with
        | false =>
          rw [hok] at hrd hnw
          have hfin : Ad.parse s = (0, false) := by rw [Hp.out, if_pos H4.out, hrd]; rfl
          have Hfin := Lib.hid hfin; clear hfin hrd hnb hok
          have Hnw := Lib.hid hnw; clear hnw
          go_wp2_with (go_at_call 82; refine (Hnw.out _ (ht.ext (hEW.trans hE)) (hv.ext (hEW.trans hE))).mono ?_; rintro e w9 ⟨rfl, hx9⟩)
          go_ret2
          exact ⟨by rw [Hfin.out]; rfl, (hEW.trans hE).trans hx9⟩
        | true =>
          rw [hok] at hrd hnw
          obtain ⟨hn0, hn1, _⟩ := hnb hok
          rw [if_pos rfl] at hrd
          have hor := or_add a n ha0 ha2 hn0 (by omega)
          have Hrd := Lib.hid hrd; clear hrd hnb hok
          have Hnw := Lib.hid hnw; clear hnw
          have Hpw := Lib.hid ha1; clear ha1
          go_wp2_with (go_at_call 82; refine (Hnw.out _ (ht.ext (hEW.trans hE)) (hv.ext (hEW.trans hE))).mono ?_; rintro e w9 ⟨rfl, hx9⟩)
          refine ⟨⟨i + 1, a * 256 + n, by omega, by go_num, rfl, by omega, by have := Hpw.out; rw [Ha3.out]; omega, hE.trans hx9, Hrd.out⟩, by simp [intOf]; omega⟩
      · obtain rfl : i = L.length := by omega
        have hfin : Ad.parse s = (a, true) := by rw [Hp.out, if_pos H4.out, hrd]; simp [Ad.readA]
        have Hfin := Lib.hid hfin; clear hfin hrd ha1
        go_wp2_with fail
        go_ret2
        exact ⟨by rw [Hfin.out]; rfl, hEW.trans hE⟩
  · rw [if_neg h4] at hp
    have hd4 : ((L.length : Int) != 4) = true := by simp; omega
    have Hp := Lib.hid hp; clear hp
    clear h4
    go_wp2_with (go_at_call 81; refine Hsw.out.mono ?_; rintro e W ⟨cap, rfl, hEW, hA⟩)
    go_ret2
    exact ⟨by rw [Hp.out]; rfl, hEW⟩
/-! gueriteref03.Text, and the kinds -/
set_option maxRecDepth 100000 in
theorem ratext_w (a : Int) (h0 : 0 ≤ a) (h1 : a < 4294967296) (w : World) : Calls Tryd.prog 43 #[.int .u32 a] w fun e w' => e = .returned (sv (Ad.text a)) ∧ Ext w w' := by
  have htx := Ad.text_four a
  rw [show a / 16777216 % 256 = a / 16777216 from by omega] at htx
  have b0 : 0 ≤ a / 16777216 ∧ a / 16777216 ≤ 255 := by omega
  have b1 : 0 ≤ a / 65536 % 256 ∧ a / 65536 % 256 ≤ 255 := by omega
  have b2 : 0 ≤ a / 256 % 256 ∧ a / 256 % 256 ≤ 255 := by omega
  have b3 : 0 ≤ a % 256 ∧ a % 256 ≤ 255 := by omega
  have l0 : (Lib.itoa (a / 16777216)).length ≤ 256 := by have := itoa_len b0.1; omega
  have l1 : (Lib.itoa (a / 65536 % 256)).length ≤ 256 := by have := itoa_len b1.1; omega
  have l2 : (Lib.itoa (a / 256 % 256)).length ≤ 256 := by have := itoa_len b2.1; omega
  have l3 : (Lib.itoa (a % 256)).length ≤ 256 := by have := itoa_len b3.1; omega
  have Htx := Lib.hid htx; clear htx
  go_enter Tryd.func43, Tryd.ntmps43
  have hE : Ext w w := Ext.refl w
  go_wp2_with (go_at_call 56; refine (number_w _ (by omega) (by omega) _).mono ?_; rintro e w' ⟨rfl, hx⟩; have hE := hE.trans hx; clear hx)
  go_ret
  exact ⟨by rw [Htx.out]; simp, hE⟩
end Go.Proofs.YtpgpfcdkkhfemaaDoor
