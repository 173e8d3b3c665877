/-
  A set of categories, told by the document, and read again: plain Lean.
-/
import Derived.Test.YtpgpfcdkkhfemaaDoorCats3
import Derived.Test.YtpgpfcdkkhfemaaDoorText
import Derived.Test.YtpgpfcdkkhfemaaDoorStr
namespace Go.Gu
open Go.Lib (itoa atoiAll atoiSat cut)
namespace Cats
/-- The complete runs below n, and the beginning of the one that is under way. -/
def scan (c : Cats) : Nat → List (Int × Int) × Option Int
  | 0 => ([], none)
  | n + 1 => match scan c n with
    | (R, none) => if c.has (n : Int) then (R, some (n : Int)) else (R, none)
    | (R, some lo) => if c.has (n : Int) then (R, some lo) else (R ++ [(lo, (n : Int) - 1)], none)
def ended (n : Nat) : List (Int × Int) × Option Int → List (Int × Int)
  | (R, none) => R
  | (R, some lo) => R ++ [(lo, (n : Int) - 1)]
theorem runsFrom_snoc (x : Int) : ∀ (l : List Int) (lo hi : Int), ∃ R lo' hi', runsFrom lo hi l = R ++ [(lo', hi')] ∧ (hi :: l).getLast? = some hi' ∧ runsFrom lo hi (l ++ [x]) = if x = hi' + 1 then R ++ [(lo', x)] else R ++ [(lo', hi'), (x, x)]
  | [], lo, hi => ⟨[], lo, hi, rfl, rfl, by simp only [List.nil_append, runsFrom]⟩
  | y :: r, lo, hi => by
    by_cases e : y = hi + 1
    · obtain ⟨R, lo', hi', h1, h2, h3⟩ := runsFrom_snoc x r lo y
      refine ⟨R, lo', hi', by rw [runsFrom, if_pos e, h1], by rw [List.getLast?_cons_cons]; exact h2, by rw [List.cons_append, runsFrom, if_pos e, h3]⟩
    · obtain ⟨R, lo', hi', h1, h2, h3⟩ := runsFrom_snoc x r y y
      refine ⟨(lo, hi) :: R, lo', hi', by rw [runsFrom, if_neg e, h1]; rfl, by rw [List.getLast?_cons_cons]; exact h2, ?_⟩
      rw [List.cons_append, runsFrom, if_neg e, h3]
      split <;> simp
theorem runs_snoc (x : Int) (l : List Int) (h : l ≠ []) : ∃ R lo hi, runs l = R ++ [(lo, hi)] ∧ l.getLast? = some hi ∧ runs (l ++ [x]) = if x = hi + 1 then R ++ [(lo, x)] else R ++ [(lo, hi), (x, x)] := by
  cases l with
  | nil => exact absurd rfl h
  | cons y r => exact runsFrom_snoc x r y y
theorem last_listTo (c : Cats) : ∀ n, (c.listTo n).getLast? = if c.mostTo n = -1 then none else some (c.mostTo n)
  | 0 => by simp [listTo, mostTo]
  | n + 1 => by
    rw [listTo_succ, mostTo]
    split
    · rw [if_neg (by omega)]; simp
    · exact last_listTo c n
/-- What is known of the scan. -/
structure Sc (c : Cats) (n : Nat) (s : List (Int × Int) × Option Int) : Prop where
  runs_ : runs (c.listTo n) = ended n s
  open_ : ∀ lo, s.2 = some lo → 0 ≤ lo ∧ lo < (n : Int) ∧ c.has ((n : Int) - 1) = true ∧ c.has (lo - 1) = false ∧ ∀ k : Int, lo ≤ k → k < (n : Int) → c.has k = true
  shut : s.2 = none → c.has ((n : Int) - 1) = false
  bd : ∀ p ∈ s.1, 0 ≤ p.1 ∧ p.1 ≤ p.2 ∧ p.2 + 1 < (n : Int) + 1
  mem : ∀ k : Int, k < (n : Int) → (c.has k = true ↔ (∃ p ∈ s.1, p.1 ≤ k ∧ k ≤ p.2) ∨ ∃ lo, s.2 = some lo ∧ lo ≤ k)
theorem has_neg (c : Cats) {k : Int} (h : k < 0) : c.has k = false := by
  have : inR k = false := by simp [inR]; omega
  simp [has, this]
theorem has_big (c : Cats) {k : Int} (h : 240 ≤ k) : c.has k = false := by
  have : inR k = false := by simp [inR]; omega
  simp [has, this]
theorem listTo_ne_of {c : Cats} {n : Nat} (h : c.has ((n : Int) - 1) = true) (hn : 0 < n) : c.listTo n ≠ [] ∧ (c.listTo n).getLast? = some ((n : Int) - 1) := by
  obtain ⟨m, rfl⟩ : ∃ m, n = m + 1 := ⟨n - 1, by omega⟩
  rw [show ((m + 1 : Nat) : Int) - 1 = (m : Int) from by omega] at h ⊢
  rw [listTo_succ, if_pos h]; simp
theorem last_ne {c : Cats} {n : Nat} (h : c.has ((n : Int) - 1) = false) : ∀ x, (c.listTo n).getLast? = some x → (n : Int) ≠ x + 1 := by
  intro x hx e
  have hm : x ∈ c.listTo n := List.mem_of_getLast? hx
  simp only [listTo, List.mem_map, List.mem_filter] at hm
  obtain ⟨k, ⟨_, hk⟩, rfl⟩ := hm
  rw [show ((n : Int) - 1) = (k : Int) from by omega, hk] at h; cases h
theorem scan_ok (c : Cats) : ∀ n, Sc c n (c.scan n)
  | 0 => ⟨rfl, fun lo h => (by cases h), fun _ => (has_neg c (by omega)), fun p h => (by cases h), fun k hk => ⟨fun h => (by rw [has_neg c (by omega)] at h; cases h), fun h => (by
      rcases h with ⟨p, h, _⟩ | ⟨lo, h, _⟩
      · cases h
      · cases h)⟩⟩
  | n + 1 => by
    obtain ⟨h1, h2, h3, h4, h5⟩ := scan_ok c n
    rw [scan]
    generalize scan c n = s at *
    obtain ⟨R, o⟩ := s
    have hn1 : ((n + 1 : Nat) : Int) - 1 = (n : Int) := by omega
    cases o with
    | none =>
      have hb := h3 rfl
      simp only at h4 h5 ⊢
      by_cases hh : c.has (n : Int) = true
      · rw [if_pos hh]
        refine ⟨?_, fun lo e => ?_, fun e => (by cases e), fun p hp => ?_, fun k hk => ?_⟩
        · rw [listTo_succ, if_pos hh]
          simp only [ended, hn1] at h1 ⊢
          by_cases hl : c.listTo n = []
          · rw [hl] at h1 ⊢; simp only [runs, List.nil_append, runsFrom] at h1 ⊢; rw [← h1]; rfl
          · obtain ⟨R', lo', hi', e1, e2, e3⟩ := runs_snoc (n : Int) _ hl
            rw [e3, if_neg (last_ne hb _ e2), ← h1, e1]; simp
        · simp only [Option.some.injEq] at e; subst e
          exact ⟨by omega, by omega, by rw [hn1]; exact hh, hb, fun k ha hk => by rw [show k = (n : Int) from by omega]; exact hh⟩
        · have := h4 p hp; exact ⟨this.1, this.2.1, by omega⟩
        · by_cases e : k = n
          · subst e; exact ⟨fun _ => .inr ⟨_, rfl, by omega⟩, fun _ => hh⟩
          · rw [h5 k (by omega)]
            refine ⟨fun h => ?_, fun h => ?_⟩
            · rcases h with h | ⟨lo, h, _⟩
              · exact .inl h
              · cases h
            · rcases h with h | ⟨lo, h, hlo⟩
              · exact .inl h
              · simp only [Option.some.injEq] at h; omega
      · have hh' : c.has (n : Int) = false := by simpa using hh
        rw [if_neg hh]
        refine ⟨?_, fun lo e => (by cases e), fun _ => (by rw [hn1]; exact hh'), fun p hp => ?_, fun k hk => ?_⟩
        · rw [listTo_succ, if_neg hh]; exact h1
        · have := h4 p hp; exact ⟨this.1, this.2.1, by omega⟩
        · by_cases e : k = n
          · subst e
            refine ⟨fun h => absurd h hh, fun h => ?_⟩
            rcases h with ⟨p, hp, _, hk2⟩ | ⟨lo, h, _⟩
            · have := h4 p hp; omega
            · cases h
          · rw [h5 k (by omega)]
    | some lo =>
      obtain ⟨g0, g1, g2, g3, g4⟩ := h2 lo rfl
      simp only at h4 h5 ⊢
      have hn0 : 0 < n := by omega
      obtain ⟨hne, hlast⟩ := listTo_ne_of g2 hn0
      by_cases hh : c.has (n : Int) = true
      · rw [if_pos hh]
        refine ⟨?_, fun lo' e => ?_, fun e => (by cases e), fun p hp => ?_, fun k hk => ?_⟩
        · rw [listTo_succ, if_pos hh]
          simp only [ended, hn1] at h1 ⊢
          obtain ⟨R', lo', hi', e1, e2, e3⟩ := runs_snoc (n : Int) _ hne
          rw [e2] at hlast
          simp only [Option.some.injEq] at hlast
          rw [e3, if_pos (by omega)]
          rw [e1] at h1
          have h := List.append_inj' h1 rfl
          simp only [List.cons.injEq, Prod.mk.injEq, and_true] at h
          rw [h.1, h.2.1]
        · simp only [Option.some.injEq] at e; subst e
          exact ⟨g0, by omega, by rw [hn1]; exact hh, g3, fun k ha hk => by
            by_cases e : k = n
            · rw [e]; exact hh
            · exact g4 k ha (by omega)⟩
        · have := h4 p hp; exact ⟨this.1, this.2.1, by omega⟩
        · by_cases e : k = n
          · subst e; exact ⟨fun _ => .inr ⟨_, rfl, by omega⟩, fun _ => hh⟩
          · rw [h5 k (by omega)]
      · have hh' : c.has (n : Int) = false := by simpa using hh
        rw [if_neg hh]
        refine ⟨?_, fun lo e => (by cases e), fun _ => (by rw [hn1]; exact hh'), fun p hp => ?_, fun k hk => ?_⟩
        · rw [listTo_succ, if_neg hh]; exact h1
        · rcases List.mem_append.1 hp with hp | hp
          · have := h4 p hp; exact ⟨this.1, this.2.1, by omega⟩
          · simp at hp; subst hp; exact ⟨g0, by simp; omega, by simp; omega⟩
        · by_cases e : k = n
          · subst e
            refine ⟨fun h => absurd h hh, fun h => ?_⟩
            rcases h with ⟨p, hp, _, hk2⟩ | ⟨lo, h, _⟩
            · rcases List.mem_append.1 hp with hp | hp
              · have := h4 p hp; omega
              · simp at hp; subst hp; simp at hk2; omega
            · cases h
          · rw [h5 k (by omega)]
            refine ⟨fun h => ?_, fun h => ?_⟩
            · rcases h with ⟨p, hp, hq⟩ | ⟨lo', h, hlo⟩
              · exact .inl ⟨p, by simp [hp], hq⟩
              · simp only [Option.some.injEq] at h; subst h
                exact .inl ⟨_, List.mem_append.2 (.inr (List.mem_singleton.2 rfl)), hlo, by simp; omega⟩
            · rcases h with ⟨p, hp, hq⟩ | ⟨lo', h, hlo⟩
              · rcases List.mem_append.1 hp with hp | hp
                · exact .inl ⟨p, hp, hq⟩
                · simp at hp; subst hp; exact .inr ⟨lo, rfl, hq.1⟩
              · cases h
/-- All categories of a set lie in its runs, and no others. -/
theorem runs_mem (c : Cats) (k : Int) : c.has k = true ↔ ∃ p ∈ runs c.list, p.1 ≤ k ∧ k ≤ p.2 := by
  have h := scan_ok c 240
  have h1 := h.runs_
  rw [show c.listTo 240 = c.list from rfl] at h1
  rw [h1]
  by_cases hk : k < 240
  · rw [h.mem k hk]
    cases ho : (c.scan 240).2 with
    | none =>
      have e : c.scan 240 = ((c.scan 240).1, none) := by rw [← ho]
      rw [e]; simp [ended]
    | some lo =>
      have e : c.scan 240 = ((c.scan 240).1, some lo) := by rw [← ho]
      rw [e]
      simp only [ended, List.mem_append, List.mem_singleton]
      constructor
      · rintro (⟨p, hp, hq⟩ | ⟨lo', h', hlo⟩)
        · exact ⟨p, .inl hp, hq⟩
        · simp only [Option.some.injEq] at h'; subst h'; exact ⟨_, .inr rfl, hlo, by simp; omega⟩
      · rintro ⟨p, hp | rfl, hq⟩
        · exact .inl ⟨p, hp, hq⟩
        · exact .inr ⟨lo, rfl, hq.1⟩
  · constructor
    · intro hh; rw [has_big c (by omega)] at hh; cases hh
    · rintro ⟨p, hp, hq⟩
      exfalso
      cases ho : (c.scan 240).2 with
      | none =>
        have e : c.scan 240 = ((c.scan 240).1, none) := by rw [← ho]
        rw [e] at hp
        have := h.bd p hp; omega
      | some lo =>
        have e : c.scan 240 = ((c.scan 240).1, some lo) := by rw [← ho]
        rw [e] at hp
        rcases List.mem_append.1 hp with hp | hp
        · have := h.bd p hp; omega
        · simp at hp; subst hp; simp at hq; omega
theorem runs_bd (c : Cats) : ∀ p ∈ runs c.list, 0 ≤ p.1 ∧ p.1 ≤ p.2 ∧ p.2 ≤ 239 := by
  have h := scan_ok c 240
  have h1 := h.runs_
  rw [show c.listTo 240 = c.list from rfl] at h1
  rw [h1]
  intro p hp
  cases ho : (c.scan 240).2 with
  | none =>
    have e : c.scan 240 = ((c.scan 240).1, none) := by rw [← ho]
    rw [e] at hp
    have := h.bd p hp; omega
  | some lo =>
    have e : c.scan 240 = ((c.scan 240).1, some lo) := by rw [← ho]
    rw [e] at hp
    have hl := h.open_ lo ho
    rcases List.mem_append.1 hp with hp | hp
    · have := h.bd p hp; omega
    · simp at hp; subst hp; simp; omega
theorem runText_two {lo hi : Int} (h : hi - lo = 1) : runText (lo, hi) = itoa lo ++ [44] ++ itoa hi := by
  unfold runText
  have h0 : ¬ (hi - lo = 0) := by omega
  rw [if_neg h0, if_pos h]
theorem runText_more {lo hi : Int} (h : 1 < hi - lo) : runText (lo, hi) = itoa lo ++ [45] ++ itoa hi := by
  unfold runText
  have h0 : ¬ (hi - lo = 0) := by omega
  have h1 : ¬ (hi - lo = 1) := by omega
  simp only [h0, h1, if_false]
/-! The document's text. -/
def refStep (c : Cats) (s : List UInt8) (k : Nat) : List UInt8 :=
  if !c.has (k : Int) || (c.has ((k : Int) - 1) && c.has ((k : Int) + 1)) then s
  else if s = [] then itoa (k : Int)
  else if c.has ((k : Int) - 1) && c.has ((k : Int) - 2) then s ++ [45] ++ itoa (k : Int)
  else s ++ [44] ++ itoa (k : Int)
def refTo (c : Cats) : Nat → List UInt8
  | 0 => []
  | n + 1 => refStep c (refTo c n) n
def refText (c : Cats) : List UInt8 := if refTo c 240 = [] then [45] else refTo c 240
def told (R : List (Int × Int)) : List UInt8 := Lib.join (R.map runText) [44]
theorem runText_ne (p : Int × Int) : runText p ≠ [] := by
  unfold runText
  split
  · exact Go.Gu.itoa_ne _
  · split <;> simp
theorem told_nil : told [] = [] := rfl
theorem told_ne {R : List (Int × Int)} (h : R ≠ []) : told R ≠ [] := by
  cases R with
  | nil => exact absurd rfl h
  | cons p r => rw [told, List.map_cons, Lib.join_cons]; simp [runText_ne]
theorem told_snoc (R : List (Int × Int)) (p : Int × Int) : told (R ++ [p]) = if told R = [] then runText p else told R ++ [44] ++ runText p := by
  by_cases h : R = []
  · subst h; rw [if_pos told_nil]; simp [told, Lib.join_one]
  · rw [if_neg (told_ne h), told, List.map_append, join_append (by simpa using h) (by simp)]
    simp [told, Lib.join_one]
/-- What the document's text is behind n steps. -/
theorem refTo_scan (c : Cats) : ∀ n, refTo c n = match c.scan n with
    | (R, none) => told R
    | (R, some lo) => if c.has (n : Int) then (if told R = [] then itoa lo else told R ++ [44] ++ itoa lo) else told (R ++ [(lo, (n : Int) - 1)])
  | 0 => rfl
  | n + 1 => by
    have ih := refTo_scan c n
    have hs := scan_ok c n
    rw [refTo, scan]
    generalize scan c n = s at *
    obtain ⟨R, o⟩ := s
    have hn1 : ((n + 1 : Nat) : Int) - 1 = (n : Int) := by omega
    have hn2 : ((n + 1 : Nat) : Int) = (n : Int) + 1 := by omega
    cases o with
    | none =>
      have hb : c.has ((n : Int) - 1) = false := hs.shut rfl
      simp only at ih ⊢
      by_cases hh : c.has (n : Int) = true
      · rw [if_pos hh, ih]
        simp only [hn1]; simp only [hn2]
        simp only [refStep, hh, hb, Bool.not_true, Bool.false_and, Bool.or_self, Bool.false_eq_true, if_false]
        have e : runText ((n : Int), (n : Int)) = itoa (n : Int) := by simp [runText]
        cases h1 : c.has ((n : Int) + 1) with
        | true => rw [if_pos rfl]
        | false => rw [if_neg (show ¬ (false = true) by simp), told_snoc, e]
      · rw [if_neg hh, ih]
        simp [refStep, hh]
    | some lo =>
      obtain ⟨g0, g1, g2, g3, g4⟩ := hs.open_ lo rfl
      simp only at ih ⊢
      by_cases hh : c.has (n : Int) = true
      · rw [if_pos hh] at ih ⊢
        rw [ih]
        simp only [hn1]; simp only [hn2]
        cases h1 : c.has ((n : Int) + 1) with
        | true => rw [if_pos rfl]; simp [refStep, hh, g2, h1]
        | false =>
          rw [if_neg (show ¬ (false = true) by simp), told_snoc]
          have hne : (if told R = [] then itoa lo else told R ++ [44] ++ itoa lo) ≠ [] := by
            split
            · exact itoa_ne _
            · simp
          generalize hS : (if told R = [] then itoa lo else told R ++ [44] ++ itoa lo) = S at hne
          have hst : ∀ b, c.has ((n : Int) - 2) = b → refStep c S n = if b then S ++ [45] ++ itoa (n : Int) else S ++ [44] ++ itoa (n : Int) := fun b hb => by
            unfold refStep; rw [hh, g2, h1, hb, if_neg hne]; simp
          by_cases e : lo = (n : Int) - 1
          · have h2 : c.has ((n : Int) - 2) = false := by rw [show (n : Int) - 2 = lo - 1 from by omega]; exact g3
            have e3 : runText (lo, (n : Int)) = itoa lo ++ [44] ++ itoa (n : Int) := runText_two (by omega)
            rw [hst _ h2, e3, ← hS]
            by_cases hr : told R = [] <;> simp [hr]
          · have h2 : c.has ((n : Int) - 2) = true := g4 _ (by omega) (by omega)
            have e3 : runText (lo, (n : Int)) = itoa lo ++ [45] ++ itoa (n : Int) := runText_more (by omega)
            rw [hst _ h2, e3, ← hS]
            by_cases hr : told R = [] <;> simp [hr]
      · rw [if_neg hh] at ih ⊢
        rw [ih]
        simp [refStep, hh]
theorem refText_eq (c : Cats) : c.refText = c.text := by
  have h := refTo_scan c 240
  have h2 := (scan_ok c 240).runs_
  rw [show c.listTo 240 = c.list from rfl] at h2
  have h3 : refTo c 240 = told (runs c.list) := by
    rw [h, h2]
    generalize scan c 240 = s
    obtain ⟨R, o⟩ := s
    cases o with
    | none => rfl
    | some lo =>
      simp only
      rw [if_neg (by rw [has_big c (by omega)]; simp)]; rfl
  rw [refText, h3, Cats.text]
  by_cases e : runs c.list = []
  · rw [e, told_nil]; simp
  · rw [if_neg (told_ne e), if_neg e]; rfl
/-! A text read. -/
def atoiOk (l : List UInt8) : Bool := match atoiAll l with | .ok _ => true | _ => false
def atoiV (l : List UInt8) : Int := match atoiAll l with | .ok v => v | .range => atoiSat l | _ => 0
def spanOf (s : List UInt8) : Int × Int × Bool :=
  if (cut s [45]).2.2 then (atoiV (cut s [45]).1, atoiV (cut s [45]).2.1, atoiOk (cut s [45]).1 && atoiOk (cut s [45]).2.1 && inR (atoiV (cut s [45]).1) && inR (atoiV (cut s [45]).2.1))
  else (atoiV (cut s [45]).1, atoiV (cut s [45]).1, atoiOk (cut s [45]).1 && inR (atoiV (cut s [45]).1))
/-- n categories more, from lo on. -/
def addN (c : Cats) (lo : Int) : Nat → Cats
  | 0 => c
  | n + 1 => (addN c lo n).with1 (lo + n)
def addR (c : Cats) (lo hi : Int) : Cats := addN c lo (hi + 1 - lo).toNat
def readP : Cats → List (List UInt8) → Option Cats
  | c, [] => some c
  | c, p :: r => if (spanOf p).2.2 then readP (addR c (spanOf p).1 (spanOf p).2.1) r else none
def readS (s : List UInt8) : Option Cats := if s = [45] then some zero else readP zero (pieces 44 s)
def parse (s : List UInt8) : Cats × Bool := match readS s with
  | none => (zero, false)
  | some c => if c.text = s then (c, true) else (zero, false)
theorem parse_yes {s : List UInt8} (h : (parse s).2 = true) : (parse s).1.text = s := by
  unfold parse at *
  split at h
  · cases h
  · split at h
    · rename_i c hc e; simp [e]
    · cases h
theorem parse_no {s : List UInt8} (h : (parse s).2 = false) : (parse s).1 = zero := by
  unfold parse at *
  split at h
  · rfl
  · split at h
    · cases h
    · rename_i c hc e; simp [e]
theorem has_addN (c : Cats) (lo : Int) : ∀ (n : Nat) (k : Int), (addN c lo n).has k = (c.has k || (inR k && decide (lo ≤ k ∧ k < lo + n)))
  | 0, k => by
    have : decide (lo ≤ k ∧ k < lo + ((0 : Nat) : Int)) = false := decide_eq_false (by omega)
    rw [this]; simp [addN]
  | n + 1, k => by
    rw [addN, has_with1, has_addN c lo n k, Bool.or_assoc]
    congr 1
    rw [← Bool.and_or_distrib_left]
    congr 1
    rw [Bool.eq_iff_iff]
    simp only [Bool.or_eq_true, decide_eq_true_eq]
    omega
theorem has_addR (c : Cats) {lo hi : Int} (h0 : 0 ≤ lo) (h1 : hi ≤ 239) (k : Int) : (addR c lo hi).has k = (c.has k || decide (lo ≤ k ∧ k ≤ hi)) := by
  rw [addR, has_addN]
  congr 1
  rw [Bool.eq_iff_iff]
  simp only [Bool.and_eq_true, decide_eq_true_eq, inR_iff]
  omega
theorem atoi_num {n : Int} (h : 0 ≤ n ∧ n ≤ 239) : atoiOk (itoa n) = true ∧ atoiV (itoa n) = n := by
  have := atoi_itoa h.1 (by omega : n < 1000000)
  simp [atoiOk, atoiV, this]
theorem span_one {n : Int} (h : 0 ≤ n ∧ n ≤ 239) : spanOf (itoa n) = (n, n, true) := by
  obtain ⟨h1, h2⟩ := atoi_num h
  have hr := inR_iff.2 h
  rw [spanOf, cut_free (itoa_free h.1 (by decide))]
  simp [h1, h2, hr]
theorem span_two {lo hi : Int} (h : 0 ≤ lo ∧ lo ≤ 239) (g : 0 ≤ hi ∧ hi ≤ 239) : spanOf (itoa lo ++ [45] ++ itoa hi) = (lo, hi, true) := by
  obtain ⟨h1, h2⟩ := atoi_num h
  obtain ⟨h3, h4⟩ := atoi_num g
  have hr := inR_iff.2 h
  have hr2 := inR_iff.2 g
  rw [spanOf, List.append_assoc, List.singleton_append, cut_at _ (itoa_free h.1 (by decide))]
  simp [h1, h2, h3, h4, hr, hr2]
/-- A run's pieces. -/
def runPieces (p : Int × Int) : List (List UInt8) :=
  if p.2 - p.1 = 0 then [itoa p.1] else if p.2 - p.1 = 1 then [itoa p.1, itoa p.2] else [itoa p.1 ++ [45] ++ itoa p.2]
theorem runPieces_ne (p : Int × Int) : runPieces p ≠ [] := by
  unfold runPieces; split
  · simp
  · split <;> simp
theorem runPieces_join (p : Int × Int) : Lib.join (runPieces p) [44] = runText p := by
  unfold runPieces runText
  split
  · rw [Lib.join_one]
  · split
    · rw [Lib.join_cons]; simp [Lib.joinTail]
    · rw [Lib.join_one]
theorem told_pieces : ∀ R : List (Int × Int), told R = Lib.join (R.flatMap runPieces) [44]
  | [] => rfl
  | [p] => by simp [told, Lib.join_one, runPieces_join]
  | p :: q :: r => by
    have ih := told_pieces (q :: r)
    rw [List.flatMap_cons, join_append (runPieces_ne p) (by rw [List.flatMap_cons]; simp [runPieces_ne]), ← ih, runPieces_join]
    rw [told, List.map_cons, List.map_cons, Lib.join_cons, told, List.map_cons, Lib.join_cons]
    simp [Lib.joinTail]
theorem runPieces_free {p : Int × Int} (h0 : 0 ≤ p.1) (h1 : p.1 ≤ p.2) : ∀ x ∈ runPieces p, (44 : UInt8) ∉ x := by
  have a := itoa_free h0 (c := 44) (by decide)
  have b := itoa_free (n := p.2) (by omega) (c := 44) (by decide)
  intro x hx
  unfold runPieces at hx
  split at hx
  · simp at hx; rw [hx]; exact a
  · split at hx
    · simp at hx; rcases hx with rfl | rfl
      · exact a
      · exact b
    · simp at hx; rw [hx]; simp [a, b]
theorem readP_run {p : Int × Int} (h0 : 0 ≤ p.1) (h1 : p.1 ≤ p.2) (h2 : p.2 ≤ 239) (c : Cats) (r : List (List UInt8)) : ∃ d, readP c (runPieces p ++ r) = readP d r ∧ ∀ k, d.has k = (c.has k || decide (p.1 ≤ k ∧ k ≤ p.2)) := by
  unfold runPieces
  split
  · rename_i e
    refine ⟨addR c p.1 p.1, ?_, fun k => ?_⟩
    · rw [List.singleton_append, readP, span_one ⟨h0, by omega⟩]; rfl
    · rw [has_addR c h0 (by omega)]; congr 2; rw [eq_iff_iff]; omega
  · split
    · rename_i e
      refine ⟨addR (addR c p.1 p.1) p.2 p.2, ?_, fun k => ?_⟩
      · rw [List.cons_append, readP, span_one ⟨h0, by omega⟩, List.singleton_append, if_pos rfl, readP, span_one ⟨by omega, h2⟩]; rfl
      · rw [has_addR _ (by omega) (by omega), has_addR c h0 (by omega), Bool.or_assoc]; congr 1
        rw [Bool.eq_iff_iff]; simp only [Bool.or_eq_true, decide_eq_true_eq]; omega
    · refine ⟨addR c p.1 p.2, ?_, fun k => has_addR c h0 h2 k⟩
      rw [List.singleton_append, readP, span_two ⟨h0, by omega⟩ ⟨by omega, h2⟩]; rfl
theorem readP_runs : ∀ (R : List (Int × Int)) (c : Cats), (∀ p ∈ R, 0 ≤ p.1 ∧ p.1 ≤ p.2 ∧ p.2 ≤ 239) → ∃ d, readP c (R.flatMap runPieces) = some d ∧ ∀ k, d.has k = true ↔ c.has k = true ∨ ∃ p ∈ R, p.1 ≤ k ∧ k ≤ p.2
  | [], c, _ => ⟨c, rfl, fun k => by simp⟩
  | p :: R, c, h => by
    obtain ⟨h0, h1, h2⟩ := h p (by simp)
    obtain ⟨d, hd, hk⟩ := readP_run h0 h1 h2 c (R.flatMap runPieces)
    obtain ⟨d', hd', hk'⟩ := readP_runs R d fun q hq => h q (by simp [hq])
    refine ⟨d', by rw [List.flatMap_cons, hd, hd'], fun k => ?_⟩
    rw [hk', hk]
    simp [or_assoc]
theorem readS_text (c : Cats) : readS c.text = some c := by
  have hb := runs_bd c
  have hm := runs_mem c
  unfold readS Cats.text
  by_cases e : runs c.list = []
  · rw [if_pos e, if_pos rfl]
    congr 1
    refine ext_has fun k hk => ?_
    rw [has_zero]
    cases hc : c.has (k : Int) with
    | false => rfl
    | true =>
      obtain ⟨p, hp, _⟩ := (hm (k : Int)).1 hc
      rw [e] at hp; cases hp
  · rw [if_neg e]
    have ht : Lib.join ((runs c.list).map runText) [44] = told (runs c.list) := rfl
    rw [ht]
    have hfree : ∀ x ∈ (runs c.list).flatMap runPieces, (44 : UInt8) ∉ x := by
      intro x hx
      obtain ⟨p, hp, hx⟩ := List.mem_flatMap.1 hx
      exact runPieces_free (hb p hp).1 (hb p hp).2.1 x hx
    have hne : (runs c.list).flatMap runPieces ≠ [] := by
      cases hr : runs c.list with
      | nil => exact absurd hr e
      | cons p r => rw [List.flatMap_cons]; simp [runPieces_ne]
    have hnd : told (runs c.list) ≠ [45] := by
      intro h
      have h1 : pieces 44 (told (runs c.list)) = (runs c.list).flatMap runPieces := by rw [told_pieces]; exact pieces_join 44 _ hne hfree
      obtain ⟨p, r, hr⟩ : ∃ p r, runs c.list = p :: r := by
        cases hr : runs c.list with
        | nil => exact absurd hr e
        | cons p r => exact ⟨p, r, rfl⟩
      have hp := hb p (by rw [hr]; simp)
      rw [h, hr, List.flatMap_cons] at h1
      have h2 : pieces 44 [45] = [[45]] := by decide
      rw [h2] at h1
      have hd := itoa_dig hp.1
      have hi := itoa_ne p.1
      unfold runPieces at h1
      split at h1
      · simp at h1; rw [← h1.1] at hd; simp at hd
      · split at h1
        · simp at h1
        · simp at h1
          have := h1.1
          cases hq : itoa p.1 with
          | nil => exact hi hq
          | cons a b => rw [hq] at this; simp at this
    rw [if_neg hnd, told_pieces, pieces_join 44 _ hne hfree]
    obtain ⟨d, hd, hk⟩ := readP_runs (runs c.list) zero hb
    rw [hd]
    congr 1
    refine ext_has fun k _ => ?_
    rw [Bool.eq_iff_iff, hk, has_zero, hm]
    simp
theorem parse_text (c : Cats) : parse c.text = (c, true) := by
  unfold parse; rw [readS_text]; simp
end Cats
end Go.Gu
