/-
  A region that draws its order: one goal for each operation, in the order of the text, whatever order is drawn. Each operation is told by what it yields ('ex': just this value; 'un': a value of which p holds in each later world). The rest of the region, from the first operation that waits for all others on, is walked as it stands.
-/
import Derived.Orders
import Derived.Tactics
namespace Go.Reg
set_option linter.unusedSimpArgs false
set_option linter.unusedVariables false
open Go

/-- What is told of an operation's value. -/
inductive Sp where
  | ex (c : Value)
  | un (p : Value → World → Prop) (fresh : Bool)

/-- The block that a value leads to. -/
def own : Value → Option Nat
  | .pointer (some a) => some a.block
  | .slice (some a) _ _ => some a.block
  | _ => none

def Sp.says : Sp → Value → World → Prop
  | .ex c, v, _ => v = c
  | .un p _, v, w => p v w
def Sp.fr : Sp → Bool
  | .ex _ => false
  | .un _ f => f

/-- An operation: what is told of it; the temporaries that it looks at, each with its writer; its guard's temporary. -/
structure St where
  sp : Sp
  env : List (Tmp × Option Nat) := []
  gd : Option (Tmp × Bool) := none

def dstAt (l : List Oper) (j : Nat) : Option Tmp := (l[j]?).bind (·.dst)

def Fr (w : World) (v : Value) (w' : World) : Prop := ∀ g, own v = some g → w.heap.size ≤ g ∧ g < w'.heap.size

theorem Fr.slice (w : World) (o : Obj) (n c : Nat) : Fr w (.slice (some ⟨w.heap.size, 0, none⟩) n c) (w.alloc o) := fun g h => by
  simp [own] at h; subst h; simp
theorem Fr.ptr (w : World) (o : Obj) : Fr w (.pointer (some ⟨w.heap.size, 0, none⟩)) (w.alloc o) := fun g h => by
  simp [own] at h; subst h; simp
@[go_sem] def asB : Value → Option Bool
  | .bool b => some b
  | _ => none

def EnvF (ss : List St) (a0 a : Act) (w : World) : List (Tmp × Option Nat) → Prop
  | [] => True
  | (x, some j) :: r => (match ss[j]? with | some s => s.sp.says (a.eval (.tmp x)) w | none => True) ∧ EnvF ss a0 a w r
  | (x, none) :: r => a.eval (.tmp x) = a0.eval (.tmp x) ∧ EnvF ss a0 a w r

def Runs (P : Program) (Q : Exit → Act → World → Prop) (o : Oper) (gd : Option (Tmp × Bool)) (K : Act → World → Prop) (a : Act) (w : World) : Prop :=
  match gd with
  | none => o.wp P a w K Q
  | some (d, b) => if asB (a.eval (.tmp d)) = some b then o.wp P a w K Q else K (a.put o.dst undef) w

/-- Operation o does what is told of it. -/
def Ok (P : Program) (Q : Exit → Act → World → Prop) (R : World → World → Prop) (ss : List St) (a0 : Act) (w0 : World) (o : Oper) (s : St) : Prop :=
  ∀ (a : Act) (w : World) (K : Act → World → Prop), R w0 w → EnvF ss a0 a w s.env →
    (match s.sp with
     | .ex c => ∀ w', R w w' → K (a.put o.dst c) w'
     | .un p f => ∀ v w', R w w' → p v w' → (f = true → Fr w v w') → K (a.put o.dst v) w') → Runs P Q o s.gd K a w

def OkAll (P : Program) (Q : Exit → Act → World → Prop) (R : World → World → Prop) (ss : List St) (a0 : Act) (w0 : World) : List Oper → List St → Prop
  | o :: os, s :: r => Ok P Q R ss a0 w0 o s ∧ OkAll P Q R ss a0 w0 os r
  | _, _ => True

theorem OkAll.at {P : Program} {Q R ss a0 w0} : ∀ {l : List Oper} {r : List St} {i : Nat} {o : Oper} {s : St}, OkAll P Q R ss a0 w0 l r → l[i]? = some o → r[i]? = some s → Ok P Q R ss a0 w0 o s
  | [], _, _, _, _, _, h, _ => by simp at h
  | _ :: _, [], _, _, _, _, _, h => by simp at h
  | o :: os, s :: r, 0, _, _, hk, h1, h2 => by
    simp at h1 h2; subst h1; subst h2; exact hk.1
  | o :: os, s :: r, i + 1, _, _, hk, h1, h2 => OkAll.at hk.2 (by simpa using h1) (by simpa using h2)

/-- No two of these lead to one block; all lead to blocks from B on. -/
def Apart (B : Nat) (w : World) : List Value → Prop
  | [] => True
  | v :: r => (∀ g, own v = some g → B ≤ g ∧ g < w.heap.size) ∧ (∀ u ∈ r, ∀ g, own v = some g → own u ≠ some g) ∧ Apart B w r

/-- What is left behind the operations that are told of. -/
def FinR (P : Program) (l : List Oper) (Q : Exit → Act → World → Prop) (R : World → World → Prop) (w0 : World) (tail : List Oper) : List Oper → List St → Act → (World → Prop) → List Value → Prop
  | o :: os, s :: r, a, F, fr =>
    match s.sp with
    | .ex c => FinR P l Q R w0 tail os r (a.put o.dst c) F fr
    | .un p f => ∀ v, FinR P l Q R w0 tail os r (a.put o.dst v) (fun w => F w ∧ p v w) (if f then v :: fr else fr)
  | _, _, a, F, fr => ∀ w, R w0 w → F w → Apart w0.heap.size w fr → wpList P l.toArray Q tail a w

/-- What i waits for, as bits: from each operation's own edges on. -/
def msk (o : Oper) (M : List Nat) : Nat := o.after.toList.foldl (fun s e => if Region.binds .any e then s ||| 2 ^ e.on ||| M.getD e.on 0 else s) 0
def masks (l : List Oper) : List Nat := l.foldl (fun M o => M ++ [msk o M]) []
def okM (l : List Oper) (M : List Nat) : Bool := (List.range l.length).all fun i => match l[i]? with | some o => M.getD i 0 == msk o M | none => true
/-- Is j told of by what i waits for? -/
def reach (M : List Nat) (i j : Nat) : Bool := (M.getD i 0).testBit j

/-- The writer among the first m. -/
def wr (l : List Oper) (m : Nat) (x : Tmp) : Option Nat := (List.range m).find? fun j => dstAt l j == some x

def backOk (l : List Oper) : Bool := (List.range l.length).all fun i => match l[i]? with | some o => o.after.toList.all (fun e => !Region.binds .any e || decide (e.on < i)) | none => true
def dstsOk (l : List Oper) (m n : Nat) : Bool := (List.range m).all fun i => match dstAt l i with
  | some d => decide (d < n) && (List.range m).all (fun j => j == i || dstAt l j != some d)
  | none => true
def tailOk (l : List Oper) (M : List Nat) (m : Nat) : Bool := (List.range l.length).all fun i => decide (i < m) || (List.range i).all (fun j => reach M i j)
def envOk (l : List Oper) (M : List Nat) (m : Nat) (ss : List St) : Bool := (List.range m).all fun i => match l[i]?, ss[i]? with
  | some o, some s =>
    (s.env.all fun x => (match x.2 with | some j => dstAt l j == some x.1 && decide (j < m) && reach M i j | none => (List.range m).all fun j => j == i || dstAt l j != some x.1)) &&
    (match o.guard, s.gd with
     | none, none => true
     | some (g, b), some (d, b') => b == b' && dstAt l g == some d
     | _, _ => false)
  | _, _ => false
def chk (l : List Oper) (M : List Nat) (ss : List St) (n : Nat) : Bool := backOk l && dstsOk l ss.length n && tailOk l M ss.length && envOk l M ss.length ss && decide (ss.length ≤ l.length) && okM l M

structure Mid (l : List Oper) (R : World → World → Prop) (ss : List St) (a0 : Act) (w0 : World) (listed : Array Bool) (vals : Nat → Value) (a : Act) (w : World) : Prop where
  r : R w0 w
  defers : a.defers = a0.defers
  size : a.tmps.size = a0.tmps.size
  lsize : listed.size = l.length
  out : ∀ t, (∀ j, listed[j]? = some true → dstAt l j ≠ some t) → a.tmps[t]? = a0.tmps[t]?
  got : ∀ (j : Nat) s, listed[j]? = some true → ss[j]? = some s → s.sp.says (vals j) w
  at_ : ∀ j d, listed[j]? = some true → dstAt l j = some d → a.tmps[d]? = some (vals j)
  shut : ∀ (j : Nat) o, listed[j]? = some true → l[j]? = some o → ∀ e ∈ o.after, Region.binds .any e = true → listed[e.on]? = some true
  fresh : ∀ (j : Nat) s, listed[j]? = some true → ss[j]? = some s → s.sp.fr = true → ∀ g, own (vals j) = some g → w0.heap.size ≤ g ∧ g < w.heap.size
  apart : ∀ (j k : Nat) s s', listed[j]? = some true → listed[k]? = some true → j ≠ k → ss[j]? = some s → ss[k]? = some s' → s.sp.fr = true → s'.sp.fr = true → ∀ g, own (vals j) = some g → own (vals k) ≠ some g
  head : ∀ j : Nat, listed[j]? = some true → j < ss.length

theorem getD_of {a : Array Bool} {i : Nat} : a.getD i false = true ↔ a[i]? = some true := by
  simp only [Array.getD_eq_getD_getElem?]
  cases h : a[i]? with
  | none => simp
  | some b => simp

theorem msk_bit {o : Oper} {M : List Nat} {j : Nat} (h : (msk o M).testBit j = true) : ∃ e ∈ o.after, Region.binds .any e = true ∧ (e.on = j ∨ (M.getD e.on 0).testBit j = true) := by
  have key : ∀ (es : List Edge) (s : Nat), (es.foldl (fun s e => if Region.binds .any e then s ||| 2 ^ e.on ||| M.getD e.on 0 else s) s).testBit j = true →
      s.testBit j = true ∨ ∃ e ∈ es, Region.binds .any e = true ∧ (e.on = j ∨ (M.getD e.on 0).testBit j = true) := by
    intro es
    induction es with
    | nil => intro s h; exact .inl h
    | cons e es ih =>
      intro s h
      rw [List.foldl_cons] at h
      rcases ih _ h with h1 | ⟨e', he', hb⟩
      · by_cases hb : Region.binds .any e = true
        · rw [if_pos hb] at h1
          simp only [Nat.testBit_or, Bool.or_eq_true, Nat.testBit_two_pow, decide_eq_true_eq] at h1
          rcases h1 with (h1 | h1) | h1
          · exact .inl h1
          · exact .inr ⟨e, by simp, hb, .inl h1⟩
          · exact .inr ⟨e, by simp, hb, .inr h1⟩
        · rw [if_neg hb] at h1; exact .inl h1
      · exact .inr ⟨e', by simp [he'], hb⟩
  rcases key o.after.toList 0 h with h | ⟨e, he, hb⟩
  · simp at h
  · exact ⟨e, Array.mem_toList_iff.1 he, hb⟩

theorem okM_get {l : List Oper} {M : List Nat} (h : okM l M = true) {i : Nat} {o : Oper} (ho : l[i]? = some o) : M.getD i 0 = msk o M := by
  simp only [okM, List.all_eq_true, List.mem_range] at h
  have := h i (List.getElem?_eq_some_iff.1 ho).1
  rw [ho] at this
  simpa using this

theorem reach_of {l : List Oper} {M : List Nat} {L : Nat → Prop} (hM : okM l M = true) (hb : backOk l = true) (hl : ∀ j, L j → j < l.length) (hs : ∀ (j : Nat) o, L j → l[j]? = some o → ∀ e ∈ o.after, Region.binds .any e = true → L e.on) :
    ∀ (n i j : Nat), i ≤ n → L i → reach M i j = true → L j := by
  intro n
  induction n with
  | zero =>
    intro i j hi hL hr
    obtain rfl : i = 0 := by omega
    have ho := List.getElem?_eq_getElem (hl 0 hL)
    rw [reach, okM_get hM ho] at hr
    obtain ⟨e, he, hbb, hc⟩ := msk_bit hr
    simp only [backOk, List.all_eq_true, List.mem_range] at hb
    have := hb 0 (hl 0 hL)
    rw [ho] at this
    simp only [List.all_eq_true] at this
    have := this e (Array.mem_toList_iff.2 he)
    simp [hbb] at this
  | succ n ih =>
    intro i j hi hL hr
    have ho := List.getElem?_eq_getElem (hl i hL)
    rw [reach, okM_get hM ho] at hr
    obtain ⟨e, he, hbb, hc⟩ := msk_bit hr
    have hLe := hs i _ hL ho e he hbb
    rcases hc with rfl | hc
    · exact hLe
    · simp only [backOk, List.all_eq_true, List.mem_range] at hb
      have := hb i (hl i hL)
      rw [ho] at this
      simp only [List.all_eq_true] at this
      have := this e (Array.mem_toList_iff.2 he)
      simp only [hbb, Bool.not_true, Bool.false_or, decide_eq_true_eq] at this
      exact ih e.on j (by omega) hLe hc

/-- What waits for what has come up, if it may come up itself. -/
theorem ready_reach {l : List Oper} {M : List Nat} {listed : Array Bool} (hM : okM l M = true) (hb : backOk l = true) (hsz : listed.size = l.length) (hs : ∀ (j : Nat) o, listed[j]? = some true → l[j]? = some o → ∀ e ∈ o.after, Region.binds .any e = true → listed[e.on]? = some true)
    {i : Nat} (hr : i ∈ Region.ready .any l.toArray listed) (j : Nat) (h : reach M i j = true) : listed[j]? = some true := by
  obtain ⟨_, o, ho, hall⟩ := mem_ready.1 hr
  have ho' : l[i]? = some o := by simpa using ho
  rw [reach, okM_get hM ho'] at h
  obtain ⟨e, he, hbb, hc⟩ := msk_bit h
  have h1 := getD_of.1 (hall e he hbb)
  rcases hc with rfl | hc
  · exact h1
  · exact reach_of (L := fun k => listed[k]? = some true) hM hb (fun k hk => by have := (Array.getElem?_eq_some_iff.1 hk).1; omega) hs e.on e.on j (Nat.le_refl _) h1 hc

theorem not_ready_nil {l : List Oper} {listed : Array Bool} (hb : backOk l = true) (hsz : listed.size = l.length) {i : Nat} (hi : listed[i]? = some false) :
    Region.ready .any l.toArray listed ≠ [] := by
  -- the least that has not come up
  have key : ∀ (n i : Nat), i ≤ n → listed[i]? = some false → ∃ k, k ∈ Region.ready .any l.toArray listed := by
    intro n
    induction n with
    | zero =>
      intro i hi h
      obtain rfl : i = 0 := by omega
      have hlt : 0 < l.length := by rw [← hsz]; exact (Array.getElem?_eq_some_iff.1 h).1
      refine ⟨0, mem_ready.2 ⟨by simp [Array.getD_eq_getD_getElem?, h], l[0], by simp [hlt], fun e he hbb => ?_⟩⟩
      simp only [backOk, List.all_eq_true, List.mem_range] at hb
      have := hb 0 hlt
      simp only [List.getElem?_eq_getElem hlt, List.all_eq_true] at this
      have := this e (Array.mem_toList_iff.2 he)
      simp [hbb] at this
    | succ n ih =>
      intro i hin h
      by_cases hex : ∃ k, k < i ∧ listed[k]? = some false
      · obtain ⟨k, hk, hf⟩ := hex
        exact ih k (by omega) hf
      · have hlt : i < l.length := by rw [← hsz]; exact (Array.getElem?_eq_some_iff.1 h).1
        refine ⟨i, mem_ready.2 ⟨by simp [Array.getD_eq_getD_getElem?, h], l[i], by simp [hlt], fun e he hbb => ?_⟩⟩
        simp only [backOk, List.all_eq_true, List.mem_range] at hb
        have := hb i hlt
        simp only [List.getElem?_eq_getElem hlt, List.all_eq_true] at this
        have := this e (Array.mem_toList_iff.2 he)
        simp only [hbb, Bool.not_true, Bool.false_or, decide_eq_true_eq] at this
        rw [getD_of]
        have he2 : e.on < listed.size := by omega
        cases hv : listed[e.on]? with
        | none => rw [Array.getElem?_eq_none_iff] at hv; omega
        | some b =>
          cases b with
          | true => rfl
          | false => exact absurd ⟨e.on, this, hv⟩ hex
  obtain ⟨k, hk⟩ := key i i (Nat.le_refl _) hi
  intro h0
  rw [h0] at hk; cases hk

section
variable {P : Program} {Q : Exit → Act → World → Prop} {l : List Oper}

theorem wpOp_of {i : Nat} {o : Oper} {K : Act → World → Prop} {a : Act} {w : World} (ho : l[i]? = some o) :
    wpOp P l.toArray Q i K a w = (if Region.wanted o (yielded l.toArray a.tmps) then o.wp P a w K Q ∨ (o.asks P a w ∧ LetsOut Q) else K (a.put o.dst undef) w) := by
  simp [wpOp, ho]

theorem any_tail {m : Nat} {M : List Nat} (hM : okM l M = true) (hb : backOk l = true) (ht : tailOk l M m = true) : ∀ (d k : Nat) (listed : Array Bool) (a : Act) (w : World), k + d = l.length → m ≤ k → listed.size = l.length →
    (∀ j, j < k → listed[j]? = some true) → (∀ j, k ≤ j → j < l.length → listed[j]? = some false) → wpList P l.toArray Q (l.drop k) a w → wpAny P .any l.toArray Q d listed a w := by
  intro d
  induction d with
  | zero =>
    intro k listed a w hk _ hsz hT _ h
    refine ⟨?_, ?_⟩
    · unfold Region.ready
      rw [List.filter_eq_nil_iff]
      intro j hj
      simp only [List.mem_range, List.size_toArray] at hj
      have := hT j (by omega)
      simp [Array.getD_eq_getD_getElem?, this]
    · have e : l.drop k = [] := by rw [List.drop_eq_nil_iff]; omega
      rw [e] at h; exact h
  | succ d ih =>
    intro k listed a w hk hm hsz hT hF h
    have hlt : k < l.length := by omega
    refine ⟨fun h0 => absurd h0 (not_ready_nil hb hsz (hF k (Nat.le_refl _) hlt)), fun i hi => ?_⟩
    obtain ⟨hun, o, ho, hall⟩ := mem_ready.1 hi
    have ho' : l[i]? = some o := by simpa using ho
    have hil : i < l.length := (List.getElem?_eq_some_iff.1 ho').1
    have hki : i = k := by
      rcases Nat.lt_trichotomy i k with hlt' | he | hgt
      · have := hT i hlt'; simp [Array.getD_eq_getD_getElem?, this] at hun
      · exact he
      · exfalso
        simp only [tailOk, List.all_eq_true, List.mem_range] at ht
        have h1 := ht i hil
        simp only [Bool.or_eq_true, decide_eq_true_eq, List.all_eq_true, List.mem_range] at h1
        have h2 := (h1.resolve_left (by omega)) k hgt
        have hs : ∀ (j : Nat) o, listed[j]? = some true → l[j]? = some o → ∀ e ∈ o.after, Region.binds .any e = true → listed[e.on]? = some true := by
          intro j oj hj hoj e he hbb
          have hjk : j < k := by
            rcases Nat.lt_or_ge j k with h | h
            · exact h
            · have := hF j h (List.getElem?_eq_some_iff.1 hoj).1; rw [hj] at this; cases this
          simp only [backOk, List.all_eq_true, List.mem_range] at hb
          have := hb j (by omega)
          simp only [hoj, List.all_eq_true] at this
          have := this e (Array.mem_toList_iff.2 he)
          simp only [hbb, Bool.not_true, Bool.false_or, decide_eq_true_eq] at this
          exact hT _ (by omega)
        have h3 := ready_reach hM hb hsz hs hi k h2
        rw [hF k (Nat.le_refl _) hlt] at h3; cases h3
    subst hki
    rw [wpOp_of ho']
    have hd : l.drop i = o :: l.drop (i + 1) := by
      rw [List.drop_eq_getElem_cons hlt]
      congr 1
      exact (List.getElem?_eq_some_iff.1 ho').2
    rw [hd] at h
    unfold wpList at h
    have hnext : ∀ a w, wpList P l.toArray Q (l.drop (i + 1)) a w → wpAny P .any l.toArray Q d (listed.setIfInBounds i true) a w := by
      intro a w h
      refine ih (i + 1) _ a w (by omega) (by omega) (by simpa using hsz) ?_ ?_ h
      · intro j hj
        by_cases e : i = j
        · subst e; simp [hsz, hlt]
        · rw [Array.getElem?_setIfInBounds_ne e]; exact hT j (by omega)
      · intro j hj hjl
        rw [Array.getElem?_setIfInBounds_ne (by omega)]; exact hF j (by omega) hjl
    split
    · rename_i hw
      rw [if_pos hw] at h
      exact h.imp (fun h => Oper.wp_mono hnext h) id
    · rename_i hw
      rw [if_neg hw] at h
      exact hnext _ _ h

def puts (l : List Oper) (vals : Nat → Value) : Nat → Nat → Act → Act
  | _, 0, a => a
  | k, n + 1, a => puts l vals (k + 1) n (a.put (dstAt l k) (vals k))

theorem put_size (a : Act) (d : Option Tmp) (v : Value) : (a.put d v).tmps.size = a.tmps.size := by cases d <;> simp [Act.put]
theorem put_defers' (a : Act) (d : Option Tmp) (v : Value) : (a.put d v).defers = a.defers := by cases d <;> rfl

theorem puts_size (vals : Nat → Value) : ∀ (n k : Nat) (a : Act), (puts l vals k n a).tmps.size = a.tmps.size
  | 0, _, _ => rfl
  | n + 1, k, a => by rw [puts, puts_size vals n, put_size]
theorem puts_defers (vals : Nat → Value) : ∀ (n k : Nat) (a : Act), (puts l vals k n a).defers = a.defers
  | 0, _, _ => rfl
  | n + 1, k, a => by rw [puts, puts_defers vals n, put_defers']

theorem puts_get (vals : Nat → Value) : ∀ (n k : Nat) (a : Act) (t : Nat),
    (∀ j, k ≤ j → j < k + n → ∀ i, k ≤ i → i < k + n → i ≠ j → dstAt l i = some t → dstAt l j ≠ some t) → t < a.tmps.size →
    ((∀ j, k ≤ j → j < k + n → dstAt l j = some t → (puts l vals k n a).tmps[t]? = some (vals j)) ∧
     ((∀ j, k ≤ j → j < k + n → dstAt l j ≠ some t) → (puts l vals k n a).tmps[t]? = a.tmps[t]?)) := by
  intro n
  induction n with
  | zero => intro k a t _ _; exact ⟨fun j h1 h2 => by omega, fun _ => rfl⟩
  | succ n ih =>
    intro k a t hd ht
    obtain ⟨h1, h2⟩ := ih (k + 1) (a.put (dstAt l k) (vals k)) t (fun j a1 a2 i b1 b2 => hd j (by omega) (by omega) i (by omega) (by omega)) (by rw [put_size]; exact ht)
    refine ⟨fun j hj hj2 hdj => ?_, fun hno => ?_⟩
    · rcases Nat.eq_or_lt_of_le hj with e | hlt
      · subst e
        have hno : ∀ j, k + 1 ≤ j → j < k + 1 + n → dstAt l j ≠ some t := fun j a1 a2 => hd j (by omega) (by omega) k (Nat.le_refl _) (by omega) (by omega) hdj
        rw [puts, h2 hno, hdj]
        simp [Act.put, ht]
      · rw [puts, h1 j (by omega) (by omega) hdj]
    · rw [puts, h2 (fun j a1 a2 => hno j (by omega) (by omega))]
      have := hno k (Nat.le_refl _) (by omega)
      cases hk : dstAt l k with
      | none => simp [Act.put]
      | some d =>
        have hne : d ≠ t := fun e => this (by rw [hk, e])
        simp [Act.put, Array.getElem?_setIfInBounds_ne hne]

theorem fin_use {R : World → World → Prop} {w0 : World} {tail : List Oper} {vals : Nat → Value} {w : World} (hR : R w0 w) :
    ∀ (os : List Oper) (r : List St) (k : Nat) (a : Act) (F : World → Prop) (fr : List Value), (∀ j o, os[j]? = some o → l[k + j]? = some o) → r.length ≤ os.length → FinR P l Q R w0 tail os r a F fr → F w →
      (∀ (j : Nat) (s : St), r[j]? = some s → s.sp.says (vals (k + j)) w) → Apart w0.heap.size w fr →
      (∀ j s, r[j]? = some s → s.sp.fr = true → (∀ g, own (vals (k + j)) = some g → w0.heap.size ≤ g ∧ g < w.heap.size) ∧ (∀ u ∈ fr, ∀ g, own (vals (k + j)) = some g → own u ≠ some g)) →
      (∀ i j s s', r[i]? = some s → r[j]? = some s' → i < j → s.sp.fr = true → s'.sp.fr = true → ∀ g, own (vals (k + j)) = some g → own (vals (k + i)) ≠ some g) →
      wpList P l.toArray Q tail (puts l vals k r.length a) w := by
  intro os
  induction os with
  | nil =>
    intro r k a F fr _ hl h hF hs hA _ _
    have : r = [] := by cases r with | nil => rfl | cons _ _ => simp at hl
    subst this
    simp only [FinR] at h
    exact h w hR hF hA
  | cons o os ih =>
    intro r k a F fr ho hl h hF hs hA hfr hap
    cases r with
    | nil => simp only [FinR] at h; exact h w hR hF hA
    | cons s r =>
      have hlo : l[k]? = some o := by simpa using ho 0 o rfl
      have hdst : dstAt l k = o.dst := by simp [dstAt, hlo]
      have h0 : s.sp.says (vals k) w := by simpa using hs 0 s rfl
      have ho' : ∀ j o', os[j]? = some o' → l[k + 1 + j]? = some o' := fun j o' hj => by have := ho (j + 1) o' (by simpa using hj); rwa [show k + (j + 1) = k + 1 + j from by omega] at this
      have hs' : ∀ (j : Nat) (s' : St), r[j]? = some s' → s'.sp.says (vals (k + 1 + j)) w := fun j s' hj => by have := hs (j + 1) s' (by simpa using hj); rwa [show k + (j + 1) = k + 1 + j from by omega] at this
      have hap' : ∀ i j s s', r[i]? = some s → r[j]? = some s' → i < j → s.sp.fr = true → s'.sp.fr = true → ∀ g, own (vals (k + 1 + j)) = some g → own (vals (k + 1 + i)) ≠ some g := fun i j s s' hi hj hij f1 f2 g => by
        have := hap (i + 1) (j + 1) s s' (by simpa using hi) (by simpa using hj) (by omega) f1 f2 g
        rwa [show k + (j + 1) = k + 1 + j from by omega, show k + (i + 1) = k + 1 + i from by omega] at this
      have hfr' : ∀ j s', r[j]? = some s' → s'.sp.fr = true → (∀ g, own (vals (k + 1 + j)) = some g → w0.heap.size ≤ g ∧ g < w.heap.size) ∧ (∀ u ∈ fr, ∀ g, own (vals (k + 1 + j)) = some g → own u ≠ some g) := fun j s' hj f => by
        have := hfr (j + 1) s' (by simpa using hj) f
        rwa [show k + (j + 1) = k + 1 + j from by omega] at this
      simp only [List.length_cons, puts, hdst]
      simp only [FinR] at h
      cases hsp : s.sp with
      | ex c =>
        rw [hsp] at h h0
        simp only [Sp.says] at h0
        simp only [] at h
        rw [h0]
        exact ih r (k + 1) _ F fr ho' (by simpa using hl) h hF hs' hA hfr' hap'
      | un p f =>
        rw [hsp] at h h0
        simp only [Sp.says] at h0
        simp only [] at h
        refine ih r (k + 1) _ _ _ ho' (by simpa using hl) (h (vals k)) ⟨hF, h0⟩ hs' ?_ ?_ hap'
        · cases f with
          | false => exact hA
          | true =>
            have := hfr 0 s rfl (by simp [hsp, Sp.fr])
            exact ⟨by simpa using this.1, fun u hu g hg => this.2 u hu g (by simpa using hg), hA⟩
        · intro j s' hj f'
          have h1 := hfr' j s' hj f'
          refine ⟨h1.1, ?_⟩
          cases f with
          | false => exact h1.2
          | true =>
            intro u hu g hg
            simp only [if_true, List.mem_cons] at hu
            rcases hu with rfl | hu
            · have := hap 0 (j + 1) s s' rfl (by simpa using hj) (by omega) (by simp [hsp, Sp.fr]) f' g (by rw [show k + (j + 1) = k + 1 + j from by omega]; exact hg)
              simpa using this
            · exact h1.2 u hu g hg

theorem count_set {L : List Bool} : ∀ {i : Nat}, L[i]? = some false → (L.set i true).count false + 1 = L.count false := by
  induction L with
  | nil => intro i h; simp at h
  | cons b L ih =>
    intro i h
    cases i with
    | zero => simp at h; subst h; simp
    | succ i =>
      have := ih (i := i) (by simpa using h)
      simp only [List.set_cons_succ, List.count_cons]
      omega

theorem Mid.says_dep {R : World → World → Prop} {ss : List St} {a0 : Act} {w0 : World} {listed vals a w} (h : Mid l R ss a0 w0 listed vals a w) :
    ∀ (env : List (Tmp × Option Nat)), (∀ x ∈ env, match x.2 with | some j => dstAt l j = some x.1 ∧ listed[j]? = some true | none => a.eval (.tmp x.1) = a0.eval (.tmp x.1)) → EnvF ss a0 a w env
  | [], _ => trivial
  | (x, some j) :: r, hx => by
    have h1 := hx (x, some j) (by simp)
    refine ⟨?_, h.says_dep r fun y hy => hx y (by simp [hy])⟩
    cases hs : ss[j]? with
    | none => trivial
    | some s =>
      have h2 := h.at_ j x h1.2 h1.1
      have : a.eval (.tmp x) = vals j := by simp [Act.eval, h2]
      simp only [this]
      exact h.got j s h1.2 hs
  | (x, none) :: r, hx => ⟨hx (x, none) (by simp), h.says_dep r fun y hy => hx y (by simp [hy])⟩

/-- **A region that draws its order.** -/
theorem any_head {M : List Nat} {R : World → World → Prop} {ss : List St} {a0 : Act} {w0 : World} (hrt : ∀ a b c, R a b → R b c → R a c) (hrs : ∀ a b, R a b → a.heap.size ≤ b.heap.size)
    (hst : ∀ s ∈ ss, ∀ p f, s.sp = .un p f → ∀ v w w', p v w → R w w' → p v w') (hc : chk l M ss a0.tmps.size = true)
    (hok : OkAll P Q R ss a0 w0 l ss) (hfin : FinR P l Q R w0 (l.drop ss.length) l ss a0 (fun _ => True) []) :
    ∀ (d : Nat) (listed : Array Bool) (vals : Nat → Value) (a : Act) (w : World), listed.toList.count false = d → Mid l R ss a0 w0 listed vals a w → wpAny P .any l.toArray Q d listed a w := by
  simp only [chk, Bool.and_eq_true, decide_eq_true_eq] at hc
  obtain ⟨⟨⟨⟨⟨hback, hdst⟩, htail⟩, henv⟩, hlen⟩, hM⟩ := hc
  simp only [dstsOk, List.all_eq_true, List.mem_range] at hdst
  have hdlt : ∀ i d, i < ss.length → dstAt l i = some d → d < a0.tmps.size ∧ ∀ j, j < ss.length → j ≠ i → dstAt l j ≠ some d := by
    intro i d hi hd
    have := hdst i hi
    simp only [hd, Bool.and_eq_true, decide_eq_true_eq, List.all_eq_true, List.mem_range, Bool.or_eq_true, beq_iff_eq, bne_iff_ne] at this
    exact ⟨this.1, fun j hj hne => (this.2 j hj).resolve_left hne⟩
  have hall : ∀ (d : Nat) (listed : Array Bool) (vals : Nat → Value) (a : Act) (w : World), listed.toList.count false = d → Mid l R ss a0 w0 listed vals a w →
      (∀ j, j < ss.length → listed[j]? = some true) → wpAny P .any l.toArray Q d listed a w := by
    intro d listed vals a w hd hmid hT
    have hF : ∀ j, ss.length ≤ j → j < l.length → listed[j]? = some false := by
      intro j hj hjl
      have hlt : j < listed.size := by rw [hmid.lsize]; exact hjl
      cases hv : listed[j]? with
      | none => rw [Array.getElem?_eq_none_iff] at hv; omega
      | some b =>
        cases b with
        | true => have := hmid.head j hv; omega
        | false => rfl
    have hshape : listed.toList = List.replicate ss.length true ++ List.replicate (l.length - ss.length) false := by
      apply List.ext_getElem?
      intro j
      rw [Array.getElem?_toList]
      rcases Nat.lt_or_ge j ss.length with h | h
      · rw [hT j h, List.getElem?_append_left (by simpa using h)]; simp [h]
      · rw [List.getElem?_append_right (by simpa using h), List.length_replicate, List.getElem?_replicate]
        rcases Nat.lt_or_ge j l.length with h' | h'
        · rw [hF j h h', if_pos (by omega)]
        · rw [if_neg (by omega), Array.getElem?_eq_none_iff, hmid.lsize]; exact h'
    have hdn : d = l.length - ss.length := by
      rw [← hd, hshape, List.count_append, List.count_replicate, List.count_replicate]; simp
    have hact : a = puts l vals 0 ss.length a0 := by
      have e1 : a.tmps = (puts l vals 0 ss.length a0).tmps := by
        apply Array.ext_getElem?
        intro t
        rcases Nat.lt_or_ge t a0.tmps.size with ht | ht
        · obtain ⟨h1, h2⟩ := puts_get (l := l) vals ss.length 0 a0 t (fun j _ hj i _ hi hne hdi => (hdlt i t (by omega) hdi).2 j (by omega) (Ne.symm hne)) ht
          by_cases hex : ∃ j, j < ss.length ∧ dstAt l j = some t
          · obtain ⟨j, hj, hdj⟩ := hex
            rw [h1 j (Nat.zero_le _) (by omega) hdj]
            exact hmid.at_ j t (hT j hj) hdj
          · rw [h2 fun j _ hj hdj => hex ⟨j, by omega, hdj⟩]
            exact hmid.out t fun j hj hdj => hex ⟨j, hmid.head j hj, hdj⟩
        · rw [Array.getElem?_eq_none_iff.2 (by rw [hmid.size]; exact ht), Array.getElem?_eq_none_iff.2 (by rw [puts_size]; exact ht)]
      have e2 : a.defers = (puts l vals 0 ss.length a0).defers := by rw [puts_defers]; exact hmid.defers
      cases a
      cases hp : puts l vals 0 ss.length a0
      rw [hp] at e1 e2
      simp only at e1 e2
      rw [e1, e2]
    refine any_tail hM hback htail d ss.length listed a w (by omega) (Nat.le_refl _) hmid.lsize hT hF ?_
    rw [hact]
    refine fin_use hmid.r l ss 0 a0 _ [] (fun j o h => by simpa using h) hlen hfin trivial (fun j s hj => ?_) trivial (fun j s hj f => ⟨?_, fun u hu => by cases hu⟩) (fun i j s s' hi hj hij f f' => ?_)
    · simp only [Nat.zero_add]
      exact hmid.got j s (hT j (List.getElem?_eq_some_iff.1 hj).1) hj
    · simp only [Nat.zero_add]
      exact hmid.fresh j s (hT j (List.getElem?_eq_some_iff.1 hj).1) hj f
    · simp only [Nat.zero_add]
      exact hmid.apart j i s' s (hT j (List.getElem?_eq_some_iff.1 hj).1) (hT i (List.getElem?_eq_some_iff.1 hi).1) (by omega) hj hi f' f
  intro d
  induction d with
  | zero =>
    intro listed vals a w hd hmid
    refine hall 0 listed vals a w hd hmid fun j hj => ?_
    cases hv : listed[j]? with
    | none => rw [Array.getElem?_eq_none_iff, hmid.lsize] at hv; omega
    | some b =>
      cases b with
      | true => rfl
      | false =>
        have : false ∈ listed.toList := List.mem_of_getElem? (by rw [Array.getElem?_toList]; exact hv)
        have := List.count_pos_iff.2 this
        omega
  | succ d ih =>
    intro listed vals a w hd hmid
    by_cases hT : ∀ j, j < ss.length → listed[j]? = some true
    · exact hall _ listed vals a w hd hmid hT
    · have hex : ∃ j, j < ss.length ∧ listed[j]? = some false := by
        apply Classical.byContradiction
        intro hne
        apply hT
        intro j hj
        cases hv : listed[j]? with
        | none => rw [Array.getElem?_eq_none_iff, hmid.lsize] at hv; omega
        | some b =>
          cases b with
          | true => rfl
          | false => exact absurd ⟨j, hj, hv⟩ hne
      obtain ⟨j0, hj0, hf0⟩ := hex
      refine ⟨fun h0 => absurd h0 (not_ready_nil hback hmid.lsize hf0), fun i hi => ?_⟩
      obtain ⟨hun, o, ho, hafter⟩ := mem_ready.1 hi
      have ho' : l[i]? = some o := by simpa using ho
      have hil : i < l.length := (List.getElem?_eq_some_iff.1 ho').1
      have hli : listed[i]? = some false := by
        cases hv : listed[i]? with
        | none => rw [Array.getElem?_eq_none_iff, hmid.lsize] at hv; omega
        | some b =>
          cases b with
          | true => simp [Array.getD_eq_getD_getElem?, hv] at hun
          | false => rfl
      have him : i < ss.length := by
        rcases Nat.lt_or_ge i ss.length with h | h
        · exact h
        · exfalso
          simp only [tailOk, List.all_eq_true, List.mem_range] at htail
          have h1 := htail i hil
          simp only [Bool.or_eq_true, decide_eq_true_eq, List.all_eq_true, List.mem_range] at h1
          have h2 := (h1.resolve_left (by omega)) j0 (by omega)
          have h3 := ready_reach hM hback hmid.lsize hmid.shut hi j0 h2
          rw [hf0] at h3; cases h3
      have hsi : ss[i]? = some ss[i] := List.getElem?_eq_getElem him
      generalize ss[i] = s at hsi
      -- what is known of the temporaries that it looks at
      simp only [envOk, List.all_eq_true, List.mem_range] at henv
      have hen := henv i him
      simp only [ho', hsi, Bool.and_eq_true, List.all_eq_true] at hen
      obtain ⟨hen1, hen2⟩ := hen
      have hEnv : EnvF ss a0 a w s.env := hmid.says_dep s.env fun x hx => by
        have := hen1 x hx
        obtain ⟨t, y⟩ := x
        cases y with
        | some j =>
          simp only [Bool.and_eq_true, beq_iff_eq, decide_eq_true_eq] at this ⊢
          exact ⟨this.1.1, ready_reach hM hback hmid.lsize hmid.shut hi j this.2⟩
        | none =>
          simp only [List.all_eq_true, List.mem_range, Bool.or_eq_true, beq_iff_eq, bne_iff_ne] at this ⊢
          have := hmid.out t fun j hj hdj => by
            rcases this j (hmid.head j hj) with e | h
            · subst e; rw [hli] at hj; cases hj
            · exact h hdj
          simp [Act.eval, this]
      have hnext : ∀ (v : Value) (w' : World), R w w' → s.sp.says v w' → (s.sp.fr = true → Fr w v w') → wpAny P .any l.toArray Q d (listed.setIfInBounds i true) (a.put o.dst v) w' := by
        intro v w' hRw hsay hfresh
        have hset : ∀ (j : Nat), (listed.setIfInBounds i true)[j]? = some true → j = i ∨ (j ≠ i ∧ listed[j]? = some true) := by
          intro j hj
          by_cases e : j = i
          · exact .inl e
          · rw [Array.getElem?_setIfInBounds_ne (Ne.symm e)] at hj; exact .inr ⟨e, hj⟩
        have hsetI : (listed.setIfInBounds i true)[i]? = some true := by simp [hmid.lsize, hil]
        have hsetJ : ∀ (j : Nat), listed[j]? = some true → (listed.setIfInBounds i true)[j]? = some true := by
          intro j hj
          by_cases e : j = i
          · subst e; exact hsetI
          · rw [Array.getElem?_setIfInBounds_ne (Ne.symm e)]; exact hj
        have hdi : dstAt l i = o.dst := by simp [dstAt, ho']
        refine ih (listed.setIfInBounds i true) (fun j => if j = i then v else vals j) _ w' ?_ ?_
        · have := count_set (L := listed.toList) (i := i) (by rw [Array.getElem?_toList]; exact hli)
          rw [Array.toList_setIfInBounds]; omega
        · refine ⟨hrt _ _ _ hmid.r hRw, ?_, ?_, ?_, ?_, ?_, ?_, ?_, ?_, ?_, ?_⟩
          · rw [put_defers']; exact hmid.defers
          · rw [put_size]; exact hmid.size
          · simpa using hmid.lsize
          · intro t ht
            have h1 := hmid.out t fun j hj => ht j (hsetJ j hj)
            have h2 := ht i hsetI
            rw [hdi] at h2
            cases hdd : o.dst with
            | none => simpa [Act.put] using h1
            | some d' =>
              have hne : d' ≠ t := fun e => h2 (by rw [hdd, e])
              simp only [Act.put]
              rw [Array.getElem?_setIfInBounds_ne hne]; exact h1
          · intro j s' hj hs'
            rcases hset j hj with e | ⟨hne, hj'⟩
            · subst e
              rw [hsi] at hs'; cases hs'
              simpa using hsay
            · simp only [hne, if_false]
              have := hmid.got j s' hj' hs'
              cases hsp : s'.sp with
              | ex c => rw [hsp] at this; exact this
              | un p f => rw [hsp] at this; exact hst s' (List.mem_of_getElem? hs') p f hsp _ _ _ this hRw
          · intro j d' hj hdj
            rcases hset j hj with e | ⟨hne, hj'⟩
            · subst e
              rw [hdi] at hdj
              have hlt := (hdlt j d' him (by rw [hdi]; exact hdj)).1
              simp [Act.put, hdj, hmid.size, hlt]
            · simp only [hne, if_false]
              have h1 := hmid.at_ j d' hj' hdj
              have h2 := (hdlt j d' (hmid.head j hj') hdj).2 i him (Ne.symm hne)
              rw [hdi] at h2
              cases hdd : o.dst with
              | none => simpa [Act.put] using h1
              | some d2 =>
                have hne2 : d2 ≠ d' := fun e => h2 (by rw [hdd, e])
                simp only [Act.put]
                rw [Array.getElem?_setIfInBounds_ne hne2]; exact h1
          · intro j o' hj ho2 e he hb
            rcases hset j hj with e' | ⟨hne, hj'⟩
            · subst e'
              rw [ho'] at ho2; cases ho2
              exact hsetJ _ (getD_of.1 (hafter e he hb))
            · exact hsetJ _ (hmid.shut j o' hj' ho2 e he hb)
          · intro j s' hj hs' hf g hg
            rcases hset j hj with e | ⟨hne, hj'⟩
            · subst e
              rw [hsi] at hs'; cases hs'
              simp only [if_true] at hg
              have := hfresh hf g hg
              exact ⟨Nat.le_trans (hrs _ _ hmid.r) this.1, this.2⟩
            · simp only [hne, if_false] at hg
              have := hmid.fresh j s' hj' hs' hf g hg
              exact ⟨this.1, Nat.lt_of_lt_of_le this.2 (hrs _ _ hRw)⟩
          · intro j k s1 s2 hj hk hjk h1 h2 f1 f2 g hg
            rcases hset j hj with e | ⟨hne, hj'⟩
            · subst e
              simp only [if_true] at hg
              rw [hsi] at h1; cases h1
              have hk' := (hset k hk).resolve_left (Ne.symm hjk)
              simp only [hk'.1, if_false]
              intro hg2
              have a1 := hfresh f1 g hg
              have a2 := hmid.fresh k s2 hk'.2 h2 f2 g hg2
              omega
            · simp only [hne, if_false] at hg
              rcases hset k hk with e | ⟨hne2, hk'⟩
              · subst e
                simp only [if_true]
                rw [hsi] at h2; cases h2
                intro hg2
                have a1 := hfresh f2 g hg2
                have a2 := hmid.fresh j s1 hj' h1 f1 g hg
                omega
              · simp only [hne2, if_false]
                exact hmid.apart j k s1 s2 hj' hk' hjk h1 h2 f1 f2 g hg
          · intro j hj
            rcases hset j hj with e | ⟨hne, hj'⟩
            · subst e; exact him
            · exact hmid.head j hj'
      have hOk := hok.at ho' hsi a w (wpAny P .any l.toArray Q d (listed.setIfInBounds i true)) hmid.r hEnv (by
        cases hsp : s.sp with
        | ex c => exact fun w' hRw => hnext c w' hRw (by rw [hsp]; rfl) (by rw [hsp]; intro h; cases h)
        | un p f => exact fun v w' hRw hp hf => hnext v w' hRw (by rw [hsp]; exact hp) (by rw [hsp]; exact hf))
      rw [wpOp_of ho']
      unfold Runs at hOk
      cases hg : o.guard with
      | none =>
        rw [hg] at hen2
        have hgd : s.gd = none := by cases h : s.gd with | none => rfl | some x => rw [h] at hen2; simp at hen2
        rw [hgd] at hOk
        simp only [Region.wanted, hg, if_true]
        exact .inl hOk
      | some gb =>
        obtain ⟨g, b⟩ := gb
        rw [hg] at hen2
        cases hgd : s.gd with
        | none => rw [hgd] at hen2; simp at hen2
        | some db =>
          obtain ⟨d', b'⟩ := db
          rw [hgd] at hen2 hOk
          simp only [Bool.and_eq_true, beq_iff_eq] at hen2
          obtain ⟨rfl, hdg⟩ := hen2
          have hy : yielded l.toArray a.tmps g = asB (a.eval (.tmp d')) := by
            unfold yielded
            have e1 : ((l.toArray[g]?).bind (·.dst)) = some d' := by simpa [dstAt] using hdg
            rw [e1]
            simp only [Option.bind_some, Act.eval]
            cases hv : a.tmps[d']? with
            | none => simp [hv, asB, undef]
            | some v => cases v <;> simp [hv, asB]
          simp only [Region.wanted, hg, hy]
          simp only at hOk
          by_cases hh : asB (a.eval (.tmp d')) = some b
          · rw [if_pos hh] at hOk
            rw [if_pos (by simp [hh])]
            exact .inl hOk
          · rw [if_neg hh] at hOk
            rw [if_neg (by simpa using hh)]
            exact hOk

/-- **A REGION THAT DRAWS ITS ORDER: one goal for each operation, and one for what is left.** -/
theorem wp_region_rel {id : Nat} {M : List Nat} {R : World → World → Prop} (ss : List St) {a0 : Act} {w : World} (hm : P.follows .mixedOrders = true) (hrt : ∀ a b c, R a b → R b c → R a c) (hrs : ∀ a b, R a b → a.heap.size ≤ b.heap.size)
    (hr0 : R w.drew w.drew) (hst : ∀ s ∈ ss, ∀ p f, s.sp = .un p f → ∀ v w w', p v w → R w w' → p v w') (hc : chk l M ss a0.tmps.size = true)
    (hok : OkAll P Q R ss a0 w.drew l ss) (hfin : FinR P l Q R w.drew (l.drop ss.length) l ss a0 (fun _ => True) []) : (Code.region id l.toArray true).wp P Q a0 w := by
  refine wp_region_any hm ?_
  have hno : ∀ (j : Nat), (Array.replicate l.length false)[j]? ≠ some true := by
    intro j h
    rw [Array.getElem?_replicate] at h
    split at h <;> simp at h
  refine any_head hrt hrs hst hc hok hfin l.toArray.size _ (fun _ => undef) a0 w.drew (by simp) ?_
  rw [List.size_toArray]
  exact ⟨hr0, rfl, rfl, by simp, fun _ _ => rfl, fun j _ h => absurd h (hno j), fun j _ h => absurd h (hno j), fun j _ h => absurd h (hno j), fun j _ h => absurd h (hno j), fun j _ _ _ h => absurd h (hno j), fun j h => absurd h (hno j)⟩

abbrev En := List (Tmp × Option Nat) × Option (Tmp × Bool)
def mk : List En → List Sp → List St
  | e :: es, s :: ss => ⟨s, e.1, e.2⟩ :: mk es ss
  | _, _ => []
theorem mk_length : ∀ {es : List En} {ss : List Sp}, ss.length = es.length → (mk es ss).length = es.length
  | [], _, _ => rfl
  | _ :: _, [], h => by simp at h
  | e :: es, s :: ss, h => by simp [mk, mk_length (es := es) (ss := ss) (by simpa using h)]
theorem mk_get : ∀ {es : List En} {ss : List Sp} {i : Nat} {e : En}, ss.length = es.length → es[i]? = some e → ∃ s, (mk es ss)[i]? = some ⟨s, e.1, e.2⟩
  | [], _, _, _, _, h => by simp at h
  | _ :: _, [], _, _, h, _ => by simp at h
  | e :: es, s :: ss, 0, _, _, h => by simp at h; subst h; exact ⟨s, rfl⟩
  | e :: es, s :: ss, i + 1, e', hl, h => by
    obtain ⟨s', h'⟩ := mk_get (es := es) (ss := ss) (i := i) (by simpa using hl) (by simpa using h)
    exact ⟨s', by simpa [mk] using h'⟩

def envOkE (l : List Oper) (M : List Nat) (m : Nat) (es : List En) : Bool := (List.range m).all fun i => match l[i]?, es[i]? with
  | some o, some s =>
    (s.1.all fun x => (match x.2 with | some j => dstAt l j == some x.1 && decide (j < m) && reach M i j | none => (List.range m).all fun j => j == i || dstAt l j != some x.1)) &&
    (match o.guard, s.2 with
     | none, none => true
     | some (g, b), some (d, b') => b == b' && dstAt l g == some d
     | _, _ => false)
  | _, _ => false
def chkE (l : List Oper) (M : List Nat) (es : List En) (n : Nat) : Bool := backOk l && dstsOk l es.length n && tailOk l M es.length && envOkE l M es.length es && decide (es.length ≤ l.length) && okM l M

theorem chk_of {l : List Oper} {M : List Nat} {es : List En} {ss : List Sp} {n : Nat} (hl : ss.length = es.length) (h : chkE l M es n = true) : chk l M (mk es ss) n = true := by
  simp only [chkE, chk, Bool.and_eq_true, mk_length hl] at h ⊢
  obtain ⟨⟨⟨⟨⟨h1, h2⟩, h3⟩, h4⟩, h5⟩, h6⟩ := h
  refine ⟨⟨⟨⟨⟨h1, h2⟩, h3⟩, ?_⟩, h5⟩, h6⟩
  simp only [envOk, envOkE, List.all_eq_true, List.mem_range] at h4 ⊢
  intro i hi
  have := h4 i hi
  have hei : es[i]? = some es[i] := List.getElem?_eq_getElem hi
  rw [hei] at this
  obtain ⟨s, hs⟩ := mk_get (ss := ss) hl hei
  rw [hs]
  cases ho : l[i]? with
  | none => rw [ho] at this; simp at this
  | some o => rw [ho] at this; exact this

def StOk (R : World → World → Prop) : List Sp → Prop
  | [] => True
  | .ex _ :: r => StOk R r
  | .un p _ :: r => (∀ v w w', p v w → R w w' → p v w') ∧ StOk R r

theorem StOk.of_mk {R : World → World → Prop} : ∀ {es : List En} {ss : List Sp}, StOk R ss → ∀ s ∈ mk es ss, ∀ p f, s.sp = .un p f → ∀ v w w', p v w → R w w' → p v w'
  | [], _, _, s, hs => by simp [mk] at hs
  | _ :: _, [], _, s, hs => by simp [mk] at hs
  | e :: es, s :: ss, h, s', hs => by
    simp only [mk, List.mem_cons] at hs
    intro p f hp v w w' h1 h2
    cases s with
    | ex c =>
      rcases hs with rfl | hs
      · cases hp
      · exact StOk.of_mk (es := es) (ss := ss) h s' hs p f hp v w w' h1 h2
    | un p' f' =>
      rcases hs with rfl | hs
      · cases hp; exact h.1 v w w' h1 h2
      · exact StOk.of_mk (es := es) (ss := ss) h.2 s' hs p f hp v w w' h1 h2

/-- The same, the checks apart from what is told. -/
theorem wp_region_by {id : Nat} {R : World → World → Prop} (es : List En) (ss : List Sp) {a0 : Act} {w : World} (hm : P.follows .mixedOrders = true) (hrt : ∀ a b c, R a b → R b c → R a c) (hrs : ∀ a b, R a b → a.heap.size ≤ b.heap.size)
    (hr0 : R w.drew w.drew) (hl : ss.length = es.length) (hc : chkE l (masks l) es a0.tmps.size = true) (hst : StOk R ss)
    (hok : OkAll P Q R (mk es ss) a0 w.drew l (mk es ss)) (hfin : FinR P l Q R w.drew (l.drop es.length) l (mk es ss) a0 (fun _ => True) []) : (Code.region id l.toArray true).wp P Q a0 w :=
  wp_region_rel (mk es ss) hm hrt hrs hr0 hst.of_mk (chk_of hl hc) hok (by rw [mk_length hl]; exact hfin)
end

end Go.Reg
