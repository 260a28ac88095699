/- Lists of runs: which may be, their blocks, and the fewest runs that have these blocks. -/
import Derived.Test.YtdkldojcpncnhaaFd
import Derived.Test.YtdkldojcpncnhaaPl
set_option linter.unusedVariables false
set_option linter.unusedSimpArgs false
namespace Gab
open Go

/-- A loop over a list, an index counted up, that may end early. -/
theorem iter_go {α β σ ε : Type} {step : σ → Option (σ ⊕ ε)} {l : List α} (S : Nat → β → σ) (go : List α → List α → β → ε) (I : List α → β → Prop)
    (hend : ∀ b, I l b → step (S l.length b) = some (.inr (go l [] b)))
    (hstep : ∀ p x r b, l = p ++ x :: r → I p b → step (S p.length b) = some (.inr (go p (x :: r) b)) ∨ ∃ b', step (S p.length b) = some (.inl (S (p.length + 1) b')) ∧ I (p ++ [x]) b' ∧ go p (x :: r) b = go (p ++ [x]) r b') :
    ∀ (r p : List α) (b : β) (d : Nat), l = p ++ r → I p b → r.length < d → iter step d (S p.length b) = some (go p r b) := by
  intro r
  induction r with
  | nil =>
    intro p b d hl hi hd
    obtain ⟨d, rfl⟩ : ∃ m, d = m + 1 := ⟨d - 1, by omega⟩
    rw [List.append_nil] at hl
    subst hl
    exact iter_inr (hend b hi)
  | cons x r ih =>
    intro p b d hl hi hd
    obtain ⟨d, rfl⟩ : ∃ m, d = m + 1 := ⟨d - 1, by omega⟩
    rcases hstep p x r b hl hi with h | ⟨b', h1, h2, h3⟩
    · exact iter_inr h
    · rw [iter_inl h1, h3]
      have := ih (p ++ [x]) b' d (by rw [hl]; simp) h2 (by simp only [List.length_cons] at hd; omega)
      rw [List.length_append] at this
      exact this
theorem rd_mid {α : Type} {l p r : List α} {x : α} (h : l = p ++ x :: r) : rd l (p.length : Int) = some x := by
  rw [rd_nat, h]; simp
theorem rd_last {α : Type} {p : List α} {x : α} : rd (p ++ [x]) (p.length : Int) = some x := by rw [rd_nat]; simp
theorem snoc {α : Type} {l : List α} (h : l ≠ []) : ∃ p x, l = p ++ [x] := ⟨l.dropLast, l.getLast h, (List.dropLast_concat_getLast h).symm⟩

abbrev Rn := Int × Int
def jn (a b : Rn) : Bool := if a.1 = -1 ∨ b.1 = -1 then decide (a.1 = b.1) else decide (wi64 (a.1 + a.2) = b.1)
theorem joins_eq (a b : Rn) : ext_joins a b = some (jn a b) := by
  unfold ext_joins ext_joins_j1 jn
  by_cases ha : a.1 = -1 <;> by_cases hb : b.1 = -1 <;> simp [ha, hb]
theorem rjoins_eq (a b : Rn) : gabionref15_joins a b = some (jn a b) := by
  unfold gabionref15_joins gabionref15_joins_j1 jn
  by_cases ha : a.1 = -1 <;> by_cases hb : b.1 = -1 <;> simp [ha, hb] <;> omega

/-! ### Which lists may be -/
def jnO : Option Rn → Rn → Bool
  | none, _ => false
  | some q, e => jn q e
def okE (q : Option Rn) (e : Rn) : Bool := decide (1 ≤ e.2 ∧ e.2 ≤ 65536 ∧ -1 ≤ e.1 ∧ e.1 ≤ 65536) && !jnO q e
def okL : Option Rn → List Rn → Bool
  | _, [] => true
  | q, e :: r => okE q e && okL (some e) r
def sumL : List Rn → Int
  | [] => 0
  | e :: r => e.2 + sumL r
def RightB (l : List Rn) : Bool := decide (l.length ≤ 64) && okL none l && decide (sumL l ≤ 65536)
theorem sumL_app {l m : List Rn} : sumL (l ++ m) = sumL l + sumL m := by
  induction l with
  | nil => simp [sumL]
  | cons a l ih => simp only [List.cons_append, sumL, ih]; omega
theorem getLast_snoc {l : List Rn} {x : Rn} : (l ++ [x]).getLast? = some x := by simp
def RF (p r : List Rn) (s : Int) : Bool ⊕ Int := if okL p.getLast? r then .inr (s + sumL r) else .inl false
theorem right_bad {p r : List Rn} {x : Rn} {s : Int} (h : ¬ (1 ≤ x.2 ∧ x.2 ≤ 65536 ∧ -1 ≤ x.1 ∧ x.1 ≤ 65536)) : RF p (x :: r) s = .inl false := by
  unfold RF
  rw [if_neg]
  simp only [okL, okE]
  rw [decide_eq_false h]; simp
theorem right_fin {p r : List Rn} {x : Rn} {b : Int} (hp : p.length ≤ 100000) (hb : 0 ≤ b ∧ b ≤ 65536 * p.length) (hx : 1 ≤ x.2 ∧ x.2 ≤ 65536 ∧ -1 ≤ x.1 ∧ x.1 ≤ 65536) (j : Bool) (hj : j = jnO p.getLast? x)
    {v : Option ((Int × Int) ⊕ (Bool ⊕ Int))} (hv : v = if j = true then some (.inr (.inl false)) else some (.inl (wi64 (b + x.2), wi64 ((p.length : Int) + 1)))) :
    v = some (.inr (RF p (x :: r) b)) ∨ ∃ b', v = some (.inl (b', ((p.length + 1 : Nat) : Int))) ∧ (0 ≤ b' ∧ b' ≤ 65536 * ((p ++ [x]).length : Nat)) ∧ RF p (x :: r) b = RF (p ++ [x]) r b' := by
  have hw : wi64 (b + x.2) = b + x.2 := w64 (by omega) (by omega)
  have hw1 : wi64 ((p.length : Int) + 1) = ((p.length + 1 : Nat) : Int) := w64 (by omega) (by omega)
  have hE : okE p.getLast? x = !jnO p.getLast? x := by unfold okE; rw [decide_eq_true hx, Bool.true_and]
  subst hv hj
  unfold RF
  simp only [okL, hE, getLast_snoc, sumL]
  cases jnO p.getLast? x with
  | true => left; simp
  | false => right; exact ⟨b + x.2, by simp [hw, hw1], by rw [List.length_append]; simp only [List.length_cons, List.length_nil]; omega, by simp [Int.add_assoc]⟩
theorem right_fin0 {l : List Rn} {o : Bool ⊕ Int} (h : o = RF [] l 0) : on o (fun b => some b) (fun s => if (l.length : Int) ≤ 64 then some (decide (s ≤ 65536)) else some false) = some (RightB l) := by
  subst h
  unfold RF RightB
  simp only [List.getLast?_nil, Int.zero_add]
  by_cases ho : okL none l = true
  · rw [if_pos ho, ho, Bool.and_true]
    show (if (l.length : Int) ≤ 64 then _ else _) = _
    by_cases h6 : l.length ≤ 64
    · rw [if_pos (by omega), decide_eq_true h6, Bool.true_and]
    · rw [if_neg (by omega), decide_eq_false h6, Bool.false_and]
  · rw [if_neg ho]
    simp only [Bool.not_eq_true] at ho
    rw [ho, Bool.and_false, Bool.false_and]
    rfl
theorem jnO_nil {p : List Rn} {x : Rn} (h : ¬ 0 < (p.length : Int)) : false = jnO p.getLast? x := by
  cases p with
  | nil => rfl
  | cons a p => simp at h
theorem right_eq {l : List Rn} (hl : l.length ≤ 100000) : ext_List_Right l = some (RightB l) := by
  unfold ext_List_Right
  have := iter_go (step := fun (s : Int × Int) => ext_List_Right_l0 l l s.1 s.2) (l := l) (fun i b => (b, (i : Int))) RF (fun p b => 0 ≤ b ∧ b ≤ 65536 * p.length)
    (fun b hb => by
      show ext_List_Right_l0 l l b l.length = _
      unfold ext_List_Right_l0
      rw [if_neg (by omega)]; simp [RF, okL, sumL])
    (fun p x r b hl' hb => by
      have hrd := rd_mid hl'
      have hlen : l.length = p.length + (r.length + 1) := by rw [hl']; simp
      show ext_List_Right_l0 l l b p.length = _ ∨ ∃ b', ext_List_Right_l0 l l b p.length = _ ∧ _
      unfold ext_List_Right_l0 ext_List_Right_j6
      rw [if_pos (by omega), hrd, Option.bind_some]
      by_cases h1 : x.2 < 1
      · rw [if_pos h1, if_pos rfl, right_bad (by omega)]; exact .inl rfl
      rw [if_neg h1]
      by_cases h2 : 65536 < x.2
      · rw [if_pos h2, if_pos rfl, right_bad (by omega)]; exact .inl rfl
      rw [if_neg h2]
      by_cases h3 : x.1 < -1
      · rw [if_pos h3, if_pos rfl, right_bad (by omega)]; exact .inl rfl
      rw [if_neg h3]
      by_cases h4 : 65536 < x.1
      · rw [if_pos h4, if_pos rfl, right_bad (by omega)]; exact .inl rfl
      rw [if_neg h4]
      by_cases h5 : 0 < (p.length : Int)
      · obtain ⟨p', q, rfl⟩ := snoc (l := p) (by intro h; subst h; simp at h5)
        have hpl : (p' ++ [q]).length = p'.length + 1 := by simp
        have hq : rd l (wi64 (((p' ++ [q]).length : Int) - 1)) = some q := by
          rw [w64 (by omega) (by omega), show ((p' ++ [q]).length : Int) - 1 = (p'.length : Nat) by omega]
          exact rd_mid (r := x :: r) (by rw [hl']; simp)
        rw [if_pos h5, hq, Option.bind_some, joins_eq, Option.bind_some]
        exact right_fin (by omega) hb (by omega) (jn q x) (by rw [getLast_snoc]; rfl) rfl
      · rw [if_neg h5]
        exact right_fin (by omega) hb (by omega) false (jnO_nil h5) rfl)
    l [] 0 (l.length + 1) rfl (by simp) (Nat.lt_succ_self _)
  have h0 : iter (fun (s : Int × Int) => ext_List_Right_l0 l l s.1 s.2) (l.length + 1) (0, 0) = some (RF [] l 0) := this
  rw [h0, Option.bind_some]
  exact right_fin0 rfl
theorem rright_eq (l : List Rn) : gabionref15_Right l = some (RightB l) := by
  unfold gabionref15_Right
  by_cases hl : 64 < (l.length : Int)
  · rw [if_pos hl]; unfold RightB; rw [decide_eq_false (by omega)]; rfl
  rw [if_neg hl]
  have := iter_go (step := fun (s : Int × Int) => gabionref15_Right_l0 l s.1 s.2) (l := l) (fun i b => (b, (i : Int))) RF (fun p b => 0 ≤ b ∧ b ≤ 65536 * p.length)
    (fun b hb => by
      show gabionref15_Right_l0 l b l.length = _
      unfold gabionref15_Right_l0
      rw [if_neg (by omega)]; simp [RF, okL, sumL])
    (fun p x r b hl' hb => by
      have hrd := rd_mid hl'
      have hlen : l.length = p.length + (r.length + 1) := by rw [hl']; simp
      show gabionref15_Right_l0 l b p.length = _ ∨ ∃ b', gabionref15_Right_l0 l b p.length = _ ∧ _
      unfold gabionref15_Right_l0 gabionref15_Right_j7 gabionref15_Right_j12
      rw [if_pos (by omega)]
      simp only [hrd, Option.bind_some, if_true]
      by_cases h3 : x.1 < -1
      · rw [if_pos h3, right_bad (by omega)]; exact .inl rfl
      rw [if_neg h3]
      by_cases h4 : 65536 < x.1
      · rw [if_pos h4, right_bad (by omega)]; exact .inl rfl
      rw [if_neg h4]
      by_cases h1 : x.2 < 1
      · rw [if_pos h1, right_bad (by omega)]; exact .inl rfl
      rw [if_neg h1]
      by_cases h2 : 65536 < x.2
      · rw [if_pos (decide_eq_true h2), right_bad (by omega)]; exact .inl rfl
      rw [if_neg (by simpa using h2)]
      by_cases h5 : 0 < (p.length : Int)
      · obtain ⟨p', q, rfl⟩ := snoc (l := p) (by intro h; subst h; simp at h5)
        have hpl : (p' ++ [q]).length = p'.length + 1 := by simp
        have hq : rd l (wi64 (((p' ++ [q]).length : Int) - 1)) = some q := by
          rw [w64 (by omega) (by omega), show ((p' ++ [q]).length : Int) - 1 = (p'.length : Nat) by omega]
          exact rd_mid (r := x :: r) (by rw [hl']; simp)
        rw [if_pos h5, hq, Option.bind_some, rjoins_eq, Option.bind_some]
        exact right_fin (by omega) hb (by omega) (jn q x) (by rw [getLast_snoc]; rfl) rfl
      · rw [if_neg h5]
        exact right_fin (by omega) hb (by omega) false (jnO_nil h5) rfl)
    l [] 0 100000 rfl (by simp) (by omega)
  have h0 : iter (fun (s : Int × Int) => gabionref15_Right_l0 l s.1 s.2) 100000 (0, 0) = some (RF [] l 0) := this
  rw [h0, Option.bind_some, ← right_fin0 rfl]
  have hl6 : (l.length : Int) ≤ 64 := by omega
  simp only [if_pos hl6]
end Gab
