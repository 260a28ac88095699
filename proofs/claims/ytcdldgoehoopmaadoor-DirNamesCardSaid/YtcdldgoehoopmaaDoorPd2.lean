/- Directories, plain: names, and the bytes of entries. -/
import Derived.Test.YtcdldgoehoopmaaDoorPd1
import Derived.Test.YtcdldgoehoopmaaDoorPb0
set_option linter.unusedVariables false
set_option linter.unusedSimpArgs false
set_option maxRecDepth 100000
namespace Gab
open Go
/-- May it be a name? -/
def nameOk (s : List UInt8) : Bool := decide (1 ≤ s.length ∧ s.length ≤ 32 ∧ s ≠ [46] ∧ s ≠ [46, 46]) && !(s.any fun b => b == 47 || b == 0)
def nameN (s : List UInt8) : Int := if nameOk s = true then 0 else 18
theorem name_eq {s : List UInt8} : dir_Name s = some (nameN s) := by
  unfold dir_Name dir_Name_j1 nameN nameOk
  by_cases h0 : s = []
  · rw [if_pos h0, h0]; rfl
  rw [if_neg h0]
  have hp : 1 ≤ s.length := List.length_pos_iff.2 h0
  by_cases h1 : 32 < (s.length : Int)
  · rw [if_pos h1, if_pos rfl, if_neg (by simp; omega)]
  rw [if_neg h1]
  by_cases h2 : s = [46]
  · rw [if_pos h2, if_pos rfl, if_neg (by simp [h2])]
  rw [if_neg h2]
  by_cases h3 : s = [46, 46]
  · rw [if_pos h3, if_pos rfl, if_neg (by simp [h3])]
  rw [if_neg h3]
  unfold strings_ContainsAny
  rw [ifS, if_pos ⟨rfl, by omega⟩, Option.bind_some]
  have hd : decide (1 ≤ s.length ∧ s.length ≤ 32 ∧ s ≠ [46] ∧ s ≠ [46, 46]) = true := decide_eq_true ⟨hp, by omega, h2, h3⟩
  rw [hd, Bool.true_and]
  cases (s.any fun b => b == 47 || b == 0) <;> rfl
theorem rname_loop {s : List UInt8} (hl : s.length ≤ 32) : ∃ e, iter (fun (k : Int) => gabionref17_Name_l0 s k) 100000 0 = some e ∧ e = (if (s.any fun b => b == 47 || b == 0) = true then Sum.inl 18 else Sum.inr ()) := by
  refine iter_of (fun n (k : Int) => ∃ i : Nat, k = i ∧ n + i = s.length ∧ ∀ j b, j < i → s[j]? = some b → (b == 47 || b == 0) = false) (fun (e : Int ⊕ Unit) => e = (if (s.any fun b => b == 47 || b == 0) = true then Sum.inl 18 else Sum.inr ())) ?_ (n := s.length) (d := 100000) ⟨0, rfl, rfl, fun j b h => by omega⟩ (by omega)
  rintro n k ⟨i, rfl, hn, hno⟩
  unfold gabionref17_Name_l0 gabionref17_Name_j6
  cases n with
  | zero =>
    rw [if_neg (by omega)]
    refine .inr ⟨_, rfl, ?_⟩
    rw [if_neg]
    intro h
    obtain ⟨b, hb, hp⟩ := List.any_eq_true.1 h
    obtain ⟨j, hj⟩ := List.mem_iff_getElem?.1 hb
    rw [hno j b (by have := (List.getElem?_eq_some_iff.1 hj).1; omega) hj] at hp
    cases hp
  | succ n =>
    rw [if_pos (by omega)]
    have hlt : i < s.length := by omega
    rw [rd_nat, List.getElem?_eq_getElem hlt]
    simp only [Option.bind_some]
    have e1 : wi64 ((i : Int) + 1) = ((i + 1 : Nat) : Int) := by rw [w64 (by omega) (by omega)]; rfl
    by_cases hb : (s[i] == 47 || s[i] == 0) = true
    · have hany : (s.any fun b => b == 47 || b == 0) = true := List.any_eq_true.2 ⟨s[i], List.getElem_mem hlt, hb⟩
      rw [if_pos hany]
      refine .inr ⟨.inl 18, ?_, rfl⟩
      simp only [Bool.or_eq_true, beq_iff_eq] at hb
      rcases hb with hb | hb
      · rw [hb]; rfl
      · rw [hb]; rfl
    · refine .inl ⟨n, _, rfl, ?_, i + 1, rfl, by omega, fun j b hj he => ?_⟩
      · have hb' : (s[i] == 47 || s[i] == 0) = false := by simpa using hb
        simp only [Bool.or_eq_false_iff, beq_eq_false_iff_ne] at hb'
        have h47 : ((s[i].toNat : Nat) : Int) ≠ 47 := fun h => hb'.1 (UInt8.toNat_inj.1 (by show s[i].toNat = 47; omega))
        have h00 : ((s[i].toNat : Nat) : Int) ≠ 0 := fun h => hb'.2 (UInt8.toNat_inj.1 (by show s[i].toNat = 0; omega))
        rw [if_neg h00, decide_eq_false h47, if_neg (by decide), e1]
      · rcases (show j < i ∨ j = i by omega) with hj | rfl
        · exact hno j b hj he
        · rw [List.getElem?_eq_getElem hlt] at he; simp at he; subst he
          simpa using hb
theorem rname_eq {s : List UInt8} : gabionref17_Name s = some (nameN s) := by
  unfold gabionref17_Name gabionref17_Name_j1 nameN nameOk
  by_cases h0 : s = []
  · subst h0; rfl
  have hp : 1 ≤ s.length := List.length_pos_iff.2 h0
  rw [if_neg (by omega)]
  by_cases h1 : 32 < (s.length : Int)
  · rw [if_pos h1, if_pos rfl, if_neg (by simp; omega)]
  rw [if_neg h1]
  by_cases h2 : s = [46]
  · rw [if_pos h2, if_pos rfl, if_neg (by simp [h2])]
  rw [if_neg h2]
  by_cases h3 : s = [46, 46]
  · rw [decide_eq_true h3, if_pos rfl, if_neg (by simp [h3])]
  rw [decide_eq_false h3, if_neg (by decide)]
  obtain ⟨e, he, hq⟩ := rname_loop (s := s) (by omega)
  have hd : decide (1 ≤ s.length ∧ s.length ≤ 32 ∧ s ≠ [46] ∧ s ≠ [46, 46]) = true := decide_eq_true ⟨hp, by omega, h2, h3⟩
  rw [he, Option.bind_some, hq, hd, Bool.true_and]
  cases (s.any fun b => b == 47 || b == 0) <;> rfl
end Gab
