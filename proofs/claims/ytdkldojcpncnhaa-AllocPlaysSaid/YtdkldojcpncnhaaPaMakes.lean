/- AllocMakes over numbers and lists: it is true of every number. -/
import Derived.Test.YtdkldojcpncnhaaFd
import Derived.Test.YtdkldojcpncnhaaPl
import Derived.KernelRfl
set_option linter.unusedVariables false
set_option linter.unusedSimpArgs false
namespace Gab
open Go

theorem alloc_wakes : gabionlaw14_wakes = some true := by kernel_rfl

theorem alloc_New_eq (n : Int) : alloc_New n = some (if n < 0 ∨ 65536 < n then ((0, []), 2) else if 0 < n then ((n, [(0, n)]), 0) else ((n, []), 0)) := by
  unfold alloc_New alloc_New_j1
  by_cases h : n < 0
  · rw [if_pos h, if_pos (Or.inl h)]; rfl
  · by_cases h2 : 65536 < n
    · rw [if_neg h, if_pos (Or.inr h2), decide_eq_true h2]; rfl
    · rw [if_neg h, decide_eq_false h2, if_neg (show ¬ (n < 0 ∨ 65536 < n) by omega)]
      by_cases h3 : 0 < n
      · rw [if_pos h3, if_pos h3]; rfl
      · rw [if_neg h3, if_neg h3]; rfl
theorem free_nil (n : Int) : alloc_Set_Free (n, []) = some 0 := rfl
theorem free_one (n a : Int) (h0 : 0 ≤ a) (h1 : a ≤ 65536) : alloc_Set_Free (n, [(0, a)]) = some a := by
  unfold alloc_Set_Free
  have h : iter (fun (s : Int × Int) => alloc_Set_Free_l0 [(0, a)] s.1 s.2) 2 (0, 0) = some a := by
    rw [iter_inl (s' := (a, 1))]
    · rw [iter_inr (e := a)]; rfl
    · show some (Sum.inl (wi64 (0 + a), wi64 (0 + 1))) = _
      rw [w64 (n := 0 + a) (by omega) (by omega), Int.zero_add]; rfl
  show ((iter _ 2 (0, 0)).bind _) = _
  rw [h]; rfl
theorem has_nil (n b : Int) : alloc_Set_Has (n, []) b = some false := rfl
theorem has_one (n a b : Int) (h0 : 0 ≤ a) (h1 : a ≤ 65536) (hb : b = a) : alloc_Set_Has (n, [(0, a)]) b = some false := by
  subst hb
  have h : iter (fun (s : Int) => slices_IndexFunc_alloc_Extent_l0 (fun x => alloc_Set_Has_1 x b) [(0, b)] s) 2 0 = some (.inr ()) := by
    rw [iter_inl (s' := 1)]
    · rw [iter_inr (e := .inr ())]; rfl
    · show ((alloc_Set_Has_1 (0, b) b).bind fun y4 => if y4 = true then _ else _) = _
      have : alloc_Set_Has_1 (0, b) b = some false := by
        unfold alloc_Set_Has_1 alloc_Extent_end
        rw [if_pos h0, Option.bind_some, w64 (n := 0 + b) (by omega) (by omega)]
        simp
      rw [this]; rfl
  unfold alloc_Set_Has slices_ContainsFunc_alloc_Extent slices_IndexFunc_alloc_Extent
  show ((((iter _ 2 0).bind _).bind _).bind _) = _
  rw [h]; rfl

theorem makes_step (l : List Int) (i : Nat) (k : Int) (hi : i < 10) (hk : l[i]? = some k) : gabionlaw14_AllocMakes_l0 l i = some (.inl ((i + 1 : Nat) : Int)) := by
  unfold gabionlaw14_AllocMakes_l0
  have hlt := (List.getElem?_eq_some_iff.1 hk).1
  rw [if_pos (by omega), rd_ok hk, Option.bind_some, alloc_New_eq, Option.bind_some]
  have hw : wi64 ((i : Int) + 1) = ((i + 1 : Nat) : Int) := w64 (by omega) (by omega)
  by_cases h : k < 0
  · rw [if_pos (Or.inl h), if_neg (by omega)]
    simp [gabionlaw14_AllocMakes_j6, gabionlaw14_AllocMakes_j7, hw]
  · rw [if_pos (show 0 ≤ k by omega)]
    by_cases h2 : 65536 < k
    · rw [if_pos (Or.inr h2), decide_eq_false (by omega)]
      simp [gabionlaw14_AllocMakes_j6, gabionlaw14_AllocMakes_j7, hw]
    · rw [if_neg (by omega), decide_eq_true (by omega)]
      by_cases h3 : 0 < k
      · rw [if_pos h3]
        simp [gabionlaw14_AllocMakes_j6, gabionlaw14_AllocMakes_j7, hw, free_one k k (by omega) (by omega), alloc_Set_Size, has_one k k k (by omega) (by omega) rfl]
      · obtain rfl : k = 0 := by omega
        rw [if_neg h3]
        simp [gabionlaw14_AllocMakes_j6, gabionlaw14_AllocMakes_j7, hw, free_nil, alloc_Set_Size, has_nil]

theorem AllocMakes_pure (a0 : Int) (w : (Lit.int .i64 a0).wf = true) : gabionlaw14_AllocMakes a0 = some true := by
  unfold gabionlaw14_AllocMakes
  generalize Int.tmod (mx 0 a0) 70000 = t
  have h : iter (fun (s : Int) => gabionlaw14_AllocMakes_l0 [a0, t] s) 3 0 = some (.inr ()) :=
    (iter_inl (makes_step [a0, t] 0 a0 (by omega) rfl)).trans ((iter_inl (makes_step [a0, t] 1 t (by omega) rfl)).trans (iter_inr (e := (Sum.inr () : Bool ⊕ Unit)) rfl))
  show ((iter _ 3 0).bind _) = _
  rw [h, Option.bind_some]
  show ((gabionlaw14_wakes).bind _) = _
  rw [alloc_wakes]; rfl
end Gab
