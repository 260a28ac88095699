/- The functions of alloc over lists of extents: what each of them is. -/
import Derived.Test.YtdkldojcpncnhaaFd
import Derived.Test.YtdkldojcpncnhaaPl
import Derived.Test.YtdkldojcpncnhaaPaMakes
set_option linter.unusedVariables false
set_option linter.unusedSimpArgs false
namespace Gab
open Go
abbrev Ex := Int × Int

/-- Extents that rise between lo and hi, none next to another one. -/
def Gd (hi : Int) : Int → List Ex → Prop
  | _, [] => True
  | lo, e :: r => lo ≤ e.1 ∧ 1 ≤ e.2 ∧ e.1 + e.2 ≤ hi ∧ Gd hi (e.1 + e.2 + 1) r
/-- A block that is free. -/
def Fr' (l : List Ex) (b : Int) : Prop := ∃ e ∈ l, e.1 ≤ b ∧ b < e.1 + e.2
theorem Gd.mono {hi lo lo' : Int} {l : List Ex} (h : Gd hi lo l) (hl : lo' ≤ lo) : Gd hi lo' l := by
  cases l with
  | nil => trivial
  | cons e r => exact ⟨by have := h.1; omega, h.2⟩
theorem Gd.mem {hi : Int} : ∀ {l : List Ex} {lo : Int}, Gd hi lo l → ∀ e ∈ l, lo ≤ e.1 ∧ 1 ≤ e.2 ∧ e.1 + e.2 ≤ hi
  | [], _, _, e, he => by simp at he
  | a :: r, lo, h, e, he => by
    rcases List.mem_cons.1 he with rfl | he
    · exact ⟨h.1, h.2.1, h.2.2.1⟩
    · have := Gd.mem h.2.2.2 e he
      have h1 := h.1; have h2 := h.2.1
      exact ⟨by omega, this.2⟩
theorem Gd.len {hi : Int} : ∀ {l : List Ex} {lo : Int}, Gd hi lo l → lo ≤ hi → (l.length : Int) ≤ hi - lo
  | [], lo, _, h => by simp; omega
  | a :: r, lo, h, hl => by
    have h1 := h.1; have h2 := h.2.1; have h3 := h.2.2.1
    rw [List.length_cons]
    by_cases hc : a.1 + a.2 + 1 ≤ hi
    · have := Gd.len h.2.2.2 hc
      omega
    · cases r with
      | nil => simp; omega
      | cons b r =>
        have := h.2.2.2.1; have := h.2.2.2.2.1; have := h.2.2.2.2.2.1
        omega
/-- How many blocks. -/
def tot : List Ex → Int
  | [] => 0
  | e :: r => e.2 + tot r
theorem tot_app : ∀ l m : List Ex, tot (l ++ m) = tot l + tot m
  | [], m => by simp [tot]
  | e :: r, m => by simp [tot, tot_app r m]; omega
theorem Gd.tot {hi : Int} : ∀ {l : List Ex} {lo : Int}, Gd hi lo l → lo ≤ hi → 0 ≤ tot l ∧ tot l ≤ hi - lo
  | [], lo, _, h => by simp [Gab.tot]; omega
  | a :: r, lo, h, hl => by
    have h1 := h.1; have h2 := h.2.1; have h3 := h.2.2.1
    by_cases hc : a.1 + a.2 + 1 ≤ hi
    · have := Gd.tot h.2.2.2 hc
      simp only [Gab.tot]; omega
    · cases r with
      | nil => simp only [Gab.tot]; omega
      | cons b r =>
        have := h.2.2.2.1; have := h.2.2.2.2.1; have := h.2.2.2.2.2.1
        omega
theorem Gd.app {hi : Int} : ∀ {A B : List Ex} {lo : Int}, Gd hi lo (A ++ B) → Gd hi lo A
  | [], B, lo, _ => trivial
  | a :: A, B, lo, h => ⟨h.1, h.2.1, h.2.2.1, Gd.app h.2.2.2⟩

theorem free_eq {n : Int} {l : List Ex} (h : Gd n 0 l) (h0 : 0 ≤ n) (hn : n ≤ 65536) : alloc_Set_Free (n, l) = some (tot l) := by
  have hlen := h.len h0
  have key : iter (fun (s : Int × Int) => alloc_Set_Free_l0 l s.1 s.2) (l.length + 1) (0, 0) = some (tot l) := by
    refine iter_fold (S := fun i m => (tot m, (i : Int))) (tot l) (fun i x hx => ?_) ?_ (Nat.lt_succ_self _)
    · have hi := (List.getElem?_eq_some_iff.1 hx).1
      have e1 : l.take (i + 1) = l.take i ++ [x] := by rw [List.take_add_one, hx]; rfl
      have hg : Gd n 0 (l.take (i + 1)) := Gd.app (B := l.drop (i + 1)) (by rw [List.take_append_drop]; exact h)
      have ht := hg.tot h0
      show alloc_Set_Free_l0 l (tot (l.take i)) i = _
      unfold alloc_Set_Free_l0
      rw [if_pos (by omega), rd_ok hx, Option.bind_some]
      rw [e1, tot_app] at ht ⊢
      simp only [tot, Int.add_zero] at ht ⊢
      rw [w64 (by omega) (by omega), w64 (by omega) (by omega)]
      rfl
    · show alloc_Set_Free_l0 l (tot l) l.length = _
      unfold alloc_Set_Free_l0
      rw [if_neg (by omega)]
  unfold alloc_Set_Free
  show ((iter _ (l.length + 1) (0, 0)).bind _) = _
  rw [key]; rfl

/-- slices.IndexFunc. -/
def ixOf (p : Ex → Bool) (l : List Ex) : Int := match l.findIdx? p with
  | some i => i
  | none => -1
theorem index_eq {l : List Ex} {g : Ex → Option Bool} {p : Ex → Bool} (hl : l.length ≤ 4611686018427387904) (hg : ∀ x ∈ l, g x = some (p x)) : slices_IndexFunc_alloc_Extent l g = some (ixOf p l) := by
  have key : ∀ (k i d : Nat), i + k = l.length → k < d → iter (fun (s : Int) => slices_IndexFunc_alloc_Extent_l0 g l s) d (i : Int) = some (match (l.drop i).findIdx? p with
      | some j => .inl ((i + j : Nat) : Int)
      | none => .inr ()) := by
    intro k
    induction k with
    | zero =>
      intro i d hi hd
      obtain ⟨d, rfl⟩ : ∃ m, d = m + 1 := ⟨d - 1, by omega⟩
      rw [List.drop_eq_nil_of_le (by omega)]
      refine iter_inr ?_
      show slices_IndexFunc_alloc_Extent_l0 g l i = _
      unfold slices_IndexFunc_alloc_Extent_l0
      rw [if_neg (by omega)]; rfl
    | succ k ih =>
      intro i d hi hd
      obtain ⟨d, rfl⟩ : ∃ m, d = m + 1 := ⟨d - 1, by omega⟩
      have hlt : i < l.length := by omega
      have hx : l[i]? = some l[i] := List.getElem?_eq_getElem hlt
      rw [List.drop_eq_getElem_cons hlt, List.findIdx?_cons]
      have hstep : slices_IndexFunc_alloc_Extent_l0 g l i = some (if p l[i] then .inr (.inl (i : Int)) else .inl ((i + 1 : Nat) : Int)) := by
        unfold slices_IndexFunc_alloc_Extent_l0
        rw [if_pos (by omega), rd_ok hx, Option.bind_some, hg _ (List.getElem_mem hlt), Option.bind_some, w64 (by omega) (by omega)]
        cases p l[i] <;> rfl
      cases hp : p l[i] with
      | true =>
        rw [hp] at hstep
        rw [iter_inr hstep]; rfl
      | false =>
        rw [hp] at hstep
        rw [iter_inl hstep, ih (i + 1) d (by omega) (by omega)]
        simp only [Bool.false_eq_true, if_false]
        cases (l.drop (i + 1)).findIdx? p with
        | none => rfl
        | some j => simp; omega
  unfold slices_IndexFunc_alloc_Extent ixOf
  have k0 : iter (fun (s : Int) => slices_IndexFunc_alloc_Extent_l0 g l s) (l.length + 1) 0 = _ := key l.length 0 (l.length + 1) (by omega) (by omega)
  rw [k0, Option.bind_some, List.drop_zero]
  cases l.findIdx? p with
  | none => rfl
  | some j => simp [on]
theorem ixOf_some {p : Ex → Bool} {l : List Ex} (h : 0 ≤ ixOf p l) : ∃ A f C, l = A ++ f :: C ∧ ixOf p l = A.length ∧ p f = true ∧ ∀ x ∈ A, p x = false := by
  unfold ixOf at h ⊢
  cases hf : l.findIdx? p with
  | none => rw [hf] at h; simp at h
  | some i =>
    obtain ⟨hi, hp, hb⟩ := List.findIdx?_eq_some_iff_getElem.1 hf
    refine ⟨l.take i, l[i], l.drop (i + 1), ?_, by simp; omega, hp, fun x hx => ?_⟩
    · rw [← List.drop_eq_getElem_cons hi, List.take_append_drop]
    · obtain ⟨j, hj, rfl⟩ := List.mem_iff_getElem.1 hx
      rw [List.length_take] at hj
      have := hb j (by omega)
      simpa using this
theorem ixOf_none {p : Ex → Bool} {l : List Ex} (h : ixOf p l < 0) : ∀ x ∈ l, p x = false := by
  unfold ixOf at h
  cases hf : l.findIdx? p with
  | none =>
    intro x hx
    have := List.findIdx?_eq_none_iff.1 hf x hx
    simpa using this
  | some i => rw [hf] at h; simp at h; omega
theorem ixOf_lt {p : Ex → Bool} {l : List Ex} (h : ∀ x ∈ l, p x = false) : ixOf p l = -1 := by
  unfold ixOf
  rw [List.findIdx?_eq_none_iff.2 (fun x hx => by simp [h x hx])]

theorem end_eq {e : Ex} (h : -9223372036854775808 ≤ e.1 + e.2) (h' : e.1 + e.2 ≤ 9223372036854775807) : alloc_Extent_end e = some (e.1 + e.2) := by
  unfold alloc_Extent_end; rw [w64 h h']
theorem has_eq {n b : Int} {l : List Ex} (h : Gd n 0 l) (h0 : 0 ≤ n) (hn : n ≤ 65536) : ∃ r, alloc_Set_Has (n, l) b = some r ∧ (r = true ↔ Fr' l b) := by
  have hlen := h.len h0
  unfold alloc_Set_Has slices_ContainsFunc_alloc_Extent
  have hg : ∀ x ∈ l, alloc_Set_Has_1 x b = some (decide (x.1 ≤ b) && decide (b < x.1 + x.2)) := fun x hx => by
    have := h.mem x hx
    unfold alloc_Set_Has_1
    rw [end_eq (by omega) (by omega)]
    by_cases h1 : x.1 ≤ b
    · rw [if_pos h1, decide_eq_true h1]; rfl
    · rw [if_neg h1, decide_eq_false h1]; rfl
  rw [index_eq (p := fun x => decide (x.1 ≤ b) && decide (b < x.1 + x.2)) (by omega) hg]
  refine ⟨_, rfl, ?_⟩
  rw [decide_eq_true_iff]
  constructor
  · intro hi
    obtain ⟨A, f, C, hl, _, hp, _⟩ := ixOf_some hi
    simp only [Bool.and_eq_true, decide_eq_true_iff] at hp
    exact ⟨f, by rw [show l = A ++ f :: C from hl]; simp, hp⟩
  · rintro ⟨e, he, h1, h2⟩
    rcases Int.lt_or_le (ixOf (fun x : Ex => decide (x.1 ≤ b) && decide (b < x.1 + x.2)) l) 0 with hlt | hge
    · have := ixOf_none hlt e he
      simp [h1, h2] at this
    · exact hge
theorem may_eq {n : Int} {l : List Ex} {e : Ex} (h0 : 0 ≤ n) (hn : n ≤ 65536) : alloc_Set_may (n, l) e = some (decide (0 ≤ e.1 ∧ 1 ≤ e.2 ∧ e.2 ≤ n ∧ e.1 ≤ n - e.2)) := by
  unfold alloc_Set_may
  by_cases h1 : 0 ≤ e.1
  · by_cases h2 : 1 ≤ e.2
    · by_cases h3 : e.2 ≤ n
      · rw [if_pos h1, if_pos h2, if_pos h3, w64 (by simp only; omega) (by simp only; omega)]
        congr 1
        exact decide_eq_decide.2 ⟨fun h => ⟨h1, h2, h3, h⟩, fun h => h.2.2.2⟩
      · rw [if_pos h1, if_pos h2, if_neg h3, decide_eq_false (fun h => h3 h.2.2.1)]
    · rw [if_pos h1, if_neg h2, decide_eq_false (fun h => h2 h.2.1)]
  · rw [if_neg h1, decide_eq_false (fun h => h1 h.1)]

theorem concat_eq {L : List (List Ex)} (hL : L.length ≤ 1000) (h : (L.flatten).length ≤ 1000000) : slices_Concat_alloc_Extent L = some L.flatten := by
  have hsub : ∀ i, ((L.take i).flatten).length ≤ (L.flatten).length := fun i => by
    conv => rhs; rw [← List.take_append_drop i L, List.flatten_append, List.length_append]
    omega
  have k1 : iter (fun (s : Int × Int) => slices_Concat_alloc_Extent_l0 L L s.1 s.2) (L.length + 1) (0, 0) = some ((L.flatten).length : Int) := by
    refine iter_fold (S := fun i m => (((m.flatten).length : Int), (i : Int))) _ (fun i x hx => ?_) ?_ (Nat.lt_succ_self _)
    · have hi := (List.getElem?_eq_some_iff.1 hx).1
      have e1 : L.take (i + 1) = L.take i ++ [x] := by rw [List.take_add_one, hx]; rfl
      have h1 := hsub (i + 1)
      show slices_Concat_alloc_Extent_l0 L L (((L.take i).flatten).length) i = _
      unfold slices_Concat_alloc_Extent_l0
      rw [if_pos (by omega), rd_ok hx, Option.bind_some]
      rw [e1] at h1 ⊢
      simp only [List.flatten_append, List.flatten_cons, List.flatten_nil, List.append_nil, List.length_append] at h1 ⊢
      rw [w64 (n := ((L.take i).flatten.length : Int) + (x.length : Int)) (by omega) (by omega), if_neg (by omega), w64 (by omega) (by omega)]
      simp
    · show slices_Concat_alloc_Extent_l0 L L _ L.length = _
      unfold slices_Concat_alloc_Extent_l0
      rw [if_neg (by omega)]
  have k2 : iter (fun (s : (List Ex) × Int) => slices_Concat_alloc_Extent_l1 L s.1 s.2) (L.length + 1) ([], 0) = some L.flatten := by
    refine iter_fold (S := fun i m => (m.flatten, (i : Int))) _ (fun i x hx => ?_) ?_ (Nat.lt_succ_self _)
    · have hi := (List.getElem?_eq_some_iff.1 hx).1
      have e1 : L.take (i + 1) = L.take i ++ [x] := by rw [List.take_add_one, hx]; rfl
      have h1 := hsub (i + 1)
      show slices_Concat_alloc_Extent_l1 L ((L.take i).flatten) i = _
      unfold slices_Concat_alloc_Extent_l1
      rw [if_pos (by omega), rd_ok hx, Option.bind_some]
      rw [e1] at h1 ⊢
      simp only [List.flatten_append, List.flatten_cons, List.flatten_nil, List.append_nil, List.length_append] at h1 ⊢
      rw [appL_ok (by omega), Option.bind_some, w64 (by omega) (by omega)]
      rfl
    · show slices_Concat_alloc_Extent_l1 L L.flatten L.length = _
      unfold slices_Concat_alloc_Extent_l1
      rw [if_neg (by omega)]
  unfold slices_Concat_alloc_Extent
  rw [k1, Option.bind_some]
  unfold slices_Grow_alloc_Extent
  rw [ifS_pos (by omega), Option.bind_some, k2]; rfl
end Gab
