/- AllocAll over numbers and lists: it is true of every list. -/
import Derived.Test.YtdkldojcpncnhaaPa3
set_option linter.unusedVariables false
set_option linter.unusedSimpArgs false
namespace Gab
open Go

theorem list_eq {n : Int} {l : List Ex} (h : l.length ≤ 1000000) : alloc_Set_List (n, l) = some l := by
  unfold alloc_Set_List slices_Clone_alloc_Extent
  rw [appL_ok (by simp only [List.length_nil]; omega)]; rfl
theorem all_step (x32 : List Int) {i : Nat} {u : Int} {l : List Ex} (hi : i < 1000000) (hu : x32[i]? = some u) (h : Gd 60 0 l) : ∃ l', gabionlaw14_AllocAll_l0 x32 i (60, l) = some (.inl (((i + 1 : Nat) : Int), (60, l'))) ∧ Gd 60 0 l' := by
  have hlt := (List.getElem?_eq_some_iff.1 hu).1
  obtain ⟨s, r, he, hs⟩ := use_keeps (e := (wi64 (Int.tmod u 60), 1)) h (by omega) (by omega)
  unfold gabionlaw14_AllocAll_l0
  rw [if_pos (by omega), rd_ok hu, Option.bind_some, he, Option.bind_some]
  have hw : wi64 ((i : Int) + 1) = ((i + 1 : Nat) : Int) := w64 (by omega) (by omega)
  by_cases hr : r = 0
  · obtain ⟨l', rfl, hg⟩ := hs hr
    exact ⟨l', by rw [if_pos hr]; unfold gabionlaw14_AllocAll_j10; rw [hw], hg⟩
  · exact ⟨l, by rw [if_neg hr]; unfold gabionlaw14_AllocAll_j10; rw [hw], h⟩
theorem all_loop (x32 : List Int) (hx : x32.length ≤ 1000) {l : List Ex} (h : Gd 60 0 l) : ∃ l', iter (fun (s : Int × (Int × List Ex)) => gabionlaw14_AllocAll_l0 x32 s.1 s.2) (x32.length + 1) (0, (60, l)) = some (60, l') ∧ Gd 60 0 l' := by
  obtain ⟨e, he, l', rfl, hg⟩ := iter_of (step := fun (s : Int × (Int × List Ex)) => gabionlaw14_AllocAll_l0 x32 s.1 s.2) (fun n s => ∃ (i : Nat) (l : List Ex), s = ((i : Int), (60, l)) ∧ i + n = x32.length ∧ Gd 60 0 l) (fun e => ∃ l', e = ((60 : Int), l') ∧ Gd 60 0 l') (fun n s ⟨i, l, hs, hn, hg⟩ => by
    subst hs
    cases n with
    | zero =>
      refine .inr ⟨(60, l), ?_, l, rfl, hg⟩
      show gabionlaw14_AllocAll_l0 x32 i (60, l) = _
      unfold gabionlaw14_AllocAll_l0
      rw [if_neg (by omega)]
    | succ n =>
      obtain ⟨l', h1, h2⟩ := all_step x32 (i := i) (by omega) (List.getElem?_eq_getElem (show i < x32.length by omega)) hg
      exact .inl ⟨n, _, rfl, h1, i + 1, l', rfl, by omega, h2⟩) (n := x32.length) (d := x32.length + 1) (s := (0, (60, l))) ⟨0, l, rfl, by omega, h⟩ (by omega)
  exact ⟨l', he, hg⟩
theorem all_same (l : List Ex) (hl : l.length ≤ 1000000) : iter (fun (s : Int) => gabionlaw14_AllocAll_l1 l l s) (l.length + 1) 0 = some (.inr ()) := by
  refine iter_fold (l := l) (S := fun i _ => (i : Int)) _ (fun i x hx => ?_) ?_ (Nat.lt_succ_self _)
  · have hi := (List.getElem?_eq_some_iff.1 hx).1
    show gabionlaw14_AllocAll_l1 l l i = _
    unfold gabionlaw14_AllocAll_l1
    rw [if_pos (by omega), rd_ok hx, Option.bind_some, Option.bind_some, if_pos (by simp), w64 (by omega) (by omega)]; rfl
  · show gabionlaw14_AllocAll_l1 l l l.length = _
    unfold gabionlaw14_AllocAll_l1
    rw [if_neg (by omega)]

theorem AllocAll_pure (a0 : List Int) (w0 : ∀ x ∈ a0, (Lit.int .u8 x).wf = true) (z0 : a0.length ≤ 9223372036854775807) : gabionlaw14_AllocAll a0 = some true := by
  unfold gabionlaw14_AllocAll
  rw [alloc_New_eq, Option.bind_some, alloc_wakes, Option.bind_some, if_pos rfl]
  have hn : (if (60 : Int) < 0 ∨ (65536 : Int) < 60 then (((0 : Int), ([] : List Ex)), (2 : Int)) else if (0 : Int) < 60 then ((60, [(0, 60)]), 0) else ((60, []), 0)) = ((60, [(0, 60)]), 0) := by simp
  rw [hn]
  unfold gabionlaw14_AllocAll_j2
  rw [if_neg (by simp)]
  have hmn : mn (a0.length : Int) 59 = ((min a0.length 59 : Nat) : Int) := by unfold mn; split <;> omega
  rw [hmn, show (0 : Int) = ((0 : Nat) : Int) from rfl, cutL_nat (by omega) (by omega), Option.bind_some, List.drop_zero]
  have hx : (a0.take (min a0.length 59)).length ≤ 1000 := by rw [List.length_take]; omega
  generalize a0.take (min a0.length 59) = used at hx
  obtain ⟨l, hl, hg⟩ := all_loop used hx (l := [(0, 60)]) ⟨by simp, by simp, by simp, trivial⟩
  have hl' : iter (fun (s : Int × (Int × List Ex)) => gabionlaw14_AllocAll_l0 used s.1 s.2) (used.length + 1) (((0 : Nat) : Int), (60, [(((0 : Nat) : Int), 60)])) = some (60, l) := hl
  rw [hl', Option.bind_some, free_eq hg (by omega) (by omega), Option.bind_some]
  have hlen := hg.len (by omega)
  have htot := hg.tot (by omega)
  rw [list_eq (by omega), Option.bind_some, w64 (n := tot l + 1) (by omega) (by omega), take_space hg (by omega) (by omega) (by omega) (by omega), Option.bind_some, if_neg (by simp)]
  unfold gabionlaw14_AllocAll_j15
  rw [if_neg (by simp)]
  rcases take_any (k := tot l) hg (by omega) (by omega) with ⟨hk, ht⟩ | ⟨_, hk, _⟩ | ⟨hk, _, A, f, C, rfl, hf, hA, ht⟩ | ⟨hk, _, hno, ht⟩
  · rw [ht, Option.bind_some, if_pos (by omega)]; rfl
  · omega
  · -- one extent is enough: it is the only one
    have hC := tot_app A (f :: C)
    simp only [tot] at hC
    have hAn : A = [] := by
      cases A with
      | nil => rfl
      | cons a A =>
        exfalso
        have h1 := hg.mem a (by simp)
        have h2 := hg.mem f (by simp)
        have h3 := (Gd.tot (l := A) (lo := 0) (hi := 60) ((Gd.app (B := f :: C) hg.2.2.2).mono (by have := hg.1; omega)) (by omega)).1
        have h4 : 0 ≤ tot C := by
          have : ∀ (M : List Ex), (∀ e ∈ M, 1 ≤ e.2) → 0 ≤ tot M := by
            intro M hM
            induction M with
            | nil => simp [tot]
            | cons x M ih => have := ih fun e he => hM e (by simp [he]); have := hM x (by simp); simp only [tot]; omega
          exact this C fun e he => (hg.mem e (by simp [he])).2.1
        simp only [tot] at hC
        omega
    subst hAn
    have hC0 : C = [] := by
      cases C with
      | nil => rfl
      | cons c C =>
        exfalso
        have h1 := hg.mem c (by simp)
        have h4 : 0 ≤ tot C := by
          have : ∀ (M : List Ex), (∀ e ∈ M, 1 ≤ e.2) → 0 ≤ tot M := by
            intro M hM
            induction M with
            | nil => simp [tot]
            | cons x M ih => have := ih fun e he => hM e (by simp [he]); have := hM x (by simp); simp only [tot]; omega
          exact this C fun e he => (hg.mem e (by simp [he])).2.1
        simp only [tot, List.nil_append] at hC hf
        omega
    subst hC0
    have hl0 : lft f (f.1, tot ([] ++ [f])) = [] := by
      unfold lft
      rw [if_neg (by simp only; omega), if_neg (by simp only [List.nil_append, tot]; omega)]; rfl
    rw [ht, Option.bind_some, if_neg (by omega), if_neg (by simp), hl0]
    show ((alloc_Set_Free (60, [])).bind _) = _
    rw [free_nil, Option.bind_some, if_neg (by omega)]
    unfold gabionlaw14_AllocAll_j20
    have hf1 : (f.1, tot ([] ++ [f])) = f := by simp [tot]
    rw [hf1, if_neg (by simp)]
    have := all_same [f] (by simp)
    show ((iter (fun (s : Int) => gabionlaw14_AllocAll_l1 [f] [f] s) ([f].length + 1) 0).bind _) = _
    rw [this]; rfl
  · obtain ⟨h1, h2⟩ := tkl_all hg
    rw [ht, Option.bind_some, if_neg (by omega), if_neg (by simp), h1, free_nil, Option.bind_some, if_neg (by omega), h2]
    unfold gabionlaw14_AllocAll_j20
    rw [if_neg (by simp), all_same l (by omega)]; rfl
end Gab
