/- Cut, Fill and Map of a list of runs: the program's and the document's. -/
import Derived.Test.YtdkldojcpncnhaaPe5
set_option linter.unusedVariables false
set_option linter.unusedSimpArgs false
namespace Gab
open Go

theorem law_list_eq (a : List Rn) (h : a.length ≤ 9223372036854775807) : gabionlaw15_list a = some (a.take 70, a.take 70) := by
  unfold gabionlaw15_list
  have hmn : mn (a.length : Int) 70 = ((min a.length 70 : Nat) : Int) := by unfold mn; split <;> omega
  rw [hmn, show (0 : Int) = ((0 : Nat) : Int) from rfl, cutL_nat (by omega) (by omega), Option.bind_some, List.drop_zero]
  have ht : a.take (min a.length 70) = a.take 70 := by
    by_cases hh : a.length ≤ 70
    · rw [List.take_of_length_le (by omega), List.take_of_length_le hh]
    · rw [show min a.length 70 = 70 by omega]
  rw [ht]
  have hxl : (a.take 70).length ≤ 70 := by rw [List.length_take]; omega
  generalize a.take 70 = x at hxl
  have key : iter (fun (s : (List Rn) × Int) => gabionlaw15_list_l0 x x s.1 s.2) (x.length + 1) ([], ((0 : Nat) : Int)) = some x := by
    refine iter_fold (l := x) (S := fun i t => (t, (i : Int))) _ (fun i e hx => ?_) ?_ (Nat.lt_succ_self _)
    · have hi : i < x.length := (List.getElem?_eq_some_iff.1 hx).1
      show gabionlaw15_list_l0 x x (x.take i) i = _
      unfold gabionlaw15_list_l0
      rw [if_pos (by omega), rd_ok hx, Option.bind_some, appL_ok (by rw [List.length_take]; simp only [List.length_cons, List.length_nil]; omega), Option.bind_some, take_next hx, w64 (by omega) (by omega)]; rfl
    · show gabionlaw15_list_l0 x x x x.length = _
      unfold gabionlaw15_list_l0
      rw [if_neg (by omega)]
  rw [key]; rfl

/-! ### DeleteFunc -/
def hole (e : Rn) : Bool := decide (e.1 = -1)
def solid (l : List Rn) : List Rn := l.filter fun e => !hole e
theorem idx_eq {l : List Rn} (hl : l.length ≤ 1000) : (∀ e ∈ l, hole e = false) ∧ slices_IndexFunc_ext_List_alloc_Extent l (fun x => ext_List_Cut_1 x) = some (-1) ∨
    ∃ p x r, l = p ++ x :: r ∧ (∀ e ∈ p, hole e = false) ∧ hole x = true ∧ slices_IndexFunc_ext_List_alloc_Extent l (fun x => ext_List_Cut_1 x) = some (p.length : Int) := by
  obtain ⟨e, he, hq⟩ := iter_of (step := fun (s : Int) => slices_IndexFunc_ext_List_alloc_Extent_l0 (fun x => ext_List_Cut_1 x) l s)
    (fun k s => ∃ p r, l = p ++ r ∧ s = (p.length : Int) ∧ k = r.length ∧ ∀ e ∈ p, hole e = false)
    (fun e => (e = .inr () ∧ ∀ e ∈ l, hole e = false) ∨ ∃ p x r, l = p ++ x :: r ∧ (∀ e ∈ p, hole e = false) ∧ hole x = true ∧ e = .inl (p.length : Int)) (fun k s ⟨p, r, h1, h2, h3, h4⟩ => by
      subst h2
      have hll : l.length = p.length + r.length := by rw [h1]; simp
      cases r with
      | nil =>
        right
        refine ⟨_, ?_, .inl ⟨rfl, by rw [h1]; simpa using h4⟩⟩
        unfold slices_IndexFunc_ext_List_alloc_Extent_l0
        rw [if_neg (by simp only [List.length_nil] at hll; omega)]
      | cons x r =>
        simp only [List.length_cons] at hll h3
        unfold slices_IndexFunc_ext_List_alloc_Extent_l0
        rw [if_pos (by omega), rd_mid h1, Option.bind_some]
        unfold ext_List_Cut_1
        simp only [Option.bind_some]
        by_cases hx : x.1 = -1
        · right
          rw [if_pos (by simpa using hx)]
          exact ⟨_, rfl, .inr ⟨p, x, r, h1, h4, by simpa [hole] using hx, rfl⟩⟩
        · left
          rw [if_neg (by simpa using hx)]
          refine ⟨r.length, _, by omega, rfl, p ++ [x], r, by rw [h1]; simp, by rw [w64 (by omega) (by omega)]; simp, rfl, fun e he => ?_⟩
          rcases List.mem_append.1 he with he | he
          · exact h4 e he
          · rw [List.mem_singleton] at he; subst he; simpa [hole] using hx) (n := l.length) (d := l.length + 1) (s := 0) ⟨[], l, rfl, rfl, rfl, by simp⟩ (by omega)
  have hr : ∀ z, e = z → slices_IndexFunc_ext_List_alloc_Extent l (fun x => ext_List_Cut_1 x) = on z (fun x => some x) (fun _ => some (-1)) := fun z hz => by
    unfold slices_IndexFunc_ext_List_alloc_Extent
    rw [he, hz]; rfl
  rcases hq with ⟨h1, h2⟩ | ⟨p, x, r, h1, h2, h3, h4⟩
  · exact .inl ⟨h2, hr _ h1⟩
  · exact .inr ⟨p, x, r, h1, h2, h3, hr _ h4⟩
theorem solid_all {l : List Rn} (h : ∀ e ∈ l, hole e = false) : solid l = l := by
  unfold solid
  rw [List.filter_eq_self]
  intro e he; rw [h e he]; rfl
theorem solid_app {l m : List Rn} : solid (l ++ m) = solid l ++ solid m := by simp [solid]
theorem del_eq {l : List Rn} (hl : l.length ≤ 1000) : slices_DeleteFunc_ext_List_alloc_Extent l (fun x => ext_List_Cut_1 x) = some (solid l) := by
  unfold slices_DeleteFunc_ext_List_alloc_Extent
  rcases idx_eq hl with ⟨h1, h2⟩ | ⟨p, x, r, h1, h2, h3, h4⟩
  · rw [h2, Option.bind_some, if_pos rfl, solid_all h1]
  · rw [h4, Option.bind_some, if_neg (by omega)]
    have hll : l.length = p.length + (r.length + 1) := by rw [h1]; simp
    obtain ⟨e, he, J, hq⟩ := iter_of (step := fun (s : (List Rn) × Int × Int) => slices_DeleteFunc_ext_List_alloc_Extent_l0 (fun x => ext_List_Cut_1 x) s.1 s.2.1 s.2.2)
      (fun k s => ∃ F J d q, l = d ++ q ∧ s = (F ++ J ++ q, (F.length : Int), (d.length : Int)) ∧ F = solid d ∧ J ≠ [] ∧ F.length + J.length = d.length ∧ k = q.length)
      (fun e => ∃ J, e = (solid l ++ J, ((solid l).length : Int))) (fun k s ⟨F, J, d, q, g1, g2, g3, g4, g5, g6⟩ => by
        subst g2
        have hdl : l.length = d.length + q.length := by rw [g1]; simp
        have hxl : (F ++ J ++ q).length = l.length := by simp only [List.length_append]; omega
        cases q with
        | nil =>
          right
          rw [List.append_nil] at g1
          refine ⟨_, ?_, J, by rw [g1, ← g3]⟩
          show slices_DeleteFunc_ext_List_alloc_Extent_l0 _ (F ++ J ++ []) (F.length : Int) (d.length : Int) = _
          unfold slices_DeleteFunc_ext_List_alloc_Extent_l0
          rw [if_neg (by simp only [List.length_nil] at hdl; omega), List.append_nil]
        | cons y q =>
          left
          simp only [List.length_cons] at hdl g6
          obtain ⟨u, J, rfl⟩ := List.exists_cons_of_ne_nil g4
          simp only [List.length_cons] at g5
          have hsy : rd (F ++ u :: J ++ y :: q) (d.length : Int) = some y := by
            have := rd_mid (l := F ++ u :: J ++ y :: q) (p := F ++ u :: J) (r := q) (x := y) rfl
            rw [show (F ++ u :: J).length = d.length by simp only [List.length_append, List.length_cons]; omega] at this
            exact this
          have hsu : rd (F ++ u :: J ++ y :: q) (F.length : Int) = some u := rd_mid (p := F) (r := J ++ y :: q) (by simp)
          refine ⟨q.length, ?_⟩
          show ∃ s', _ ∧ slices_DeleteFunc_ext_List_alloc_Extent_l0 _ (F ++ u :: J ++ y :: q) (F.length : Int) (d.length : Int) = _ ∧ _
          unfold slices_DeleteFunc_ext_List_alloc_Extent_l0 slices_DeleteFunc_ext_List_alloc_Extent_j10
          rw [if_pos (by omega), hsy, Option.bind_some]
          unfold ext_List_Cut_1
          simp only [Option.bind_some]
          have hw : wi64 ((d.length : Int) + 1) = ((d ++ [y]).length : Int) := by rw [w64 (by omega) (by omega)]; simp
          by_cases hy : y.1 = -1
          · rw [if_pos (by simpa using hy)]
            refine ⟨_, by omega, rfl, F, u :: J ++ [y], d ++ [y], q, by rw [g1]; simp, by rw [hw]; simp, ?_, by simp, by simp only [List.length_append, List.length_cons, List.length_nil]; omega, rfl⟩
            rw [solid_app, g3]; simp [solid, hole, hy]
          · rw [if_neg (by simpa using hy), hsu, Option.bind_some]
            refine ⟨_, by omega, rfl, F ++ [y], J ++ [y], d ++ [y], q, by rw [g1]; simp, ?_, ?_, by simp, by simp only [List.length_append, List.length_cons, List.length_nil]; omega, rfl⟩
            · rw [hw, w64 (by omega) (by omega), Int.toNat_natCast, List.append_assoc, List.set_append_right _ _ (Nat.le_refl _), Nat.sub_self]
              simp
            · rw [solid_app, g3]; simp [solid, hole, hy]) (n := r.length) (d := 100000) (s := (l, (p.length : Int), wi64 ((p.length : Int) + 1)))
        ⟨p, [x], p ++ [x], r, by rw [h1]; simp, by rw [h1, w64 (by omega) (by omega)]; simp, by rw [solid_app, solid_all h2]; simp [solid, h3], by simp, by simp, rfl⟩ (by omega)
    subst hq
    rw [he, Option.bind_some]
    have hs : solid l ++ J = solid l ++ J := rfl
    rw [cutL_nat (a := (solid l).length) (b := (solid l ++ J).length) (by simp) (Nat.le_refl _), Option.bind_some, Int.toNat_natCast, show (0 : Int) = ((0 : Nat) : Int) from rfl,
      cutL_nat (by omega) (by simp), Option.bind_some, List.take_left, List.drop_zero, List.take_left]
theorem rcut_loop {a y : List Rn} (hl : y.length ≤ 1000) : iter (fun (s : (List Rn) × Int) => gabionref15_Cut_l0 a y s.1 s.2) 100000 ([], 0) = some (solid y) := by
  refine iter_fold (l := y) (S := fun i t => (solid t, (i : Int))) _ (fun i x hx => ?_) ?_ (by omega)
  · have hi : i < y.length := (List.getElem?_eq_some_iff.1 hx).1
    have hsl : (solid (y.take i)).length ≤ i := by
      have := List.length_filter_le (fun e => !hole e) (y.take i)
      rw [List.length_take] at this
      unfold solid; omega
    show gabionref15_Cut_l0 a y (solid (y.take i)) i = _
    unfold gabionref15_Cut_l0 gabionref15_Cut_j14
    rw [if_pos (by omega), rd_ok hx, Option.bind_some, Option.bind_some, take_next hx, solid_app, w64 (by omega) (by omega)]
    by_cases hh : x.1 = -1
    · rw [if_neg (fun g => g hh)]; simp [solid, hole, hh]
    · rw [if_pos hh, appL_ok (by simp only [List.length_cons, List.length_nil]; omega), Option.bind_some]; simp [solid, hole, hh]
  · show gabionref15_Cut_l0 a y (solid y) y.length = _
    unfold gabionref15_Cut_l0
    rw [if_neg (by omega)]

/-! ### Cut -/
theorem cut_eq {l : List Rn} (hl : l.length ≤ 1000) (n : Int) : ext_List_Cut l n = some (if RightB l = true ∧ 0 ≤ n ∧ n ≤ sumL l then ((spl l n).1, solid (spl l n).2, 0) else ([], [], 2)) := by
  unfold ext_List_Cut ext_List_Cut_j1
  rw [right_eq (by omega), Option.bind_some]
  by_cases h1 : RightB l = true
  · have r := rightB_iff.1 h1
    rw [if_pos h1]
    by_cases h2 : n < 0
    · rw [if_pos h2, if_pos rfl, if_neg (show ¬ (RightB l = true ∧ 0 ≤ n ∧ n ≤ sumL l) from fun g => by omega)]
    · rw [if_neg h2, blocks_eq r.Bd (by omega), Option.bind_some]
      by_cases h3 : sumL l < n
      · rw [if_pos (by simpa using h3), if_neg (show ¬ (RightB l = true ∧ 0 ≤ n ∧ n ≤ sumL l) from fun g => by omega)]
      · have hs := r.sum
        have hL := spl_len (l := l) (n := n)
        rw [if_neg (by simpa using h3), if_pos (show RightB l = true ∧ 0 ≤ n ∧ n ≤ sumL l from ⟨h1, by omega, by omega⟩), split_eq (fun e he => by have := r.bd e he; omega) hl (by omega) (by omega), Option.bind_some, del_eq (by omega), Option.bind_some]
  · rw [if_neg h1, if_pos rfl, if_neg (show ¬ (RightB l = true ∧ 0 ≤ n ∧ n ≤ sumL l) from fun g => h1 g.1)]
theorem runs_part {l : List Rn} (h : ∀ e ∈ l, 1 ≤ e.2 ∧ -1 ≤ e.1 ∧ e.1 ≤ 1099511627776) (hs : sumL l < 100000) (hn : nj none l = true) : gabionref15_Runs (blks l) = some l := by
  rw [runs_blks h hs, tog_nj hn]
theorem spl_sum : ∀ {l : List Rn} {n : Int}, (∀ e ∈ l, 1 ≤ e.2) → 0 ≤ n → n ≤ sumL l → sumL (spl l n).1 = n ∧ sumL (spl l n).2 = sumL l - n
  | [], n, _, h0, h1 => by simp only [sumL] at h1; simp [spl, sumL]; omega
  | e :: l, n, h, h0, h1 => by
    have he := h e (by simp)
    have hl : ∀ x ∈ l, 1 ≤ x.2 := fun x hx => h x (by simp [hx])
    rw [sumL] at h1
    unfold spl
    by_cases h3 : e.2 ≤ n
    · rw [if_pos h3]
      obtain ⟨a, b⟩ := spl_sum hl (n := n - e.2) (by omega) (by omega)
      simp only [sumL]; omega
    · rw [if_neg h3]
      by_cases h4 : 0 < n
      · rw [if_pos h4]; simp only [sumL, prt]; omega
      · rw [if_neg h4]; simp only [sumL]; omega
theorem rcut_eq {l : List Rn} (hl : l.length ≤ 1000) (n : Int) : gabionref15_Cut l n = some (if RightB l = true ∧ 0 ≤ n ∧ n ≤ sumL l then ((spl l n).1, solid (spl l n).2, 0) else ([], [], 2)) := by
  unfold gabionref15_Cut gabionref15_Cut_j5
  rw [rright_eq, Option.bind_some]
  by_cases h1 : RightB l = true
  · have r := rightB_iff.1 h1
    have hbl := blks_len r.nn
    rw [if_pos h1, rblocks_eq r.Bd (by omega), Option.bind_some]
    by_cases h2 : n < 0
    · rw [if_pos h2, if_pos rfl, if_neg (show ¬ (RightB l = true ∧ 0 ≤ n ∧ n ≤ sumL l) from fun g => by omega)]
    · rw [if_neg h2, hbl]
      by_cases h3 : sumL l < n
      · rw [if_pos (by simpa using h3), if_neg (show ¬ (RightB l = true ∧ 0 ≤ n ∧ n ≤ sumL l) from fun g => by omega)]
      · have hs := r.sum
        have hL := spl_len (l := l) (n := n)
        have hb1 : ∀ e ∈ l, 1 ≤ e.2 ∧ -1 ≤ e.1 := fun e he => by have := r.bd e he; omega
        obtain ⟨b1, b2⟩ := spl_blks hb1 (n := n) (by omega)
        obtain ⟨n1, n2⟩ := spl_nj r.nj hb1 (n := n) (by omega)
        obtain ⟨m1, m2⟩ := spl_mem r.bd (n := n) (by omega)
        obtain ⟨s1, s2⟩ := spl_sum (fun e he => (hb1 e he).1) (n := n) (by omega) (by omega)
        have c1 : cutL (blks l) 0 n = some (blks (spl l n).1) := by
          rw [b1, cutL_ok (by omega) (by omega) (by omega)]; simp
        have c2 : cutL (blks l) n (sumL l) = some (blks (spl l n).2) := by
          rw [b2, cutL_ok (by omega) (by omega) (by omega), List.take_of_length_le (by omega)]
        rw [if_neg (by simpa using h3), if_pos (show RightB l = true ∧ 0 ≤ n ∧ n ≤ sumL l from ⟨h1, by omega, by omega⟩), c1, Option.bind_some, runs_part (fun e he => by have := m1 e he; omega) (by omega) n1, Option.bind_some,
          c2, Option.bind_some, runs_part (fun e he => by have := m2 e he; omega) (by omega) n2, Option.bind_some, rcut_loop (by omega), Option.bind_some]
  · rw [if_neg h1, if_neg (show ¬ (RightB l = true ∧ 0 ≤ n ∧ n ≤ sumL l) from fun g => h1 g.1)]
end Gab
