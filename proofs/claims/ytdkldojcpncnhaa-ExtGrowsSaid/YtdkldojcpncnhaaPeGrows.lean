/- ExtGrows: Append, Fill and Cut are the document's. -/
import Derived.Test.YtdkldojcpncnhaaPe7
import Derived.OpenShut
set_option linter.unusedVariables false
set_option linter.unusedSimpArgs false
namespace Gab
open Go

theorem app_len {l : List Rn} {e : Rn} (hl : l.length ≤ 1000) : (tog (l ++ [e])).length ≤ 1001 := by
  have := fold_len (l := l ++ [e]) (p := [])
  simp only [List.length_append, List.length_cons, List.length_nil] at this
  unfold tog; omega
theorem ExtGrows_cuts {x2 : Int} {m : List Rn} {x31 : List (List Rn)} {ks : List Int} {zb4 : Rn} {x33 : Int} (hm : m.length ≤ 70) (hks : ks.length ≤ 10) : iter (fun (s : Int × Int) => gabionlaw15_ExtGrows_l3 x2 m m x31 ks zb4 s.1 s.2) (ks.length + 1) (x33, 0) = some (.inr x33) := by
  refine iter_fold (l := ks) (S := fun i _ => (x33, (i : Int))) _ (fun i k hx => ?_) ?_ (Nat.lt_succ_self _)
  · have hi : i < ks.length := (List.getElem?_eq_some_iff.1 hx).1
    show gabionlaw15_ExtGrows_l3 x2 m m x31 ks zb4 x33 i = _
    unfold gabionlaw15_ExtGrows_l3 gabionlaw15_ExtGrows_j36
    rw [if_pos (by omega), rd_ok hx, Option.bind_some, cut_eq (by omega), Option.bind_some, rcut_eq (by omega), Option.bind_some, if_neg (fun g => g rfl)]
    have hL := spl_len (l := m) (n := k)
    have hsl : (solid (spl m k).2).length ≤ 70 := by
      have := List.length_filter_le (fun e => !hole e) (spl m k).2
      unfold solid; omega
    have e1 : ∀ (c : Prop) [Decidable c], (if c then ((spl m k).1, solid (spl m k).2, (0 : Int)) else ([], [], 2)).1.length ≤ 70 := fun c _ => by split <;> simp <;> omega
    have e2 : ∀ (c : Prop) [Decidable c], (if c then ((spl m k).1, solid (spl m k).2, (0 : Int)) else ([], [], 2)).2.1.length ≤ 70 := fun c _ => by split <;> simp <;> omega
    rw [same_ext (Nat.le_trans (e1 _) (by omega)), Option.bind_some, if_pos rfl, same_ext (Nat.le_trans (e2 _) (by omega)), Option.bind_some, if_neg (by simp), w64 (by omega) (by omega)]; rfl
  · show gabionlaw15_ExtGrows_l3 x2 m m x31 ks zb4 x33 ks.length = _
    unfold gabionlaw15_ExtGrows_l3
    rw [if_neg (by omega)]
theorem fillR_len {l : List Rn} {i : Int} {e : Rn} (hl : l.length ≤ 400) : (fillR l i e).1.length ≤ 1000 := by
  unfold fillR
  split
  · split
    · simp
    · split
      · rename_i h
        have := (rightB_iff.1 h).len
        simp only; omega
      · simp
  · simp
theorem ExtGrows_fills {x2 : Int} {m : List Rn} {x31 : List (List Rn)} {x60 : List Rn} {ks : List Int} {zb4 e : Rn} {x33 x62 : Int} (hm : m.length ≤ 70) (hks : ks.length ≤ 10) (he : e.1 ≤ 9223372036854775807) : iter (fun (s : Int × Int × Int) => gabionlaw15_ExtGrows_l2 x2 m m x31 x60 ks zb4 e e s.1 s.2.1 s.2.2) (ks.length + 1) (x33, x62, 0) = some (.inr (x33, x62)) := by
  refine iter_fold (l := ks) (S := fun i _ => (x33, x62, (i : Int))) _ (fun i k hx => ?_) ?_ (Nat.lt_succ_self _)
  · have hi : i < ks.length := (List.getElem?_eq_some_iff.1 hx).1
    show gabionlaw15_ExtGrows_l2 x2 m m x31 x60 ks zb4 e e x33 x62 i = _
    unfold gabionlaw15_ExtGrows_l2 gabionlaw15_ExtGrows_j27
    rw [if_pos (by omega), rd_ok hx, Option.bind_some, fill_eq (by omega), Option.bind_some, rfill_eq (by omega) _ _ he, Option.bind_some, if_neg (fun g => g rfl), same_ext (Nat.le_trans (fillR_len (by omega)) (by omega)), Option.bind_some, if_neg (by simp), w64 (by omega) (by omega)]; rfl
  · show gabionlaw15_ExtGrows_l2 x2 m m x31 x60 ks zb4 e e x33 x62 ks.length = _
    unfold gabionlaw15_ExtGrows_l2
    rw [if_neg (by omega)]
theorem ExtGrows_ends {x2 : Int} {m : List Rn} {x31 : List (List Rn)} {es : List Rn} {zb4 : Rn} {x33 : Int} (hm : m.length ≤ 70) (hS : RightB m = true → sumL m ≤ 2000) (hes : es.length ≤ 10) (he : ∀ e ∈ es, e.1 ≤ 9223372036854775807) :
    iter (fun (s : Int × Int) => gabionlaw15_ExtGrows_l1 x2 m m x31 es zb4 s.1 s.2) (es.length + 1) (x33, 0) = some (.inr x33) := by
  refine iter_fold (l := es) (S := fun i _ => (x33, (i : Int))) _ (fun i e hx => ?_) ?_ (Nat.lt_succ_self _)
  · have hi : i < es.length := (List.getElem?_eq_some_iff.1 hx).1
    have he1 := he e (List.mem_of_getElem? hx)
    have hw : wi64 ((i : Int) + 1) = ((i + 1 : Nat) : Int) := w64 (by omega) (by omega)
    show gabionlaw15_ExtGrows_l1 x2 m m x31 es zb4 x33 i = _
    have hj : ∀ b : Bool, (b = false → ¬ (3000 < e.2 ∧ e.2 ≤ 65536)) → gabionlaw15_ExtGrows_j13 x2 m m x31 x33 es i b zb4 e = some (.inl (x33, ((i + 1 : Nat) : Int))) := fun b hb => by
      unfold gabionlaw15_ExtGrows_j13 gabionlaw15_ExtGrows_j14
      rw [hw]
      cases b with
      | true => rw [if_pos rfl]
      | false =>
        have hb := hb rfl
        have happ := app_eq (l := m) (by omega) e
        have hrapp := rapp_eq (l := m) e (fun h1 h2 => by have := hS h1; have := (rightB_iff.1 h2).bd e (by simp); omega)
        have hlen : ∀ (c d f : Prop) [Decidable c] [Decidable d] [Decidable f], (if c then (if d then (if f then (tog (m ++ [e]), (0 : Int)) else ([], 7)) else ([], 7)) else ([], 2)).1.length ≤ 1001 := fun c d f _ _ _ => by
          have := app_len (l := m) (e := e) (by omega)
          split <;> (try split) <;> (try split) <;> simp <;> omega
        rw [if_neg (by simp), happ, Option.bind_some, hrapp, Option.bind_some, if_neg (fun g => g rfl), same_ext (Nat.le_trans (hlen _ _ _) (by omega)), Option.bind_some]
        unfold gabionlaw15_ExtGrows_j19 gabionlaw15_ExtGrows_j14
        rw [if_neg (by simp), ExtGrows_fills hm (by simp) he1, Option.bind_some]
        show some (Sum.inl (x33, wi64 ((i : Int) + 1))) = _
        rw [hw]
    unfold gabionlaw15_ExtGrows_l1
    rw [if_pos (by omega), rd_ok hx, Option.bind_some]
    by_cases h3 : 3000 < e.2
    · rw [if_pos h3]
      exact hj _ (fun h => by simp only [decide_eq_false_iff_not] at h; omega)
    · rw [if_neg h3]
      exact hj _ (fun _ => by omega)
  · show gabionlaw15_ExtGrows_l1 x2 m m x31 es zb4 x33 es.length = _
    unfold gabionlaw15_ExtGrows_l1
    rw [if_neg (by omega)]
theorem ExtGrows_pure (a0 : List Rn) (w0 : ∀ x ∈ a0, (Lit.int IntKind.i64 x.1).wf = true ∧ (Lit.int IntKind.i64 x.2).wf = true) (z0 : a0.length ≤ 9223372036854775807) (a1 : Rn) (w1 : (Lit.int IntKind.i64 a1.1).wf = true ∧ (Lit.int IntKind.i64 a1.2).wf = true) (a2 : Int) (w2 : (Lit.int IntKind.i64 a2).wf = true) : gabionlaw15_ExtGrows a0 a1 a2 = some true := by
  have b1 := bounds_i64 w1.1; have b2 := bounds_i64 w1.2
  unfold gabionlaw15_ExtGrows
  rw [tame_eq a0 z0, Option.bind_some]
  obtain ⟨hr, hsm, hc, hl20⟩ := tame_rt (a0.take 20) (by rw [List.length_take]; omega)
  generalize tog ((a0.take 20).map tm) = m at hr hc hsm hl20
  have key : iter (fun (s : Int) => gabionlaw15_ExtGrows_l0 a2 [a0, m] a1 s) ([a0, m].length + 1) 0 = some (.inr ()) := by
    refine iter_fold (l := [a0, m]) (S := fun i _ => (i : Int)) _ (fun i x hx => ?_) ?_ (Nat.lt_succ_self _)
    · have hi : i < [a0, m].length := (List.getElem?_eq_some_iff.1 hx).1
      have hi2 : i < 2 := hi
      have hxl : x.length ≤ 9223372036854775807 := by
        have := List.mem_of_getElem? hx
        simp only [List.mem_cons, List.not_mem_nil, or_false] at this
        rcases this with rfl | rfl
        · exact z0
        · omega
      have hw : wi64 ((i : Int) + 1) = ((i + 1 : Nat) : Int) := w64 (by omega) (by omega)
      show gabionlaw15_ExtGrows_l0 a2 [a0, m] a1 i = _
      unfold gabionlaw15_ExtGrows_l0
      rw [if_pos (by simp only [List.length_cons, List.length_nil]; omega), rd_ok hx, Option.bind_some, law_list_eq x hxl, Option.bind_some, rright_eq, Option.bind_some]
      have hm : (x.take 70).length ≤ 70 := by rw [List.length_take]; omega
      dsimp only
      generalize x.take 70 = y at hm
      have hj : ∀ b : Bool, (b = false → RightB y = true → sumL y ≤ 2000) → gabionlaw15_ExtGrows_j6 a2 y y [a0, m] i b a1 = some (.inl ((i + 1 : Nat) : Int)) := fun b hb => by
        unfold gabionlaw15_ExtGrows_j6 gabionlaw15_ExtGrows_j7
        rw [hw]
        cases b with
        | true => rw [if_pos rfl]
        | false =>
          have hmx : -1 ≤ Int.tmod (mx (-1) a1.1) 300 ∧ Int.tmod (mx (-1) a1.1) 300 < 300 := by
            have h1 : mx (-1) a1.1 = -1 ∨ 0 ≤ mx (-1) a1.1 := by unfold mx; split <;> omega
            rcases h1 with h1 | h1
            · rw [h1]; rw [show Int.tmod (-1) 300 = -1 from rfl]; omega
            · rw [Int.tmod_eq_emod_of_nonneg h1]; omega
          rw [if_neg (by simp), ExtGrows_ends hm (hb rfl) (by simp) (fun e he => by
            simp only [List.mem_cons, List.not_mem_nil, or_false] at he
            rcases he with rfl | rfl
            · exact b1.2
            · simp only; omega), Option.bind_some]
          show ((iter (fun (s : Int × Int) => gabionlaw15_ExtGrows_l3 a2 y y [a0, m] [a2, Int.tmod (mx 0 a2) 60] a1 s.1 s.2) ([a2, Int.tmod (mx 0 a2) 60].length + 1) ((i : Int), 0)).bind _) = _
          rw [ExtGrows_cuts hm (by simp), Option.bind_some]
          show ((gabionlaw15_same y y).bind _) = _
          rw [same_ext (by omega), Option.bind_some, if_pos rfl, hw]
      by_cases hR : RightB y = true
      · have r := rightB_iff.1 hR
        rw [if_pos hR, blocks_eq r.Bd (by omega), Option.bind_some]
        exact hj _ (fun h _ => by simp only [decide_eq_false_iff_not] at h; omega)
      · rw [if_neg hR]
        exact hj _ (fun _ h => absurd h hR)
    · show gabionlaw15_ExtGrows_l0 a2 [a0, m] a1 ([a0, m].length : Nat) = _
      unfold gabionlaw15_ExtGrows_l0
      rw [if_neg (by omega)]
  rw [key, Option.bind_some]
  show (gabionlaw15_wakes.bind _) = _
  rw [ext_wakes]; rfl
end Gab
