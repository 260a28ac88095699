/- ExtMaps: where each block is, and the bytes of a list. -/
import Derived.Test.YtdkldojcpncnhaaPe7
import Derived.OpenShut
set_option linter.unusedVariables false
set_option linter.unusedSimpArgs false
namespace Gab
open Go

def cnt (b : List Int) : Int := ((b.filter fun x => decide (0 ≤ x)).length : Nat)
theorem cnt_app {b c : List Int} : cnt (b ++ c) = cnt b + cnt c := by unfold cnt; rw [List.filter_append, List.length_append]; omega
theorem cnt_one {x : Int} : cnt [x] = if 0 ≤ x then 1 else 0 := by
  unfold cnt
  by_cases h : 0 ≤ x
  · rw [if_pos h]; simp [h]
  · rw [if_neg h]; simp [h]
theorem cnt_le {b : List Int} : 0 ≤ cnt b ∧ cnt b ≤ b.length := by
  unfold cnt
  have := List.length_filter_le (fun x : Int => decide (0 ≤ x)) b
  omega
theorem cnt_blk {e : Rn} (h : 0 ≤ e.2 ∧ -1 ≤ e.1) : cnt (blk e) = if e.1 = -1 then 0 else e.2 := by
  unfold cnt
  by_cases hc : e.1 = -1
  · rw [if_pos hc, List.filter_eq_nil_iff.2]
    · rfl
    · intro x hx
      obtain ⟨k, _, rfl⟩ := List.mem_map.1 hx
      rw [if_pos hc]; simp
  · rw [if_neg hc, List.filter_eq_self.2]
    · rw [blk_len]; omega
    · intro x hx
      obtain ⟨k, _, rfl⟩ := List.mem_map.1 hx
      rw [if_neg hc]; simp; omega
theorem cnt_blks {l : List Rn} (h : ∀ e ∈ l, 0 ≤ e.2 ∧ -1 ≤ e.1) : cnt (blks l) = heldL l := by
  induction l with
  | nil => rfl
  | cons e l ih => rw [blks_cons, cnt_app, cnt_blk (h e (by simp)), ih fun x hx => h x (by simp [hx]), heldL]
theorem maps_loop {x1 : Int} {x2 : List UInt8} {m : List Rn} {x30 : List (List Rn)} {x32 : Int} (r : Rt m) :
    iter (fun (s : Int × Int × Int) => gabionlaw15_ExtMaps_l1 x1 x2 m m (blks m) x30 (blks m) s.1 s.2.1 s.2.2) ((blks m).length + 1) (0, x32, 0) = some (.inr (cnt (blks m), x32)) := by
  have hbl := blks_len r.nn
  have hs := r.sum
  refine iter_fold (l := blks m) (S := fun i t => (cnt t, x32, (i : Int))) _ (fun i x hx => ?_) ?_ (Nat.lt_succ_self _)
  · have hi : i < (blks m).length := (List.getElem?_eq_some_iff.1 hx).1
    have hc := cnt_le (b := (blks m).take i)
    rw [List.length_take] at hc
    show gabionlaw15_ExtMaps_l1 x1 x2 m m (blks m) x30 (blks m) (cnt ((blks m).take i)) x32 i = _
    unfold gabionlaw15_ExtMaps_l1 gabionlaw15_ExtMaps_j18 gabionlaw15_ExtMaps_j21
    rw [if_pos (by omega), rd_ok hx, Option.bind_some, map_eq r.Bd (by have := r.len; omega) (by omega), if_neg (by omega), Int.toNat_natCast, hx]
    dsimp only [Option.bind_some]
    rw [if_pos rfl, if_neg (by simp), take_next hx, cnt_app, cnt_one, w64 (n := (i : Int) + 1) (by omega) (by omega)]
    by_cases h0 : 0 ≤ x
    · rw [if_pos h0, if_pos h0, w64 (by omega) (by omega)]; rfl
    · rw [if_neg h0, if_neg h0, Int.add_zero]; rfl
  · show gabionlaw15_ExtMaps_l1 x1 x2 m m (blks m) x30 (blks m) _ x32 (blks m).length = _
    unfold gabionlaw15_ExtMaps_l1
    rw [if_neg (by omega)]
theorem maps_one {x1 : Int} (hx1 : x1 ≤ 9223372036854775807) {x2 : List UInt8} {m : List Rn} {x30 : List (List Rn)} {i : Nat} (hi : i < 100) (r : Rt m) : gabionlaw15_ExtMaps_j8 x1 x2 m m x30 i false = some (.inl ((i + 1 : Nat) : Int)) := by
  have hbl := blks_len r.nn
  have hs := r.sum
  have hlen := r.len
  have hw : wi64 ((i : Int) + 1) = ((i + 1 : Nat) : Int) := w64 (by omega) (by omega)
  have hj : gabionlaw15_ExtMaps_j27 x1 x2 x30 i false = some (.inl ((i + 1 : Nat) : Int)) := by
    unfold gabionlaw15_ExtMaps_j27 gabionlaw15_ExtMaps_j9
    rw [if_neg (by simp), hw]
  unfold gabionlaw15_ExtMaps_j8
  rw [if_neg (by simp), rblocks_eq r.Bd (by omega), Option.bind_some, maps_loop r, Option.bind_some]
  have m1 : ext_List_Map m ((blks m).length : Int) = some (0, false) := by
    rw [map_eq r.Bd (by omega) (by omega), if_neg (by omega), Int.toNat_natCast, List.getElem?_eq_none (Nat.le_refl _)]
  have m2 : ext_List_Map m (-1) = some (0, false) := by
    rw [map_eq r.Bd (by omega) (by omega), if_pos (by omega)]
  have hT : ext_List_Text m = some (textL m) := by rw [text_eq (by omega), if_pos (rightB_iff.2 r)]
  have hP : ext_Parse (textL m) = some (m, 0) := by
    rw [parse_eq (by rw [textL_len]; omega), parse_text (fun e he => by have := r.bd e he; omega), if_pos ⟨by rw [textL_len]; omega, rightB_iff.2 r⟩]
  have hB : ext_List_Blocks m = some ((blks m).length : Int) := by rw [blocks_eq r.Bd (by omega), hbl]
  have hH : ext_List_Held m = some (cnt (blks m)) := by rw [held_eq r.Bd (by omega), cnt_blks fun e he => by have := r.bd e he; omega]
  have hS := same_ext (l := m) (by omega)
  show ((ext_List_Map m ((blks m).length : Int)).bind _) = _
  rw [m1, Option.bind_some, m2, Option.bind_some]
  by_cases h0 : 0 ≤ x1
  · by_cases h1 : x1 < ((blks m).length : Int)
    · have hx : (blks m)[x1.toNat]? = some ((blks m)[x1.toNat]'(by omega)) := List.getElem?_eq_getElem (by omega)
      have m3 : ext_List_Map m x1 = some ((blks m)[x1.toNat]'(by omega), true) := by rw [map_eq r.Bd (by omega) hx1, if_neg (by omega), hx]
      have hrd : rd (blks m) x1 = some ((blks m)[x1.toNat]'(by omega)) := by unfold rd; rw [if_pos h0, hx]
      rw [m3, Option.bind_some, hT, Option.bind_some, hP, Option.bind_some, if_neg (by simp), if_neg (by simp), if_pos h0, if_pos (decide_eq_true h1).symm, if_pos rfl, hrd, Option.bind_some, if_neg (fun g => g rfl), hB, Option.bind_some, if_neg (fun g => g rfl), hH, Option.bind_some, if_neg (fun g => g rfl), if_neg (fun g => g rfl), hS, Option.bind_some]
      exact hj
    · have m3 : ext_List_Map m x1 = some (0, false) := by rw [map_eq r.Bd (by omega) hx1, if_neg (by omega), List.getElem?_eq_none (by omega)]
      rw [m3, Option.bind_some, hT, Option.bind_some, hP, Option.bind_some, if_neg (by simp), if_neg (by simp), if_pos h0, if_pos (decide_eq_false h1).symm, if_neg (by simp), hB, Option.bind_some, if_neg (fun g => g rfl), hH, Option.bind_some, if_neg (fun g => g rfl), if_neg (fun g => g rfl), hS, Option.bind_some]
      exact hj
  · have m3 : ext_List_Map m x1 = some (0, false) := by rw [map_eq r.Bd (by omega) hx1, if_pos (by omega)]
    rw [m3, Option.bind_some, hT, Option.bind_some, hP, Option.bind_some, if_neg (by simp), if_neg (by simp), if_neg h0, if_pos rfl, if_neg (by simp), hB, Option.bind_some, if_neg (fun g => g rfl), hH, Option.bind_some, if_neg (fun g => g rfl), if_neg (fun g => g rfl), hS, Option.bind_some]
    exact hj
theorem ExtMaps_pure (a0 : List Rn) (w0 : ∀ x ∈ a0, (Lit.int IntKind.i64 x.1).wf = true ∧ (Lit.int IntKind.i64 x.2).wf = true) (z0 : a0.length ≤ 9223372036854775807) (a1 : Int) (w1 : (Lit.int IntKind.i64 a1).wf = true) (a2 : List UInt8) (z2 : a2.length ≤ 9223372036854775807) : gabionlaw15_ExtMaps a0 a1 a2 = some true := by
  have b1 := bounds_i64 w1
  unfold gabionlaw15_ExtMaps
  rw [tame_eq a0 z0, Option.bind_some]
  obtain ⟨hr, hsm, hc, hl20⟩ := tame_rt (a0.take 20) (by rw [List.length_take]; omega)
  generalize tog ((a0.take 20).map tm) = m at hr hc hsm hl20
  have key : iter (fun (s : Int) => gabionlaw15_ExtMaps_l0 a1 a2 [a0, m] s) ([a0, m].length + 1) 0 = some (.inr ()) := by
    refine iter_fold (l := [a0, m]) (S := fun i _ => (i : Int)) _ (fun i x hx => ?_) ?_ (Nat.lt_succ_self _)
    · have hi : i < [a0, m].length := (List.getElem?_eq_some_iff.1 hx).1
      have hi2 : i < 2 := hi
      have hxl : x.length ≤ 9223372036854775807 := by
        have := List.mem_of_getElem? hx
        simp only [List.mem_cons, List.not_mem_nil, or_false] at this
        rcases this with rfl | rfl
        · exact z0
        · omega
      have hw : wi64 ((i : Int) + 1) = ((i + 1 : Nat) : Int) := w64 (by omega) (by omega)
      show gabionlaw15_ExtMaps_l0 a1 a2 [a0, m] i = _
      unfold gabionlaw15_ExtMaps_l0
      have hm : (x.take 70).length ≤ 70 := by rw [List.length_take]; omega
      rw [if_pos (by simp only [List.length_cons, List.length_nil]; omega), rd_ok hx, Option.bind_some, law_list_eq x hxl, Option.bind_some]
      dsimp only
      generalize x.take 70 = y at hm
      rw [right_eq (by omega), Option.bind_some, rright_eq, Option.bind_some, if_pos rfl, text_eq (by omega), Option.bind_some, rtext_eq (by omega), Option.bind_some]
      unfold gabionlaw15_ExtMaps_j6
      rw [if_neg (by simp), rright_eq, Option.bind_some]
      have hj : gabionlaw15_ExtMaps_j8 a1 a2 y y [a0, m] i true = some (.inl ((i + 1 : Nat) : Int)) := by
        unfold gabionlaw15_ExtMaps_j8 gabionlaw15_ExtMaps_j9
        rw [if_pos rfl, hw]
      by_cases hR : RightB y = true
      · have r := rightB_iff.1 hR
        rw [if_pos hR, blocks_eq r.Bd (by omega), Option.bind_some]
        cases hd : decide (2000 < sumL y) with
        | true => exact hj
        | false => exact maps_one b1.2 (by omega) r
      · rw [if_neg hR]
        exact hj
    · show gabionlaw15_ExtMaps_l0 a1 a2 [a0, m] ([a0, m].length : Nat) = _
      unfold gabionlaw15_ExtMaps_l0
      rw [if_neg (by omega)]
  rw [key, Option.bind_some]
  have hmn : mn (a2.length : Int) 600 = ((min a2.length 600 : Nat) : Int) := by unfold mn; split <;> omega
  show ((cutL a2 0 (mn (a2.length : Int) 600)).bind _) = _
  rw [hmn, show (0 : Int) = ((0 : Nat) : Int) from rfl, cutL_nat (by omega) (by omega), Option.bind_some, List.drop_zero]
  have hsl : (a2.take (min a2.length 600)).length ≤ 600 := by rw [List.length_take]; omega
  generalize a2.take (min a2.length 600) = s at hsl
  have hpl := parseL_len (s := s)
  rw [parse_eq (by omega), Option.bind_some, ext_wakes, Option.bind_some, if_pos rfl]
  by_cases hp : s.length % 8 = 0 ∧ RightB (parseL s) = true
  · rw [if_pos hp]
    show (if (0 : Int) = 0 then ((ext_List_Text (parseL s)).bind _) else _) = _
    rw [if_pos rfl, text_eq (by omega), if_pos hp.2, text_parse hp.1, Option.bind_some, if_pos rfl]
    show ((ext_List_Right (parseL s)).bind _) = _
    rw [right_eq (by omega), Option.bind_some, if_pos hp.2]
  · rw [if_neg hp]
    rfl
end Gab
