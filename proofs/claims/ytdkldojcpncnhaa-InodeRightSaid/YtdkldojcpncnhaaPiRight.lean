/- InodeRight: which inodes may be, and their bytes, is the document's answer. -/
import Derived.Test.YtdkldojcpncnhaaPi2
set_option linter.unusedVariables false
set_option linter.unusedSimpArgs false
namespace Gab
open Go
theorem InodeRight_pure (a0 : In) (w0 : (Lit.int IntKind.u8 a0.1).wf = true ∧ (Lit.int IntKind.i64 a0.2.1).wf = true ∧ (Lit.int IntKind.i64 a0.2.2.1).wf = true ∧ ((∀ x ∈ a0.2.2.2.1, (Lit.int IntKind.i64 x.1).wf = true ∧ (Lit.int IntKind.i64 x.2).wf = true) ∧ a0.2.2.2.1.length ≤ 9223372036854775807) ∧ a0.2.2.2.2.length ≤ 9223372036854775807)
    (a1 : Int) (w1 : (Lit.int IntKind.i64 a1).wf = true) : gabionlaw16_InodeRight a0 a1 = some true := by
  obtain ⟨wk, wl, ws, _, _⟩ := w0
  have hk := bounds_u8 wk
  have hs := bounds_i64 ws
  have h1 := bounds_i64 w1
  obtain ⟨y, hy, hr⟩ := tame_ok hk.1 hk.2
  obtain ⟨b1, b2, b3, b4, _⟩ := right_bd hr
  have hone : ∀ (z : In), z.2.2.2.1.length ≤ 70 → z.2.2.2.2.length ≤ 300 → z.2.2.1 ≤ 9223372036854775807 → ∀ (L : List In) (i : Nat), L[i]? = some z → L.length = 2 → gabionlaw16_InodeRight_l0 a1 L a0 i = some (.inl ((i + 1 : Nat) : Int)) := by
    intro z z1 z2 z3 L i hL hl
    have hi := (List.getElem?_eq_some_iff.1 hL).1
    unfold gabionlaw16_InodeRight_l0 gabionlaw16_InodeRight_j7
    rw [if_pos (by omega), rd_ok hL, Option.bind_some, of_eq (by omega), Option.bind_some, righti_eq (by omega) z3, Option.bind_some, rrighti_eq (by omega) (by omega) z3, Option.bind_some, if_pos rfl, texti_eq (by omega) z3, Option.bind_some, rtexti_eq (by omega) (by omega) z3, Option.bind_some, if_pos rfl,
      texti_eq (by omega) z3, Option.bind_some, rtexti_eq (by omega) (by omega) z3, Option.bind_some, if_neg (by simp), w64 (by omega) (by omega)]; rfl
  unfold gabionlaw16_InodeRight
  rw [icut_eq, Option.bind_some, hy, Option.bind_some]
  have c0 := hone (cutI a0) (by show (a0.2.2.2.1.take 70).length ≤ 70; rw [List.length_take]; omega) (by show (a0.2.2.2.2.take 300).length ≤ 300; rw [List.length_take]; omega) hs.2 [cutI a0, y] 0 rfl rfl
  have c1 := hone y (by omega) (by omega) (by omega) [cutI a0, y] 1 rfl rfl
  have key : iter (fun (s : Int) => gabionlaw16_InodeRight_l0 a1 [cutI a0, y] a0 s) ([cutI a0, y].length + 1) 0 = some (.inr ()) := by
    refine (iter_inl (step := fun (s : Int) => gabionlaw16_InodeRight_l0 a1 [cutI a0, y] a0 s) (d := 2) (s := 0) (s' := 1) c0).trans ((iter_inl (step := fun (s : Int) => gabionlaw16_InodeRight_l0 a1 [cutI a0, y] a0 s) (d := 1) (s := 1) (s' := 2) c1).trans (iter_inr ?_))
    show gabionlaw16_InodeRight_l0 a1 [cutI a0, y] a0 (2 : Int) = _
    unfold gabionlaw16_InodeRight_l0; rw [if_neg (by simp)]
  rw [key, Option.bind_some]
  simp only [on]
  rw [inode_wakes, Option.bind_some, if_pos rfl, Option.bind_some, rrighti_eq (by omega) (by omega) (by omega), hr, Option.bind_some, if_pos rfl, need_eq hs.2, Option.bind_some, rneed_eq hs.2, Option.bind_some, if_pos rfl, need_eq h1.2, Option.bind_some, rneed_eq h1.2, Option.bind_some, decide_eq_true rfl]
end Gab
