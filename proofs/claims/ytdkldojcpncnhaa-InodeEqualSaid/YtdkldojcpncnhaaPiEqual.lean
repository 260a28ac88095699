/- InodeEqual: two inodes are the same just if all their fields are. -/
import Derived.Test.YtdkldojcpncnhaaPi2
set_option linter.unusedVariables false
set_option linter.unusedSimpArgs false
namespace Gab
open Go
def eqN : List Rn → List Rn → Nat → Bool
  | a, b, 0 => true
  | a, b, n + 1 => match a[n]?, b[n]? with
    | some x, some y => eqN a b n && (decide (x.1 = y.1) && (decide (x.2 = y.2) && true))
    | _, _ => false
theorem eq_loop {a b : List Rn} (hl : a.length = b.length) (ha : a.length ≤ 1000) {z5 z6 : In} (h5 : z5.2.2.2.1 = a) (h6 : z6.2.2.2.1 = b) :
    iter (fun (s : Bool × Int) => gabionlaw16_InodeEqual_l0 (a.length : Int) z5 z6 s.1 s.2) (a.length + 1) (true, 0) = some (decide (a = b)) := by
  have := iter_go (step := fun (s : Bool × Int) => gabionlaw16_InodeEqual_l0 (a.length : Int) z5 z6 s.1 s.2) (l := a) (S := fun i (q : Bool) => (q, (i : Int))) (fun p r q => q && decide (r = b.drop p.length)) (fun _ _ => True) (fun q _ => by
      show gabionlaw16_InodeEqual_l0 _ _ _ q (a.length : Int) = _
      unfold gabionlaw16_InodeEqual_l0
      rw [if_neg (by omega), hl, List.drop_length]; simp) (fun p x r q hp _ => by
      have hlt : p.length < a.length := by rw [hp]; simp
      have hb : b[p.length]? = some (b[p.length]'(by omega)) := List.getElem?_eq_getElem (by omega)
      right
      have hdr : b.drop p.length = b[p.length]'(by omega) :: b.drop (p.length + 1) := List.drop_eq_getElem_cons (by omega)
      generalize b[p.length]'(by omega) = y at hdr hb
      cases q with
      | false =>
        refine ⟨false, ?_, trivial, by simp⟩
        show gabionlaw16_InodeEqual_l0 _ _ _ false (p.length : Int) = _
        unfold gabionlaw16_InodeEqual_l0 gabionlaw16_InodeEqual_j7
        rw [if_pos (by omega), if_neg (by simp), w64 (by omega) (by omega)]; rfl
      | true =>
        refine ⟨decide (x = y), ?_, trivial, ?_⟩
        · show gabionlaw16_InodeEqual_l0 _ _ _ true (p.length : Int) = _
          unfold gabionlaw16_InodeEqual_l0 gabionlaw16_InodeEqual_j7
          have : (decide (x.1 = y.1) && (decide (x.2 = y.2) && true)) = decide (x = y) := by
            rw [Bool.and_true, Bool.eq_iff_iff]
            simp only [Bool.and_eq_true, decide_eq_true_iff]
            exact ⟨fun h => Prod.ext h.1 h.2, fun h => by rw [h]; exact ⟨rfl, rfl⟩⟩
          rw [if_pos (by omega), if_pos rfl, h5, h6, rd_mid hp, Option.bind_some, rd_ok hb, Option.bind_some, this, w64 (by omega) (by omega)]; rfl
        · rw [hdr, List.length_append, Bool.true_and, Bool.eq_iff_iff]
          simp) a [] true (a.length + 1) rfl trivial (Nat.lt_succ_self _)
  simp only [List.length_nil, List.drop_zero, Bool.true_and] at this
  exact this
theorem eq_false {a : List Rn} (ha : a.length ≤ 1000) {z5 z6 : In} :
    iter (fun (s : Bool × Int) => gabionlaw16_InodeEqual_l0 (a.length : Int) z5 z6 s.1 s.2) (a.length + 1) (false, 0) = some false := by
  refine iter_fold (l := a) (S := fun i (_ : List Rn) => (false, (i : Int))) _ (fun i x hx => ?_) ?_ (Nat.lt_succ_self _)
  · have hi := (List.getElem?_eq_some_iff.1 hx).1
    show gabionlaw16_InodeEqual_l0 _ _ _ false (i : Int) = _
    unfold gabionlaw16_InodeEqual_l0 gabionlaw16_InodeEqual_j7
    rw [if_pos (by omega), if_neg (by simp), w64 (by omega) (by omega)]; rfl
  · show gabionlaw16_InodeEqual_l0 _ _ _ false (a.length : Int) = _
    unfold gabionlaw16_InodeEqual_l0
    rw [if_neg (by omega)]
theorem wi64_succ_ne (n : Int) : n ≠ wi64 (n + 1) := by
  show n ≠ IntKind.wrap .i64 (n + 1)
  rw [IntKind.wrap_i64]
  omega
theorem eq_j2 {z5 z6 : In} (h5 : z5.2.2.2.1.length ≤ 70) (h6 : z6.2.2.2.1.length ≤ 70) {q : Bool} (hq : (q = true ∧ z5.2.2.2.1.length = z6.2.2.2.1.length ∧ (z5 = z6 ↔ z5.2.2.2.1 = z6.2.2.2.1)) ∨ (q = false ∧ z5 ≠ z6)) : gabionlaw16_InodeEqual_j2 q z5 z6 = some true := by
  have key : iter (fun (s : Bool × Int) => gabionlaw16_InodeEqual_l0 (z5.2.2.2.1.length : Int) z5 z6 s.1 s.2) (z5.2.2.2.1.length + 1) (q, 0) = some (decide (z5 = z6)) := by
    rcases hq with ⟨rfl, h1, h2⟩ | ⟨rfl, h⟩
    · rw [eq_loop h1 (by omega) rfl rfl]
      congr 1
      rw [decide_eq_decide]; exact h2.symm
    · rw [eq_false (by omega), decide_eq_false h]
  unfold gabionlaw16_InodeEqual_j2
  have o5 := of_eq (x := z5) (by omega)
  have o6 := of_eq (x := z6) (by omega)
  simp only [key, Option.bind_some, o5, o6, inode_wakes, if_true]
  rw [equal_eq (by omega), Option.bind_some, if_pos rfl, equal_eq (by omega), Option.bind_some, decide_eq_true rfl, if_pos rfl, equal_eq (by omega), Option.bind_some, decide_eq_false (fun e => wi64_succ_ne z5.2.1 (congrArg (fun t : In => t.2.1) e))]; rfl
theorem InodeEqual_pure (a0 : In) (w0 : (Lit.int IntKind.u8 a0.1).wf = true ∧ (Lit.int IntKind.i64 a0.2.1).wf = true ∧ (Lit.int IntKind.i64 a0.2.2.1).wf = true ∧ ((∀ x ∈ a0.2.2.2.1, (Lit.int IntKind.i64 x.1).wf = true ∧ (Lit.int IntKind.i64 x.2).wf = true) ∧ a0.2.2.2.1.length ≤ 9223372036854775807) ∧ a0.2.2.2.2.length ≤ 9223372036854775807)
    (a1 : In) (w1 : (Lit.int IntKind.u8 a1.1).wf = true ∧ (Lit.int IntKind.i64 a1.2.1).wf = true ∧ (Lit.int IntKind.i64 a1.2.2.1).wf = true ∧ ((∀ x ∈ a1.2.2.2.1, (Lit.int IntKind.i64 x.1).wf = true ∧ (Lit.int IntKind.i64 x.2).wf = true) ∧ a1.2.2.2.1.length ≤ 9223372036854775807) ∧ a1.2.2.2.2.length ≤ 9223372036854775807) : gabionlaw16_InodeEqual a0 a1 = some true := by
  unfold gabionlaw16_InodeEqual
  rw [icut_eq, Option.bind_some, icut_eq, Option.bind_some]
  have h5 : (cutI a0).2.2.2.1.length ≤ 70 := by show (a0.2.2.2.1.take 70).length ≤ 70; rw [List.length_take]; omega
  have h6 : (cutI a1).2.2.2.1.length ≤ 70 := by show (a1.2.2.2.1.take 70).length ≤ 70; rw [List.length_take]; omega
  generalize cutI a0 = x at h5
  generalize cutI a1 = y at h6
  obtain ⟨x1, x2, x3, x4, x5⟩ := x
  obtain ⟨y1, y2, y3, y4, y5⟩ := y
  simp only at h5 h6
  unfold gabionlaw16_InodeEqual_j1
  simp only
  split
  · split
    · split
      · split
        · rename_i e1 e2 e3 e4
          by_cases hl : (x4.length : Int) = (y4.length : Int)
          · rw [decide_eq_true hl]
            exact eq_j2 h5 h6 (.inl ⟨rfl, by simp only; omega, by simp [e1, e2, e3, e4]⟩)
          · rw [decide_eq_false hl]
            exact eq_j2 h5 h6 (.inr ⟨rfl, fun e => hl (by simp only [Prod.mk.injEq] at e; rw [e.2.2.2.1])⟩)
        · rename_i e; exact eq_j2 h5 h6 (.inr ⟨rfl, fun h => e (by simp only [Prod.mk.injEq] at h; exact h.2.2.2.2)⟩)
      · rename_i e; exact eq_j2 h5 h6 (.inr ⟨rfl, fun h => e (by simp only [Prod.mk.injEq] at h; exact h.2.2.1)⟩)
    · rename_i e; exact eq_j2 h5 h6 (.inr ⟨rfl, fun h => e (by simp only [Prod.mk.injEq] at h; exact h.2.1)⟩)
  · rename_i e; exact eq_j2 h5 h6 (.inr ⟨rfl, fun h => e (by simp only [Prod.mk.injEq] at h; exact h.1)⟩)
end Gab
