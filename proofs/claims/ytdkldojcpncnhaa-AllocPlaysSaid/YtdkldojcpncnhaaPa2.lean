/- Use of a set of blocks: what it is, what it keeps. -/
import Derived.Test.YtdkldojcpncnhaaPa1
set_option linter.unusedVariables false
set_option linter.unusedSimpArgs false
namespace Gab
open Go

def lft (f e : Ex) : List Ex := (if 0 < e.1 - f.1 then [(f.1, e.1 - f.1)] else []) ++ (if 0 < f.1 + f.2 - (e.1 + e.2) then [(e.1 + e.2, f.1 + f.2 - (e.1 + e.2))] else [])
def MayB (n : Int) (e : Ex) : Prop := 0 ≤ e.1 ∧ 1 ≤ e.2 ∧ e.2 ≤ n ∧ e.1 ≤ n - e.2
instance (n : Int) (e : Ex) : Decidable (MayB n e) := by unfold MayB; infer_instance
def inB (e x : Ex) : Bool := decide (x.1 ≤ e.1) && decide (e.1 + e.2 ≤ x.1 + x.2)

theorem use_loop (y6 : Int) (zb2 zb4 : Int × List Ex) (f e : Ex) : iter (fun (s : (List Ex) × Int) => alloc_Set_Use_l0 y6 [(f.1, e.1 - f.1), (e.1 + e.2, f.1 + f.2 - (e.1 + e.2))] zb2 zb4 s.1 s.2) 3 ([], 0) = some (lft f e) := by
  have s0 : alloc_Set_Use_l0 y6 [(f.1, e.1 - f.1), (e.1 + e.2, f.1 + f.2 - (e.1 + e.2))] zb2 zb4 [] 0 = some (.inl (if 0 < e.1 - f.1 then [(f.1, e.1 - f.1)] else [], 1)) := by
    show (if 0 < e.1 - f.1 then _ else _) = _
    by_cases h : 0 < e.1 - f.1
    · rw [if_pos h, if_pos h]; rfl
    · rw [if_neg h, if_neg h]; rfl
  have s1 : ∀ m : List Ex, m.length ≤ 1 → alloc_Set_Use_l0 y6 [(f.1, e.1 - f.1), (e.1 + e.2, f.1 + f.2 - (e.1 + e.2))] zb2 zb4 m 1 = some (.inl (m ++ (if 0 < f.1 + f.2 - (e.1 + e.2) then [(e.1 + e.2, f.1 + f.2 - (e.1 + e.2))] else []), 2)) := by
    intro m hm
    show (if 0 < f.1 + f.2 - (e.1 + e.2) then _ else _) = _
    by_cases h : 0 < f.1 + f.2 - (e.1 + e.2)
    · rw [if_pos h, if_pos h, appL_ok (by simp only [List.length_cons, List.length_nil]; omega)]; rfl
    · rw [if_neg h, if_neg h, List.append_nil]; rfl
  rw [iter_inl s0, iter_inl (s1 _ (by split <;> simp)), iter_inr (e := lft f e)]
  rfl

theorem may_eqB {n : Int} {l : List Ex} {e : Ex} (h0 : 0 ≤ n) (hn : n ≤ 65536) : alloc_Set_may (n, l) e = some (decide (MayB n e)) := (may_eq h0 hn).trans (by unfold MayB; rfl)
theorem use_arg {n : Int} {l : List Ex} {e : Ex} (h0 : 0 ≤ n) (hn : n ≤ 65536) (he : ¬ MayB n e) : alloc_Set_Use (n, l) e = some ((0, []), 2) := by
  unfold alloc_Set_Use
  rw [may_eqB h0 hn, decide_eq_false he]; rfl
theorem use_ix {n : Int} {l : List Ex} {e : Ex} (h : Gd n 0 l) (h0 : 0 ≤ n) (hn : n ≤ 65536) (he : MayB n e) : slices_IndexFunc_alloc_Extent l (fun x0_ => alloc_Set_Use_1 x0_ e) = some (ixOf (inB e) l) := by
  obtain ⟨e0, e1, e2, e3⟩ := he
  have hlen := h.len h0
  refine index_eq (by omega) fun x hx => ?_
  have := h.mem x hx
  unfold alloc_Set_Use_1 inB
  rw [end_eq (e := e) (by omega) (by omega), end_eq (e := x) (by omega) (by omega)]
  by_cases h1 : x.1 ≤ e.1
  · rw [if_pos h1, decide_eq_true h1]; rfl
  · rw [if_neg h1, decide_eq_false h1]; rfl
theorem use_state {n : Int} {l : List Ex} {e : Ex} (h : Gd n 0 l) (h0 : 0 ≤ n) (hn : n ≤ 65536) (he : MayB n e) (hno : ∀ x ∈ l, inB e x = false) : alloc_Set_Use (n, l) e = some ((0, []), 8) := by
  unfold alloc_Set_Use
  rw [may_eqB h0 hn, decide_eq_true he, Option.bind_some, if_pos rfl, use_ix h h0 hn he, Option.bind_some, ixOf_lt hno, if_pos (by omega)]
theorem use_ok {n : Int} {A C : List Ex} {f e : Ex} (h : Gd n 0 (A ++ f :: C)) (h0 : 0 ≤ n) (hn : n ≤ 65536) (he : MayB n e) (hf : inB e f = true) (hA : ∀ x ∈ A, inB e x = false) : alloc_Set_Use (n, A ++ f :: C) e = some ((n, A ++ lft f e ++ C), 0) := by
  have hix : ixOf (inB e) (A ++ f :: C) = A.length := by
    unfold ixOf
    have : (A ++ f :: C).findIdx? (inB e) = some A.length := by
      rw [List.findIdx?_append, List.findIdx?_eq_none_iff.2 (fun x hx => by simp [hA x hx]), List.findIdx?_cons, hf]
      simp
    rw [this]
  have hlen := h.len h0
  simp only [List.length_append, List.length_cons] at hlen
  have hfm := h.mem f (by simp)
  obtain ⟨e0, e1, e2, e3⟩ := id he
  unfold alloc_Set_Use
  rw [may_eqB h0 hn, decide_eq_true he, Option.bind_some, if_pos rfl, use_ix h h0 hn he, Option.bind_some, hix, if_neg (by omega)]
  have hget : (A ++ f :: C)[A.length]? = some f := by simp
  rw [rd_ok hget, Option.bind_some, end_eq (e := e) (by omega) (by omega), Option.bind_some, end_eq (e := f) (by omega) (by omega), Option.bind_some, Option.bind_some]
  simp only [inB, Bool.and_eq_true, decide_eq_true_iff] at hf
  rw [w64 (n := e.1 - f.1) (by omega) (by omega), w64 (n := f.1 + f.2 - (e.1 + e.2)) (by omega) (by omega)]
  have hl := use_loop A.length (n, A ++ f :: C) (0, []) f e
  simp only [List.length_cons, List.length_nil, Nat.reduceAdd]
  rw [hl, Option.bind_some, show (0 : Int) = ((0 : Nat) : Int) from rfl, cutL_nat (by omega) (by simp), Option.bind_some, w64 (n := (A.length : Int) + 1) (by omega) (by omega)]
  rw [show (A.length : Int) + 1 = ((A.length + 1 : Nat) : Int) by omega, cutL_nat (by simp) (by omega), Option.bind_some]
  have hll : (lft f e).length ≤ 2 := by unfold lft; split <;> split <;> simp
  have e1' : (A ++ f :: C).take A.length = A := by simp
  have e2' : ((A ++ f :: C).take (A ++ f :: C).length).drop (A.length + 1) = C := by
    rw [List.take_length, ← List.drop_drop]; simp
  rw [e1', e2', List.drop_zero, concat_eq (by simp) (by simp; omega)]
  simp

/-- Good lists, with a part used. -/
theorem use_good {hi : Int} : ∀ {A C : List Ex} {f e : Ex} {lo : Int}, Gd hi lo (A ++ f :: C) → inB e f = true → 1 ≤ e.2 → Gd hi lo (A ++ lft f e ++ C) ∧ ∀ b, Fr' (A ++ lft f e ++ C) b ↔ (Fr' (A ++ f :: C) b ∧ ¬ (e.1 ≤ b ∧ b < e.1 + e.2))
  | [], C, f, e, lo, h, hf, he => by
    simp only [inB, Bool.and_eq_true, decide_eq_true_iff] at hf
    obtain ⟨h1, h2, h3, h4⟩ := h
    have hm := h4.mem
    constructor
    · unfold lft
      by_cases c1 : 0 < e.1 - f.1
      · by_cases c2 : 0 < f.1 + f.2 - (e.1 + e.2)
        · rw [if_pos c1, if_pos c2]
          exact ⟨h1, by simp only; omega, by simp only; omega, by simp only; omega, by simp only; omega, by simp only; omega, h4.mono (by simp only; omega)⟩
        · rw [if_pos c1, if_neg c2]
          exact ⟨h1, by simp only; omega, by simp only; omega, h4.mono (by simp only; omega)⟩
      · by_cases c2 : 0 < f.1 + f.2 - (e.1 + e.2)
        · rw [if_neg c1, if_pos c2]
          exact ⟨by simp only; omega, by simp only; omega, by simp only; omega, h4.mono (by simp only; omega)⟩
        · rw [if_neg c1, if_neg c2]
          exact h4.mono (by omega)
    · intro b
      have key : Fr' (lft f e) b ↔ (f.1 ≤ b ∧ b < f.1 + f.2) ∧ ¬ (e.1 ≤ b ∧ b < e.1 + e.2) := by
        unfold lft Fr'
        constructor
        · rintro ⟨x, hx, hx1, hx2⟩
          rcases List.mem_append.1 hx with hx | hx
          · split at hx
            · simp at hx; subst hx; simp only at hx1 hx2; omega
            · simp at hx
          · split at hx
            · simp at hx; subst hx; simp only at hx1 hx2; omega
            · simp at hx
        · rintro ⟨⟨g1, g2⟩, g3⟩
          by_cases c : b < e.1
          · exact ⟨(f.1, e.1 - f.1), by rw [if_pos (by omega)]; simp, g1, by simp only; omega⟩
          · exact ⟨(e.1 + e.2, f.1 + f.2 - (e.1 + e.2)), by rw [if_pos (show 0 < f.1 + f.2 - (e.1 + e.2) by omega)]; simp, by simp only; omega, by simp only; omega⟩
      rw [List.nil_append]
      constructor
      · rintro ⟨x, hx, hx1, hx2⟩
        rcases List.mem_append.1 hx with hx | hx
        · have := key.1 ⟨x, hx, hx1, hx2⟩
          exact ⟨⟨f, by simp, this.1⟩, this.2⟩
        · have := hm x hx
          exact ⟨⟨x, by simp [hx], hx1, hx2⟩, by omega⟩
      · rintro ⟨⟨x, hx, hx1, hx2⟩, hn⟩
        rcases List.mem_cons.1 hx with rfl | hx
        · obtain ⟨y, hy, hy1⟩ := key.2 ⟨⟨hx1, hx2⟩, hn⟩
          exact ⟨y, List.mem_append_left _ hy, hy1⟩
        · exact ⟨x, List.mem_append_right _ hx, hx1, hx2⟩
  | a :: A, C, f, e, lo, h, hf, he => by
    obtain ⟨h1, h2, h3, h4⟩ := h
    obtain ⟨g1, g2⟩ := use_good (A := A) h4 hf he
    simp only [inB, Bool.and_eq_true, decide_eq_true_iff] at hf
    have hfm := Gd.mem h4 f (by simp)
    refine ⟨⟨h1, h2, h3, g1⟩, fun b => ?_⟩
    constructor
    · rintro ⟨x, hx, hx1, hx2⟩
      rcases List.mem_cons.1 hx with rfl | hx
      · exact ⟨⟨x, by simp, hx1, hx2⟩, by omega⟩
      · obtain ⟨⟨y, hy, hy1⟩, hn⟩ := (g2 b).1 ⟨x, hx, hx1, hx2⟩
        exact ⟨⟨y, List.mem_cons_of_mem _ hy, hy1⟩, hn⟩
    · rintro ⟨⟨x, hx, hx1, hx2⟩, hn⟩
      rcases List.mem_cons.1 hx with rfl | hx
      · exact ⟨x, by simp, hx1, hx2⟩
      · obtain ⟨y, hy, hy1⟩ := (g2 b).2 ⟨⟨x, hx, hx1, hx2⟩, hn⟩
        exact ⟨y, List.mem_cons_of_mem _ hy, hy1⟩
theorem use_tot {A C : List Ex} {f e : Ex} (hf : inB e f = true) : tot (A ++ lft f e ++ C) = tot (A ++ f :: C) - e.2 := by
  simp only [inB, Bool.and_eq_true, decide_eq_true_iff] at hf
  rw [tot_app, tot_app, tot_app]
  have : tot (lft f e) = f.2 - e.2 := by
    unfold lft
    rw [tot_app]
    have a1 : tot (if 0 < e.1 - f.1 then [(f.1, e.1 - f.1)] else []) = e.1 - f.1 := by
      split
      · simp [tot]
      · simp [tot]; omega
    have a2 : tot (if 0 < f.1 + f.2 - (e.1 + e.2) then [(e.1 + e.2, f.1 + f.2 - (e.1 + e.2))] else []) = f.1 + f.2 - (e.1 + e.2) := by
      split
      · simp [tot]
      · simp [tot]; omega
    rw [a1, a2]; omega
  rw [this]; simp only [tot]; omega

/-- Use, whatever it is given: the three answers. -/
theorem use_any {n : Int} {l : List Ex} {e : Ex} (h : Gd n 0 l) (h0 : 0 ≤ n) (hn : n ≤ 65536) :
    (¬ MayB n e ∧ alloc_Set_Use (n, l) e = some ((0, []), 2)) ∨ (MayB n e ∧ (∀ x ∈ l, inB e x = false) ∧ alloc_Set_Use (n, l) e = some ((0, []), 8)) ∨
    ∃ A f C, l = A ++ f :: C ∧ MayB n e ∧ inB e f = true ∧ (∀ x ∈ A, inB e x = false) ∧ alloc_Set_Use (n, l) e = some ((n, A ++ lft f e ++ C), 0) := by
  by_cases hm : MayB n e
  · rcases Int.lt_or_le (ixOf (inB e) l) 0 with hlt | hge
    · have := ixOf_none hlt
      exact .inr (.inl ⟨hm, this, use_state h h0 hn hm this⟩)
    · obtain ⟨A, f, C, rfl, _, hf, hA⟩ := ixOf_some hge
      exact .inr (.inr ⟨A, f, C, rfl, hm, hf, hA, use_ok h h0 hn hm hf hA⟩)
  · exact .inl ⟨hm, use_arg h0 hn hm⟩
/-- A set after Use, be it refused or not. -/
theorem use_keeps {n : Int} {l : List Ex} {e : Ex} (h : Gd n 0 l) (h0 : 0 ≤ n) (hn : n ≤ 65536) : ∃ s r, alloc_Set_Use (n, l) e = some (s, r) ∧ (r = 0 → ∃ l', s = (n, l') ∧ Gd n 0 l') := by
  rcases use_any (e := e) h h0 hn with ⟨_, he⟩ | ⟨_, _, he⟩ | ⟨A, f, C, rfl, hm, hf, _, he⟩
  · exact ⟨_, _, he, fun h => by simp at h⟩
  · exact ⟨_, _, he, fun h => by simp at h⟩
  · exact ⟨_, _, he, fun _ => ⟨_, rfl, (use_good h hf hm.2.1).1⟩⟩
end Gab
