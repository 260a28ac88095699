/- Give of a set of blocks; a set is told by its free blocks. -/
import Derived.Test.YtdkldojcpncnhaaPa3
set_option linter.unusedVariables false
set_option linter.unusedSimpArgs false
namespace Gab
open Go

theorem Gd.pw {hi : Int} : ∀ {l : List Ex} {lo : Int}, Gd hi lo l → l.Pairwise fun x y => x.1 + x.2 < y.1
  | [], _, _ => List.Pairwise.nil
  | e :: r, lo, h => List.pairwise_cons.2 ⟨fun y hy => by have := Gd.mem h.2.2.2 y hy; omega, Gd.pw h.2.2.2⟩
/-- The free blocks tell the list. -/
theorem Gd.uniq {hi : Int} : ∀ {l m : List Ex} {lo : Int}, Gd hi lo l → Gd hi lo m → (∀ b, Fr' l b ↔ Fr' m b) → l = m
  | [], [], _, _, _, _ => rfl
  | [], e :: m, lo, _, h, hb => by
    have := (hb e.1).2 ⟨e, by simp, by have := h.2.1; omega⟩
    obtain ⟨x, hx, _⟩ := this
    simp at hx
  | e :: l, [], lo, h, _, hb => by
    have := (hb e.1).1 ⟨e, by simp, by have := h.2.1; omega⟩
    obtain ⟨x, hx, _⟩ := this
    simp at hx
  | e :: l, f :: m, lo, h, k, hb => by
    obtain ⟨h1, h2, h3, h4⟩ := id h
    obtain ⟨k1, k2, k3, k4⟩ := id k
    have low : ∀ {x : Ex} {r : List Ex} {lo : Int}, Gd hi lo (x :: r) → ∀ b, Fr' (x :: r) b → x.1 ≤ b := fun {x r lo} hg b ⟨y, hy, hy1, hy2⟩ => by
      rcases List.mem_cons.1 hy with rfl | hy
      · exact hy1
      · have := Gd.mem hg.2.2.2 y hy; have := hg.2.1; omega
    have a1 : e.1 ≤ f.1 := low h f.1 ((hb f.1).2 ⟨f, by simp, by omega⟩)
    have a2 : f.1 ≤ e.1 := low k e.1 ((hb e.1).1 ⟨e, by simp, by omega⟩)
    have nx : ∀ {x : Ex} {r : List Ex} {lo : Int}, Gd hi lo (x :: r) → ¬ Fr' (x :: r) (x.1 + x.2) := fun {x r lo} hg ⟨y, hy, hy1, hy2⟩ => by
      rcases List.mem_cons.1 hy with rfl | hy
      · omega
      · have := Gd.mem hg.2.2.2 y hy; omega
    have a3 : f.2 ≤ e.2 := by
      rcases Int.lt_or_le e.2 f.2 with hlt | hge
      · exact absurd ((hb (e.1 + e.2)).2 ⟨f, by simp, by omega, by omega⟩) (nx h)
      · exact hge
    have a4 : e.2 ≤ f.2 := by
      rcases Int.lt_or_le f.2 e.2 with hlt | hge
      · exact absurd ((hb (f.1 + f.2)).1 ⟨e, by simp, by omega, by omega⟩) (nx k)
      · exact hge
    have hef : e = f := Prod.ext (by omega) (by omega)
    subst hef
    rw [Gd.uniq h4 k4 fun b => ?_]
    constructor
    · rintro ⟨y, hy, hy1, hy2⟩
      have hm := Gd.mem h4 y hy
      obtain ⟨z, hz, hz1, hz2⟩ := (hb b).1 ⟨y, by simp [hy], hy1, hy2⟩
      rcases List.mem_cons.1 hz with rfl | hz
      · omega
      · exact ⟨z, hz, hz1, hz2⟩
    · rintro ⟨y, hy, hy1, hy2⟩
      have hm := Gd.mem k4 y hy
      obtain ⟨z, hz, hz1, hz2⟩ := (hb b).2 ⟨y, by simp [hy], hy1, hy2⟩
      rcases List.mem_cons.1 hz with rfl | hz
      · omega
      · exact ⟨z, hz, hz1, hz2⟩

theorem mid_eq {i j : Nat} (h : i + j ≤ 4611686018427387904) : wi64 (shrK .u64 (wu64 (wi64 ((i : Int) + (j : Int)))) 1) = (((i + j) / 2 : Nat) : Int) := by
  rw [w64 (n := (i : Int) + j) (by omega) (by omega)]
  have e1 : wu64 ((i : Int) + j) = ((i + j : Nat) : Int) := by
    have : wu64 ((i : Int) + j) = ((i : Int) + j) % 18446744073709551616 := rfl
    rw [this]; omega
  rw [e1]
  have e2 : shrK .u64 ((i + j : Nat) : Int) 1 = (((i + j) / 2 : Nat) : Int) := by
    show Int.fdiv ((i + j : Nat) : Int) (2 ^ (min (1 : Int).toNat (IntKind.bits .u64))) = _
    have : min (1 : Int).toNat (IntKind.bits .u64) = 1 := by decide
    rw [this, Int.fdiv_eq_ediv_of_nonneg _ (by omega)]
    omega
  rw [e2]
  exact w64 (by omega) (by omega)
theorem bs_eq {l : List Ex} {at_ : Int} (hs : l.Pairwise fun x y => x.1 < y.1) (hl : l.length ≤ 70000) (hb : ∀ x ∈ l, -1000000 ≤ x.1 ∧ x.1 ≤ 1000000) (ha : -1000000 ≤ at_ ∧ at_ ≤ 1000000) :
    ∃ A B f, l = A ++ B ∧ slices_BinarySearchFunc_alloc_Extent_int l at_ (fun x0_ x1_ => alloc_Set_Give_1 x0_ x1_) = some ((A.length : Int), f) ∧ (∀ x ∈ A, x.1 < at_) ∧ ∀ x ∈ B, at_ ≤ x.1 := by
  have hpw := List.pairwise_iff_getElem.1 hs
  obtain ⟨e, he, k, rfl, hk, h1, h2⟩ := iter_of (step := fun (s : Int × Int) => slices_BinarySearchFunc_alloc_Extent_int_l0 (fun x0_ x1_ => alloc_Set_Give_1 x0_ x1_) l at_ s.1 s.2)
    (fun n s => ∃ i j : Nat, s = ((i : Int), (j : Int)) ∧ i ≤ j ∧ j ≤ l.length ∧ j - i ≤ n ∧ (∀ (q : Nat) (hq : q < l.length), q < i → (l[q]).1 < at_) ∧ ∀ (q : Nat) (hq : q < l.length), j ≤ q → at_ ≤ (l[q]).1)
    (fun e => ∃ k : Nat, e = (k : Int) ∧ k ≤ l.length ∧ (∀ (q : Nat) (hq : q < l.length), q < k → (l[q]).1 < at_) ∧ ∀ (q : Nat) (hq : q < l.length), k ≤ q → at_ ≤ (l[q]).1) (fun n s ⟨i, j, hs', hij, hj, hn, g1, g2⟩ => by
      subst hs'
      by_cases hc : i < j
      · have hm1 : i ≤ (i + j) / 2 := by omega
        have hm2 : (i + j) / 2 < j := by omega
        have hx : l[(i + j) / 2]? = some (l[(i + j) / 2]'(by omega)) := List.getElem?_eq_getElem (by omega)
        have hxb := hb _ (List.getElem_mem (show (i + j) / 2 < l.length by omega))
        obtain ⟨n, rfl⟩ : ∃ m, n = m + 1 := ⟨n - 1, by omega⟩
        left
        by_cases hlt : (l[(i + j) / 2]'(by omega)).1 < at_
        · refine ⟨n, ((((i + j) / 2 + 1 : Nat) : Int), (j : Int)), rfl, ?_, (i + j) / 2 + 1, j, rfl, by omega, hj, by omega, fun q hq hqi => ?_, g2⟩
          · show slices_BinarySearchFunc_alloc_Extent_int_l0 _ l at_ i j = _
            unfold slices_BinarySearchFunc_alloc_Extent_int_l0
            rw [if_pos (by omega), mid_eq (by omega), rd_ok hx, Option.bind_some]
            unfold alloc_Set_Give_1
            rw [Option.bind_some, w64 (n := _ - at_) (by omega) (by omega), if_pos (by omega), w64 (by omega) (by omega)]; rfl
          · rcases Nat.lt_or_ge q ((i + j) / 2) with hlt' | hge
            · have := hpw q ((i + j) / 2) hq (by omega) hlt'; omega
            · have : q = (i + j) / 2 := by omega
              subst this; exact hlt
        · refine ⟨n, ((i : Int), (((i + j) / 2 : Nat) : Int)), rfl, ?_, i, (i + j) / 2, rfl, hm1, by omega, by omega, g1, fun q hq hqi => ?_⟩
          · show slices_BinarySearchFunc_alloc_Extent_int_l0 _ l at_ i j = _
            unfold slices_BinarySearchFunc_alloc_Extent_int_l0
            rw [if_pos (by omega), mid_eq (by omega), rd_ok hx, Option.bind_some]
            unfold alloc_Set_Give_1
            rw [Option.bind_some, w64 (n := _ - at_) (by omega) (by omega), if_neg (by omega)]
          · rcases Nat.lt_or_ge ((i + j) / 2) q with hlt' | hge
            · have := hpw ((i + j) / 2) q (by omega) hq hlt'; omega
            · have : q = (i + j) / 2 := by omega
              subst this; omega
      · refine .inr ⟨(i : Int), ?_, i, rfl, by omega, g1, fun q hq hqi => g2 q hq (by omega)⟩
        show slices_BinarySearchFunc_alloc_Extent_int_l0 _ l at_ i j = _
        unfold slices_BinarySearchFunc_alloc_Extent_int_l0
        rw [if_neg (by omega)]) (n := l.length) (d := 100000) (s := (0, (l.length : Int))) ⟨0, l.length, rfl, by omega, by omega, by omega, fun q _ h => by omega, fun q hq h => by omega⟩ (by omega)
  have hA : ∀ x ∈ l.take k, x.1 < at_ := fun x hx => by
    obtain ⟨q, hq, rfl⟩ := List.mem_iff_getElem.1 hx
    rw [List.length_take] at hq
    rw [List.getElem_take]
    exact h1 q (by omega) (by omega)
  have hB : ∀ x ∈ l.drop k, at_ ≤ x.1 := fun x hx => by
    obtain ⟨q, hq, rfl⟩ := List.mem_iff_getElem.1 hx
    rw [List.length_drop] at hq
    rw [List.getElem_drop]
    exact h2 (k + q) (by omega) (by omega)
  have hlen : (l.take k).length = k := by rw [List.length_take]; omega
  unfold slices_BinarySearchFunc_alloc_Extent_int
  rw [he, Option.bind_some]
  by_cases hc : (k : Int) < (l.length : Int)
  · rw [if_pos hc, rd_ok (List.getElem?_eq_getElem (show k < l.length by omega)), Option.bind_some]
    unfold alloc_Set_Give_1
    exact ⟨l.take k, l.drop k, _, (List.take_append_drop k l).symm, by rw [hlen]; rfl, hA, hB⟩
  · rw [if_neg hc]
    exact ⟨l.take k, l.drop k, _, (List.take_append_drop k l).symm, by rw [hlen], hA, hB⟩

/-- What comes behind is joined. -/
def jB (e : Ex) : List Ex → Ex × List Ex
  | [] => (e, [])
  | q :: B => if q.1 = e.1 + e.2 then ((e.1, e.2 + q.2), B) else (e, q :: B)
theorem g10 {x8 x9 : List Ex} {zb2 zb4 : Int × List Ex} {e : Ex} (h : x8.length + x9.length ≤ 100000) : alloc_Set_Give_j10 x8 x9 zb2 e zb4 = some ((zb2.1, x8 ++ e :: x9), 0) := by
  unfold alloc_Set_Give_j10
  rw [concat_eq (by simp) (by simp; omega)]
  simp
theorem g8 {x8 B : List Ex} {zb2 zb4 : Int × List Ex} {e : Ex} (h : x8.length + B.length ≤ 100000) (he : -1000000 ≤ e.1 ∧ e.1 ≤ 1000000 ∧ 0 ≤ e.2 ∧ e.2 ≤ 1000000) (hB : ∀ x ∈ B, 0 ≤ x.2 ∧ x.2 ≤ 1000000) : alloc_Set_Give_j8 x8 B zb2 e zb4 = some ((zb2.1, x8 ++ (jB e B).1 :: (jB e B).2), 0) := by
  unfold alloc_Set_Give_j8
  cases B with
  | nil =>
    rw [if_neg (by simp)]
    unfold alloc_Set_Give_j9
    rw [if_neg (by simp), g10 h]; rfl
  | cons q B =>
    have hq := hB q (by simp)
    simp only [List.length_cons] at h
    rw [if_pos (by simp only [List.length_cons]; omega), rd_zero, List.getElem?_cons_zero, Option.bind_some, end_eq (by omega) (by omega), Option.bind_some]
    unfold alloc_Set_Give_j9
    have hj : jB e (q :: B) = if q.1 = e.1 + e.2 then ((e.1, e.2 + q.2), B) else (e, q :: B) := rfl
    rw [hj]
    by_cases hc : q.1 = e.1 + e.2
    · rw [if_pos (by simp [hc]), if_pos hc, rd_zero, List.getElem?_cons_zero, Option.bind_some, show (1 : Int) = ((1 : Nat) : Int) from rfl, cutL_nat (by simp) (by omega), Option.bind_some, w64 (n := e.2 + q.2) (by omega) (by omega), List.take_length]
      simp only [List.drop_succ_cons, List.drop_zero]
      rw [g10 (by omega)]
    · rw [if_neg (by simp [hc]), if_neg hc, g10 (by simp only [List.length_cons]; omega)]
/-- What comes ahead is joined. -/
def jA (A : List Ex) (e : Ex) : List Ex × Ex := match A.getLast? with
  | none => (A, e)
  | some p => if p.1 + p.2 = e.1 then (A.dropLast, (p.1, p.2 + e.2)) else (A, e)
def mrg (A : List Ex) (e : Ex) (B : List Ex) : List Ex := (jA A e).1 ++ (jB (jA A e).2 B).1 :: (jB (jA A e).2 B).2
theorem give_arg {n : Int} {l : List Ex} {e : Ex} (h0 : 0 ≤ n) (hn : n ≤ 65536) (he : ¬ MayB n e) : alloc_Set_Give (n, l) e = some ((0, []), 2) := by
  unfold alloc_Set_Give
  rw [may_eqB h0 hn, decide_eq_false he]; rfl

theorem give_split {n : Int} {l : List Ex} {e : Ex} (h : Gd n 0 l) (h0 : 0 ≤ n) (hn : n ≤ 65536) (he : MayB n e) : ∃ A B, l = A ++ B ∧ (∀ x ∈ A, x.1 < e.1) ∧ (∀ x ∈ B, e.1 ≤ x.1) ∧
    alloc_Set_Give (n, l) e = some (if (∃ p ∈ A, e.1 < p.1 + p.2) ∨ ∃ q ∈ B, q.1 < e.1 + e.2 then ((0, []), 8) else ((n, mrg A e B), 0)) := by
  have hlen := h.len h0
  obtain ⟨e0, e1, e2, e3⟩ := id he
  have hpw := h.pw
  obtain ⟨A, B, f, rfl, hbs, hA, hB⟩ := bs_eq (l := l) (at_ := e.1) (List.Pairwise.imp_of_mem (fun {a b} ha hb hab => by have := (h.mem a ha).2.1; omega) hpw) (by omega) (fun x hx => by have := h.mem x hx; omega) (by omega)
  refine ⟨A, B, rfl, hA, hB, ?_⟩
  have hmem := h.mem
  rw [List.length_append] at hlen
  have hl1 : (A ++ B).length = A.length + B.length := List.length_append
  unfold alloc_Set_Give
  rw [may_eqB h0 hn, decide_eq_true he, Option.bind_some, if_pos rfl, hbs, Option.bind_some]
  simp only
  rw [show (0 : Int) = ((0 : Nat) : Int) from rfl, cutL_nat (by omega) (by omega), Option.bind_some, cutL_nat (by omega) (by omega), Option.bind_some]
  have c1 : ((A ++ B).take A.length).drop 0 = A := by simp
  have c2 : ((A ++ B).take (A ++ B).length).drop A.length = B := by rw [List.take_length]; simp
  rw [c1, c2]
  -- what is behind: its first one decides
  have hq : ∀ {q : Ex} {B' : List Ex}, B = q :: B' → ((∃ x ∈ B, x.1 < e.1 + e.2) ↔ q.1 < e.1 + e.2) := fun {q B'} hB' => by
    constructor
    · rintro ⟨x, hx, hx1⟩
      rw [hB'] at hx
      rcases List.mem_cons.1 hx with rfl | hx
      · exact hx1
      · have := List.pairwise_append.1 hpw
        have h2 := this.2.1
        rw [hB'] at h2
        have := (List.pairwise_cons.1 h2).1 x hx
        have := (hmem q (by rw [hB']; simp)).2.1
        omega
    · intro hx; exact ⟨q, by rw [hB']; simp, hx⟩
  have hB8 : ∀ x ∈ B, 0 ≤ x.2 ∧ x.2 ≤ 1000000 := fun x hx => by have := hmem x (by simp [hx]); omega
  have tail : ∀ (c : Bool), alloc_Set_Give_j5 A.length A B c (n, A ++ B) e (((0 : Nat) : Int), []) = if c = true then some ((0, []), 8) else some ((n, mrg A e B), 0) := by
    intro c
    unfold alloc_Set_Give_j5
    cases c with
    | true => rfl
    | false =>
      rw [if_neg (by simp)]
      unfold mrg jA
      rcases List.eq_nil_or_concat A with rfl | ⟨A', p, rfl⟩
      · rw [if_neg (by simp)]
        unfold alloc_Set_Give_j7
        rw [if_neg (by simp), g8 (by simp at hlen; simp; omega) (by omega) hB8]; rfl
      · rw [List.concat_eq_append] at *
        have hp := hmem p (by simp)
        have hlast : (A' ++ [p])[A'.length]? = some p := by simp
        have hi : wi64 (((A' ++ [p]).length : Int) - 1) = (A'.length : Int) := by
          rw [w64 (by simp <;> omega) (by simp at hlen; simp <;> omega)]; simp
        rw [if_pos (by simp <;> omega), hi, rd_ok hlast, Option.bind_some, end_eq (by omega) (by omega), Option.bind_some]
        unfold alloc_Set_Give_j7
        simp only [List.getLast?_append, List.getLast?_singleton, Option.some_or]
        by_cases hc : p.1 + p.2 = e.1
        · rw [if_pos (by simp [hc]), hi, rd_ok hlast, Option.bind_some, Option.bind_some, show (0 : Int) = ((0 : Nat) : Int) from rfl, cutL_nat (by omega) (by simp), Option.bind_some, w64 (n := p.2 + e.2) (by omega) (by omega)]
          have : ((A' ++ [p]).take A'.length).drop 0 = A' := by simp
          rw [this, g8 (by simp at hlen; omega) (by simp only; omega) hB8, if_pos hc]
          simp
        · rw [if_neg (by simp [hc]), g8 (by simp at hlen; simp; omega) (by omega) hB8, if_neg hc]; rfl
  have second : (¬ ∃ p ∈ A, e.1 < p.1 + p.2) → (if 0 < (B.length : Int) then (rd B 0).bind fun y79 => (alloc_Extent_end e).bind fun y80 => alloc_Set_Give_j5 A.length A B (decide (y79.1 < y80)) (n, A ++ B) e (((0 : Nat) : Int), []) else alloc_Set_Give_j5 A.length A B false (n, A ++ B) e (((0 : Nat) : Int), [])) = some (if (∃ p ∈ A, e.1 < p.1 + p.2) ∨ ∃ q ∈ B, q.1 < e.1 + e.2 then ((0, []), 8) else ((n, mrg A e B), 0)) := by
    intro hno
    cases hBc : B with
    | nil =>
      rw [if_neg (by simp), if_neg (by rw [not_or]; exact ⟨hno, by simp⟩)]
      have := tail false
      rw [hBc] at this
      simpa using this
    | cons q B' =>
      have hqq := hq hBc
      rw [hBc] at hqq
      rw [if_pos (by simp only [List.length_cons]; omega), rd_zero, List.getElem?_cons_zero, Option.bind_some, end_eq (by omega) (by omega), Option.bind_some]
      have := tail (decide (q.1 < e.1 + e.2))
      rw [hBc] at this
      rw [this]
      by_cases hc : q.1 < e.1 + e.2
      · rw [if_pos (by simp [hc]), if_pos (.inr (hqq.2 hc))]
      · rw [if_neg (by simp [hc]), if_neg (by rw [not_or]; exact ⟨hno, fun hx => hc (hqq.1 hx)⟩)]
  rcases List.eq_nil_or_concat A with hAn | ⟨A', p, hAc⟩
  · have hno : ¬ ∃ p ∈ A, e.1 < p.1 + p.2 := by rw [hAn]; simp
    rw [if_neg (by rw [hAn]; simp)]
    exact second hno
  · rw [List.concat_eq_append] at hAc
    have hp := hmem p (by rw [hAc]; simp)
    have hlast : A[A'.length]? = some p := by rw [hAc]; simp
    have hAl : A.length = A'.length + 1 := by rw [hAc]; simp
    have hi : wi64 ((A.length : Int) - 1) = (A'.length : Int) := by
      rw [w64 (by omega) (by omega)]; omega
    have hpl : (∃ x ∈ A, e.1 < x.1 + x.2) ↔ e.1 < p.1 + p.2 := by
      constructor
      · rintro ⟨x, hx, hx1⟩
        rw [hAc] at hx
        rcases List.mem_append.1 hx with hx | hx
        · have h2 := (List.pairwise_append.1 hpw).1
          rw [hAc] at h2
          have := (List.pairwise_append.1 h2).2.2 x hx p (by simp)
          have := hA p (by rw [hAc]; simp)
          omega
        · simp at hx; subst hx; exact hx1
      · intro hx; exact ⟨p, by rw [hAc]; simp, hx⟩
    rw [if_pos (by omega), hi, rd_ok hlast, Option.bind_some, end_eq (by omega) (by omega), Option.bind_some]
    by_cases hc : e.1 < p.1 + p.2
    · rw [if_pos hc, tail true, if_pos rfl, if_pos (.inl (hpl.2 hc))]; rfl
    · rw [if_neg hc]
      exact second (fun hx => hc (hpl.1 hx))
end Gab
