/- Take of a set of blocks: the pieces, and what is left. -/
import Derived.Test.YtdkldojcpncnhaaPa2
set_option linter.unusedVariables false
set_option linter.unusedSimpArgs false
namespace Gab
open Go

def GoodS (s : Int × List Ex) : Prop := Gd s.1 0 s.2 ∧ 0 ≤ s.1 ∧ s.1 ≤ 65536
def useR (s : Int × List Ex) (e : Ex) : Int × List Ex := ((alloc_Set_Use s e).getD (s, 0)).1
theorem useR_good {s : Int × List Ex} (h : GoodS s) (e : Ex) : GoodS (useR s e) ∧ ∃ r, alloc_Set_Use s e = some (useR s e, r) := by
  obtain ⟨n, l⟩ := s
  obtain ⟨h1, h2, h3⟩ := h
  rcases use_any (e := e) h1 h2 h3 with ⟨_, he⟩ | ⟨_, _, he⟩ | ⟨A, f, C, rfl, hm, hf, _, he⟩
  · unfold useR; rw [he]; exact ⟨⟨trivial, by simp, by simp⟩, _, rfl⟩
  · unfold useR; rw [he]; exact ⟨⟨trivial, by simp, by simp⟩, _, rfl⟩
  · unfold useR; rw [he]; exact ⟨⟨(use_good h1 hf hm.2.1).1, h2, h3⟩, _, rfl⟩
def US (s : Int × List Ex) (P : List Ex) : Int × List Ex := P.foldl useR s
theorem US_good : ∀ {P : List Ex} {s : Int × List Ex}, GoodS s → GoodS (US s P)
  | [], _, h => h
  | e :: P, s, h => US_good (P := P) (useR_good h e).1
theorem take_loop {s0 : Int × List Ex} (h : GoodS s0) {P : List Ex} (hP : P.length ≤ 1000000) (x7 : List Ex) (zb4 : Int × List Ex) : iter (fun (s : Int × (Int × List Ex)) => alloc_Set_Take_l0 x7 P zb4 s.1 s.2) (P.length + 1) (0, s0) = some (US s0 P) := by
  refine iter_fold (S := fun i m => ((i : Int), US s0 m)) _ (fun i x hx => ?_) ?_ (Nat.lt_succ_self _)
  · have hi := (List.getElem?_eq_some_iff.1 hx).1
    have e1 : P.take (i + 1) = P.take i ++ [x] := by rw [List.take_add_one, hx]; rfl
    obtain ⟨_, r, hr⟩ := useR_good (US_good (P := P.take i) h) x
    show alloc_Set_Take_l0 x7 P zb4 i (US s0 (P.take i)) = _
    unfold alloc_Set_Take_l0
    rw [if_pos (by omega), rd_ok hx, Option.bind_some, hr, Option.bind_some, w64 (by omega) (by omega), e1]
    simp only [US, List.foldl_append, List.foldl_cons, List.foldl_nil]
    rfl
  · show alloc_Set_Take_l0 x7 P zb4 P.length (US s0 P) = _
    unfold alloc_Set_Take_l0
    rw [if_neg (by omega)]

/-- The pieces where no single extent is enough. -/
def pcs : List Ex → Int → List Ex
  | [], _ => []
  | e :: r, k => if k = 0 then [] else (e.1, mn k e.2) :: pcs r (k - mn k e.2)
/-- What is left behind them. -/
def tkl : List Ex → Int → List Ex
  | [], _ => []
  | e :: r, k => if k = 0 then e :: r else if e.2 ≤ k then tkl r (k - e.2) else (e.1 + k, e.2 - k) :: r
theorem pcs_len : ∀ (l : List Ex) (k : Int), (pcs l k).length ≤ l.length
  | [], k => by simp [pcs]
  | e :: r, k => by
    unfold pcs
    split
    · simp
    · simp only [List.length_cons]; have := pcs_len r (k - mn k e.2); omega
theorem pieces_loop {l : List Ex} (hl : l.length ≤ 1000000) (hp : ∀ e ∈ l, 1 ≤ e.2 ∧ e.2 ≤ 65536) : ∀ (m i d : Nat) (k : Int) (out : List Ex), i + m = l.length → m < d → out.length ≤ i → 0 ≤ k → k ≤ 1000000 → iter (fun (s : (List Ex) × Int × Int) => alloc_Set_pieces_l0 l s.1 s.2.1 s.2.2) d (out, (i : Int), k) = some (out ++ pcs (l.drop i) k)
  | 0, i, d, k, out, hi, hd, ho, h0, hk => by
    obtain ⟨d, rfl⟩ : ∃ m, d = m + 1 := ⟨d - 1, by omega⟩
    rw [List.drop_eq_nil_of_le (by omega)]
    refine iter_inr ?_
    show alloc_Set_pieces_l0 l out i k = _
    unfold alloc_Set_pieces_l0
    rw [if_neg (by omega)]; simp [pcs]
  | m + 1, i, d, k, out, hi, hd, ho, h0, hk => by
    obtain ⟨d, rfl⟩ : ∃ m, d = m + 1 := ⟨d - 1, by omega⟩
    have hlt : i < l.length := by omega
    have hx : l[i]? = some l[i] := List.getElem?_eq_getElem hlt
    rw [List.drop_eq_getElem_cons hlt]
    have hb := hp l[i] (List.getElem_mem hlt)
    generalize l[i] = x at hx hb
    by_cases hz : k = 0
    · refine iter_inr ?_
      show alloc_Set_pieces_l0 l out i k = _
      unfold alloc_Set_pieces_l0
      rw [if_pos (by omega), rd_ok hx, Option.bind_some, if_pos hz]; simp [pcs, hz]
    · have hmn : 0 ≤ mn k x.2 ∧ mn k x.2 ≤ k := by unfold mn; split <;> omega
      have hstep : alloc_Set_pieces_l0 l out i k = some (.inl (out ++ [(x.1, mn k x.2)], ((i + 1 : Nat) : Int), k - mn k x.2)) := by
        unfold alloc_Set_pieces_l0
        rw [if_pos (by omega), rd_ok hx, Option.bind_some, if_neg hz, appL_ok (by simp; omega), Option.bind_some, w64 (n := (i : Int) + 1) (by omega) (by omega), w64 (n := k - mn k x.2) (by omega) (by omega)]
        rfl
      have ih := pieces_loop hl hp m (i + 1) d (k - mn k x.2) (out ++ [(x.1, mn k x.2)]) (by omega) (by omega) (by simp; omega) (by omega) (by omega)
      rw [iter_inl hstep, ih]
      simp [pcs, hz]

/-- Using the pieces, one behind the other. -/
theorem US_pcs {n : Int} (h0 : 0 ≤ n) (hn : n ≤ 65536) : ∀ (l : List Ex) (k : Int), Gd n 0 l → 0 ≤ k → US (n, l) (pcs l k) = (n, tkl l k)
  | [], k, _, _ => rfl
  | e :: r, k, h, hk => by
    unfold pcs tkl
    by_cases hz : k = 0
    · rw [if_pos hz, if_pos hz]; rfl
    · rw [if_neg hz, if_neg hz]
      obtain ⟨h1, h2, h3, h4⟩ := id h
      have hm : mn k e.2 = if e.2 ≤ k then e.2 else k := by unfold mn; split <;> split <;> omega
      have hin : inB (e.1, mn k e.2) e = true := by
        unfold inB
        rw [decide_eq_true (by simp only; omega), decide_eq_true (by simp only [hm]; split <;> omega)]; rfl
      have hmay : MayB n (e.1, mn k e.2) := by
        unfold MayB; simp only [hm]; split <;> omega
      have hu := use_ok (A := []) (C := r) (f := e) h h0 hn hmay hin (by simp)
      rw [List.nil_append, List.nil_append] at hu
      have hR : useR (n, e :: r) (e.1, mn k e.2) = (n, lft e (e.1, mn k e.2) ++ r) := by unfold useR; rw [hu]; rfl
      show US (useR (n, e :: r) (e.1, mn k e.2)) (pcs r (k - mn k e.2)) = _
      rw [hR]
      have hl : lft e (e.1, mn k e.2) = if 0 < e.2 - mn k e.2 then [(e.1 + mn k e.2, e.2 - mn k e.2)] else [] := by
        unfold lft
        rw [if_neg (by simp only; omega), List.nil_append, show e.1 + e.2 - (e.1 + mn k e.2) = e.2 - mn k e.2 by omega]
      rw [hl]
      by_cases hc : e.2 ≤ k
      · have hmm : mn k e.2 = e.2 := by rw [hm, if_pos hc]
        rw [if_pos hc, hmm, if_neg (by omega), List.nil_append]
        exact US_pcs h0 hn r (k - e.2) (h4.mono (by omega)) (by omega)
      · have hmm : mn k e.2 = k := by rw [hm, if_neg hc]
        rw [if_neg hc, hmm, if_pos (by omega), show k - k = 0 by omega]
        have hz0 : pcs r 0 = [] := by cases r <;> simp [pcs]
        rw [hz0]; rfl
theorem pieces_one {n k : Int} {A C : List Ex} {f : Ex} (hl : (A ++ f :: C).length ≤ 1000000) (hf : k ≤ f.2) (hA : ∀ x ∈ A, x.2 < k) : alloc_Set_pieces (n, A ++ f :: C) k = some [(f.1, k)] := by
  have hix : ixOf (fun x : Ex => decide (k ≤ x.2)) (A ++ f :: C) = A.length := by
    unfold ixOf
    have : (A ++ f :: C).findIdx? (fun x : Ex => decide (k ≤ x.2)) = some A.length := by
      rw [List.findIdx?_append, List.findIdx?_eq_none_iff.2 (fun x hx => by have := hA x hx; simp; omega), List.findIdx?_cons, decide_eq_true hf]
      simp
    rw [this]
  have hi : slices_IndexFunc_alloc_Extent (A ++ f :: C) (fun x0_ => alloc_Set_pieces_1 x0_ k) = some _ := index_eq (p := fun x => decide (k ≤ x.2)) (by omega) (fun x _ => rfl)
  unfold alloc_Set_pieces
  rw [hi, Option.bind_some, hix, if_pos (by omega), rd_ok (l := A ++ f :: C) (x := f) (by simp)]
  rfl
theorem pieces_many {n k : Int} {l : List Ex} (h : Gd n 0 l) (h0 : 0 ≤ n) (hn : n ≤ 65536) (hk : 0 ≤ k) (hk2 : k ≤ 1000000) (hno : ∀ x ∈ l, x.2 < k) : alloc_Set_pieces (n, l) k = some (pcs l k) := by
  have hlen := h.len h0
  have hix : ixOf (fun x : Ex => decide (k ≤ x.2)) l = -1 := ixOf_lt fun x hx => by have := hno x hx; simp; omega
  have hi : slices_IndexFunc_alloc_Extent l (fun x0_ => alloc_Set_pieces_1 x0_ k) = some _ := index_eq (p := fun x => decide (k ≤ x.2)) (by omega) (fun x _ => rfl)
  unfold alloc_Set_pieces
  rw [hi, Option.bind_some, hix, if_neg (by omega)]
  have := pieces_loop (l := l) (by omega) (fun e he => by have := h.mem e he; omega) l.length 0 (l.length + 1) k [] (by omega) (by omega) (by simp) hk hk2
  rw [List.nil_append, List.drop_zero] at this
  show ((iter (fun (s : (List Ex) × Int × Int) => alloc_Set_pieces_l0 l s.1 s.2.1 s.2.2) (l.length + 1) ([], ((0 : Nat) : Int), k)).bind _) = _
  rw [this]; rfl

theorem take_arg {s : Int × List Ex} {k : Int} (h : k < 1) : alloc_Set_Take s k = some ((0, []), [], 2) := by unfold alloc_Set_Take; rw [if_pos h]
theorem take_space {n k : Int} {l : List Ex} (h : Gd n 0 l) (h0 : 0 ≤ n) (hn : n ≤ 65536) (hk : ¬ k < 1) (ht : tot l < k) : alloc_Set_Take (n, l) k = some ((0, []), [], 12) := by
  unfold alloc_Set_Take; rw [if_neg hk, free_eq h h0 hn, Option.bind_some, if_pos ht]
theorem take_from {n k : Int} {l P : List Ex} (h : Gd n 0 l) (h0 : 0 ≤ n) (hn : n ≤ 65536) (hk : ¬ k < 1) (ht : ¬ tot l < k) (hp : alloc_Set_pieces (n, l) k = some P) (hP : P.length ≤ 1000000) : alloc_Set_Take (n, l) k = some (US (n, l) P, P, 0) := by
  unfold alloc_Set_Take; rw [if_neg hk, free_eq h h0 hn, Option.bind_some, if_neg ht, hp, Option.bind_some, take_loop ⟨h, h0, hn⟩ hP]; rfl
theorem inA_not {hi : Int} : ∀ {A C : List Ex} {f : Ex} {lo : Int}, Gd hi lo (A ++ f :: C) → ∀ e : Ex, 1 ≤ e.2 → f.1 ≤ e.1 → ∀ x ∈ A, inB e x = false
  | [], _, _, _, _, _, _, _, x, hx => by simp at hx
  | a :: A, C, f, lo, h, e, he, hf, x, hx => by
    rcases List.mem_cons.1 hx with rfl | hx
    · have := Gd.mem h.2.2.2 f (by simp)
      unfold inB
      rw [Bool.and_eq_false_iff]
      exact .inr (decide_eq_false (by omega))
    · exact inA_not h.2.2.2 e he hf x hx
/-- Take, whatever it is given. -/
theorem take_any {n k : Int} {l : List Ex} (h : Gd n 0 l) (h0 : 0 ≤ n) (hn : n ≤ 65536) :
    (k < 1 ∧ alloc_Set_Take (n, l) k = some ((0, []), [], 2)) ∨ (¬ k < 1 ∧ tot l < k ∧ alloc_Set_Take (n, l) k = some ((0, []), [], 12)) ∨
    (¬ k < 1 ∧ ¬ tot l < k ∧ ∃ A f C, l = A ++ f :: C ∧ k ≤ f.2 ∧ (∀ x ∈ A, x.2 < k) ∧ alloc_Set_Take (n, l) k = some ((n, A ++ lft f (f.1, k) ++ C), [(f.1, k)], 0)) ∨
    (¬ k < 1 ∧ ¬ tot l < k ∧ (∀ x ∈ l, x.2 < k) ∧ alloc_Set_Take (n, l) k = some ((n, tkl l k), pcs l k, 0)) := by
  by_cases hk : k < 1
  · exact .inl ⟨hk, take_arg hk⟩
  · by_cases ht : tot l < k
    · exact .inr (.inl ⟨hk, ht, take_space h h0 hn hk ht⟩)
    · have hlen := h.len h0
      have htot := h.tot h0
      rcases Int.lt_or_le (ixOf (fun x : Ex => decide (k ≤ x.2)) l) 0 with hlt | hge
      · have hno : ∀ x ∈ l, x.2 < k := fun x hx => by have := ixOf_none hlt x hx; simp at this; omega
        refine .inr (.inr (.inr ⟨hk, ht, hno, ?_⟩))
        rw [take_from h h0 hn hk ht (pieces_many h h0 hn (by omega) (by omega) hno) (by have := pcs_len l k; omega), US_pcs h0 hn l k h (by omega)]
      · obtain ⟨A, f, C, rfl, _, hf, hA⟩ := ixOf_some hge
        have hf : k ≤ f.2 := of_decide_eq_true hf
        have hA : ∀ x ∈ A, x.2 < k := fun x hx => by have := hA x hx; simp at this; omega
        refine .inr (.inr (.inl ⟨hk, ht, A, f, C, rfl, hf, hA, ?_⟩))
        have hfm := h.mem f (by simp)
        have hin : inB (f.1, k) f = true := by
          unfold inB
          rw [decide_eq_true (by simp only; omega), decide_eq_true (by simp only; omega)]; rfl
        have hu := use_ok h h0 hn (e := (f.1, k)) (by unfold MayB; simp only; omega) hin (inA_not h (f.1, k) (by simp only; omega) (by simp only; omega))
        rw [take_from h h0 hn hk ht (pieces_one (by omega) hf hA) (by simp)]
        have : US (n, A ++ f :: C) [(f.1, k)] = (n, A ++ lft f (f.1, k) ++ C) := by
          show useR (n, A ++ f :: C) (f.1, k) = _
          unfold useR; rw [hu]; rfl
        rw [this]
theorem tkl_all {n : Int} : ∀ {l : List Ex} {lo : Int}, Gd n lo l → tkl l (tot l) = [] ∧ pcs l (tot l) = l
  | [], _, _ => ⟨rfl, rfl⟩
  | e :: r, lo, h => by
    obtain ⟨h1, h2, h3, h4⟩ := id h
    have ih := tkl_all h4
    have hr : 0 ≤ tot r := by
      cases r with
      | nil => simp [tot]
      | cons b r =>
        have := h4.2.1
        have hb := (h4.tot (by have := h4.1; have := h4.2.2.1; omega)).1
        exact hb
    have ht : tot (e :: r) = e.2 + tot r := rfl
    have hm : mn (tot (e :: r)) e.2 = e.2 := by unfold mn; split <;> omega
    constructor
    · unfold tkl
      rw [if_neg (by omega), if_pos (by omega), show tot (e :: r) - e.2 = tot r by omega]; exact ih.1
    · unfold pcs
      rw [if_neg (by omega), hm, show tot (e :: r) - e.2 = tot r by omega, ih.2]
end Gab
