/- Append, Cut, Fill and Map of a list of runs: the program's and the document's. -/
import Derived.Test.YtdkldojcpncnhaaPe2
set_option linter.unusedVariables false
set_option linter.unusedSimpArgs false
namespace Gab
open Go

/-! ### Append -/
theorem app_eq {l : List Rn} (hl : l.length ≤ 1000) (e : Rn) : ext_List_Append l e = some (if RightB l = true then (if RightB [e] = true then (if RightB (tog (l ++ [e])) = true then (tog (l ++ [e]), 0) else ([], 7)) else ([], 7)) else ([], 2)) := by
  unfold ext_List_Append
  rw [right_eq (by omega), Option.bind_some]
  by_cases h1 : RightB l = true
  · rw [if_pos h1, if_pos h1, right_eq (by simp), Option.bind_some]
    by_cases h2 : RightB [e] = true
    · have r1 := rightB_iff.1 h1; have r2 := rightB_iff.1 h2
      have hE := r2.bd e (by simp)
      rw [if_pos h2, if_pos h2, together_eq (fun x hx => by
        simp only [List.mem_cons, List.not_mem_nil, or_false] at hx
        rcases hx with rfl | rfl
        · exact ⟨hl, fun e he => by have := r1.bd e he; omega⟩
        · exact ⟨by simp, fun z hz => by rw [List.mem_singleton] at hz; subst hz; omega⟩) (by simp), Option.bind_some]
      have hf : [l, [e]].flatten = l ++ [e] := by simp
      have hlen := fold_len (l := l ++ [e]) (p := [])
      simp only [List.length_append, List.length_cons, List.length_nil] at hlen
      rw [hf]
      unfold ext_checked
      rw [right_eq (by unfold tog; omega), Option.bind_some]
      by_cases h3 : RightB (tog (l ++ [e])) = true
      · rw [if_pos h3, if_pos h3]; rfl
      · rw [if_neg h3, if_neg h3]; rfl
    · rw [if_neg h2, if_neg h2]
  · rw [if_neg h1, if_neg h1]
theorem rapp_eq {l : List Rn} (e : Rn) (hs : RightB l = true → RightB [e] = true → sumL l + e.2 < 99000) : gabionref15_Append l e.1 e.2 = some (if RightB l = true then (if RightB [e] = true then (if RightB (tog (l ++ [e])) = true then (tog (l ++ [e]), 0) else ([], 7)) else ([], 7)) else ([], 2)) := by
  unfold gabionref15_Append
  rw [rright_eq, Option.bind_some]
  by_cases h1 : RightB l = true
  · rw [if_pos h1, if_pos h1, rright_eq, Option.bind_some]
    by_cases h2 : RightB [e] = true
    · have r1 := rightB_iff.1 h1; have r2 := rightB_iff.1 h2
      have hE := r2.bd e (by simp)
      have hsum := hs h1 h2
      have hn := sumL_nn r1.nn
      have hl1 := blks_len r1.nn
      have hl2 := blks_len r2.nn
      rw [show sumL [e] = e.2 by simp [sumL]] at hl2
      have hall : ∀ x ∈ l ++ [e], 1 ≤ x.2 ∧ -1 ≤ x.1 ∧ x.1 ≤ 1099511627776 := fun x hx => by
        rcases List.mem_append.1 hx with h | h
        · have := r1.bd x h; omega
        · have := r2.bd x h; omega
      rw [if_pos h2, if_pos h2, rblocks_eq r1.Bd (by have := r1.len; omega), Option.bind_some, rblocks_eq r2.Bd (by simp), Option.bind_some, appL_ok (by omega), Option.bind_some, ← blks_app,
        runs_blks hall (by rw [sumL_app]; simp only [sumL]; omega), Option.bind_some, rright_eq, Option.bind_some]
      by_cases h3 : RightB (tog (l ++ [e])) = true
      · rw [if_pos h3, if_pos h3]
      · rw [if_neg h3, if_neg h3]
    · rw [if_neg h2, if_neg h2]
  · rw [if_neg h1, if_neg h1]

/-! ### Split -/
def prt (e : Rn) (n : Int) : Rn := (if e.1 = -1 then -1 else e.1 + n, e.2 - n)
def spl : List Rn → Int → List Rn × List Rn
  | [], _ => ([], [])
  | e :: r, n => if e.2 ≤ n then (e :: (spl r (n - e.2)).1, (spl r (n - e.2)).2) else if 0 < n then ([(e.1, n)], prt e n :: r) else ([], e :: r)
theorem clone_eq {l : List Rn} (h : l.length ≤ 1000) : slices_Clone_ext_List_alloc_Extent l = some l := by
  unfold slices_Clone_ext_List_alloc_Extent
  rw [appL_ok (by simp only [List.length_nil]; omega)]; rfl
def splE : List Rn → List Rn → Int → (List Rn × List Rn) ⊕ Unit
  | p, [], _ => .inr ()
  | p, e :: r, n => if e.2 ≤ n then splE (p ++ [e]) r (n - e.2) else if 0 < n then .inl (p ++ [(e.1, n)], prt e n :: r) else .inl (p, e :: r)
theorem splE_cons {p r : List Rn} {e : Rn} {n : Int} : splE p (e :: r) n = if e.2 ≤ n then splE (p ++ [e]) r (n - e.2) else if 0 < n then .inl (p ++ [(e.1, n)], prt e n :: r) else .inl (p, e :: r) := rfl
theorem splE_eq : ∀ {r p : List Rn} {n : Int}, (on (splE p r n) (fun x => some x) (fun _ => some (p ++ r, ([] : List Rn)))) = some (p ++ (spl r n).1, (spl r n).2)
  | [], p, n => rfl
  | e :: r, p, n => by
    unfold splE spl
    by_cases h : e.2 ≤ n
    · rw [if_pos h, if_pos h]
      have := splE_eq (r := r) (p := p ++ [e]) (n := n - e.2)
      rw [List.append_assoc, List.append_assoc] at this
      exact this
    · rw [if_neg h, if_neg h]
      by_cases h2 : 0 < n
      · rw [if_pos h2, if_pos h2]; rfl
      · rw [if_neg h2, if_neg h2]
        show some (p, e :: r) = some (p ++ [], e :: r)
        rw [List.append_nil]
theorem split_eq {l : List Rn} (h : ∀ e ∈ l, 0 ≤ e.2 ∧ e.2 ≤ 99000 ∧ -1 ≤ e.1 ∧ e.1 ≤ 1099511627776) (hl : l.length ≤ 1000) {n : Int} (h1 : 0 ≤ n) (h2 : n ≤ 1099511627776) : ext_List_split l n = some (spl l n) := by
  unfold ext_List_split
  have := iter_go (step := fun (s : Int × Int) => ext_List_split_l0 l l s.1 s.2) (l := l) (fun i b => (b, (i : Int))) splE (fun p b => 0 ≤ b ∧ b ≤ 1099511627776)
    (fun b hb => by
      show ext_List_split_l0 l l b l.length = _
      unfold ext_List_split_l0
      rw [if_neg (by omega)]; rfl)
    (fun p x r b hl' hb => by
      have hrd := rd_mid hl'
      have hlen : l.length = p.length + (r.length + 1) := by rw [hl']; simp
      have hx := h x (by rw [hl']; simp)
      show ext_List_split_l0 l l b p.length = _ ∨ ∃ b', ext_List_split_l0 l l b p.length = _ ∧ _
      unfold ext_List_split_l0
      rw [if_pos (by omega), hrd, Option.bind_some]
      rw [splE_cons]
      by_cases h3 : x.2 ≤ b
      · right
        rw [if_pos h3, if_pos h3]
        exact ⟨b - x.2, by rw [w64 (by omega) (by omega), w64 (by omega) (by omega)]; rfl, by omega, rfl⟩
      · left
        have hA : (l.take p.length).drop 0 = p := by rw [hl', List.drop_zero, List.take_left]
        have hB : (l.take l.length).drop p.length = x :: r := by rw [List.take_length, hl', List.drop_left]
        have hca : cutL l 0 (p.length : Int) = some p := by
          rw [show (0 : Int) = ((0 : Nat) : Int) from rfl, cutL_nat (by omega) (by omega), hA]
        rw [if_neg h3, if_neg h3, hca, Option.bind_some, cutL_nat (by omega) (by omega), hB, Option.bind_some, clone_eq (by omega), Option.bind_some, clone_eq (by simp only [List.length_cons]; omega), Option.bind_some]
        by_cases h4 : 0 < b
        · rw [if_pos h4, if_pos h4, appL_ok (by simp only [List.length_cons, List.length_nil]; omega), Option.bind_some]
          have hpart : ext_part x b = some (prt x b) := by
            unfold ext_part ext_part_j2 prt
            by_cases h5 : x.1 = -1
            · rw [if_neg (fun g => g h5), if_pos h5, w64 (by omega) (by omega)]; simp [h5]
            · rw [if_pos h5, if_neg h5, w64 (n := x.2 - b) (by omega) (by omega), w64 (by omega) (by omega)]
          rw [hpart, Option.bind_some, rd_zero]
          rfl
        · rw [if_neg h4, if_neg h4])
    l [] n (l.length + 1) rfl ⟨h1, h2⟩ (Nat.lt_succ_self _)
  have h0 : iter (fun (s : Int × Int) => ext_List_split_l0 l l s.1 s.2) (l.length + 1) (n, 0) = some (splE [] l n) := this
  rw [h0, Option.bind_some]
  simp only [clone_eq hl, Option.bind_some]
  exact splE_eq (r := l) (p := [])
theorem blk_split {e : Rn} {n : Int} (h0 : 0 < n) (h1 : n < e.2) (h2 : -1 ≤ e.1) : blk e = blk (e.1, n) ++ blk (prt e n) := by
  apply List.ext_getElem?
  intro i
  by_cases hi : i < e.2.toNat
  · rw [blk_get hi]
    by_cases hn : i < n.toNat
    · rw [List.getElem?_append_left (by rw [blk_len]; exact hn), blk_get (by exact hn)]
    · have hl : (blk (e.1, n)).length = n.toNat := blk_len
      rw [List.getElem?_append_right (by omega), hl]
      by_cases hh : e.1 = -1
      · have hp : prt e n = (-1, e.2 - n) := by unfold prt; rw [if_pos hh]
        rw [hp, blk_get (by simp only; omega), if_pos hh]; rfl
      · have hp : prt e n = (e.1 + n, e.2 - n) := by unfold prt; rw [if_neg hh]
        rw [hp, blk_get (by simp only; omega), if_neg hh, if_neg (by simp only; omega)]; simp only; congr 1; omega
  · rw [List.getElem?_eq_none (by rw [blk_len]; omega), List.getElem?_eq_none (by rw [List.length_append, blk_len, blk_len]; simp only [prt]; omega)]
theorem spl_blks : ∀ {l : List Rn} {n : Int}, (∀ e ∈ l, 1 ≤ e.2 ∧ -1 ≤ e.1) → 0 ≤ n → blks (spl l n).1 = (blks l).take n.toNat ∧ blks (spl l n).2 = (blks l).drop n.toNat
  | [], n, _, _ => by simp [spl, blks]
  | e :: l, n, h, hn => by
    have he := h e (by simp)
    have hl : (blk e).length = e.2.toNat := blk_len
    unfold spl
    by_cases h3 : e.2 ≤ n
    · rw [if_pos h3]
      obtain ⟨a, b⟩ := spl_blks (l := l) (n := n - e.2) (fun x hx => h x (by simp [hx])) (by omega)
      simp only
      rw [blks_cons, a, b, blks_cons, List.take_append, List.drop_append, List.take_of_length_le (l := blk e) (by omega), List.drop_of_length_le (l := blk e) (by omega), hl, List.nil_append]
      rw [show n.toNat - e.2.toNat = (n - e.2).toNat by omega]; exact ⟨rfl, rfl⟩
    · rw [if_neg h3]
      by_cases h4 : 0 < n
      · rw [if_pos h4]
        have hs := blk_split h4 (by omega) he.2
        have hl2 : (blk (e.1, n)).length = n.toNat := blk_len
        simp only
        rw [blks_one, blks_cons, blks_cons, hs, List.append_assoc]
        constructor
        · rw [← hl2, List.take_left]
        · rw [← hl2, List.drop_left]
      · rw [if_neg h4]
        have : n.toNat = 0 := by omega
        simp [this, blks]
theorem jn_len {q e : Rn} {n : Int} : jn q (e.1, n) = jn q e := rfl
theorem jn_prt {e c : Rn} {n : Int} (h : -1 ≤ e.1) (h0 : 0 < n) : jn (prt e n) c = jn e c := by
  unfold jn prt
  by_cases hh : e.1 = -1
  · simp [hh]
  · simp only [if_neg hh]
    rw [show e.1 + n + (e.2 - n) = e.1 + e.2 by omega]
    by_cases hc : c.1 = -1
    · rw [if_pos (.inr hc), if_pos (.inr hc)]
      rw [decide_eq_false (by omega), decide_eq_false (by omega)]
    · rw [if_neg (by omega), if_neg (by omega)]
theorem nj_head {q : Option Rn} {e f : Rn} {r : List Rn} (h : nj q (e :: r) = true) (hj : ∀ c, jn f c = jn e c) : nj none (f :: r) = true := by
  cases r with
  | nil => rfl
  | cons c r =>
    simp only [nj, jnO, Bool.and_eq_true, Bool.not_eq_true', Bool.not_false, true_and] at h ⊢
    rw [hj]; exact h.2
theorem spl_nj : ∀ {l : List Rn} {q : Option Rn} {n : Int}, nj q l = true → (∀ e ∈ l, 1 ≤ e.2 ∧ -1 ≤ e.1) → 0 ≤ n → nj q (spl l n).1 = true ∧ nj none (spl l n).2 = true
  | [], q, n, _, _, _ => ⟨rfl, rfl⟩
  | e :: l, q, n, h, hb, hn => by
    have he := hb e (by simp)
    unfold spl
    by_cases h3 : e.2 ≤ n
    · rw [if_pos h3]
      rw [nj, Bool.and_eq_true] at h
      obtain ⟨a, b⟩ := spl_nj (l := l) (n := n - e.2) h.2 (fun x hx => hb x (by simp [hx])) (by omega)
      exact ⟨by simp only [nj, h.1, a, Bool.and_self], b⟩
    · rw [if_neg h3]
      by_cases h4 : 0 < n
      · rw [if_pos h4]
        refine ⟨?_, nj_head h fun c => jn_prt he.2 h4⟩
        rw [nj, Bool.and_eq_true] at h
        cases q with
        | none => rfl
        | some q => simp only [nj, Bool.and_true]; exact h.1
      · rw [if_neg h4]
        exact ⟨rfl, nj_head h fun c => rfl⟩
theorem spl_mem : ∀ {l : List Rn} {n : Int}, (∀ e ∈ l, 1 ≤ e.2 ∧ e.2 ≤ 65536 ∧ -1 ≤ e.1 ∧ e.1 ≤ 65536) → 0 ≤ n → (∀ e ∈ (spl l n).1, 1 ≤ e.2 ∧ e.2 ≤ 65536 ∧ -1 ≤ e.1 ∧ e.1 ≤ 65536) ∧ ∀ e ∈ (spl l n).2, 1 ≤ e.2 ∧ e.2 ≤ 65536 ∧ -1 ≤ e.1 ∧ e.1 ≤ 131072
  | [], n, _, _ => by simp [spl]
  | e :: l, n, h, hn => by
    have he := h e (by simp)
    have hl : ∀ x ∈ l, 1 ≤ x.2 ∧ x.2 ≤ 65536 ∧ -1 ≤ x.1 ∧ x.1 ≤ 65536 := fun x hx => h x (by simp [hx])
    unfold spl
    by_cases h3 : e.2 ≤ n
    · rw [if_pos h3]
      obtain ⟨a, b⟩ := spl_mem hl (n := n - e.2) (by omega)
      exact ⟨fun x hx => by
        rcases List.mem_cons.1 hx with rfl | hx
        · exact he
        · exact a x hx, b⟩
    · rw [if_neg h3]
      by_cases h4 : 0 < n
      · rw [if_pos h4]
        refine ⟨fun x hx => by rw [List.mem_singleton] at hx; subst hx; simp only; omega, fun x hx => ?_⟩
        rcases List.mem_cons.1 hx with rfl | hx
        · simp only [prt]; split <;> omega
        · have := hl x hx; omega
      · rw [if_neg h4]
        exact ⟨by simp, fun x hx => by have := h x hx; omega⟩
theorem spl_len : ∀ {l : List Rn} {n : Int}, (spl l n).1.length ≤ l.length ∧ (spl l n).2.length ≤ l.length
  | [], n => by simp [spl]
  | e :: l, n => by
    unfold spl
    split
    · have := spl_len (l := l) (n := n - e.2); simp only [List.length_cons]; omega
    · split <;> simp
end Gab
