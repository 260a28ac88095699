/- The helpers of the laws of ext. -/
import Derived.Test.YtdkldojcpncnhaaPe4
set_option linter.unusedVariables false
set_option linter.unusedSimpArgs false
namespace Gab
open Go

theorem ext_wakes : gabionlaw15_wakes = some true := by decide +kernel
theorem same_ext {l : List Rn} (h : l.length ≤ 1000000) : gabionlaw15_same l l = some true := by
  unfold gabionlaw15_same
  rw [if_neg (fun g => g rfl)]
  have key : iter (fun (s : Int) => gabionlaw15_same_l0 l l s) (l.length + 1) 0 = some (.inr ()) := by
    refine iter_fold (l := l) (S := fun i t => (i : Int)) _ (fun i x hx => ?_) ?_ (Nat.lt_succ_self _)
    · have hi : i < l.length := (List.getElem?_eq_some_iff.1 hx).1
      show gabionlaw15_same_l0 l l i = _
      unfold gabionlaw15_same_l0 gabionlaw15_same_j7
      rw [if_pos (by omega), rd_ok hx, Option.bind_some, Option.bind_some, if_neg (fun g => g rfl), Option.bind_some, if_neg (by simp), w64 (by omega) (by omega)]; rfl
    · show gabionlaw15_same_l0 l l l.length = _
      unfold gabionlaw15_same_l0
      rw [if_neg (by omega)]
  rw [key]; rfl

/-! ### What the pushing makes -/
theorem nj_snoc {p : List Rn} {q : Rn} {o : Option Rn} : nj o (p ++ [q]) = true ↔ nj o p = true ∧ (match p.getLast? with | some x => !jn x q | none => !jnO o q) = true := by
  rw [nj_app]
  cases p.getLast? with
  | none => simp [nj]
  | some x => simp [nj, jnO]
theorem push_nj {p : List Rn} {e : Rn} (h : nj none p = true) : nj none (push p e) = true := by
  by_cases hne : p = []
  · subst hne; rfl
  · obtain ⟨p, q, rfl⟩ := snoc hne
    rw [push_snoc]
    split
    · rw [nj_snoc] at h ⊢
      refine ⟨h.1, ?_⟩
      cases hx : p.getLast? with
      | none => rfl
      | some x => rw [hx] at h; exact h.2
    · rename_i hj
      rw [nj_snoc]
      refine ⟨h, ?_⟩
      rw [getLast_snoc]
      simp only [Bool.not_eq_true] at hj
      show (!jn q e) = true
      rw [hj]; rfl
theorem fold_njo : ∀ {l p : List Rn}, nj none p = true → nj none (l.foldl push p) = true
  | [], _, h => h
  | e :: l, p, h => fold_njo (l := l) (push_nj h)
theorem tog_njo {l : List Rn} : nj none (tog l) = true := fold_njo (p := []) rfl
theorem push_sum {p : List Rn} {e : Rn} : sumL (push p e) = sumL p + e.2 := by
  by_cases hne : p = []
  · subst hne; simp [push_nil, sumL]
  · obtain ⟨p, q, rfl⟩ := snoc hne
    rw [push_snoc]
    split
    · simp only [sumL_app, sumL]; omega
    · simp only [sumL_app, sumL]; omega
theorem fold_sum : ∀ {l p : List Rn}, sumL (l.foldl push p) = sumL p + sumL l
  | [], p => by simp [sumL]
  | e :: l, p => by rw [List.foldl_cons, fold_sum, push_sum, sumL]; omega
theorem tog_sum {l : List Rn} : sumL (tog l) = sumL l := by unfold tog; rw [fold_sum]; simp [sumL]
theorem push_all {P : Int → Prop} {p : List Rn} {e : Rn} (hp : ∀ q ∈ p, 1 ≤ q.2 ∧ P q.1) (he : 1 ≤ e.2 ∧ P e.1) : ∀ q ∈ push p e, 1 ≤ q.2 ∧ P q.1 := by
  by_cases hne : p = []
  · subst hne; intro q hq; rw [push_nil, List.mem_singleton] at hq; subst hq; exact he
  · obtain ⟨p, z, rfl⟩ := snoc hne
    intro q hq
    rw [push_snoc] at hq
    have hz := hp z (by simp)
    split at hq
    · rcases List.mem_append.1 hq with h | h
      · exact hp q (by simp [h])
      · rw [List.mem_singleton] at h; subst h; exact ⟨by have := he.1; simp only; omega, hz.2⟩
    · rcases List.mem_append.1 hq with h | h
      · exact hp q h
      · rw [List.mem_singleton] at h; subst h; exact he
theorem fold_all {P : Int → Prop} : ∀ {l p : List Rn}, (∀ q ∈ p, 1 ≤ q.2 ∧ P q.1) → (∀ e ∈ l, 1 ≤ e.2 ∧ P e.1) → ∀ q ∈ l.foldl push p, 1 ≤ q.2 ∧ P q.1
  | [], _, hp, _ => hp
  | e :: l, p, hp, hl => fold_all (l := l) (push_all hp (hl e (by simp))) fun x hx => hl x (by simp [hx])
theorem tog_all {P : Int → Prop} {l : List Rn} (h : ∀ e ∈ l, 1 ≤ e.2 ∧ P e.1) : ∀ q ∈ tog l, 1 ≤ q.2 ∧ P q.1 := fold_all (p := []) (by simp) h
theorem mem_sum {l : List Rn} (h : ∀ e ∈ l, 0 ≤ e.2) : ∀ e ∈ l, e.2 ≤ sumL l := by
  induction l with
  | nil => simp
  | cons a l ih =>
    intro e he
    have h1 := h a (by simp)
    have h2 := sumL_nn (l := l) fun x hx => h x (by simp [hx])
    rw [sumL]
    rcases List.mem_cons.1 he with rfl | he
    · omega
    · have := ih (fun x hx => h x (by simp [hx])) e he; omega

/-! ### tame -/
def tm (e : Rn) : Rn := (Int.tmod (mx (-1) e.1) 200, 1 + Int.tmod (mx 0 e.2) 9)
theorem tm_bd (e : Rn) : -1 ≤ (tm e).1 ∧ (tm e).1 ≤ 199 ∧ 1 ≤ (tm e).2 ∧ (tm e).2 ≤ 9 := by
  unfold tm
  simp only
  have h0 : 0 ≤ mx 0 e.2 := by unfold mx; split <;> omega
  have h1 : mx (-1) e.1 = -1 ∨ 0 ≤ mx (-1) e.1 := by unfold mx; split <;> omega
  rw [Int.tmod_eq_emod_of_nonneg h0]
  rcases h1 with h1 | h1
  · rw [h1]; rw [show Int.tmod (-1) 200 = -1 from rfl]; omega
  · rw [Int.tmod_eq_emod_of_nonneg h1]; omega
theorem tm_sum {l : List Rn} : sumL (l.map tm) ≤ 9 * l.length := by
  induction l with
  | nil => simp [sumL]
  | cons e l ih => have := tm_bd e; rw [List.map_cons, sumL, List.length_cons]; omega
theorem tame_eq (a0 : List Rn) (h : a0.length ≤ 9223372036854775807) : gabionlaw15_tame a0 = some (tog ((a0.take 20).map tm)) := by
  unfold gabionlaw15_tame
  have hmn : mn (a0.length : Int) 20 = ((min a0.length 20 : Nat) : Int) := by unfold mn; split <;> omega
  rw [hmn, show (0 : Int) = ((0 : Nat) : Int) from rfl, cutL_nat (by omega) (by omega), Option.bind_some, List.drop_zero]
  have ht : a0.take (min a0.length 20) = a0.take 20 := by
    by_cases hh : a0.length ≤ 20
    · rw [List.take_of_length_le (by omega), List.take_of_length_le hh]
    · rw [show min a0.length 20 = 20 by omega]
  rw [ht]
  have hxl : (a0.take 20).length ≤ 20 := by rw [List.length_take]; omega
  generalize a0.take 20 = x at hxl
  have hall : ∀ e ∈ x.map tm, 1 ≤ e.2 ∧ -1 ≤ e.1 ∧ e.1 ≤ 1099511627776 := fun e he => by
    obtain ⟨y, _, rfl⟩ := List.mem_map.1 he
    have := tm_bd y; omega
  have key : iter (fun (s : (List Int) × Int) => gabionlaw15_tame_l0 x s.1 s.2) (x.length + 1) ([], ((0 : Nat) : Int)) = some (blks (x.map tm)) := by
    refine iter_fold (l := x) (S := fun i t => (blks (t.map tm), (i : Int))) _ (fun i e hx => ?_) ?_ (Nat.lt_succ_self _)
    · have hi : i < x.length := (List.getElem?_eq_some_iff.1 hx).1
      have hb := tm_bd e
      have hs : ((blks ((x.take i).map tm)).length : Int) ≤ 9 * i := by
        rw [blks_len fun e he => by obtain ⟨y, _, rfl⟩ := List.mem_map.1 he; have := tm_bd y; omega]
        have := tm_sum (l := x.take i)
        rw [List.length_take] at this; omega
      show gabionlaw15_tame_l0 x (blks ((x.take i).map tm)) i = _
      unfold gabionlaw15_tame_l0
      rw [if_pos (by omega), rd_ok hx, Option.bind_some]
      have hw : wi64 (1 + Int.tmod (mx 0 e.2) 9) = (tm e).2 := w64 (by unfold tm at hb; simp only at hb; omega) (by unfold tm at hb; simp only at hb; omega)
      have hA : Int.tmod (mx (-1) e.1) 200 = (tm e).1 := rfl
      rw [hw, hA, take_next hx, List.map_append, blks_app]
      simp only [List.map_cons, List.map_nil, blks_one]
      generalize tm e = g at hb
      generalize blks ((x.take i).map tm) = o at hs
      have k1 : iter (fun (s : (List Int) × Int × Int) => gabionlaw15_tame_l1 g.1 x g.2 s.1 s.2.1 s.2.2) (g.2.toNat + 1) (o, (i : Int), 0) = some (o ++ blk g, (i : Int)) := by
        have := iter_fold (step := fun (s : (List Int) × Int × Int) => gabionlaw15_tame_l1 g.1 x g.2 s.1 s.2.1 s.2.2) (l := blk g) (S := fun k t => (o ++ t, (i : Int), (k : Int))) (o ++ blk g, (i : Int)) (fun k y hy => by
            have hk : k < g.2.toNat := by have := (List.getElem?_eq_some_iff.1 hy).1; rw [blk_len] at this; exact this
            have htl : ((blk g).take k).length ≤ k := by rw [List.length_take]; omega
            rw [take_next hy]
            rw [blk_get hk] at hy
            have hy := Option.some.inj hy
            show gabionlaw15_tame_l1 g.1 x g.2 (o ++ (blk g).take k) i k = _
            unfold gabionlaw15_tame_l1 gabionlaw15_tame_j12
            rw [if_pos (by omega), w64 (n := (k : Int) + 1) (by omega) (by omega)]
            by_cases hh : g.1 = -1
            · rw [if_pos hh] at hy
              rw [if_pos (by omega), appL_ok (by simp only [List.length_append, List.length_cons, List.length_nil]; omega), Option.bind_some, List.append_assoc, hy]; rfl
            · rw [if_neg hh] at hy
              rw [if_neg (by omega), appL_ok (by simp only [List.length_append, List.length_cons, List.length_nil]; omega), Option.bind_some, List.append_assoc, w64 (by omega) (by omega), hy]; rfl) (by
            show gabionlaw15_tame_l1 g.1 x g.2 (o ++ blk g) i ((blk g).length : Nat) = _
            unfold gabionlaw15_tame_l1
            rw [blk_len, if_neg (by omega)]) (d := g.2.toNat + 1) (by rw [blk_len]; omega)
        rw [List.append_nil] at this
        exact this
      rw [k1, Option.bind_some, w64 (n := (i : Int) + 1) (by omega) (by omega)]; rfl
    · show gabionlaw15_tame_l0 x _ x.length = _
      unfold gabionlaw15_tame_l0
      rw [if_neg (by omega)]
  rw [key, Option.bind_some, runs_blks hall (by have := tm_sum (l := x); omega)]; rfl
/-- What tame makes. -/
theorem tame_rt (x : List Rn) (h : x.length ≤ 20) : Rt (tog (x.map tm)) ∧ sumL (tog (x.map tm)) ≤ 180 ∧ (∀ e ∈ tog (x.map tm), e.1 ≤ 199) ∧ (tog (x.map tm)).length ≤ 20 := by
  have h1 := tog_all (l := x.map tm) (P := fun a => -1 ≤ a ∧ a ≤ 199) (fun e he => by
    obtain ⟨y, _, rfl⟩ := List.mem_map.1 he
    have := tm_bd y; omega)
  have h2 := tog_sum (l := x.map tm)
  have h3 := tm_sum (l := x)
  have h4 := mem_sum (l := tog (x.map tm)) (fun e he => by have := h1 e he; omega)
  have h5 := fold_len (l := x.map tm) (p := [])
  rw [List.length_map, List.length_nil] at h5
  have h6 : (tog (x.map tm)).length ≤ 20 := by unfold tog; omega
  exact ⟨⟨tog_njo, fun e he => by have := h1 e he; have := h4 e he; omega, by omega, by omega⟩, by omega, fun e he => (h1 e he).2.2, h6⟩
end Gab
