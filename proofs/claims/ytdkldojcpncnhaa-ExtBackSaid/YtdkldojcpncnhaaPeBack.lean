/- ExtBack: what is appended is cut off again. -/
import Derived.Test.YtdkldojcpncnhaaPe7
import Derived.Test.YtdkldojcpncnhaaPeParts
import Derived.OpenShut
set_option linter.unusedVariables false
set_option linter.unusedSimpArgs false
namespace Gab
open Go

theorem solid_held {l : List Rn} : sumL (solid l) = heldL l := by
  induction l with
  | nil => rfl
  | cons e l ih =>
    rw [heldL, ← ih]
    by_cases h : e.1 = -1
    · simp [solid, hole, h]
    · rw [if_neg h, show solid (e :: l) = e :: solid l by simp [solid, hole, h], sumL]
theorem spl_held : ∀ {l : List Rn} {n : Int}, (∀ e ∈ l, -1 ≤ e.1) → heldL (spl l n).1 + heldL (spl l n).2 = heldL l
  | [], n, _ => by simp [spl, heldL]
  | e :: l, n, h => by
    have he := h e (by simp)
    unfold spl
    by_cases h3 : e.2 ≤ n
    · rw [if_pos h3]
      have := spl_held (l := l) (n := n - e.2) (fun x hx => h x (by simp [hx]))
      simp only [heldL]; omega
    · rw [if_neg h3]
      by_cases h4 : 0 < n
      · rw [if_pos h4]
        simp only [heldL, prt]
        by_cases hc : e.1 = -1
        · simp [hc]
        · simp only [if_neg hc]
          rw [if_neg (by omega)]; omega
      · rw [if_neg h4]; simp [heldL]
theorem spl_app : ∀ {l r : List Rn}, (∀ e ∈ l, 1 ≤ e.2) → (∀ e ∈ r, 1 ≤ e.2) → spl (l ++ r) (sumL l) = (l, r)
  | [], [], _, _ => rfl
  | [], e :: r, _, h => by
    have := h e (by simp)
    rw [List.nil_append]
    unfold spl
    rw [sumL, if_neg (by omega), if_neg (by omega)]
  | e :: l, r, h, h2 => by
    have he := h e (by simp)
    have hn := sumL_nn (l := l) (fun x hx => by have := h x (by simp [hx]); omega)
    rw [List.cons_append]
    unfold spl
    rw [sumL, if_pos (by omega), show e.2 + sumL l - e.2 = sumL l by omega, spl_app (fun x hx => h x (by simp [hx])) h2]
theorem blk_join {q e : Rn} (hq : -1 ≤ q.1 ∧ q.1 ≤ 1099511627776 ∧ 1 ≤ q.2 ∧ q.2 ≤ 1099511627776) (he : -1 ≤ e.1 ∧ 1 ≤ e.2) (hj : jn q e = true) : blk (q.1, q.2 + e.2) = blk q ++ blk e := by
  have h := blk_split (e := (q.1, q.2 + e.2)) (n := q.2) (by omega) (by simp only; omega) hq.1
  rw [h]
  congr 1
  unfold jn at hj
  unfold prt
  by_cases hc : q.1 = -1 ∨ e.1 = -1
  · rw [if_pos hc] at hj
    simp only [decide_eq_true_iff] at hj
    rw [if_pos (by simp only; omega)]
    show blk (-1, q.2 + e.2 - q.2) = blk e
    rw [show q.2 + e.2 - q.2 = e.2 by omega, show ((-1 : Int), e.2) = e from Prod.ext (by simp only; omega) rfl]
  · rw [if_neg hc, w64 (by omega) (by omega)] at hj
    simp only [decide_eq_true_iff] at hj
    rw [if_neg (by simp only; omega)]
    show blk (q.1 + q.2, q.2 + e.2 - q.2) = blk e
    rw [show q.2 + e.2 - q.2 = e.2 by omega, hj]
theorem blks_push {p : List Rn} {e : Rn} (hp : ∀ q ∈ p, -1 ≤ q.1 ∧ q.1 ≤ 1099511627776 ∧ 1 ≤ q.2 ∧ q.2 ≤ 1099511627776) (he : -1 ≤ e.1 ∧ 1 ≤ e.2) : blks (push p e) = blks p ++ blk e := by
  by_cases hne : p = []
  · subst hne; rw [push_nil, blks_one]; rfl
  · obtain ⟨p, q, rfl⟩ := snoc hne
    rw [push_snoc]
    by_cases hj : jn q e = true
    · rw [if_pos hj, blks_app, blks_one, blk_join (hp q (by simp)) he hj, blks_app, blks_one, List.append_assoc]
    · rw [if_neg hj, blks_app, blks_one]
theorem blks_togF : ∀ {l p : List Rn}, (∀ e ∈ l, 1 ≤ e.2 ∧ -1 ≤ e.1 ∧ e.1 ≤ 1099511627776) → (∀ q ∈ p, -1 ≤ q.1 ∧ q.1 ≤ 1099511627776 ∧ 1 ≤ q.2) → sumL p + sumL l ≤ 1099511627776 → blks (l.foldl push p) = blks p ++ blks l
  | [], p, _, _, _ => by simp [blks]
  | e :: l, p, hl, hp, hs => by
    have he := hl e (by simp)
    have hln := sumL_nn (l := l) (fun x hx => by have := hl x (by simp [hx]); omega)
    have hpn := mem_sum (l := p) (fun x hx => by have := hp x hx; omega)
    rw [sumL] at hs
    have hpa := push_all (P := fun a => -1 ≤ a ∧ a ≤ 1099511627776) (p := p) (e := e) (fun q hq => by have := hp q hq; omega) (by omega)
    rw [List.foldl_cons, blks_togF (l := l) (fun x hx => hl x (by simp [hx])) (fun q hq => by have := hpa q hq; omega) (by rw [push_sum]; omega), blks_push (fun q hq => by have := hp q hq; have := hpn q hq; omega) (by omega), blks_cons, List.append_assoc]
theorem blks_tog {l : List Rn} (h : ∀ e ∈ l, 1 ≤ e.2 ∧ -1 ≤ e.1 ∧ e.1 ≤ 1099511627776) (hs : sumL l ≤ 1099511627776) : blks (tog l) = blks l := by
  have := blks_togF (l := l) (p := []) h (by simp) (by simp only [sumL]; omega)
  simpa [tog, blks] using this

theorem back_free {x2 x9 : Int} {x7 x10 f : List Rn} (h : ∀ e ∈ f, 0 ≤ e.2 ∧ e.2 ≤ 99000) (hl : f.length ≤ 1000) : iter (fun (s : Int × Int) => gabionlaw15_ExtBack_l0 x2 x7 x9 x10 f s.1 s.2) (f.length + 1) (0, 0) = some (sumL f) := by
  refine iter_fold (l := f) (S := fun i t => (sumL t, (i : Int))) _ (fun i x hx => ?_) ?_ (Nat.lt_succ_self _)
  · have hi : i < f.length := (List.getElem?_eq_some_iff.1 hx).1
    have hb := h x (List.mem_of_getElem? hx)
    have h1 := sumL_bd (l := f.take i) (fun e he => (h e (take_mem he)).2)
    have h2 := sumL_nn (l := f.take i) (fun e he => (h e (take_mem he)).1)
    rw [List.length_take] at h1
    show gabionlaw15_ExtBack_l0 x2 x7 x9 x10 f (sumL (f.take i)) i = _
    unfold gabionlaw15_ExtBack_l0
    rw [if_pos (by omega), rd_ok hx, Option.bind_some, take_next hx, sumL_app, w64 (n := (i : Int) + 1) (by omega) (by omega), w64 (by omega) (by omega)]
    simp [sumL]
  · show gabionlaw15_ExtBack_l0 x2 x7 x9 x10 f (sumL f) f.length = _
    unfold gabionlaw15_ExtBack_l0
    rw [if_neg (by omega)]
theorem map_in {l : List Rn} (r : Rt l) {i : Nat} (hi : (i : Int) < sumL l) : ∃ x, (blks l)[i]? = some x ∧ ext_List_Map l i = some (x, true) := by
  have hb := blks_len r.nn
  have hx : (blks l)[i]? = some ((blks l)[i]'(by omega)) := List.getElem?_eq_getElem (by omega)
  have hs := r.sum
  refine ⟨_, hx, ?_⟩
  rw [map_eq r.Bd (by have := r.len; omega) (by omega), if_neg (by omega), Int.toNat_natCast, hx]
/-- Blocks counted up, each the same in two lists. -/
theorem back_same {x2 : Int} {m a : List Rn} (hm : Rt m) (ha : Rt a) {k : Nat} (hk : sumL a = k) (hk2 : (k : Int) ≤ sumL m) (hb : blks a = (blks m).take k) : iter (fun (s : Int) => gabionlaw15_ExtBack_l1 x2 m a k s) (k + 1) 0 = some (.inr ()) := by
  refine iter_fold (l := List.range k) (S := fun i _ => (i : Int)) _ (fun i x hx => ?_) ?_ (by simp)
  · have hi : i < k := by have := (List.getElem?_eq_some_iff.1 hx).1; rwa [List.length_range] at this
    obtain ⟨u, h1, h2⟩ := map_in ha (i := i) (by omega)
    obtain ⟨v, h3, h4⟩ := map_in hm (i := i) (by omega)
    have huv : u = v := by
      rw [hb, List.getElem?_take_of_lt hi, h3] at h1
      exact (Option.some.inj h1).symm
    show gabionlaw15_ExtBack_l1 x2 m a k i = _
    unfold gabionlaw15_ExtBack_l1
    rw [if_pos (by omega), h2, Option.bind_some, h4, Option.bind_some, if_neg (fun g => g huv), w64 (by omega) (by have := hm.sum; omega)]; rfl
  · show gabionlaw15_ExtBack_l1 x2 m a k ((List.range k).length : Nat) = _
    unfold gabionlaw15_ExtBack_l1
    rw [List.length_range, if_neg (by omega)]
theorem back_fill {a2 : Int} (h0 : 0 ≤ a2) (h1 : a2 ≤ 255) {m : List Rn} (hm : Rt m) (hm2 : m.length ≤ 20) : gabionlaw15_ExtBack_j28 a2 m = some true := by
  have hsum := hm.sum
  have hnn := sumL_nn hm.nn
  have hB : ext_List_Blocks m = some (sumL m) := blocks_eq hm.Bd (by omega)
  have hbl := blks_len hm.nn
  have hw0 : wi64 a2 = a2 := w64 (by omega) (by omega)
  have hw1 : wi64 (2000 + a2) = 2000 + a2 := w64 (by omega) (by omega)
  unfold gabionlaw15_ExtBack_j28
  rw [hB, Option.bind_some]
  obtain ⟨S, hS⟩ := Int.eq_ofNat_of_zero_le hnn
  rw [hS, Int.toNat_natCast]
  have key : iter (fun (s : Int) => gabionlaw15_ExtBack_l2 a2 m S s) (S + 1) 0 = some (.inr ()) := by
    refine iter_fold (l := List.range S) (S := fun i _ => (i : Int)) _ (fun i x hx => ?_) ?_ (by simp)
    · have hi : i < S := by have := (List.getElem?_eq_some_iff.1 hx).1; rwa [List.length_range] at this
      obtain ⟨p, hp, hM⟩ := map_in hm (i := i) (by omega)
      have hwi : wi64 ((i : Int) + 1) = ((i + 1 : Nat) : Int) := w64 (by omega) (by omega)
      have hj : gabionlaw15_ExtBack_j37 a2 m S i = some (.inl ((i + 1 : Nat) : Int)) := by unfold gabionlaw15_ExtBack_j37; rw [hwi]
      show gabionlaw15_ExtBack_l2 a2 m S i = _
      unfold gabionlaw15_ExtBack_l2
      rw [if_pos (by omega), hM, Option.bind_some, hw0, hw1, fill_eq (by omega), Option.bind_some]
      have hfb : fillB m i (2000 + a2, 1) = true := by
        unfold fillB
        rw [rightB_iff.2 hm, Bool.true_and, decide_eq_true_iff]
        simp only; omega
      have hb1 : ∀ e ∈ m, 1 ≤ e.2 ∧ -1 ≤ e.1 := fun e he => by have := hm.bd e he; omega
      obtain ⟨b1, b2⟩ := spl_blks hb1 (n := (i : Int)) (by omega)
      obtain ⟨m1, m2⟩ := spl_mem hm.bd (n := (i : Int)) (by omega)
      obtain ⟨s1, s2⟩ := spl_sum (fun e he => (hb1 e he).1) (n := (i : Int)) (by omega) (by omega)
      obtain ⟨b3, b4⟩ := spl_blks (l := (spl m i).2) (fun e he => by have := m2 e he; omega) (n := 1) (by omega)
      obtain ⟨m3, m4⟩ := spl_mem2 m2 (n := 1) (by omega)
      obtain ⟨s3, s4⟩ := spl_sum (l := (spl m i).2) (fun e he => (m2 e he).1) (n := 1) (by omega) (by omega)
      have hheld := held_blks (l := (spl (spl m i).2 1).1) (fun e he => by have := m3 e he; omega)
      have hhl := heldL_le (l := (spl (spl m i).2 1).1) (fun e he => by have := m3 e he; omega)
      have hone : blks (spl (spl m i).2 1).1 = [p] := by
        rw [b3, b2, Int.toNat_natCast]
        have hlt : i < (blks m).length := by omega
        rw [List.drop_eq_getElem_cons hlt]
        rw [List.getElem?_eq_getElem hlt] at hp
        rw [Option.some.inj hp]; rfl
      rw [hone] at hheld
      unfold fillR
      rw [if_pos hfb]
      show (if p ≠ -1 then _ else _) = _
      by_cases hpn : p = -1
      · have h00 : heldL (spl (spl m i).2 1).1 = 0 := hheld.2 (by simpa using hpn)
        rw [if_neg (fun g => g hpn), if_neg (show ¬ 0 < heldL (spl (spl m i).2 1).1 by omega)]
        by_cases hr : RightB (tog ((spl m i).1 ++ [(2000 + a2, 1)] ++ (spl (spl m i).2 1).2)) = true
        · rw [if_pos hr, if_pos rfl, hB, Option.bind_some, hS, Int.toNat_natCast]
          have hc := rightB_iff.1 hr
          have hcb : blks (tog ((spl m i).1 ++ [(2000 + a2, 1)] ++ (spl (spl m i).2 1).2)) = (blks m).take i ++ [2000 + a2] ++ (blks m).drop (i + 1) := by
            rw [blks_tog (fun x hx => by
              rcases List.mem_append.1 hx with hx | hx
              · rcases List.mem_append.1 hx with hx | hx
                · have := m1 x hx; omega
                · rw [List.mem_singleton] at hx; subst hx; simp only; omega
              · have := m4 x hx; omega) (by rw [sumL_app, sumL_app]; simp only [sumL]; omega), blks_app, blks_app, blks_one, b1, b4, b2, List.drop_drop]
            have : blk (2000 + a2, 1) = [2000 + a2] := by
              simp only [blk]
              rw [show (1 : Int).toNat = 1 from rfl]
              simp; omega
            rw [this]; rfl
          have hcs : sumL (tog ((spl m i).1 ++ [(2000 + a2, 1)] ++ (spl (spl m i).2 1).2)) = S := by
            rw [tog_sum, sumL_app, sumL_app]; simp only [sumL]; omega
          generalize tog ((spl m i).1 ++ [(2000 + a2, 1)] ++ (spl (spl m i).2 1).2) = c at hc hcb hcs
          have k3 : iter (fun (s : Int × Int × Int) => gabionlaw15_ExtBack_l3 a2 m c S S s.1 s.2.1 s.2.2) (S + 1) ((i : Int), (i : Int), 0) = some (.inr (i : Int)) := by
            refine iter_fold (l := List.range S) (S := fun j _ => ((i : Int), (i : Int), (j : Int))) _ (fun j x hx => ?_) ?_ (by simp)
            · have hj2 : j < S := by have := (List.getElem?_eq_some_iff.1 hx).1; rwa [List.length_range] at this
              obtain ⟨u, hu, hMu⟩ := map_in hm (i := j) (by omega)
              obtain ⟨v, hv, hMv⟩ := map_in hc (i := j) (by omega)
              have hwj : wi64 ((j : Int) + 1) = ((j + 1 : Nat) : Int) := w64 (by omega) (by omega)
              show gabionlaw15_ExtBack_l3 a2 m c S S i i j = _
              unfold gabionlaw15_ExtBack_l3 gabionlaw15_ExtBack_j45
              rw [if_pos (by omega), hMu, Option.bind_some, hMv, Option.bind_some, hw0, hw1, hwj]
              have hil : ((blks m).take i).length = i := by rw [List.length_take]; omega
              by_cases hji : j = i
              · subst hji
                have hv2 : v = 2000 + a2 := by
                  rw [hcb, List.append_assoc, List.getElem?_append_right (by omega), hil, Nat.sub_self] at hv
                  exact (Option.some.inj hv).symm
                rw [if_pos rfl, if_neg (fun g => g hv2), if_neg (fun g => g rfl), if_neg (by simp)]
              · have hv2 : v = u := by
                  rw [hcb] at hv
                  by_cases hlt : j < i
                  · rw [List.append_assoc, List.getElem?_append_left (by omega), List.getElem?_take_of_lt hlt, hu] at hv
                    exact (Option.some.inj hv).symm
                  · rw [List.getElem?_append_right (by simp only [List.length_append, List.length_cons, List.length_nil]; omega), List.getElem?_drop] at hv
                    simp only [List.length_append, List.length_cons, List.length_nil, hil] at hv
                    rw [show i + 1 + (j - (i + (0 + 1))) = j by omega, hu] at hv
                    exact (Option.some.inj hv).symm
                rw [if_neg (by omega), if_pos (by omega), if_neg (by simp [hv2])]
            · show gabionlaw15_ExtBack_l3 a2 m c S S i i ((List.range S).length : Nat) = _
              unfold gabionlaw15_ExtBack_l3
              rw [List.length_range, if_neg (by omega)]
          rw [k3]
          exact hj
        · rw [if_neg hr, if_neg (by simp), if_neg (by simp)]
          exact hj
      · have hne0 : heldL (spl (spl m i).2 1).1 ≠ 0 := fun h0 => hpn (hheld.1 h0 p (by simp))
        rw [if_pos hpn, if_pos (show 0 < heldL (spl (spl m i).2 1).1 by omega), if_neg (by simp)]
        exact hj
    · show gabionlaw15_ExtBack_l2 a2 m S ((List.range S).length : Nat) = _
      unfold gabionlaw15_ExtBack_l2
      rw [List.length_range, if_neg (by omega)]
  rw [key]; rfl
theorem ExtBack_pure (a0 : List Rn) (w0 : ∀ x ∈ a0, (Lit.int IntKind.i64 x.1).wf = true ∧ (Lit.int IntKind.i64 x.2).wf = true) (z0 : a0.length ≤ 9223372036854775807) (a1 : Int) (w1 : (Lit.int IntKind.u16 a1).wf = true) (a2 : Int) (w2 : (Lit.int IntKind.u8 a2).wf = true) : gabionlaw15_ExtBack a0 a1 a2 = some true := by
  obtain ⟨a10, a11⟩ := bounds_u16 w1
  obtain ⟨a20, a21⟩ := bounds_u8 w2
  unfold gabionlaw15_ExtBack
  rw [tame_eq a0 z0, Option.bind_some]
  obtain ⟨hr, hsm, hc, hl20⟩ := tame_rt (a0.take 20) (by rw [List.length_take]; omega)
  generalize tog ((a0.take 20).map tm) = m at hr hc hsm hl20
  have hnn := sumL_nn hr.nn
  have hB : ext_List_Blocks m = some (sumL m) := blocks_eq hr.Bd (by omega)
  have hH : ext_List_Held m = some (heldL m) := held_eq hr.Bd (by omega)
  have hw : wi64 (sumL m + 1) = sumL m + 1 := w64 (by omega) (by omega)
  have hw1 : wi64 a1 = a1 := w64 (by omega) (by omega)
  have hw2 : wi64 a2 = a2 := w64 (by omega) (by omega)
  rw [law_list_eq m (by omega), Option.bind_some, List.take_of_length_le (by omega), hB, Option.bind_some, hw, hw1, ifS_pos (by omega), Int.tmod_eq_emod_of_nonneg a10]
  have hk0 : 0 ≤ a1 % (sumL m + 1) := Int.emod_nonneg _ (by omega)
  have hk1 : a1 % (sumL m + 1) < sumL m + 1 := Int.emod_lt_of_pos _ (by omega)
  generalize a1 % (sumL m + 1) = k at hk0 hk1
  obtain ⟨k, rfl⟩ := Int.eq_ofNat_of_zero_le hk0
  have hb1 : ∀ e ∈ m, 1 ≤ e.2 ∧ -1 ≤ e.1 := fun e he => by have := hr.bd e he; omega
  obtain ⟨b1, b2⟩ := spl_blks hb1 (n := (k : Int)) (by omega)
  obtain ⟨n1, n2⟩ := spl_nj hr.nj hb1 (n := (k : Int)) (by omega)
  obtain ⟨m1, m2⟩ := spl_mem hr.bd (n := (k : Int)) (by omega)
  obtain ⟨s1, s2⟩ := spl_sum (fun e he => (hb1 e he).1) (n := (k : Int)) (by omega) (by omega)
  have hL := spl_len (l := m) (n := (k : Int))
  have hh := spl_held (l := m) (n := (k : Int)) (fun e he => (hb1 e he).2)
  have ra : Rt (spl m k).1 := ⟨n1, m1, by omega, by omega⟩
  have hBa : ext_List_Blocks (spl m k).1 = some (k : Int) := by rw [blocks_eq ra.Bd (by omega), s1]
  have hsl : (solid (spl m k).2).length ≤ 20 := by
    have := List.length_filter_le (fun e => !hole e) (spl m k).2
    unfold solid; omega
  dsimp only
  rw [cut_eq (by omega), if_pos (show RightB m = true ∧ 0 ≤ (k : Int) ∧ (k : Int) ≤ sumL m from ⟨rightB_iff.2 hr, by omega, by omega⟩), Option.bind_some, ext_wakes, Option.bind_some, if_pos rfl, if_neg (by simp)]
  simp only [hBa, Option.bind_some]
  rw [if_neg (fun g => g rfl), right_eq (by omega), Option.bind_some, rightB_iff.2 ra]
  unfold gabionlaw15_ExtBack_j4
  rw [if_neg (by simp), back_free (fun e he => by have := m2 e (List.mem_filter.1 he).1; omega) (by omega), Option.bind_some, held_eq ra.Bd (by omega), Option.bind_some, hH, Option.bind_some, solid_held]
  have hh1 := heldL_le hr.nn
  have hh2 := heldL_le ra.nn
  have hh3 := heldL_le (l := (spl m k).2) (fun e he => by have := m2 e he; omega)
  rw [w64 (by omega) (by omega), if_neg (fun g => g hh), Int.toNat_natCast]
  have hsame := back_same (x2 := a2) hr ra s1 (by omega) b1
  rw [hsame]
  have hw3 : wi64 (1000 + a2) = 1000 + a2 := w64 (by omega) (by omega)
  rw [hw2, hw3]
  have hcb := hr.bd
  have hmq := mem_sum hr.nn
  have hpush : push m (1000 + a2, 2) = m ++ [(1000 + a2, 2)] := by
    by_cases hne : m = []
    · rw [hne]; rfl
    · obtain ⟨p, q, hpq⟩ := snoc hne
      have hq := hr.bd q (by rw [hpq]; simp)
      have hq1 := hc q (by rw [hpq]; simp)
      have hq2 := hmq q (by rw [hpq]; simp)
      rw [hpq, push_snoc, if_neg]
      unfold jn
      by_cases hcc : q.1 = -1 ∨ ((1000 + a2, 2) : Rn).1 = -1
      · rw [if_pos hcc]; simp only [decide_eq_true_iff] at *; omega
      · rw [if_neg hcc, w64 (by omega) (by omega)]; simp only [decide_eq_true_iff]; omega
  have re : Rt (m ++ [(1000 + a2, 2)]) := by
    refine ⟨?_, fun e he => ?_, by simp only [List.length_append, List.length_cons, List.length_nil]; omega, by rw [sumL_app]; simp only [sumL]; omega⟩
    · have := push_nj (p := m) (e := (1000 + a2, 2)) hr.nj
      rwa [hpush] at this
    · rcases List.mem_append.1 he with he | he
      · exact hr.bd e he
      · rw [List.mem_singleton] at he; subst he; simp only; omega
  have happ := app_ok hr (rt_one (e := (1000 + a2, 2)) (by simp only; omega)) re hpush
  have hcut : ext_List_Cut (m ++ [(1000 + a2, 2)]) (sumL m) = some (m, [(1000 + a2, 2)], 0) := by
    rw [cut_eq (by simp only [List.length_append, List.length_cons, List.length_nil]; omega), if_pos (show RightB (m ++ [(1000 + a2, 2)]) = true ∧ 0 ≤ sumL m ∧ sumL m ≤ sumL (m ++ [(1000 + a2, 2)]) from ⟨rightB_iff.2 re, hnn, by rw [sumL_app]; simp only [sumL]; omega⟩),
      spl_app (fun e he => (hb1 e he).1) (by simp)]
    have : solid [((1000 + a2, 2) : Rn)] = [(1000 + a2, 2)] := by
      have : ¬ 1000 + a2 = -1 := by omega
      simp [solid, hole, this]
    rw [this]
  show ((ext_List_Append m (1000 + a2, 2)).bind _) = _
  rw [happ, Option.bind_some, if_pos rfl, hB, Option.bind_some, hcut, Option.bind_some, if_neg (by simp), hB, Option.bind_some, Option.bind_some, if_neg (fun g => g rfl), if_neg (by simp)]
  show (((rd [((1000 + a2, 2) : Rn)] 0)).bind _) = _
  rw [rd_zero]
  show gabionlaw15_ExtBack_j27 a2 m (decide ((2 : Int) ≠ 2)) = _
  unfold gabionlaw15_ExtBack_j27
  rw [if_neg (by simp)]
  exact back_fill a20 a21 hr hl20
end Gab
