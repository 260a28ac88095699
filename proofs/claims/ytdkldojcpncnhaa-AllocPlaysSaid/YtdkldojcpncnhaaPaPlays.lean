/- AllocPlays over numbers and lists: it is true of every number and list. -/
import Derived.Test.YtdkldojcpncnhaaPa6
set_option linter.unusedVariables false
set_option linter.unusedSimpArgs false
namespace Gab
open Go

theorem end_not {hi : Int} {l : List Ex} {lo : Int} (h : Gd hi lo l) {x : Ex} (hx : x ∈ l) : ¬ Fr' l (x.1 + x.2) := fun ⟨y, hy, hy1, hy2⟩ => by
  have hxm := h.mem x hx
  have hym := h.mem y hy
  obtain ⟨i, hi', rfl⟩ := List.mem_iff_getElem.1 hx
  obtain ⟨j, hj', rfl⟩ := List.mem_iff_getElem.1 hy
  have hp := List.pairwise_iff_getElem.1 h.pw
  rcases Nat.lt_trichotomy i j with hlt | heq | hgt
  · have := hp i j hi' hj' hlt; omega
  · subst heq; omega
  · have := hp j i hj' hi' hgt; omega
theorem fr_in {hi : Int} {l : List Ex} {lo : Int} (h : Gd hi lo l) {b : Int} (hb : Fr' l b) : lo ≤ b ∧ b < hi := by
  obtain ⟨y, hy, hy1, hy2⟩ := hb
  have := h.mem y hy; omega
theorem rep_of {l : List Ex} {m : List Bool} {n : Int} (hn : n = m.length) (h : Gd n 0 l) (hf : ∀ b : Nat, b < m.length → (m[b]? = some true ↔ Fr' l b)) : Rep l m := ⟨hn ▸ h, hf⟩
theorem opt_true {m : List Bool} {b : Nat} (hb : b < m.length) (h : m[b]? ≠ some false) : m[b]? = some true := by
  rw [List.getElem?_eq_getElem hb] at h ⊢
  cases hv : m[b] <;> simp_all
theorem opt_false {m : List Bool} {b : Nat} (hb : b < m.length) (h : m[b]? ≠ some true) : m[b]? = some false := by
  rw [List.getElem?_eq_getElem hb] at h ⊢
  cases hv : m[b] <;> simp_all

structure Agree (s t : Int × List Ex) (m next : List Bool) (f g : Int) : Prop where
  eq : f = g
  ok : g = 0 → ∃ l', t = ((m.length : Int), l') ∧ next.length = m.length ∧ Rep l' next
  no : g ≠ 0 → t = (0, [])

theorem use_rep {l : List Ex} {m : List Bool} (h : Rep l m) (hm : m.length ≤ 65536) (e : Ex) : ∃ t f next g, alloc_Set_Use ((m.length : Int), l) e = some (t, f) ∧ gabionref14_Set m e.1 e.2 false = some (next, g) ∧ Agree ((m.length : Int), l) t m next f g := by
  rcases use_any (e := e) h.gd (by omega) (by omega) with ⟨hn, hu⟩ | ⟨hy, hno, hu⟩ | ⟨A, f, C, rfl, hy, hf, _, hu⟩
  · exact ⟨_, _, _, _, hu, set_arg (by omega) hn, rfl, fun h => by simp at h, fun _ => rfl⟩
  · obtain ⟨e0, e1, e2, e3⟩ := id hy
    rcases set_any (v := false) (by omega) (show MayB m.length (e.1, e.2) from hy) with ⟨_, hs⟩ | ⟨hall, _⟩
    · exact ⟨_, _, _, _, hu, hs, rfl, fun h => by simp at h, fun _ => rfl⟩
    · exfalso
      have hfree : ∀ b : Int, e.1 ≤ b → b < e.1 + e.2 → Fr' l b := fun b h1 h2 => by
        have hb : b = (b.toNat : Int) := by omega
        rw [hb]
        exact (h.fr b.toNat (by omega)).1 (opt_true (by omega) (hall b.toNat (by omega) (by omega)))
      obtain ⟨x, hx, hx1, hx2⟩ := hfree e.1 (by omega) (by omega)
      have hix := hno x hx
      unfold inB at hix
      rw [decide_eq_true hx1, Bool.true_and, decide_eq_false_iff_not] at hix
      exact end_not h.gd hx (hfree (x.1 + x.2) (by omega) (by omega))
  · obtain ⟨e0, e1, e2, e3⟩ := id hy
    obtain ⟨g1, g2⟩ := use_good h.gd hf e1
    simp only [inB, Bool.and_eq_true, decide_eq_true_iff] at hf
    rcases set_any (v := false) (by omega) (show MayB m.length (e.1, e.2) from hy) with ⟨⟨b, b1, b2, b3⟩, _⟩ | ⟨hall, out, hs, hol, hop⟩
    · exfalso
      have hbl : b < m.length := (List.getElem?_eq_some_iff.1 b3).1
      have := (h.fr b hbl).2 ⟨f, by simp, by omega, by omega⟩
      rw [b3] at this; cases this
    · refine ⟨_, _, _, _, hu, hs, rfl, fun _ => ⟨_, rfl, hol, rep_of (by rw [hol]) g1 fun b hb => ?_⟩, fun h => absurd rfl h⟩
      rw [hol] at hb
      rw [hop b hb, g2]
      by_cases hc : e.1 ≤ (b : Int) ∧ (b : Int) < e.1 + e.2
      · rw [if_pos hc]
        exact ⟨fun h => (by cases h), fun h => absurd hc h.2⟩
      · rw [if_neg hc, h.fr b hb]
        exact ⟨fun h => ⟨h, hc⟩, fun h => h.1⟩
theorem give_rep {l : List Ex} {m : List Bool} (h : Rep l m) (hm : m.length ≤ 65536) (e : Ex) : ∃ t f next g, alloc_Set_Give ((m.length : Int), l) e = some (t, f) ∧ gabionref14_Set m e.1 e.2 true = some (next, g) ∧ Agree ((m.length : Int), l) t m next f g := by
  rcases give_any (e := e) h.gd (by omega) (by omega) with ⟨hn, hu⟩ | ⟨hy, ⟨b, hb, hfr⟩, hu⟩ | ⟨hy, hno, l', hu, g1, _, g2⟩
  · exact ⟨_, _, _, _, hu, set_arg (by omega) hn, rfl, fun h => by simp at h, fun _ => rfl⟩
  · obtain ⟨e0, e1, e2, e3⟩ := id hy
    rcases set_any (v := true) (by omega) (show MayB m.length (e.1, e.2) from hy) with ⟨_, hs⟩ | ⟨hall, _⟩
    · exact ⟨_, _, _, _, hu, hs, rfl, fun h => by simp at h, fun _ => rfl⟩
    · exfalso
      have hbb : b = (b.toNat : Int) := by omega
      rw [hbb] at hfr
      exact hall b.toNat (by omega) (by omega) ((h.fr b.toNat (by omega)).2 hfr)
  · obtain ⟨e0, e1, e2, e3⟩ := id hy
    rcases set_any (v := true) (by omega) (show MayB m.length (e.1, e.2) from hy) with ⟨⟨b, b1, b2, b3⟩, _⟩ | ⟨hall, out, hs, hol, hop⟩
    · exfalso
      have hbl : b < m.length := (List.getElem?_eq_some_iff.1 b3).1
      exact hno b ⟨b1, b2⟩ ((h.fr b hbl).1 b3)
    · refine ⟨_, _, _, _, hu, hs, rfl, fun _ => ⟨_, rfl, hol, rep_of (by rw [hol]) g1 fun b hb => ?_⟩, fun h => absurd rfl h⟩
      rw [hol] at hb
      rw [hop b hb, g2]
      by_cases hc : e.1 ≤ (b : Int) ∧ (b : Int) < e.1 + e.2
      · rw [if_pos hc]
        exact ⟨fun _ => .inr hc, fun _ => rfl⟩
      · rw [if_neg hc, h.fr b hb]
        exact ⟨.inl, fun h => by
          rcases h with h | h
          · exact h
          · exact absurd h hc⟩

/-! ### Take of the reference -/
theorem tot_le {hi : Int} {l : List Ex} {lo : Int} (h : Gd hi lo l) (hl : lo ≤ hi) (i : Nat) : 0 ≤ tot (l.take i) ∧ tot (l.take i) ≤ hi - lo := by
  have hg : Gd hi lo (l.take i) := Gd.app (B := l.drop i) (by rw [List.take_append_drop]; exact h)
  exact hg.tot hl
theorem ref_first {x0 : List Bool} {k n : Int} {l : List Ex} (h : Gd n 0 l) (h0 : 0 ≤ n) (hn : n ≤ 65536) : iter (fun (s : Int × Int × Int) => gabionref14_Take_l0 x0 k l s.1 s.2.1 s.2.2) 100000 (0, -1, 0) = some (tot l, ixOf (fun x : Ex => decide (k ≤ x.2)) l) := by
  have hlen := h.len h0
  obtain ⟨e, he, rfl⟩ := iter_of (step := fun (s : Int × Int × Int) => gabionref14_Take_l0 x0 k l s.1 s.2.1 s.2.2)
    (fun m s => ∃ (i : Nat) (a : Int), s = (tot (l.take i), a, (i : Int)) ∧ i + m = l.length ∧ ((a = -1 ∧ ∀ x ∈ l.take i, x.2 < k) ∨ (0 ≤ a ∧ a = ixOf (fun x : Ex => decide (k ≤ x.2)) l)))
    (fun e => e = (tot l, ixOf (fun x : Ex => decide (k ≤ x.2)) l)) (fun m s ⟨i, a, hs, hm, ha⟩ => by
      subst hs
      cases m with
      | zero =>
        refine .inr ⟨_, ?_, rfl⟩
        show gabionref14_Take_l0 x0 k l _ a i = _
        unfold gabionref14_Take_l0
        rw [if_neg (by omega), List.take_of_length_le (by omega)] at *
        rcases ha with ⟨rfl, hno⟩ | ⟨_, rfl⟩
        · rw [ixOf_lt fun x hx => by have := hno x hx; simp; omega]
        · rfl
      | succ m =>
        have hlt : i < l.length := by omega
        have hx : l[i]? = some l[i] := List.getElem?_eq_getElem hlt
        have hxm := h.mem l[i] (List.getElem_mem hlt)
        have e1 : l.take (i + 1) = l.take i ++ [l[i]] := by rw [List.take_add_one, hx]; rfl
        have ht := tot_le h h0 (i + 1)
        have ht2 : tot (l.take (i + 1)) = tot (l.take i) + l[i].2 := by rw [e1, tot_app]; simp [tot]
        have hw : wi64 (tot (l.take i) + l[i].2) = tot (l.take (i + 1)) := by rw [ht2] at ht ⊢; exact w64 (by omega) (by omega)
        have hw2 : wi64 ((i : Int) + 1) = ((i + 1 : Nat) : Int) := w64 (by omega) (by omega)
        left
        rcases ha with ⟨rfl, hno⟩ | ⟨h1, h2⟩
        · by_cases hc : k ≤ l[i].2
          · have hix : ixOf (fun x : Ex => decide (k ≤ x.2)) l = (i : Int) := by
              unfold ixOf
              have : l.findIdx? (fun x : Ex => decide (k ≤ x.2)) = some i := by
                rw [List.findIdx?_eq_some_iff_getElem]
                refine ⟨hlt, by simpa using hc, fun j hj => ?_⟩
                have := hno (l[j]'(by omega)) (List.mem_iff_getElem.2 ⟨j, by rw [List.length_take]; omega, by rw [List.getElem_take]⟩)
                simpa using this
              rw [this]
            refine ⟨m, (tot (l.take (i + 1)), (i : Int), ((i + 1 : Nat) : Int)), rfl, ?_, i + 1, _, rfl, by omega, .inr ⟨by omega, hix.symm⟩⟩
            show gabionref14_Take_l0 x0 k l _ (-1) i = _
            unfold gabionref14_Take_l0
            rw [if_pos (by omega), rd_ok hx, Option.bind_some, if_pos (by omega), Option.bind_some, hw, decide_eq_true hc]
            unfold gabionref14_Take_j10 gabionref14_Take_j11
            rw [if_pos rfl, hw2]
          · refine ⟨m, (tot (l.take (i + 1)), -1, ((i + 1 : Nat) : Int)), rfl, ?_, i + 1, _, rfl, by omega, .inl ⟨rfl, fun x hx' => ?_⟩⟩
            · show gabionref14_Take_l0 x0 k l _ (-1) i = _
              unfold gabionref14_Take_l0
              rw [if_pos (by omega), rd_ok hx, Option.bind_some, if_pos (by omega), Option.bind_some, hw, decide_eq_false hc]
              unfold gabionref14_Take_j10 gabionref14_Take_j11
              rw [if_neg (by simp), hw2]
            · rw [e1] at hx'
              rcases List.mem_append.1 hx' with hx' | hx'
              · exact hno x hx'
              · simp at hx'; subst hx'; omega
        · refine ⟨m, (tot (l.take (i + 1)), a, ((i + 1 : Nat) : Int)), rfl, ?_, i + 1, _, rfl, by omega, .inr ⟨h1, h2⟩⟩
          show gabionref14_Take_l0 x0 k l _ a i = _
          unfold gabionref14_Take_l0
          rw [if_pos (by omega), rd_ok hx, Option.bind_some, if_neg (by omega), hw]
          unfold gabionref14_Take_j10 gabionref14_Take_j11
          rw [if_neg (by simp), hw2]) (n := l.length) (d := 100000) (s := (0, -1, 0)) ⟨0, -1, by simp [tot], by omega, .inl ⟨rfl, by simp⟩⟩ (by omega)
  exact he
theorem ref_pieces {x0 : List Bool} {n : Int} {l : List Ex} (h : Gd n 0 l) (h0 : 0 ≤ n) (hn : n ≤ 65536) : ∀ (m i d : Nat) (k : Int) (out : List Ex), i + m = l.length → m < d → out.length ≤ i → 0 ≤ k → k ≤ 1000000 → iter (fun (s : (List Ex) × Int × Int) => gabionref14_Take_l2 x0 l s.1 s.2.1 s.2.2) d (out, k, (i : Int)) = some (out ++ pcs (l.drop i) k)
  | 0, i, d, k, out, hi, hd, ho, hk0, hk => by
    obtain ⟨d, rfl⟩ : ∃ m, d = m + 1 := ⟨d - 1, by omega⟩
    rw [List.drop_eq_nil_of_le (by omega)]
    refine iter_inr ?_
    show gabionref14_Take_l2 x0 l out k i = _
    unfold gabionref14_Take_l2
    rw [if_neg (by omega)]
    unfold gabionref14_Take_j24
    rw [if_neg (by simp)]; simp [pcs]
  | m + 1, i, d, k, out, hi, hd, ho, hk0, hk => by
    have hlen := h.len h0
    obtain ⟨d, rfl⟩ : ∃ m, d = m + 1 := ⟨d - 1, by omega⟩
    have hlt : i < l.length := by omega
    have hx : l[i]? = some l[i] := List.getElem?_eq_getElem hlt
    rw [List.drop_eq_getElem_cons hlt]
    have hb := h.mem l[i] (List.getElem_mem hlt)
    generalize l[i] = x at hx hb
    by_cases hz : k = 0
    · refine iter_inr ?_
      show gabionref14_Take_l2 x0 l out k i = _
      unfold gabionref14_Take_l2
      rw [if_pos (by omega), decide_eq_false (by omega)]
      unfold gabionref14_Take_j24
      rw [if_neg (by simp)]; simp [pcs, hz]
    · have hmn : mn k x.2 = if k < x.2 then k else x.2 := by unfold mn; split <;> split <;> omega
      have hr : 0 ≤ mn k x.2 ∧ mn k x.2 ≤ k := by rw [hmn]; split <;> omega
      have tail : gabionref14_Take_j28 x0 l out k i (mn k x.2) = some (.inl (out ++ [(x.1, mn k x.2)], k - mn k x.2, ((i + 1 : Nat) : Int))) := by
        unfold gabionref14_Take_j28
        rw [rd_ok hx, Option.bind_some, appL_ok (by simp only [List.length_cons, List.length_nil]; omega), Option.bind_some, w64 (n := k - mn k x.2) (by omega) (by omega), w64 (n := (i : Int) + 1) (by omega) (by omega)]
        rfl
      have hstep : gabionref14_Take_l2 x0 l out k i = some (.inl (out ++ [(x.1, mn k x.2)], k - mn k x.2, ((i + 1 : Nat) : Int))) := by
        unfold gabionref14_Take_l2
        rw [if_pos (by omega), decide_eq_true (by omega)]
        unfold gabionref14_Take_j24
        rw [if_pos rfl, rd_ok hx, Option.bind_some, ← tail]
        by_cases hc : k < x.2
        · rw [if_pos hc, hmn, if_pos hc]
        · rw [if_neg hc, hmn, if_neg hc]
      have ih := ref_pieces (x0 := x0) h h0 hn m (i + 1) d (k - mn k x.2) (out ++ [(x.1, mn k x.2)]) (by omega) (by omega) (by simp; omega) (by omega) (by omega)
      rw [iter_inl hstep, ih]
      simp [pcs, hz]
theorem ref_use {m : List Bool} (hm : m.length ≤ 65536) {P : List Ex} (hP : Gd m.length 0 P) (hf : ∀ b : Nat, b < m.length → Fr' P b → m[b]? = some true) : ∃ out, iter (fun (s : (List Bool) × Int) => gabionref14_Take_l1 P s.1 s.2) 100000 (m, 0) = some out ∧ out.length = m.length ∧ ∀ b : Nat, b < m.length → (out[b]? = some true ↔ m[b]? = some true ∧ ¬ Fr' P b) := by
  have hlen := hP.len (by omega)
  have hpw := hP.pw
  obtain ⟨e, he, h1, h2⟩ := iter_of (step := fun (s : (List Bool) × Int) => gabionref14_Take_l1 P s.1 s.2)
    (fun n s => ∃ (i : Nat) (x : List Bool), s = (x, (i : Int)) ∧ i + n = P.length ∧ x.length = m.length ∧ ∀ b : Nat, b < m.length → (x[b]? = some true ↔ m[b]? = some true ∧ ¬ Fr' (P.take i) b))
    (fun e => e.length = m.length ∧ ∀ b : Nat, b < m.length → (e[b]? = some true ↔ m[b]? = some true ∧ ¬ Fr' P b)) (fun n s ⟨i, x, hs, hn, hxl, hx⟩ => by
      subst hs
      cases n with
      | zero =>
        refine .inr ⟨x, ?_, hxl, by rw [List.take_of_length_le (by omega)] at hx; exact hx⟩
        show gabionref14_Take_l1 P x i = _
        unfold gabionref14_Take_l1
        rw [if_neg (by omega)]
      | succ n =>
        have hlt : i < P.length := by omega
        have hp : P[i]? = some P[i] := List.getElem?_eq_getElem hlt
        have hpm := hP.mem P[i] (List.getElem_mem hlt)
        have e1 : P.take (i + 1) = P.take i ++ [P[i]] := by rw [List.take_add_one, hp]; rfl
        left
        rcases set_any (m := x) (v := false) (by omega) (show MayB x.length (P[i].1, P[i].2) from ⟨hpm.1, hpm.2.1, by simp only; omega, by simp only; omega⟩) with ⟨⟨b, b1, b2, b3⟩, _⟩ | ⟨_, out, hs, hol, hop⟩
        · exfalso
          have hbl : b < m.length := by have := (List.getElem?_eq_some_iff.1 b3).1; omega
          have hfr : Fr' P b := ⟨P[i], List.getElem_mem hlt, b1, b2⟩
          have hnt : ¬ Fr' (P.take i) b := fun ⟨y, hy, hy1, hy2⟩ => by
            obtain ⟨q, hq, rfl⟩ := List.mem_iff_getElem.1 hy
            rw [List.length_take] at hq
            rw [List.getElem_take] at hy1 hy2
            have := List.pairwise_iff_getElem.1 hpw q i (by omega) hlt (by omega)
            omega
          have := (hx b hbl).2 ⟨hf b hbl hfr, hnt⟩
          rw [b3] at this; cases this
        · refine ⟨n, (out, ((i + 1 : Nat) : Int)), rfl, ?_, i + 1, out, rfl, by omega, by omega, fun b hb => ?_⟩
          · show gabionref14_Take_l1 P x i = _
            unfold gabionref14_Take_l1
            rw [if_pos (by omega), rd_ok hp, Option.bind_some, Option.bind_some, hs, Option.bind_some, w64 (n := (i : Int) + 1) (by omega) (by omega)]; rfl
          · rw [hop b (by omega), e1, Fr_app, Fr_cons]
            have hN : Fr' [] (b : Int) ↔ False := ⟨fun h => Fr_nil h, fun h => h.elim⟩
            rw [hN, or_false]
            by_cases hc : P[i].1 ≤ (b : Int) ∧ (b : Int) < P[i].1 + P[i].2
            · rw [if_pos hc]
              exact ⟨fun h => (by cases h), fun h => absurd (.inr hc) h.2⟩
            · rw [if_neg hc, hx b hb]
              exact ⟨fun h => ⟨h.1, fun h' => by
                rcases h' with h' | h'
                · exact h.2 h'
                · exact hc h'⟩, fun h => ⟨h.1, fun h' => h.2 (.inl h')⟩⟩) (n := P.length) (d := 100000) (s := (m, 0)) ⟨0, m, rfl, by omega, rfl, fun b hb => ⟨fun h => ⟨h, Fr_nil⟩, fun h => h.1⟩⟩ (by omega)
  exact ⟨e, he, h1, h2⟩
theorem take_rep {l : List Ex} {m : List Bool} (h : Rep l m) (hm : m.length ≤ 65536) (k : Int) : ∃ t P f next g, alloc_Set_Take ((m.length : Int), l) k = some (t, P, f) ∧ gabionref14_Take m k = some (next, P, g) ∧ P.length ≤ 1000000 ∧ Agree ((m.length : Int), l) t m next f g := by
  by_cases hk : k < 1
  · refine ⟨_, _, _, _, _, take_arg hk, by unfold gabionref14_Take; rw [if_pos hk], by simp, rfl, fun h => by simp at h, fun _ => rfl⟩
  · have hfirst := ref_first (x0 := m) (k := k) h.gd (by omega) (by omega)
    by_cases ht : tot l < k
    · refine ⟨_, _, _, [], _, take_space h.gd (by omega) (by omega) hk ht, ?_, by simp, rfl, fun h => by simp at h, fun _ => rfl⟩
      unfold gabionref14_Take
      rw [if_neg hk, extents_eq h (by omega), Option.bind_some, hfirst, Option.bind_some, if_pos ht]
    · obtain ⟨t, P, hT, gt, gP, tP, tt, ft, fP⟩ := take_facts (k := k) h.gd (by omega) (by omega) hk ht
      have htot := h.gd.tot (by omega)
      have hPl := gP.len (by omega)
      obtain ⟨out, hu, hol, hop⟩ := ref_use (m := m) hm gP (fun b hb hfr => (h.fr b hb).2 (fP b hfr))
      have hj : gabionref14_Take_j17 m P = some (out, P, 0) := by
        unfold gabionref14_Take_j17; rw [hu]; rfl
      have hR : gabionref14_Take m k = some (out, P, 0) := by
        unfold gabionref14_Take
        rw [if_neg hk, extents_eq h (by omega), Option.bind_some, hfirst, Option.bind_some, if_neg ht]
        rcases take_any (k := k) h.gd (by omega) (by omega) with ⟨a, _⟩ | ⟨_, a, _⟩ | ⟨_, _, A, f, C, hl, hf, hA, he⟩ | ⟨_, _, hno, he⟩
        · exact absurd a hk
        · exact absurd a ht
        · rw [hT] at he
          have hP : P = [(f.1, k)] := by injection he with he; injection he with _ he; injection he
          have hix : ixOf (fun x : Ex => decide (k ≤ x.2)) l = A.length := by
            rw [hl]
            unfold ixOf
            have : (A ++ f :: C).findIdx? (fun x : Ex => decide (k ≤ x.2)) = some A.length := by
              rw [List.findIdx?_append, List.findIdx?_eq_none_iff.2 (fun x hx => by have := hA x hx; simp; omega), List.findIdx?_cons, decide_eq_true hf]
              simp
            rw [this]
          rw [hix, if_pos (by simp only; omega), rd_ok (l := l) (x := f) (by rw [hl]; simp), Option.bind_some, appL_ok (by simp), Option.bind_some, List.nil_append, ← hP]
          exact hj
        · rw [hT] at he
          have hP : P = pcs l k := by injection he with he; injection he with _ he; injection he
          rw [ixOf_lt (fun x hx => by have := hno x hx; simp; omega), if_neg (by simp only; omega)]
          have hpc := ref_pieces (x0 := m) h.gd (by omega) (by omega) l.length 0 100000 k [] (by omega) (by have := h.gd.len (by omega); omega) (by simp) (by omega) (by omega)
          rw [List.nil_append, List.drop_zero, ← hP] at hpc
          have hpc' : iter (fun (s : (List Ex) × Int × Int) => gabionref14_Take_l2 m l s.1 s.2.1 s.2.2) 100000 ([], k, 0) = some P := hpc
          rw [hpc', Option.bind_some]
          exact hj
      refine ⟨_, _, _, _, _, hT, hR, by omega, rfl, fun _ => ⟨t, rfl, hol, rep_of (by rw [hol]) gt fun b hb => ?_⟩, fun h => absurd rfl h⟩
      rw [hol] at hb
      rw [hop b hb, ft, h.fr b hb]

/-! ### One act -/
theorem plays_j24 {l : List Ex} {m : List Bool} (h : Rep l m) (hm : m.length ≤ 65536) {t : Int × List Ex} {next : List Bool} {f g : Int} (ha : Agree ((m.length : Int), l) t m next f g) (x54 : List (Int × Int × Int)) (i : Nat) (hi : i < 1000000) :
    ∃ m' l', gabionlaw14_AllocPlays_j24 m f next g x54 i ((m.length : Int), l) t = some (.inl (m', ((i + 1 : Nat) : Int), ((m'.length : Int), l'))) ∧ Rep l' m' ∧ m'.length = m.length := by
  have hw : wi64 ((i : Int) + 1) = ((i + 1 : Nat) : Int) := w64 (by omega) (by omega)
  unfold gabionlaw14_AllocPlays_j24
  rw [if_neg (fun hx => hx ha.eq), same_eq h hm, Option.bind_some, if_pos rfl]
  by_cases hg : g = 0
  · obtain ⟨l', rfl, hl, hr⟩ := ha.ok hg
    rw [if_pos hg, ← hl, same_eq hr (by omega), Option.bind_some, if_pos rfl, if_neg (fun hx => hx hg)]
    unfold gabionlaw14_AllocPlays_j25
    rw [if_neg (by simp), if_pos hg]
    unfold gabionlaw14_AllocPlays_j28
    exact ⟨next, l', by rw [hw], hr, rfl⟩
  · have ht := ha.no hg
    subst ht
    rw [if_neg hg, if_pos hg]
    unfold alloc_Set_Size
    rw [Option.bind_some, if_neg (by simp), free_nil, Option.bind_some, decide_eq_false (by simp)]
    unfold gabionlaw14_AllocPlays_j25
    rw [if_neg (by simp), if_neg hg]
    unfold gabionlaw14_AllocPlays_j28
    exact ⟨m, l, by rw [hw], h, rfl⟩
theorem plays_pieces {m next : List Bool} {f g i : Int} {P : List Ex} (hP : P.length ≤ 1000000) {x54 : List (Int × Int × Int)} {s t : Int × List Ex} : iter (fun (q : Int × Int) => gabionlaw14_AllocPlays_l2 m f next g P P x54 s t q.1 q.2) (P.length + 1) (i, 0) = some (.inr i) := by
  refine iter_fold (l := P) (S := fun j _ => (i, (j : Int))) _ (fun j x hx => ?_) ?_ (Nat.lt_succ_self _)
  · have hj := (List.getElem?_eq_some_iff.1 hx).1
    show gabionlaw14_AllocPlays_l2 m f next g P P x54 s t i j = _
    unfold gabionlaw14_AllocPlays_l2
    rw [if_pos (by omega), rd_ok hx, Option.bind_some, Option.bind_some, if_neg (by simp), Option.bind_some, Option.bind_some]
    unfold gabionlaw14_AllocPlays_j42
    rw [if_neg (by simp), w64 (n := (j : Int) + 1) (by omega) (by omega)]; rfl
  · show gabionlaw14_AllocPlays_l2 m f next g P P x54 s t i P.length = _
    unfold gabionlaw14_AllocPlays_l2
    rw [if_neg (by omega)]
theorem plays_step {l : List Ex} {m : List Bool} (h : Rep l m) (hm : m.length ≤ 65536) {acts : List (Int × Int × Int)} {i : Nat} (hi : i < 1000000) {a : Int × Int × Int} (ha : acts[i]? = some a) :
    ∃ m' l', gabionlaw14_AllocPlays_l1 acts m i ((m.length : Int), l) = some (.inl (m', ((i + 1 : Nat) : Int), ((m'.length : Int), l'))) ∧ Rep l' m' ∧ m'.length = m.length := by
  have hlt := (List.getElem?_eq_some_iff.1 ha).1
  unfold gabionlaw14_AllocPlays_l1
  rw [if_pos (by omega), rd_ok ha, Option.bind_some]
  have hmx : 0 ≤ mx 0 a.1 := by unfold mx; split <;> omega
  have hmod : 0 ≤ Int.tmod (mx 0 a.1) 3 ∧ Int.tmod (mx 0 a.1) 3 < 3 := ⟨Int.tmod_nonneg _ hmx, Int.tmod_lt_of_pos _ (by omega)⟩
  generalize Int.tmod (mx 0 a.1) 3 = c at hmod
  by_cases c0 : c = 0
  · obtain ⟨t, f, next, g, h1, h2, h3⟩ := use_rep h hm a.2
    rw [if_pos c0, h1, Option.bind_some, h2, Option.bind_some]
    exact plays_j24 h hm h3 acts i hi
  · by_cases c1 : c = 1
    · obtain ⟨t, f, next, g, h1, h2, h3⟩ := give_rep h hm a.2
      rw [if_neg c0, if_pos c1, h1, Option.bind_some, h2, Option.bind_some]
      exact plays_j24 h hm h3 acts i hi
    · obtain ⟨t, P, f, next, g, h1, h2, hP, h3⟩ := take_rep h hm a.2.2
      rw [if_neg c0, if_neg c1, if_pos (by omega), h1, Option.bind_some, h2, Option.bind_some, if_neg (by simp), plays_pieces hP, Option.bind_some]
      exact plays_j24 h hm h3 acts i hi

theorem AllocPlays_pure (a0 : Int) (w0 : (Lit.int .i64 a0).wf = true) (a1 : List (Int × Int × Int)) (w1 : ∀ x ∈ a1, (Lit.int .i64 x.1).wf = true ∧ (Lit.int .i64 x.2.1).wf = true ∧ (Lit.int .i64 x.2.2).wf = true) (z1 : a1.length ≤ 9223372036854775807) : gabionlaw14_AllocPlays a0 a1 = some true := by
  have hmx : 0 ≤ mx 0 a0 := by unfold mx; split <;> omega
  have hmod : 0 ≤ Int.tmod (mx 0 a0) 40 ∧ Int.tmod (mx 0 a0) 40 < 40 := ⟨Int.tmod_nonneg _ hmx, Int.tmod_lt_of_pos _ (by omega)⟩
  unfold gabionlaw14_AllocPlays
  generalize Int.tmod (mx 0 a0) 40 = n at hmod
  obtain ⟨n, rfl⟩ : ∃ k : Nat, n = (k : Int) := ⟨n.toNat, by omega⟩
  rw [alloc_New_eq, if_neg (by omega), Option.bind_some, ifS_pos ⟨by omega, by omega, by omega⟩]
  have hnew : (if (0 : Int) < (n : Int) then (((n : Int), [(0, (n : Int))]), (0 : Int)) else (((n : Int), ([] : List Ex)), 0)) = (((n : Int), if 0 < n then [(0, (n : Int))] else []), 0) := by
    by_cases hc : 0 < n
    · rw [if_pos (by omega), if_pos hc]
    · rw [if_neg (by omega), if_neg hc]
  rw [hnew]
  have hrep : Rep (if 0 < n then [(0, (n : Int))] else []) (List.replicate n true) := by
    refine ⟨?_, fun b hb => ?_⟩
    · rw [List.length_replicate]
      by_cases hc : 0 < n
      · rw [if_pos hc]; exact ⟨by simp, by simp only; omega, by simp, trivial⟩
      · rw [if_neg hc]; trivial
    · rw [List.length_replicate] at hb
      rw [List.getElem?_replicate, if_pos hb, if_pos (by omega)]
      exact ⟨fun _ => ⟨_, List.mem_singleton.2 rfl, by simp only; omega, by simp only; omega⟩, fun _ => rfl⟩
  -- all are set
  have hset : iter (fun (s : (List Bool) × Int × Int) => gabionlaw14_AllocPlays_l0 a1 0 ((n : Int), if 0 < n then [(0, (n : Int))] else []) s.1 s.2.1 s.2.2) ((List.replicate ((n : Int).toNat) false).length + 1) ((List.replicate ((n : Int).toNat) false), ((List.replicate ((n : Int).toNat) false).length : Int), 0) = some (List.replicate n true) := by
    rw [Int.toNat_natCast, List.length_replicate]
    obtain ⟨e, he, rfl⟩ := iter_of (step := fun (s : (List Bool) × Int × Int) => gabionlaw14_AllocPlays_l0 a1 0 ((n : Int), if 0 < n then [(0, (n : Int))] else []) s.1 s.2.1 s.2.2)
      (fun k s => ∃ i : Nat, s = (List.replicate i true ++ List.replicate k false, (n : Int), (i : Int)) ∧ i + k = n) (fun e => e = List.replicate n true) (fun k s ⟨i, hs, hk⟩ => by
        subst hs
        cases k with
        | zero =>
          have : i = n := by omega
          subst this
          refine .inr ⟨_, ?_, rfl⟩
          show gabionlaw14_AllocPlays_l0 a1 0 _ _ (i : Int) (i : Int) = _
          unfold gabionlaw14_AllocPlays_l0
          rw [if_neg (by omega)]; simp
        | succ k =>
          have hx : (List.replicate i true ++ List.replicate (k + 1) false)[i]? = some false := by
            rw [List.getElem?_append_right (by simp)]; simp
          refine .inl ⟨k, (List.replicate (i + 1) true ++ List.replicate k false, (n : Int), ((i + 1 : Nat) : Int)), rfl, ?_, i + 1, rfl, by omega⟩
          show gabionlaw14_AllocPlays_l0 a1 0 _ _ (n : Int) (i : Int) = _
          unfold gabionlaw14_AllocPlays_l0
          rw [if_pos (by omega), rd_ok hx, Option.bind_some, w64 (n := (i : Int) + 1) (by omega) (by omega), Int.toNat_natCast]
          congr 3
          rw [List.set_append_right _ _ (by simp), List.length_replicate, Nat.sub_self, List.replicate_succ, List.set_cons_zero, List.replicate_succ' (n := i)]
          simp) (n := n) (d := n + 1) (s := (List.replicate n false, (n : Int), 0)) ⟨0, by simp, by omega⟩ (by omega)
    exact he
  trace_state
  show ((iter (fun (s : (List Bool) × Int × Int) => gabionlaw14_AllocPlays_l0 a1 0 ((n : Int), if 0 < n then [(0, (n : Int))] else []) s.1 s.2.1 s.2.2) _ _).bind _) = _
  rw [hset, Option.bind_some, alloc_wakes, Option.bind_some, if_pos rfl, if_neg (by simp)]
  have hl0 : (n : Int) = ((List.replicate n true).length : Int) := by simp
  have hsame := same_eq hrep (by simp; omega)
  rw [← hl0] at hsame
  rw [hsame, Option.bind_some]
  unfold gabionlaw14_AllocPlays_j10
  rw [if_neg (by simp)]
  have hmn : mn (a1.length : Int) 50 = ((min a1.length 50 : Nat) : Int) := by unfold mn; split <;> omega
  rw [hmn, show (0 : Int) = ((0 : Nat) : Int) from rfl, cutL_nat (by omega) (by omega), Option.bind_some, List.drop_zero]
  have hx : (a1.take (min a1.length 50)).length ≤ 50 := by rw [List.length_take]; omega
  generalize a1.take (min a1.length 50) = acts at hx
  generalize (List.replicate n true) = m0 at hrep hl0
  generalize (if 0 < n then [(((0 : Nat) : Int), (n : Int))] else []) = l0 at *
  have hm0 : m0.length = n := by omega
  obtain ⟨e, he, rfl⟩ := iter_of (step := fun (s : (List Bool) × Int × (Int × List Ex)) => gabionlaw14_AllocPlays_l1 acts s.1 s.2.1 s.2.2)
    (fun k s => ∃ (i : Nat) (m : List Bool) (l : List Ex), s = (m, (i : Int), ((m.length : Int), l)) ∧ i + k = acts.length ∧ Rep l m ∧ m.length ≤ 65536) (fun e => e = .inr ()) (fun k s ⟨i, m, l, hs, hk, hr, hml⟩ => by
      subst hs
      cases k with
      | zero =>
        refine .inr ⟨_, ?_, rfl⟩
        show gabionlaw14_AllocPlays_l1 acts m i _ = _
        unfold gabionlaw14_AllocPlays_l1
        rw [if_neg (by omega)]
      | succ k =>
        obtain ⟨m', l', h1, h2, h3⟩ := plays_step hr hml (acts := acts) (i := i) (by omega) (List.getElem?_eq_getElem (show i < acts.length by omega))
        exact .inl ⟨k, _, rfl, h1, i + 1, m', l', rfl, by omega, h2, by omega⟩) (n := acts.length) (d := acts.length + 1) (s := (m0, 0, ((n : Int), l0))) ⟨0, m0, l0, by rw [hl0]; rfl, by omega, hrep, by omega⟩ (by omega)
  have he' : iter (fun (s : (List Bool) × Int × (Int × List Ex)) => gabionlaw14_AllocPlays_l1 acts s.1 s.2.1 s.2.2) (acts.length + 1) (m0, ((0 : Nat) : Int), ((n : Int), l0)) = some (.inr ()) := he
  rw [he']; rfl
end Gab
