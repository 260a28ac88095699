/- AllocBack over numbers and lists: it is true of every list and number. -/
import Derived.Test.YtdkldojcpncnhaaPa5
import Derived.Test.YtdkldojcpncnhaaPaAll
set_option linter.unusedVariables false
set_option linter.unusedSimpArgs false
namespace Gab
open Go

theorem back_step (x1 : Int) (x32 : List Int) {i : Nat} {u : Int} {l : List Ex} (hi : i < 1000000) (hu : x32[i]? = some u) (h : Gd 40 0 l) : ∃ l', gabionlaw14_AllocBack_l0 x1 x32 i (40, l) = some (.inl (((i + 1 : Nat) : Int), (40, l'))) ∧ Gd 40 0 l' := by
  have hlt := (List.getElem?_eq_some_iff.1 hu).1
  obtain ⟨s, r, he, hs⟩ := use_keeps (e := (wi64 (Int.tmod u 40), 1)) h (by omega) (by omega)
  unfold gabionlaw14_AllocBack_l0
  rw [if_pos (by omega), rd_ok hu, Option.bind_some, he, Option.bind_some]
  have hw : wi64 ((i : Int) + 1) = ((i + 1 : Nat) : Int) := w64 (by omega) (by omega)
  by_cases hr : r = 0
  · obtain ⟨l', rfl, hg⟩ := hs hr
    exact ⟨l', by rw [if_pos hr]; unfold gabionlaw14_AllocBack_j10; rw [hw], hg⟩
  · exact ⟨l, by rw [if_neg hr]; unfold gabionlaw14_AllocBack_j10; rw [hw], h⟩
theorem back_loop (x1 : Int) (x32 : List Int) (hx : x32.length ≤ 1000) {l : List Ex} (h : Gd 40 0 l) : ∃ l', iter (fun (s : Int × (Int × List Ex)) => gabionlaw14_AllocBack_l0 x1 x32 s.1 s.2) (x32.length + 1) (0, (40, l)) = some (40, l') ∧ Gd 40 0 l' := by
  obtain ⟨e, he, l', rfl, hg⟩ := iter_of (step := fun (s : Int × (Int × List Ex)) => gabionlaw14_AllocBack_l0 x1 x32 s.1 s.2) (fun n s => ∃ (i : Nat) (l : List Ex), s = ((i : Int), (40, l)) ∧ i + n = x32.length ∧ Gd 40 0 l) (fun e => ∃ l', e = ((40 : Int), l') ∧ Gd 40 0 l') (fun n s ⟨i, l, hs, hn, hg⟩ => by
    subst hs
    cases n with
    | zero =>
      refine .inr ⟨(40, l), ?_, l, rfl, hg⟩
      show gabionlaw14_AllocBack_l0 x1 x32 i (40, l) = _
      unfold gabionlaw14_AllocBack_l0
      rw [if_neg (by omega)]
    | succ n =>
      obtain ⟨l', h1, h2⟩ := back_step x1 x32 (i := i) (by omega) (List.getElem?_eq_getElem (show i < x32.length by omega)) hg
      exact .inl ⟨n, _, rfl, h1, i + 1, l', rfl, by omega, h2⟩) (n := x32.length) (d := x32.length + 1) (s := (0, (40, l))) ⟨0, l, rfl, by omega, h⟩ (by omega)
  exact ⟨l', he, hg⟩
theorem back_same (l : List Ex) (hl : l.length ≤ 1000000) : iter (fun (s : Int) => gabionlaw14_AllocBack_l4 l l s) (l.length + 1) 0 = some (.inr ()) := by
  refine iter_fold (l := l) (S := fun i _ => (i : Int)) _ (fun i x hx => ?_) ?_ (Nat.lt_succ_self _)
  · have hi := (List.getElem?_eq_some_iff.1 hx).1
    show gabionlaw14_AllocBack_l4 l l i = _
    unfold gabionlaw14_AllocBack_l4
    rw [if_pos (by omega), rd_ok hx, Option.bind_some, Option.bind_some, if_pos (by simp), w64 (by omega) (by omega)]; rfl
  · show gabionlaw14_AllocBack_l4 l l l.length = _
    unfold gabionlaw14_AllocBack_l4
    rw [if_neg (by omega)]

/-- The blocks of one piece: free ahead, not behind. -/
theorem back_in {x11 x15 x92 : Int} {x13 x90 : List Ex} {l t : List Ex} {x : Ex} (h : Gd 40 0 l) (ht : Gd 40 0 t) (hx : 0 ≤ x.1 ∧ 1 ≤ x.2 ∧ x.1 + x.2 ≤ 40) (h1 : ∀ b, x.1 ≤ b ∧ b < x.1 + x.2 → Fr' l b ∧ ¬ Fr' t b) :
    iter (fun (s : Int × Int) => gabionlaw14_AllocBack_l2 x11 x13 x15 x90 (40, l) (40, t) x s.1 s.2) 100000 (x.1, x92) = some (.inr x92) := by
  obtain ⟨e, he, rfl⟩ := iter_of (step := fun (s : Int × Int) => gabionlaw14_AllocBack_l2 x11 x13 x15 x90 (40, l) (40, t) x s.1 s.2) (fun n s => ∃ b : Int, s = (b, x92) ∧ x.1 ≤ b ∧ b + n = x.1 + x.2) (fun e => e = .inr x92) (fun n s ⟨b, hs, hb, hn⟩ => by
    subst hs
    cases n with
    | zero =>
      refine .inr ⟨_, ?_, rfl⟩
      show gabionlaw14_AllocBack_l2 x11 x13 x15 x90 (40, l) (40, t) x b x92 = _
      unfold gabionlaw14_AllocBack_l2
      rw [w64 (n := x.1 + x.2) (by omega) (by omega), if_neg (by omega)]
      unfold gabionlaw14_AllocBack_j25
      rw [if_neg (by simp)]
    | succ n =>
      have hb2 : x.1 ≤ b ∧ b < x.1 + x.2 := ⟨hb, by omega⟩
      obtain ⟨a1, a2⟩ := h1 b hb2
      obtain ⟨r1, e1, i1⟩ := has_eq (b := b) h (by omega) (by omega)
      obtain ⟨r2, e2, i2⟩ := has_eq (b := b) ht (by omega) (by omega)
      have hr1 : r1 = true := i1.2 a1
      have hr2 : r2 = false := by
        cases r2 with
        | false => rfl
        | true => exact absurd (i2.1 rfl) a2
      subst hr1; subst hr2
      refine .inl ⟨n, (b + 1, x92), rfl, ?_, b + 1, rfl, by omega, by omega⟩
      show gabionlaw14_AllocBack_l2 x11 x13 x15 x90 (40, l) (40, t) x b x92 = _
      unfold gabionlaw14_AllocBack_l2
      rw [w64 (n := x.1 + x.2) (by omega) (by omega), if_pos (by omega), decide_eq_true (by omega)]
      unfold gabionlaw14_AllocBack_j25
      rw [if_pos rfl, e1, Option.bind_some, if_pos rfl, e2, Option.bind_some]
      unfold gabionlaw14_AllocBack_j27
      rw [if_neg (by simp), w64 (n := b + 1) (by omega) (by omega)]) (n := x.2.toNat) (d := 100000) (s := (x.1, x92)) ⟨x.1, rfl, by omega, by omega⟩ (by omega)
  exact he
theorem back_sum {x11 : Int} {l t P : List Ex} (h : Gd 40 0 l) (ht : Gd 40 0 t) (hP : Gd 40 0 P) (h1 : ∀ b, Fr' P b → Fr' l b ∧ ¬ Fr' t b) : iter (fun (s : Int × Int) => gabionlaw14_AllocBack_l1 x11 P P (40, l) (40, t) s.1 s.2) (P.length + 1) (0, 0) = some (.inr (tot P)) := by
  have hlen := hP.len (by omega)
  refine iter_fold (l := P) (S := fun i m => (tot m, (i : Int))) _ (fun i x hx => ?_) ?_ (Nat.lt_succ_self _)
  · have hi := (List.getElem?_eq_some_iff.1 hx).1
    have hm := hP.mem x (List.mem_of_getElem? hx)
    have e1 : P.take (i + 1) = P.take i ++ [x] := by rw [List.take_add_one, hx]; rfl
    have hg : Gd 40 0 (P.take (i + 1)) := Gd.app (B := P.drop (i + 1)) (by rw [List.take_append_drop]; exact hP)
    have ht' := hg.tot (by omega)
    show gabionlaw14_AllocBack_l1 x11 P P (40, l) (40, t) (tot (P.take i)) i = _
    unfold gabionlaw14_AllocBack_l1
    rw [e1, tot_app] at ht' ⊢
    simp only [tot, Int.add_zero] at ht' ⊢
    rw [if_pos (by omega), rd_ok hx, Option.bind_some, w64 (n := tot (P.take i) + x.2) (by omega) (by omega), back_in h ht hm (fun b hb => h1 b ⟨x, List.mem_of_getElem? hx, hb⟩), Option.bind_some]
    show some (Sum.inl (tot (P.take i) + x.2, wi64 ((i : Int) + 1))) = _
    rw [w64 (n := (i : Int) + 1) (by omega) (by omega)]; rfl
  · show gabionlaw14_AllocBack_l1 x11 P P (40, l) (40, t) (tot P) P.length = _
    unfold gabionlaw14_AllocBack_l1
    rw [if_neg (by omega)]

/-- Giving back the pieces, one behind the other. -/
theorem back_give {x11 x15 : Int} {l P : List Ex} {z : Int × List Ex} (hP : Gd 40 0 P) {t : List Ex} (ht : Gd 40 0 t) (h1 : ∀ b, Fr' P b → ¬ Fr' t b) :
    ∃ t', iter (fun (s : Int × (Int × List Ex)) => gabionlaw14_AllocBack_l3 x11 x15 P z s.1 s.2) (P.length + 1) (0, (40, t)) = some (.inr (x15, (40, t'))) ∧ Gd 40 0 t' ∧ ∀ b, Fr' t' b ↔ Fr' t b ∨ Fr' P b := by
  have hlen := hP.len (by omega)
  have hpw := hP.pw
  obtain ⟨e, he, t', rfl, g1, g2⟩ := iter_of (step := fun (s : Int × (Int × List Ex)) => gabionlaw14_AllocBack_l3 x11 x15 P z s.1 s.2)
    (fun n s => ∃ (i : Nat) (u : List Ex), s = ((i : Int), (40, u)) ∧ i + n = P.length ∧ Gd 40 0 u ∧ ∀ b, Fr' u b ↔ Fr' t b ∨ Fr' (P.take i) b) (fun e => ∃ t', e = (Sum.inr (x15, ((40 : Int), t')) : Bool ⊕ (Int × (Int × List Ex))) ∧ Gd 40 0 t' ∧ ∀ b, Fr' t' b ↔ Fr' t b ∨ Fr' P b) (fun n s ⟨i, u, hs, hn, hg, hf⟩ => by
      subst hs
      cases n with
      | zero =>
        have : i = P.length := by omega
        subst this
        refine .inr ⟨_, ?_, u, rfl, hg, by rw [List.take_length] at hf; exact hf⟩
        show gabionlaw14_AllocBack_l3 x11 x15 P z _ (40, u) = _
        unfold gabionlaw14_AllocBack_l3
        rw [if_neg (by omega)]
      | succ n =>
        have hlt : i < P.length := by omega
        have hx : P[i]? = some P[i] := List.getElem?_eq_getElem hlt
        have hm := hP.mem P[i] (List.getElem_mem hlt)
        have e1 : P.take (i + 1) = P.take i ++ [P[i]] := by rw [List.take_add_one, hx]; rfl
        have hdis : ∀ b, (P[i].1 ≤ b ∧ b < P[i].1 + P[i].2) → ¬ Fr' u b := fun b hb hfr => by
          rcases (hf b).1 hfr with hft | ⟨y, hy, hy1, hy2⟩
          · exact h1 b ⟨P[i], List.getElem_mem hlt, hb⟩ hft
          · obtain ⟨q, hq, rfl⟩ := List.mem_iff_getElem.1 hy
            rw [List.length_take] at hq
            rw [List.getElem_take] at hy1 hy2
            have := List.pairwise_iff_getElem.1 hpw q i (by omega) hlt (by omega)
            omega
        rcases give_any (e := P[i]) hg (by omega) (by omega) with ⟨a, _⟩ | ⟨_, ⟨b, hb, hfr⟩, _⟩ | ⟨_, _, u', hu, k1, _, k3⟩
        · exact absurd ⟨hm.1, hm.2.1, by omega, by omega⟩ a
        · exact absurd hfr (hdis b hb)
        · refine .inl ⟨n, (((i + 1 : Nat) : Int), (40, u')), rfl, ?_, i + 1, u', rfl, by omega, k1, fun b => ?_⟩
          · show gabionlaw14_AllocBack_l3 x11 x15 P z i (40, u) = _
            unfold gabionlaw14_AllocBack_l3
            rw [if_pos (by omega), rd_ok hx, Option.bind_some, hu, Option.bind_some, if_neg (by simp), w64 (by omega) (by omega)]; rfl
          · rw [k3, hf, e1, Fr_app, Fr_cons, or_assoc]
            have : Fr' [] b ↔ False := ⟨fun h => Fr_nil h, fun h => h.elim⟩
            rw [this, or_false]) (n := P.length) (d := P.length + 1) (s := (0, (40, t))) ⟨0, t, rfl, by omega, ht, fun b => ⟨.inl, fun h => by
              rcases h with h | h
              · exact h
              · exact absurd h Fr_nil⟩⟩ (by omega)
  exact ⟨t', he, g1, g2⟩

theorem AllocBack_pure (a0 : List Int) (w0 : ∀ x ∈ a0, (Lit.int .u8 x).wf = true) (z0 : a0.length ≤ 9223372036854775807) (a1 : Int) (w1 : (Lit.int .u8 a1).wf = true) : gabionlaw14_AllocBack a0 a1 = some true := by
  have ha1 : 0 ≤ a1 ∧ a1 ≤ 255 := by
    have h : (decide (IntKind.min .u8 ≤ a1) && decide (a1 ≤ IntKind.max .u8)) = true := w1
    rw [Bool.and_eq_true, decide_eq_true_iff, decide_eq_true_iff] at h
    exact h
  have hmod : 0 ≤ Int.tmod a1 40 ∧ Int.tmod a1 40 < 40 := ⟨Int.tmod_nonneg _ ha1.1, Int.tmod_lt_of_pos _ (by omega)⟩
  have hk : wi64 (1 + wi64 (Int.tmod a1 40)) = 1 + Int.tmod a1 40 := by
    rw [w64 (n := Int.tmod a1 40) (by omega) (by omega)]; exact w64 (by omega) (by omega)
  unfold gabionlaw14_AllocBack
  rw [alloc_New_eq, Option.bind_some, alloc_wakes, Option.bind_some, if_pos rfl]
  have hn : (if (40 : Int) < 0 ∨ (65536 : Int) < 40 then (((0 : Int), ([] : List Ex)), (2 : Int)) else if (0 : Int) < 40 then ((40, [(0, 40)]), 0) else ((40, []), 0)) = ((40, [(0, 40)]), 0) := by simp
  rw [hn]
  unfold gabionlaw14_AllocBack_j2
  rw [if_neg (by simp)]
  have hmn : mn (a0.length : Int) 30 = ((min a0.length 30 : Nat) : Int) := by unfold mn; split <;> omega
  rw [hmn, show (0 : Int) = ((0 : Nat) : Int) from rfl, cutL_nat (by omega) (by omega), Option.bind_some, List.drop_zero]
  have hx : (a0.take (min a0.length 30)).length ≤ 1000 := by rw [List.length_take]; omega
  generalize a0.take (min a0.length 30) = used at hx
  rw [hk]
  generalize hkk : 1 + Int.tmod a1 40 = k
  obtain ⟨l, hl, hg⟩ := back_loop a1 used hx (l := [(0, 40)]) ⟨by simp, by simp, by simp, trivial⟩
  have hl' : iter (fun (s : Int × (Int × List Ex)) => gabionlaw14_AllocBack_l0 a1 used s.1 s.2) (used.length + 1) (((0 : Nat) : Int), (40, [(((0 : Nat) : Int), 40)])) = some (40, l) := hl
  rw [hl', Option.bind_some]
  have hlen := hg.len (by omega)
  have htot := hg.tot (by omega)
  by_cases ht : tot l < k
  · rw [take_space hg (by omega) (by omega) (by omega) ht, Option.bind_some, if_pos (by simp), if_pos (by simp), free_eq hg (by omega) (by omega), Option.bind_some, if_pos ht]
    rfl
  · obtain ⟨t, P, he, gt, gP, tP, tt, ft, fP⟩ := take_facts (k := k) hg (by omega) (by omega) (by omega) ht
    have htt := gt.tot (by omega)
    rw [he, Option.bind_some, if_neg (by simp), free_eq gt (by omega) (by omega), Option.bind_some, free_eq hg (by omega) (by omega), Option.bind_some, w64 (n := tot l - k) (by omega) (by omega), if_neg (fun hx => hx tt)]
    have hsum := back_sum (x11 := k) hg gt gP (fun b hb => ⟨fP b hb, fun hx => ((ft b).1 hx).2 hb⟩)
    have hsum' : iter (fun (s : Int × Int) => gabionlaw14_AllocBack_l1 k P P (40, l) (40, t) s.1 s.2) (P.length + 1) (((0 : Nat) : Int), ((0 : Nat) : Int)) = some (.inr (tot P)) := hsum
    simp only
    rw [hsum', Option.bind_some]
    obtain ⟨t', hgv, gt', ft'⟩ := back_give (x11 := k) (x15 := tot P) (z := (40, l)) (l := l) gP gt (fun b hb hx => ((ft b).1 hx).2 hb)
    show ((iter (fun (s : Int × (Int × List Ex)) => gabionlaw14_AllocBack_l3 k (tot P) P (40, l) s.1 s.2) (P.length + 1) (0, (40, t))).bind _) = _
    rw [hgv, Option.bind_some]
    have hu : t' = l := Gd.uniq gt' hg fun b => by
      rw [ft' b, ft b]
      constructor
      · rintro (hx | hx)
        · exact hx.1
        · exact fP b hx
      · intro hx
        by_cases hp : Fr' P b
        · exact .inr hp
        · exact .inl ⟨hx, hp⟩
    subst hu
    show ((alloc_Set_List (40, t')).bind _) = _
    rw [list_eq (by omega), Option.bind_some, Option.bind_some, if_neg (fun hx => hx tP)]
    unfold gabionlaw14_AllocBack_j40
    rw [if_neg (by simp), back_same t' (by omega)]; rfl
end Gab
