/- ExtParts: run by run, or block by block, it is the same list. -/
import Derived.Test.YtdkldojcpncnhaaPe5
set_option linter.unusedVariables false
set_option linter.unusedSimpArgs false
namespace Gab
open Go

theorem Rt.pre {p r : List Rn} (h : Rt (p ++ r)) : Rt p := by
  have h1 := h.sum; have h2 := h.len
  have h3 := sumL_nn (l := r) (fun e he => by have := h.bd e (by simp [he]); omega)
  rw [sumL_app] at h1; rw [List.length_append] at h2
  exact ⟨(nj_app.1 h.nj).1, fun e he => h.bd e (by simp [he]), by omega, by omega⟩
theorem rt_one {e : Rn} (h : 1 ≤ e.2 ∧ e.2 ≤ 65536 ∧ -1 ≤ e.1 ∧ e.1 ≤ 65536) : Rt [e] := ⟨rfl, fun x hx => by rw [List.mem_singleton] at hx; subst hx; exact h, by simp, by simp only [sumL]; omega⟩
theorem Rt.cut {p : List Rn} {e : Rn} {k : Int} (h : Rt (p ++ [e])) (h1 : 1 ≤ k) (h2 : k ≤ e.2) : Rt (p ++ [(e.1, k)]) := by
  have hb := h.bd e (by simp)
  have hs := h.sum; have hl := h.len
  simp only [sumL_app, sumL, List.length_append, List.length_cons, List.length_nil] at hs hl
  refine ⟨?_, fun x hx => ?_, by simp only [List.length_append, List.length_cons, List.length_nil]; omega, by simp only [sumL_app, sumL]; omega⟩
  · have := h.nj
    rw [nj_snoc] at this ⊢
    exact this
  · rcases List.mem_append.1 hx with hx | hx
    · exact h.bd x (by simp [hx])
    · rw [List.mem_singleton] at hx; subst hx; simp only; omega
theorem app_ok {p : List Rn} {e : Rn} {q : List Rn} (hp : Rt p) (he : Rt [e]) (hq : Rt q) (h : push p e = q) : ext_List_Append p e = some (q, 0) := by
  have ht : tog (p ++ [e]) = q := by unfold tog; rw [List.foldl_append]; show push (tog p) e = q; rw [tog_nj hp.nj, h]
  rw [app_eq (by have := hp.len; omega), if_pos (rightB_iff.2 hp), if_pos (rightB_iff.2 he), ht, if_pos (rightB_iff.2 hq)]
theorem push_new {p : List Rn} {e f : Rn} (h : nj none (p ++ [e]) = true) (hf : f.1 = e.1) : push p f = p ++ [f] := by
  by_cases hne : p = []
  · subst hne; rfl
  · obtain ⟨p, q, rfl⟩ := snoc hne
    rw [nj_snoc, getLast_snoc] at h
    rw [push_snoc, if_neg]
    have h2 : (!jn q e) = true := h.2
    rw [Bool.not_eq_true'] at h2
    have : jn q f = jn q e := by unfold jn; rw [hf]
    rw [this, h2]; simp
theorem push_more {p : List Rn} {a k : Int} (ha : -1 ≤ a) (ha2 : a ≤ 65536) (hk : 1 ≤ k) (hk2 : k ≤ 65536) : push (p ++ [(a, k)]) (if a = -1 then -1 else a + k, 1) = p ++ [(a, k + 1)] := by
  rw [push_snoc, if_pos]
  unfold jn
  by_cases h : a = -1
  · rw [if_pos (.inl h), if_pos h]; simp [h]
  · rw [if_neg h, if_neg (by simp only; omega), w64 (by omega) (by omega)]; simp
theorem ExtParts_pure (a0 : List Rn) (w0 : ∀ x ∈ a0, (Lit.int IntKind.i64 x.1).wf = true ∧ (Lit.int IntKind.i64 x.2).wf = true) (z0 : a0.length ≤ 9223372036854775807) : gabionlaw15_ExtParts a0 = some true := by
  unfold gabionlaw15_ExtParts
  rw [tame_eq a0 z0, Option.bind_some]
  obtain ⟨hr, hsm, hc, _⟩ := tame_rt (a0.take 20) (by rw [List.length_take]; omega)
  generalize tog ((a0.take 20).map tm) = m at hr hc hsm
  have hml := hr.len
  have key : iter (fun (s : (List Rn) × (List Rn) × Int) => gabionlaw15_ExtParts_l0 m m s.1 s.2.1 s.2.2) (m.length + 1) ([], [], 0) = some (.inr (m, m)) := by
    refine iter_fold (l := m) (S := fun i t => (t, t, (i : Int))) _ (fun i x hx => ?_) ?_ (Nat.lt_succ_self _)
    · have hi : i < m.length := (List.getElem?_eq_some_iff.1 hx).1
      have hb := hr.bd x (List.mem_of_getElem? hx)
      have hsx := mem_sum hr.nn x (List.mem_of_getElem? hx)
      have hc1 := hc x (List.mem_of_getElem? hx)
      have hq : Rt (m.take i ++ [x]) := by
        rw [← take_next hx]
        exact Rt.pre (r := m.drop (i + 1)) (by rw [List.take_append_drop]; exact hr)
      have hp : Rt (m.take i) := hq.pre
      rw [take_next hx]
      show gabionlaw15_ExtParts_l0 m m (m.take i) (m.take i) i = _
      generalize m.take i = p at hq hp
      unfold gabionlaw15_ExtParts_l0
      rw [if_pos (by omega), rd_ok hx, Option.bind_some, app_ok hp (rt_one hb) hq (push_new hq.nj rfl), Option.bind_some, if_neg (by simp)]
      have k1 : iter (fun (s : (List Rn) × Int × Int) => gabionlaw15_ExtParts_l1 m (p ++ [x]) m x.2 x s.1 s.2.1 s.2.2) (x.2.toNat + 1) (p, (i : Int), 0) = some (.inr (p ++ [x], (i : Int))) := by
        have := iter_fold (step := fun (s : (List Rn) × Int × Int) => gabionlaw15_ExtParts_l1 m (p ++ [x]) m x.2 x s.1 s.2.1 s.2.2) (l := List.range x.2.toNat) (S := fun k _ => (if k = 0 then p else p ++ [(x.1, (k : Int))], (i : Int), (k : Int))) (.inr (p ++ [x], (i : Int))) (fun k y hy => by
          have hk : k < x.2.toNat := by have := (List.getElem?_eq_some_iff.1 hy).1; rw [List.length_range] at this; exact this
          have hu : Rt [((if x.1 = -1 then -1 else x.1 + (k : Int)), (1 : Int))] := by
            by_cases hh : x.1 = -1
            · rw [if_pos hh]; exact rt_one (by simp only; omega)
            · rw [if_neg hh]; exact rt_one (by simp only; omega)
          have hn : Rt (p ++ [(x.1, (k : Int) + 1)]) := hq.cut (by omega) (by omega)
          have hA : ext_List_Append (if k = 0 then p else p ++ [(x.1, (k : Int))]) ((if x.1 = -1 then -1 else x.1 + (k : Int)), 1) = some (p ++ [(x.1, (k : Int) + 1)], 0) := by
            by_cases hk0 : k = 0
            · subst hk0
              rw [if_pos rfl]
              refine app_ok hp hu hn ?_
              have : (((if x.1 = -1 then -1 else x.1 + ((0 : Nat) : Int)), 1) : Rn) = (x.1, 1) := by
                by_cases hh : x.1 = -1
                · rw [if_pos hh, hh]
                · rw [if_neg hh]; simp
              rw [this]
              exact push_new hq.nj rfl
            · rw [if_neg hk0]
              exact app_ok (hq.cut (by omega) (by omega)) hu hn (push_more (by omega) (by omega) (by omega) (by omega))
          show gabionlaw15_ExtParts_l1 m (p ++ [x]) m x.2 x (if k = 0 then p else p ++ [(x.1, (k : Int))]) i k = some (.inl (if k + 1 = 0 then p else p ++ [(x.1, ((k + 1 : Nat) : Int))], (i : Int), ((k + 1 : Nat) : Int)))
          unfold gabionlaw15_ExtParts_l1 gabionlaw15_ExtParts_j17
          rw [if_pos (by omega), w64 (n := (k : Int) + 1) (by omega) (by omega)]
          have e1 : (if k + 1 = 0 then p else p ++ [(x.1, ((k + 1 : Nat) : Int))]) = p ++ [(x.1, (k : Int) + 1)] := by rw [if_neg (by omega)]; rfl
          rw [e1]
          by_cases hh : x.1 = -1
          · rw [if_pos hh] at hA
            rw [if_pos hh, hA, Option.bind_some, if_neg (by simp)]; rfl
          · rw [if_neg hh] at hA
            rw [if_neg hh, w64 (by omega) (by omega), hA, Option.bind_some, if_neg (by simp)]; rfl) (by
          show gabionlaw15_ExtParts_l1 m (p ++ [x]) m x.2 x _ i ((List.range x.2.toNat).length : Nat) = _
          unfold gabionlaw15_ExtParts_l1
          rw [List.length_range, if_neg (by omega), if_neg (by omega), show ((x.2.toNat : Nat) : Int) = x.2 by omega]) (d := x.2.toNat + 1) (by rw [List.length_range]; omega)
        exact this
      rw [k1]
      show some (Sum.inl (p ++ [x], p ++ [x], wi64 ((i : Int) + 1))) = _
      rw [w64 (by omega) (by omega)]; rfl
    · show gabionlaw15_ExtParts_l0 m m m m m.length = _
      unfold gabionlaw15_ExtParts_l0
      rw [if_neg (by omega)]
  rw [key, Option.bind_some]
  show ((ext_List_Text m).bind _) = _
  rw [text_eq (by omega), if_pos (rightB_iff.2 hr), Option.bind_some, parse_eq (by rw [textL_len]; omega), parse_text (fun e he => by have := hr.bd e he; omega), if_pos ⟨by rw [textL_len]; omega, rightB_iff.2 hr⟩, Option.bind_some, ext_wakes, Option.bind_some, if_pos rfl]
  simp only [same_ext (show m.length ≤ 1000000 by omega), Option.bind_some, if_true]
end Gab
