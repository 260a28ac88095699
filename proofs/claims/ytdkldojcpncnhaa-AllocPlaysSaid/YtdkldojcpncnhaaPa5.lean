/- Sets behind Give and Take. -/
import Derived.Test.YtdkldojcpncnhaaPa4
set_option linter.unusedVariables false
set_option linter.unusedSimpArgs false
namespace Gab
open Go

theorem Fr_cons {e : Ex} {l : List Ex} {b : Int} : Fr' (e :: l) b ↔ (e.1 ≤ b ∧ b < e.1 + e.2) ∨ Fr' l b := by
  unfold Fr'
  constructor
  · rintro ⟨x, hx, hx1⟩
    rcases List.mem_cons.1 hx with rfl | hx
    · exact .inl hx1
    · exact .inr ⟨x, hx, hx1⟩
  · rintro (h | ⟨x, hx, hx1⟩)
    · exact ⟨e, by simp, h⟩
    · exact ⟨x, by simp [hx], hx1⟩
theorem Fr_app {l m : List Ex} {b : Int} : Fr' (l ++ m) b ↔ Fr' l b ∨ Fr' m b := by
  unfold Fr'
  constructor
  · rintro ⟨x, hx, hx1⟩
    rcases List.mem_append.1 hx with hx | hx
    · exact .inl ⟨x, hx, hx1⟩
    · exact .inr ⟨x, hx, hx1⟩
  · rintro (⟨x, hx, hx1⟩ | ⟨x, hx, hx1⟩)
    · exact ⟨x, by simp [hx], hx1⟩
    · exact ⟨x, by simp [hx], hx1⟩
theorem Fr_nil {b : Int} : ¬ Fr' [] b := fun ⟨x, hx, _⟩ => by simp at hx
theorem jB_good {hi : Int} {e : Ex} {B : List Ex} {lo : Int} (h : Gd hi lo B) (he : lo ≤ e.1 ∧ 1 ≤ e.2 ∧ e.1 + e.2 ≤ hi) (hB : ∀ q ∈ B, e.1 + e.2 ≤ q.1) :
    Gd hi lo ((jB e B).1 :: (jB e B).2) ∧ (jB e B).1.1 = e.1 ∧ tot ((jB e B).1 :: (jB e B).2) = e.2 + tot B ∧ ∀ b, Fr' ((jB e B).1 :: (jB e B).2) b ↔ (e.1 ≤ b ∧ b < e.1 + e.2) ∨ Fr' B b := by
  cases B with
  | nil => exact ⟨⟨he.1, he.2.1, he.2.2, trivial⟩, rfl, rfl, fun b => Fr_cons⟩
  | cons q B =>
    have hq := hB q (by simp)
    obtain ⟨h1, h2, h3, h4⟩ := id h
    have hj : jB e (q :: B) = if q.1 = e.1 + e.2 then ((e.1, e.2 + q.2), B) else (e, q :: B) := rfl
    rw [hj]
    by_cases hc : q.1 = e.1 + e.2
    · rw [if_pos hc]
      refine ⟨⟨he.1, by simp only; omega, by simp only; omega, h4.mono (by simp only; omega)⟩, rfl, by simp only [tot]; omega, fun b => ?_⟩
      simp only
      rw [Fr_cons, Fr_cons]
      simp only
      constructor
      · rintro (h | h)
        · by_cases hb : b < e.1 + e.2
          · exact .inl ⟨h.1, hb⟩
          · exact .inr (.inl ⟨by omega, by omega⟩)
        · exact .inr (.inr h)
      · rintro (h | h | h)
        · exact .inl ⟨h.1, by omega⟩
        · exact .inl ⟨by omega, by omega⟩
        · exact .inr h
    · rw [if_neg hc]
      exact ⟨⟨he.1, he.2.1, he.2.2, by simp only; omega, h2, h3, h4⟩, rfl, rfl, fun b => Fr_cons⟩
theorem give_good {hi : Int} : ∀ {A B : List Ex} {e : Ex} {lo : Int}, Gd hi lo (A ++ B) → lo ≤ e.1 ∧ 1 ≤ e.2 ∧ e.1 + e.2 ≤ hi → (∀ x ∈ A, x.1 + x.2 ≤ e.1) → (∀ q ∈ B, e.1 + e.2 ≤ q.1) →
    Gd hi lo (mrg A e B) ∧ tot (mrg A e B) = tot (A ++ B) + e.2 ∧ ∀ b, Fr' (mrg A e B) b ↔ Fr' (A ++ B) b ∨ (e.1 ≤ b ∧ b < e.1 + e.2)
  | [], B, e, lo, h, he, hA, hB => by
    obtain ⟨h1, _, h2, h3⟩ := jB_good (e := e) (B := B) (lo := lo) h he hB
    refine ⟨h1, ?_, fun b => ?_⟩
    · show tot ((jB e B).1 :: (jB e B).2) = tot B + e.2
      rw [h2]; omega
    · show Fr' ((jB e B).1 :: (jB e B).2) b ↔ Fr' B b ∨ _
      rw [h3, or_comm]
  | [p], B, e, lo, h, he, hA, hB => by
    have hp := hA p (by simp)
    obtain ⟨h1, h2, h3, h4⟩ := id h
    have h4 : Gd hi (p.1 + p.2 + 1) B := h4
    have hja : jA [p] e = if p.1 + p.2 = e.1 then ([], (p.1, p.2 + e.2)) else ([p], e) := rfl
    unfold mrg
    rw [hja]
    by_cases hc : p.1 + p.2 = e.1
    · rw [if_pos hc]
      obtain ⟨g1, _, g2, g3⟩ := jB_good (e := (p.1, p.2 + e.2)) (B := B) (lo := lo) (h4.mono (by omega)) ⟨h1, by simp only; omega, by simp only; omega⟩ (fun q hq => by have := hB q hq; simp only; omega)
      refine ⟨g1, ?_, fun b => ?_⟩
      · simp only [List.nil_append]
        rw [g2]; simp only [List.cons_append, List.nil_append, tot]; omega
      · simp only [List.nil_append]
        rw [g3]
        simp only [List.cons_append, List.nil_append]
        rw [Fr_cons]
        constructor
        · rintro (hx | hx)
          · by_cases hb : b < p.1 + p.2
            · exact .inl (.inl ⟨hx.1, hb⟩)
            · exact .inr ⟨by omega, by omega⟩
          · exact .inl (.inr hx)
        · rintro ((hx | hx) | hx)
          · exact .inl ⟨hx.1, by omega⟩
          · exact .inr hx
          · exact .inl ⟨by omega, by omega⟩
    · rw [if_neg hc]
      obtain ⟨g1, g0, g2, g3⟩ := jB_good (e := e) (B := B) (lo := p.1 + p.2 + 1) h4 ⟨by omega, he.2⟩ hB
      refine ⟨⟨h1, h2, h3, g1⟩, ?_, fun b => ?_⟩
      · simp only [List.cons_append, List.nil_append, tot] at g2 ⊢
        omega
      · simp only [List.cons_append, List.nil_append]
        rw [Fr_cons, g3, Fr_cons]
        constructor
        · rintro (hx | hx | hx)
          · exact .inl (.inl hx)
          · exact .inr hx
          · exact .inl (.inr hx)
        · rintro ((hx | hx) | hx)
          · exact .inl hx
          · exact .inr (.inr hx)
          · exact .inr (.inl hx)
  | p :: a :: A, B, e, lo, h, he, hA, hB => by
    have hp := hA p (by simp)
    obtain ⟨h1, h2, h3, h4⟩ := id h
    have ha := hA a (by simp)
    have haa : p.1 + p.2 + 1 ≤ a.1 ∧ 1 ≤ a.2 := ⟨h4.1, h4.2.1⟩
    have ih := give_good (A := a :: A) (B := B) (e := e) (lo := p.1 + p.2 + 1) h4 ⟨by omega, he.2⟩ (fun x hx => hA x (by simp at hx ⊢; exact .inr hx)) hB
    have hm : mrg (p :: a :: A) e B = p :: mrg (a :: A) e B := by
      unfold mrg jA
      simp only [List.getLast?_cons_cons]
      cases hl : (a :: A).getLast? with
      | none => simp at hl
      | some q =>
        simp only
        split <;> simp [List.dropLast]
    rw [hm]
    refine ⟨⟨h1, h2, h3, ih.1⟩, ?_, fun b => ?_⟩
    · have := ih.2.1
      simp only [tot, List.cons_append] at this ⊢
      omega
    · rw [Fr_cons, ih.2.2 b]
      simp only [List.cons_append]
      rw [Fr_cons (e := p), or_assoc]

/-- Give, told by blocks. -/
theorem give_any {n : Int} {l : List Ex} {e : Ex} (h : Gd n 0 l) (h0 : 0 ≤ n) (hn : n ≤ 65536) :
    (¬ MayB n e ∧ alloc_Set_Give (n, l) e = some ((0, []), 2)) ∨
    (MayB n e ∧ (∃ b, (e.1 ≤ b ∧ b < e.1 + e.2) ∧ Fr' l b) ∧ alloc_Set_Give (n, l) e = some ((0, []), 8)) ∨
    (MayB n e ∧ (∀ b, (e.1 ≤ b ∧ b < e.1 + e.2) → ¬ Fr' l b) ∧ ∃ l', alloc_Set_Give (n, l) e = some ((n, l'), 0) ∧ Gd n 0 l' ∧ tot l' = tot l + e.2 ∧ ∀ b, Fr' l' b ↔ Fr' l b ∨ (e.1 ≤ b ∧ b < e.1 + e.2)) := by
  by_cases hm : MayB n e
  · obtain ⟨A, B, rfl, hA, hB, hg⟩ := give_split h h0 hn hm
    obtain ⟨e0, e1, e2, e3⟩ := id hm
    have hmem := h.mem
    by_cases hc : (∃ p ∈ A, e.1 < p.1 + p.2) ∨ ∃ q ∈ B, q.1 < e.1 + e.2
    · rw [if_pos hc] at hg
      refine .inr (.inl ⟨hm, ?_, hg⟩)
      rcases hc with ⟨p, hp, hp1⟩ | ⟨q, hq, hq1⟩
      · exact ⟨e.1, ⟨by omega, by omega⟩, p, by simp [hp], by have := hA p hp; omega, hp1⟩
      · exact ⟨q.1, ⟨hB q hq, hq1⟩, q, by simp [hq], by omega, by have := (hmem q (by simp [hq])).2.1; omega⟩
    · rw [if_neg hc] at hg
      rw [not_or] at hc
      have hA' : ∀ x ∈ A, x.1 + x.2 ≤ e.1 := fun x hx => by
        rcases Int.lt_or_le e.1 (x.1 + x.2) with hl | hl
        · exact absurd ⟨x, hx, hl⟩ hc.1
        · exact hl
      have hB' : ∀ x ∈ B, e.1 + e.2 ≤ x.1 := fun x hx => by
        rcases Int.lt_or_le x.1 (e.1 + e.2) with hl | hl
        · exact absurd ⟨x, hx, hl⟩ hc.2
        · exact hl
      obtain ⟨g1, g2, g3⟩ := give_good h ⟨e0, e1, by omega⟩ hA' hB'
      refine .inr (.inr ⟨hm, fun b hb ⟨x, hx, hx1, hx2⟩ => ?_, _, hg, g1, g2, g3⟩)
      rcases List.mem_append.1 hx with hx | hx
      · have := hA' x hx; omega
      · have := hB' x hx; omega
  · exact .inl ⟨hm, give_arg h0 hn hm⟩

theorem pcs_facts {hi : Int} : ∀ {l : List Ex} {lo k : Int}, Gd hi lo l → 0 ≤ k → k ≤ tot l → Gd hi lo (pcs l k) ∧ Gd hi lo (tkl l k) ∧ tot (pcs l k) = k ∧ tot (tkl l k) = tot l - k ∧ (∀ b, Fr' (tkl l k) b ↔ Fr' l b ∧ ¬ Fr' (pcs l k) b) ∧ ∀ b, Fr' (pcs l k) b → Fr' l b
  | [], lo, k, h, h0, hk => ⟨trivial, trivial, by simp only [tot, pcs] at *; omega, by simp only [tot, tkl] at *; omega, fun b => ⟨fun h => absurd h Fr_nil, fun h => absurd h.1 Fr_nil⟩, fun b h => absurd h Fr_nil⟩
  | e :: r, lo, k, h, h0, hk => by
    obtain ⟨h1, h2, h3, h4⟩ := id h
    unfold pcs tkl
    by_cases hz : k = 0
    · rw [if_pos hz, if_pos hz]
      exact ⟨trivial, h, by simp [tot]; omega, by omega, fun b => ⟨fun h => ⟨h, Fr_nil⟩, fun h => h.1⟩, fun b h => absurd h Fr_nil⟩
    · rw [if_neg hz, if_neg hz]
      have hm : mn k e.2 = if e.2 ≤ k then e.2 else k := by unfold mn; split <;> split <;> omega
      have hlow : ∀ {r' : List Ex} {b : Int}, Gd hi (e.1 + e.2 + 1) r' → Fr' r' b → e.1 + e.2 < b := fun {r' b} hg ⟨x, hx, hx1, _⟩ => by have := Gd.mem hg x hx; omega
      by_cases hc : e.2 ≤ k
      · rw [if_pos hc, hm, if_pos hc]
        simp only [tot] at hk
        obtain ⟨g1, g2, g3, g4, g5, g6⟩ := pcs_facts (k := k - e.2) h4 (by omega) (by omega)
        refine ⟨⟨h1, h2, h3, g1⟩, g2.mono (by omega), by simp only [tot]; omega, by simp only [tot]; omega, fun b => ?_, fun b hb => ?_⟩
        · rw [g5, Fr_cons, Fr_cons]
          constructor
          · rintro ⟨a1, a2⟩
            have := hlow h4 a1
            exact ⟨.inr a1, fun hx => by
              rcases hx with hx | hx
              · simp only at hx; omega
              · exact a2 hx⟩
          · rintro ⟨a1, a2⟩
            rcases a1 with a1 | a1
            · exact absurd (.inl a1) a2
            · exact ⟨a1, fun hx => a2 (.inr hx)⟩
        · rw [Fr_cons] at hb ⊢
          rcases hb with hb | hb
          · exact .inl hb
          · exact .inr (g6 b hb)
      · rw [if_neg hc, hm, if_neg hc]
        have hz0 : pcs r (k - k) = [] := by rw [show k - k = 0 by omega]; cases r <;> simp [pcs]
        rw [hz0]
        refine ⟨⟨h1, by simp only; omega, by simp only; omega, trivial⟩, ⟨by simp only; omega, by simp only; omega, by simp only; omega, h4.mono (by simp only; omega)⟩, by simp only [tot]; omega, by simp only [tot]; omega, fun b => ?_, fun b hb => ?_⟩
        · rw [Fr_cons, Fr_cons, Fr_cons]
          simp only
          constructor
          · rintro (hx | hx)
            · exact ⟨.inl ⟨by omega, by omega⟩, fun hy => by
                rcases hy with hy | hy
                · omega
                · exact Fr_nil hy⟩
            · have := hlow h4 hx
              exact ⟨.inr hx, fun hy => by
                rcases hy with hy | hy
                · omega
                · exact Fr_nil hy⟩
          · rintro ⟨hx, hy⟩
            rcases hx with hx | hx
            · exact .inl ⟨by
                rcases Int.lt_or_le b (e.1 + k) with hl | hl
                · exact absurd (.inl ⟨hx.1, hl⟩) hy
                · exact hl, by omega⟩
            · exact .inr hx
        · rw [Fr_cons] at hb ⊢
          rcases hb with hb | hb
          · exact .inl ⟨hb.1, by simp only at hb; omega⟩
          · exact absurd hb Fr_nil

/-- Take, told by blocks. -/
theorem take_facts {n k : Int} {l : List Ex} (h : Gd n 0 l) (h0 : 0 ≤ n) (hn : n ≤ 65536) (hk : ¬ k < 1) (ht : ¬ tot l < k) : ∃ t P, alloc_Set_Take (n, l) k = some ((n, t), P, 0) ∧ Gd n 0 t ∧ Gd n 0 P ∧ tot P = k ∧ tot t = tot l - k ∧ (∀ b, Fr' t b ↔ Fr' l b ∧ ¬ Fr' P b) ∧ ∀ b, Fr' P b → Fr' l b := by
  rcases take_any (k := k) h h0 hn with ⟨a, _⟩ | ⟨_, a, _⟩ | ⟨_, _, A, f, C, rfl, hf, hA, he⟩ | ⟨_, _, hno, he⟩
  · exact absurd a hk
  · exact absurd a ht
  · have hfm := h.mem f (by simp)
    have hin : inB (f.1, k) f = true := by
      unfold inB
      rw [decide_eq_true (by simp only; omega), decide_eq_true (by simp only; omega)]; rfl
    obtain ⟨g1, g2⟩ := use_good h hin (by simp only; omega)
    refine ⟨_, _, he, g1, ⟨hfm.1, by simp only; omega, by simp only; omega, trivial⟩, by simp [tot], use_tot hin, fun b => ?_, fun b hb => ?_⟩
    · rw [g2, Fr_cons]
      simp only
      constructor
      · rintro ⟨a1, a2⟩
        exact ⟨a1, fun hx => by
          rcases hx with hx | hx
          · exact a2 hx
          · exact Fr_nil hx⟩
      · rintro ⟨a1, a2⟩
        exact ⟨a1, fun hx => a2 (.inl hx)⟩
    · rw [Fr_cons] at hb
      rcases hb with hb | hb
      · exact ⟨f, by simp, hb.1, by simp only at hb; omega⟩
      · exact absurd hb Fr_nil
  · obtain ⟨g1, g2, g3, g4, g5, g6⟩ := pcs_facts (k := k) h (by omega) (by omega)
    exact ⟨_, _, he, g2, g1, g3, g4, g5, g6⟩
end Gab
