/- Laws of the printed functions' words: loops, reading, wrapping. -/
import Derived.Test.YtcdldgoehoopmaaDoorPu
set_option linter.unusedVariables false
set_option linter.unusedSimpArgs false
namespace Gab
open Go

theorem w64 {n : Int} (h1 : -9223372036854775808 ≤ n) (h2 : n ≤ 9223372036854775807) : wi64 n = n := wrap64 h1 h2
theorem iter_inl {σ ε : Type} {step : σ → Option (σ ⊕ ε)} {d : Nat} {s s' : σ} (h : step s = some (.inl s')) : iter step (d + 1) s = iter step d s' := by simp only [iter, h, Option.bind_some]
theorem iter_inr {σ ε : Type} {step : σ → Option (σ ⊕ ε)} {d : Nat} {s : σ} {e : ε} (h : step s = some (.inr e)) : iter step (d + 1) s = some e := by simp only [iter, h, Option.bind_some]
/-- A loop by an invariant: n rounds are left at most. -/
theorem iter_of {σ ε : Type} {step : σ → Option (σ ⊕ ε)} (I : Nat → σ → Prop) (Q : ε → Prop) (h : ∀ n s, I n s → (∃ n' s', n = n' + 1 ∧ step s = some (.inl s') ∧ I n' s') ∨ ∃ e, step s = some (.inr e) ∧ Q e) :
    ∀ {n d : Nat} {s : σ}, I n s → n < d → ∃ e, iter step d s = some e ∧ Q e
  | n, 0, s, _, hd => by omega
  | n, d + 1, s, hi, hd => by
    rcases h n s hi with ⟨n', s', rfl, hs, hi'⟩ | ⟨e, hs, he⟩
    · obtain ⟨e, h1, h2⟩ := iter_of I Q h hi' (d := d) (by omega)
      exact ⟨e, by rw [iter_inl hs]; exact h1, h2⟩
    · exact ⟨e, iter_inr hs, he⟩
theorem rd_nat {α : Type} {l : List α} {i : Nat} : rd l (i : Int) = l[i]? := by simp [rd]
theorem rd_ok {α : Type} {l : List α} {i : Nat} {x : α} (h : l[i]? = some x) : rd l (i : Int) = some x := by rw [rd_nat]; exact h
theorem rd_zero {α : Type} {l : List α} : rd l 0 = l[0]? := by simp [rd]
theorem appL_ok {α : Type} {n : Nat} {l m : List α} (h : l.length + m.length ≤ n) : appL n l m = some (l ++ m) := if_pos h
theorem cutL_ok {α : Type} {l : List α} {a b : Int} (h1 : 0 ≤ a) (h2 : a ≤ b) (h3 : b ≤ l.length) : cutL l a b = some ((l.take b.toNat).drop a.toNat) := if_pos ⟨h1, h2, h3⟩
theorem cutL_nat {α : Type} {l : List α} {a b : Nat} (h2 : a ≤ b) (h3 : b ≤ l.length) : cutL l (a : Int) (b : Int) = some ((l.take b).drop a) := by rw [cutL_ok (by omega) (by omega) (by omega)]; simp
theorem catS_ok {x y : List UInt8} (h : x.length + y.length ≤ 9223372036854775807) : catS x y = some (x ++ y) := if_pos h
/-- A loop over a list, an index counted up: the list's fold. -/
theorem iter_fold {α σ ε : Type} {step : σ → Option (σ ⊕ ε)} {l : List α} (S : Nat → List α → σ) (e : ε) (h : ∀ (i : Nat) (x : α), l[i]? = some x → step (S i (l.take i)) = some (.inl (S (i + 1) (l.take (i + 1))))) (he : step (S l.length l) = some (.inr e)) :
    ∀ {d : Nat}, l.length < d → iter step d (S 0 []) = some e := by
  have key : ∀ (k i d : Nat), i + k = l.length → k < d → iter step d (S i (l.take i)) = some e := by
    intro k
    induction k with
    | zero =>
      intro i d hi hd
      obtain ⟨d, rfl⟩ : ∃ m, d = m + 1 := ⟨d - 1, by omega⟩
      have : i = l.length := by omega
      subst this
      rw [List.take_length]; exact iter_inr he
    | succ k ih =>
      intro i d hi hd
      obtain ⟨d, rfl⟩ : ∃ m, d = m + 1 := ⟨d - 1, by omega⟩
      rw [iter_inl (h i (l[i]'(by omega)) (List.getElem?_eq_getElem (by omega)))]
      exact ih (i + 1) d (by omega) (by omega)
  intro d hd
  simpa using key l.length 0 d (by omega) hd
end Gab
