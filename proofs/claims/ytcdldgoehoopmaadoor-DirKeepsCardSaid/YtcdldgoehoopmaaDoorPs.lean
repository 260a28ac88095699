/- Entries by rising names. -/
import Derived.Test.YtcdldgoehoopmaaDoorPu
import Derived.Sort.Walk0
set_option linter.unusedVariables false
set_option linter.unusedSimpArgs false
namespace Gab
open Go Go.Proofs Go.Sort
/-! ### The order -/
theorem leB (a b : List UInt8) : (!Op.bytesLess b a) = decide (a ≤ b) := by
  rw [bytesLess_eq]
  by_cases h : b < a
  · have h' : ¬ a ≤ b := fun h2 => List.not_lt.2 h2 h
    simp [h, h']
  · have h' : a ≤ b := List.not_lt.1 h
    simp [h, h']
theorem sortE_eq (l : List (List UInt8 × Int)) : sortE l = l.mergeSort fun a b => decide (a.1 ≤ b.1) := by
  unfold sortE
  congr 1
  funext a b
  exact leB _ _
theorem sortE_sorted (l : List (List UInt8 × Int)) : (sortE l).Pairwise fun a b => a.1 ≤ b.1 := by
  rw [sortE_eq]
  have := List.pairwise_mergeSort (le := fun (a b : List UInt8 × Int) => decide (a.1 ≤ b.1)) (fun a b c h1 h2 => decide_eq_true (List.le_trans (of_decide_eq_true h1) (of_decide_eq_true h2))) (fun a b => by
    rcases List.le_total a.1 b.1 with h | h
    · simp [h]
    · simp [h]) l
  exact this.imp fun h => of_decide_eq_true h
theorem sortE_perm0 (l : List (List UInt8 × Int)) : (sortE l).Perm l := List.mergeSort_perm _ _
theorem key_inj {l : List (List UInt8 × Int)} (hn : (l.map (·.1)).Nodup) {a b : List UInt8 × Int} (ha : a ∈ l) (hb : b ∈ l) (h : a.1 = b.1) : a = b := by
  induction l with
  | nil => cases ha
  | cons x l ih =>
    rw [List.map_cons, List.nodup_cons] at hn
    rcases List.mem_cons.1 ha with e1 | ha' <;> rcases List.mem_cons.1 hb with e2 | hb'
    · rw [e1, e2]
    · exact absurd (List.mem_map.2 ⟨b, hb', by rw [← h, e1]⟩) hn.1
    · exact absurd (List.mem_map.2 ⟨a, ha', by rw [h, e2]⟩) hn.1
    · exact ih hn.2 ha' hb'
theorem sortE_unique {l r : List (List UInt8 × Int)} (h : r.Perm l) (hn : (l.map (·.1)).Nodup) (hs : r.Pairwise fun a b => a.1 ≤ b.1) : r = sortE l :=
  List.Perm.eq_of_pairwise (le := fun a b => a.1 ≤ b.1) (fun a b ha hb h1 h2 => key_inj hn (h.subset ha) ((sortE_perm0 l).subset hb) (List.le_antisymm h1 h2)) hs (sortE_sorted l) (h.trans (sortE_perm0 l).symm)
theorem sortE_perm {l l' : List (List UInt8 × Int)} (h : l.Perm l') (hn : (l.map (·.1)).Nodup) : sortE l = sortE l' :=
  sortE_unique ((sortE_perm0 l).trans h) ((h.map _).nodup_iff.1 hn) (sortE_sorted l)
end Gab
