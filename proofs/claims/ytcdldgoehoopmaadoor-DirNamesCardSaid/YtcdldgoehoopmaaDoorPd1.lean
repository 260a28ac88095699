/- Directories, plain: wakes of the empty heap. -/
import Derived.Test.YtcdldgoehoopmaaDoorFd
import Derived.Test.YtcdldgoehoopmaaDoorPl
set_option linter.unusedVariables false
set_option maxRecDepth 100000
namespace Gab
open Go
theorem wakes_map : (gabionlaw17_wakes ⟨[], []⟩).map (·.2) = some true := by decide +kernel
theorem wakes0 : ∃ H, gabionlaw17_wakes ⟨[], []⟩ = some (H, true) := by
  have h := wakes_map
  cases hw : gabionlaw17_wakes ⟨[], []⟩ with
  | none => rw [hw] at h; cases h
  | some p =>
    rw [hw] at h
    obtain ⟨H, b⟩ := p
    simp at h
    exact ⟨H, by rw [h]⟩
end Gab
