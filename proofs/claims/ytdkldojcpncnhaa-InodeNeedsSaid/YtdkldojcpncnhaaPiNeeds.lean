/- InodeNeeds: as many blocks as a size needs. -/
import Derived.Test.YtdkldojcpncnhaaPi2
set_option linter.unusedVariables false
set_option linter.unusedSimpArgs false
namespace Gab
open Go
theorem InodeNeeds_pure (a0 : Int) (w0 : (Lit.int IntKind.u32 a0).wf = true) (a1 : Int) (w1 : (Lit.int IntKind.u16 a1).wf = true) : gabionlaw16_InodeNeeds a0 a1 = some true := by
  have h0 := bounds_u32 w0
  have h1 := bounds_u16 w1
  unfold gabionlaw16_InodeNeeds
  rw [Int.tmod_eq_emod_of_nonneg h0.1, w64 (n := a0 % 1073741824) (by omega) (by omega), need_eq (by omega), Option.bind_some, inode_wakes, Option.bind_some, if_pos rfl]
  have hn : 0 ≤ a0 % 1073741824 ∧ a0 % 1073741824 < 1073741824 := by omega
  generalize a0 % 1073741824 = n at hn
  have hk : needN n = (n + 63) / 64 := by unfold needN; split <;> omega
  rw [w64 (n := needN n * 64) (by omega) (by omega), if_pos (by omega), w64 (n := needN n - 1) (by omega) (by omega), w64 (n := (needN n - 1) * 64) (by omega) (by omega), if_pos (by omega), w64 (n := a1) (by omega) (by omega), w64 (n := n + a1) (by omega) (by omega), need_eq (by omega), Option.bind_some]
  have hk2 : needN (n + a1) = (n + a1 + 63) / 64 := by unfold needN; split <;> omega
  rw [if_pos (by omega), w64 (n := n + 64) (by omega) (by omega), need_eq (by omega), Option.bind_some, w64 (n := needN n + 1) (by omega) (by omega)]
  have hk3 : needN (n + 64) = (n + 64 + 63) / 64 := by unfold needN; split <;> omega
  rw [decide_eq_true (by omega)]
end Gab
