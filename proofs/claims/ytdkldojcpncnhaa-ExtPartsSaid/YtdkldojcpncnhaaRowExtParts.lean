/- The row of the law ExtParts: the Go code is true for every input. -/
import Derived.Test.YtdkldojcpncnhaaRows
import Derived.Test.YtdkldojcpncnhaaFpLExtParts0
import Derived.Test.YtdkldojcpncnhaaPeParts
import Derived.Test.YtdkldojcpncnhaaLs
import Derived.WalkKit
import Derived.ProofKit
import Derived.OpenShut
import Derived.ShutString
import Derived.ChangeOld
import Derived.Below
import Derived.SizedLaws
namespace Go.Proofs.Ytdkldojcpncnhaa.extParts
open Go Go.ChangeShapes Go.WideShapes Go.ChangeAt Go.RowKit
open Go.ChangeMaps (open_string shut_string)
set_option linter.unusedVariables false
theorem own : ownKnob Try.prog.godebug = none := by kernel_rfl
theorem laidOut : laidOutB Try.prog = true := by kernel_rfl
set_option maxRecDepth 100000 in
theorem lifted (os : Os) (started : os.Started) (H : Type) (enc : TypeId × Value → H) :
    ReturnsInHanded {} Try.checked os 10 .any (Rows.extPartsSpec.pre6 enc Try.prog Try.f10 Rows.extPartsRow.domain false) (Rows.extPartsSpec.post enc Try.prog Try.f10 false true false false) := by
  refine returnsInHanded_of_change_sized (C := Try.checked) own started (by kernel_rfl) Try.func10
    (ChangeSpec.witness6 (enc := enc) (C := Try.checked) false ⟨#[], #[.slice none 0 0], []⟩ 8 (by kernel_rfl) (by kernel_rfl) (by kernel_rfl) (by kernel_rfl)) ?_
  intro W base args ds gs before hval0 hW hcnd hsz0 _
  have hval : ∀ (j : Nat) t v, Try.f10.params[j]? = some t → args[j]? = some v → Value.okWide Try.prog W .any base t v := hval0
  have hW' := hW
  obtain ⟨p, q, hA0, hV, rfl, hfz, hnd⟩ := hW
  have hA : DataW.TrodAll enc Try.prog W 0 (fun _ => true) true Try.f10.params.toList args.toList ds p := hA0
  rw [Try.params10] at hA hval
  obtain ⟨v0, vs0, d0, ds0, p0, q0, hargs, rfl, rfl, h0, r0⟩ := trodAll_cons hA
  obtain ⟨rfl, rfl, rfl⟩ := trodAll_nil r0
  obtain rfl : args = #[v0] := by cases args; simp_all
  obtain ⟨rfl, rfl⟩ := trodVars_none hV
  obtain ⟨a0_, len0, cap0, rfl⟩ := okWide_slice Try.underlying40 (hval 0 40 v0 rfl rfl)
  have k0 := h0
  have lt0 : ∀ x ∈ p0, x.block < W.heap.size := by obtain ⟨m, hm⟩ := k0; exact DataW.trod_lt m _ _ _ hm
  obtain ⟨fu0, hf0⟩ := h0
  obtain ⟨vv0, a0, nl0, loc0, cells0, hcs0, sa0⟩ := Gab.sarg_of (P := Try.prog) Try.underlying40 (by decide) (Gab.opf_arr Try.underlying41 (by kernel_rfl) (Gab.opa_cons (Gab.opf_int Try.underlying3 (by kernel_rfl)) (Gab.opa_one (Gab.opf_int Try.underlying3 (by kernel_rfl))))) hf0
  simp only [Value.cells, List.cons.injEq, and_true] at hcs0
  subst hcs0
  refine (Gab.law_calls (Gab.gabionlaw15_ExtParts_ok (Gab.sarg_rsl sa0 (L := ([(Gab.blkOf a0 cells0, loc0)]).map (·.1)) (b := 0) rfl) (Gab.ExtParts_pure a0 sa0.wf sa0.len) _ (Gab.hp_L _)) (Gab.stL_ro _) (Gab.rel_L [(Gab.blkOf a0 cells0, loc0)] (List.forall_mem_cons.2 ⟨Gab.sarg_obj sa0, (fun _ h => by cases h)⟩)) ⟨_, _, rfl, (sa0.rv _ 0 rfl), rfl⟩).mono fun e W' ⟨he, bel⟩ => ?_
  subst he
  exact ⟨_, rfl, _, _, _, [], _, [], hW', trodAll_mk1 (shut_bool Try.underlying4 _), (trodAll_cons_mk (Below.trod laidOut (by kernel_rfl) (of_decide_eq_true (by kernel_rfl)) k0 bel lt0) trodAll_mk0), rfl, bel.frame _, fun h => by cases h⟩
theorem over : Rows.extPartsRow.holds Try.pinned (OpenSpec.ofChange Rows.extPartsSpec) :=
  OpenClaim.holds_of_wide 10 Try.f10 rfl rfl rfl rfl rfl rfl rfl ⟨rfl, rfl, rfl, rfl, rfl⟩ rfl rfl rfl rfl rfl (by kernel_rfl) Try.func10 (by kernel_rfl)
    (of_decide_eq_true (by kernel_rfl)) (by unfold Func.isWrapper; first | (rw [if_pos (by decide +kernel)]; kernel_rfl) | (rw [if_neg (by decide +kernel)]; exact ⟨rfl, rfl⟩))
    (fun os started H enc _ => lifted os started H enc)
end Go.Proofs.Ytdkldojcpncnhaa.extParts
namespace Go.Proofs.Ytdkldojcpncnhaa
theorem extParts_holds : Rows.ExtPartsSaid := extParts.over
end Go.Proofs.Ytdkldojcpncnhaa
#print axioms Go.Proofs.Ytdkldojcpncnhaa.extParts_holds
