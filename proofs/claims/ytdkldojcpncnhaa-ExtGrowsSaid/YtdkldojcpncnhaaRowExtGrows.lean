/- The row of the law ExtGrows: the Go code is true for every input. -/
import Derived.Test.YtdkldojcpncnhaaRows
import Derived.Test.YtdkldojcpncnhaaFpLExtGrows0
import Derived.Test.YtdkldojcpncnhaaPeGrows
import Derived.Test.YtdkldojcpncnhaaLs
import Derived.WalkKit
import Derived.ProofKit
import Derived.OpenShut
import Derived.ShutString
import Derived.ChangeOld
import Derived.Below
import Derived.SizedLaws
namespace Go.Proofs.Ytdkldojcpncnhaa.extGrows
open Go Go.ChangeShapes Go.WideShapes Go.ChangeAt Go.RowKit
open Go.ChangeMaps (open_string shut_string)
set_option linter.unusedVariables false
theorem own : ownKnob Try.prog.godebug = none := by kernel_rfl
theorem laidOut : laidOutB Try.prog = true := by kernel_rfl
set_option maxRecDepth 100000 in
theorem lifted (os : Os) (started : os.Started) (H : Type) (enc : TypeId × Value → H) :
    ReturnsInHanded {} Try.checked os 5 .any (Rows.extGrowsSpec.pre6 enc Try.prog Try.f5 Rows.extGrowsRow.domain false) (Rows.extGrowsSpec.post enc Try.prog Try.f5 false true false false) := by
  refine returnsInHanded_of_change_sized (C := Try.checked) own started (by kernel_rfl) Try.func5
    (ChangeSpec.witness6 (enc := enc) (C := Try.checked) false ⟨#[], #[.slice none 0 0, .agg #[.int .i64 0, .int .i64 0], .int .i64 0], []⟩ 8 (by kernel_rfl) (by kernel_rfl) (by kernel_rfl) (by kernel_rfl)) ?_
  intro W base args ds gs before hval0 hW hcnd hsz0 _
  have hval : ∀ (j : Nat) t v, Try.f5.params[j]? = some t → args[j]? = some v → Value.okWide Try.prog W .any base t v := hval0
  have hW' := hW
  obtain ⟨p, q, hA0, hV, rfl, hfz, hnd⟩ := hW
  have hA : DataW.TrodAll enc Try.prog W 0 (fun _ => true) true Try.f5.params.toList args.toList ds p := hA0
  rw [Try.params5] at hA hval
  obtain ⟨v0, vs0, d0, ds0, p0, q0, hargs, rfl, rfl, h0, r0⟩ := trodAll_cons hA
  obtain ⟨v1, vs1, d1, ds1, p1, q1, rfl, rfl, rfl, h1, r1⟩ := trodAll_cons r0
  obtain ⟨v2, vs2, d2, ds2, p2, q2, rfl, rfl, rfl, h2, r2⟩ := trodAll_cons r1
  obtain ⟨rfl, rfl, rfl⟩ := trodAll_nil r2
  obtain rfl : args = #[v0, v1, v2] := by cases args; simp_all
  obtain ⟨rfl, rfl⟩ := trodVars_none hV
  obtain ⟨a0_, len0, cap0, rfl⟩ := okWide_slice Try.underlying40 (hval 0 40 v0 rfl rfl)
  have k0 := h0
  have lt0 : ∀ x ∈ p0, x.block < W.heap.size := by obtain ⟨m, hm⟩ := k0; exact DataW.trod_lt m _ _ _ hm
  obtain ⟨fu0, hf0⟩ := h0
  obtain ⟨vv0, a0, nl0, loc0, cells0, hcs0, sa0⟩ := Gab.sarg_of (P := Try.prog) Try.underlying40 (by decide) (Gab.opf_arr Try.underlying41 (by kernel_rfl) (Gab.opa_cons (Gab.opf_int Try.underlying3 (by kernel_rfl)) (Gab.opa_one (Gab.opf_int Try.underlying3 (by kernel_rfl))))) hf0
  simp only [Value.cells, List.cons.injEq, and_true] at hcs0
  subst hcs0
  obtain ⟨av1, rfl⟩ := Gab.okAggA Try.underlying41 (hval 1 41 v1 rfl rfl)
  have k1 := h1
  have lt1 : ∀ x ∈ p1, x.block < W.heap.size := by obtain ⟨m, hm⟩ := k1; exact DataW.trod_lt m _ _ _ hm
  obtain ⟨fu1, hf1⟩ := h1
  obtain ⟨a1, vs1_, R1, rv1, w1⟩ := ((Gab.opf_arr Try.underlying41 (by kernel_rfl) (Gab.opa_cons (Gab.opf_int Try.underlying3 (by kernel_rfl)) (Gab.opa_one (Gab.opf_int Try.underlying3 (by kernel_rfl))))) : Gab.OpF enc Try.prog _ _ _).2 hf1
  obtain ⟨_, _, rfl, rfl, rfl⟩ := R1 (fun _ => none)
  obtain ⟨a2, rfl, rfl, rfl, w2⟩ := open_int Try.underlying3 (hval 2 3 v2 rfl rfl) h2
  refine (Gab.law_calls (Gab.gabionlaw15_ExtGrows_ok (Gab.sarg_rsl sa0 (L := ([(Gab.blkOf a0 cells0, loc0)]).map (·.1)) (b := 0) rfl) (Gab.ExtGrows_pure a0 sa0.wf sa0.len a1 w1 a2 w2) _ (Gab.hp_L _)) (Gab.stL_ro _) (Gab.rel_L [(Gab.blkOf a0 cells0, loc0)] (List.forall_mem_cons.2 ⟨Gab.sarg_obj sa0, (fun _ h => by cases h)⟩)) ⟨_, _, rfl, (sa0.rv _ 0 rfl), ⟨_, _, rfl, ⟨_, rfl, rv1 _⟩, ⟨_, _, rfl, rfl, rfl⟩⟩⟩).mono fun e W' ⟨he, bel⟩ => ?_
  subst he
  exact ⟨_, rfl, _, _, _, [], _, [], hW', trodAll_mk1 (shut_bool Try.underlying4 _), (trodAll_cons_mk (Below.trod laidOut (by kernel_rfl) (of_decide_eq_true (by kernel_rfl)) k0 bel lt0) (trodAll_cons_mk (Below.trod laidOut (by kernel_rfl) (of_decide_eq_true (by kernel_rfl)) k1 bel lt1) (trodAll_cons_mk (shut_int Try.underlying3 w2) trodAll_mk0))), rfl, bel.frame _, fun h => by cases h⟩
theorem over : Rows.extGrowsRow.holds Try.pinned (OpenSpec.ofChange Rows.extGrowsSpec) :=
  OpenClaim.holds_of_wide 5 Try.f5 rfl rfl rfl rfl rfl rfl rfl ⟨rfl, rfl, rfl, rfl, rfl⟩ rfl rfl rfl rfl rfl (by kernel_rfl) Try.func5 (by kernel_rfl)
    (of_decide_eq_true (by kernel_rfl)) (by unfold Func.isWrapper; first | (rw [if_pos (by decide +kernel)]; kernel_rfl) | (rw [if_neg (by decide +kernel)]; exact ⟨rfl, rfl⟩))
    (fun os started H enc _ => lifted os started H enc)
end Go.Proofs.Ytdkldojcpncnhaa.extGrows
namespace Go.Proofs.Ytdkldojcpncnhaa
theorem extGrows_holds : Rows.ExtGrowsSaid := extGrows.over
end Go.Proofs.Ytdkldojcpncnhaa
#print axioms Go.Proofs.Ytdkldojcpncnhaa.extGrows_holds
