/- The row of the law ExtMaps: the Go code is true for every input. -/
import Derived.Test.YtdkldojcpncnhaaRows
import Derived.Test.YtdkldojcpncnhaaFpLExtMaps0
import Derived.Test.YtdkldojcpncnhaaPeMaps
import Derived.Test.YtdkldojcpncnhaaLs
import Derived.WalkKit
import Derived.ProofKit
import Derived.OpenShut
import Derived.ShutString
import Derived.ChangeOld
import Derived.Below
import Derived.SizedLaws
namespace Go.Proofs.Ytdkldojcpncnhaa.extMaps
open Go Go.ChangeShapes Go.WideShapes Go.ChangeAt Go.RowKit
open Go.ChangeMaps (open_string shut_string)
set_option linter.unusedVariables false
theorem own : ownKnob Try.prog.godebug = none := by kernel_rfl
theorem laidOut : laidOutB Try.prog = true := by kernel_rfl
set_option maxRecDepth 100000 in
theorem lifted (os : Os) (started : os.Started) (H : Type) (enc : TypeId × Value → H) :
    ReturnsInHanded {} Try.checked os 9 .any (Rows.extMapsSpec.pre6 enc Try.prog Try.f9 Rows.extMapsRow.domain false) (Rows.extMapsSpec.post enc Try.prog Try.f9 false true false false) := by
  refine returnsInHanded_of_change_sized (C := Try.checked) own started (by kernel_rfl) Try.func9
    (ChangeSpec.witness6 (enc := enc) (C := Try.checked) false ⟨#[], #[.slice none 0 0, .int .i64 0, .string ByteArray.empty], []⟩ 8 (by kernel_rfl) (by kernel_rfl) (by kernel_rfl) (by kernel_rfl)) ?_
  intro W base args ds gs before hval0 hW hcnd hsz0 _
  have hval : ∀ (j : Nat) t v, Try.f9.params[j]? = some t → args[j]? = some v → Value.okWide Try.prog W .any base t v := hval0
  have hW' := hW
  obtain ⟨p, q, hA0, hV, rfl, hfz, hnd⟩ := hW
  have hA : DataW.TrodAll enc Try.prog W 0 (fun _ => true) true Try.f9.params.toList args.toList ds p := hA0
  rw [Try.params9] at hA hval
  obtain ⟨v0, vs0, d0, ds0, p0, q0, hargs, rfl, rfl, h0, r0⟩ := trodAll_cons hA
  obtain ⟨v1, vs1, d1, ds1, p1, q1, rfl, rfl, rfl, h1, r1⟩ := trodAll_cons r0
  obtain ⟨v2, vs2, d2, ds2, p2, q2, rfl, rfl, rfl, h2, r2⟩ := trodAll_cons r1
  obtain ⟨rfl, rfl, rfl⟩ := trodAll_nil r2
  obtain rfl : args = #[v0, v1, v2] := by cases args; simp_all
  obtain ⟨rfl, rfl⟩ := trodVars_none hV
  obtain ⟨a0_, len0, cap0, rfl⟩ := okWide_slice Try.underlying40 (hval 0 40 v0 rfl rfl)
  have k0 := h0
  have lt0 : ∀ x ∈ p0, x.block < W.heap.size := by obtain ⟨m, hm⟩ := k0; exact DataW.trod_lt m _ _ _ hm
  obtain ⟨fu0, hf0⟩ := h0
  obtain ⟨vv0, a0, nl0, loc0, cells0, hcs0, sa0⟩ := Gab.sarg_of (P := Try.prog) Try.underlying40 (by decide) (Gab.opf_arr Try.underlying41 (by kernel_rfl) (Gab.opa_cons (Gab.opf_int Try.underlying3 (by kernel_rfl)) (Gab.opa_one (Gab.opf_int Try.underlying3 (by kernel_rfl))))) hf0
  simp only [Value.cells, List.cons.injEq, and_true] at hcs0
  subst hcs0
  obtain ⟨a1, rfl, rfl, rfl, w1⟩ := open_int Try.underlying3 (hval 1 3 v1 rfl rfl) h1
  obtain ⟨a2, rfl, rfl, rfl, w2⟩ := open_string Try.underlying9 (hval 2 9 v2 rfl rfl) h2
  refine (Gab.law_calls (Gab.gabionlaw15_ExtMaps_ok (Gab.sarg_rsl sa0 (L := ([(Gab.blkOf a0 cells0, loc0)]).map (·.1)) (b := 0) rfl) (Gab.ExtMaps_pure a0 sa0.wf sa0.len a1 w1 a2.data.toList (by show a2.data.size ≤ _; exact w2)) _ (Gab.hp_L _)) (Gab.stL_ro _) (Gab.rel_L [(Gab.blkOf a0 cells0, loc0)] (List.forall_mem_cons.2 ⟨Gab.sarg_obj sa0, (fun _ h => by cases h)⟩)) ⟨_, _, rfl, (sa0.rv _ 0 rfl), ⟨_, _, rfl, rfl, ⟨_, _, rfl, (by show Value.string a2 = .string ⟨a2.data.toList.toArray⟩; simp), rfl⟩⟩⟩).mono fun e W' ⟨he, bel⟩ => ?_
  subst he
  exact ⟨_, rfl, _, _, _, [], _, [], hW', trodAll_mk1 (shut_bool Try.underlying4 _), (trodAll_cons_mk (Below.trod laidOut (by kernel_rfl) (of_decide_eq_true (by kernel_rfl)) k0 bel lt0) (trodAll_cons_mk (shut_int Try.underlying3 w1) (trodAll_cons_mk (shut_string Try.underlying9 w2) trodAll_mk0))), rfl, bel.frame _, fun h => by cases h⟩
theorem over : Rows.extMapsRow.holds Try.pinned (OpenSpec.ofChange Rows.extMapsSpec) :=
  OpenClaim.holds_of_wide 9 Try.f9 rfl rfl rfl rfl rfl rfl rfl ⟨rfl, rfl, rfl, rfl, rfl⟩ rfl rfl rfl rfl rfl (by kernel_rfl) Try.func9 (by kernel_rfl)
    (of_decide_eq_true (by kernel_rfl)) (by unfold Func.isWrapper; first | (rw [if_pos (by decide +kernel)]; kernel_rfl) | (rw [if_neg (by decide +kernel)]; exact ⟨rfl, rfl⟩))
    (fun os started H enc _ => lifted os started H enc)
end Go.Proofs.Ytdkldojcpncnhaa.extMaps
namespace Go.Proofs.Ytdkldojcpncnhaa
theorem extMaps_holds : Rows.ExtMapsSaid := extMaps.over
end Go.Proofs.Ytdkldojcpncnhaa
#print axioms Go.Proofs.Ytdkldojcpncnhaa.extMaps_holds
