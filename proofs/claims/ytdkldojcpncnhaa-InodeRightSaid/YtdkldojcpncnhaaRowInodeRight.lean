/- The row of the law InodeRight: the Go code is true for every input. -/
import Derived.Test.YtdkldojcpncnhaaRows
import Derived.Test.YtdkldojcpncnhaaFpLInodeRight0
import Derived.Test.YtdkldojcpncnhaaPiRight
import Derived.Test.YtdkldojcpncnhaaLg
import Derived.WalkKit
import Derived.ProofKit
import Derived.OpenShut
import Derived.ShutString
import Derived.ChangeOld
import Derived.Below
import Derived.SizedLaws
namespace Go.Proofs.Ytdkldojcpncnhaa.inodeRight
open Go Go.ChangeShapes Go.WideShapes Go.ChangeAt Go.RowKit
open Go.ChangeMaps (open_string shut_string)
set_option linter.unusedVariables false
theorem own : ownKnob Try.prog.godebug = none := by kernel_rfl
theorem laidOut : laidOutB Try.prog = true := by kernel_rfl
set_option maxRecDepth 100000 in
theorem lifted (os : Os) (started : os.Started) (H : Type) (enc : TypeId × Value → H) :
    ReturnsInHanded {} Try.checked os 11 .any (Rows.inodeRightSpec.pre6 enc Try.prog Try.f11 Rows.inodeRightRow.domain false) (Rows.inodeRightSpec.post enc Try.prog Try.f11 false true false false) := by
  refine returnsInHanded_of_change_sized (C := Try.checked) own started (by kernel_rfl) Try.func11
    (ChangeSpec.witness6 (enc := enc) (C := Try.checked) false ⟨#[], #[.agg #[.int .u8 0, .int .i64 0, .int .i64 0, .slice none 0 0, .string ByteArray.empty], .int .i64 0], []⟩ 8 (by kernel_rfl) (by kernel_rfl) (by kernel_rfl) (by kernel_rfl)) ?_
  intro W base args ds gs before hval0 hW hcnd hsz0 _
  have hval : ∀ (j : Nat) t v, Try.f11.params[j]? = some t → args[j]? = some v → Value.okWide Try.prog W .any base t v := hval0
  have hW' := hW
  obtain ⟨p, q, hA0, hV, rfl, hfz, hnd⟩ := hW
  have hA : DataW.TrodAll enc Try.prog W 0 (fun _ => true) true Try.f11.params.toList args.toList ds p := hA0
  rw [Try.params11] at hA hval
  obtain ⟨v0, vs0, d0, ds0, p0, q0, hargs, rfl, rfl, h0, r0⟩ := trodAll_cons hA
  obtain ⟨v1, vs1, d1, ds1, p1, q1, rfl, rfl, rfl, h1, r1⟩ := trodAll_cons r0
  obtain ⟨rfl, rfl, rfl⟩ := trodAll_nil r1
  obtain rfl : args = #[v0, v1] := by cases args; simp_all
  obtain ⟨rfl, rfl⟩ := trodVars_none hV
  obtain ⟨av0, rfl⟩ := Gab.okAggS Try.underlying81 (hval 0 81 v0 rfl rfl)
  have k0 := h0
  have lt0 : ∀ x ∈ p0, x.block < W.heap.size := by obtain ⟨m, hm⟩ := k0; exact DataW.trod_lt m _ _ _ hm
  obtain ⟨fu0, hf0⟩ := h0
  obtain ⟨a0, E0, vs0_, R0, w0⟩ := ((Gab.opg_struct Try.underlying81 (by kernel_rfl) (Gab.opgc_cons (by rfl) (Gab.OpF.g (Gab.opf_int Try.underlying5 (by kernel_rfl))) (Gab.opgc_cons (by rfl) (Gab.OpF.g (Gab.opf_int Try.underlying3 (by kernel_rfl))) (Gab.opgc_cons (by rfl) (Gab.OpF.g (Gab.opf_int Try.underlying3 (by kernel_rfl))) (Gab.opgc_cons (by rfl) (Gab.opg_slice Try.underlying40 (by kernel_rfl) (by decide) (Gab.opg_arr Try.underlying41 (by kernel_rfl) (Gab.opga_cons (Gab.OpF.g (Gab.opf_int Try.underlying3 (by kernel_rfl))) (Gab.opga_one (Gab.OpF.g (Gab.opf_int Try.underlying3 (by kernel_rfl))))))) (Gab.opgc_one (by rfl) (Gab.OpF.g (Gab.opf_str Try.underlying9 (by kernel_rfl))))))))) : Gab.OpG enc Try.prog _ _ _).2 hf0 ([] : Gab.Blks).length
  obtain ⟨a1, rfl, rfl, rfl, w1⟩ := open_int Try.underlying3 (hval 1 3 v1 rfl rfl) h1
  have t0_ : ([] : Gab.Blks) ++ E0 ++ ([] : Gab.Blks) = (([] : Gab.Blks) ++ E0) := by simp only [List.append_assoc, List.nil_append, List.append_nil]
  have r0_ := R0.in_ (A := ([] : Gab.Blks)) (F := ([] : Gab.Blks))
  rw [t0_] at r0_
  obtain ⟨q0_, rv0_, ob0_⟩ := r0_
  clear R0 t0_
  obtain ⟨_, _, rfl, rfl, ⟨_, _, rfl, rfl, ⟨_, _, rfl, rfl, ⟨_, _, rfl, ⟨_, rfl, f0_⟩, rfl⟩⟩⟩⟩ := q0_
  refine (Gab.law_calls (Gab.gabionlaw16_InodeRight_ok f0_ (Gab.InodeRight_pure a0 w0 a1 w1) _ (Gab.hp_L ((([] : Gab.Blks) ++ E0).map (·.1)))) (Gab.stL_ro _) (Gab.rel_G (Gab.objs_app Gab.objs_nil ob0_)) ⟨_, _, rfl, ⟨_, rfl, rv0_⟩, ⟨_, _, rfl, rfl, rfl⟩⟩).mono fun e W' ⟨he, bel⟩ => ?_
  subst he
  exact ⟨_, rfl, _, _, _, [], _, [], hW', trodAll_mk1 (shut_bool Try.underlying4 _), (trodAll_cons_mk (Below.trod laidOut (by kernel_rfl) (of_decide_eq_true (by kernel_rfl)) k0 bel lt0) (trodAll_cons_mk (shut_int Try.underlying3 w1) trodAll_mk0)), rfl, bel.frame _, fun h => by cases h⟩
theorem over : Rows.inodeRightRow.holds Try.pinned (OpenSpec.ofChange Rows.inodeRightSpec) :=
  OpenClaim.holds_of_wide 11 Try.f11 rfl rfl rfl rfl rfl rfl rfl ⟨rfl, rfl, rfl, rfl, rfl⟩ rfl rfl rfl rfl rfl (by kernel_rfl) Try.func11 (by kernel_rfl)
    (of_decide_eq_true (by kernel_rfl)) (by unfold Func.isWrapper; first | (rw [if_pos (by decide +kernel)]; kernel_rfl) | (rw [if_neg (by decide +kernel)]; exact ⟨rfl, rfl⟩))
    (fun os started H enc _ => lifted os started H enc)
end Go.Proofs.Ytdkldojcpncnhaa.inodeRight
namespace Go.Proofs.Ytdkldojcpncnhaa
theorem inodeRight_holds : Rows.InodeRightSaid := inodeRight.over
end Go.Proofs.Ytdkldojcpncnhaa
#print axioms Go.Proofs.Ytdkldojcpncnhaa.inodeRight_holds
