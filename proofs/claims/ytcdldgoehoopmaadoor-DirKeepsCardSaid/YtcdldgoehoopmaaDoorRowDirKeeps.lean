/- The row of the law DirKeeps: the Go code is true for every input; its tied card. -/
import Derived.Test.YtcdldgoehoopmaaDoorRows
import Derived.Test.YtcdldgoehoopmaaDoorCards
import Derived.Test.YtcdldgoehoopmaaDoorTie
import Derived.Test.YtcdldgoehoopmaaDoorFpLDirKeeps0
import Derived.Test.YtcdldgoehoopmaaDoorPzDirKeeps
import Derived.Test.YtcdldgoehoopmaaDoorLs
import Derived.WalkKit
import Derived.ProofKit
import Derived.OpenShut
import Derived.ShutString
import Derived.ChangeOld
import Derived.Below
import Derived.SizedLaws
import Derived.LaidMore
import Derived.Stop.Joined
import Derived.SevenTiedAt
import Derived.Lib.LaidTab
namespace Go.Proofs.YtcdldgoehoopmaaDoor.dirKeeps
open Go Go.ChangeShapes Go.WideShapes Go.ChangeAt Go.WideMaps Go.WideElems Go.RowKit
open Go.ChangeMaps (open_string shut_string)
set_option linter.unusedVariables false
set_option maxRecDepth 100000
theorem own : ownKnob Tryd.prog.godebug = none := by kernel_rfl
theorem laidOut : laidOutB Tryd.prog = true := by kernel_rfl
def laid3 : List (String × DataW Unit) := [("math/bits.deBruijn32tab", Rows.laid_math_bits_deBruijn32tab), ("math/bits.deBruijn64tab", Rows.laid_math_bits_deBruijn64tab), ("internal/strconv.uint64pow10", Rows.laid_internal_strconv_uint64pow10)]
theorem door_met (os : Os) (args : Array Value) : laidMetH Tryd.prog laid3 ((World.doorLaid Tryd.prog 65 os).forCall (fun _ _ => 0) ⟨#[], args, []⟩).memory :=
  laidMetH_of_parts3 (fuel := 8) (laidMet_of_run' 8 (by kernel_rfl) (by kernel_rfl)) (by kernel_rfl) (by kernel_rfl)
theorem of_laid {W : World} (h : laidMetH Tryd.prog laid3 W) : Gab.Laid W := by
  rw [MakeChecks.laidMetH_plain _ _ _ (by kernel_rfl)] at h
  obtain ⟨ps, ⟨g0, t0, cs0, f0, p0, q0, hg0, ht0, hv0, hd0, ⟨g1, t1, cs1, f1, p1, q1, hg1, ht1, hv1, hd1, ⟨g2, t2, cs2, f2, p2, q2, hg2, ht2, hv2, hd2, _, _⟩, _⟩, _⟩, _, _⟩ := h
  have hG : Tryd.prog.globalNamed "internal/strconv.uint64pow10" = some 0 := by kernel_rfl
  obtain rfl := Option.some.inj (hG.symm.trans hg2)
  have hT : (Tryd.prog.globals[0]?).map (·.type) = some 111 := by kernel_rfl
  obtain rfl := Option.some.inj (hT.symm.trans ht2)
  have hc := Lib.cells_of_tab (zs := Lib.pow10Tab) (k := .u64) Tryd.underlying111 Tryd.underlying76 (by kernel_rfl) (by kernel_rfl) hd2
  intro g cs hgc
  by_cases hg : g = 0
  · subst hg
    have he : cs = cs2 := by
      have : some cs = Gab.globT 0 := hgc.symm
      have h2 : Gab.globT 0 = some (Lib.pow10Tab.map fun z => Value.int .u64 z).toArray := rfl
      rw [h2] at this
      have h3 : cs2 = (Lib.pow10Tab.map fun z => Value.int .u64 z).toArray := by rw [← hc]
      rw [h3]; exact Option.some.inj this
    subst he
    unfold World.var? at hv2
    rw [hG, Option.bind_some] at hv2
    split at hv2
    · rename_i c e fz hh
      cases hv2
      exact ⟨e, fz, hh⟩
    · cases hv2
  · have : Gab.globT g = none := by unfold Gab.globT; split <;> first | rfl | (exact absurd rfl hg)
    rw [this] at hgc; cases hgc
theorem lifted (os : Os) (started : os.Started) (H : Type) (enc : TypeId × Value → H) :
    ReturnsInHanded {} Tryd.checked os 3 .any (fun w args => (Rows.dirKeepsSpec.pre enc Tryd.prog Tryd.f3 [] false w args ∧ laidMetH Tryd.prog laid3 w) ∧ sizedMet enc Tryd.prog Tryd.f3 (OpenSpec.ofChange Rows.dirKeepsSpec) false w args)
      (Rows.dirKeepsSpec.post enc Tryd.prog Tryd.f3 false true false false) := by
  refine returnsInHanded_of_change_and (C := Tryd.checked) (X := fun w _ => laidMetH Tryd.prog laid3 w) (fun _ _ _ hh h => h.of_heap hh) own started (by kernel_rfl) Tryd.func3
    (ChangeSpec.witness_shaped (enc := enc) (C := Tryd.checked) (os := os) (X := fun w _ => laidMetH Tryd.prog laid3 w) false (World.doorLaid Tryd.prog 65 os) #[.slice none 0 0, .slice none 0 0] 8 rfl (World.shaped_of_RefB (by kernel_rfl) (by kernel_rfl)) (by kernel_rfl) (by kernel_rfl) (by kernel_rfl) (door_met os _)) ?_
  intro W base args ds gs before hval0 hW _ _ hL _
  have hval : ∀ (j : Nat) t v, Tryd.f3.params[j]? = some t → args[j]? = some v → Value.okWide Tryd.prog W .any base t v := hval0
  have hW' := hW
  obtain ⟨p, q, hA0, hV, rfl, hfz, hnd⟩ := hW
  have hA : DataW.TrodAll enc Tryd.prog W 0 (fun _ => true) true Tryd.f3.params.toList args.toList ds p := hA0
  rw [Tryd.params3] at hA hval
  obtain ⟨v0, vs0, d0, ds0, p0, q0, hargs, rfl, rfl, h0, r0⟩ := trodAll_cons hA
  obtain ⟨v1, vs1, d1, ds1, p1, q1, rfl, rfl, rfl, h1, r1⟩ := trodAll_cons r0
  obtain ⟨rfl, rfl, rfl⟩ := trodAll_nil r1
  obtain rfl : args = #[v0, v1] := by cases args; simp_all
  obtain ⟨rfl, rfl⟩ := trodVars_none hV
  have hG := of_laid hL
  obtain ⟨a0_, len0, cap0, rfl⟩ := okWide_slice Tryd.underlying22 (hval 0 22 v0 rfl rfl)
  have k0 := h0
  have lt0 : ∀ x ∈ p0, x.block < W.heap.size := by obtain ⟨m, hm⟩ := k0; exact DataW.trod_lt m _ _ _ hm
  obtain ⟨fu0, hf0⟩ := h0
  obtain ⟨vv0, a0, nl0, loc0, cells0, hcs0, sa0⟩ := Gab.sarg_of (P := Tryd.prog) Tryd.underlying22 (by decide) (Gab.opf_int Tryd.underlying27 (by kernel_rfl)) hf0
  simp only [Value.cells, List.cons.injEq, and_true] at hcs0
  subst hcs0
  obtain ⟨a1_, len1, cap1, rfl⟩ := okWide_slice Tryd.underlying23 (hval 1 23 v1 rfl rfl)
  have k1 := h1
  have lt1 : ∀ x ∈ p1, x.block < W.heap.size := by obtain ⟨m, hm⟩ := k1; exact DataW.trod_lt m _ _ _ hm
  obtain ⟨fu1, hf1⟩ := h1
  obtain ⟨vv1, a1, nl1, loc1, cells1, hcs1, sa1⟩ := Gab.sarg_of (P := Tryd.prog) Tryd.underlying23 (by decide) (Gab.opf_bool Tryd.underlying4 (by kernel_rfl)) hf1
  simp only [Value.cells, List.cons.injEq, and_true] at hcs1
  subst hcs1
  have hpure := Gab.DirKeeps_pure a0 sa0.wf sa0.len a1 sa1.wf sa1.len
  refine (Gab.law_callsQ (Gab.gabionlaw17_DirKeeps_ok (E := []) (L := []) Gab.HR.nil (Gab.sarg_rsl sa0 (L := [Gab.blkOf a0 cells0, Gab.blkOf a1 cells1]) (b := 0) rfl) (Gab.sarg_rsl sa1 (L := [Gab.blkOf a0 cells0, Gab.blkOf a1 cells1]) (b := 1) rfl) hpure _ (Gab.hp_L _)) (fun v s ⟨r, hz, _, _, _, _, _, hv, _⟩ => hv.trans (by rw [show r.2 = true from hz])) (Gab.stL_ro _) (Gab.rel_L hG [(Gab.blkOf a0 cells0, loc0), (Gab.blkOf a1 cells1, loc1)] (List.forall_mem_cons.2 ⟨Gab.sarg_obj sa0, (List.forall_mem_cons.2 ⟨Gab.sarg_obj sa1, (fun _ h => by cases h)⟩)⟩)) ⟨_, _, rfl, (sa0.rv _ 0 rfl), ⟨_, _, rfl, (sa1.rv _ 1 rfl), rfl⟩⟩).mono fun e W' ⟨he, bel⟩ => ?_
  subst he
  exact ⟨_, rfl, _, _, _, [], _, [], hW', trodAll_mk1 (shut_bool Tryd.underlying4 _), (trodAll_cons_mk (Below.trod laidOut (by kernel_rfl) (of_decide_eq_true (by kernel_rfl)) k0 bel lt0) (trodAll_cons_mk (Below.trod laidOut (by kernel_rfl) (of_decide_eq_true (by kernel_rfl)) k1 bel lt1) trodAll_mk0)), rfl, bel.frame _, fun h => by cases h⟩
theorem over : Rows.dirKeepsRow.holds Tryd.pinned (OpenSpec.ofChange Rows.dirKeepsSpec) :=
  OpenClaim.holds_of_wide 3 Tryd.f3 rfl rfl rfl rfl rfl rfl rfl ⟨rfl, rfl, rfl, rfl, rfl⟩ rfl rfl rfl rfl rfl (by kernel_rfl) Tryd.func3 (by kernel_rfl)
    (of_decide_eq_true (by kernel_rfl)) (by unfold Func.isWrapper; first | (rw [if_pos (by decide +kernel)]; kernel_rfl) | (rw [if_neg (by decide +kernel)]; exact ⟨rfl, rfl⟩))
    (fun os started H enc _ => lifted os started H enc)
end Go.Proofs.YtcdldgoehoopmaaDoor.dirKeeps
namespace Go.Proofs.YtcdldgoehoopmaaDoor
set_option maxRecDepth 100000 in
theorem dirKeeps_holds : Rows.DirKeepsCardSaid :=
  Claim7.holds_tied_plain_at .later [] [.data, .data, .data] true (true, "272d162330562ecc3c327d6b45aeabbd199c6742275ad586ee4b4220f12167cb") true
    dirKeeps.over (fun _ h => by cases h) (by kernel_rfl) (fun _ h => by cases h) dirKeeps_row_tie rfl ⟨rfl, rfl⟩ (by kernel_rfl) rfl
    (fun f fn hf hfn => by
      obtain rfl : f = 3 := Option.some.inj ((show Tryd.prog.funcNamed "gabion/gabionlaw17.DirKeeps" = some 3 by kernel_rfl).symm.trans hf) |>.symm
      obtain rfl : fn = Tryd.f3 := (Option.some.inj (Tryd.func3.symm.trans hfn)).symm
      exact ⟨by kernel_rfl, fun j t ht => by
        rw [Tryd.params3] at ht
        have hm : t ∈ [22, 23] := by simpa using Array.mem_of_getElem? ht
        have hall : ([22, 23].all fun u => !Tryd.prog.wantsStandIn u) = true := by kernel_rfl
        exact (show Tryd.prog.wantsStandIn t = false by simpa using List.all_eq_true.1 hall t hm)⟩)
    (by kernel_rfl)
end Go.Proofs.YtcdldgoehoopmaaDoor
#print axioms Go.Proofs.YtcdldgoehoopmaaDoor.dirKeeps_holds
