/- The Go code comes to what the Lean functions say. Written by a program (gp.py). -/
import Derived.Test.YtdkldojcpncnhaaFd
import Derived.Test.YtdkldojcpncnhaaTy
import Derived.Test.YtdkldojcpncnhaaFpInode0
import Derived.Test.YtdkldojcpncnhaaFpLaw162
set_option linter.unusedSimpArgs false
set_option linter.unusedVariables false
set_option maxHeartbeats 4000000
set_option maxRecDepth 100000
namespace Gab
open Go Go.Proofs
def gabionlaw16_InodeNeeds_P (B : Kn) (L : Own) (r : Bool) : AV → St → Prop := CS B L fun v => v = .bool r
theorem gabionlaw16_InodeNeeds_ok {B0 : Kn} {L : Own} {a0 : Int} {a1 : Int} {r : Bool} (h : gabionlaw16_InodeNeeds a0 a1 = some r) : ∀ st, Hp B0 L st → ASpec Try.prog 14 [.int .u32 a0, .int .u16 a1] st (gabionlaw16_InodeNeeds_P B0 L r) := by
  unfold gabionlaw16_InodeNeeds at h
  refine bodyA (A := []) Try.func14 rfl (c := bodyOf Try.f14) rfl Try.ntmps14 (lb rfl) fun n0 => ?_
  have hB := KLe.refl B0
  refine WX.seq ?_
  refine WX.reg ?_
  refine WO.q (.as (v := .bool _) rfl) rfl rfl ?_
  refine WO.nil ?_
  refine WX.seq ?_
  refine WX.reg ?_
  refine WO.q (.mv (v := .int _ _) rfl) rfl rfl ?_
  refine WO.q (.r fun _ => rfl) rfl rfl ?_
  refine WO.q (cvI ti99 ti3 rfl rfl) rfl rfl ?_
  refine WO.q (.as (v := .int _ _) rfl) rfl rfl ?_
  refine WO.nil ?_
  refine WX.seq ?_
  refine WX.reg ?_
  refine WO.q (.mv (v := .int _ _) rfl) rfl rfl ?_
  obtain ⟨y1, hy1, h⟩ := Option.bind_eq_some_iff.1 h
  refine WO.cS rfl rfl (inode_Need_ok hy1) rfl rfl rfl ?_
  rintro _ rfl
  refine WO.q (.as (v := .int _ _) rfl) rfl rfl ?_
  refine WO.nil ?_
  refine WX.seq ?_
  refine WX.reg ?_
  obtain ⟨y2, hy2, h⟩ := Option.bind_eq_some_iff.1 h
  refine WO.cS rfl rfl (gabionlaw16_wakes_ok hy2) rfl rfl rfl ?_
  rintro _ rfl
  refine WO.q (.mv (v := .bool _) rfl) rfl rfl ?_
  rcases bsp y2 with k3 | k3
  · replace h := (if_pos k3).symm.trans h
    refine WO.q (.mv (v := .int _ _) rfl) (wg rfl rfl (gt k3)) rfl ?_
    refine WO.q (.r fun _ => rfl) (wg rfl rfl (gt k3)) rfl ?_
    refine WO.q (.mv (v := .int _ _) rfl) (wg rfl rfl (gt k3)) rfl ?_
    refine WO.q (.r fun _ => rfl) (wg rfl rfl (gt k3)) rfl ?_
    refine WO.q (.ptv (v := .bool _) rfl k3 rfl) rfl rfl ?_
    refine WO.q (.mv (v := .bool _) rfl) rfl rfl ?_
    rcases bsp (decide ((wi64 (Int.tmod a0 1073741824)) ≤ (wi64 (y1 * 64)))) with k4 | k4
    · have q_k4 := of_decide_eq_true k4
      replace h := (if_pos q_k4).symm.trans h
      refine WO.q (.mv (v := .int _ _) rfl) (wg rfl rfl (gt k4)) rfl ?_
      refine WO.q (.r fun _ => rfl) (wg rfl rfl (gt k4)) rfl ?_
      refine WO.q (.r fun _ => rfl) (wg rfl rfl (gt k4)) rfl ?_
      refine WO.q (.mv (v := .int _ _) rfl) (wg rfl rfl (gt k4)) rfl ?_
      refine WO.q (.r fun _ => rfl) (wg rfl rfl (gt k4)) rfl ?_
      refine WO.q (.ptv (v := .bool _) rfl k4 rfl) rfl rfl ?_
      refine WO.q (.mv (v := .bool _) rfl) rfl rfl ?_
      rcases bsp (decide ((wi64 ((wi64 (y1 - 1)) * 64)) < (wi64 (Int.tmod a0 1073741824)))) with k5 | k5
      · have q_k5 := of_decide_eq_true k5
        replace h := (if_pos q_k5).symm.trans h
        refine WO.q (.mv (v := .int _ _) rfl) (wg rfl rfl (gt k5)) rfl ?_
        refine WO.q (.mv (v := .int _ _) rfl) (wg rfl rfl (gt k5)) rfl ?_
        refine WO.q (cvI ti60 ti3 rfl rfl) (wg rfl rfl (gt k5)) rfl ?_
        refine WO.q (.r fun _ => rfl) (wg rfl rfl (gt k5)) rfl ?_
        obtain ⟨y6, hy6, h⟩ := Option.bind_eq_some_iff.1 h
        refine WO.cS rfl rfl (inode_Need_ok hy6) rfl (wg rfl rfl (gt k5)) rfl ?_
        rintro _ rfl
        refine WO.q (.mv (v := .int _ _) rfl) (wg rfl rfl (gt k5)) rfl ?_
        refine WO.q (.r fun _ => rfl) (wg rfl rfl (gt k5)) rfl ?_
        refine WO.q (.ptv (v := .bool _) rfl k5 rfl) rfl rfl ?_
        refine WO.q (.mv (v := .bool _) rfl) rfl rfl ?_
        rcases bsp (decide (y1 ≤ y6)) with k7 | k7
        · have q_k7 := of_decide_eq_true k7
          replace h := (if_pos q_k7).symm.trans h
          refine WO.q (.mv (v := .int _ _) rfl) (wg rfl rfl (gt k7)) rfl ?_
          refine WO.q (.r fun _ => rfl) (wg rfl rfl (gt k7)) rfl ?_
          obtain ⟨y8, hy8, h⟩ := Option.bind_eq_some_iff.1 h
          refine WO.cS rfl rfl (inode_Need_ok hy8) rfl (wg rfl rfl (gt k7)) rfl ?_
          rintro _ rfl
          refine WO.q (.mv (v := .int _ _) rfl) (wg rfl rfl (gt k7)) rfl ?_
          refine WO.q (.r fun _ => rfl) (wg rfl rfl (gt k7)) rfl ?_
          refine WO.q (.r fun _ => rfl) (wg rfl rfl (gt k7)) rfl ?_
          refine WO.q (.ptv (v := .bool _) rfl k7 rfl) rfl rfl ?_
          refine WO.q (.as (v := .bool _) rfl) rfl rfl ?_
          refine WO.nil ?_
          obtain rfl := Option.some.inj h
          exact WX.ret (rs_ (rs_tmp rfl rs_nil)) fun st hp => ⟨(hp.pk [] (by decide)).le hB, rfl⟩
        · have q_k7 := of_decide_eq_false k7
          replace h := (if_neg q_k7).symm.trans h
          refine WO.sd (wg rfl rfl (gtn k7)) rfl ?_
          refine WO.sd (wg rfl rfl (gtn k7)) rfl ?_
          refine WO.sd (wg rfl rfl (gtn k7)) rfl ?_
          refine WO.sd (wg rfl rfl (gtn k7)) rfl ?_
          refine WO.sd (wg rfl rfl (gtn k7)) rfl ?_
          refine WO.sd (wg rfl rfl (gtn k7)) rfl ?_
          refine WO.q (.pfv (v := .bool _) rfl k7 rfl) rfl rfl ?_
          refine WO.q (.as (v := .bool _) rfl) rfl rfl ?_
          refine WO.nil ?_
          obtain rfl := Option.some.inj h
          exact WX.ret (rs_ (rs_tmp rfl rs_nil)) fun st hp => ⟨(hp.pk [] (by decide)).le hB, rfl⟩
      · have q_k5 := of_decide_eq_false k5
        replace h := (if_neg q_k5).symm.trans h
        refine WO.sd (wg rfl rfl (gtn k5)) rfl ?_
        refine WO.sd (wg rfl rfl (gtn k5)) rfl ?_
        refine WO.sd (wg rfl rfl (gtn k5)) rfl ?_
        refine WO.sd (wg rfl rfl (gtn k5)) rfl ?_
        refine WO.sd (wg rfl rfl (gtn k5)) rfl ?_
        refine WO.sd (wg rfl rfl (gtn k5)) rfl ?_
        refine WO.sd (wg rfl rfl (gtn k5)) rfl ?_
        refine WO.q (.pfv (v := .bool _) rfl k5 rfl) rfl rfl ?_
        refine WO.q (.mv (v := .bool _) rfl) rfl rfl ?_
        refine WO.sd (wg rfl rfl (gtn rfl)) rfl ?_
        refine WO.sd (wg rfl rfl (gtn rfl)) rfl ?_
        refine WO.sd (wg rfl rfl (gtn rfl)) rfl ?_
        refine WO.sd (wg rfl rfl (gtn rfl)) rfl ?_
        refine WO.sd (wg rfl rfl (gtn rfl)) rfl ?_
        refine WO.sd (wg rfl rfl (gtn rfl)) rfl ?_
        refine WO.q (.pfv (v := .bool _) rfl rfl rfl) rfl rfl ?_
        refine WO.q (.as (v := .bool _) rfl) rfl rfl ?_
        refine WO.nil ?_
        obtain rfl := Option.some.inj h
        exact WX.ret (rs_ (rs_tmp rfl rs_nil)) fun st hp => ⟨(hp.pk [] (by decide)).le hB, rfl⟩
    · have q_k4 := of_decide_eq_false k4
      replace h := (if_neg q_k4).symm.trans h
      refine WO.sd (wg rfl rfl (gtn k4)) rfl ?_
      refine WO.sd (wg rfl rfl (gtn k4)) rfl ?_
      refine WO.sd (wg rfl rfl (gtn k4)) rfl ?_
      refine WO.sd (wg rfl rfl (gtn k4)) rfl ?_
      refine WO.sd (wg rfl rfl (gtn k4)) rfl ?_
      refine WO.q (.pfv (v := .bool _) rfl k4 rfl) rfl rfl ?_
      refine WO.q (.mv (v := .bool _) rfl) rfl rfl ?_
      refine WO.sd (wg rfl rfl (gtn rfl)) rfl ?_
      refine WO.sd (wg rfl rfl (gtn rfl)) rfl ?_
      refine WO.sd (wg rfl rfl (gtn rfl)) rfl ?_
      refine WO.sd (wg rfl rfl (gtn rfl)) rfl ?_
      refine WO.sd (wg rfl rfl (gtn rfl)) rfl ?_
      refine WO.sd (wg rfl rfl (gtn rfl)) rfl ?_
      refine WO.sd (wg rfl rfl (gtn rfl)) rfl ?_
      refine WO.q (.pfv (v := .bool _) rfl rfl rfl) rfl rfl ?_
      refine WO.q (.mv (v := .bool _) rfl) rfl rfl ?_
      refine WO.sd (wg rfl rfl (gtn rfl)) rfl ?_
      refine WO.sd (wg rfl rfl (gtn rfl)) rfl ?_
      refine WO.sd (wg rfl rfl (gtn rfl)) rfl ?_
      refine WO.sd (wg rfl rfl (gtn rfl)) rfl ?_
      refine WO.sd (wg rfl rfl (gtn rfl)) rfl ?_
      refine WO.sd (wg rfl rfl (gtn rfl)) rfl ?_
      refine WO.q (.pfv (v := .bool _) rfl rfl rfl) rfl rfl ?_
      refine WO.q (.as (v := .bool _) rfl) rfl rfl ?_
      refine WO.nil ?_
      obtain rfl := Option.some.inj h
      exact WX.ret (rs_ (rs_tmp rfl rs_nil)) fun st hp => ⟨(hp.pk [] (by decide)).le hB, rfl⟩
  · replace h := (if_neg (bnt k3)).symm.trans h
    refine WO.sd (wg rfl rfl (gtn k3)) rfl ?_
    refine WO.sd (wg rfl rfl (gtn k3)) rfl ?_
    refine WO.sd (wg rfl rfl (gtn k3)) rfl ?_
    refine WO.sd (wg rfl rfl (gtn k3)) rfl ?_
    refine WO.q (.pfv (v := .bool _) rfl k3 rfl) rfl rfl ?_
    refine WO.q (.mv (v := .bool _) rfl) rfl rfl ?_
    refine WO.sd (wg rfl rfl (gtn rfl)) rfl ?_
    refine WO.sd (wg rfl rfl (gtn rfl)) rfl ?_
    refine WO.sd (wg rfl rfl (gtn rfl)) rfl ?_
    refine WO.sd (wg rfl rfl (gtn rfl)) rfl ?_
    refine WO.sd (wg rfl rfl (gtn rfl)) rfl ?_
    refine WO.q (.pfv (v := .bool _) rfl rfl rfl) rfl rfl ?_
    refine WO.q (.mv (v := .bool _) rfl) rfl rfl ?_
    refine WO.sd (wg rfl rfl (gtn rfl)) rfl ?_
    refine WO.sd (wg rfl rfl (gtn rfl)) rfl ?_
    refine WO.sd (wg rfl rfl (gtn rfl)) rfl ?_
    refine WO.sd (wg rfl rfl (gtn rfl)) rfl ?_
    refine WO.sd (wg rfl rfl (gtn rfl)) rfl ?_
    refine WO.sd (wg rfl rfl (gtn rfl)) rfl ?_
    refine WO.sd (wg rfl rfl (gtn rfl)) rfl ?_
    refine WO.q (.pfv (v := .bool _) rfl rfl rfl) rfl rfl ?_
    refine WO.q (.mv (v := .bool _) rfl) rfl rfl ?_
    refine WO.sd (wg rfl rfl (gtn rfl)) rfl ?_
    refine WO.sd (wg rfl rfl (gtn rfl)) rfl ?_
    refine WO.sd (wg rfl rfl (gtn rfl)) rfl ?_
    refine WO.sd (wg rfl rfl (gtn rfl)) rfl ?_
    refine WO.sd (wg rfl rfl (gtn rfl)) rfl ?_
    refine WO.sd (wg rfl rfl (gtn rfl)) rfl ?_
    refine WO.q (.pfv (v := .bool _) rfl rfl rfl) rfl rfl ?_
    refine WO.q (.as (v := .bool _) rfl) rfl rfl ?_
    refine WO.nil ?_
    obtain rfl := Option.some.inj h
    exact WX.ret (rs_ (rs_tmp rfl rs_nil)) fun st hp => ⟨(hp.pk [] (by decide)).le hB, rfl⟩
end Gab
