/- The Go code comes to what the Lean functions say. Written by a program (gp.py). -/
import Derived.Test.YtdkldojcpncnhaaFd
import Derived.Test.YtdkldojcpncnhaaTy
import Derived.Test.YtdkldojcpncnhaaFpExt5
set_option linter.unusedSimpArgs false
set_option linter.unusedVariables false
set_option maxHeartbeats 4000000
set_option maxRecDepth 100000
namespace Gab
open Go Go.Proofs
def inode_Equal_P (B : Kn) (L : Own) (r : Bool) : AV → St → Prop := CS B L fun v => v = .bool r
theorem inode_Equal_ok {B0 : Kn} {L : Own} {a0 : Int × Int × Int × (List (Int × Int)) × (List UInt8)} {a1 : Int × Int × Int × (List (Int × Int)) × (List UInt8)} {v0_0 : AV} {v1_0 : AV} {r : Bool} (g0_0 : RSl EPIi64Ii64Q B0 v0_0 a0.2.2.2.1) (g1_0 : RSl EPIi64Ii64Q B0 v1_0 a1.2.2.2.1) (h : inode_Equal a0 a1 = some r) : ∀ st, Hp B0 L st → ASpec Try.prog 57 [.agg [.int .u8 a0.1, .int .i64 a0.2.1, .int .i64 a0.2.2.1, v0_0, .str a0.2.2.2.2], .agg [.int .u8 a1.1, .int .i64 a1.2.1, .int .i64 a1.2.2.1, v1_0, .str a1.2.2.2.2]] st (inode_Equal_P B0 L r) := by
  unfold inode_Equal at h
  refine bodyA (A := []) Try.func57 rfl (c := bodyOf Try.f57) rfl Try.ntmps57 (lb rfl) fun n0 => ?_
  have hB := KLe.refl B0
  obtain ⟨_, _, _, _, _, rfl⟩ := g0_0.isl
  obtain ⟨_, _, _, _, _, rfl⟩ := g1_0.isl
  refine WX.seq ?_
  refine WX.reg ?_
  refine WO.md (MOp.box (cA rfl)) rfl rfl ?_
  rintro _ _ ⟨b1, rfl, rfl⟩
  refine WO.md (MOp.box (cA rfl)) rfl rfl ?_
  rintro _ _ ⟨b2, rfl, rfl⟩
  refine WO.q (.as (v := .bool _) rfl) rfl rfl ?_
  refine WO.nil ?_
  refine WX.seq ?_
  refine WX.reg ?_
  refine WO.q (.fa (fa86_0 _ _)) rfl rfl ?_
  refine WO.q (.ldS (i := 1) rfl rfl rfl ti84 rfl) rfl rfl ?_
  refine WO.q (.fa (fa86_0 _ _)) rfl rfl ?_
  refine WO.q (.ldS (i := 0) rfl rfl rfl ti84 rfl) rfl rfl ?_
  refine WO.q (.r fun _ => rfl) rfl rfl ?_
  refine WO.q (.mv (v := .bool _) rfl) rfl rfl ?_
  rcases bsp (decide (a0.1 = a1.1)) with k3 | k3
  · have q_k3 := of_decide_eq_true k3
    replace h := (if_pos q_k3).symm.trans h
    refine WO.q (.fa (fa86_1 _ _)) (wg rfl rfl (gt k3)) rfl ?_
    refine WO.q (.ldS (i := 1) rfl rfl rfl ti3 rfl) (wg rfl rfl (gt k3)) rfl ?_
    refine WO.q (.fa (fa86_1 _ _)) (wg rfl rfl (gt k3)) rfl ?_
    refine WO.q (.ldS (i := 0) rfl rfl rfl ti3 rfl) (wg rfl rfl (gt k3)) rfl ?_
    refine WO.q (.r fun _ => rfl) (wg rfl rfl (gt k3)) rfl ?_
    refine WO.q (.ptv (v := .bool _) rfl k3 rfl) rfl rfl ?_
    refine WO.q (.mv (v := .bool _) rfl) rfl rfl ?_
    rcases bsp (decide (a0.2.1 = a1.2.1)) with k4 | k4
    · have q_k4 := of_decide_eq_true k4
      replace h := (if_pos q_k4).symm.trans h
      refine WO.q (.fa (fa86_2 _ _)) (wg rfl rfl (gt k4)) rfl ?_
      refine WO.q (.ldS (i := 1) rfl rfl rfl ti3 rfl) (wg rfl rfl (gt k4)) rfl ?_
      refine WO.q (.fa (fa86_2 _ _)) (wg rfl rfl (gt k4)) rfl ?_
      refine WO.q (.ldS (i := 0) rfl rfl rfl ti3 rfl) (wg rfl rfl (gt k4)) rfl ?_
      refine WO.q (.r fun _ => rfl) (wg rfl rfl (gt k4)) rfl ?_
      refine WO.q (.ptv (v := .bool _) rfl k4 rfl) rfl rfl ?_
      refine WO.q (.mv (v := .bool _) rfl) rfl rfl ?_
      rcases bsp (decide (a0.2.2.1 = a1.2.2.1)) with k5 | k5
      · have q_k5 := of_decide_eq_true k5
        replace h := (if_pos q_k5).symm.trans h
        refine WO.q (.fa (fa86_3 _ _)) (wg rfl rfl (gt k5)) rfl ?_
        refine WO.q (.ldS (i := 1) rfl rfl rfl ti44 rfl) (wg rfl rfl (gt k5)) rfl ?_
        refine WO.q (.fa (fa86_3 _ _)) (wg rfl rfl (gt k5)) rfl ?_
        refine WO.q (.ldS (i := 0) rfl rfl rfl ti44 rfl) (wg rfl rfl (gt k5)) rfl ?_
        obtain ⟨y6, hy6, h⟩ := Option.bind_eq_some_iff.1 h
        refine WO.cS rfl rfl (slices_Equal_ext_List_alloc_Extent_ok g0_0 g1_0 hy6) rfl (wg rfl rfl (gt k5)) rfl ?_
        rintro _ rfl
        refine WO.q (.ptv (v := .bool _) rfl k5 rfl) rfl rfl ?_
        refine WO.q (.mv (v := .bool _) rfl) rfl rfl ?_
        rcases bsp y6 with k7 | k7
        · replace h := (if_pos k7).symm.trans h
          refine WO.q (.fa (fa86_4 _ _)) (wg rfl rfl (gt k7)) rfl ?_
          refine WO.q (.ldS (i := 1) rfl rfl rfl ti9 rfl) (wg rfl rfl (gt k7)) rfl ?_
          refine WO.q (.fa (fa86_4 _ _)) (wg rfl rfl (gt k7)) rfl ?_
          refine WO.q (.ldS (i := 0) rfl rfl rfl ti9 rfl) (wg rfl rfl (gt k7)) rfl ?_
          refine WO.q (.r fun _ => rfl) (wg rfl rfl (gt k7)) rfl ?_
          refine WO.q (.ptv (v := .bool _) rfl k7 rfl) rfl rfl ?_
          refine WO.q (.as (v := .bool _) rfl) rfl rfl ?_
          refine WO.nil ?_
          obtain rfl := Option.some.inj h
          exact WX.ret (rs_ (rs_tmp rfl rs_nil)) fun st hp => ⟨(hp.pk [] (by decide)).le hB, rfl⟩
        · replace h := (if_neg (bnt k7)).symm.trans h
          refine WO.sd (wg rfl rfl (gtn k7)) rfl ?_
          refine WO.sd (wg rfl rfl (gtn k7)) rfl ?_
          refine WO.sd (wg rfl rfl (gtn k7)) rfl ?_
          refine WO.sd (wg rfl rfl (gtn k7)) rfl ?_
          refine WO.sd (wg rfl rfl (gtn k7)) rfl ?_
          refine WO.q (.pfv (v := .bool _) rfl k7 rfl) rfl rfl ?_
          refine WO.q (.as (v := .bool _) rfl) rfl rfl ?_
          refine WO.nil ?_
          obtain rfl := Option.some.inj h
          exact WX.ret (rs_ (rs_tmp rfl rs_nil)) fun st hp => ⟨(hp.pk [] (by decide)).le hB, rfl⟩
      · have q_k5 := of_decide_eq_false k5
        replace h := (if_neg q_k5).symm.trans h
        refine WO.sd (wg rfl rfl (gtn k5)) rfl ?_
        refine WO.sd (wg rfl rfl (gtn k5)) rfl ?_
        refine WO.sd (wg rfl rfl (gtn k5)) rfl ?_
        refine WO.sd (wg rfl rfl (gtn k5)) rfl ?_
        refine WO.sd (wg rfl rfl (gtn k5)) rfl ?_
        refine WO.q (.pfv (v := .bool _) rfl k5 rfl) rfl rfl ?_
        refine WO.q (.mv (v := .bool _) rfl) rfl rfl ?_
        refine WO.sd (wg rfl rfl (gtn rfl)) rfl ?_
        refine WO.sd (wg rfl rfl (gtn rfl)) rfl ?_
        refine WO.sd (wg rfl rfl (gtn rfl)) rfl ?_
        refine WO.sd (wg rfl rfl (gtn rfl)) rfl ?_
        refine WO.sd (wg rfl rfl (gtn rfl)) rfl ?_
        refine WO.q (.pfv (v := .bool _) rfl rfl rfl) rfl rfl ?_
        refine WO.q (.as (v := .bool _) rfl) rfl rfl ?_
        refine WO.nil ?_
        obtain rfl := Option.some.inj h
        exact WX.ret (rs_ (rs_tmp rfl rs_nil)) fun st hp => ⟨(hp.pk [] (by decide)).le hB, rfl⟩
    · have q_k4 := of_decide_eq_false k4
      replace h := (if_neg q_k4).symm.trans h
      refine WO.sd (wg rfl rfl (gtn k4)) rfl ?_
      refine WO.sd (wg rfl rfl (gtn k4)) rfl ?_
      refine WO.sd (wg rfl rfl (gtn k4)) rfl ?_
      refine WO.sd (wg rfl rfl (gtn k4)) rfl ?_
      refine WO.sd (wg rfl rfl (gtn k4)) rfl ?_
      refine WO.q (.pfv (v := .bool _) rfl k4 rfl) rfl rfl ?_
      refine WO.q (.mv (v := .bool _) rfl) rfl rfl ?_
      refine WO.sd (wg rfl rfl (gtn rfl)) rfl ?_
      refine WO.sd (wg rfl rfl (gtn rfl)) rfl ?_
      refine WO.sd (wg rfl rfl (gtn rfl)) rfl ?_
      refine WO.sd (wg rfl rfl (gtn rfl)) rfl ?_
      refine WO.sd (wg rfl rfl (gtn rfl)) rfl ?_
      refine WO.q (.pfv (v := .bool _) rfl rfl rfl) rfl rfl ?_
      refine WO.q (.mv (v := .bool _) rfl) rfl rfl ?_
      refine WO.sd (wg rfl rfl (gtn rfl)) rfl ?_
      refine WO.sd (wg rfl rfl (gtn rfl)) rfl ?_
      refine WO.sd (wg rfl rfl (gtn rfl)) rfl ?_
      refine WO.sd (wg rfl rfl (gtn rfl)) rfl ?_
      refine WO.sd (wg rfl rfl (gtn rfl)) rfl ?_
      refine WO.q (.pfv (v := .bool _) rfl rfl rfl) rfl rfl ?_
      refine WO.q (.as (v := .bool _) rfl) rfl rfl ?_
      refine WO.nil ?_
      obtain rfl := Option.some.inj h
      exact WX.ret (rs_ (rs_tmp rfl rs_nil)) fun st hp => ⟨(hp.pk [] (by decide)).le hB, rfl⟩
  · have q_k3 := of_decide_eq_false k3
    replace h := (if_neg q_k3).symm.trans h
    refine WO.sd (wg rfl rfl (gtn k3)) rfl ?_
    refine WO.sd (wg rfl rfl (gtn k3)) rfl ?_
    refine WO.sd (wg rfl rfl (gtn k3)) rfl ?_
    refine WO.sd (wg rfl rfl (gtn k3)) rfl ?_
    refine WO.sd (wg rfl rfl (gtn k3)) rfl ?_
    refine WO.q (.pfv (v := .bool _) rfl k3 rfl) rfl rfl ?_
    refine WO.q (.mv (v := .bool _) rfl) rfl rfl ?_
    refine WO.sd (wg rfl rfl (gtn rfl)) rfl ?_
    refine WO.sd (wg rfl rfl (gtn rfl)) rfl ?_
    refine WO.sd (wg rfl rfl (gtn rfl)) rfl ?_
    refine WO.sd (wg rfl rfl (gtn rfl)) rfl ?_
    refine WO.sd (wg rfl rfl (gtn rfl)) rfl ?_
    refine WO.q (.pfv (v := .bool _) rfl rfl rfl) rfl rfl ?_
    refine WO.q (.mv (v := .bool _) rfl) rfl rfl ?_
    refine WO.sd (wg rfl rfl (gtn rfl)) rfl ?_
    refine WO.sd (wg rfl rfl (gtn rfl)) rfl ?_
    refine WO.sd (wg rfl rfl (gtn rfl)) rfl ?_
    refine WO.sd (wg rfl rfl (gtn rfl)) rfl ?_
    refine WO.sd (wg rfl rfl (gtn rfl)) rfl ?_
    refine WO.q (.pfv (v := .bool _) rfl rfl rfl) rfl rfl ?_
    refine WO.q (.mv (v := .bool _) rfl) rfl rfl ?_
    refine WO.sd (wg rfl rfl (gtn rfl)) rfl ?_
    refine WO.sd (wg rfl rfl (gtn rfl)) rfl ?_
    refine WO.sd (wg rfl rfl (gtn rfl)) rfl ?_
    refine WO.sd (wg rfl rfl (gtn rfl)) rfl ?_
    refine WO.sd (wg rfl rfl (gtn rfl)) rfl ?_
    refine WO.q (.pfv (v := .bool _) rfl rfl rfl) rfl rfl ?_
    refine WO.q (.as (v := .bool _) rfl) rfl rfl ?_
    refine WO.nil ?_
    obtain rfl := Option.some.inj h
    exact WX.ret (rs_ (rs_tmp rfl rs_nil)) fun st hp => ⟨(hp.pk [] (by decide)).le hB, rfl⟩
end Gab
