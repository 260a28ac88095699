/- The Go code comes to what the Lean functions say. Written by a program (gp.py). -/
import Derived.Test.YtdkldojcpncnhaaFd
import Derived.Test.YtdkldojcpncnhaaTy
import Derived.Test.YtdkldojcpncnhaaFpExt0
import Derived.Test.YtdkldojcpncnhaaFpExt1
import Derived.Test.YtdkldojcpncnhaaFpLe0
import Derived.Test.YtdkldojcpncnhaaFpStrings0
set_option linter.unusedSimpArgs false
set_option linter.unusedVariables false
set_option maxHeartbeats 4000000
set_option maxRecDepth 100000
namespace Gab
open Go Go.Proofs
def inode_Need_P (B : Kn) (L : Own) (r : Int) : AV → St → Prop := CS B L fun v => v = .int .i64 r
theorem inode_Need_ok {B0 : Kn} {L : Own} {a0 : Int} {r : Int} (h : inode_Need a0 = some r) : ∀ st, Hp B0 L st → ASpec Try.prog 54 [.int .i64 a0] st (inode_Need_P B0 L r) := by
  unfold inode_Need at h
  refine bodyA (A := []) Try.func54 rfl (c := bodyOf Try.f54) rfl Try.ntmps54 (lb rfl) fun n0 => ?_
  have hB := KLe.refl B0
  refine WX.seq ?_
  refine WX.reg ?_
  refine WO.q (.as (v := .int _ _) rfl) rfl rfl ?_
  refine WO.nil ?_
  refine WX.seq ?_
  refine WX.seq ?_
  refine WX.reg ?_
  refine WO.q (.mv (v := .int _ _) rfl) rfl rfl ?_
  refine WO.q (.r fun _ => rfl) rfl rfl ?_
  refine WO.nil ?_
  rcases bsp (decide (a0 < 1)) with k1 | k1
  · have q_k1 := of_decide_eq_true k1
    replace h := (if_pos q_k1).symm.trans h
    refine WX.condT rfl k1 ?_
    refine WX.seq ?_
    refine WX.reg ?_
    refine WO.q (.as (v := .int _ _) rfl) rfl rfl ?_
    refine WO.nil ?_
    obtain rfl := Option.some.inj h
    exact WX.ret (rs_ (rs_tmp rfl rs_nil)) fun st hp => ⟨(hp.pk [] (by decide)).le hB, rfl⟩
  · have q_k1 := of_decide_eq_false k1
    replace h := (if_neg q_k1).symm.trans h
    refine WX.condF rfl k1 ?_
    refine WX.skip ?_
    refine WX.seq ?_
    refine WX.reg ?_
    refine WO.q (.mv (v := .int _ _) rfl) rfl rfl ?_
    refine WO.q (.r fun _ => rfl) rfl rfl ?_
    refine WO.q (.r fun _ => rfl) rfl rfl ?_
    refine WO.q (.r fun _ => rfl) rfl rfl ?_
    refine WO.q (.as (v := .int _ _) rfl) rfl rfl ?_
    refine WO.nil ?_
    obtain rfl := Option.some.inj h
    exact WX.ret (rs_ (rs_tmp rfl rs_nil)) fun st hp => ⟨(hp.pk [] (by decide)).le hB, rfl⟩
def inode_Inode_file_P (B : Kn) (L : Own) (r : Bool) : AV → St → Prop := CS B L fun v => v = .bool r
theorem inode_Inode_file_ok {B0 : Kn} {L : Own} {a0 : Int × Int × Int × (List (Int × Int)) × (List UInt8)} {v0_0 : AV} {r : Bool} (g0_0 : RSl EPIi64Ii64Q B0 v0_0 a0.2.2.2.1) (h : inode_Inode_file a0 = some r) : ∀ st, Hp B0 L st → ASpec Try.prog 81 [.agg [.int .u8 a0.1, .int .i64 a0.2.1, .int .i64 a0.2.2.1, v0_0, .str a0.2.2.2.2]] st (inode_Inode_file_P B0 L r) := by
  unfold inode_Inode_file at h
  refine bodyA (A := []) Try.func81 rfl (c := bodyOf Try.f81) rfl Try.ntmps81 (lb rfl) fun n0 => ?_
  have hB := KLe.refl B0
  obtain ⟨_, _, _, _, _, rfl⟩ := g0_0.isl
  refine WX.seq ?_
  refine WX.reg ?_
  refine WO.md (MOp.box (cA rfl)) rfl rfl ?_
  rintro _ _ ⟨b1, rfl, rfl⟩
  refine WO.q (.as (v := .bool _) rfl) rfl rfl ?_
  refine WO.nil ?_
  refine WX.seq ?_
  refine WX.drw (Plan.of [0, 1, 2, 3, 4, 5, 6, 7, 8, 9, 10, 11, 12, 13, 14, 15, 17, 18, 16, 19, 20, 21, 22, 23, 24, 25, 26, 27] .nil) _ mixed (by kernel_rfl) rfl (pk_sub [0]) ?_
  refine WP.q (i := 0) rfl (.fa (fa86_2 _ _)) rfl rfl rfl ?_
  refine WP.q (i := 1) rfl (.ldS (i := 0) rfl rfl rfl ti3 rfl) rfl rfl rfl ?_
  refine WP.q (i := 2) rfl (.r fun _ => rfl) rfl rfl rfl ?_
  refine WP.q (i := 3) rfl (.mv (v := .bool _) rfl) rfl rfl rfl ?_
  rcases bsp (decide (0 ≤ a0.2.2.1)) with k2 | k2
  · have q_k2 := of_decide_eq_true k2
    replace h := (if_pos q_k2).symm.trans h
    refine WP.q (i := 4) rfl (.fa (fa86_2 _ _)) rfl (wg rfl rfl (gt k2)) rfl ?_
    refine WP.q (i := 5) rfl (.ldS (i := 0) rfl rfl rfl ti3 rfl) rfl (wg rfl rfl (gt k2)) rfl ?_
    refine WP.q (i := 6) rfl (.r fun _ => rfl) rfl (wg rfl rfl (gt k2)) rfl ?_
    refine WP.q (i := 7) rfl (.ptv (v := .bool _) rfl k2 rfl) rfl rfl rfl ?_
    refine WP.q (i := 8) rfl (.mv (v := .bool _) rfl) rfl rfl rfl ?_
    rcases bsp (decide (a0.2.2.1 ≤ 4194304)) with k3 | k3
    · have q_k3 := of_decide_eq_true k3
      replace h := (if_pos q_k3).symm.trans h
      refine WP.q (i := 9) rfl (.fa (fa86_3 _ _)) rfl (wg rfl rfl (gt k3)) rfl ?_
      refine WP.q (i := 10) rfl (.ldS (i := 0) rfl rfl rfl ti44 rfl) rfl (wg rfl rfl (gt k3)) rfl ?_
      obtain ⟨y4, hy4, h⟩ := Option.bind_eq_some_iff.1 h
      refine WP.cS (i := 11) rfl rfl rfl (ext_List_Right_ok g0_0 hy4) rfl (wg rfl rfl (gt k3)) rfl ?_
      rintro _ rfl
      refine WP.q (i := 12) rfl (.ptv (v := .bool _) rfl k3 rfl) rfl rfl rfl ?_
      refine WP.q (i := 13) rfl (.mv (v := .bool _) rfl) rfl rfl rfl ?_
      rcases bsp y4 with k5 | k5
      · replace h := (if_pos k5).symm.trans h
        refine WP.q (i := 14) rfl (.fa (fa86_3 _ _)) rfl (wg rfl rfl (gt k5)) rfl ?_
        refine WP.q (i := 15) rfl (.ldS (i := 0) rfl rfl rfl ti44 rfl) rfl (wg rfl rfl (gt k5)) rfl ?_
        refine WP.q (i := 17) rfl (.fa (fa86_2 _ _)) rfl (wg rfl rfl (gt k5)) rfl ?_
        refine WP.q (i := 18) rfl (.ldS (i := 0) rfl rfl rfl ti3 rfl) rfl (wg rfl rfl (gt k5)) rfl ?_
        obtain ⟨y6, hy6, h⟩ := Option.bind_eq_some_iff.1 h
        refine WP.cS (i := 16) rfl rfl rfl (ext_List_Blocks_ok g0_0 hy6) rfl (wg rfl rfl (gt k5)) rfl ?_
        rintro _ rfl
        obtain ⟨y7, hy7, h⟩ := Option.bind_eq_some_iff.1 h
        refine WP.cS (i := 19) rfl rfl rfl (inode_Need_ok hy7) rfl (wg rfl rfl (gt k5)) rfl ?_
        rintro _ rfl
        refine WP.q (i := 20) rfl (.r fun _ => rfl) rfl (wg rfl rfl (gt k5)) rfl ?_
        refine WP.q (i := 21) rfl (.ptv (v := .bool _) rfl k5 rfl) rfl rfl rfl ?_
        refine WP.q (i := 22) rfl (.mv (v := .bool _) rfl) rfl rfl rfl ?_
        rcases bsp (decide (y6 = y7)) with k8 | k8
        · have q_k8 := of_decide_eq_true k8
          replace h := (if_pos q_k8).symm.trans h
          refine WP.q (i := 23) rfl (.fa (fa86_4 _ _)) rfl (wg rfl rfl (gt k8)) rfl ?_
          refine WP.q (i := 24) rfl (.ldS (i := 0) rfl rfl rfl ti9 rfl) rfl (wg rfl rfl (gt k8)) rfl ?_
          refine WP.q (i := 25) rfl (.r fun _ => rfl) rfl (wg rfl rfl (gt k8)) rfl ?_
          refine WP.q (i := 26) rfl (.ptv (v := .bool _) rfl k8 rfl) rfl rfl rfl ?_
          refine WP.q (i := 27) rfl (.as (v := .bool _) rfl) rfl rfl rfl ?_
          refine WP.nil ?_
          obtain rfl := Option.some.inj h
          exact WX.ret (rs_ (rs_tmp rfl rs_nil)) fun st hp => ⟨(hp.pk [] (by decide)).le hB, rfl⟩
        · have q_k8 := of_decide_eq_false k8
          replace h := (if_neg q_k8).symm.trans h
          refine WP.sk (i := 23) rfl rfl (wg rfl rfl (gtn k8)) rfl ?_
          refine WP.sk (i := 24) rfl rfl (wg rfl rfl (gtn k8)) rfl ?_
          refine WP.sk (i := 25) rfl rfl (wg rfl rfl (gtn k8)) rfl ?_
          refine WP.q (i := 26) rfl (.pfv (v := .bool _) rfl k8 rfl) rfl rfl rfl ?_
          refine WP.q (i := 27) rfl (.as (v := .bool _) rfl) rfl rfl rfl ?_
          refine WP.nil ?_
          obtain rfl := Option.some.inj h
          exact WX.ret (rs_ (rs_tmp rfl rs_nil)) fun st hp => ⟨(hp.pk [] (by decide)).le hB, rfl⟩
      · replace h := (if_neg (bnt k5)).symm.trans h
        refine WP.sk (i := 14) rfl rfl (wg rfl rfl (gtn k5)) rfl ?_
        refine WP.sk (i := 15) rfl rfl (wg rfl rfl (gtn k5)) rfl ?_
        refine WP.sk (i := 17) rfl rfl (wg rfl rfl (gtn k5)) rfl ?_
        refine WP.sk (i := 18) rfl rfl (wg rfl rfl (gtn k5)) rfl ?_
        refine WP.sd (i := 16) rfl rfl (wg rfl rfl (gtn k5)) rfl ?_
        refine WP.sd (i := 19) rfl rfl (wg rfl rfl (gtn k5)) rfl ?_
        refine WP.sk (i := 20) rfl rfl (wg rfl rfl (gtn k5)) rfl ?_
        refine WP.q (i := 21) rfl (.pfv (v := .bool _) rfl k5 rfl) rfl rfl rfl ?_
        refine WP.q (i := 22) rfl (.mv (v := .bool _) rfl) rfl rfl rfl ?_
        refine WP.sk (i := 23) rfl rfl (wg rfl rfl (gtn rfl)) rfl ?_
        refine WP.sk (i := 24) rfl rfl (wg rfl rfl (gtn rfl)) rfl ?_
        refine WP.sk (i := 25) rfl rfl (wg rfl rfl (gtn rfl)) rfl ?_
        refine WP.q (i := 26) rfl (.pfv (v := .bool _) rfl rfl rfl) rfl rfl rfl ?_
        refine WP.q (i := 27) rfl (.as (v := .bool _) rfl) rfl rfl rfl ?_
        refine WP.nil ?_
        obtain rfl := Option.some.inj h
        exact WX.ret (rs_ (rs_tmp rfl rs_nil)) fun st hp => ⟨(hp.pk [] (by decide)).le hB, rfl⟩
    · have q_k3 := of_decide_eq_false k3
      replace h := (if_neg q_k3).symm.trans h
      refine WP.sk (i := 9) rfl rfl (wg rfl rfl (gtn k3)) rfl ?_
      refine WP.sk (i := 10) rfl rfl (wg rfl rfl (gtn k3)) rfl ?_
      refine WP.sd (i := 11) rfl rfl (wg rfl rfl (gtn k3)) rfl ?_
      refine WP.q (i := 12) rfl (.pfv (v := .bool _) rfl k3 rfl) rfl rfl rfl ?_
      refine WP.q (i := 13) rfl (.mv (v := .bool _) rfl) rfl rfl rfl ?_
      refine WP.sk (i := 14) rfl rfl (wg rfl rfl (gtn rfl)) rfl ?_
      refine WP.sk (i := 15) rfl rfl (wg rfl rfl (gtn rfl)) rfl ?_
      refine WP.sk (i := 17) rfl rfl (wg rfl rfl (gtn rfl)) rfl ?_
      refine WP.sk (i := 18) rfl rfl (wg rfl rfl (gtn rfl)) rfl ?_
      refine WP.sd (i := 16) rfl rfl (wg rfl rfl (gtn rfl)) rfl ?_
      refine WP.sd (i := 19) rfl rfl (wg rfl rfl (gtn rfl)) rfl ?_
      refine WP.sk (i := 20) rfl rfl (wg rfl rfl (gtn rfl)) rfl ?_
      refine WP.q (i := 21) rfl (.pfv (v := .bool _) rfl rfl rfl) rfl rfl rfl ?_
      refine WP.q (i := 22) rfl (.mv (v := .bool _) rfl) rfl rfl rfl ?_
      refine WP.sk (i := 23) rfl rfl (wg rfl rfl (gtn rfl)) rfl ?_
      refine WP.sk (i := 24) rfl rfl (wg rfl rfl (gtn rfl)) rfl ?_
      refine WP.sk (i := 25) rfl rfl (wg rfl rfl (gtn rfl)) rfl ?_
      refine WP.q (i := 26) rfl (.pfv (v := .bool _) rfl rfl rfl) rfl rfl rfl ?_
      refine WP.q (i := 27) rfl (.as (v := .bool _) rfl) rfl rfl rfl ?_
      refine WP.nil ?_
      obtain rfl := Option.some.inj h
      exact WX.ret (rs_ (rs_tmp rfl rs_nil)) fun st hp => ⟨(hp.pk [] (by decide)).le hB, rfl⟩
  · have q_k2 := of_decide_eq_false k2
    replace h := (if_neg q_k2).symm.trans h
    refine WP.sk (i := 4) rfl rfl (wg rfl rfl (gtn k2)) rfl ?_
    refine WP.sk (i := 5) rfl rfl (wg rfl rfl (gtn k2)) rfl ?_
    refine WP.sk (i := 6) rfl rfl (wg rfl rfl (gtn k2)) rfl ?_
    refine WP.q (i := 7) rfl (.pfv (v := .bool _) rfl k2 rfl) rfl rfl rfl ?_
    refine WP.q (i := 8) rfl (.mv (v := .bool _) rfl) rfl rfl rfl ?_
    refine WP.sk (i := 9) rfl rfl (wg rfl rfl (gtn rfl)) rfl ?_
    refine WP.sk (i := 10) rfl rfl (wg rfl rfl (gtn rfl)) rfl ?_
    refine WP.sd (i := 11) rfl rfl (wg rfl rfl (gtn rfl)) rfl ?_
    refine WP.q (i := 12) rfl (.pfv (v := .bool _) rfl rfl rfl) rfl rfl rfl ?_
    refine WP.q (i := 13) rfl (.mv (v := .bool _) rfl) rfl rfl rfl ?_
    refine WP.sk (i := 14) rfl rfl (wg rfl rfl (gtn rfl)) rfl ?_
    refine WP.sk (i := 15) rfl rfl (wg rfl rfl (gtn rfl)) rfl ?_
    refine WP.sk (i := 17) rfl rfl (wg rfl rfl (gtn rfl)) rfl ?_
    refine WP.sk (i := 18) rfl rfl (wg rfl rfl (gtn rfl)) rfl ?_
    refine WP.sd (i := 16) rfl rfl (wg rfl rfl (gtn rfl)) rfl ?_
    refine WP.sd (i := 19) rfl rfl (wg rfl rfl (gtn rfl)) rfl ?_
    refine WP.sk (i := 20) rfl rfl (wg rfl rfl (gtn rfl)) rfl ?_
    refine WP.q (i := 21) rfl (.pfv (v := .bool _) rfl rfl rfl) rfl rfl rfl ?_
    refine WP.q (i := 22) rfl (.mv (v := .bool _) rfl) rfl rfl rfl ?_
    refine WP.sk (i := 23) rfl rfl (wg rfl rfl (gtn rfl)) rfl ?_
    refine WP.sk (i := 24) rfl rfl (wg rfl rfl (gtn rfl)) rfl ?_
    refine WP.sk (i := 25) rfl rfl (wg rfl rfl (gtn rfl)) rfl ?_
    refine WP.q (i := 26) rfl (.pfv (v := .bool _) rfl rfl rfl) rfl rfl rfl ?_
    refine WP.q (i := 27) rfl (.as (v := .bool _) rfl) rfl rfl rfl ?_
    refine WP.nil ?_
    obtain rfl := Option.some.inj h
    exact WX.ret (rs_ (rs_tmp rfl rs_nil)) fun st hp => ⟨(hp.pk [] (by decide)).le hB, rfl⟩
def inode_Inode_link_P (B : Kn) (L : Own) (r : Bool) : AV → St → Prop := CS B L fun v => v = .bool r
theorem inode_Inode_link_ok {B0 : Kn} {L : Own} {a0 : Int × Int × Int × (List (Int × Int)) × (List UInt8)} {v0_0 : AV} {r : Bool} (g0_0 : RSl EPIi64Ii64Q B0 v0_0 a0.2.2.2.1) (h : inode_Inode_link a0 = some r) : ∀ st, Hp B0 L st → ASpec Try.prog 82 [.agg [.int .u8 a0.1, .int .i64 a0.2.1, .int .i64 a0.2.2.1, v0_0, .str a0.2.2.2.2]] st (inode_Inode_link_P B0 L r) := by
  unfold inode_Inode_link at h
  refine bodyA (A := []) Try.func82 rfl (c := bodyOf Try.f82) rfl Try.ntmps82 (lb rfl) fun n0 => ?_
  have hB := KLe.refl B0
  obtain ⟨_, _, _, _, _, rfl⟩ := g0_0.isl
  refine WX.seq ?_
  refine WX.reg ?_
  refine WO.md (MOp.box (cA rfl)) rfl rfl ?_
  rintro _ _ ⟨b1, rfl, rfl⟩
  refine WO.q (.as (v := .bool _) rfl) rfl rfl ?_
  refine WO.nil ?_
  refine WX.seq ?_
  refine WX.reg ?_
  refine WO.q (.fa (fa86_4 _ _)) rfl rfl ?_
  refine WO.q (.ldS (i := 0) rfl rfl rfl ti9 rfl) rfl rfl ?_
  refine WO.q (.len rfl rfl rfl (evslen ti9 rfl _)) rfl rfl ?_
  refine WO.q (.as (v := .int _ _) rfl) rfl rfl ?_
  refine WO.nil ?_
  refine WX.seq ?_
  refine WX.reg ?_
  refine WO.q (.mv (v := .int _ _) rfl) rfl rfl ?_
  refine WO.q (.r fun _ => rfl) rfl rfl ?_
  refine WO.q (.mv (v := .bool _) rfl) rfl rfl ?_
  rcases bsp (decide (1 ≤ (a0.2.2.2.2.length : Int))) with k2 | k2
  · have q_k2 := of_decide_eq_true k2
    replace h := (if_pos q_k2).symm.trans h
    refine WO.q (.mv (v := .int _ _) rfl) (wg rfl rfl (gt k2)) rfl ?_
    refine WO.q (.r fun _ => rfl) (wg rfl rfl (gt k2)) rfl ?_
    refine WO.q (.ptv (v := .bool _) rfl k2 rfl) rfl rfl ?_
    refine WO.q (.mv (v := .bool _) rfl) rfl rfl ?_
    rcases bsp (decide ((a0.2.2.2.2.length : Int) ≤ 256)) with k3 | k3
    · have q_k3 := of_decide_eq_true k3
      replace h := (if_pos q_k3).symm.trans h
      refine WO.q (.fa (fa86_2 _ _)) (wg rfl rfl (gt k3)) rfl ?_
      refine WO.q (.ldS (i := 0) rfl rfl rfl ti3 rfl) (wg rfl rfl (gt k3)) rfl ?_
      refine WO.q (.mv (v := .int _ _) rfl) (wg rfl rfl (gt k3)) rfl ?_
      refine WO.q (.r fun _ => rfl) (wg rfl rfl (gt k3)) rfl ?_
      refine WO.q (.ptv (v := .bool _) rfl k3 rfl) rfl rfl ?_
      refine WO.q (.mv (v := .bool _) rfl) rfl rfl ?_
      rcases bsp (decide (a0.2.2.1 = (a0.2.2.2.2.length : Int))) with k4 | k4
      · have q_k4 := of_decide_eq_true k4
        replace h := (if_pos q_k4).symm.trans h
        refine WO.q (.fa (fa86_3 _ _)) (wg rfl rfl (gt k4)) rfl ?_
        refine WO.q (.ldS (i := 0) rfl rfl rfl ti44 rfl) (wg rfl rfl (gt k4)) rfl ?_
        refine WO.q (.len rfl rfl rfl (sl44.len g0_0.isl)) (wg rfl rfl (gt k4)) rfl ?_
        refine WO.q (.r fun _ => rfl) (wg rfl rfl (gt k4)) rfl ?_
        refine WO.q (.ptv (v := .bool _) rfl k4 rfl) rfl rfl ?_
        refine WO.q (.mv (v := .bool _) rfl) rfl rfl ?_
        rcases bsp (decide ((a0.2.2.2.1.length : Int) = 0)) with k5 | k5
        · have q_k5 := of_decide_eq_true k5
          replace h := (if_pos q_k5).symm.trans h
          refine WO.q (.fa (fa86_4 _ _)) (wg rfl rfl (gt k5)) rfl ?_
          refine WO.q (.ldS (i := 0) rfl rfl rfl ti9 rfl) (wg rfl rfl (gt k5)) rfl ?_
          obtain ⟨y6, hy6, h⟩ := Option.bind_eq_some_iff.1 h
          refine WO.cS rfl rfl (strings_Contains_ok hy6) rfl (wg rfl rfl (gt k5)) rfl ?_
          rintro _ rfl
          refine WO.q (.r fun _ => rfl) (wg rfl rfl (gt k5)) rfl ?_
          refine WO.q (.ptv (v := .bool _) rfl k5 rfl) rfl rfl ?_
          refine WO.q (.as (v := .bool _) rfl) rfl rfl ?_
          refine WO.nil ?_
          obtain rfl := Option.some.inj h
          exact WX.ret (rs_ (rs_tmp rfl rs_nil)) fun st hp => ⟨(hp.pk [] (by decide)).le hB, rfl⟩
        · have q_k5 := of_decide_eq_false k5
          replace h := (if_neg q_k5).symm.trans h
          refine WO.sd (wg rfl rfl (gtn k5)) rfl ?_
          refine WO.sd (wg rfl rfl (gtn k5)) rfl ?_
          refine WO.sd (wg rfl rfl (gtn k5)) rfl ?_
          refine WO.sd (wg rfl rfl (gtn k5)) rfl ?_
          refine WO.q (.pfv (v := .bool _) rfl k5 rfl) rfl rfl ?_
          refine WO.q (.as (v := .bool _) rfl) rfl rfl ?_
          refine WO.nil ?_
          obtain rfl := Option.some.inj h
          exact WX.ret (rs_ (rs_tmp rfl rs_nil)) fun st hp => ⟨(hp.pk [] (by decide)).le hB, rfl⟩
      · have q_k4 := of_decide_eq_false k4
        replace h := (if_neg q_k4).symm.trans h
        refine WO.sd (wg rfl rfl (gtn k4)) rfl ?_
        refine WO.sd (wg rfl rfl (gtn k4)) rfl ?_
        refine WO.sd (wg rfl rfl (gtn k4)) rfl ?_
        refine WO.sd (wg rfl rfl (gtn k4)) rfl ?_
        refine WO.q (.pfv (v := .bool _) rfl k4 rfl) rfl rfl ?_
        refine WO.q (.mv (v := .bool _) rfl) rfl rfl ?_
        refine WO.sd (wg rfl rfl (gtn rfl)) rfl ?_
        refine WO.sd (wg rfl rfl (gtn rfl)) rfl ?_
        refine WO.sd (wg rfl rfl (gtn rfl)) rfl ?_
        refine WO.sd (wg rfl rfl (gtn rfl)) rfl ?_
        refine WO.q (.pfv (v := .bool _) rfl rfl rfl) rfl rfl ?_
        refine WO.q (.as (v := .bool _) rfl) rfl rfl ?_
        refine WO.nil ?_
        obtain rfl := Option.some.inj h
        exact WX.ret (rs_ (rs_tmp rfl rs_nil)) fun st hp => ⟨(hp.pk [] (by decide)).le hB, rfl⟩
    · have q_k3 := of_decide_eq_false k3
      replace h := (if_neg q_k3).symm.trans h
      refine WO.sd (wg rfl rfl (gtn k3)) rfl ?_
      refine WO.sd (wg rfl rfl (gtn k3)) rfl ?_
      refine WO.sd (wg rfl rfl (gtn k3)) rfl ?_
      refine WO.sd (wg rfl rfl (gtn k3)) rfl ?_
      refine WO.q (.pfv (v := .bool _) rfl k3 rfl) rfl rfl ?_
      refine WO.q (.mv (v := .bool _) rfl) rfl rfl ?_
      refine WO.sd (wg rfl rfl (gtn rfl)) rfl ?_
      refine WO.sd (wg rfl rfl (gtn rfl)) rfl ?_
      refine WO.sd (wg rfl rfl (gtn rfl)) rfl ?_
      refine WO.sd (wg rfl rfl (gtn rfl)) rfl ?_
      refine WO.q (.pfv (v := .bool _) rfl rfl rfl) rfl rfl ?_
      refine WO.q (.mv (v := .bool _) rfl) rfl rfl ?_
      refine WO.sd (wg rfl rfl (gtn rfl)) rfl ?_
      refine WO.sd (wg rfl rfl (gtn rfl)) rfl ?_
      refine WO.sd (wg rfl rfl (gtn rfl)) rfl ?_
      refine WO.sd (wg rfl rfl (gtn rfl)) rfl ?_
      refine WO.q (.pfv (v := .bool _) rfl rfl rfl) rfl rfl ?_
      refine WO.q (.as (v := .bool _) rfl) rfl rfl ?_
      refine WO.nil ?_
      obtain rfl := Option.some.inj h
      exact WX.ret (rs_ (rs_tmp rfl rs_nil)) fun st hp => ⟨(hp.pk [] (by decide)).le hB, rfl⟩
  · have q_k2 := of_decide_eq_false k2
    replace h := (if_neg q_k2).symm.trans h
    refine WO.sd (wg rfl rfl (gtn k2)) rfl ?_
    refine WO.sd (wg rfl rfl (gtn k2)) rfl ?_
    refine WO.q (.pfv (v := .bool _) rfl k2 rfl) rfl rfl ?_
    refine WO.q (.mv (v := .bool _) rfl) rfl rfl ?_
    refine WO.sd (wg rfl rfl (gtn rfl)) rfl ?_
    refine WO.sd (wg rfl rfl (gtn rfl)) rfl ?_
    refine WO.sd (wg rfl rfl (gtn rfl)) rfl ?_
    refine WO.sd (wg rfl rfl (gtn rfl)) rfl ?_
    refine WO.q (.pfv (v := .bool _) rfl rfl rfl) rfl rfl ?_
    refine WO.q (.mv (v := .bool _) rfl) rfl rfl ?_
    refine WO.sd (wg rfl rfl (gtn rfl)) rfl ?_
    refine WO.sd (wg rfl rfl (gtn rfl)) rfl ?_
    refine WO.sd (wg rfl rfl (gtn rfl)) rfl ?_
    refine WO.sd (wg rfl rfl (gtn rfl)) rfl ?_
    refine WO.q (.pfv (v := .bool _) rfl rfl rfl) rfl rfl ?_
    refine WO.q (.mv (v := .bool _) rfl) rfl rfl ?_
    refine WO.sd (wg rfl rfl (gtn rfl)) rfl ?_
    refine WO.sd (wg rfl rfl (gtn rfl)) rfl ?_
    refine WO.sd (wg rfl rfl (gtn rfl)) rfl ?_
    refine WO.sd (wg rfl rfl (gtn rfl)) rfl ?_
    refine WO.q (.pfv (v := .bool _) rfl rfl rfl) rfl rfl ?_
    refine WO.q (.as (v := .bool _) rfl) rfl rfl ?_
    refine WO.nil ?_
    obtain rfl := Option.some.inj h
    exact WX.ret (rs_ (rs_tmp rfl rs_nil)) fun st hp => ⟨(hp.pk [] (by decide)).le hB, rfl⟩
def inode_Inode_Right_P (B : Kn) (L : Own) (r : Bool) : AV → St → Prop := CS B L fun v => v = .bool r
def inode_Inode_Right_j1_I (B0 : Kn) (x10 : Bool) (zb1 : Int × Int × Int × (List (Int × Int)) × (List UInt8)) : Fr → Kn → Own → Prop := fun fr B A => KLe B0 B ∧ ∃ b3 v4, RSl EPIi64Ii64Q B v4 zb1.2.2.2.1 ∧ fr = [(1, .ptr b3 0), (10, .bool x10)] ∧ A = [(b3, some [.int .u8 zb1.1, .int .i64 zb1.2.1, .int .i64 zb1.2.2.1, v4, .str zb1.2.2.2.2])]
theorem inode_Inode_Right_j1_ok {B0 : Kn} {L : Own} {n0 : Nat} {x10 : Bool} {zb1 : Int × Int × Int × (List (Int × Int)) × (List UInt8)} {r : Bool} (h : inode_Inode_Right_j1 x10 zb1 = some r) : WXI Try.prog 37 n0 (Fin Try.prog Try.f49.results.toList n0 (inode_Inode_Right_P B0 L r)) [.code (ct [1, 0, 1] (bodyOf Try.f49)), .code (ct [1, 1] (bodyOf Try.f49))] (inode_Inode_Right_j1_I B0 x10 zb1) L := by
  unfold inode_Inode_Right_j1 at h
  rintro _ B _ ⟨hB, b3, v4, h4, rfl, rfl⟩
  obtain ⟨_, _, _, _, _, rfl⟩ := h4.isl
  rcases bsp x10 with k5 | k5
  · replace h := (if_pos k5).symm.trans h
    refine WX.condT rfl k5 ?_
    refine WX.seq ?_
    refine WX.reg ?_
    refine WO.q (.as (v := .bool _) rfl) rfl rfl ?_
    refine WO.nil ?_
    obtain rfl := Option.some.inj h
    exact WX.ret (rs_ (rs_tmp rfl rs_nil)) fun st hp => ⟨(hp.pk [] (by decide)).le hB, rfl⟩
  · replace h := (if_neg (bnt k5)).symm.trans h
    refine WX.condF rfl k5 ?_
    refine WX.skip ?_
    refine WX.seq ?_
    refine WX.seq ?_
    refine WX.reg ?_
    refine WO.q (.fa (fa86_0 _ _)) rfl rfl ?_
    refine WO.q (.ldS (i := 0) rfl rfl rfl ti84 rfl) rfl rfl ?_
    refine WO.nil ?_
    refine WX.block ?_
    refine WX.seq ?_
    refine WX.reg ?_
    refine WO.q (.r fun _ => rfl) rfl rfl ?_
    refine WO.q (.as (v := .bool _) rfl) rfl rfl ?_
    refine WO.nil ?_
    rcases bsp (decide (zb1.1 = 1)) with k6 | k6
    · have q_k6 := of_decide_eq_true k6
      replace h := (if_pos q_k6).symm.trans h
      refine WX.condT rfl k6 ?_
      refine WX.seq ?_
      refine WX.reg ?_
      refine WO.q (.ldA (i := 0) rfl rfl rfl ti86 rfl) rfl rfl ?_
      obtain ⟨y7, hy7, h⟩ := Option.bind_eq_some_iff.1 h
      refine WO.cS rfl rfl (inode_Inode_file_ok h4 hy7) rfl rfl rfl ?_
      rintro _ rfl
      refine WO.q (.as (v := .bool _) rfl) rfl rfl ?_
      refine WO.nil ?_
      obtain rfl := Option.some.inj h
      exact WX.ret (rs_ (rs_tmp rfl rs_nil)) fun st hp => ⟨(hp.pk [] (by decide)).le hB, rfl⟩
    · have q_k6 := of_decide_eq_false k6
      replace h := (if_neg q_k6).symm.trans h
      refine WX.condF rfl k6 ?_
      refine WX.seq ?_
      refine WX.reg ?_
      refine WO.q (.r fun _ => rfl) rfl rfl ?_
      refine WO.q (.as (v := .bool _) rfl) rfl rfl ?_
      refine WO.nil ?_
      rcases bsp (decide (zb1.1 = 2)) with k8 | k8
      · have q_k8 := of_decide_eq_true k8
        replace h := (if_pos q_k8).symm.trans h
        refine WX.condT rfl k8 ?_
        refine WX.seq ?_
        refine WX.reg ?_
        refine WO.q (.fa (fa86_2 _ _)) rfl rfl ?_
        refine WO.q (.ldS (i := 0) rfl rfl rfl ti3 rfl) rfl rfl ?_
        refine WO.q (.r fun _ => rfl) rfl rfl ?_
        refine WO.q (.mv (v := .bool _) rfl) rfl rfl ?_
        rcases bsp (decide (zb1.2.2.1 = 0)) with k9 | k9
        · have q_k9 := of_decide_eq_true k9
          replace h := (if_pos q_k9).symm.trans h
          refine WO.q (.fa (fa86_3 _ _)) (wg rfl rfl (gt k9)) rfl ?_
          refine WO.q (.ldS (i := 0) rfl rfl rfl ti44 rfl) (wg rfl rfl (gt k9)) rfl ?_
          refine WO.q (.len rfl rfl rfl (sl44.len h4.isl)) (wg rfl rfl (gt k9)) rfl ?_
          refine WO.q (.r fun _ => rfl) (wg rfl rfl (gt k9)) rfl ?_
          refine WO.q (.ptv (v := .bool _) rfl k9 rfl) rfl rfl ?_
          refine WO.q (.mv (v := .bool _) rfl) rfl rfl ?_
          rcases bsp (decide ((zb1.2.2.2.1.length : Int) = 0)) with k10 | k10
          · have q_k10 := of_decide_eq_true k10
            replace h := (if_pos q_k10).symm.trans h
            refine WO.q (.fa (fa86_4 _ _)) (wg rfl rfl (gt k10)) rfl ?_
            refine WO.q (.ldS (i := 0) rfl rfl rfl ti9 rfl) (wg rfl rfl (gt k10)) rfl ?_
            refine WO.q (.r fun _ => rfl) (wg rfl rfl (gt k10)) rfl ?_
            refine WO.q (.ptv (v := .bool _) rfl k10 rfl) rfl rfl ?_
            refine WO.q (.as (v := .bool _) rfl) rfl rfl ?_
            refine WO.nil ?_
            obtain rfl := Option.some.inj h
            exact WX.ret (rs_ (rs_tmp rfl rs_nil)) fun st hp => ⟨(hp.pk [] (by decide)).le hB, rfl⟩
          · have q_k10 := of_decide_eq_false k10
            replace h := (if_neg q_k10).symm.trans h
            refine WO.sd (wg rfl rfl (gtn k10)) rfl ?_
            refine WO.sd (wg rfl rfl (gtn k10)) rfl ?_
            refine WO.sd (wg rfl rfl (gtn k10)) rfl ?_
            refine WO.q (.pfv (v := .bool _) rfl k10 rfl) rfl rfl ?_
            refine WO.q (.as (v := .bool _) rfl) rfl rfl ?_
            refine WO.nil ?_
            obtain rfl := Option.some.inj h
            exact WX.ret (rs_ (rs_tmp rfl rs_nil)) fun st hp => ⟨(hp.pk [] (by decide)).le hB, rfl⟩
        · have q_k9 := of_decide_eq_false k9
          replace h := (if_neg q_k9).symm.trans h
          refine WO.sd (wg rfl rfl (gtn k9)) rfl ?_
          refine WO.sd (wg rfl rfl (gtn k9)) rfl ?_
          refine WO.sd (wg rfl rfl (gtn k9)) rfl ?_
          refine WO.sd (wg rfl rfl (gtn k9)) rfl ?_
          refine WO.q (.pfv (v := .bool _) rfl k9 rfl) rfl rfl ?_
          refine WO.q (.mv (v := .bool _) rfl) rfl rfl ?_
          refine WO.sd (wg rfl rfl (gtn rfl)) rfl ?_
          refine WO.sd (wg rfl rfl (gtn rfl)) rfl ?_
          refine WO.sd (wg rfl rfl (gtn rfl)) rfl ?_
          refine WO.q (.pfv (v := .bool _) rfl rfl rfl) rfl rfl ?_
          refine WO.q (.as (v := .bool _) rfl) rfl rfl ?_
          refine WO.nil ?_
          obtain rfl := Option.some.inj h
          exact WX.ret (rs_ (rs_tmp rfl rs_nil)) fun st hp => ⟨(hp.pk [] (by decide)).le hB, rfl⟩
      · have q_k8 := of_decide_eq_false k8
        replace h := (if_neg q_k8).symm.trans h
        refine WX.condF rfl k8 ?_
        refine WX.seq ?_
        refine WX.reg ?_
        refine WO.q (.r fun _ => rfl) rfl rfl ?_
        refine WO.q (.as (v := .bool _) rfl) rfl rfl ?_
        refine WO.nil ?_
        rcases bsp (decide (zb1.1 = 3)) with k11 | k11
        · have q_k11 := of_decide_eq_true k11
          replace h := (if_pos q_k11).symm.trans h
          refine WX.condT rfl k11 ?_
          refine WX.seq ?_
          refine WX.reg ?_
          refine WO.q (.ldA (i := 0) rfl rfl rfl ti86 rfl) rfl rfl ?_
          obtain ⟨y12, hy12, h⟩ := Option.bind_eq_some_iff.1 h
          refine WO.cS rfl rfl (inode_Inode_link_ok h4 hy12) rfl rfl rfl ?_
          rintro _ rfl
          refine WO.q (.as (v := .bool _) rfl) rfl rfl ?_
          refine WO.nil ?_
          obtain rfl := Option.some.inj h
          exact WX.ret (rs_ (rs_tmp rfl rs_nil)) fun st hp => ⟨(hp.pk [] (by decide)).le hB, rfl⟩
        · have q_k11 := of_decide_eq_false k11
          replace h := (if_neg q_k11).symm.trans h
          refine WX.condF rfl k11 ?_
          refine WX.skip ?_
          refine WX.pop ?_
          refine WX.seq ?_
          refine WX.reg ?_
          refine WO.q (.as (v := .bool _) rfl) rfl rfl ?_
          refine WO.nil ?_
          obtain rfl := Option.some.inj h
          exact WX.ret (rs_ (rs_tmp rfl rs_nil)) fun st hp => ⟨(hp.pk [] (by decide)).le hB, rfl⟩
theorem inode_Inode_Right_ok {B0 : Kn} {L : Own} {a0 : Int × Int × Int × (List (Int × Int)) × (List UInt8)} {v0_0 : AV} {r : Bool} (g0_0 : RSl EPIi64Ii64Q B0 v0_0 a0.2.2.2.1) (h : inode_Inode_Right a0 = some r) : ∀ st, Hp B0 L st → ASpec Try.prog 49 [.agg [.int .u8 a0.1, .int .i64 a0.2.1, .int .i64 a0.2.2.1, v0_0, .str a0.2.2.2.2]] st (inode_Inode_Right_P B0 L r) := by
  unfold inode_Inode_Right at h
  refine bodyA (A := []) Try.func49 rfl (c := bodyOf Try.f49) rfl Try.ntmps49 (lb rfl) fun n0 => ?_
  have hB := KLe.refl B0
  obtain ⟨_, _, _, _, _, rfl⟩ := g0_0.isl
  refine WX.seq ?_
  refine WX.reg ?_
  refine WO.md (MOp.box (cA rfl)) rfl rfl ?_
  rintro _ _ ⟨b1, rfl, rfl⟩
  refine WO.q (.as (v := .bool _) rfl) rfl rfl ?_
  refine WO.nil ?_
  refine WX.seq ?_
  refine WX.seq ?_
  refine WX.reg ?_
  refine WO.q (.fa (fa86_1 _ _)) rfl rfl ?_
  refine WO.q (.ldS (i := 0) rfl rfl rfl ti3 rfl) rfl rfl ?_
  refine WO.q (.r fun _ => rfl) rfl rfl ?_
  refine WO.q (.mv (v := .bool _) rfl) rfl rfl ?_
  rcases bsp (decide (a0.2.1 < 0)) with k2 | k2
  · have q_k2 := of_decide_eq_true k2
    replace h := (if_pos q_k2).symm.trans h
    refine WO.sd (wg rfl rfl (gfn k2)) rfl ?_
    refine WO.sd (wg rfl rfl (gfn k2)) rfl ?_
    refine WO.sd (wg rfl rfl (gfn k2)) rfl ?_
    refine WO.q (.ptv (v := .bool _) rfl k2 rfl) rfl rfl ?_
    refine WO.nil ?_
    refine WX.keep [1, 10] (WX.pk [0] (by decide) ?_) rfl
    exact inode_Inode_Right_j1_ok h _ _ _ ⟨hB, _, _, g0_0, rfl, rfl⟩
  · have q_k2 := of_decide_eq_false k2
    replace h := (if_neg q_k2).symm.trans h
    refine WO.q (.fa (fa86_1 _ _)) (wg rfl rfl (gf k2)) rfl ?_
    refine WO.q (.ldS (i := 0) rfl rfl rfl ti3 rfl) (wg rfl rfl (gf k2)) rfl ?_
    refine WO.q (.r fun _ => rfl) (wg rfl rfl (gf k2)) rfl ?_
    refine WO.q (.pfv (v := .bool _) rfl k2 rfl) rfl rfl ?_
    refine WO.nil ?_
    refine WX.keep [1, 10] (WX.pk [0] (by decide) ?_) rfl
    exact inode_Inode_Right_j1_ok h _ _ _ ⟨hB, _, _, g0_0, rfl, rfl⟩
def inode_Inode_Text_P (B : Kn) (L : Own) (r : (List UInt8)) : AV → St → Prop := CS B L fun v => v = .str r
def inode_Inode_Text_j3_I (B0 : Kn) (x5 : List UInt8) (zb2 : Int × Int × Int × (List (Int × Int)) × (List UInt8)) : Fr → Kn → Own → Prop := fun fr B A => KLe B0 B ∧ ∃ b19008 v19009, RSl EPIi64Ii64Q B v19009 zb2.2.2.2.1 ∧ fr = [(2, .ptr b19008 0), (5, .str x5)] ∧ A = [(b19008, some [.int .u8 zb2.1, .int .i64 zb2.2.1, .int .i64 zb2.2.2.1, v19009, .str zb2.2.2.2.2])]
def inode_Inode_Text_j1_I (B0 : Kn) (x1 : Int) (x16 : Bool) (zb2 : Int × Int × Int × (List (Int × Int)) × (List UInt8)) : Fr → Kn → Own → Prop := fun fr B A => KLe B0 B ∧ ∃ b5 v6, RSl EPIi64Ii64Q B v6 zb2.2.2.2.1 ∧ fr = [(1, .int .i64 x1), (2, .ptr b5 0), (16, .bool x16)] ∧ A = [(b5, some [.int .u8 zb2.1, .int .i64 zb2.2.1, .int .i64 zb2.2.2.1, v6, .str zb2.2.2.2.2])]
theorem inode_Inode_Text_j3_ok {B0 : Kn} {L : Own} {n0 : Nat} {x5 : List UInt8} {zb2 : Int × Int × Int × (List (Int × Int)) × (List UInt8)} {r : (List UInt8)} (h : inode_Inode_Text_j3 x5 zb2 = some r) : WXI Try.prog 43 n0 (Fin Try.prog Try.f51.results.toList n0 (inode_Inode_Text_P B0 L r)) [.code (ct [1, 1, 1] (bodyOf Try.f51))] (inode_Inode_Text_j3_I B0 x5 zb2) L := by
  unfold inode_Inode_Text_j3 at h
  rintro _ B _ ⟨hB, b19008, v19009, h19009, rfl, rfl⟩
  obtain ⟨_, _, _, _, _, rfl⟩ := h19009.isl
  refine WX.seq ?_
  refine WX.drw (Plan.of [0, 1, 2, 5, 6, 3, 4, 7, 8] .nil) _ mixed (by kernel_rfl) rfl (pk_sub [0]) ?_
  refine WP.q (i := 0) rfl (.mv (v := .str _) rfl) rfl rfl rfl ?_
  refine WP.q (i := 1) rfl (.fa (fa86_3 _ _)) rfl rfl rfl ?_
  refine WP.q (i := 2) rfl (.ldS (i := 0) rfl rfl rfl ti44 rfl) rfl rfl rfl ?_
  refine WP.q (i := 5) rfl (.fa (fa86_4 _ _)) rfl rfl rfl ?_
  refine WP.q (i := 6) rfl (.ldS (i := 0) rfl rfl rfl ti9 rfl) rfl rfl rfl ?_
  obtain ⟨y19010, hy19010, h⟩ := Option.bind_eq_some_iff.1 h
  refine WP.cS (i := 3) rfl rfl rfl (ext_List_Text_ok h19009 hy19010) rfl rfl rfl ?_
  rintro _ rfl
  obtain ⟨y19011, hy19011, h⟩ := Option.bind_eq_some_iff.1 h
  refine WP.q (i := 4) rfl (.bin (evcat hy19011)) rfl rfl rfl ?_
  obtain ⟨y19012, hy19012, h⟩ := Option.bind_eq_some_iff.1 h
  refine WP.q (i := 7) rfl (.bin (evcat hy19012)) rfl rfl rfl ?_
  refine WP.q (i := 8) rfl (.as (v := .str _) rfl) rfl rfl rfl ?_
  refine WP.nil ?_
  obtain rfl := Option.some.inj h
  exact WX.ret (rs_ (rs_tmp rfl rs_nil)) fun st hp => ⟨(hp.pk [] (by decide)).le hB, rfl⟩
theorem inode_Inode_Text_j1_ok {B0 : Kn} {L : Own} {n0 : Nat} {x1 : Int} {x16 : Bool} {zb2 : Int × Int × Int × (List (Int × Int)) × (List UInt8)} {r : (List UInt8)} (h : inode_Inode_Text_j1 x1 x16 zb2 = some r) : WXI Try.prog 43 n0 (Fin Try.prog Try.f51.results.toList n0 (inode_Inode_Text_P B0 L r)) [.code (ct [1, 0, 1] (bodyOf Try.f51)), .code (ct [1, 1] (bodyOf Try.f51))] (inode_Inode_Text_j1_I B0 x1 x16 zb2) L := by
  unfold inode_Inode_Text_j1 at h
  rintro _ B _ ⟨hB, b5, v6, h6, rfl, rfl⟩
  obtain ⟨_, _, _, _, _, rfl⟩ := h6.isl
  rcases bsp x16 with k7 | k7
  · replace h := (if_pos k7).symm.trans h
    refine WX.condT rfl k7 ?_
    refine WX.seq ?_
    refine WX.reg ?_
    refine WO.q (.as (v := .str _) rfl) rfl rfl ?_
    refine WO.nil ?_
    obtain rfl := Option.some.inj h
    exact WX.ret (rs_ (rs_tmp rfl rs_nil)) fun st hp => ⟨(hp.pk [] (by decide)).le hB, rfl⟩
  · replace h := (if_neg (bnt k7)).symm.trans h
    refine WX.condF rfl k7 ?_
    refine WX.skip ?_
    refine WX.seq ?_
    refine WX.drw (Plan.of [0, 1, 3, 4, 8, 9, 10, 13, 14, 15] (.alt (Plan.of [2] (.alt (Plan.of [5] (.alt (Plan.of [6, 7, 11, 12, 16, 17, 18] .nil) (Plan.of [11] (.alt (Plan.of [6, 7, 12, 16, 17, 18] .nil) (Plan.of [16, 6, 7, 12, 17, 18] .nil))))) (Plan.of [11] (.alt (Plan.of [5] (.alt (Plan.of [6, 7, 12, 16, 17, 18] .nil) (Plan.of [16, 6, 7, 12, 17, 18] .nil))) (Plan.of [16, 5, 6, 7, 12, 17, 18] .nil))))) (Plan.of [5] (.alt (Plan.of [2] (.alt (Plan.of [6, 7, 11, 12, 16, 17, 18] .nil) (Plan.of [11] (.alt (Plan.of [6, 7, 12, 16, 17, 18] .nil) (Plan.of [16, 6, 7, 12, 17, 18] .nil))))) (Plan.of [6, 2, 7, 11, 12, 16, 17, 18] .nil))))) _ mixed (by kernel_rfl) rfl (pk_sub [0]) ?_
    obtain ⟨y3008, hy3008, h⟩ := Option.bind_eq_some_iff.1 h
    obtain ⟨y8008, hy8008, h⟩ := Option.bind_eq_some_iff.1 h
    obtain ⟨y12008, hy12008, h⟩ := Option.bind_eq_some_iff.1 h
    obtain ⟨y13008, hy13008, h⟩ := Option.bind_eq_some_iff.1 h
    obtain ⟨y17008, hy17008, h⟩ := Option.bind_eq_some_iff.1 h
    obtain ⟨y18008, hy18008, h⟩ := Option.bind_eq_some_iff.1 h
    refine WP.q (i := 0) rfl (.mv (v := .int _ _) rfl) rfl rfl rfl ?_
    refine WP.q (i := 1) rfl (cvI ti3 ti119 rfl rfl) (isQc ti3 ti119 rfl) rfl rfl ?_
    refine WP.q (i := 3) rfl (.fa (fa86_0 _ _)) rfl rfl rfl ?_
    refine WP.q (i := 4) rfl (.ldS (i := 0) rfl rfl rfl ti84 rfl) rfl rfl rfl ?_
    refine WP.q (i := 8) rfl (.fa (fa86_1 _ _)) rfl rfl rfl ?_
    refine WP.q (i := 9) rfl (.ldS (i := 0) rfl rfl rfl ti3 rfl) rfl rfl rfl ?_
    refine WP.q (i := 10) rfl (cvI ti3 ti119 rfl rfl) (isQc ti3 ti119 rfl) rfl rfl ?_
    refine WP.q (i := 13) rfl (.fa (fa86_2 _ _)) rfl rfl rfl ?_
    refine WP.q (i := 14) rfl (.ldS (i := 0) rfl rfl rfl ti3 rfl) rfl rfl rfl ?_
    refine WP.q (i := 15) rfl (cvI ti3 ti119 rfl rfl) (isQc ti3 ti119 rfl) rfl rfl ?_
    refine WP.alt ?_ ?_
    · refine WP.cS (i := 2) rfl rfl rfl (le_Put_ok hy3008) rfl rfl rfl ?_
      rintro _ rfl
      refine WP.alt ?_ ?_
      · refine WP.md (i := 5) rfl (MOp.bs (l := ([zb2.1] : List Int)) sl32 (RL.cons Ri RL.nil) (lb rfl) rfl rfl) rfl rfl rfl ?_
        rintro v6010 _ ⟨b6008, o6009, rfl⟩
        obtain ⟨_, _, _, _, _, rfl⟩ := o6009.isl
        refine ⟨fun e he _ => pk_in (jx := [1]) rfl e he, ?_⟩
        refine WP.alt ?_ ?_
        · refine WP.md (i := 6) rfl (MOp.ofQ (v := .str _) (cvBo (j := 0) ⟨_, _, _, ti32, rfl, ti5, rfl⟩ ti9 rfl o6009 rfl rfl)) rfl rfl rfl ?_
          rintro _ _ ⟨rfl, rfl⟩
          refine ⟨fun e he _ => pk_in (jx := [1]) rfl e he, ?_⟩
          refine WP.q (i := 7) rfl (.bin (evcat hy8008)) rfl rfl rfl ?_
          refine WP.cS (i := 11) rfl rfl rfl (le_Put_ok hy12008) rfl rfl rfl ?_
          rintro _ rfl
          refine WP.q (i := 12) rfl (.bin (evcat hy13008)) rfl rfl rfl ?_
          refine WP.cS (i := 16) rfl rfl rfl (le_Put_ok hy17008) rfl rfl rfl ?_
          rintro _ rfl
          refine WP.q (i := 17) rfl (.bin (evcat hy18008)) rfl rfl rfl ?_
          refine WP.q (i := 18) rfl (.as (v := .str _) rfl) rfl rfl rfl ?_
          refine WP.nil ?_
          refine WX.keep [2, 5] (WX.pk [1] (by decide) ?_) rfl
          exact inode_Inode_Text_j3_ok h _ _ _ ⟨hB, _, _, h6, rfl, rfl⟩
        · refine WP.cS (i := 11) rfl rfl rfl (le_Put_ok hy12008) rfl rfl rfl ?_
          rintro _ rfl
          refine WP.alt ?_ ?_
          · refine WP.md (i := 6) rfl (MOp.ofQ (v := .str _) (cvBo (j := 0) ⟨_, _, _, ti32, rfl, ti5, rfl⟩ ti9 rfl o6009 rfl rfl)) rfl rfl rfl ?_
            rintro _ _ ⟨rfl, rfl⟩
            refine ⟨fun e he _ => pk_in (jx := [1]) rfl e he, ?_⟩
            refine WP.q (i := 7) rfl (.bin (evcat hy8008)) rfl rfl rfl ?_
            refine WP.q (i := 12) rfl (.bin (evcat hy13008)) rfl rfl rfl ?_
            refine WP.cS (i := 16) rfl rfl rfl (le_Put_ok hy17008) rfl rfl rfl ?_
            rintro _ rfl
            refine WP.q (i := 17) rfl (.bin (evcat hy18008)) rfl rfl rfl ?_
            refine WP.q (i := 18) rfl (.as (v := .str _) rfl) rfl rfl rfl ?_
            refine WP.nil ?_
            refine WX.keep [2, 5] (WX.pk [1] (by decide) ?_) rfl
            exact inode_Inode_Text_j3_ok h _ _ _ ⟨hB, _, _, h6, rfl, rfl⟩
          · refine WP.cS (i := 16) rfl rfl rfl (le_Put_ok hy17008) rfl rfl rfl ?_
            rintro _ rfl
            refine WP.md (i := 6) rfl (MOp.ofQ (v := .str _) (cvBo (j := 0) ⟨_, _, _, ti32, rfl, ti5, rfl⟩ ti9 rfl o6009 rfl rfl)) rfl rfl rfl ?_
            rintro _ _ ⟨rfl, rfl⟩
            refine ⟨fun e he _ => pk_in (jx := [1]) rfl e he, ?_⟩
            refine WP.q (i := 7) rfl (.bin (evcat hy8008)) rfl rfl rfl ?_
            refine WP.q (i := 12) rfl (.bin (evcat hy13008)) rfl rfl rfl ?_
            refine WP.q (i := 17) rfl (.bin (evcat hy18008)) rfl rfl rfl ?_
            refine WP.q (i := 18) rfl (.as (v := .str _) rfl) rfl rfl rfl ?_
            refine WP.nil ?_
            refine WX.keep [2, 5] (WX.pk [1] (by decide) ?_) rfl
            exact inode_Inode_Text_j3_ok h _ _ _ ⟨hB, _, _, h6, rfl, rfl⟩
      · refine WP.cS (i := 11) rfl rfl rfl (le_Put_ok hy12008) rfl rfl rfl ?_
        rintro _ rfl
        refine WP.alt ?_ ?_
        · refine WP.md (i := 5) rfl (MOp.bs (l := ([zb2.1] : List Int)) sl32 (RL.cons Ri RL.nil) (lb rfl) rfl rfl) rfl rfl rfl ?_
          rintro v6010 _ ⟨b6008, o6009, rfl⟩
          obtain ⟨_, _, _, _, _, rfl⟩ := o6009.isl
          refine ⟨fun e he _ => pk_in (jx := [1]) rfl e he, ?_⟩
          refine WP.alt ?_ ?_
          · refine WP.md (i := 6) rfl (MOp.ofQ (v := .str _) (cvBo (j := 0) ⟨_, _, _, ti32, rfl, ti5, rfl⟩ ti9 rfl o6009 rfl rfl)) rfl rfl rfl ?_
            rintro _ _ ⟨rfl, rfl⟩
            refine ⟨fun e he _ => pk_in (jx := [1]) rfl e he, ?_⟩
            refine WP.q (i := 7) rfl (.bin (evcat hy8008)) rfl rfl rfl ?_
            refine WP.q (i := 12) rfl (.bin (evcat hy13008)) rfl rfl rfl ?_
            refine WP.cS (i := 16) rfl rfl rfl (le_Put_ok hy17008) rfl rfl rfl ?_
            rintro _ rfl
            refine WP.q (i := 17) rfl (.bin (evcat hy18008)) rfl rfl rfl ?_
            refine WP.q (i := 18) rfl (.as (v := .str _) rfl) rfl rfl rfl ?_
            refine WP.nil ?_
            refine WX.keep [2, 5] (WX.pk [1] (by decide) ?_) rfl
            exact inode_Inode_Text_j3_ok h _ _ _ ⟨hB, _, _, h6, rfl, rfl⟩
          · refine WP.cS (i := 16) rfl rfl rfl (le_Put_ok hy17008) rfl rfl rfl ?_
            rintro _ rfl
            refine WP.md (i := 6) rfl (MOp.ofQ (v := .str _) (cvBo (j := 0) ⟨_, _, _, ti32, rfl, ti5, rfl⟩ ti9 rfl o6009 rfl rfl)) rfl rfl rfl ?_
            rintro _ _ ⟨rfl, rfl⟩
            refine ⟨fun e he _ => pk_in (jx := [1]) rfl e he, ?_⟩
            refine WP.q (i := 7) rfl (.bin (evcat hy8008)) rfl rfl rfl ?_
            refine WP.q (i := 12) rfl (.bin (evcat hy13008)) rfl rfl rfl ?_
            refine WP.q (i := 17) rfl (.bin (evcat hy18008)) rfl rfl rfl ?_
            refine WP.q (i := 18) rfl (.as (v := .str _) rfl) rfl rfl rfl ?_
            refine WP.nil ?_
            refine WX.keep [2, 5] (WX.pk [1] (by decide) ?_) rfl
            exact inode_Inode_Text_j3_ok h _ _ _ ⟨hB, _, _, h6, rfl, rfl⟩
        · refine WP.cS (i := 16) rfl rfl rfl (le_Put_ok hy17008) rfl rfl rfl ?_
          rintro _ rfl
          refine WP.md (i := 5) rfl (MOp.bs (l := ([zb2.1] : List Int)) sl32 (RL.cons Ri RL.nil) (lb rfl) rfl rfl) rfl rfl rfl ?_
          rintro v6010 _ ⟨b6008, o6009, rfl⟩
          obtain ⟨_, _, _, _, _, rfl⟩ := o6009.isl
          refine ⟨fun e he _ => pk_in (jx := [1]) rfl e he, ?_⟩
          refine WP.md (i := 6) rfl (MOp.ofQ (v := .str _) (cvBo (j := 0) ⟨_, _, _, ti32, rfl, ti5, rfl⟩ ti9 rfl o6009 rfl rfl)) rfl rfl rfl ?_
          rintro _ _ ⟨rfl, rfl⟩
          refine ⟨fun e he _ => pk_in (jx := [1]) rfl e he, ?_⟩
          refine WP.q (i := 7) rfl (.bin (evcat hy8008)) rfl rfl rfl ?_
          refine WP.q (i := 12) rfl (.bin (evcat hy13008)) rfl rfl rfl ?_
          refine WP.q (i := 17) rfl (.bin (evcat hy18008)) rfl rfl rfl ?_
          refine WP.q (i := 18) rfl (.as (v := .str _) rfl) rfl rfl rfl ?_
          refine WP.nil ?_
          refine WX.keep [2, 5] (WX.pk [1] (by decide) ?_) rfl
          exact inode_Inode_Text_j3_ok h _ _ _ ⟨hB, _, _, h6, rfl, rfl⟩
    · refine WP.md (i := 5) rfl (MOp.bs (l := ([zb2.1] : List Int)) sl32 (RL.cons Ri RL.nil) (lb rfl) rfl rfl) rfl rfl rfl ?_
      rintro v6010 _ ⟨b6008, o6009, rfl⟩
      obtain ⟨_, _, _, _, _, rfl⟩ := o6009.isl
      refine ⟨fun e he _ => pk_in (jx := [1]) rfl e he, ?_⟩
      refine WP.alt ?_ ?_
      · refine WP.cS (i := 2) rfl rfl rfl (le_Put_ok hy3008) rfl rfl rfl ?_
        rintro _ rfl
        refine WP.alt ?_ ?_
        · refine WP.md (i := 6) rfl (MOp.ofQ (v := .str _) (cvBo (j := 0) ⟨_, _, _, ti32, rfl, ti5, rfl⟩ ti9 rfl o6009 rfl rfl)) rfl rfl rfl ?_
          rintro _ _ ⟨rfl, rfl⟩
          refine ⟨fun e he _ => pk_in (jx := [1]) rfl e he, ?_⟩
          refine WP.q (i := 7) rfl (.bin (evcat hy8008)) rfl rfl rfl ?_
          refine WP.cS (i := 11) rfl rfl rfl (le_Put_ok hy12008) rfl rfl rfl ?_
          rintro _ rfl
          refine WP.q (i := 12) rfl (.bin (evcat hy13008)) rfl rfl rfl ?_
          refine WP.cS (i := 16) rfl rfl rfl (le_Put_ok hy17008) rfl rfl rfl ?_
          rintro _ rfl
          refine WP.q (i := 17) rfl (.bin (evcat hy18008)) rfl rfl rfl ?_
          refine WP.q (i := 18) rfl (.as (v := .str _) rfl) rfl rfl rfl ?_
          refine WP.nil ?_
          refine WX.keep [2, 5] (WX.pk [1] (by decide) ?_) rfl
          exact inode_Inode_Text_j3_ok h _ _ _ ⟨hB, _, _, h6, rfl, rfl⟩
        · refine WP.cS (i := 11) rfl rfl rfl (le_Put_ok hy12008) rfl rfl rfl ?_
          rintro _ rfl
          refine WP.alt ?_ ?_
          · refine WP.md (i := 6) rfl (MOp.ofQ (v := .str _) (cvBo (j := 0) ⟨_, _, _, ti32, rfl, ti5, rfl⟩ ti9 rfl o6009 rfl rfl)) rfl rfl rfl ?_
            rintro _ _ ⟨rfl, rfl⟩
            refine ⟨fun e he _ => pk_in (jx := [1]) rfl e he, ?_⟩
            refine WP.q (i := 7) rfl (.bin (evcat hy8008)) rfl rfl rfl ?_
            refine WP.q (i := 12) rfl (.bin (evcat hy13008)) rfl rfl rfl ?_
            refine WP.cS (i := 16) rfl rfl rfl (le_Put_ok hy17008) rfl rfl rfl ?_
            rintro _ rfl
            refine WP.q (i := 17) rfl (.bin (evcat hy18008)) rfl rfl rfl ?_
            refine WP.q (i := 18) rfl (.as (v := .str _) rfl) rfl rfl rfl ?_
            refine WP.nil ?_
            refine WX.keep [2, 5] (WX.pk [1] (by decide) ?_) rfl
            exact inode_Inode_Text_j3_ok h _ _ _ ⟨hB, _, _, h6, rfl, rfl⟩
          · refine WP.cS (i := 16) rfl rfl rfl (le_Put_ok hy17008) rfl rfl rfl ?_
            rintro _ rfl
            refine WP.md (i := 6) rfl (MOp.ofQ (v := .str _) (cvBo (j := 0) ⟨_, _, _, ti32, rfl, ti5, rfl⟩ ti9 rfl o6009 rfl rfl)) rfl rfl rfl ?_
            rintro _ _ ⟨rfl, rfl⟩
            refine ⟨fun e he _ => pk_in (jx := [1]) rfl e he, ?_⟩
            refine WP.q (i := 7) rfl (.bin (evcat hy8008)) rfl rfl rfl ?_
            refine WP.q (i := 12) rfl (.bin (evcat hy13008)) rfl rfl rfl ?_
            refine WP.q (i := 17) rfl (.bin (evcat hy18008)) rfl rfl rfl ?_
            refine WP.q (i := 18) rfl (.as (v := .str _) rfl) rfl rfl rfl ?_
            refine WP.nil ?_
            refine WX.keep [2, 5] (WX.pk [1] (by decide) ?_) rfl
            exact inode_Inode_Text_j3_ok h _ _ _ ⟨hB, _, _, h6, rfl, rfl⟩
      · refine WP.md (i := 6) rfl (MOp.ofQ (v := .str _) (cvBo (j := 0) ⟨_, _, _, ti32, rfl, ti5, rfl⟩ ti9 rfl o6009 rfl rfl)) rfl rfl rfl ?_
        rintro _ _ ⟨rfl, rfl⟩
        refine ⟨fun e he _ => pk_in (jx := [1]) rfl e he, ?_⟩
        refine WP.cS (i := 2) rfl rfl rfl (le_Put_ok hy3008) rfl rfl rfl ?_
        rintro _ rfl
        refine WP.q (i := 7) rfl (.bin (evcat hy8008)) rfl rfl rfl ?_
        refine WP.cS (i := 11) rfl rfl rfl (le_Put_ok hy12008) rfl rfl rfl ?_
        rintro _ rfl
        refine WP.q (i := 12) rfl (.bin (evcat hy13008)) rfl rfl rfl ?_
        refine WP.cS (i := 16) rfl rfl rfl (le_Put_ok hy17008) rfl rfl rfl ?_
        rintro _ rfl
        refine WP.q (i := 17) rfl (.bin (evcat hy18008)) rfl rfl rfl ?_
        refine WP.q (i := 18) rfl (.as (v := .str _) rfl) rfl rfl rfl ?_
        refine WP.nil ?_
        refine WX.keep [2, 5] (WX.pk [1] (by decide) ?_) rfl
        exact inode_Inode_Text_j3_ok h _ _ _ ⟨hB, _, _, h6, rfl, rfl⟩
theorem inode_Inode_Text_ok {B0 : Kn} {L : Own} {a0 : Int × Int × Int × (List (Int × Int)) × (List UInt8)} {a1 : Int} {v0_0 : AV} {r : (List UInt8)} (g0_0 : RSl EPIi64Ii64Q B0 v0_0 a0.2.2.2.1) (h : inode_Inode_Text a0 a1 = some r) : ∀ st, Hp B0 L st → ASpec Try.prog 51 [.agg [.int .u8 a0.1, .int .i64 a0.2.1, .int .i64 a0.2.2.1, v0_0, .str a0.2.2.2.2], .int .i64 a1] st (inode_Inode_Text_P B0 L r) := by
  unfold inode_Inode_Text at h
  refine bodyA (A := []) Try.func51 rfl (c := bodyOf Try.f51) rfl Try.ntmps51 (lb rfl) fun n0 => ?_
  have hB := KLe.refl B0
  obtain ⟨_, _, _, _, _, rfl⟩ := g0_0.isl
  refine WX.seq ?_
  refine WX.reg ?_
  refine WO.md (MOp.box (cA rfl)) rfl rfl ?_
  rintro _ _ ⟨b1, rfl, rfl⟩
  refine WO.q (.as (v := .str _) rfl) rfl rfl ?_
  refine WO.nil ?_
  refine WX.seq ?_
  refine WX.seq ?_
  refine WX.reg ?_
  refine WO.q (.ldA (i := 0) rfl rfl rfl ti86 rfl) rfl rfl ?_
  obtain ⟨y2, hy2, h⟩ := Option.bind_eq_some_iff.1 h
  refine WO.cS rfl rfl (inode_Inode_Right_ok g0_0 hy2) rfl rfl rfl ?_
  rintro _ rfl
  refine WO.q (.r fun _ => rfl) rfl rfl ?_
  refine WO.q (.mv (v := .bool _) rfl) rfl rfl ?_
  rcases bsp y2 with k3 | k3
  · replace h := (if_pos k3).symm.trans h
    refine WO.q (.mv (v := .int _ _) rfl) (wg rfl rfl (gf (f_not k3))) rfl ?_
    refine WO.q (.r fun _ => rfl) (wg rfl rfl (gf (f_not k3))) rfl ?_
    refine WO.q (.pfv (v := .bool _) rfl (f_not k3) rfl) rfl rfl ?_
    refine WO.q (.mv (v := .bool _) rfl) rfl rfl ?_
    rcases bsp (decide (a1 < 0)) with k4 | k4
    · have q_k4 := of_decide_eq_true k4
      replace h := (if_pos q_k4).symm.trans h
      refine WO.sd (wg rfl rfl (gfn k4)) rfl ?_
      refine WO.sd (wg rfl rfl (gfn k4)) rfl ?_
      refine WO.q (.ptv (v := .bool _) rfl k4 rfl) rfl rfl ?_
      refine WO.nil ?_
      refine WX.keep [1, 2, 16] (WX.pk [0] (by decide) ?_) rfl
      exact inode_Inode_Text_j1_ok h _ _ _ ⟨hB, _, _, g0_0, rfl, rfl⟩
    · have q_k4 := of_decide_eq_false k4
      replace h := (if_neg q_k4).symm.trans h
      refine WO.q (.mv (v := .int _ _) rfl) (wg rfl rfl (gf k4)) rfl ?_
      refine WO.q (.r fun _ => rfl) (wg rfl rfl (gf k4)) rfl ?_
      refine WO.q (.pfv (v := .bool _) rfl k4 rfl) rfl rfl ?_
      refine WO.nil ?_
      refine WX.keep [1, 2, 16] (WX.pk [0] (by decide) ?_) rfl
      exact inode_Inode_Text_j1_ok h _ _ _ ⟨hB, _, _, g0_0, rfl, rfl⟩
  · replace h := (if_neg (bnt k3)).symm.trans h
    refine WO.sd (wg rfl rfl (gfn (t_not k3))) rfl ?_
    refine WO.sd (wg rfl rfl (gfn (t_not k3))) rfl ?_
    refine WO.q (.ptv (v := .bool _) rfl (t_not k3) rfl) rfl rfl ?_
    refine WO.q (.mv (v := .bool _) rfl) rfl rfl ?_
    refine WO.sd (wg rfl rfl (gfn rfl)) rfl ?_
    refine WO.sd (wg rfl rfl (gfn rfl)) rfl ?_
    refine WO.q (.ptv (v := .bool _) rfl rfl rfl) rfl rfl ?_
    refine WO.nil ?_
    refine WX.keep [1, 2, 16] (WX.pk [0] (by decide) ?_) rfl
    exact inode_Inode_Text_j1_ok h _ _ _ ⟨hB, _, _, g0_0, rfl, rfl⟩
def inode_Parse_P (B : Kn) (L : Own) (r : Int × (Int × Int × Int × (List (Int × Int)) × (List UInt8)) × Int) : AV → St → Prop := C1 B L fun B' v e0 => ∃ w0 b0 n0 c0, v = .tup [.int .i64 r.1, .agg [.int .u8 r.2.1.1, .int .i64 r.2.1.2.1, .int .i64 r.2.1.2.2.1, w0, .str r.2.1.2.2.2.2], .int .i64 r.2.2] ∧ e0 = oe b0 n0 c0 ∧ OSl EPIi64Ii64Q B' w0 b0 n0 c0 r.2.1.2.2.2.1
def inode_Parse_j7_I (B0 : Kn) (x0 : List UInt8) (x5 : Int) (zb3 : Int × Int × Int × (List (Int × Int)) × (List UInt8)) (zb6 : Int × Int × Int × (List (Int × Int)) × (List UInt8)) : Fr → Kn → Own → Prop := fun fr B A => KLe B0 B ∧ ∃ b13017 v13018 b13018 n13018 c13018 b13019 v13020 b13020 n13020 c13020, OSl EPIi64Ii64Q B v13018 b13018 n13018 c13018 zb3.2.2.2.1 ∧ OSl EPIi64Ii64Q B v13020 b13020 n13020 c13020 zb6.2.2.2.1 ∧ fr = [(0, .str x0), (3, .ptr b13017 0), (5, .int .i64 x5), (6, .ptr b13019 0)] ∧ A = [(b13017, some [.int .u8 zb3.1, .int .i64 zb3.2.1, .int .i64 zb3.2.2.1, v13018, .str zb3.2.2.2.2]), (b13019, some [.int .u8 zb6.1, .int .i64 zb6.2.1, .int .i64 zb6.2.2.1, v13020, .str zb6.2.2.2.2]), oe b13018 n13018 c13018, oe b13020 n13020 c13020]
def inode_Parse_j4_I (B0 : Kn) (x0 : List UInt8) (x5 : Int) (zb3 : Int × Int × Int × (List (Int × Int)) × (List UInt8)) (zb6 : Int × Int × Int × (List (Int × Int)) × (List UInt8)) : Fr → Kn → Own → Prop := fun fr B A => KLe B0 B ∧ ∃ b13005 v13006 b13006 n13006 c13006 b13007 v13008 b13008 n13008 c13008, OSl EPIi64Ii64Q B v13006 b13006 n13006 c13006 zb3.2.2.2.1 ∧ OSl EPIi64Ii64Q B v13008 b13008 n13008 c13008 zb6.2.2.2.1 ∧ fr = [(0, .str x0), (3, .ptr b13005 0), (5, .int .i64 x5), (6, .ptr b13007 0)] ∧ A = [(b13005, some [.int .u8 zb3.1, .int .i64 zb3.2.1, .int .i64 zb3.2.2.1, v13006, .str zb3.2.2.2.2]), (b13007, some [.int .u8 zb6.1, .int .i64 zb6.2.1, .int .i64 zb6.2.2.1, v13008, .str zb6.2.2.2.2]), oe b13006 n13006 c13006, oe b13008 n13008 c13008]
theorem inode_Parse_j7_ok {B0 : Kn} {L : Own} {n0 : Nat} {x0 : List UInt8} {x5 : Int} {zb3 : Int × Int × Int × (List (Int × Int)) × (List UInt8)} {zb6 : Int × Int × Int × (List (Int × Int)) × (List UInt8)} {r : Int × (Int × Int × Int × (List (Int × Int)) × (List UInt8)) × Int} (h : inode_Parse_j7 x0 x5 zb3 zb6 = some r) : WXI Try.prog 50 n0 (Fin Try.prog Try.f56.results.toList n0 (inode_Parse_P B0 L r)) [.code (ct [1, 1, 1, 1, 1] (bodyOf Try.f56))] (inode_Parse_j7_I B0 x0 x5 zb3 zb6) L := by
  unfold inode_Parse_j7 at h
  rintro _ B _ ⟨hB, b13017, v13018, b13018, n13018, c13018, b13019, v13020, b13020, n13020, c13020, h13018, h13020, rfl, rfl⟩
  obtain ⟨_, _, _, _, _, rfl⟩ := h13018.isl
  obtain ⟨_, _, _, _, _, rfl⟩ := h13020.isl
  refine WX.seq ?_
  refine WX.seq ?_
  refine WX.reg ?_
  refine WO.q (.ldA (i := 1) rfl rfl rfl ti86 rfl) rfl rfl ?_
  refine WO.q (.mv (v := .int _ _) rfl) rfl rfl ?_
  obtain ⟨y13021, hy13021, h⟩ := Option.bind_eq_some_iff.1 h
  refine WO.cS rfl rfl (lendC (j := 3) h13020 rfl fun _ K13023 g13022 => inode_Inode_Text_ok g13022 hy13021) rfl rfl rfl ?_
  rintro _ rfl
  refine WO.q (.mv (v := .str _) rfl) rfl rfl ?_
  refine WO.q (.r fun _ => rfl) rfl rfl ?_
  refine WO.nil ?_
  rcases bsp (decide (y13021 = x0)) with k13024 | k13024
  · have q_k13024 := of_decide_eq_true k13024
    replace h := (if_pos q_k13024).symm.trans h
    refine WX.condF rfl (f_not k13024) ?_
    refine WX.skip ?_
    refine WX.seq ?_
    refine WX.drw (Plan.of [0, 1, 2, 3, 4] .nil) _ mixed (by kernel_rfl) rfl (pk_sub [0, 1, 2, 3]) ?_
    refine WP.q (i := 0) rfl (.mv (v := .int _ _) rfl) rfl rfl rfl ?_
    refine WP.q (i := 1) rfl (.ldA (i := 1) rfl rfl rfl ti86 rfl) rfl rfl rfl ?_
    refine WP.q (i := 2) rfl (.as (v := .int _ _) rfl) rfl rfl rfl ?_
    refine WP.msn (i := 3) rfl (MOp.storeW rfl (cA rfl) .h ti86 rfl rfl rfl) rfl (by kernel_rfl) rfl ?_
    rintro _ _ rfl
    refine WS.q (i := 4) rfl (.as (v := .int _ _) rfl) rfl rfl rfl rfl ?_
    refine WS.nil ?_
    obtain rfl := Option.some.inj h
    exact WX.ret (rs_ (rs_tmp rfl (rs_cell (.ldA (i := 0) rfl rfl rfl ti86 rfl) (rs_tmp rfl rs_nil)))) fun st hp => ⟨_, _, hB, (hp.pk [3] (by decide)), _, _, n13020, _, rfl, rfl, h13020⟩
  · have q_k13024 := of_decide_eq_false k13024
    replace h := (if_neg q_k13024).symm.trans h
    refine WX.condT rfl (t_not k13024) ?_
    refine WX.seq ?_
    refine WX.reg ?_
    refine WO.q (.bd (bd86_n)) rfl rfl ?_
    refine WO.q (.as (v := .int _ _) rfl) rfl rfl ?_
    refine WO.mn (MOp.storeW rfl (cA rfl) .h ti86 rfl rfl rfl) rfl ?_
    rintro _ _ rfl
    refine WO.q (.as (v := .int _ _) rfl) rfl rfl ?_
    refine WO.nil ?_
    obtain rfl := Option.some.inj h
    exact WX.ret (rs_ (rs_tmp rfl (rs_cell (.ldA (i := 0) rfl rfl rfl ti86 rfl) (rs_tmp rfl rs_nil)))) fun st hp => ⟨_, _, hB, ((hp.pk [] (by decide)).skip 0), _, 0, true, [], rfl, rfl, OSl.none _ _⟩
theorem inode_Parse_j4_ok {B0 : Kn} {L : Own} {n0 : Nat} {x0 : List UInt8} {x5 : Int} {zb3 : Int × Int × Int × (List (Int × Int)) × (List UInt8)} {zb6 : Int × Int × Int × (List (Int × Int)) × (List UInt8)} {r : Int × (Int × Int × Int × (List (Int × Int)) × (List UInt8)) × Int} (h : inode_Parse_j4 x0 x5 zb3 zb6 = some r) : WXI Try.prog 50 n0 (Fin Try.prog Try.f56.results.toList n0 (inode_Parse_P B0 L r)) [.code (ct [1, 1, 1, 1] (bodyOf Try.f56))] (inode_Parse_j4_I B0 x0 x5 zb3 zb6) L := by
  unfold inode_Parse_j4 at h
  rintro _ B _ ⟨hB, b13005, v13006, b13006, n13006, c13006, b13007, v13008, b13008, n13008, c13008, h13006, h13008, rfl, rfl⟩
  obtain ⟨_, _, _, _, _, rfl⟩ := h13006.isl
  obtain ⟨_, _, _, _, _, rfl⟩ := h13008.isl
  refine WX.seq ?_
  refine WX.seq ?_
  refine WX.reg ?_
  refine WO.q (.fa (fa86_0 _ _)) rfl rfl ?_
  refine WO.q (.ldS (i := 1) rfl rfl rfl ti84 rfl) rfl rfl ?_
  refine WO.nil ?_
  refine WX.block ?_
  refine WX.seq ?_
  refine WX.reg ?_
  refine WO.q (.r fun _ => rfl) rfl rfl ?_
  refine WO.q (.as (v := .bool _) rfl) rfl rfl ?_
  refine WO.nil ?_
  rcases bsp (decide (zb6.1 = 1)) with k13009 | k13009
  · have q_k13009 := of_decide_eq_true k13009
    replace h := (if_pos q_k13009).symm.trans h
    refine WX.condT rfl k13009 ?_
    refine WX.reg ?_
    refine WO.q (.mv (v := .str _) rfl) rfl rfl ?_
    obtain ⟨y13010, hy13010, h⟩ := Option.bind_eq_some_iff.1 h
    refine WO.q (.sl (evscut ti9 rfl hy13010 (bnd_int (cutL_some hy13010).1.1) rfl)) rfl rfl ?_
    obtain ⟨y13011, hy13011, h⟩ := Option.bind_eq_some_iff.1 h
    refine WO.c1 rfl rfl (ext_Parse_ok hy13011) rfl rfl rfl ?_
    rintro _ B _ hK ⟨v13012, b13013, n13014, c13015, rfl, rfl, h13016⟩
    obtain ⟨_, _, _, _, _, rfl⟩ := h13016.isl
    replace h13006 := h13006.up hK
    replace h13008 := h13008.up hK
    replace hB := hB.trans hK
    refine WO.q (.mv (v := .tup _) rfl) rfl rfl ?_
    refine WO.q (.r fun _ => rfl) rfl rfl ?_
    refine WO.q (.r fun _ => rfl) rfl rfl ?_
    refine WO.q (.fa (fa86_3 _ _)) rfl rfl ?_
    refine WO.mn (MOp.store (cs' := [.int .u8 zb6.1, .int .i64 zb6.2.1, .int .i64 zb6.2.2.1, _, .str zb6.2.2.2.2]) rfl (cL rfl) (.t (.t .h)) ti44 rfl rfl (lb rfl) rfl) rfl ?_
    rintro _ _ rfl
    refine WO.nil ?_
    refine WX.pop ?_
    refine WX.keep [0, 3, 5, 6] (WX.pk [1, 2, 3, 0] (by decide) ?_) rfl
    exact inode_Parse_j7_ok h _ _ _ ⟨hB, _, _, _, n13006, _, _, _, _, n13014, _, h13006, h13016, rfl, rfl⟩
  · have q_k13009 := of_decide_eq_false k13009
    replace h := (if_neg q_k13009).symm.trans h
    refine WX.condF rfl k13009 ?_
    refine WX.seq ?_
    refine WX.reg ?_
    refine WO.q (.r fun _ => rfl) rfl rfl ?_
    refine WO.q (.as (v := .bool _) rfl) rfl rfl ?_
    refine WO.nil ?_
    rcases bsp (decide (zb6.1 = 3)) with k13025 | k13025
    · have q_k13025 := of_decide_eq_true k13025
      replace h := (if_pos q_k13025).symm.trans h
      refine WX.condT rfl k13025 ?_
      refine WX.reg ?_
      refine WO.q (.mv (v := .str _) rfl) rfl rfl ?_
      obtain ⟨y13026, hy13026, h⟩ := Option.bind_eq_some_iff.1 h
      refine WO.q (.sl (evscut ti9 rfl hy13026 (bnd_int (cutL_some hy13026).1.1) rfl)) rfl rfl ?_
      refine WO.q (.fa (fa86_4 _ _)) rfl rfl ?_
      refine WO.mn (MOp.store (cs' := [.int .u8 zb6.1, .int .i64 zb6.2.1, .int .i64 zb6.2.2.1, _, .str y13026]) rfl (cS rfl) (.t .h) ti9 rfl rfl (lb rfl) rfl) rfl ?_
      rintro _ _ rfl
      refine WO.nil ?_
      refine WX.pop ?_
      refine WX.keep [0, 3, 5, 6] (WX.pk [0, 1, 2, 3] (by decide) ?_) rfl
      exact inode_Parse_j7_ok h _ _ _ ⟨hB, _, _, _, n13006, _, _, _, _, n13008, _, h13006, h13008, rfl, rfl⟩
    · have q_k13025 := of_decide_eq_false k13025
      replace h := (if_neg q_k13025).symm.trans h
      refine WX.condF rfl k13025 ?_
      refine WX.skip ?_
      refine WX.pop ?_
      refine WX.keep [0, 3, 5, 6] (WX.pk [0, 1, 2, 3] (by decide) ?_) rfl
      exact inode_Parse_j7_ok h _ _ _ ⟨hB, _, _, _, n13006, _, _, _, _, n13008, _, h13006, h13008, rfl, rfl⟩
theorem inode_Parse_ok {B0 : Kn} {L : Own} {a0 : List UInt8} {r : Int × (Int × Int × Int × (List (Int × Int)) × (List UInt8)) × Int} (h : inode_Parse a0 = some r) : ∀ st, Hp B0 L st → ASpec Try.prog 56 [.str a0] st (inode_Parse_P B0 L r) := by
  unfold inode_Parse at h
  refine bodyA (A := []) Try.func56 rfl (c := bodyOf Try.f56) rfl Try.ntmps56 (lb rfl) fun n0 => ?_
  have hB := KLe.refl B0
  refine WX.seq ?_
  refine WX.reg ?_
  refine WO.q (.as (v := .int _ _) rfl) rfl rfl ?_
  refine WO.md (MOp.alloc ti86 rfl) rfl rfl ?_
  rintro _ _ ⟨b1, rfl, rfl⟩
  refine WO.q (.as (v := .int _ _) rfl) rfl rfl ?_
  refine WO.nil ?_
  refine WX.seq ?_
  refine WX.seq ?_
  refine WX.reg ?_
  refine WO.q (.mv (v := .str _) rfl) rfl rfl ?_
  refine WO.q (.len rfl rfl rfl (evslen ti9 rfl _)) rfl rfl ?_
  refine WO.q (.r fun _ => rfl) rfl rfl ?_
  refine WO.nil ?_
  rcases bsp (decide ((a0.length : Int) < 9)) with k2 | k2
  · have q_k2 := of_decide_eq_true k2
    replace h := (if_pos q_k2).symm.trans h
    refine WX.condT rfl k2 ?_
    refine WX.seq ?_
    refine WX.reg ?_
    refine WO.q (.bd (bd86_n)) rfl rfl ?_
    refine WO.q (.as (v := .int _ _) rfl) rfl rfl ?_
    refine WO.mn (MOp.storeW rfl (cA rfl) .h ti86 rfl rfl rfl) rfl ?_
    rintro _ _ rfl
    refine WO.q (.as (v := .int _ _) rfl) rfl rfl ?_
    refine WO.nil ?_
    obtain rfl := Option.some.inj h
    exact WX.ret (rs_ (rs_tmp rfl (rs_cell (.ldA (i := 0) rfl rfl rfl ti86 rfl) (rs_tmp rfl rs_nil)))) fun st hp => ⟨_, _, hB, ((hp.pk [] (by decide)).skip 0), _, 0, true, [], rfl, rfl, OSl.none _ _⟩
  · have q_k2 := of_decide_eq_false k2
    replace h := (if_neg q_k2).symm.trans h
    refine WX.condF rfl k2 ?_
    refine WX.skip ?_
    refine WX.seq ?_
    refine WX.reg ?_
    refine WO.q (.mv (v := .str _) rfl) rfl rfl ?_
    obtain ⟨y3, hy3, h⟩ := Option.bind_eq_some_iff.1 h
    refine WO.q (.sl (evscut ti9 rfl hy3 bnd_none (bnd_int (Int.le_trans (cutL_some hy3).1.1 (cutL_some hy3).1.2.1)))) rfl rfl ?_
    obtain ⟨y4, hy4, h⟩ := Option.bind_eq_some_iff.1 h
    refine WO.cS rfl rfl (le_Get_ok hy4) rfl rfl rfl ?_
    rintro _ rfl
    refine WO.q (cvI ti119 ti3 rfl rfl) rfl rfl ?_
    refine WO.q (.as (v := .int _ _) rfl) rfl rfl ?_
    refine WO.nil ?_
    refine WX.seq ?_
    refine WX.drw (Plan.of [0, 1, 2, 3, 6, 7] (.alt (Plan.of [4, 5] (.alt (Plan.of [8, 9, 10, 11, 12] .nil) (Plan.of [11, 8, 9, 10, 12] .nil))) (Plan.of [11, 4, 5, 8, 9, 10, 12] .nil))) _ mixed (by kernel_rfl) rfl (pk_sub [0]) ?_
    obtain ⟨y2005, hy2005, h⟩ := Option.bind_eq_some_iff.1 h
    obtain ⟨y4005, hy4005, h⟩ := Option.bind_eq_some_iff.1 h
    obtain ⟨y8005, hy8005, h⟩ := Option.bind_eq_some_iff.1 h
    obtain ⟨y5005, hy5005, h⟩ := Option.bind_eq_some_iff.1 h
    obtain ⟨y9005, hy9005, h⟩ := Option.bind_eq_some_iff.1 h
    refine WP.q (i := 0) rfl (.mv (v := .str _) rfl) rfl rfl rfl ?_
    refine WP.q (i := 1) rfl (.ix (evsix ti9 rfl hy2005 _)) rfl rfl rfl ?_
    refine WP.q (i := 2) rfl (.mv (v := .str _) rfl) rfl rfl rfl ?_
    refine WP.q (i := 3) rfl (.sl (evscut ti9 rfl hy4005 (bnd_int (cutL_some hy4005).1.1) (bnd_int (Int.le_trans (cutL_some hy4005).1.1 (cutL_some hy4005).1.2.1)))) rfl rfl rfl ?_
    refine WP.q (i := 6) rfl (.mv (v := .str _) rfl) rfl rfl rfl ?_
    refine WP.q (i := 7) rfl (.sl (evscut ti9 rfl hy8005 (bnd_int (cutL_some hy8005).1.1) (bnd_int (Int.le_trans (cutL_some hy8005).1.1 (cutL_some hy8005).1.2.1)))) rfl rfl rfl ?_
    refine WP.alt ?_ ?_
    · refine WP.cS (i := 4) rfl rfl rfl (le_Get_ok hy5005) rfl rfl rfl ?_
      rintro _ rfl
      refine WP.q (i := 5) rfl (cvI ti119 ti3 rfl rfl) (isQc ti119 ti3 rfl) rfl rfl ?_
      refine WP.alt ?_ ?_
      · refine WP.cS (i := 8) rfl rfl rfl (le_Get_ok hy9005) rfl rfl rfl ?_
        rintro _ rfl
        refine WP.q (i := 9) rfl (cvI ti119 ti3 rfl rfl) (isQc ti119 ti3 rfl) rfl rfl ?_
        refine WP.q (i := 10) rfl (.bd (bd86_0_1_2 (cI rfl) (cI rfl) (cI rfl))) rfl rfl rfl ?_
        refine WP.md (i := 11) rfl (MOp.alloc ti86 rfl) rfl rfl rfl ?_
        rintro _ _ ⟨b12005, rfl, rfl⟩
        refine ⟨fun e he _ => pk_in (jx := [1]) rfl e he, ?_⟩
        refine WP.msn (i := 12) rfl (MOp.storeW rfl (cA rfl) .h ti86 rfl rfl rfl) rfl (by kernel_rfl) rfl ?_
        rintro _ _ rfl
        refine WS.nil ?_
        refine WX.keep [0, 3, 5, 6] (WX.pk [1, 0] (by decide) (WX.addn [2, 3] ?_)) rfl
        exact inode_Parse_j4_ok h _ _ _ ⟨hB, _, _, 0, true, [], _, _, 0, true, [], OSl.none _ _, OSl.none _ _, rfl, rfl⟩
      · refine WP.md (i := 11) rfl (MOp.alloc ti86 rfl) rfl rfl rfl ?_
        rintro _ _ ⟨b12005, rfl, rfl⟩
        refine ⟨fun e he _ => pk_in (jx := [1]) rfl e he, ?_⟩
        refine WP.cS (i := 8) rfl rfl rfl (le_Get_ok hy9005) rfl rfl rfl ?_
        rintro _ rfl
        refine WP.q (i := 9) rfl (cvI ti119 ti3 rfl rfl) (isQc ti119 ti3 rfl) rfl rfl ?_
        refine WP.q (i := 10) rfl (.bd (bd86_0_1_2 (cI rfl) (cI rfl) (cI rfl))) rfl rfl rfl ?_
        refine WP.msn (i := 12) rfl (MOp.storeW rfl (cA rfl) .h ti86 rfl rfl rfl) rfl (by kernel_rfl) rfl ?_
        rintro _ _ rfl
        refine WS.nil ?_
        refine WX.keep [0, 3, 5, 6] (WX.pk [1, 0] (by decide) (WX.addn [2, 3] ?_)) rfl
        exact inode_Parse_j4_ok h _ _ _ ⟨hB, _, _, 0, true, [], _, _, 0, true, [], OSl.none _ _, OSl.none _ _, rfl, rfl⟩
    · refine WP.md (i := 11) rfl (MOp.alloc ti86 rfl) rfl rfl rfl ?_
      rintro _ _ ⟨b12005, rfl, rfl⟩
      refine ⟨fun e he _ => pk_in (jx := [1]) rfl e he, ?_⟩
      refine WP.cS (i := 4) rfl rfl rfl (le_Get_ok hy5005) rfl rfl rfl ?_
      rintro _ rfl
      refine WP.q (i := 5) rfl (cvI ti119 ti3 rfl rfl) (isQc ti119 ti3 rfl) rfl rfl ?_
      refine WP.cS (i := 8) rfl rfl rfl (le_Get_ok hy9005) rfl rfl rfl ?_
      rintro _ rfl
      refine WP.q (i := 9) rfl (cvI ti119 ti3 rfl rfl) (isQc ti119 ti3 rfl) rfl rfl ?_
      refine WP.q (i := 10) rfl (.bd (bd86_0_1_2 (cI rfl) (cI rfl) (cI rfl))) rfl rfl rfl ?_
      refine WP.msn (i := 12) rfl (MOp.storeW rfl (cA rfl) .h ti86 rfl rfl rfl) rfl (by kernel_rfl) rfl ?_
      rintro _ _ rfl
      refine WS.nil ?_
      refine WX.keep [0, 3, 5, 6] (WX.pk [1, 0] (by decide) (WX.addn [2, 3] ?_)) rfl
      exact inode_Parse_j4_ok h _ _ _ ⟨hB, _, _, 0, true, [], _, _, 0, true, [], OSl.none _ _, OSl.none _ _, rfl, rfl⟩
def inode_Equal_P (B : Kn) (L : Own) (r : Bool) : AV → St → Prop := CS B L fun v => v = .bool r
theorem inode_Equal_ok {B0 : Kn} {L : Own} {a0 : Int × Int × Int × (List (Int × Int)) × (List UInt8)} {a1 : Int × Int × Int × (List (Int × Int)) × (List UInt8)} {v0_0 : AV} {v1_0 : AV} {r : Bool} (g0_0 : RSl EPIi64Ii64Q B0 v0_0 a0.2.2.2.1) (g1_0 : RSl EPIi64Ii64Q B0 v1_0 a1.2.2.2.1) (h : inode_Equal a0 a1 = some r) : ∀ st, Hp B0 L st → ASpec Try.prog 57 [.agg [.int .u8 a0.1, .int .i64 a0.2.1, .int .i64 a0.2.2.1, v0_0, .str a0.2.2.2.2], .agg [.int .u8 a1.1, .int .i64 a1.2.1, .int .i64 a1.2.2.1, v1_0, .str a1.2.2.2.2]] st (inode_Equal_P B0 L r) := by
  unfold inode_Equal at h
  refine bodyA (A := []) Try.func57 rfl (c := bodyOf Try.f57) rfl Try.ntmps57 (lb rfl) fun n0 => ?_
  have hB := KLe.refl B0
  obtain ⟨_, _, _, _, _, rfl⟩ := g0_0.isl
  obtain ⟨_, _, _, _, _, rfl⟩ := g1_0.isl
  refine WX.seq ?_
  refine WX.reg ?_
  refine WO.md (MOp.box (cA rfl)) rfl rfl ?_
  rintro _ _ ⟨b1, rfl, rfl⟩
  refine WO.md (MOp.box (cA rfl)) rfl rfl ?_
  rintro _ _ ⟨b2, rfl, rfl⟩
  refine WO.q (.as (v := .bool _) rfl) rfl rfl ?_
  refine WO.nil ?_
  refine WX.seq ?_
  refine WX.reg ?_
  refine WO.q (.fa (fa86_0 _ _)) rfl rfl ?_
  refine WO.q (.ldS (i := 1) rfl rfl rfl ti84 rfl) rfl rfl ?_
  refine WO.q (.fa (fa86_0 _ _)) rfl rfl ?_
  refine WO.q (.ldS (i := 0) rfl rfl rfl ti84 rfl) rfl rfl ?_
  refine WO.q (.r fun _ => rfl) rfl rfl ?_
  refine WO.q (.mv (v := .bool _) rfl) rfl rfl ?_
  rcases bsp (decide (a0.1 = a1.1)) with k3 | k3
  · have q_k3 := of_decide_eq_true k3
    replace h := (if_pos q_k3).symm.trans h
    refine WO.q (.fa (fa86_1 _ _)) (wg rfl rfl (gt k3)) rfl ?_
    refine WO.q (.ldS (i := 1) rfl rfl rfl ti3 rfl) (wg rfl rfl (gt k3)) rfl ?_
    refine WO.q (.fa (fa86_1 _ _)) (wg rfl rfl (gt k3)) rfl ?_
    refine WO.q (.ldS (i := 0) rfl rfl rfl ti3 rfl) (wg rfl rfl (gt k3)) rfl ?_
    refine WO.q (.r fun _ => rfl) (wg rfl rfl (gt k3)) rfl ?_
    refine WO.q (.ptv (v := .bool _) rfl k3 rfl) rfl rfl ?_
    refine WO.q (.mv (v := .bool _) rfl) rfl rfl ?_
    rcases bsp (decide (a0.2.1 = a1.2.1)) with k4 | k4
    · have q_k4 := of_decide_eq_true k4
      replace h := (if_pos q_k4).symm.trans h
      refine WO.q (.fa (fa86_2 _ _)) (wg rfl rfl (gt k4)) rfl ?_
      refine WO.q (.ldS (i := 1) rfl rfl rfl ti3 rfl) (wg rfl rfl (gt k4)) rfl ?_
      refine WO.q (.fa (fa86_2 _ _)) (wg rfl rfl (gt k4)) rfl ?_
      refine WO.q (.ldS (i := 0) rfl rfl rfl ti3 rfl) (wg rfl rfl (gt k4)) rfl ?_
      refine WO.q (.r fun _ => rfl) (wg rfl rfl (gt k4)) rfl ?_
      refine WO.q (.ptv (v := .bool _) rfl k4 rfl) rfl rfl ?_
      refine WO.q (.mv (v := .bool _) rfl) rfl rfl ?_
      rcases bsp (decide (a0.2.2.1 = a1.2.2.1)) with k5 | k5
      · have q_k5 := of_decide_eq_true k5
        replace h := (if_pos q_k5).symm.trans h
        refine WO.q (.fa (fa86_3 _ _)) (wg rfl rfl (gt k5)) rfl ?_
        refine WO.q (.ldS (i := 1) rfl rfl rfl ti44 rfl) (wg rfl rfl (gt k5)) rfl ?_
        refine WO.q (.fa (fa86_3 _ _)) (wg rfl rfl (gt k5)) rfl ?_
        refine WO.q (.ldS (i := 0) rfl rfl rfl ti44 rfl) (wg rfl rfl (gt k5)) rfl ?_
        obtain ⟨y6, hy6, h⟩ := Option.bind_eq_some_iff.1 h
        refine WO.cS rfl rfl (slices_Equal_ext_List_alloc_Extent_ok g0_0 g1_0 hy6) rfl (wg rfl rfl (gt k5)) rfl ?_
        rintro _ rfl
        refine WO.q (.ptv (v := .bool _) rfl k5 rfl) rfl rfl ?_
        refine WO.q (.mv (v := .bool _) rfl) rfl rfl ?_
        rcases bsp y6 with k7 | k7
        · replace h := (if_pos k7).symm.trans h
          refine WO.q (.fa (fa86_4 _ _)) (wg rfl rfl (gt k7)) rfl ?_
          refine WO.q (.ldS (i := 1) rfl rfl rfl ti9 rfl) (wg rfl rfl (gt k7)) rfl ?_
          refine WO.q (.fa (fa86_4 _ _)) (wg rfl rfl (gt k7)) rfl ?_
          refine WO.q (.ldS (i := 0) rfl rfl rfl ti9 rfl) (wg rfl rfl (gt k7)) rfl ?_
          refine WO.q (.r fun _ => rfl) (wg rfl rfl (gt k7)) rfl ?_
          refine WO.q (.ptv (v := .bool _) rfl k7 rfl) rfl rfl ?_
          refine WO.q (.as (v := .bool _) rfl) rfl rfl ?_
          refine WO.nil ?_
          obtain rfl := Option.some.inj h
          exact WX.ret (rs_ (rs_tmp rfl rs_nil)) fun st hp => ⟨(hp.pk [] (by decide)).le hB, rfl⟩
        · replace h := (if_neg (bnt k7)).symm.trans h
          refine WO.sd (wg rfl rfl (gtn k7)) rfl ?_
          refine WO.sd (wg rfl rfl (gtn k7)) rfl ?_
          refine WO.sd (wg rfl rfl (gtn k7)) rfl ?_
          refine WO.sd (wg rfl rfl (gtn k7)) rfl ?_
          refine WO.sd (wg rfl rfl (gtn k7)) rfl ?_
          refine WO.q (.pfv (v := .bool _) rfl k7 rfl) rfl rfl ?_
          refine WO.q (.as (v := .bool _) rfl) rfl rfl ?_
          refine WO.nil ?_
          obtain rfl := Option.some.inj h
          exact WX.ret (rs_ (rs_tmp rfl rs_nil)) fun st hp => ⟨(hp.pk [] (by decide)).le hB, rfl⟩
      · have q_k5 := of_decide_eq_false k5
        replace h := (if_neg q_k5).symm.trans h
        refine WO.sd (wg rfl rfl (gtn k5)) rfl ?_
        refine WO.sd (wg rfl rfl (gtn k5)) rfl ?_
        refine WO.sd (wg rfl rfl (gtn k5)) rfl ?_
        refine WO.sd (wg rfl rfl (gtn k5)) rfl ?_
        refine WO.sd (wg rfl rfl (gtn k5)) rfl ?_
        refine WO.q (.pfv (v := .bool _) rfl k5 rfl) rfl rfl ?_
        refine WO.q (.mv (v := .bool _) rfl) rfl rfl ?_
        refine WO.sd (wg rfl rfl (gtn rfl)) rfl ?_
        refine WO.sd (wg rfl rfl (gtn rfl)) rfl ?_
        refine WO.sd (wg rfl rfl (gtn rfl)) rfl ?_
        refine WO.sd (wg rfl rfl (gtn rfl)) rfl ?_
        refine WO.sd (wg rfl rfl (gtn rfl)) rfl ?_
        refine WO.q (.pfv (v := .bool _) rfl rfl rfl) rfl rfl ?_
        refine WO.q (.as (v := .bool _) rfl) rfl rfl ?_
        refine WO.nil ?_
        obtain rfl := Option.some.inj h
        exact WX.ret (rs_ (rs_tmp rfl rs_nil)) fun st hp => ⟨(hp.pk [] (by decide)).le hB, rfl⟩
    · have q_k4 := of_decide_eq_false k4
      replace h := (if_neg q_k4).symm.trans h
      refine WO.sd (wg rfl rfl (gtn k4)) rfl ?_
      refine WO.sd (wg rfl rfl (gtn k4)) rfl ?_
      refine WO.sd (wg rfl rfl (gtn k4)) rfl ?_
      refine WO.sd (wg rfl rfl (gtn k4)) rfl ?_
      refine WO.sd (wg rfl rfl (gtn k4)) rfl ?_
      refine WO.q (.pfv (v := .bool _) rfl k4 rfl) rfl rfl ?_
      refine WO.q (.mv (v := .bool _) rfl) rfl rfl ?_
      refine WO.sd (wg rfl rfl (gtn rfl)) rfl ?_
      refine WO.sd (wg rfl rfl (gtn rfl)) rfl ?_
      refine WO.sd (wg rfl rfl (gtn rfl)) rfl ?_
      refine WO.sd (wg rfl rfl (gtn rfl)) rfl ?_
      refine WO.sd (wg rfl rfl (gtn rfl)) rfl ?_
      refine WO.q (.pfv (v := .bool _) rfl rfl rfl) rfl rfl ?_
      refine WO.q (.mv (v := .bool _) rfl) rfl rfl ?_
      refine WO.sd (wg rfl rfl (gtn rfl)) rfl ?_
      refine WO.sd (wg rfl rfl (gtn rfl)) rfl ?_
      refine WO.sd (wg rfl rfl (gtn rfl)) rfl ?_
      refine WO.sd (wg rfl rfl (gtn rfl)) rfl ?_
      refine WO.sd (wg rfl rfl (gtn rfl)) rfl ?_
      refine WO.q (.pfv (v := .bool _) rfl rfl rfl) rfl rfl ?_
      refine WO.q (.as (v := .bool _) rfl) rfl rfl ?_
      refine WO.nil ?_
      obtain rfl := Option.some.inj h
      exact WX.ret (rs_ (rs_tmp rfl rs_nil)) fun st hp => ⟨(hp.pk [] (by decide)).le hB, rfl⟩
  · have q_k3 := of_decide_eq_false k3
    replace h := (if_neg q_k3).symm.trans h
    refine WO.sd (wg rfl rfl (gtn k3)) rfl ?_
    refine WO.sd (wg rfl rfl (gtn k3)) rfl ?_
    refine WO.sd (wg rfl rfl (gtn k3)) rfl ?_
    refine WO.sd (wg rfl rfl (gtn k3)) rfl ?_
    refine WO.sd (wg rfl rfl (gtn k3)) rfl ?_
    refine WO.q (.pfv (v := .bool _) rfl k3 rfl) rfl rfl ?_
    refine WO.q (.mv (v := .bool _) rfl) rfl rfl ?_
    refine WO.sd (wg rfl rfl (gtn rfl)) rfl ?_
    refine WO.sd (wg rfl rfl (gtn rfl)) rfl ?_
    refine WO.sd (wg rfl rfl (gtn rfl)) rfl ?_
    refine WO.sd (wg rfl rfl (gtn rfl)) rfl ?_
    refine WO.sd (wg rfl rfl (gtn rfl)) rfl ?_
    refine WO.q (.pfv (v := .bool _) rfl rfl rfl) rfl rfl ?_
    refine WO.q (.mv (v := .bool _) rfl) rfl rfl ?_
    refine WO.sd (wg rfl rfl (gtn rfl)) rfl ?_
    refine WO.sd (wg rfl rfl (gtn rfl)) rfl ?_
    refine WO.sd (wg rfl rfl (gtn rfl)) rfl ?_
    refine WO.sd (wg rfl rfl (gtn rfl)) rfl ?_
    refine WO.sd (wg rfl rfl (gtn rfl)) rfl ?_
    refine WO.q (.pfv (v := .bool _) rfl rfl rfl) rfl rfl ?_
    refine WO.q (.mv (v := .bool _) rfl) rfl rfl ?_
    refine WO.sd (wg rfl rfl (gtn rfl)) rfl ?_
    refine WO.sd (wg rfl rfl (gtn rfl)) rfl ?_
    refine WO.sd (wg rfl rfl (gtn rfl)) rfl ?_
    refine WO.sd (wg rfl rfl (gtn rfl)) rfl ?_
    refine WO.sd (wg rfl rfl (gtn rfl)) rfl ?_
    refine WO.q (.pfv (v := .bool _) rfl rfl rfl) rfl rfl ?_
    refine WO.q (.as (v := .bool _) rfl) rfl rfl ?_
    refine WO.nil ?_
    obtain rfl := Option.some.inj h
    exact WX.ret (rs_ (rs_tmp rfl rs_nil)) fun st hp => ⟨(hp.pk [] (by decide)).le hB, rfl⟩
end Gab
