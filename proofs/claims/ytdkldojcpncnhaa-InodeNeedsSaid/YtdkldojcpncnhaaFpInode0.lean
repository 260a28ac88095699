/- The Go code comes to what the Lean functions say. Written by a program (gp.py). -/
import Derived.Test.YtdkldojcpncnhaaFd
import Derived.Test.YtdkldojcpncnhaaTy
import Derived.Test.YtdkldojcpncnhaaFpExt0
import Derived.Test.YtdkldojcpncnhaaFpStrings0
set_option linter.unusedSimpArgs false
set_option linter.unusedVariables false
set_option maxHeartbeats 4000000
set_option maxRecDepth 100000
namespace Gab
open Go Go.Proofs
def inode_Need_P (B : Kn) (L : Own) (r : Int) : AV → St → Prop := CS B L fun v => v = .int .i64 r
theorem inode_Need_ok {B0 : Kn} {L : Own} {a0 : Int} {r : Int} (h : inode_Need a0 = some r) : ∀ st, Hp B0 L st → ASpec Try.prog 54 [.int .i64 a0] st (inode_Need_P B0 L r) := by
  unfold inode_Need at h
  refine bodyA (A := []) Try.func54 rfl (c := bodyOf Try.f54) rfl Try.ntmps54 (lb rfl) fun n0 => ?_
  have hB := KLe.refl B0
  refine WX.seq ?_
  refine WX.reg ?_
  refine WO.q (.as (v := .int _ _) rfl) rfl rfl ?_
  refine WO.nil ?_
  refine WX.seq ?_
  refine WX.seq ?_
  refine WX.reg ?_
  refine WO.q (.mv (v := .int _ _) rfl) rfl rfl ?_
  refine WO.q (.r fun _ => rfl) rfl rfl ?_
  refine WO.nil ?_
  rcases bsp (decide (a0 < 1)) with k1 | k1
  · have q_k1 := of_decide_eq_true k1
    replace h := (if_pos q_k1).symm.trans h
    refine WX.condT rfl k1 ?_
    refine WX.seq ?_
    refine WX.reg ?_
    refine WO.q (.as (v := .int _ _) rfl) rfl rfl ?_
    refine WO.nil ?_
    obtain rfl := Option.some.inj h
    exact WX.ret (rs_ (rs_tmp rfl rs_nil)) fun st hp => ⟨(hp.pk [] (by decide)).le hB, rfl⟩
  · have q_k1 := of_decide_eq_false k1
    replace h := (if_neg q_k1).symm.trans h
    refine WX.condF rfl k1 ?_
    refine WX.skip ?_
    refine WX.seq ?_
    refine WX.reg ?_
    refine WO.q (.mv (v := .int _ _) rfl) rfl rfl ?_
    refine WO.q (.r fun _ => rfl) rfl rfl ?_
    refine WO.q (.r fun _ => rfl) rfl rfl ?_
    refine WO.q (.r fun _ => rfl) rfl rfl ?_
    refine WO.q (.as (v := .int _ _) rfl) rfl rfl ?_
    refine WO.nil ?_
    obtain rfl := Option.some.inj h
    exact WX.ret (rs_ (rs_tmp rfl rs_nil)) fun st hp => ⟨(hp.pk [] (by decide)).le hB, rfl⟩
def inode_Inode_file_P (B : Kn) (L : Own) (r : Bool) : AV → St → Prop := CS B L fun v => v = .bool r
theorem inode_Inode_file_ok {B0 : Kn} {L : Own} {a0 : Int × Int × Int × (List (Int × Int)) × (List UInt8)} {v0_0 : AV} {r : Bool} (g0_0 : RSl EPIi64Ii64Q B0 v0_0 a0.2.2.2.1) (h : inode_Inode_file a0 = some r) : ∀ st, Hp B0 L st → ASpec Try.prog 81 [.agg [.int .u8 a0.1, .int .i64 a0.2.1, .int .i64 a0.2.2.1, v0_0, .str a0.2.2.2.2]] st (inode_Inode_file_P B0 L r) := by
  unfold inode_Inode_file at h
  refine bodyA (A := []) Try.func81 rfl (c := bodyOf Try.f81) rfl Try.ntmps81 (lb rfl) fun n0 => ?_
  have hB := KLe.refl B0
  obtain ⟨_, _, _, _, _, rfl⟩ := g0_0.isl
  refine WX.seq ?_
  refine WX.reg ?_
  refine WO.md (MOp.box (cA rfl)) rfl rfl ?_
  rintro _ _ ⟨b1, rfl, rfl⟩
  refine WO.q (.as (v := .bool _) rfl) rfl rfl ?_
  refine WO.nil ?_
  refine WX.seq ?_
  refine WX.drw (Plan.of [0, 1, 2, 3, 4, 5, 6, 7, 8, 9, 10, 11, 12, 13, 14, 15, 17, 18, 16, 19, 20, 21, 22, 23, 24, 25, 26, 27] .nil) _ mixed (by kernel_rfl) rfl (pk_sub [0]) ?_
  refine WP.q (i := 0) rfl (.fa (fa86_2 _ _)) rfl rfl rfl ?_
  refine WP.q (i := 1) rfl (.ldS (i := 0) rfl rfl rfl ti3 rfl) rfl rfl rfl ?_
  refine WP.q (i := 2) rfl (.r fun _ => rfl) rfl rfl rfl ?_
  refine WP.q (i := 3) rfl (.mv (v := .bool _) rfl) rfl rfl rfl ?_
  rcases bsp (decide (0 ≤ a0.2.2.1)) with k2 | k2
  · have q_k2 := of_decide_eq_true k2
    replace h := (if_pos q_k2).symm.trans h
    refine WP.q (i := 4) rfl (.fa (fa86_2 _ _)) rfl (wg rfl rfl (gt k2)) rfl ?_
    refine WP.q (i := 5) rfl (.ldS (i := 0) rfl rfl rfl ti3 rfl) rfl (wg rfl rfl (gt k2)) rfl ?_
    refine WP.q (i := 6) rfl (.r fun _ => rfl) rfl (wg rfl rfl (gt k2)) rfl ?_
    refine WP.q (i := 7) rfl (.ptv (v := .bool _) rfl k2 rfl) rfl rfl rfl ?_
    refine WP.q (i := 8) rfl (.mv (v := .bool _) rfl) rfl rfl rfl ?_
    rcases bsp (decide (a0.2.2.1 ≤ 4194304)) with k3 | k3
    · have q_k3 := of_decide_eq_true k3
      replace h := (if_pos q_k3).symm.trans h
      refine WP.q (i := 9) rfl (.fa (fa86_3 _ _)) rfl (wg rfl rfl (gt k3)) rfl ?_
      refine WP.q (i := 10) rfl (.ldS (i := 0) rfl rfl rfl ti44 rfl) rfl (wg rfl rfl (gt k3)) rfl ?_
      obtain ⟨y4, hy4, h⟩ := Option.bind_eq_some_iff.1 h
      refine WP.cS (i := 11) rfl rfl rfl (ext_List_Right_ok g0_0 hy4) rfl (wg rfl rfl (gt k3)) rfl ?_
      rintro _ rfl
      refine WP.q (i := 12) rfl (.ptv (v := .bool _) rfl k3 rfl) rfl rfl rfl ?_
      refine WP.q (i := 13) rfl (.mv (v := .bool _) rfl) rfl rfl rfl ?_
      rcases bsp y4 with k5 | k5
      · replace h := (if_pos k5).symm.trans h
        refine WP.q (i := 14) rfl (.fa (fa86_3 _ _)) rfl (wg rfl rfl (gt k5)) rfl ?_
        refine WP.q (i := 15) rfl (.ldS (i := 0) rfl rfl rfl ti44 rfl) rfl (wg rfl rfl (gt k5)) rfl ?_
        refine WP.q (i := 17) rfl (.fa (fa86_2 _ _)) rfl (wg rfl rfl (gt k5)) rfl ?_
        refine WP.q (i := 18) rfl (.ldS (i := 0) rfl rfl rfl ti3 rfl) rfl (wg rfl rfl (gt k5)) rfl ?_
        obtain ⟨y6, hy6, h⟩ := Option.bind_eq_some_iff.1 h
        refine WP.cS (i := 16) rfl rfl rfl (ext_List_Blocks_ok g0_0 hy6) rfl (wg rfl rfl (gt k5)) rfl ?_
        rintro _ rfl
        obtain ⟨y7, hy7, h⟩ := Option.bind_eq_some_iff.1 h
        refine WP.cS (i := 19) rfl rfl rfl (inode_Need_ok hy7) rfl (wg rfl rfl (gt k5)) rfl ?_
        rintro _ rfl
        refine WP.q (i := 20) rfl (.r fun _ => rfl) rfl (wg rfl rfl (gt k5)) rfl ?_
        refine WP.q (i := 21) rfl (.ptv (v := .bool _) rfl k5 rfl) rfl rfl rfl ?_
        refine WP.q (i := 22) rfl (.mv (v := .bool _) rfl) rfl rfl rfl ?_
        rcases bsp (decide (y6 = y7)) with k8 | k8
        · have q_k8 := of_decide_eq_true k8
          replace h := (if_pos q_k8).symm.trans h
          refine WP.q (i := 23) rfl (.fa (fa86_4 _ _)) rfl (wg rfl rfl (gt k8)) rfl ?_
          refine WP.q (i := 24) rfl (.ldS (i := 0) rfl rfl rfl ti9 rfl) rfl (wg rfl rfl (gt k8)) rfl ?_
          refine WP.q (i := 25) rfl (.r fun _ => rfl) rfl (wg rfl rfl (gt k8)) rfl ?_
          refine WP.q (i := 26) rfl (.ptv (v := .bool _) rfl k8 rfl) rfl rfl rfl ?_
          refine WP.q (i := 27) rfl (.as (v := .bool _) rfl) rfl rfl rfl ?_
          refine WP.nil ?_
          obtain rfl := Option.some.inj h
          exact WX.ret (rs_ (rs_tmp rfl rs_nil)) fun st hp => ⟨(hp.pk [] (by decide)).le hB, rfl⟩
        · have q_k8 := of_decide_eq_false k8
          replace h := (if_neg q_k8).symm.trans h
          refine WP.sk (i := 23) rfl rfl (wg rfl rfl (gtn k8)) rfl ?_
          refine WP.sk (i := 24) rfl rfl (wg rfl rfl (gtn k8)) rfl ?_
          refine WP.sk (i := 25) rfl rfl (wg rfl rfl (gtn k8)) rfl ?_
          refine WP.q (i := 26) rfl (.pfv (v := .bool _) rfl k8 rfl) rfl rfl rfl ?_
          refine WP.q (i := 27) rfl (.as (v := .bool _) rfl) rfl rfl rfl ?_
          refine WP.nil ?_
          obtain rfl := Option.some.inj h
          exact WX.ret (rs_ (rs_tmp rfl rs_nil)) fun st hp => ⟨(hp.pk [] (by decide)).le hB, rfl⟩
      · replace h := (if_neg (bnt k5)).symm.trans h
        refine WP.sk (i := 14) rfl rfl (wg rfl rfl (gtn k5)) rfl ?_
        refine WP.sk (i := 15) rfl rfl (wg rfl rfl (gtn k5)) rfl ?_
        refine WP.sk (i := 17) rfl rfl (wg rfl rfl (gtn k5)) rfl ?_
        refine WP.sk (i := 18) rfl rfl (wg rfl rfl (gtn k5)) rfl ?_
        refine WP.sd (i := 16) rfl rfl (wg rfl rfl (gtn k5)) rfl ?_
        refine WP.sd (i := 19) rfl rfl (wg rfl rfl (gtn k5)) rfl ?_
        refine WP.sk (i := 20) rfl rfl (wg rfl rfl (gtn k5)) rfl ?_
        refine WP.q (i := 21) rfl (.pfv (v := .bool _) rfl k5 rfl) rfl rfl rfl ?_
        refine WP.q (i := 22) rfl (.mv (v := .bool _) rfl) rfl rfl rfl ?_
        refine WP.sk (i := 23) rfl rfl (wg rfl rfl (gtn rfl)) rfl ?_
        refine WP.sk (i := 24) rfl rfl (wg rfl rfl (gtn rfl)) rfl ?_
        refine WP.sk (i := 25) rfl rfl (wg rfl rfl (gtn rfl)) rfl ?_
        refine WP.q (i := 26) rfl (.pfv (v := .bool _) rfl rfl rfl) rfl rfl rfl ?_
        refine WP.q (i := 27) rfl (.as (v := .bool _) rfl) rfl rfl rfl ?_
        refine WP.nil ?_
        obtain rfl := Option.some.inj h
        exact WX.ret (rs_ (rs_tmp rfl rs_nil)) fun st hp => ⟨(hp.pk [] (by decide)).le hB, rfl⟩
    · have q_k3 := of_decide_eq_false k3
      replace h := (if_neg q_k3).symm.trans h
      refine WP.sk (i := 9) rfl rfl (wg rfl rfl (gtn k3)) rfl ?_
      refine WP.sk (i := 10) rfl rfl (wg rfl rfl (gtn k3)) rfl ?_
      refine WP.sd (i := 11) rfl rfl (wg rfl rfl (gtn k3)) rfl ?_
      refine WP.q (i := 12) rfl (.pfv (v := .bool _) rfl k3 rfl) rfl rfl rfl ?_
      refine WP.q (i := 13) rfl (.mv (v := .bool _) rfl) rfl rfl rfl ?_
      refine WP.sk (i := 14) rfl rfl (wg rfl rfl (gtn rfl)) rfl ?_
      refine WP.sk (i := 15) rfl rfl (wg rfl rfl (gtn rfl)) rfl ?_
      refine WP.sk (i := 17) rfl rfl (wg rfl rfl (gtn rfl)) rfl ?_
      refine WP.sk (i := 18) rfl rfl (wg rfl rfl (gtn rfl)) rfl ?_
      refine WP.sd (i := 16) rfl rfl (wg rfl rfl (gtn rfl)) rfl ?_
      refine WP.sd (i := 19) rfl rfl (wg rfl rfl (gtn rfl)) rfl ?_
      refine WP.sk (i := 20) rfl rfl (wg rfl rfl (gtn rfl)) rfl ?_
      refine WP.q (i := 21) rfl (.pfv (v := .bool _) rfl rfl rfl) rfl rfl rfl ?_
      refine WP.q (i := 22) rfl (.mv (v := .bool _) rfl) rfl rfl rfl ?_
      refine WP.sk (i := 23) rfl rfl (wg rfl rfl (gtn rfl)) rfl ?_
      refine WP.sk (i := 24) rfl rfl (wg rfl rfl (gtn rfl)) rfl ?_
      refine WP.sk (i := 25) rfl rfl (wg rfl rfl (gtn rfl)) rfl ?_
      refine WP.q (i := 26) rfl (.pfv (v := .bool _) rfl rfl rfl) rfl rfl rfl ?_
      refine WP.q (i := 27) rfl (.as (v := .bool _) rfl) rfl rfl rfl ?_
      refine WP.nil ?_
      obtain rfl := Option.some.inj h
      exact WX.ret (rs_ (rs_tmp rfl rs_nil)) fun st hp => ⟨(hp.pk [] (by decide)).le hB, rfl⟩
  · have q_k2 := of_decide_eq_false k2
    replace h := (if_neg q_k2).symm.trans h
    refine WP.sk (i := 4) rfl rfl (wg rfl rfl (gtn k2)) rfl ?_
    refine WP.sk (i := 5) rfl rfl (wg rfl rfl (gtn k2)) rfl ?_
    refine WP.sk (i := 6) rfl rfl (wg rfl rfl (gtn k2)) rfl ?_
    refine WP.q (i := 7) rfl (.pfv (v := .bool _) rfl k2 rfl) rfl rfl rfl ?_
    refine WP.q (i := 8) rfl (.mv (v := .bool _) rfl) rfl rfl rfl ?_
    refine WP.sk (i := 9) rfl rfl (wg rfl rfl (gtn rfl)) rfl ?_
    refine WP.sk (i := 10) rfl rfl (wg rfl rfl (gtn rfl)) rfl ?_
    refine WP.sd (i := 11) rfl rfl (wg rfl rfl (gtn rfl)) rfl ?_
    refine WP.q (i := 12) rfl (.pfv (v := .bool _) rfl rfl rfl) rfl rfl rfl ?_
    refine WP.q (i := 13) rfl (.mv (v := .bool _) rfl) rfl rfl rfl ?_
    refine WP.sk (i := 14) rfl rfl (wg rfl rfl (gtn rfl)) rfl ?_
    refine WP.sk (i := 15) rfl rfl (wg rfl rfl (gtn rfl)) rfl ?_
    refine WP.sk (i := 17) rfl rfl (wg rfl rfl (gtn rfl)) rfl ?_
    refine WP.sk (i := 18) rfl rfl (wg rfl rfl (gtn rfl)) rfl ?_
    refine WP.sd (i := 16) rfl rfl (wg rfl rfl (gtn rfl)) rfl ?_
    refine WP.sd (i := 19) rfl rfl (wg rfl rfl (gtn rfl)) rfl ?_
    refine WP.sk (i := 20) rfl rfl (wg rfl rfl (gtn rfl)) rfl ?_
    refine WP.q (i := 21) rfl (.pfv (v := .bool _) rfl rfl rfl) rfl rfl rfl ?_
    refine WP.q (i := 22) rfl (.mv (v := .bool _) rfl) rfl rfl rfl ?_
    refine WP.sk (i := 23) rfl rfl (wg rfl rfl (gtn rfl)) rfl ?_
    refine WP.sk (i := 24) rfl rfl (wg rfl rfl (gtn rfl)) rfl ?_
    refine WP.sk (i := 25) rfl rfl (wg rfl rfl (gtn rfl)) rfl ?_
    refine WP.q (i := 26) rfl (.pfv (v := .bool _) rfl rfl rfl) rfl rfl rfl ?_
    refine WP.q (i := 27) rfl (.as (v := .bool _) rfl) rfl rfl rfl ?_
    refine WP.nil ?_
    obtain rfl := Option.some.inj h
    exact WX.ret (rs_ (rs_tmp rfl rs_nil)) fun st hp => ⟨(hp.pk [] (by decide)).le hB, rfl⟩
def inode_Inode_link_P (B : Kn) (L : Own) (r : Bool) : AV → St → Prop := CS B L fun v => v = .bool r
theorem inode_Inode_link_ok {B0 : Kn} {L : Own} {a0 : Int × Int × Int × (List (Int × Int)) × (List UInt8)} {v0_0 : AV} {r : Bool} (g0_0 : RSl EPIi64Ii64Q B0 v0_0 a0.2.2.2.1) (h : inode_Inode_link a0 = some r) : ∀ st, Hp B0 L st → ASpec Try.prog 82 [.agg [.int .u8 a0.1, .int .i64 a0.2.1, .int .i64 a0.2.2.1, v0_0, .str a0.2.2.2.2]] st (inode_Inode_link_P B0 L r) := by
  unfold inode_Inode_link at h
  refine bodyA (A := []) Try.func82 rfl (c := bodyOf Try.f82) rfl Try.ntmps82 (lb rfl) fun n0 => ?_
  have hB := KLe.refl B0
  obtain ⟨_, _, _, _, _, rfl⟩ := g0_0.isl
  refine WX.seq ?_
  refine WX.reg ?_
  refine WO.md (MOp.box (cA rfl)) rfl rfl ?_
  rintro _ _ ⟨b1, rfl, rfl⟩
  refine WO.q (.as (v := .bool _) rfl) rfl rfl ?_
  refine WO.nil ?_
  refine WX.seq ?_
  refine WX.reg ?_
  refine WO.q (.fa (fa86_4 _ _)) rfl rfl ?_
  refine WO.q (.ldS (i := 0) rfl rfl rfl ti9 rfl) rfl rfl ?_
  refine WO.q (.len rfl rfl rfl (evslen ti9 rfl _)) rfl rfl ?_
  refine WO.q (.as (v := .int _ _) rfl) rfl rfl ?_
  refine WO.nil ?_
  refine WX.seq ?_
  refine WX.reg ?_
  refine WO.q (.mv (v := .int _ _) rfl) rfl rfl ?_
  refine WO.q (.r fun _ => rfl) rfl rfl ?_
  refine WO.q (.mv (v := .bool _) rfl) rfl rfl ?_
  rcases bsp (decide (1 ≤ (a0.2.2.2.2.length : Int))) with k2 | k2
  · have q_k2 := of_decide_eq_true k2
    replace h := (if_pos q_k2).symm.trans h
    refine WO.q (.mv (v := .int _ _) rfl) (wg rfl rfl (gt k2)) rfl ?_
    refine WO.q (.r fun _ => rfl) (wg rfl rfl (gt k2)) rfl ?_
    refine WO.q (.ptv (v := .bool _) rfl k2 rfl) rfl rfl ?_
    refine WO.q (.mv (v := .bool _) rfl) rfl rfl ?_
    rcases bsp (decide ((a0.2.2.2.2.length : Int) ≤ 256)) with k3 | k3
    · have q_k3 := of_decide_eq_true k3
      replace h := (if_pos q_k3).symm.trans h
      refine WO.q (.fa (fa86_2 _ _)) (wg rfl rfl (gt k3)) rfl ?_
      refine WO.q (.ldS (i := 0) rfl rfl rfl ti3 rfl) (wg rfl rfl (gt k3)) rfl ?_
      refine WO.q (.mv (v := .int _ _) rfl) (wg rfl rfl (gt k3)) rfl ?_
      refine WO.q (.r fun _ => rfl) (wg rfl rfl (gt k3)) rfl ?_
      refine WO.q (.ptv (v := .bool _) rfl k3 rfl) rfl rfl ?_
      refine WO.q (.mv (v := .bool _) rfl) rfl rfl ?_
      rcases bsp (decide (a0.2.2.1 = (a0.2.2.2.2.length : Int))) with k4 | k4
      · have q_k4 := of_decide_eq_true k4
        replace h := (if_pos q_k4).symm.trans h
        refine WO.q (.fa (fa86_3 _ _)) (wg rfl rfl (gt k4)) rfl ?_
        refine WO.q (.ldS (i := 0) rfl rfl rfl ti44 rfl) (wg rfl rfl (gt k4)) rfl ?_
        refine WO.q (.len rfl rfl rfl (sl44.len g0_0.isl)) (wg rfl rfl (gt k4)) rfl ?_
        refine WO.q (.r fun _ => rfl) (wg rfl rfl (gt k4)) rfl ?_
        refine WO.q (.ptv (v := .bool _) rfl k4 rfl) rfl rfl ?_
        refine WO.q (.mv (v := .bool _) rfl) rfl rfl ?_
        rcases bsp (decide ((a0.2.2.2.1.length : Int) = 0)) with k5 | k5
        · have q_k5 := of_decide_eq_true k5
          replace h := (if_pos q_k5).symm.trans h
          refine WO.q (.fa (fa86_4 _ _)) (wg rfl rfl (gt k5)) rfl ?_
          refine WO.q (.ldS (i := 0) rfl rfl rfl ti9 rfl) (wg rfl rfl (gt k5)) rfl ?_
          obtain ⟨y6, hy6, h⟩ := Option.bind_eq_some_iff.1 h
          refine WO.cS rfl rfl (strings_Contains_ok hy6) rfl (wg rfl rfl (gt k5)) rfl ?_
          rintro _ rfl
          refine WO.q (.r fun _ => rfl) (wg rfl rfl (gt k5)) rfl ?_
          refine WO.q (.ptv (v := .bool _) rfl k5 rfl) rfl rfl ?_
          refine WO.q (.as (v := .bool _) rfl) rfl rfl ?_
          refine WO.nil ?_
          obtain rfl := Option.some.inj h
          exact WX.ret (rs_ (rs_tmp rfl rs_nil)) fun st hp => ⟨(hp.pk [] (by decide)).le hB, rfl⟩
        · have q_k5 := of_decide_eq_false k5
          replace h := (if_neg q_k5).symm.trans h
          refine WO.sd (wg rfl rfl (gtn k5)) rfl ?_
          refine WO.sd (wg rfl rfl (gtn k5)) rfl ?_
          refine WO.sd (wg rfl rfl (gtn k5)) rfl ?_
          refine WO.sd (wg rfl rfl (gtn k5)) rfl ?_
          refine WO.q (.pfv (v := .bool _) rfl k5 rfl) rfl rfl ?_
          refine WO.q (.as (v := .bool _) rfl) rfl rfl ?_
          refine WO.nil ?_
          obtain rfl := Option.some.inj h
          exact WX.ret (rs_ (rs_tmp rfl rs_nil)) fun st hp => ⟨(hp.pk [] (by decide)).le hB, rfl⟩
      · have q_k4 := of_decide_eq_false k4
        replace h := (if_neg q_k4).symm.trans h
        refine WO.sd (wg rfl rfl (gtn k4)) rfl ?_
        refine WO.sd (wg rfl rfl (gtn k4)) rfl ?_
        refine WO.sd (wg rfl rfl (gtn k4)) rfl ?_
        refine WO.sd (wg rfl rfl (gtn k4)) rfl ?_
        refine WO.q (.pfv (v := .bool _) rfl k4 rfl) rfl rfl ?_
        refine WO.q (.mv (v := .bool _) rfl) rfl rfl ?_
        refine WO.sd (wg rfl rfl (gtn rfl)) rfl ?_
        refine WO.sd (wg rfl rfl (gtn rfl)) rfl ?_
        refine WO.sd (wg rfl rfl (gtn rfl)) rfl ?_
        refine WO.sd (wg rfl rfl (gtn rfl)) rfl ?_
        refine WO.q (.pfv (v := .bool _) rfl rfl rfl) rfl rfl ?_
        refine WO.q (.as (v := .bool _) rfl) rfl rfl ?_
        refine WO.nil ?_
        obtain rfl := Option.some.inj h
        exact WX.ret (rs_ (rs_tmp rfl rs_nil)) fun st hp => ⟨(hp.pk [] (by decide)).le hB, rfl⟩
    · have q_k3 := of_decide_eq_false k3
      replace h := (if_neg q_k3).symm.trans h
      refine WO.sd (wg rfl rfl (gtn k3)) rfl ?_
      refine WO.sd (wg rfl rfl (gtn k3)) rfl ?_
      refine WO.sd (wg rfl rfl (gtn k3)) rfl ?_
      refine WO.sd (wg rfl rfl (gtn k3)) rfl ?_
      refine WO.q (.pfv (v := .bool _) rfl k3 rfl) rfl rfl ?_
      refine WO.q (.mv (v := .bool _) rfl) rfl rfl ?_
      refine WO.sd (wg rfl rfl (gtn rfl)) rfl ?_
      refine WO.sd (wg rfl rfl (gtn rfl)) rfl ?_
      refine WO.sd (wg rfl rfl (gtn rfl)) rfl ?_
      refine WO.sd (wg rfl rfl (gtn rfl)) rfl ?_
      refine WO.q (.pfv (v := .bool _) rfl rfl rfl) rfl rfl ?_
      refine WO.q (.mv (v := .bool _) rfl) rfl rfl ?_
      refine WO.sd (wg rfl rfl (gtn rfl)) rfl ?_
      refine WO.sd (wg rfl rfl (gtn rfl)) rfl ?_
      refine WO.sd (wg rfl rfl (gtn rfl)) rfl ?_
      refine WO.sd (wg rfl rfl (gtn rfl)) rfl ?_
      refine WO.q (.pfv (v := .bool _) rfl rfl rfl) rfl rfl ?_
      refine WO.q (.as (v := .bool _) rfl) rfl rfl ?_
      refine WO.nil ?_
      obtain rfl := Option.some.inj h
      exact WX.ret (rs_ (rs_tmp rfl rs_nil)) fun st hp => ⟨(hp.pk [] (by decide)).le hB, rfl⟩
  · have q_k2 := of_decide_eq_false k2
    replace h := (if_neg q_k2).symm.trans h
    refine WO.sd (wg rfl rfl (gtn k2)) rfl ?_
    refine WO.sd (wg rfl rfl (gtn k2)) rfl ?_
    refine WO.q (.pfv (v := .bool _) rfl k2 rfl) rfl rfl ?_
    refine WO.q (.mv (v := .bool _) rfl) rfl rfl ?_
    refine WO.sd (wg rfl rfl (gtn rfl)) rfl ?_
    refine WO.sd (wg rfl rfl (gtn rfl)) rfl ?_
    refine WO.sd (wg rfl rfl (gtn rfl)) rfl ?_
    refine WO.sd (wg rfl rfl (gtn rfl)) rfl ?_
    refine WO.q (.pfv (v := .bool _) rfl rfl rfl) rfl rfl ?_
    refine WO.q (.mv (v := .bool _) rfl) rfl rfl ?_
    refine WO.sd (wg rfl rfl (gtn rfl)) rfl ?_
    refine WO.sd (wg rfl rfl (gtn rfl)) rfl ?_
    refine WO.sd (wg rfl rfl (gtn rfl)) rfl ?_
    refine WO.sd (wg rfl rfl (gtn rfl)) rfl ?_
    refine WO.q (.pfv (v := .bool _) rfl rfl rfl) rfl rfl ?_
    refine WO.q (.mv (v := .bool _) rfl) rfl rfl ?_
    refine WO.sd (wg rfl rfl (gtn rfl)) rfl ?_
    refine WO.sd (wg rfl rfl (gtn rfl)) rfl ?_
    refine WO.sd (wg rfl rfl (gtn rfl)) rfl ?_
    refine WO.sd (wg rfl rfl (gtn rfl)) rfl ?_
    refine WO.q (.pfv (v := .bool _) rfl rfl rfl) rfl rfl ?_
    refine WO.q (.as (v := .bool _) rfl) rfl rfl ?_
    refine WO.nil ?_
    obtain rfl := Option.some.inj h
    exact WX.ret (rs_ (rs_tmp rfl rs_nil)) fun st hp => ⟨(hp.pk [] (by decide)).le hB, rfl⟩
def inode_Inode_Right_P (B : Kn) (L : Own) (r : Bool) : AV → St → Prop := CS B L fun v => v = .bool r
def inode_Inode_Right_j1_I (B0 : Kn) (x10 : Bool) (zb1 : Int × Int × Int × (List (Int × Int)) × (List UInt8)) : Fr → Kn → Own → Prop := fun fr B A => KLe B0 B ∧ ∃ b3 v4, RSl EPIi64Ii64Q B v4 zb1.2.2.2.1 ∧ fr = [(1, .ptr b3 0), (10, .bool x10)] ∧ A = [(b3, some [.int .u8 zb1.1, .int .i64 zb1.2.1, .int .i64 zb1.2.2.1, v4, .str zb1.2.2.2.2])]
theorem inode_Inode_Right_j1_ok {B0 : Kn} {L : Own} {n0 : Nat} {x10 : Bool} {zb1 : Int × Int × Int × (List (Int × Int)) × (List UInt8)} {r : Bool} (h : inode_Inode_Right_j1 x10 zb1 = some r) : WXI Try.prog 37 n0 (Fin Try.prog Try.f49.results.toList n0 (inode_Inode_Right_P B0 L r)) [.code (ct [1, 0, 1] (bodyOf Try.f49)), .code (ct [1, 1] (bodyOf Try.f49))] (inode_Inode_Right_j1_I B0 x10 zb1) L := by
  unfold inode_Inode_Right_j1 at h
  rintro _ B _ ⟨hB, b3, v4, h4, rfl, rfl⟩
  obtain ⟨_, _, _, _, _, rfl⟩ := h4.isl
  rcases bsp x10 with k5 | k5
  · replace h := (if_pos k5).symm.trans h
    refine WX.condT rfl k5 ?_
    refine WX.seq ?_
    refine WX.reg ?_
    refine WO.q (.as (v := .bool _) rfl) rfl rfl ?_
    refine WO.nil ?_
    obtain rfl := Option.some.inj h
    exact WX.ret (rs_ (rs_tmp rfl rs_nil)) fun st hp => ⟨(hp.pk [] (by decide)).le hB, rfl⟩
  · replace h := (if_neg (bnt k5)).symm.trans h
    refine WX.condF rfl k5 ?_
    refine WX.skip ?_
    refine WX.seq ?_
    refine WX.seq ?_
    refine WX.reg ?_
    refine WO.q (.fa (fa86_0 _ _)) rfl rfl ?_
    refine WO.q (.ldS (i := 0) rfl rfl rfl ti84 rfl) rfl rfl ?_
    refine WO.nil ?_
    refine WX.block ?_
    refine WX.seq ?_
    refine WX.reg ?_
    refine WO.q (.r fun _ => rfl) rfl rfl ?_
    refine WO.q (.as (v := .bool _) rfl) rfl rfl ?_
    refine WO.nil ?_
    rcases bsp (decide (zb1.1 = 1)) with k6 | k6
    · have q_k6 := of_decide_eq_true k6
      replace h := (if_pos q_k6).symm.trans h
      refine WX.condT rfl k6 ?_
      refine WX.seq ?_
      refine WX.reg ?_
      refine WO.q (.ldA (i := 0) rfl rfl rfl ti86 rfl) rfl rfl ?_
      obtain ⟨y7, hy7, h⟩ := Option.bind_eq_some_iff.1 h
      refine WO.cS rfl rfl (inode_Inode_file_ok h4 hy7) rfl rfl rfl ?_
      rintro _ rfl
      refine WO.q (.as (v := .bool _) rfl) rfl rfl ?_
      refine WO.nil ?_
      obtain rfl := Option.some.inj h
      exact WX.ret (rs_ (rs_tmp rfl rs_nil)) fun st hp => ⟨(hp.pk [] (by decide)).le hB, rfl⟩
    · have q_k6 := of_decide_eq_false k6
      replace h := (if_neg q_k6).symm.trans h
      refine WX.condF rfl k6 ?_
      refine WX.seq ?_
      refine WX.reg ?_
      refine WO.q (.r fun _ => rfl) rfl rfl ?_
      refine WO.q (.as (v := .bool _) rfl) rfl rfl ?_
      refine WO.nil ?_
      rcases bsp (decide (zb1.1 = 2)) with k8 | k8
      · have q_k8 := of_decide_eq_true k8
        replace h := (if_pos q_k8).symm.trans h
        refine WX.condT rfl k8 ?_
        refine WX.seq ?_
        refine WX.reg ?_
        refine WO.q (.fa (fa86_2 _ _)) rfl rfl ?_
        refine WO.q (.ldS (i := 0) rfl rfl rfl ti3 rfl) rfl rfl ?_
        refine WO.q (.r fun _ => rfl) rfl rfl ?_
        refine WO.q (.mv (v := .bool _) rfl) rfl rfl ?_
        rcases bsp (decide (zb1.2.2.1 = 0)) with k9 | k9
        · have q_k9 := of_decide_eq_true k9
          replace h := (if_pos q_k9).symm.trans h
          refine WO.q (.fa (fa86_3 _ _)) (wg rfl rfl (gt k9)) rfl ?_
          refine WO.q (.ldS (i := 0) rfl rfl rfl ti44 rfl) (wg rfl rfl (gt k9)) rfl ?_
          refine WO.q (.len rfl rfl rfl (sl44.len h4.isl)) (wg rfl rfl (gt k9)) rfl ?_
          refine WO.q (.r fun _ => rfl) (wg rfl rfl (gt k9)) rfl ?_
          refine WO.q (.ptv (v := .bool _) rfl k9 rfl) rfl rfl ?_
          refine WO.q (.mv (v := .bool _) rfl) rfl rfl ?_
          rcases bsp (decide ((zb1.2.2.2.1.length : Int) = 0)) with k10 | k10
          · have q_k10 := of_decide_eq_true k10
            replace h := (if_pos q_k10).symm.trans h
            refine WO.q (.fa (fa86_4 _ _)) (wg rfl rfl (gt k10)) rfl ?_
            refine WO.q (.ldS (i := 0) rfl rfl rfl ti9 rfl) (wg rfl rfl (gt k10)) rfl ?_
            refine WO.q (.r fun _ => rfl) (wg rfl rfl (gt k10)) rfl ?_
            refine WO.q (.ptv (v := .bool _) rfl k10 rfl) rfl rfl ?_
            refine WO.q (.as (v := .bool _) rfl) rfl rfl ?_
            refine WO.nil ?_
            obtain rfl := Option.some.inj h
            exact WX.ret (rs_ (rs_tmp rfl rs_nil)) fun st hp => ⟨(hp.pk [] (by decide)).le hB, rfl⟩
          · have q_k10 := of_decide_eq_false k10
            replace h := (if_neg q_k10).symm.trans h
            refine WO.sd (wg rfl rfl (gtn k10)) rfl ?_
            refine WO.sd (wg rfl rfl (gtn k10)) rfl ?_
            refine WO.sd (wg rfl rfl (gtn k10)) rfl ?_
            refine WO.q (.pfv (v := .bool _) rfl k10 rfl) rfl rfl ?_
            refine WO.q (.as (v := .bool _) rfl) rfl rfl ?_
            refine WO.nil ?_
            obtain rfl := Option.some.inj h
            exact WX.ret (rs_ (rs_tmp rfl rs_nil)) fun st hp => ⟨(hp.pk [] (by decide)).le hB, rfl⟩
        · have q_k9 := of_decide_eq_false k9
          replace h := (if_neg q_k9).symm.trans h
          refine WO.sd (wg rfl rfl (gtn k9)) rfl ?_
          refine WO.sd (wg rfl rfl (gtn k9)) rfl ?_
          refine WO.sd (wg rfl rfl (gtn k9)) rfl ?_
          refine WO.sd (wg rfl rfl (gtn k9)) rfl ?_
          refine WO.q (.pfv (v := .bool _) rfl k9 rfl) rfl rfl ?_
          refine WO.q (.mv (v := .bool _) rfl) rfl rfl ?_
          refine WO.sd (wg rfl rfl (gtn rfl)) rfl ?_
          refine WO.sd (wg rfl rfl (gtn rfl)) rfl ?_
          refine WO.sd (wg rfl rfl (gtn rfl)) rfl ?_
          refine WO.q (.pfv (v := .bool _) rfl rfl rfl) rfl rfl ?_
          refine WO.q (.as (v := .bool _) rfl) rfl rfl ?_
          refine WO.nil ?_
          obtain rfl := Option.some.inj h
          exact WX.ret (rs_ (rs_tmp rfl rs_nil)) fun st hp => ⟨(hp.pk [] (by decide)).le hB, rfl⟩
      · have q_k8 := of_decide_eq_false k8
        replace h := (if_neg q_k8).symm.trans h
        refine WX.condF rfl k8 ?_
        refine WX.seq ?_
        refine WX.reg ?_
        refine WO.q (.r fun _ => rfl) rfl rfl ?_
        refine WO.q (.as (v := .bool _) rfl) rfl rfl ?_
        refine WO.nil ?_
        rcases bsp (decide (zb1.1 = 3)) with k11 | k11
        · have q_k11 := of_decide_eq_true k11
          replace h := (if_pos q_k11).symm.trans h
          refine WX.condT rfl k11 ?_
          refine WX.seq ?_
          refine WX.reg ?_
          refine WO.q (.ldA (i := 0) rfl rfl rfl ti86 rfl) rfl rfl ?_
          obtain ⟨y12, hy12, h⟩ := Option.bind_eq_some_iff.1 h
          refine WO.cS rfl rfl (inode_Inode_link_ok h4 hy12) rfl rfl rfl ?_
          rintro _ rfl
          refine WO.q (.as (v := .bool _) rfl) rfl rfl ?_
          refine WO.nil ?_
          obtain rfl := Option.some.inj h
          exact WX.ret (rs_ (rs_tmp rfl rs_nil)) fun st hp => ⟨(hp.pk [] (by decide)).le hB, rfl⟩
        · have q_k11 := of_decide_eq_false k11
          replace h := (if_neg q_k11).symm.trans h
          refine WX.condF rfl k11 ?_
          refine WX.skip ?_
          refine WX.pop ?_
          refine WX.seq ?_
          refine WX.reg ?_
          refine WO.q (.as (v := .bool _) rfl) rfl rfl ?_
          refine WO.nil ?_
          obtain rfl := Option.some.inj h
          exact WX.ret (rs_ (rs_tmp rfl rs_nil)) fun st hp => ⟨(hp.pk [] (by decide)).le hB, rfl⟩
theorem inode_Inode_Right_ok {B0 : Kn} {L : Own} {a0 : Int × Int × Int × (List (Int × Int)) × (List UInt8)} {v0_0 : AV} {r : Bool} (g0_0 : RSl EPIi64Ii64Q B0 v0_0 a0.2.2.2.1) (h : inode_Inode_Right a0 = some r) : ∀ st, Hp B0 L st → ASpec Try.prog 49 [.agg [.int .u8 a0.1, .int .i64 a0.2.1, .int .i64 a0.2.2.1, v0_0, .str a0.2.2.2.2]] st (inode_Inode_Right_P B0 L r) := by
  unfold inode_Inode_Right at h
  refine bodyA (A := []) Try.func49 rfl (c := bodyOf Try.f49) rfl Try.ntmps49 (lb rfl) fun n0 => ?_
  have hB := KLe.refl B0
  obtain ⟨_, _, _, _, _, rfl⟩ := g0_0.isl
  refine WX.seq ?_
  refine WX.reg ?_
  refine WO.md (MOp.box (cA rfl)) rfl rfl ?_
  rintro _ _ ⟨b1, rfl, rfl⟩
  refine WO.q (.as (v := .bool _) rfl) rfl rfl ?_
  refine WO.nil ?_
  refine WX.seq ?_
  refine WX.seq ?_
  refine WX.reg ?_
  refine WO.q (.fa (fa86_1 _ _)) rfl rfl ?_
  refine WO.q (.ldS (i := 0) rfl rfl rfl ti3 rfl) rfl rfl ?_
  refine WO.q (.r fun _ => rfl) rfl rfl ?_
  refine WO.q (.mv (v := .bool _) rfl) rfl rfl ?_
  rcases bsp (decide (a0.2.1 < 0)) with k2 | k2
  · have q_k2 := of_decide_eq_true k2
    replace h := (if_pos q_k2).symm.trans h
    refine WO.sd (wg rfl rfl (gfn k2)) rfl ?_
    refine WO.sd (wg rfl rfl (gfn k2)) rfl ?_
    refine WO.sd (wg rfl rfl (gfn k2)) rfl ?_
    refine WO.q (.ptv (v := .bool _) rfl k2 rfl) rfl rfl ?_
    refine WO.nil ?_
    refine WX.keep [1, 10] (WX.pk [0] (by decide) ?_) rfl
    exact inode_Inode_Right_j1_ok h _ _ _ ⟨hB, _, _, g0_0, rfl, rfl⟩
  · have q_k2 := of_decide_eq_false k2
    replace h := (if_neg q_k2).symm.trans h
    refine WO.q (.fa (fa86_1 _ _)) (wg rfl rfl (gf k2)) rfl ?_
    refine WO.q (.ldS (i := 0) rfl rfl rfl ti3 rfl) (wg rfl rfl (gf k2)) rfl ?_
    refine WO.q (.r fun _ => rfl) (wg rfl rfl (gf k2)) rfl ?_
    refine WO.q (.pfv (v := .bool _) rfl k2 rfl) rfl rfl ?_
    refine WO.nil ?_
    refine WX.keep [1, 10] (WX.pk [0] (by decide) ?_) rfl
    exact inode_Inode_Right_j1_ok h _ _ _ ⟨hB, _, _, g0_0, rfl, rfl⟩
end Gab
