/- The Go code comes to what the Lean functions say. Written by a program (gp.py). -/
import Derived.Test.YtdkldojcpncnhaaFd
import Derived.Test.YtdkldojcpncnhaaTy
import Derived.Test.YtdkldojcpncnhaaFpExt0
import Derived.Test.YtdkldojcpncnhaaFpExt1
import Derived.Test.YtdkldojcpncnhaaFpExt2
import Derived.Test.YtdkldojcpncnhaaFpExt3
import Derived.Test.YtdkldojcpncnhaaFpExt4
set_option linter.unusedSimpArgs false
set_option linter.unusedVariables false
set_option maxHeartbeats 4000000
set_option maxRecDepth 100000
namespace Gab
open Go Go.Proofs
def gabionlaw15_wakes_P (B : Kn) (L : Own) (r : Bool) : AV → St → Prop := CS B L fun v => v = .bool r
theorem gabionlaw15_wakes_ok {B0 : Kn} {L : Own} {r : Bool} (h : gabionlaw15_wakes = some r) : ∀ st, Hp B0 L st → ASpec Try.prog 34 [] st (gabionlaw15_wakes_P B0 L r) := by
  unfold gabionlaw15_wakes at h
  refine bodyA (A := []) Try.func34 rfl (c := bodyOf Try.f34) rfl Try.ntmps34 (lb rfl) fun n0 => ?_
  have hB := KLe.refl B0
  refine WX.seq ?_
  refine WX.reg ?_
  refine WO.q (.as (v := .bool _) rfl) rfl rfl ?_
  refine WO.nil ?_
  refine WX.seq ?_
  refine WX.reg ?_
  refine WO.md (MOp.bs (l := ([] : List (Int × Int))) sl44 RL.nil (lb rfl) rfl rfl) rfl rfl ?_
  rintro v3 _ ⟨b1, o2, rfl⟩
  obtain ⟨_, _, _, _, _, rfl⟩ := o2.isl
  refine WO.q (.bd (bd35_0_1 (cI rfl) (cI rfl))) rfl rfl ?_
  refine WO.fz (j := 0) o2 rfl ?_
  intro B hK g5
  replace hB := hB.trans hK
  obtain ⟨y6, hy6, h⟩ := Option.bind_eq_some_iff.1 h
  refine WO.c0 rfl rfl (ext_List_Append_ok g5 hy6) rfl rfl rfl ?_
  rintro _ B hK ⟨v7, rfl, h8⟩
  obtain ⟨_, _, _, _, _, rfl⟩ := h8.isl
  replace g5 := g5.up hK
  replace hB := hB.trans hK
  refine WO.q (.mv (v := .tup _) rfl) rfl rfl ?_
  refine WO.q (.r fun _ => rfl) rfl rfl ?_
  refine WO.q (.r fun _ => rfl) rfl rfl ?_
  refine WO.q (.as (v := .sl _ _ _ _ _ _) rfl) rfl rfl ?_
  refine WO.q (.as (v := .int _ _) rfl) rfl rfl ?_
  refine WO.nil ?_
  refine WX.seq ?_
  refine WX.reg ?_
  refine WO.q (.mv (v := .sl _ _ _ _ _ _) rfl) rfl rfl ?_
  refine WO.q (.bd (bd35_0_1 (cI rfl) (cI rfl))) rfl rfl ?_
  obtain ⟨y9, hy9, h⟩ := Option.bind_eq_some_iff.1 h
  refine WO.c0 rfl rfl (ext_List_Fill_ok h8 hy9) rfl rfl rfl ?_
  rintro _ B hK ⟨v10, rfl, h11⟩
  obtain ⟨_, _, _, _, _, rfl⟩ := h11.isl
  replace h8 := h8.up hK
  replace hB := hB.trans hK
  refine WO.q (.mv (v := .tup _) rfl) rfl rfl ?_
  refine WO.q (.r fun _ => rfl) rfl rfl ?_
  refine WO.q (.r fun _ => rfl) rfl rfl ?_
  refine WO.q (.as (v := .sl _ _ _ _ _ _) rfl) rfl rfl ?_
  refine WO.q (.as (v := .int _ _) rfl) rfl rfl ?_
  refine WO.nil ?_
  refine WX.seq ?_
  refine WX.reg ?_
  refine WO.q (.mv (v := .sl _ _ _ _ _ _) rfl) rfl rfl ?_
  obtain ⟨y12, hy12, h⟩ := Option.bind_eq_some_iff.1 h
  refine WO.cS rfl rfl (ext_List_Map_ok h11 hy12) rfl rfl rfl ?_
  rintro _ rfl
  refine WO.q (.mv (v := .tup _) rfl) rfl rfl ?_
  refine WO.q (.r fun _ => rfl) rfl rfl ?_
  refine WO.q (.r fun _ => rfl) rfl rfl ?_
  refine WO.q (.as (v := .int _ _) rfl) rfl rfl ?_
  refine WO.q (.as (v := .bool _) rfl) rfl rfl ?_
  refine WO.nil ?_
  refine WX.seq ?_
  refine WX.reg ?_
  refine WO.q (.mv (v := .int _ _) rfl) rfl rfl ?_
  refine WO.q (.r fun _ => rfl) rfl rfl ?_
  refine WO.q (.mv (v := .bool _) rfl) rfl rfl ?_
  rcases bsp (decide (y6.2 = 0)) with k13 | k13
  · have q_k13 := of_decide_eq_true k13
    replace h := (if_pos q_k13).symm.trans h
    refine WO.q (.mv (v := .int _ _) rfl) (wg rfl rfl (gt k13)) rfl ?_
    refine WO.q (.r fun _ => rfl) (wg rfl rfl (gt k13)) rfl ?_
    refine WO.q (.ptv (v := .bool _) rfl k13 rfl) rfl rfl ?_
    refine WO.q (.mv (v := .bool _) rfl) rfl rfl ?_
    rcases bsp (decide (y9.2 = 0)) with k14 | k14
    · have q_k14 := of_decide_eq_true k14
      replace h := (if_pos q_k14).symm.trans h
      refine WO.q (.mv (v := .bool _) rfl) (wg rfl rfl (gt k14)) rfl ?_
      refine WO.q (.ptv (v := .bool _) rfl k14 rfl) rfl rfl ?_
      refine WO.q (.mv (v := .bool _) rfl) rfl rfl ?_
      rcases bsp y12.2 with k15 | k15
      · replace h := (if_pos k15).symm.trans h
        refine WO.q (.mv (v := .int _ _) rfl) (wg rfl rfl (gt k15)) rfl ?_
        refine WO.q (.r fun _ => rfl) (wg rfl rfl (gt k15)) rfl ?_
        refine WO.q (.ptv (v := .bool _) rfl k15 rfl) rfl rfl ?_
        refine WO.q (.mv (v := .bool _) rfl) rfl rfl ?_
        rcases bsp (decide (y12.1 = 7)) with k16 | k16
        · have q_k16 := of_decide_eq_true k16
          replace h := (if_pos q_k16).symm.trans h
          refine WO.q (.mv (v := .sl _ _ _ _ _ _) rfl) (wg rfl rfl (gt k16)) rfl ?_
          refine WO.q (.len rfl rfl rfl (sl44.len h11.isl)) (wg rfl rfl (gt k16)) rfl ?_
          refine WO.q (.r fun _ => rfl) (wg rfl rfl (gt k16)) rfl ?_
          refine WO.q (.ptv (v := .bool _) rfl k16 rfl) rfl rfl ?_
          refine WO.q (.mv (v := .bool _) rfl) rfl rfl ?_
          rcases bsp (decide ((y9.1.length : Int) = 3)) with k17 | k17
          · have q_k17 := of_decide_eq_true k17
            replace h := (if_pos q_k17).symm.trans h
            refine WO.q (.mv (v := .sl _ _ _ _ _ _) rfl) (wg rfl rfl (gt k17)) rfl ?_
            obtain ⟨y18, hy18, h⟩ := Option.bind_eq_some_iff.1 h
            refine WO.cS rfl rfl (ext_List_Blocks_ok h11 hy18) rfl (wg rfl rfl (gt k17)) rfl ?_
            rintro _ rfl
            refine WO.q (.r fun _ => rfl) (wg rfl rfl (gt k17)) rfl ?_
            refine WO.q (.ptv (v := .bool _) rfl k17 rfl) rfl rfl ?_
            refine WO.q (.mv (v := .bool _) rfl) rfl rfl ?_
            rcases bsp (decide (y18 = 3)) with k19 | k19
            · have q_k19 := of_decide_eq_true k19
              replace h := (if_pos q_k19).symm.trans h
              refine WO.q (.mv (v := .sl _ _ _ _ _ _) rfl) (wg rfl rfl (gt k19)) rfl ?_
              obtain ⟨y20, hy20, h⟩ := Option.bind_eq_some_iff.1 h
              refine WO.cS rfl rfl (ext_List_Held_ok h11 hy20) rfl (wg rfl rfl (gt k19)) rfl ?_
              rintro _ rfl
              refine WO.q (.r fun _ => rfl) (wg rfl rfl (gt k19)) rfl ?_
              refine WO.q (.ptv (v := .bool _) rfl k19 rfl) rfl rfl ?_
              refine WO.q (.mv (v := .bool _) rfl) rfl rfl ?_
              rcases bsp (decide (y20 = 1)) with k21 | k21
              · have q_k21 := of_decide_eq_true k21
                replace h := (if_pos q_k21).symm.trans h
                refine WO.q (.mv (v := .sl _ _ _ _ _ _) rfl) (wg rfl rfl (gt k21)) rfl ?_
                obtain ⟨y22, hy22, h⟩ := Option.bind_eq_some_iff.1 h
                refine WO.cS rfl rfl (ext_List_Held_ok h8 hy22) rfl (wg rfl rfl (gt k21)) rfl ?_
                rintro _ rfl
                refine WO.q (.r fun _ => rfl) (wg rfl rfl (gt k21)) rfl ?_
                refine WO.q (.ptv (v := .bool _) rfl k21 rfl) rfl rfl ?_
                refine WO.q (.as (v := .bool _) rfl) rfl rfl ?_
                refine WO.nil ?_
                obtain rfl := Option.some.inj h
                exact WX.ret (rs_ (rs_tmp rfl rs_nil)) fun st hp => ⟨(hp.pk [] (by decide)).le hB, rfl⟩
              · have q_k21 := of_decide_eq_false k21
                replace h := (if_neg q_k21).symm.trans h
                refine WO.sd (wg rfl rfl (gtn k21)) rfl ?_
                refine WO.sd (wg rfl rfl (gtn k21)) rfl ?_
                refine WO.sd (wg rfl rfl (gtn k21)) rfl ?_
                refine WO.q (.pfv (v := .bool _) rfl k21 rfl) rfl rfl ?_
                refine WO.q (.as (v := .bool _) rfl) rfl rfl ?_
                refine WO.nil ?_
                obtain rfl := Option.some.inj h
                exact WX.ret (rs_ (rs_tmp rfl rs_nil)) fun st hp => ⟨(hp.pk [] (by decide)).le hB, rfl⟩
            · have q_k19 := of_decide_eq_false k19
              replace h := (if_neg q_k19).symm.trans h
              refine WO.sd (wg rfl rfl (gtn k19)) rfl ?_
              refine WO.sd (wg rfl rfl (gtn k19)) rfl ?_
              refine WO.sd (wg rfl rfl (gtn k19)) rfl ?_
              refine WO.q (.pfv (v := .bool _) rfl k19 rfl) rfl rfl ?_
              refine WO.q (.mv (v := .bool _) rfl) rfl rfl ?_
              refine WO.sd (wg rfl rfl (gtn rfl)) rfl ?_
              refine WO.sd (wg rfl rfl (gtn rfl)) rfl ?_
              refine WO.sd (wg rfl rfl (gtn rfl)) rfl ?_
              refine WO.q (.pfv (v := .bool _) rfl rfl rfl) rfl rfl ?_
              refine WO.q (.as (v := .bool _) rfl) rfl rfl ?_
              refine WO.nil ?_
              obtain rfl := Option.some.inj h
              exact WX.ret (rs_ (rs_tmp rfl rs_nil)) fun st hp => ⟨(hp.pk [] (by decide)).le hB, rfl⟩
          · have q_k17 := of_decide_eq_false k17
            replace h := (if_neg q_k17).symm.trans h
            refine WO.sd (wg rfl rfl (gtn k17)) rfl ?_
            refine WO.sd (wg rfl rfl (gtn k17)) rfl ?_
            refine WO.sd (wg rfl rfl (gtn k17)) rfl ?_
            refine WO.q (.pfv (v := .bool _) rfl k17 rfl) rfl rfl ?_
            refine WO.q (.mv (v := .bool _) rfl) rfl rfl ?_
            refine WO.sd (wg rfl rfl (gtn rfl)) rfl ?_
            refine WO.sd (wg rfl rfl (gtn rfl)) rfl ?_
            refine WO.sd (wg rfl rfl (gtn rfl)) rfl ?_
            refine WO.q (.pfv (v := .bool _) rfl rfl rfl) rfl rfl ?_
            refine WO.q (.mv (v := .bool _) rfl) rfl rfl ?_
            refine WO.sd (wg rfl rfl (gtn rfl)) rfl ?_
            refine WO.sd (wg rfl rfl (gtn rfl)) rfl ?_
            refine WO.sd (wg rfl rfl (gtn rfl)) rfl ?_
            refine WO.q (.pfv (v := .bool _) rfl rfl rfl) rfl rfl ?_
            refine WO.q (.as (v := .bool _) rfl) rfl rfl ?_
            refine WO.nil ?_
            obtain rfl := Option.some.inj h
            exact WX.ret (rs_ (rs_tmp rfl rs_nil)) fun st hp => ⟨(hp.pk [] (by decide)).le hB, rfl⟩
        · have q_k16 := of_decide_eq_false k16
          replace h := (if_neg q_k16).symm.trans h
          refine WO.sd (wg rfl rfl (gtn k16)) rfl ?_
          refine WO.sd (wg rfl rfl (gtn k16)) rfl ?_
          refine WO.sd (wg rfl rfl (gtn k16)) rfl ?_
          refine WO.q (.pfv (v := .bool _) rfl k16 rfl) rfl rfl ?_
          refine WO.q (.mv (v := .bool _) rfl) rfl rfl ?_
          refine WO.sd (wg rfl rfl (gtn rfl)) rfl ?_
          refine WO.sd (wg rfl rfl (gtn rfl)) rfl ?_
          refine WO.sd (wg rfl rfl (gtn rfl)) rfl ?_
          refine WO.q (.pfv (v := .bool _) rfl rfl rfl) rfl rfl ?_
          refine WO.q (.mv (v := .bool _) rfl) rfl rfl ?_
          refine WO.sd (wg rfl rfl (gtn rfl)) rfl ?_
          refine WO.sd (wg rfl rfl (gtn rfl)) rfl ?_
          refine WO.sd (wg rfl rfl (gtn rfl)) rfl ?_
          refine WO.q (.pfv (v := .bool _) rfl rfl rfl) rfl rfl ?_
          refine WO.q (.mv (v := .bool _) rfl) rfl rfl ?_
          refine WO.sd (wg rfl rfl (gtn rfl)) rfl ?_
          refine WO.sd (wg rfl rfl (gtn rfl)) rfl ?_
          refine WO.sd (wg rfl rfl (gtn rfl)) rfl ?_
          refine WO.q (.pfv (v := .bool _) rfl rfl rfl) rfl rfl ?_
          refine WO.q (.as (v := .bool _) rfl) rfl rfl ?_
          refine WO.nil ?_
          obtain rfl := Option.some.inj h
          exact WX.ret (rs_ (rs_tmp rfl rs_nil)) fun st hp => ⟨(hp.pk [] (by decide)).le hB, rfl⟩
      · replace h := (if_neg (bnt k15)).symm.trans h
        refine WO.sd (wg rfl rfl (gtn k15)) rfl ?_
        refine WO.sd (wg rfl rfl (gtn k15)) rfl ?_
        refine WO.q (.pfv (v := .bool _) rfl k15 rfl) rfl rfl ?_
        refine WO.q (.mv (v := .bool _) rfl) rfl rfl ?_
        refine WO.sd (wg rfl rfl (gtn rfl)) rfl ?_
        refine WO.sd (wg rfl rfl (gtn rfl)) rfl ?_
        refine WO.sd (wg rfl rfl (gtn rfl)) rfl ?_
        refine WO.q (.pfv (v := .bool _) rfl rfl rfl) rfl rfl ?_
        refine WO.q (.mv (v := .bool _) rfl) rfl rfl ?_
        refine WO.sd (wg rfl rfl (gtn rfl)) rfl ?_
        refine WO.sd (wg rfl rfl (gtn rfl)) rfl ?_
        refine WO.sd (wg rfl rfl (gtn rfl)) rfl ?_
        refine WO.q (.pfv (v := .bool _) rfl rfl rfl) rfl rfl ?_
        refine WO.q (.mv (v := .bool _) rfl) rfl rfl ?_
        refine WO.sd (wg rfl rfl (gtn rfl)) rfl ?_
        refine WO.sd (wg rfl rfl (gtn rfl)) rfl ?_
        refine WO.sd (wg rfl rfl (gtn rfl)) rfl ?_
        refine WO.q (.pfv (v := .bool _) rfl rfl rfl) rfl rfl ?_
        refine WO.q (.mv (v := .bool _) rfl) rfl rfl ?_
        refine WO.sd (wg rfl rfl (gtn rfl)) rfl ?_
        refine WO.sd (wg rfl rfl (gtn rfl)) rfl ?_
        refine WO.sd (wg rfl rfl (gtn rfl)) rfl ?_
        refine WO.q (.pfv (v := .bool _) rfl rfl rfl) rfl rfl ?_
        refine WO.q (.as (v := .bool _) rfl) rfl rfl ?_
        refine WO.nil ?_
        obtain rfl := Option.some.inj h
        exact WX.ret (rs_ (rs_tmp rfl rs_nil)) fun st hp => ⟨(hp.pk [] (by decide)).le hB, rfl⟩
    · have q_k14 := of_decide_eq_false k14
      replace h := (if_neg q_k14).symm.trans h
      refine WO.sd (wg rfl rfl (gtn k14)) rfl ?_
      refine WO.q (.pfv (v := .bool _) rfl k14 rfl) rfl rfl ?_
      refine WO.q (.mv (v := .bool _) rfl) rfl rfl ?_
      refine WO.sd (wg rfl rfl (gtn rfl)) rfl ?_
      refine WO.sd (wg rfl rfl (gtn rfl)) rfl ?_
      refine WO.q (.pfv (v := .bool _) rfl rfl rfl) rfl rfl ?_
      refine WO.q (.mv (v := .bool _) rfl) rfl rfl ?_
      refine WO.sd (wg rfl rfl (gtn rfl)) rfl ?_
      refine WO.sd (wg rfl rfl (gtn rfl)) rfl ?_
      refine WO.sd (wg rfl rfl (gtn rfl)) rfl ?_
      refine WO.q (.pfv (v := .bool _) rfl rfl rfl) rfl rfl ?_
      refine WO.q (.mv (v := .bool _) rfl) rfl rfl ?_
      refine WO.sd (wg rfl rfl (gtn rfl)) rfl ?_
      refine WO.sd (wg rfl rfl (gtn rfl)) rfl ?_
      refine WO.sd (wg rfl rfl (gtn rfl)) rfl ?_
      refine WO.q (.pfv (v := .bool _) rfl rfl rfl) rfl rfl ?_
      refine WO.q (.mv (v := .bool _) rfl) rfl rfl ?_
      refine WO.sd (wg rfl rfl (gtn rfl)) rfl ?_
      refine WO.sd (wg rfl rfl (gtn rfl)) rfl ?_
      refine WO.sd (wg rfl rfl (gtn rfl)) rfl ?_
      refine WO.q (.pfv (v := .bool _) rfl rfl rfl) rfl rfl ?_
      refine WO.q (.mv (v := .bool _) rfl) rfl rfl ?_
      refine WO.sd (wg rfl rfl (gtn rfl)) rfl ?_
      refine WO.sd (wg rfl rfl (gtn rfl)) rfl ?_
      refine WO.sd (wg rfl rfl (gtn rfl)) rfl ?_
      refine WO.q (.pfv (v := .bool _) rfl rfl rfl) rfl rfl ?_
      refine WO.q (.as (v := .bool _) rfl) rfl rfl ?_
      refine WO.nil ?_
      obtain rfl := Option.some.inj h
      exact WX.ret (rs_ (rs_tmp rfl rs_nil)) fun st hp => ⟨(hp.pk [] (by decide)).le hB, rfl⟩
  · have q_k13 := of_decide_eq_false k13
    replace h := (if_neg q_k13).symm.trans h
    refine WO.sd (wg rfl rfl (gtn k13)) rfl ?_
    refine WO.sd (wg rfl rfl (gtn k13)) rfl ?_
    refine WO.q (.pfv (v := .bool _) rfl k13 rfl) rfl rfl ?_
    refine WO.q (.mv (v := .bool _) rfl) rfl rfl ?_
    refine WO.sd (wg rfl rfl (gtn rfl)) rfl ?_
    refine WO.q (.pfv (v := .bool _) rfl rfl rfl) rfl rfl ?_
    refine WO.q (.mv (v := .bool _) rfl) rfl rfl ?_
    refine WO.sd (wg rfl rfl (gtn rfl)) rfl ?_
    refine WO.sd (wg rfl rfl (gtn rfl)) rfl ?_
    refine WO.q (.pfv (v := .bool _) rfl rfl rfl) rfl rfl ?_
    refine WO.q (.mv (v := .bool _) rfl) rfl rfl ?_
    refine WO.sd (wg rfl rfl (gtn rfl)) rfl ?_
    refine WO.sd (wg rfl rfl (gtn rfl)) rfl ?_
    refine WO.sd (wg rfl rfl (gtn rfl)) rfl ?_
    refine WO.q (.pfv (v := .bool _) rfl rfl rfl) rfl rfl ?_
    refine WO.q (.mv (v := .bool _) rfl) rfl rfl ?_
    refine WO.sd (wg rfl rfl (gtn rfl)) rfl ?_
    refine WO.sd (wg rfl rfl (gtn rfl)) rfl ?_
    refine WO.sd (wg rfl rfl (gtn rfl)) rfl ?_
    refine WO.q (.pfv (v := .bool _) rfl rfl rfl) rfl rfl ?_
    refine WO.q (.mv (v := .bool _) rfl) rfl rfl ?_
    refine WO.sd (wg rfl rfl (gtn rfl)) rfl ?_
    refine WO.sd (wg rfl rfl (gtn rfl)) rfl ?_
    refine WO.sd (wg rfl rfl (gtn rfl)) rfl ?_
    refine WO.q (.pfv (v := .bool _) rfl rfl rfl) rfl rfl ?_
    refine WO.q (.mv (v := .bool _) rfl) rfl rfl ?_
    refine WO.sd (wg rfl rfl (gtn rfl)) rfl ?_
    refine WO.sd (wg rfl rfl (gtn rfl)) rfl ?_
    refine WO.sd (wg rfl rfl (gtn rfl)) rfl ?_
    refine WO.q (.pfv (v := .bool _) rfl rfl rfl) rfl rfl ?_
    refine WO.q (.as (v := .bool _) rfl) rfl rfl ?_
    refine WO.nil ?_
    obtain rfl := Option.some.inj h
    exact WX.ret (rs_ (rs_tmp rfl rs_nil)) fun st hp => ⟨(hp.pk [] (by decide)).le hB, rfl⟩
end Gab
