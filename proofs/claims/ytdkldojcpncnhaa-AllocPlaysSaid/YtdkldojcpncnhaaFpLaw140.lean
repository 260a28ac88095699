/- The Go code comes to what the Lean functions say. Written by a program (gp.py). -/
import Derived.Test.YtdkldojcpncnhaaFd
import Derived.Test.YtdkldojcpncnhaaTy
import Derived.Test.YtdkldojcpncnhaaFpAlloc0
import Derived.Test.YtdkldojcpncnhaaFpAlloc1
import Derived.Test.YtdkldojcpncnhaaFpAlloc2
set_option linter.unusedSimpArgs false
set_option linter.unusedVariables false
set_option maxHeartbeats 4000000
set_option maxRecDepth 100000
namespace Gab
open Go Go.Proofs
def gabionlaw14_wakes_P (B : Kn) (L : Own) (r : Bool) : AV → St → Prop := CS B L fun v => v = .bool r
theorem gabionlaw14_wakes_ok {B0 : Kn} {L : Own} {r : Bool} (h : gabionlaw14_wakes = some r) : ∀ st, Hp B0 L st → ASpec Try.prog 19 [] st (gabionlaw14_wakes_P B0 L r) := by
  unfold gabionlaw14_wakes at h
  refine bodyA (A := []) Try.func19 rfl (c := bodyOf Try.f19) rfl Try.ntmps19 (lb rfl) fun n0 => ?_
  have hB := KLe.refl B0
  refine WX.seq ?_
  refine WX.reg ?_
  refine WO.q (.as (v := .bool _) rfl) rfl rfl ?_
  refine WO.nil ?_
  refine WX.seq ?_
  refine WX.reg ?_
  obtain ⟨y1, hy1, h⟩ := Option.bind_eq_some_iff.1 h
  refine WO.c1 rfl rfl (alloc_New_ok hy1) rfl rfl rfl ?_
  rintro _ B _ hK ⟨v2, b3, n4, c5, rfl, rfl, h6⟩
  obtain ⟨_, _, _, _, _, rfl⟩ := h6.isl
  replace hB := hB.trans hK
  refine WO.q (.mv (v := .tup _) rfl) rfl rfl ?_
  refine WO.q (.r fun _ => rfl) rfl rfl ?_
  refine WO.q (.r fun _ => rfl) rfl rfl ?_
  refine WO.md (MOp.alloc ti25 rfl) rfl rfl ?_
  rintro _ _ ⟨b7, rfl, rfl⟩
  refine WO.mn (MOp.storeW rfl (cA rfl) .h ti25 rfl rfl rfl) rfl ?_
  rintro _ _ rfl
  refine WO.q (.as (v := .int _ _) rfl) rfl rfl ?_
  refine WO.nil ?_
  refine WX.seq ?_
  refine WX.reg ?_
  refine WO.q (.ldA (i := 0) rfl rfl rfl ti25 rfl) rfl rfl ?_
  refine WO.q (.bd (bd35_0_1 (cI rfl) (cI rfl))) rfl rfl ?_
  refine WO.fz (j := 1) h6 rfl ?_
  intro B hK g8
  replace hB := hB.trans hK
  obtain ⟨y9, hy9, h⟩ := Option.bind_eq_some_iff.1 h
  refine WO.c1 rfl rfl (alloc_Set_Use_ok g8 hy9) rfl rfl rfl ?_
  rintro _ B _ hK ⟨v10, b11, n12, c13, rfl, rfl, h14⟩
  obtain ⟨_, _, _, _, _, rfl⟩ := h14.isl
  replace g8 := g8.up hK
  replace hB := hB.trans hK
  refine WO.q (.mv (v := .tup _) rfl) rfl rfl ?_
  refine WO.q (.r fun _ => rfl) rfl rfl ?_
  refine WO.q (.r fun _ => rfl) rfl rfl ?_
  refine WO.md (MOp.alloc ti25 rfl) rfl rfl ?_
  rintro _ _ ⟨b15, rfl, rfl⟩
  refine WO.mn (MOp.storeW rfl (cA rfl) .h ti25 rfl rfl rfl) rfl ?_
  rintro _ _ rfl
  refine WO.q (.as (v := .int _ _) rfl) rfl rfl ?_
  refine WO.nil ?_
  refine WX.seq ?_
  refine WX.reg ?_
  refine WO.q (.ldA (i := 0) rfl rfl rfl ti25 rfl) rfl rfl ?_
  refine WO.fz (j := 1) h14 rfl ?_
  intro B hK g16
  replace g8 := g8.up hK
  replace hB := hB.trans hK
  obtain ⟨y17, hy17, h⟩ := Option.bind_eq_some_iff.1 h
  refine WO.c0 rfl rfl (alloc_Set_Take_ok g16 hy17) rfl rfl rfl ?_
  rintro _ B hK ⟨v18, v20, rfl, h19, h21⟩
  obtain ⟨_, _, _, _, _, rfl⟩ := h19.isl
  obtain ⟨_, _, _, _, _, rfl⟩ := h21.isl
  replace g16 := g16.up hK
  replace g8 := g8.up hK
  replace hB := hB.trans hK
  refine WO.q (.mv (v := .tup _) rfl) rfl rfl ?_
  refine WO.q (.r fun _ => rfl) rfl rfl ?_
  refine WO.q (.r fun _ => rfl) rfl rfl ?_
  refine WO.q (.r fun _ => rfl) rfl rfl ?_
  refine WO.md (MOp.alloc ti25 rfl) rfl rfl ?_
  rintro _ _ ⟨b22, rfl, rfl⟩
  refine WO.mn (MOp.storeW rfl (cA rfl) .h ti25 rfl rfl rfl) rfl ?_
  rintro _ _ rfl
  refine WO.q (.as (v := .sl _ _ _ _ _ _) rfl) rfl rfl ?_
  refine WO.q (.as (v := .int _ _) rfl) rfl rfl ?_
  refine WO.nil ?_
  refine WX.seq ?_
  refine WX.reg ?_
  refine WO.q (.ldA (i := 1) rfl rfl rfl ti25 rfl) rfl rfl ?_
  obtain ⟨y23, hy23, h⟩ := Option.bind_eq_some_iff.1 h
  refine WO.c0 rfl rfl (alloc_Set_Take_ok g16 hy23) rfl rfl rfl ?_
  rintro _ B hK ⟨v24, v26, rfl, h25, h27⟩
  obtain ⟨_, _, _, _, _, rfl⟩ := h25.isl
  obtain ⟨_, _, _, _, _, rfl⟩ := h27.isl
  replace h21 := h21.up hK
  replace g16 := g16.up hK
  replace g8 := g8.up hK
  replace h19 := h19.up hK
  replace hB := hB.trans hK
  refine WO.q (.mv (v := .tup _) rfl) rfl rfl ?_
  refine WO.q (.r fun _ => rfl) rfl rfl ?_
  refine WO.q (.r fun _ => rfl) rfl rfl ?_
  refine WO.q (.r fun _ => rfl) rfl rfl ?_
  refine WO.md (MOp.alloc ti25 rfl) rfl rfl ?_
  rintro _ _ ⟨b28, rfl, rfl⟩
  refine WO.mn (MOp.storeW rfl (cA rfl) .h ti25 rfl rfl rfl) rfl ?_
  rintro _ _ rfl
  refine WO.q (.as (v := .sl _ _ _ _ _ _) rfl) rfl rfl ?_
  refine WO.q (.as (v := .int _ _) rfl) rfl rfl ?_
  refine WO.nil ?_
  refine WX.seq ?_
  refine WX.reg ?_
  refine WO.q (.mv (v := .int _ _) rfl) rfl rfl ?_
  refine WO.q (.r fun _ => rfl) rfl rfl ?_
  refine WO.q (.mv (v := .bool _) rfl) rfl rfl ?_
  rcases bsp (decide (y1.2 = 0)) with k29 | k29
  · have q_k29 := of_decide_eq_true k29
    replace h := (if_pos q_k29).symm.trans h
    refine WO.q (.mv (v := .int _ _) rfl) (wg rfl rfl (gt k29)) rfl ?_
    refine WO.q (.r fun _ => rfl) (wg rfl rfl (gt k29)) rfl ?_
    refine WO.q (.ptv (v := .bool _) rfl k29 rfl) rfl rfl ?_
    refine WO.q (.mv (v := .bool _) rfl) rfl rfl ?_
    rcases bsp (decide (y9.2 = 0)) with k30 | k30
    · have q_k30 := of_decide_eq_true k30
      replace h := (if_pos q_k30).symm.trans h
      refine WO.q (.mv (v := .int _ _) rfl) (wg rfl rfl (gt k30)) rfl ?_
      refine WO.q (.r fun _ => rfl) (wg rfl rfl (gt k30)) rfl ?_
      refine WO.q (.ptv (v := .bool _) rfl k30 rfl) rfl rfl ?_
      refine WO.q (.mv (v := .bool _) rfl) rfl rfl ?_
      rcases bsp (decide (y17.2.2 = 0)) with k31 | k31
      · have q_k31 := of_decide_eq_true k31
        replace h := (if_pos q_k31).symm.trans h
        refine WO.q (.mv (v := .int _ _) rfl) (wg rfl rfl (gt k31)) rfl ?_
        refine WO.q (.r fun _ => rfl) (wg rfl rfl (gt k31)) rfl ?_
        refine WO.q (.ptv (v := .bool _) rfl k31 rfl) rfl rfl ?_
        refine WO.q (.mv (v := .bool _) rfl) rfl rfl ?_
        rcases bsp (decide (y23.2.2 = 0)) with k32 | k32
        · have q_k32 := of_decide_eq_true k32
          replace h := (if_pos q_k32).symm.trans h
          refine WO.q (.mv (v := .sl _ _ _ _ _ _) rfl) (wg rfl rfl (gt k32)) rfl ?_
          refine WO.q (.len rfl rfl rfl (sl23.len h21.isl)) (wg rfl rfl (gt k32)) rfl ?_
          refine WO.q (.r fun _ => rfl) (wg rfl rfl (gt k32)) rfl ?_
          refine WO.q (.ptv (v := .bool _) rfl k32 rfl) rfl rfl ?_
          refine WO.q (.mv (v := .bool _) rfl) rfl rfl ?_
          rcases bsp (decide ((y17.2.1.length : Int) = 1)) with k33 | k33
          · have q_k33 := of_decide_eq_true k33
            replace h := (if_pos q_k33).symm.trans h
            refine WO.q (.mv (v := .sl _ _ _ _ _ _) rfl) (wg rfl rfl (gt k33)) rfl ?_
            obtain ⟨y34, hy34, h⟩ := Option.bind_eq_some_iff.1 h
            obtain ⟨b_y34, o_y34, _, i_y34, p_y34, r_y34⟩ := h21.at sl23 hy34 .i64
            obtain ⟨_, _, rfl, rfl, rfl⟩ := r_y34
            refine WO.q (.ia i_y34) (wg rfl rfl (gt k33)) rfl ?_
            refine WO.q (.lpA rfl p_y34 ti35 rfl rfl) (wg rfl rfl (gt k33)) rfl ?_
            refine WO.q (.bd (bd35_0_1 (cI rfl) (cI rfl))) (wg rfl rfl (gt k33)) rfl ?_
            refine WO.q (.bin (eql35 _ _ _ _)) (wg rfl rfl (gt k33)) rfl ?_
            refine WO.q (.ptv (v := .bool _) rfl k33 rfl) rfl rfl ?_
            refine WO.q (.mv (v := .bool _) rfl) rfl rfl ?_
            rcases bsp (decide (y34.1 = 5) && (decide (y34.2 = 4) && true)) with k35 | k35
            · replace h := (if_pos k35).symm.trans h
              refine WO.q (.mv (v := .sl _ _ _ _ _ _) rfl) (wg rfl rfl (gt k35)) rfl ?_
              refine WO.q (.len rfl rfl rfl (sl23.len h27.isl)) (wg rfl rfl (gt k35)) rfl ?_
              refine WO.q (.r fun _ => rfl) (wg rfl rfl (gt k35)) rfl ?_
              refine WO.q (.ptv (v := .bool _) rfl k35 rfl) rfl rfl ?_
              refine WO.q (.mv (v := .bool _) rfl) rfl rfl ?_
              rcases bsp (decide ((y23.2.1.length : Int) = 2)) with k36 | k36
              · have q_k36 := of_decide_eq_true k36
                replace h := (if_pos q_k36).symm.trans h
                refine WO.q (.mv (v := .sl _ _ _ _ _ _) rfl) (wg rfl rfl (gt k36)) rfl ?_
                obtain ⟨y37, hy37, h⟩ := Option.bind_eq_some_iff.1 h
                obtain ⟨b_y37, o_y37, _, i_y37, p_y37, r_y37⟩ := h27.at sl23 hy37 .i64
                obtain ⟨_, _, rfl, rfl, rfl⟩ := r_y37
                refine WO.q (.ia i_y37) (wg rfl rfl (gt k36)) rfl ?_
                refine WO.q (.lpA rfl p_y37 ti35 rfl rfl) (wg rfl rfl (gt k36)) rfl ?_
                refine WO.q (.bd (bd35_0_1 (cI rfl) (cI rfl))) (wg rfl rfl (gt k36)) rfl ?_
                refine WO.q (.bin (eql35 _ _ _ _)) (wg rfl rfl (gt k36)) rfl ?_
                refine WO.q (.ptv (v := .bool _) rfl k36 rfl) rfl rfl ?_
                refine WO.q (.mv (v := .bool _) rfl) rfl rfl ?_
                rcases bsp (decide (y37.1 = 5) && (decide (y37.2 = 3) && true)) with k38 | k38
                · replace h := (if_pos k38).symm.trans h
                  refine WO.q (.ldA (i := 3) rfl rfl rfl ti25 rfl) (wg rfl rfl (gt k38)) rfl ?_
                  obtain ⟨y39, hy39, h⟩ := Option.bind_eq_some_iff.1 h
                  refine WO.cS rfl rfl (alloc_Set_Free_ok g8 hy39) rfl (wg rfl rfl (gt k38)) rfl ?_
                  rintro _ rfl
                  refine WO.q (.r fun _ => rfl) (wg rfl rfl (gt k38)) rfl ?_
                  refine WO.q (.ptv (v := .bool _) rfl k38 rfl) rfl rfl ?_
                  refine WO.q (.as (v := .bool _) rfl) rfl rfl ?_
                  refine WO.nil ?_
                  obtain rfl := Option.some.inj h
                  exact WX.ret (rs_ (rs_tmp rfl rs_nil)) fun st hp => ⟨(hp.pk [] (by decide)).le hB, rfl⟩
                · replace h := (if_neg (bnt k38)).symm.trans h
                  refine WO.sd (wg rfl rfl (gtn k38)) rfl ?_
                  refine WO.sd (wg rfl rfl (gtn k38)) rfl ?_
                  refine WO.sd (wg rfl rfl (gtn k38)) rfl ?_
                  refine WO.q (.pfv (v := .bool _) rfl k38 rfl) rfl rfl ?_
                  refine WO.q (.as (v := .bool _) rfl) rfl rfl ?_
                  refine WO.nil ?_
                  obtain rfl := Option.some.inj h
                  exact WX.ret (rs_ (rs_tmp rfl rs_nil)) fun st hp => ⟨(hp.pk [] (by decide)).le hB, rfl⟩
              · have q_k36 := of_decide_eq_false k36
                replace h := (if_neg q_k36).symm.trans h
                refine WO.sd (wg rfl rfl (gtn k36)) rfl ?_
                refine WO.sd (wg rfl rfl (gtn k36)) rfl ?_
                refine WO.sd (wg rfl rfl (gtn k36)) rfl ?_
                refine WO.sd (wg rfl rfl (gtn k36)) rfl ?_
                refine WO.sd (wg rfl rfl (gtn k36)) rfl ?_
                refine WO.q (.pfv (v := .bool _) rfl k36 rfl) rfl rfl ?_
                refine WO.q (.mv (v := .bool _) rfl) rfl rfl ?_
                refine WO.sd (wg rfl rfl (gtn rfl)) rfl ?_
                refine WO.sd (wg rfl rfl (gtn rfl)) rfl ?_
                refine WO.sd (wg rfl rfl (gtn rfl)) rfl ?_
                refine WO.q (.pfv (v := .bool _) rfl rfl rfl) rfl rfl ?_
                refine WO.q (.as (v := .bool _) rfl) rfl rfl ?_
                refine WO.nil ?_
                obtain rfl := Option.some.inj h
                exact WX.ret (rs_ (rs_tmp rfl rs_nil)) fun st hp => ⟨(hp.pk [] (by decide)).le hB, rfl⟩
            · replace h := (if_neg (bnt k35)).symm.trans h
              refine WO.sd (wg rfl rfl (gtn k35)) rfl ?_
              refine WO.sd (wg rfl rfl (gtn k35)) rfl ?_
              refine WO.sd (wg rfl rfl (gtn k35)) rfl ?_
              refine WO.q (.pfv (v := .bool _) rfl k35 rfl) rfl rfl ?_
              refine WO.q (.mv (v := .bool _) rfl) rfl rfl ?_
              refine WO.sd (wg rfl rfl (gtn rfl)) rfl ?_
              refine WO.sd (wg rfl rfl (gtn rfl)) rfl ?_
              refine WO.sd (wg rfl rfl (gtn rfl)) rfl ?_
              refine WO.sd (wg rfl rfl (gtn rfl)) rfl ?_
              refine WO.sd (wg rfl rfl (gtn rfl)) rfl ?_
              refine WO.q (.pfv (v := .bool _) rfl rfl rfl) rfl rfl ?_
              refine WO.q (.mv (v := .bool _) rfl) rfl rfl ?_
              refine WO.sd (wg rfl rfl (gtn rfl)) rfl ?_
              refine WO.sd (wg rfl rfl (gtn rfl)) rfl ?_
              refine WO.sd (wg rfl rfl (gtn rfl)) rfl ?_
              refine WO.q (.pfv (v := .bool _) rfl rfl rfl) rfl rfl ?_
              refine WO.q (.as (v := .bool _) rfl) rfl rfl ?_
              refine WO.nil ?_
              obtain rfl := Option.some.inj h
              exact WX.ret (rs_ (rs_tmp rfl rs_nil)) fun st hp => ⟨(hp.pk [] (by decide)).le hB, rfl⟩
          · have q_k33 := of_decide_eq_false k33
            replace h := (if_neg q_k33).symm.trans h
            refine WO.sd (wg rfl rfl (gtn k33)) rfl ?_
            refine WO.sd (wg rfl rfl (gtn k33)) rfl ?_
            refine WO.sd (wg rfl rfl (gtn k33)) rfl ?_
            refine WO.sd (wg rfl rfl (gtn k33)) rfl ?_
            refine WO.sd (wg rfl rfl (gtn k33)) rfl ?_
            refine WO.q (.pfv (v := .bool _) rfl k33 rfl) rfl rfl ?_
            refine WO.q (.mv (v := .bool _) rfl) rfl rfl ?_
            refine WO.sd (wg rfl rfl (gtn rfl)) rfl ?_
            refine WO.sd (wg rfl rfl (gtn rfl)) rfl ?_
            refine WO.sd (wg rfl rfl (gtn rfl)) rfl ?_
            refine WO.q (.pfv (v := .bool _) rfl rfl rfl) rfl rfl ?_
            refine WO.q (.mv (v := .bool _) rfl) rfl rfl ?_
            refine WO.sd (wg rfl rfl (gtn rfl)) rfl ?_
            refine WO.sd (wg rfl rfl (gtn rfl)) rfl ?_
            refine WO.sd (wg rfl rfl (gtn rfl)) rfl ?_
            refine WO.sd (wg rfl rfl (gtn rfl)) rfl ?_
            refine WO.sd (wg rfl rfl (gtn rfl)) rfl ?_
            refine WO.q (.pfv (v := .bool _) rfl rfl rfl) rfl rfl ?_
            refine WO.q (.mv (v := .bool _) rfl) rfl rfl ?_
            refine WO.sd (wg rfl rfl (gtn rfl)) rfl ?_
            refine WO.sd (wg rfl rfl (gtn rfl)) rfl ?_
            refine WO.sd (wg rfl rfl (gtn rfl)) rfl ?_
            refine WO.q (.pfv (v := .bool _) rfl rfl rfl) rfl rfl ?_
            refine WO.q (.as (v := .bool _) rfl) rfl rfl ?_
            refine WO.nil ?_
            obtain rfl := Option.some.inj h
            exact WX.ret (rs_ (rs_tmp rfl rs_nil)) fun st hp => ⟨(hp.pk [] (by decide)).le hB, rfl⟩
        · have q_k32 := of_decide_eq_false k32
          replace h := (if_neg q_k32).symm.trans h
          refine WO.sd (wg rfl rfl (gtn k32)) rfl ?_
          refine WO.sd (wg rfl rfl (gtn k32)) rfl ?_
          refine WO.sd (wg rfl rfl (gtn k32)) rfl ?_
          refine WO.q (.pfv (v := .bool _) rfl k32 rfl) rfl rfl ?_
          refine WO.q (.mv (v := .bool _) rfl) rfl rfl ?_
          refine WO.sd (wg rfl rfl (gtn rfl)) rfl ?_
          refine WO.sd (wg rfl rfl (gtn rfl)) rfl ?_
          refine WO.sd (wg rfl rfl (gtn rfl)) rfl ?_
          refine WO.sd (wg rfl rfl (gtn rfl)) rfl ?_
          refine WO.sd (wg rfl rfl (gtn rfl)) rfl ?_
          refine WO.q (.pfv (v := .bool _) rfl rfl rfl) rfl rfl ?_
          refine WO.q (.mv (v := .bool _) rfl) rfl rfl ?_
          refine WO.sd (wg rfl rfl (gtn rfl)) rfl ?_
          refine WO.sd (wg rfl rfl (gtn rfl)) rfl ?_
          refine WO.sd (wg rfl rfl (gtn rfl)) rfl ?_
          refine WO.q (.pfv (v := .bool _) rfl rfl rfl) rfl rfl ?_
          refine WO.q (.mv (v := .bool _) rfl) rfl rfl ?_
          refine WO.sd (wg rfl rfl (gtn rfl)) rfl ?_
          refine WO.sd (wg rfl rfl (gtn rfl)) rfl ?_
          refine WO.sd (wg rfl rfl (gtn rfl)) rfl ?_
          refine WO.sd (wg rfl rfl (gtn rfl)) rfl ?_
          refine WO.sd (wg rfl rfl (gtn rfl)) rfl ?_
          refine WO.q (.pfv (v := .bool _) rfl rfl rfl) rfl rfl ?_
          refine WO.q (.mv (v := .bool _) rfl) rfl rfl ?_
          refine WO.sd (wg rfl rfl (gtn rfl)) rfl ?_
          refine WO.sd (wg rfl rfl (gtn rfl)) rfl ?_
          refine WO.sd (wg rfl rfl (gtn rfl)) rfl ?_
          refine WO.q (.pfv (v := .bool _) rfl rfl rfl) rfl rfl ?_
          refine WO.q (.as (v := .bool _) rfl) rfl rfl ?_
          refine WO.nil ?_
          obtain rfl := Option.some.inj h
          exact WX.ret (rs_ (rs_tmp rfl rs_nil)) fun st hp => ⟨(hp.pk [] (by decide)).le hB, rfl⟩
      · have q_k31 := of_decide_eq_false k31
        replace h := (if_neg q_k31).symm.trans h
        refine WO.sd (wg rfl rfl (gtn k31)) rfl ?_
        refine WO.sd (wg rfl rfl (gtn k31)) rfl ?_
        refine WO.q (.pfv (v := .bool _) rfl k31 rfl) rfl rfl ?_
        refine WO.q (.mv (v := .bool _) rfl) rfl rfl ?_
        refine WO.sd (wg rfl rfl (gtn rfl)) rfl ?_
        refine WO.sd (wg rfl rfl (gtn rfl)) rfl ?_
        refine WO.sd (wg rfl rfl (gtn rfl)) rfl ?_
        refine WO.q (.pfv (v := .bool _) rfl rfl rfl) rfl rfl ?_
        refine WO.q (.mv (v := .bool _) rfl) rfl rfl ?_
        refine WO.sd (wg rfl rfl (gtn rfl)) rfl ?_
        refine WO.sd (wg rfl rfl (gtn rfl)) rfl ?_
        refine WO.sd (wg rfl rfl (gtn rfl)) rfl ?_
        refine WO.sd (wg rfl rfl (gtn rfl)) rfl ?_
        refine WO.sd (wg rfl rfl (gtn rfl)) rfl ?_
        refine WO.q (.pfv (v := .bool _) rfl rfl rfl) rfl rfl ?_
        refine WO.q (.mv (v := .bool _) rfl) rfl rfl ?_
        refine WO.sd (wg rfl rfl (gtn rfl)) rfl ?_
        refine WO.sd (wg rfl rfl (gtn rfl)) rfl ?_
        refine WO.sd (wg rfl rfl (gtn rfl)) rfl ?_
        refine WO.q (.pfv (v := .bool _) rfl rfl rfl) rfl rfl ?_
        refine WO.q (.mv (v := .bool _) rfl) rfl rfl ?_
        refine WO.sd (wg rfl rfl (gtn rfl)) rfl ?_
        refine WO.sd (wg rfl rfl (gtn rfl)) rfl ?_
        refine WO.sd (wg rfl rfl (gtn rfl)) rfl ?_
        refine WO.sd (wg rfl rfl (gtn rfl)) rfl ?_
        refine WO.sd (wg rfl rfl (gtn rfl)) rfl ?_
        refine WO.q (.pfv (v := .bool _) rfl rfl rfl) rfl rfl ?_
        refine WO.q (.mv (v := .bool _) rfl) rfl rfl ?_
        refine WO.sd (wg rfl rfl (gtn rfl)) rfl ?_
        refine WO.sd (wg rfl rfl (gtn rfl)) rfl ?_
        refine WO.sd (wg rfl rfl (gtn rfl)) rfl ?_
        refine WO.q (.pfv (v := .bool _) rfl rfl rfl) rfl rfl ?_
        refine WO.q (.as (v := .bool _) rfl) rfl rfl ?_
        refine WO.nil ?_
        obtain rfl := Option.some.inj h
        exact WX.ret (rs_ (rs_tmp rfl rs_nil)) fun st hp => ⟨(hp.pk [] (by decide)).le hB, rfl⟩
    · have q_k30 := of_decide_eq_false k30
      replace h := (if_neg q_k30).symm.trans h
      refine WO.sd (wg rfl rfl (gtn k30)) rfl ?_
      refine WO.sd (wg rfl rfl (gtn k30)) rfl ?_
      refine WO.q (.pfv (v := .bool _) rfl k30 rfl) rfl rfl ?_
      refine WO.q (.mv (v := .bool _) rfl) rfl rfl ?_
      refine WO.sd (wg rfl rfl (gtn rfl)) rfl ?_
      refine WO.sd (wg rfl rfl (gtn rfl)) rfl ?_
      refine WO.q (.pfv (v := .bool _) rfl rfl rfl) rfl rfl ?_
      refine WO.q (.mv (v := .bool _) rfl) rfl rfl ?_
      refine WO.sd (wg rfl rfl (gtn rfl)) rfl ?_
      refine WO.sd (wg rfl rfl (gtn rfl)) rfl ?_
      refine WO.sd (wg rfl rfl (gtn rfl)) rfl ?_
      refine WO.q (.pfv (v := .bool _) rfl rfl rfl) rfl rfl ?_
      refine WO.q (.mv (v := .bool _) rfl) rfl rfl ?_
      refine WO.sd (wg rfl rfl (gtn rfl)) rfl ?_
      refine WO.sd (wg rfl rfl (gtn rfl)) rfl ?_
      refine WO.sd (wg rfl rfl (gtn rfl)) rfl ?_
      refine WO.sd (wg rfl rfl (gtn rfl)) rfl ?_
      refine WO.sd (wg rfl rfl (gtn rfl)) rfl ?_
      refine WO.q (.pfv (v := .bool _) rfl rfl rfl) rfl rfl ?_
      refine WO.q (.mv (v := .bool _) rfl) rfl rfl ?_
      refine WO.sd (wg rfl rfl (gtn rfl)) rfl ?_
      refine WO.sd (wg rfl rfl (gtn rfl)) rfl ?_
      refine WO.sd (wg rfl rfl (gtn rfl)) rfl ?_
      refine WO.q (.pfv (v := .bool _) rfl rfl rfl) rfl rfl ?_
      refine WO.q (.mv (v := .bool _) rfl) rfl rfl ?_
      refine WO.sd (wg rfl rfl (gtn rfl)) rfl ?_
      refine WO.sd (wg rfl rfl (gtn rfl)) rfl ?_
      refine WO.sd (wg rfl rfl (gtn rfl)) rfl ?_
      refine WO.sd (wg rfl rfl (gtn rfl)) rfl ?_
      refine WO.sd (wg rfl rfl (gtn rfl)) rfl ?_
      refine WO.q (.pfv (v := .bool _) rfl rfl rfl) rfl rfl ?_
      refine WO.q (.mv (v := .bool _) rfl) rfl rfl ?_
      refine WO.sd (wg rfl rfl (gtn rfl)) rfl ?_
      refine WO.sd (wg rfl rfl (gtn rfl)) rfl ?_
      refine WO.sd (wg rfl rfl (gtn rfl)) rfl ?_
      refine WO.q (.pfv (v := .bool _) rfl rfl rfl) rfl rfl ?_
      refine WO.q (.as (v := .bool _) rfl) rfl rfl ?_
      refine WO.nil ?_
      obtain rfl := Option.some.inj h
      exact WX.ret (rs_ (rs_tmp rfl rs_nil)) fun st hp => ⟨(hp.pk [] (by decide)).le hB, rfl⟩
  · have q_k29 := of_decide_eq_false k29
    replace h := (if_neg q_k29).symm.trans h
    refine WO.sd (wg rfl rfl (gtn k29)) rfl ?_
    refine WO.sd (wg rfl rfl (gtn k29)) rfl ?_
    refine WO.q (.pfv (v := .bool _) rfl k29 rfl) rfl rfl ?_
    refine WO.q (.mv (v := .bool _) rfl) rfl rfl ?_
    refine WO.sd (wg rfl rfl (gtn rfl)) rfl ?_
    refine WO.sd (wg rfl rfl (gtn rfl)) rfl ?_
    refine WO.q (.pfv (v := .bool _) rfl rfl rfl) rfl rfl ?_
    refine WO.q (.mv (v := .bool _) rfl) rfl rfl ?_
    refine WO.sd (wg rfl rfl (gtn rfl)) rfl ?_
    refine WO.sd (wg rfl rfl (gtn rfl)) rfl ?_
    refine WO.q (.pfv (v := .bool _) rfl rfl rfl) rfl rfl ?_
    refine WO.q (.mv (v := .bool _) rfl) rfl rfl ?_
    refine WO.sd (wg rfl rfl (gtn rfl)) rfl ?_
    refine WO.sd (wg rfl rfl (gtn rfl)) rfl ?_
    refine WO.sd (wg rfl rfl (gtn rfl)) rfl ?_
    refine WO.q (.pfv (v := .bool _) rfl rfl rfl) rfl rfl ?_
    refine WO.q (.mv (v := .bool _) rfl) rfl rfl ?_
    refine WO.sd (wg rfl rfl (gtn rfl)) rfl ?_
    refine WO.sd (wg rfl rfl (gtn rfl)) rfl ?_
    refine WO.sd (wg rfl rfl (gtn rfl)) rfl ?_
    refine WO.sd (wg rfl rfl (gtn rfl)) rfl ?_
    refine WO.sd (wg rfl rfl (gtn rfl)) rfl ?_
    refine WO.q (.pfv (v := .bool _) rfl rfl rfl) rfl rfl ?_
    refine WO.q (.mv (v := .bool _) rfl) rfl rfl ?_
    refine WO.sd (wg rfl rfl (gtn rfl)) rfl ?_
    refine WO.sd (wg rfl rfl (gtn rfl)) rfl ?_
    refine WO.sd (wg rfl rfl (gtn rfl)) rfl ?_
    refine WO.q (.pfv (v := .bool _) rfl rfl rfl) rfl rfl ?_
    refine WO.q (.mv (v := .bool _) rfl) rfl rfl ?_
    refine WO.sd (wg rfl rfl (gtn rfl)) rfl ?_
    refine WO.sd (wg rfl rfl (gtn rfl)) rfl ?_
    refine WO.sd (wg rfl rfl (gtn rfl)) rfl ?_
    refine WO.sd (wg rfl rfl (gtn rfl)) rfl ?_
    refine WO.sd (wg rfl rfl (gtn rfl)) rfl ?_
    refine WO.q (.pfv (v := .bool _) rfl rfl rfl) rfl rfl ?_
    refine WO.q (.mv (v := .bool _) rfl) rfl rfl ?_
    refine WO.sd (wg rfl rfl (gtn rfl)) rfl ?_
    refine WO.sd (wg rfl rfl (gtn rfl)) rfl ?_
    refine WO.sd (wg rfl rfl (gtn rfl)) rfl ?_
    refine WO.q (.pfv (v := .bool _) rfl rfl rfl) rfl rfl ?_
    refine WO.q (.as (v := .bool _) rfl) rfl rfl ?_
    refine WO.nil ?_
    obtain rfl := Option.some.inj h
    exact WX.ret (rs_ (rs_tmp rfl rs_nil)) fun st hp => ⟨(hp.pk [] (by decide)).le hB, rfl⟩
end Gab
