/- The Go code comes to what the Lean functions say. Written by a program (gp.py). -/
import Derived.Test.YtdkldojcpncnhaaFd
import Derived.Test.YtdkldojcpncnhaaFp14
set_option linter.unusedSimpArgs false
set_option linter.unusedVariables false
set_option maxHeartbeats 4000000
set_option maxRecDepth 100000
namespace Gab
open Go Go.Proofs
def gabionlaw15_wakes_P (B : Kn) (L : Own) (r : Bool) : AV → St → Prop := CS B L fun v => v = .bool r
theorem gabionlaw15_wakes_ok {B0 : Kn} {L : Own} {r : Bool} (h : gabionlaw15_wakes = some r) : ∀ st, Hp B0 L st → ASpec Try.prog 34 [] st (gabionlaw15_wakes_P B0 L r) := by
  unfold gabionlaw15_wakes at h
  refine bodyA (A := []) Try.func34 rfl (c := bodyOf Try.f34) rfl Try.ntmps34 (lb rfl) fun n0 => ?_
  have hB := KLe.refl B0
  refine WX.seq ?_
  refine WX.reg ?_
  refine WO.q (.as (v := .bool _) rfl) rfl rfl ?_
  refine WO.nil ?_
  refine WX.seq ?_
  refine WX.reg ?_
  refine WO.md (MOp.bs (l := ([] : List (Int × Int))) sl44 RL.nil (lb rfl) rfl rfl) rfl rfl ?_
  rintro v3 _ ⟨b1, o2, rfl⟩
  obtain ⟨_, _, _, _, _, rfl⟩ := o2.isl
  refine WO.q (.bd (bd35_0_1 (cI rfl) (cI rfl))) rfl rfl ?_
  refine WO.fz (j := 0) o2 rfl ?_
  intro B hK g5
  replace hB := hB.trans hK
  obtain ⟨y6, hy6, h⟩ := Option.bind_eq_some_iff.1 h
  refine WO.c0 rfl rfl (ext_List_Append_ok g5 hy6) rfl rfl rfl ?_
  rintro _ B hK ⟨v7, rfl, h8⟩
  obtain ⟨_, _, _, _, _, rfl⟩ := h8.isl
  replace g5 := g5.up hK
  replace hB := hB.trans hK
  refine WO.q (.mv (v := .tup _) rfl) rfl rfl ?_
  refine WO.q (.r fun _ => rfl) rfl rfl ?_
  refine WO.q (.r fun _ => rfl) rfl rfl ?_
  refine WO.q (.as (v := .sl _ _ _ _ _ _) rfl) rfl rfl ?_
  refine WO.q (.as (v := .int _ _) rfl) rfl rfl ?_
  refine WO.nil ?_
  refine WX.seq ?_
  refine WX.reg ?_
  refine WO.q (.mv (v := .sl _ _ _ _ _ _) rfl) rfl rfl ?_
  refine WO.q (.bd (bd35_0_1 (cI rfl) (cI rfl))) rfl rfl ?_
  obtain ⟨y9, hy9, h⟩ := Option.bind_eq_some_iff.1 h
  refine WO.c0 rfl rfl (ext_List_Fill_ok h8 hy9) rfl rfl rfl ?_
  rintro _ B hK ⟨v10, rfl, h11⟩
  obtain ⟨_, _, _, _, _, rfl⟩ := h11.isl
  replace h8 := h8.up hK
  replace hB := hB.trans hK
  refine WO.q (.mv (v := .tup _) rfl) rfl rfl ?_
  refine WO.q (.r fun _ => rfl) rfl rfl ?_
  refine WO.q (.r fun _ => rfl) rfl rfl ?_
  refine WO.q (.as (v := .sl _ _ _ _ _ _) rfl) rfl rfl ?_
  refine WO.q (.as (v := .int _ _) rfl) rfl rfl ?_
  refine WO.nil ?_
  refine WX.seq ?_
  refine WX.reg ?_
  refine WO.q (.mv (v := .sl _ _ _ _ _ _) rfl) rfl rfl ?_
  obtain ⟨y12, hy12, h⟩ := Option.bind_eq_some_iff.1 h
  refine WO.cS rfl rfl (ext_List_Map_ok h11 hy12) rfl rfl rfl ?_
  rintro _ rfl
  refine WO.q (.mv (v := .tup _) rfl) rfl rfl ?_
  refine WO.q (.r fun _ => rfl) rfl rfl ?_
  refine WO.q (.r fun _ => rfl) rfl rfl ?_
  refine WO.q (.as (v := .int _ _) rfl) rfl rfl ?_
  refine WO.q (.as (v := .bool _) rfl) rfl rfl ?_
  refine WO.nil ?_
  refine WX.seq ?_
  refine WX.reg ?_
  refine WO.q (.mv (v := .int _ _) rfl) rfl rfl ?_
  refine WO.q (.r fun _ => rfl) rfl rfl ?_
  refine WO.q (.mv (v := .bool _) rfl) rfl rfl ?_
  rcases bsp (decide (y6.2 = 0)) with k13 | k13
  · have q_k13 := of_decide_eq_true k13
    replace h := (if_pos q_k13).symm.trans h
    refine WO.q (.mv (v := .int _ _) rfl) (wg rfl rfl (gt k13)) rfl ?_
    refine WO.q (.r fun _ => rfl) (wg rfl rfl (gt k13)) rfl ?_
    refine WO.q (.ptv (v := .bool _) rfl k13 rfl) rfl rfl ?_
    refine WO.q (.mv (v := .bool _) rfl) rfl rfl ?_
    rcases bsp (decide (y9.2 = 0)) with k14 | k14
    · have q_k14 := of_decide_eq_true k14
      replace h := (if_pos q_k14).symm.trans h
      refine WO.q (.mv (v := .bool _) rfl) (wg rfl rfl (gt k14)) rfl ?_
      refine WO.q (.ptv (v := .bool _) rfl k14 rfl) rfl rfl ?_
      refine WO.q (.mv (v := .bool _) rfl) rfl rfl ?_
      rcases bsp y12.2 with k15 | k15
      · replace h := (if_pos k15).symm.trans h
        refine WO.q (.mv (v := .int _ _) rfl) (wg rfl rfl (gt k15)) rfl ?_
        refine WO.q (.r fun _ => rfl) (wg rfl rfl (gt k15)) rfl ?_
        refine WO.q (.ptv (v := .bool _) rfl k15 rfl) rfl rfl ?_
        refine WO.q (.mv (v := .bool _) rfl) rfl rfl ?_
        rcases bsp (decide (y12.1 = 7)) with k16 | k16
        · have q_k16 := of_decide_eq_true k16
          replace h := (if_pos q_k16).symm.trans h
          refine WO.q (.mv (v := .sl _ _ _ _ _ _) rfl) (wg rfl rfl (gt k16)) rfl ?_
          refine WO.q (.len rfl rfl rfl (sl44.len h11.isl)) (wg rfl rfl (gt k16)) rfl ?_
          refine WO.q (.r fun _ => rfl) (wg rfl rfl (gt k16)) rfl ?_
          refine WO.q (.ptv (v := .bool _) rfl k16 rfl) rfl rfl ?_
          refine WO.q (.mv (v := .bool _) rfl) rfl rfl ?_
          rcases bsp (decide ((y9.1.length : Int) = 3)) with k17 | k17
          · have q_k17 := of_decide_eq_true k17
            replace h := (if_pos q_k17).symm.trans h
            refine WO.q (.mv (v := .sl _ _ _ _ _ _) rfl) (wg rfl rfl (gt k17)) rfl ?_
            obtain ⟨y18, hy18, h⟩ := Option.bind_eq_some_iff.1 h
            refine WO.cS rfl rfl (ext_List_Blocks_ok h11 hy18) rfl (wg rfl rfl (gt k17)) rfl ?_
            rintro _ rfl
            refine WO.q (.r fun _ => rfl) (wg rfl rfl (gt k17)) rfl ?_
            refine WO.q (.ptv (v := .bool _) rfl k17 rfl) rfl rfl ?_
            refine WO.q (.mv (v := .bool _) rfl) rfl rfl ?_
            rcases bsp (decide (y18 = 3)) with k19 | k19
            · have q_k19 := of_decide_eq_true k19
              replace h := (if_pos q_k19).symm.trans h
              refine WO.q (.mv (v := .sl _ _ _ _ _ _) rfl) (wg rfl rfl (gt k19)) rfl ?_
              obtain ⟨y20, hy20, h⟩ := Option.bind_eq_some_iff.1 h
              refine WO.cS rfl rfl (ext_List_Held_ok h11 hy20) rfl (wg rfl rfl (gt k19)) rfl ?_
              rintro _ rfl
              refine WO.q (.r fun _ => rfl) (wg rfl rfl (gt k19)) rfl ?_
              refine WO.q (.ptv (v := .bool _) rfl k19 rfl) rfl rfl ?_
              refine WO.q (.mv (v := .bool _) rfl) rfl rfl ?_
              rcases bsp (decide (y20 = 1)) with k21 | k21
              · have q_k21 := of_decide_eq_true k21
                replace h := (if_pos q_k21).symm.trans h
                refine WO.q (.mv (v := .sl _ _ _ _ _ _) rfl) (wg rfl rfl (gt k21)) rfl ?_
                obtain ⟨y22, hy22, h⟩ := Option.bind_eq_some_iff.1 h
                refine WO.cS rfl rfl (ext_List_Held_ok h8 hy22) rfl (wg rfl rfl (gt k21)) rfl ?_
                rintro _ rfl
                refine WO.q (.r fun _ => rfl) (wg rfl rfl (gt k21)) rfl ?_
                refine WO.q (.ptv (v := .bool _) rfl k21 rfl) rfl rfl ?_
                refine WO.q (.as (v := .bool _) rfl) rfl rfl ?_
                refine WO.nil ?_
                obtain rfl := Option.some.inj h
                exact WX.ret (rs_ (rs_tmp rfl rs_nil)) fun st hp => ⟨(hp.pk [] (by decide)).le hB, rfl⟩
              · have q_k21 := of_decide_eq_false k21
                replace h := (if_neg q_k21).symm.trans h
                refine WO.sd (wg rfl rfl (gtn k21)) rfl ?_
                refine WO.sd (wg rfl rfl (gtn k21)) rfl ?_
                refine WO.sd (wg rfl rfl (gtn k21)) rfl ?_
                refine WO.q (.pfv (v := .bool _) rfl k21 rfl) rfl rfl ?_
                refine WO.q (.as (v := .bool _) rfl) rfl rfl ?_
                refine WO.nil ?_
                obtain rfl := Option.some.inj h
                exact WX.ret (rs_ (rs_tmp rfl rs_nil)) fun st hp => ⟨(hp.pk [] (by decide)).le hB, rfl⟩
            · have q_k19 := of_decide_eq_false k19
              replace h := (if_neg q_k19).symm.trans h
              refine WO.sd (wg rfl rfl (gtn k19)) rfl ?_
              refine WO.sd (wg rfl rfl (gtn k19)) rfl ?_
              refine WO.sd (wg rfl rfl (gtn k19)) rfl ?_
              refine WO.q (.pfv (v := .bool _) rfl k19 rfl) rfl rfl ?_
              refine WO.q (.mv (v := .bool _) rfl) rfl rfl ?_
              refine WO.sd (wg rfl rfl (gtn rfl)) rfl ?_
              refine WO.sd (wg rfl rfl (gtn rfl)) rfl ?_
              refine WO.sd (wg rfl rfl (gtn rfl)) rfl ?_
              refine WO.q (.pfv (v := .bool _) rfl rfl rfl) rfl rfl ?_
              refine WO.q (.as (v := .bool _) rfl) rfl rfl ?_
              refine WO.nil ?_
              obtain rfl := Option.some.inj h
              exact WX.ret (rs_ (rs_tmp rfl rs_nil)) fun st hp => ⟨(hp.pk [] (by decide)).le hB, rfl⟩
          · have q_k17 := of_decide_eq_false k17
            replace h := (if_neg q_k17).symm.trans h
            refine WO.sd (wg rfl rfl (gtn k17)) rfl ?_
            refine WO.sd (wg rfl rfl (gtn k17)) rfl ?_
            refine WO.sd (wg rfl rfl (gtn k17)) rfl ?_
            refine WO.q (.pfv (v := .bool _) rfl k17 rfl) rfl rfl ?_
            refine WO.q (.mv (v := .bool _) rfl) rfl rfl ?_
            refine WO.sd (wg rfl rfl (gtn rfl)) rfl ?_
            refine WO.sd (wg rfl rfl (gtn rfl)) rfl ?_
            refine WO.sd (wg rfl rfl (gtn rfl)) rfl ?_
            refine WO.q (.pfv (v := .bool _) rfl rfl rfl) rfl rfl ?_
            refine WO.q (.mv (v := .bool _) rfl) rfl rfl ?_
            refine WO.sd (wg rfl rfl (gtn rfl)) rfl ?_
            refine WO.sd (wg rfl rfl (gtn rfl)) rfl ?_
            refine WO.sd (wg rfl rfl (gtn rfl)) rfl ?_
            refine WO.q (.pfv (v := .bool _) rfl rfl rfl) rfl rfl ?_
            refine WO.q (.as (v := .bool _) rfl) rfl rfl ?_
            refine WO.nil ?_
            obtain rfl := Option.some.inj h
            exact WX.ret (rs_ (rs_tmp rfl rs_nil)) fun st hp => ⟨(hp.pk [] (by decide)).le hB, rfl⟩
        · have q_k16 := of_decide_eq_false k16
          replace h := (if_neg q_k16).symm.trans h
          refine WO.sd (wg rfl rfl (gtn k16)) rfl ?_
          refine WO.sd (wg rfl rfl (gtn k16)) rfl ?_
          refine WO.sd (wg rfl rfl (gtn k16)) rfl ?_
          refine WO.q (.pfv (v := .bool _) rfl k16 rfl) rfl rfl ?_
          refine WO.q (.mv (v := .bool _) rfl) rfl rfl ?_
          refine WO.sd (wg rfl rfl (gtn rfl)) rfl ?_
          refine WO.sd (wg rfl rfl (gtn rfl)) rfl ?_
          refine WO.sd (wg rfl rfl (gtn rfl)) rfl ?_
          refine WO.q (.pfv (v := .bool _) rfl rfl rfl) rfl rfl ?_
          refine WO.q (.mv (v := .bool _) rfl) rfl rfl ?_
          refine WO.sd (wg rfl rfl (gtn rfl)) rfl ?_
          refine WO.sd (wg rfl rfl (gtn rfl)) rfl ?_
          refine WO.sd (wg rfl rfl (gtn rfl)) rfl ?_
          refine WO.q (.pfv (v := .bool _) rfl rfl rfl) rfl rfl ?_
          refine WO.q (.mv (v := .bool _) rfl) rfl rfl ?_
          refine WO.sd (wg rfl rfl (gtn rfl)) rfl ?_
          refine WO.sd (wg rfl rfl (gtn rfl)) rfl ?_
          refine WO.sd (wg rfl rfl (gtn rfl)) rfl ?_
          refine WO.q (.pfv (v := .bool _) rfl rfl rfl) rfl rfl ?_
          refine WO.q (.as (v := .bool _) rfl) rfl rfl ?_
          refine WO.nil ?_
          obtain rfl := Option.some.inj h
          exact WX.ret (rs_ (rs_tmp rfl rs_nil)) fun st hp => ⟨(hp.pk [] (by decide)).le hB, rfl⟩
      · replace h := (if_neg (bnt k15)).symm.trans h
        refine WO.sd (wg rfl rfl (gtn k15)) rfl ?_
        refine WO.sd (wg rfl rfl (gtn k15)) rfl ?_
        refine WO.q (.pfv (v := .bool _) rfl k15 rfl) rfl rfl ?_
        refine WO.q (.mv (v := .bool _) rfl) rfl rfl ?_
        refine WO.sd (wg rfl rfl (gtn rfl)) rfl ?_
        refine WO.sd (wg rfl rfl (gtn rfl)) rfl ?_
        refine WO.sd (wg rfl rfl (gtn rfl)) rfl ?_
        refine WO.q (.pfv (v := .bool _) rfl rfl rfl) rfl rfl ?_
        refine WO.q (.mv (v := .bool _) rfl) rfl rfl ?_
        refine WO.sd (wg rfl rfl (gtn rfl)) rfl ?_
        refine WO.sd (wg rfl rfl (gtn rfl)) rfl ?_
        refine WO.sd (wg rfl rfl (gtn rfl)) rfl ?_
        refine WO.q (.pfv (v := .bool _) rfl rfl rfl) rfl rfl ?_
        refine WO.q (.mv (v := .bool _) rfl) rfl rfl ?_
        refine WO.sd (wg rfl rfl (gtn rfl)) rfl ?_
        refine WO.sd (wg rfl rfl (gtn rfl)) rfl ?_
        refine WO.sd (wg rfl rfl (gtn rfl)) rfl ?_
        refine WO.q (.pfv (v := .bool _) rfl rfl rfl) rfl rfl ?_
        refine WO.q (.mv (v := .bool _) rfl) rfl rfl ?_
        refine WO.sd (wg rfl rfl (gtn rfl)) rfl ?_
        refine WO.sd (wg rfl rfl (gtn rfl)) rfl ?_
        refine WO.sd (wg rfl rfl (gtn rfl)) rfl ?_
        refine WO.q (.pfv (v := .bool _) rfl rfl rfl) rfl rfl ?_
        refine WO.q (.as (v := .bool _) rfl) rfl rfl ?_
        refine WO.nil ?_
        obtain rfl := Option.some.inj h
        exact WX.ret (rs_ (rs_tmp rfl rs_nil)) fun st hp => ⟨(hp.pk [] (by decide)).le hB, rfl⟩
    · have q_k14 := of_decide_eq_false k14
      replace h := (if_neg q_k14).symm.trans h
      refine WO.sd (wg rfl rfl (gtn k14)) rfl ?_
      refine WO.q (.pfv (v := .bool _) rfl k14 rfl) rfl rfl ?_
      refine WO.q (.mv (v := .bool _) rfl) rfl rfl ?_
      refine WO.sd (wg rfl rfl (gtn rfl)) rfl ?_
      refine WO.sd (wg rfl rfl (gtn rfl)) rfl ?_
      refine WO.q (.pfv (v := .bool _) rfl rfl rfl) rfl rfl ?_
      refine WO.q (.mv (v := .bool _) rfl) rfl rfl ?_
      refine WO.sd (wg rfl rfl (gtn rfl)) rfl ?_
      refine WO.sd (wg rfl rfl (gtn rfl)) rfl ?_
      refine WO.sd (wg rfl rfl (gtn rfl)) rfl ?_
      refine WO.q (.pfv (v := .bool _) rfl rfl rfl) rfl rfl ?_
      refine WO.q (.mv (v := .bool _) rfl) rfl rfl ?_
      refine WO.sd (wg rfl rfl (gtn rfl)) rfl ?_
      refine WO.sd (wg rfl rfl (gtn rfl)) rfl ?_
      refine WO.sd (wg rfl rfl (gtn rfl)) rfl ?_
      refine WO.q (.pfv (v := .bool _) rfl rfl rfl) rfl rfl ?_
      refine WO.q (.mv (v := .bool _) rfl) rfl rfl ?_
      refine WO.sd (wg rfl rfl (gtn rfl)) rfl ?_
      refine WO.sd (wg rfl rfl (gtn rfl)) rfl ?_
      refine WO.sd (wg rfl rfl (gtn rfl)) rfl ?_
      refine WO.q (.pfv (v := .bool _) rfl rfl rfl) rfl rfl ?_
      refine WO.q (.mv (v := .bool _) rfl) rfl rfl ?_
      refine WO.sd (wg rfl rfl (gtn rfl)) rfl ?_
      refine WO.sd (wg rfl rfl (gtn rfl)) rfl ?_
      refine WO.sd (wg rfl rfl (gtn rfl)) rfl ?_
      refine WO.q (.pfv (v := .bool _) rfl rfl rfl) rfl rfl ?_
      refine WO.q (.as (v := .bool _) rfl) rfl rfl ?_
      refine WO.nil ?_
      obtain rfl := Option.some.inj h
      exact WX.ret (rs_ (rs_tmp rfl rs_nil)) fun st hp => ⟨(hp.pk [] (by decide)).le hB, rfl⟩
  · have q_k13 := of_decide_eq_false k13
    replace h := (if_neg q_k13).symm.trans h
    refine WO.sd (wg rfl rfl (gtn k13)) rfl ?_
    refine WO.sd (wg rfl rfl (gtn k13)) rfl ?_
    refine WO.q (.pfv (v := .bool _) rfl k13 rfl) rfl rfl ?_
    refine WO.q (.mv (v := .bool _) rfl) rfl rfl ?_
    refine WO.sd (wg rfl rfl (gtn rfl)) rfl ?_
    refine WO.q (.pfv (v := .bool _) rfl rfl rfl) rfl rfl ?_
    refine WO.q (.mv (v := .bool _) rfl) rfl rfl ?_
    refine WO.sd (wg rfl rfl (gtn rfl)) rfl ?_
    refine WO.sd (wg rfl rfl (gtn rfl)) rfl ?_
    refine WO.q (.pfv (v := .bool _) rfl rfl rfl) rfl rfl ?_
    refine WO.q (.mv (v := .bool _) rfl) rfl rfl ?_
    refine WO.sd (wg rfl rfl (gtn rfl)) rfl ?_
    refine WO.sd (wg rfl rfl (gtn rfl)) rfl ?_
    refine WO.sd (wg rfl rfl (gtn rfl)) rfl ?_
    refine WO.q (.pfv (v := .bool _) rfl rfl rfl) rfl rfl ?_
    refine WO.q (.mv (v := .bool _) rfl) rfl rfl ?_
    refine WO.sd (wg rfl rfl (gtn rfl)) rfl ?_
    refine WO.sd (wg rfl rfl (gtn rfl)) rfl ?_
    refine WO.sd (wg rfl rfl (gtn rfl)) rfl ?_
    refine WO.q (.pfv (v := .bool _) rfl rfl rfl) rfl rfl ?_
    refine WO.q (.mv (v := .bool _) rfl) rfl rfl ?_
    refine WO.sd (wg rfl rfl (gtn rfl)) rfl ?_
    refine WO.sd (wg rfl rfl (gtn rfl)) rfl ?_
    refine WO.sd (wg rfl rfl (gtn rfl)) rfl ?_
    refine WO.q (.pfv (v := .bool _) rfl rfl rfl) rfl rfl ?_
    refine WO.q (.mv (v := .bool _) rfl) rfl rfl ?_
    refine WO.sd (wg rfl rfl (gtn rfl)) rfl ?_
    refine WO.sd (wg rfl rfl (gtn rfl)) rfl ?_
    refine WO.sd (wg rfl rfl (gtn rfl)) rfl ?_
    refine WO.q (.pfv (v := .bool _) rfl rfl rfl) rfl rfl ?_
    refine WO.q (.as (v := .bool _) rfl) rfl rfl ?_
    refine WO.nil ?_
    obtain rfl := Option.some.inj h
    exact WX.ret (rs_ (rs_tmp rfl rs_nil)) fun st hp => ⟨(hp.pk [] (by decide)).le hB, rfl⟩
def slices_BinarySearchFunc_alloc_Extent_int_P (B : Kn) (L : Own) (r : Int × Bool) : AV → St → Prop := CS B L fun v => v = .tup [.int .i64 r.1, .bool r.2]
def slices_BinarySearchFunc_alloc_Extent_int_l0_I (B0 : Kn) (fg2 : Nat) (fc2 : List AV) (x0 : List (Int × Int)) (x1 : Int) (x9 : Int) (x10 : Int) : Fr → Kn → Own → Prop := fun fr B A => KLe B0 B ∧ ∃ v1, RSl EPIi64Ii64Q B v1 x0 ∧ fr = [(0, v1), (1, .int .i64 x1), (2, .fn (.func fg2) [] fc2), (8, .int .i64 (x0.length : Int)), (9, .int .i64 x9), (10, .int .i64 x10)] ∧ A = []
def slices_BinarySearchFunc_alloc_Extent_int_l0_X0 (B0 : Kn) (fg2 : Nat) (fc2 : List AV) (x0 : List (Int × Int)) (x1 : Int) (x9 : Int) : Fr → Kn → Own → Prop := fun fr B A => KLe B0 B ∧ ∃ v13, RSl EPIi64Ii64Q B v13 x0 ∧ fr = [(0, v13), (1, .int .i64 x1), (2, .fn (.func fg2) [] fc2), (8, .int .i64 (x0.length : Int)), (9, .int .i64 x9)] ∧ A = []
theorem slices_BinarySearchFunc_alloc_Extent_int_l0_s {B0 : Kn} {L : Own} {n0 : Nat} {fg2 : Nat} {fc2 : List AV} {a2 : (Int × Int) → Int → Option Int} {x0 : List (Int × Int)} {x1 : Int} {x9 : Int} {x10 : Int} {Q : AV → St → Prop} {E : (Int × Int) ⊕ Int → Prop} {o : (Int × Int) ⊕ Int} (h : slices_BinarySearchFunc_alloc_Extent_int_l0 a2 x0 x1 x9 x10 = some o) (hf2 : ∀ (x0 : Int × Int) (x1 : Int) (r : Int), a2 x0 x1 = some r → ∀ B, KLe B0 B → ∀ Lx st, Hp B (Lx ++ L) st → ASpec Try.prog fg2 ([.agg [.int .i64 x0.1, .int .i64 x0.2], .int .i64 x1] ++ fc2) st (CS B (Lx ++ L) fun v => v = .int .i64 r)) (hn : ∀ s, E (.inl s) → WXI Try.prog 49 n0 (Fin Try.prog Try.f75.results.toList n0 Q) [.lp (ct [1, 1, 1, 0, 0, 0] (bodyOf Try.f75)), .blk 0, .code (ct [1, 1, 1, 1] (bodyOf Try.f75))] (slices_BinarySearchFunc_alloc_Extent_int_l0_I B0 fg2 fc2 x0 x1 s.1 s.2) L) (hx0 : ∀ s, E (.inr s) → WXI Try.prog 49 n0 (Fin Try.prog Try.f75.results.toList n0 Q) [.code (ct [1, 1, 1, 1] (bodyOf Try.f75))] (slices_BinarySearchFunc_alloc_Extent_int_l0_X0 B0 fg2 fc2 x0 x1 s) L) (hE : E o) : WXI Try.prog 49 n0 (Fin Try.prog Try.f75.results.toList n0 Q) [.code (ct [1, 1, 1, 0, 0, 0] (bodyOf Try.f75)), .lp (ct [1, 1, 1, 0, 0, 0] (bodyOf Try.f75)), .blk 0, .code (ct [1, 1, 1, 1] (bodyOf Try.f75))] (slices_BinarySearchFunc_alloc_Extent_int_l0_I B0 fg2 fc2 x0 x1 x9 x10) L := by
  unfold slices_BinarySearchFunc_alloc_Extent_int_l0 at h
  rintro _ B _ ⟨hB, v1, h1, rfl, rfl⟩
  obtain ⟨_, _, _, _, _, rfl⟩ := h1.isl
  refine WX.seq ?_
  refine WX.seq ?_
  refine WX.reg ?_
  refine WO.q (.mv (v := .int _ _) rfl) rfl rfl ?_
  refine WO.q (.mv (v := .int _ _) rfl) rfl rfl ?_
  refine WO.q (.r fun _ => rfl) rfl rfl ?_
  refine WO.nil ?_
  rcases bsp (decide (x9 < x10)) with k2 | k2
  · have q_k2 := of_decide_eq_true k2
    replace h := (if_pos q_k2).symm.trans h
    refine WX.condT rfl k2 ?_
    refine WX.skip ?_
    refine WX.block ?_
    refine WX.seq ?_
    refine WX.reg ?_
    refine WO.q (.mv (v := .int _ _) rfl) rfl rfl ?_
    refine WO.q (.mv (v := .int _ _) rfl) rfl rfl ?_
    refine WO.q (.r fun _ => rfl) rfl rfl ?_
    refine WO.q (cvI ti3 ti128 rfl rfl) rfl rfl ?_
    refine WO.q (.r fun _ => rfl) rfl rfl ?_
    refine WO.q (cvI ti128 ti3 rfl rfl) rfl rfl ?_
    refine WO.q (.as (v := .int _ _) rfl) rfl rfl ?_
    refine WO.nil ?_
    refine WX.seq ?_
    refine WX.reg ?_
    refine WO.q (.mv (v := .fn _ _ _) rfl) rfl rfl ?_
    refine WO.q (.mv (v := .sl _ _ _ _ _ _) rfl) rfl rfl ?_
    refine WO.q (.mv (v := .int _ _) rfl) rfl rfl ?_
    obtain ⟨y3, hy3, h⟩ := Option.bind_eq_some_iff.1 h
    obtain ⟨b_y3, o_y3, _, i_y3, p_y3, r_y3⟩ := h1.at sl23 hy3 .i64
    obtain ⟨_, _, rfl, rfl, rfl⟩ := r_y3
    refine WO.q (.ia i_y3) rfl rfl ?_
    refine WO.q (.lpA rfl p_y3 ti35 rfl rfl) rfl rfl ?_
    refine WO.q (.mv (v := .int _ _) rfl) rfl rfl ?_
    obtain ⟨y4, hy4, h⟩ := Option.bind_eq_some_iff.1 h
    refine WO.cS rfl rfl (hf2 _ _ _  hy4 _ hB _) rfl rfl rfl ?_
    rintro _ rfl
    refine WO.q (.r fun _ => rfl) rfl rfl ?_
    refine WO.nil ?_
    rcases bsp (decide (y4 < 0)) with k5 | k5
    · have q_k5 := of_decide_eq_true k5
      replace h := (if_pos q_k5).symm.trans h
      refine WX.condT rfl k5 ?_
      refine WX.reg ?_
      refine WO.q (.mv (v := .int _ _) rfl) rfl rfl ?_
      refine WO.q (.r fun _ => rfl) rfl rfl ?_
      refine WO.q (.as (v := .int _ _) rfl) rfl rfl ?_
      refine WO.nil ?_
      refine WX.pop ?_
      refine WX.keepL [0, 1, 2, 8, 9, 10] (WX.pk [] (by decide) ?_) rfl
      obtain rfl := Option.some.inj h
      exact hn _ hE _ _ _ ⟨hB, _, h1, rfl, rfl⟩
    · have q_k5 := of_decide_eq_false k5
      replace h := (if_neg q_k5).symm.trans h
      refine WX.condF rfl k5 ?_
      refine WX.reg ?_
      refine WO.q (.mv (v := .int _ _) rfl) rfl rfl ?_
      refine WO.q (.as (v := .int _ _) rfl) rfl rfl ?_
      refine WO.nil ?_
      refine WX.pop ?_
      refine WX.keepL [0, 1, 2, 8, 9, 10] (WX.pk [] (by decide) ?_) rfl
      obtain rfl := Option.some.inj h
      exact hn _ hE _ _ _ ⟨hB, _, h1, rfl, rfl⟩
  · have q_k2 := of_decide_eq_false k2
    replace h := (if_neg q_k2).symm.trans h
    refine WX.condF rfl k2 ?_
    refine WX.exit rfl ?_
    refine WX.keep [0, 1, 2, 8, 9] (WX.pk [] (by decide) ?_) rfl
    obtain rfl := Option.some.inj h
    exact hx0 _ hE _ _ _ ⟨hB, _, h1, rfl, rfl⟩
theorem slices_BinarySearchFunc_alloc_Extent_int_l0_ok {B0 : Kn} {L : Own} {n0 : Nat} {fg2 : Nat} {fc2 : List AV} {a2 : (Int × Int) → Int → Option Int} {x0 : List (Int × Int)} {x1 : Int} {x9 : Int} {x10 : Int} {Q : AV → St → Prop} {d : Nat} {e : Int} (h : iter (fun (s : Int × Int) => slices_BinarySearchFunc_alloc_Extent_int_l0 a2 x0 x1 s.1 s.2) d (x9, x10) = some e) (hf2 : ∀ (x0 : Int × Int) (x1 : Int) (r : Int), a2 x0 x1 = some r → ∀ B, KLe B0 B → ∀ Lx st, Hp B (Lx ++ L) st → ASpec Try.prog fg2 ([.agg [.int .i64 x0.1, .int .i64 x0.2], .int .i64 x1] ++ fc2) st (CS B (Lx ++ L) fun v => v = .int .i64 r)) (g0 : ∀ s, e = s → WXI Try.prog 49 n0 (Fin Try.prog Try.f75.results.toList n0 Q) [.code (ct [1, 1, 1, 1] (bodyOf Try.f75))] (slices_BinarySearchFunc_alloc_Extent_int_l0_X0 B0 fg2 fc2 x0 x1 s) L) : WXI Try.prog 49 n0 (Fin Try.prog Try.f75.results.toList n0 Q) [.code (ct [1, 1, 1, 0, 0, 0] (bodyOf Try.f75)), .lp (ct [1, 1, 1, 0, 0, 0] (bodyOf Try.f75)), .blk 0, .code (ct [1, 1, 1, 1] (bodyOf Try.f75))] (slices_BinarySearchFunc_alloc_Extent_int_l0_I B0 fg2 fc2 x0 x1 x9 x10) L :=
  iter_ok (I := fun s => slices_BinarySearchFunc_alloc_Extent_int_l0_I B0 fg2 fc2 x0 x1 s.1 s.2) (D := fun e => (∀ s, e = s → WXI Try.prog 49 n0 (Fin Try.prog Try.f75.results.toList n0 Q) [.code (ct [1, 1, 1, 1] (bodyOf Try.f75))] (slices_BinarySearchFunc_alloc_Extent_int_l0_X0 B0 fg2 fc2 x0 x1 s) L)) (fun E hn hx s o ho hE => slices_BinarySearchFunc_alloc_Extent_int_l0_s ho hf2 hn (fun s hs => (hx _ hs) _ rfl)  hE) h g0
theorem slices_BinarySearchFunc_alloc_Extent_int_ok {B0 : Kn} {L : Own} {fg2 : Nat} {fc2 : List AV} {a2 : (Int × Int) → Int → Option Int} {a0 : List (Int × Int)} {a1 : Int} {v0_0 : AV} {r : Int × Bool} (hf2 : ∀ (x0 : Int × Int) (x1 : Int) (r : Int), a2 x0 x1 = some r → ∀ B, KLe B0 B → ∀ Lx st, Hp B (Lx ++ L) st → ASpec Try.prog fg2 ([.agg [.int .i64 x0.1, .int .i64 x0.2], .int .i64 x1] ++ fc2) st (CS B (Lx ++ L) fun v => v = .int .i64 r)) (g0_0 : RSl EPIi64Ii64Q B0 v0_0 a0) (h : slices_BinarySearchFunc_alloc_Extent_int a0 a1 a2 = some r) : ∀ st, Hp B0 L st → ASpec Try.prog 75 [v0_0, .int .i64 a1, .fn (.func fg2) [] fc2] st (slices_BinarySearchFunc_alloc_Extent_int_P B0 L r) := by
  unfold slices_BinarySearchFunc_alloc_Extent_int at h
  refine bodyA (A := []) Try.func75 rfl (c := bodyOf Try.f75) rfl Try.ntmps75 (lb rfl) fun n0 => ?_
  have hB := KLe.refl B0
  obtain ⟨_, _, _, _, _, rfl⟩ := g0_0.isl
  refine WX.seq ?_
  refine WX.reg ?_
  refine WO.q (.as (v := .int _ _) rfl) rfl rfl ?_
  refine WO.q (.as (v := .bool _) rfl) rfl rfl ?_
  refine WO.nil ?_
  refine WX.seq ?_
  refine WX.reg ?_
  refine WO.q (.mv (v := .sl _ _ _ _ _ _) rfl) rfl rfl ?_
  refine WO.q (.len rfl rfl rfl (sl23.len g0_0.isl)) rfl rfl ?_
  refine WO.q (.as (v := .int _ _) rfl) rfl rfl ?_
  refine WO.nil ?_
  refine WX.seq ?_
  refine WX.reg ?_
  refine WO.q (.mv (v := .int _ _) rfl) rfl rfl ?_
  refine WO.q (.as (v := .int _ _) rfl) rfl rfl ?_
  refine WO.q (.as (v := .int _ _) rfl) rfl rfl ?_
  refine WO.nil ?_
  refine WX.seq ?_
  refine WX.block ?_
  refine WX.loop ?_
  obtain ⟨e7, he7, h⟩ := Option.bind_eq_some_iff.1 h
  refine WX.keep [0, 1, 2, 8, 9, 10] (WX.pk [] (by decide) ?_) rfl
  refine slices_BinarySearchFunc_alloc_Extent_int_l0_ok he7 hf2 ?_ _ _ _ ⟨hB, _, g0_0, rfl, rfl⟩
  · intro s12 he_
    subst he_
    replace h := h
    rintro _ B _ ⟨hB, v8, h8, rfl, rfl⟩
    obtain ⟨_, _, _, _, _, rfl⟩ := h8.isl
    refine WX.seq ?_
    refine WX.reg ?_
    refine WO.q (.mv (v := .int _ _) rfl) rfl rfl ?_
    refine WO.q (.mv (v := .int _ _) rfl) rfl rfl ?_
    refine WO.q (.mv (v := .int _ _) rfl) rfl rfl ?_
    refine WO.q (.r fun _ => rfl) rfl rfl ?_
    refine WO.q (.mv (v := .bool _) rfl) rfl rfl ?_
    rcases bsp (decide (e7 < (a0.length : Int))) with k9 | k9
    · have q_k9 := of_decide_eq_true k9
      replace h := (if_pos q_k9).symm.trans h
      refine WO.q (.mv (v := .fn _ _ _) rfl) (wg rfl rfl (gt k9)) rfl ?_
      refine WO.q (.mv (v := .sl _ _ _ _ _ _) rfl) (wg rfl rfl (gt k9)) rfl ?_
      refine WO.q (.mv (v := .int _ _) rfl) (wg rfl rfl (gt k9)) rfl ?_
      obtain ⟨y10, hy10, h⟩ := Option.bind_eq_some_iff.1 h
      obtain ⟨b_y10, o_y10, _, i_y10, p_y10, r_y10⟩ := h8.at sl23 hy10 .i64
      obtain ⟨_, _, rfl, rfl, rfl⟩ := r_y10
      refine WO.q (.ia i_y10) (wg rfl rfl (gt k9)) rfl ?_
      refine WO.q (.lpA rfl p_y10 ti35 rfl rfl) (wg rfl rfl (gt k9)) rfl ?_
      refine WO.q (.mv (v := .int _ _) rfl) (wg rfl rfl (gt k9)) rfl ?_
      obtain ⟨y11, hy11, h⟩ := Option.bind_eq_some_iff.1 h
      refine WO.cS rfl rfl (hf2 _ _ _  hy11 _ hB _) rfl (wg rfl rfl (gt k9)) rfl ?_
      rintro _ rfl
      refine WO.q (.r fun _ => rfl) (wg rfl rfl (gt k9)) rfl ?_
      refine WO.q (.ptv (v := .bool _) rfl k9 rfl) rfl rfl ?_
      refine WO.q (.as (v := .int _ _) rfl) rfl rfl ?_
      refine WO.q (.as (v := .bool _) rfl) rfl rfl ?_
      refine WO.nil ?_
      obtain rfl := Option.some.inj h
      exact WX.ret (rs_ (rs_tmp rfl (rs_tmp rfl rs_nil))) fun st hp => ⟨(hp.pk [] (by decide)).le hB, rfl⟩
    · have q_k9 := of_decide_eq_false k9
      replace h := (if_neg q_k9).symm.trans h
      refine WO.sd (wg rfl rfl (gtn k9)) rfl ?_
      refine WO.sd (wg rfl rfl (gtn k9)) rfl ?_
      refine WO.sd (wg rfl rfl (gtn k9)) rfl ?_
      refine WO.sd (wg rfl rfl (gtn k9)) rfl ?_
      refine WO.sd (wg rfl rfl (gtn k9)) rfl ?_
      refine WO.sd (wg rfl rfl (gtn k9)) rfl ?_
      refine WO.sd (wg rfl rfl (gtn k9)) rfl ?_
      refine WO.sd (wg rfl rfl (gtn k9)) rfl ?_
      refine WO.q (.pfv (v := .bool _) rfl k9 rfl) rfl rfl ?_
      refine WO.q (.as (v := .int _ _) rfl) rfl rfl ?_
      refine WO.q (.as (v := .bool _) rfl) rfl rfl ?_
      refine WO.nil ?_
      obtain rfl := Option.some.inj h
      exact WX.ret (rs_ (rs_tmp rfl (rs_tmp rfl rs_nil))) fun st hp => ⟨(hp.pk [] (by decide)).le hB, rfl⟩
def alloc_Set_Give_1_P (B : Kn) (L : Own) (r : Int) : AV → St → Prop := CS B L fun v => v = .int .i64 r
theorem alloc_Set_Give_1_ok {B0 : Kn} {L : Own} {a0 : Int × Int} {a1 : Int} {r : Int} (h : alloc_Set_Give_1 a0 a1 = some r) : ∀ st, Hp B0 L st → ASpec Try.prog 76 [.agg [.int .i64 a0.1, .int .i64 a0.2], .int .i64 a1] st (alloc_Set_Give_1_P B0 L r) := by
  unfold alloc_Set_Give_1 at h
  refine bodyA (A := []) Try.func76 rfl (c := bodyOf Try.f76) rfl Try.ntmps76 (lb rfl) fun n0 => ?_
  have hB := KLe.refl B0
  refine WX.seq ?_
  refine WX.reg ?_
  refine WO.md (MOp.box (cA rfl)) rfl rfl ?_
  rintro _ _ ⟨b1, rfl, rfl⟩
  refine WO.q (.as (v := .int _ _) rfl) rfl rfl ?_
  refine WO.nil ?_
  refine WX.seq ?_
  refine WX.reg ?_
  refine WO.q (.fa (fa35_0 _ _)) rfl rfl ?_
  refine WO.q (.ldS (i := 0) rfl rfl rfl ti3 rfl) rfl rfl ?_
  refine WO.q (.mv (v := .int _ _) rfl) rfl rfl ?_
  refine WO.q (.r fun _ => rfl) rfl rfl ?_
  refine WO.q (.as (v := .int _ _) rfl) rfl rfl ?_
  refine WO.nil ?_
  obtain rfl := Option.some.inj h
  exact WX.ret (rs_ (rs_tmp rfl rs_nil)) fun st hp => ⟨(hp.pk [] (by decide)).le hB, rfl⟩
end Gab
