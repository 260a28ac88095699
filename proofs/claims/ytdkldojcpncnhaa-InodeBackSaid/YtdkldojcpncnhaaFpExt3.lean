/- The Go code comes to what the Lean functions say. Written by a program (gp.py). -/
import Derived.Test.YtdkldojcpncnhaaFd
import Derived.Test.YtdkldojcpncnhaaTy
import Derived.Test.YtdkldojcpncnhaaFpExt0
import Derived.Test.YtdkldojcpncnhaaFpExt1
import Derived.Test.YtdkldojcpncnhaaFpExt2
set_option linter.unusedSimpArgs false
set_option linter.unusedVariables false
set_option maxHeartbeats 4000000
set_option maxRecDepth 100000
namespace Gab
open Go Go.Proofs
def ext_List_Fill_P (B : Kn) (L : Own) (r : (List (Int × Int)) × Int) : AV → St → Prop := C0 B L fun B' v => ∃ w0, v = .tup [w0, .int .i64 r.2] ∧ RSl EPIi64Ii64Q B' w0 r.1
def ext_List_Fill_j1_I (B0 : Kn) (x0 : List (Int × Int)) (x1 : Int) (x44 : Bool) (zb5 : Int × Int) : Fr → Kn → Own → Prop := fun fr B A => KLe B0 B ∧ ∃ b5 v6, RSl EPIi64Ii64Q B v6 x0 ∧ fr = [(0, v6), (1, .int .i64 x1), (5, .ptr b5 0), (44, .bool x44)] ∧ A = [(b5, some [.int .i64 zb5.1, .int .i64 zb5.2])]
theorem ext_List_Fill_j1_ok {B0 : Kn} {L : Own} {n0 : Nat} {x0 : List (Int × Int)} {x1 : Int} {x44 : Bool} {zb5 : Int × Int} {r : (List (Int × Int)) × Int} (h : ext_List_Fill_j1 x0 x1 x44 zb5 = some r) : WXI Try.prog 70 n0 (Fin Try.prog Try.f30.results.toList n0 (ext_List_Fill_P B0 L r)) [.code (ct [1, 0, 1] (bodyOf Try.f30)), .code (ct [1, 1] (bodyOf Try.f30))] (ext_List_Fill_j1_I B0 x0 x1 x44 zb5) L := by
  unfold ext_List_Fill_j1 at h
  rintro _ B _ ⟨hB, b5, v6, h6, rfl, rfl⟩
  obtain ⟨_, _, _, _, _, rfl⟩ := h6.isl
  rcases bsp x44 with k7 | k7
  · replace h := (if_pos k7).symm.trans h
    refine WX.condT rfl k7 ?_
    refine WX.seq ?_
    refine WX.reg ?_
    refine WO.q (.as (v := .sl _ _ _ _ _ _) rfl) rfl rfl ?_
    refine WO.q (.as (v := .int _ _) rfl) rfl rfl ?_
    refine WO.nil ?_
    obtain rfl := Option.some.inj h
    exact WX.ret (rs_ (rs_tmp rfl (rs_tmp rfl rs_nil))) fun st hp => ⟨_, hB, (hp.pk [] (by decide)), .sl 0 0 0 0 0 true, rfl, (RSl.nil _ _)⟩
  · replace h := (if_neg (bnt k7)).symm.trans h
    refine WX.condF rfl k7 ?_
    refine WX.skip ?_
    refine WX.seq ?_
    refine WX.reg ?_
    refine WO.q (.mv (v := .sl _ _ _ _ _ _) rfl) rfl rfl ?_
    refine WO.q (.mv (v := .int _ _) rfl) rfl rfl ?_
    obtain ⟨y8, hy8, h⟩ := Option.bind_eq_some_iff.1 h
    refine WO.c2 rfl rfl (ext_List_split_ok h6 hy8) rfl rfl rfl ?_
    rintro _ B _ _ hK ⟨v9, b10, n11, c12, v14, b15, n16, c17, rfl, rfl, h13, rfl, h18⟩
    obtain ⟨_, _, _, _, _, rfl⟩ := h13.isl
    obtain ⟨_, _, _, _, _, rfl⟩ := h18.isl
    replace h6 := h6.up hK
    replace hB := hB.trans hK
    refine WO.q (.mv (v := .tup _) rfl) rfl rfl ?_
    refine WO.q (.r fun _ => rfl) rfl rfl ?_
    refine WO.q (.r fun _ => rfl) rfl rfl ?_
    refine WO.q (.as (v := .sl _ _ _ _ _ _) rfl) rfl rfl ?_
    refine WO.q (.as (v := .sl _ _ _ _ _ _) rfl) rfl rfl ?_
    refine WO.nil ?_
    refine WX.seq ?_
    refine WX.reg ?_
    refine WO.q (.mv (v := .sl _ _ _ _ _ _) rfl) rfl rfl ?_
    refine WO.q (.fa (fa35_1 _ _)) rfl rfl ?_
    refine WO.q (.ldS (i := 2) rfl rfl rfl ti3 rfl) rfl rfl ?_
    refine WO.fz (j := 1) h18 rfl ?_
    intro B hK g19
    replace h13 := h13.up hK
    replace hB := hB.trans hK
    obtain ⟨y20, hy20, h⟩ := Option.bind_eq_some_iff.1 h
    refine WO.c2 rfl rfl (ext_List_split_ok g19 hy20) rfl rfl rfl ?_
    rintro _ B _ _ hK ⟨v21, b22, n23, c24, v26, b27, n28, c29, rfl, rfl, h25, rfl, h30⟩
    obtain ⟨_, _, _, _, _, rfl⟩ := h25.isl
    obtain ⟨_, _, _, _, _, rfl⟩ := h30.isl
    replace g19 := g19.up hK
    replace h13 := h13.up hK
    replace hB := hB.trans hK
    refine WO.q (.mv (v := .tup _) rfl) rfl rfl ?_
    refine WO.q (.r fun _ => rfl) rfl rfl ?_
    refine WO.q (.r fun _ => rfl) rfl rfl ?_
    refine WO.q (.as (v := .sl _ _ _ _ _ _) rfl) rfl rfl ?_
    refine WO.q (.as (v := .sl _ _ _ _ _ _) rfl) rfl rfl ?_
    refine WO.nil ?_
    refine WX.seq ?_
    refine WX.seq ?_
    refine WX.reg ?_
    refine WO.q (.mv (v := .sl _ _ _ _ _ _) rfl) rfl rfl ?_
    obtain ⟨y31, hy31, h⟩ := Option.bind_eq_some_iff.1 h
    refine WO.cS rfl rfl (lendC (j := 0) h25 rfl fun _ K33 g32 => ext_List_Held_ok g32 hy31) rfl rfl rfl ?_
    rintro _ rfl
    refine WO.q (.r fun _ => rfl) rfl rfl ?_
    refine WO.nil ?_
    rcases bsp (decide (0 < y31)) with k34 | k34
    · have q_k34 := of_decide_eq_true k34
      replace h := (if_pos q_k34).symm.trans h
      refine WX.condT rfl k34 ?_
      refine WX.seq ?_
      refine WX.reg ?_
      refine WO.q (.as (v := .sl _ _ _ _ _ _) rfl) rfl rfl ?_
      refine WO.q (.as (v := .int _ _) rfl) rfl rfl ?_
      refine WO.nil ?_
      obtain rfl := Option.some.inj h
      exact WX.ret (rs_ (rs_tmp rfl (rs_tmp rfl rs_nil))) fun st hp => ⟨_, hB, (hp.pk [] (by decide)), .sl 0 0 0 0 0 true, rfl, (RSl.nil _ _)⟩
    · have q_k34 := of_decide_eq_false k34
      replace h := (if_neg q_k34).symm.trans h
      refine WX.condF rfl k34 ?_
      refine WX.skip ?_
      refine WX.seq ?_
      refine WX.reg ?_
      refine WO.q (.mv (v := .sl _ _ _ _ _ _) rfl) rfl rfl ?_
      refine WO.q (.ldA (i := 3) rfl rfl rfl ti35 rfl) rfl rfl ?_
      refine WO.md (MOp.bs (l := ([zb5] : List (Int × Int))) sl44 (RL.cons (Rp Ri Ri) RL.nil) (lb rfl) rfl rfl) rfl rfl ?_
      rintro v37 _ ⟨b35, o36, rfl⟩
      obtain ⟨_, _, _, _, _, rfl⟩ := o36.isl
      refine WO.q (.mv (v := .sl _ _ _ _ _ _) rfl) rfl rfl ?_
      refine WO.fz (j := 3) h13 rfl ?_
      intro B hK g39
      replace h30 := h30.up hK
      replace h25 := h25.up hK
      replace o36 := o36.up hK
      replace hB := hB.trans hK
      refine WO.fz (j := 0) o36 rfl ?_
      intro B hK g40
      replace g39 := g39.up hK
      replace h30 := h30.up hK
      replace h25 := h25.up hK
      replace hB := hB.trans hK
      refine WO.fz (j := 1) h30 rfl ?_
      intro B hK g41
      replace g39 := g39.up hK
      replace g40 := g40.up hK
      replace h25 := h25.up hK
      replace hB := hB.trans hK
      refine WO.md (MOp.bs (l := ([y8.1, [zb5], y20.2] : List (List (Int × Int)))) sl124 (RL.cons (Rl g39) (RL.cons (Rl g40) (RL.cons (Rl g41) RL.nil))) (lb rfl) rfl rfl) rfl rfl ?_
      rintro v44 _ ⟨b42, o43, rfl⟩
      obtain ⟨_, _, _, _, _, rfl⟩ := o43.isl
      refine WO.fz (j := 0) o43 rfl ?_
      intro B hK g46
      replace g39 := g39.up hK
      replace g41 := g41.up hK
      replace g40 := g40.up hK
      replace h25 := h25.up hK
      replace hB := hB.trans hK
      obtain ⟨y47, hy47, h⟩ := Option.bind_eq_some_iff.1 h
      refine WO.c1 rfl rfl (ext_together_ok g46 hy47) rfl rfl rfl ?_
      rintro _ B _ hK ⟨v48, b49, n50, c51, rfl, rfl, h52⟩
      obtain ⟨_, _, _, _, _, rfl⟩ := h52.isl
      replace g39 := g39.up hK
      replace g41 := g41.up hK
      replace g40 := g40.up hK
      replace g46 := g46.up hK
      replace h25 := h25.up hK
      replace hB := hB.trans hK
      refine WO.fz (j := 0) h52 rfl ?_
      intro B hK g53
      replace g39 := g39.up hK
      replace g41 := g41.up hK
      replace g40 := g40.up hK
      replace g46 := g46.up hK
      replace h25 := h25.up hK
      replace hB := hB.trans hK
      obtain ⟨y54, hy54, h⟩ := Option.bind_eq_some_iff.1 h
      refine WO.c0 rfl rfl (ext_checked_ok g53 hy54) rfl rfl rfl ?_
      rintro _ B hK ⟨v55, rfl, h56⟩
      obtain ⟨_, _, _, _, _, rfl⟩ := h56.isl
      replace g39 := g39.up hK
      replace g41 := g41.up hK
      replace g40 := g40.up hK
      replace g46 := g46.up hK
      replace g53 := g53.up hK
      replace h25 := h25.up hK
      replace hB := hB.trans hK
      refine WO.q (.r fun _ => rfl) rfl rfl ?_
      refine WO.q (.r fun _ => rfl) rfl rfl ?_
      refine WO.q (.as (v := .sl _ _ _ _ _ _) rfl) rfl rfl ?_
      refine WO.q (.as (v := .int _ _) rfl) rfl rfl ?_
      refine WO.nil ?_
      obtain rfl := Option.some.inj h
      exact WX.ret (rs_ (rs_tmp rfl (rs_tmp rfl rs_nil))) fun st hp => ⟨_, hB, (hp.pk [] (by decide)), _, rfl, h56⟩
theorem ext_List_Fill_ok {B0 : Kn} {L : Own} {a0 : List (Int × Int)} {a1 : Int} {a2 : Int × Int} {v0_0 : AV} {r : (List (Int × Int)) × Int} (g0_0 : RSl EPIi64Ii64Q B0 v0_0 a0) (h : ext_List_Fill a0 a1 a2 = some r) : ∀ st, Hp B0 L st → ASpec Try.prog 30 [v0_0, .int .i64 a1, .agg [.int .i64 a2.1, .int .i64 a2.2]] st (ext_List_Fill_P B0 L r) := by
  unfold ext_List_Fill at h
  refine bodyA (A := []) Try.func30 rfl (c := bodyOf Try.f30) rfl Try.ntmps30 (lb rfl) fun n0 => ?_
  have hB := KLe.refl B0
  obtain ⟨_, _, _, _, _, rfl⟩ := g0_0.isl
  refine WX.seq ?_
  refine WX.reg ?_
  refine WO.md (MOp.box (cA rfl)) rfl rfl ?_
  rintro _ _ ⟨b1, rfl, rfl⟩
  refine WO.q (.as (v := .sl _ _ _ _ _ _) rfl) rfl rfl ?_
  refine WO.q (.as (v := .int _ _) rfl) rfl rfl ?_
  refine WO.nil ?_
  refine WX.seq ?_
  refine WX.seq ?_
  refine WX.drw (Plan.of [0, 1, 2, 3, 4, 5, 6, 7, 8, 9, 10, 11, 12, 13, 14, 15, 16, 17, 18, 19, 20, 21, 22, 23, 24, 25, 26, 28, 29, 27, 30, 31, 32] .nil) _ mixed (by kernel_rfl) rfl (pk_sub [0]) ?_
  refine WP.q (i := 0) rfl (.mv (v := .sl _ _ _ _ _ _) rfl) rfl rfl rfl ?_
  obtain ⟨y2, hy2, h⟩ := Option.bind_eq_some_iff.1 h
  refine WP.cS (i := 1) rfl rfl rfl (ext_List_Right_ok g0_0 hy2) rfl rfl rfl ?_
  rintro _ rfl
  refine WP.q (i := 2) rfl (.r fun _ => rfl) rfl rfl rfl ?_
  refine WP.q (i := 3) rfl (.mv (v := .bool _) rfl) rfl rfl rfl ?_
  rcases bsp y2 with k3 | k3
  · replace h := (if_pos k3).symm.trans h
    refine WP.q (i := 4) rfl (.fa (fa35_0 _ _)) rfl (wg rfl rfl (gf (f_not k3))) rfl ?_
    refine WP.q (i := 5) rfl (.ldS (i := 0) rfl rfl rfl ti3 rfl) rfl (wg rfl rfl (gf (f_not k3))) rfl ?_
    refine WP.q (i := 6) rfl (.r fun _ => rfl) rfl (wg rfl rfl (gf (f_not k3))) rfl ?_
    refine WP.q (i := 7) rfl (.pfv (v := .bool _) rfl (f_not k3) rfl) rfl rfl rfl ?_
    refine WP.q (i := 8) rfl (.mv (v := .bool _) rfl) rfl rfl rfl ?_
    rcases bsp (decide (a2.1 < 0)) with k4 | k4
    · have q_k4 := of_decide_eq_true k4
      replace h := (if_pos q_k4).symm.trans h
      refine WP.sk (i := 9) rfl rfl (wg rfl rfl (gfn k4)) rfl ?_
      refine WP.sk (i := 10) rfl rfl (wg rfl rfl (gfn k4)) rfl ?_
      refine WP.sk (i := 11) rfl rfl (wg rfl rfl (gfn k4)) rfl ?_
      refine WP.q (i := 12) rfl (.ptv (v := .bool _) rfl k4 rfl) rfl rfl rfl ?_
      refine WP.q (i := 13) rfl (.mv (v := .bool _) rfl) rfl rfl rfl ?_
      refine WP.sk (i := 14) rfl rfl (wg rfl rfl (gfn rfl)) rfl ?_
      refine WP.sk (i := 15) rfl rfl (wg rfl rfl (gfn rfl)) rfl ?_
      refine WP.q (i := 16) rfl (.ptv (v := .bool _) rfl rfl rfl) rfl rfl rfl ?_
      refine WP.q (i := 17) rfl (.mv (v := .bool _) rfl) rfl rfl rfl ?_
      refine WP.sk (i := 18) rfl rfl (wg rfl rfl (gfn rfl)) rfl ?_
      refine WP.sk (i := 19) rfl rfl (wg rfl rfl (gfn rfl)) rfl ?_
      refine WP.sk (i := 20) rfl rfl (wg rfl rfl (gfn rfl)) rfl ?_
      refine WP.sd (i := 21) rfl rfl (wg rfl rfl (gfn rfl)) rfl ?_
      refine WP.sk (i := 22) rfl rfl (wg rfl rfl (gfn rfl)) rfl ?_
      refine WP.q (i := 23) rfl (.ptv (v := .bool _) rfl rfl rfl) rfl rfl rfl ?_
      refine WP.q (i := 24) rfl (.mv (v := .bool _) rfl) rfl rfl rfl ?_
      refine WP.sk (i := 25) rfl rfl (wg rfl rfl (gfn rfl)) rfl ?_
      refine WP.sk (i := 26) rfl rfl (wg rfl rfl (gfn rfl)) rfl ?_
      refine WP.sk (i := 28) rfl rfl (wg rfl rfl (gfn rfl)) rfl ?_
      refine WP.sk (i := 29) rfl rfl (wg rfl rfl (gfn rfl)) rfl ?_
      refine WP.sd (i := 27) rfl rfl (wg rfl rfl (gfn rfl)) rfl ?_
      refine WP.sk (i := 30) rfl rfl (wg rfl rfl (gfn rfl)) rfl ?_
      refine WP.sk (i := 31) rfl rfl (wg rfl rfl (gfn rfl)) rfl ?_
      refine WP.q (i := 32) rfl (.ptv (v := .bool _) rfl rfl rfl) rfl rfl rfl ?_
      refine WP.nil ?_
      refine WX.keep [0, 1, 5, 44] (WX.pk [0] (by decide) ?_) rfl
      exact ext_List_Fill_j1_ok h _ _ _ ⟨hB, _, _, g0_0, rfl, rfl⟩
    · have q_k4 := of_decide_eq_false k4
      replace h := (if_neg q_k4).symm.trans h
      refine WP.q (i := 9) rfl (.fa (fa35_1 _ _)) rfl (wg rfl rfl (gf k4)) rfl ?_
      refine WP.q (i := 10) rfl (.ldS (i := 0) rfl rfl rfl ti3 rfl) rfl (wg rfl rfl (gf k4)) rfl ?_
      refine WP.q (i := 11) rfl (.r fun _ => rfl) rfl (wg rfl rfl (gf k4)) rfl ?_
      refine WP.q (i := 12) rfl (.pfv (v := .bool _) rfl k4 rfl) rfl rfl rfl ?_
      refine WP.q (i := 13) rfl (.mv (v := .bool _) rfl) rfl rfl rfl ?_
      rcases bsp (decide (a2.2 < 1)) with k57 | k57
      · have q_k57 := of_decide_eq_true k57
        replace h := (if_pos q_k57).symm.trans h
        refine WP.sk (i := 14) rfl rfl (wg rfl rfl (gfn k57)) rfl ?_
        refine WP.sk (i := 15) rfl rfl (wg rfl rfl (gfn k57)) rfl ?_
        refine WP.q (i := 16) rfl (.ptv (v := .bool _) rfl k57 rfl) rfl rfl rfl ?_
        refine WP.q (i := 17) rfl (.mv (v := .bool _) rfl) rfl rfl rfl ?_
        refine WP.sk (i := 18) rfl rfl (wg rfl rfl (gfn rfl)) rfl ?_
        refine WP.sk (i := 19) rfl rfl (wg rfl rfl (gfn rfl)) rfl ?_
        refine WP.sk (i := 20) rfl rfl (wg rfl rfl (gfn rfl)) rfl ?_
        refine WP.sd (i := 21) rfl rfl (wg rfl rfl (gfn rfl)) rfl ?_
        refine WP.sk (i := 22) rfl rfl (wg rfl rfl (gfn rfl)) rfl ?_
        refine WP.q (i := 23) rfl (.ptv (v := .bool _) rfl rfl rfl) rfl rfl rfl ?_
        refine WP.q (i := 24) rfl (.mv (v := .bool _) rfl) rfl rfl rfl ?_
        refine WP.sk (i := 25) rfl rfl (wg rfl rfl (gfn rfl)) rfl ?_
        refine WP.sk (i := 26) rfl rfl (wg rfl rfl (gfn rfl)) rfl ?_
        refine WP.sk (i := 28) rfl rfl (wg rfl rfl (gfn rfl)) rfl ?_
        refine WP.sk (i := 29) rfl rfl (wg rfl rfl (gfn rfl)) rfl ?_
        refine WP.sd (i := 27) rfl rfl (wg rfl rfl (gfn rfl)) rfl ?_
        refine WP.sk (i := 30) rfl rfl (wg rfl rfl (gfn rfl)) rfl ?_
        refine WP.sk (i := 31) rfl rfl (wg rfl rfl (gfn rfl)) rfl ?_
        refine WP.q (i := 32) rfl (.ptv (v := .bool _) rfl rfl rfl) rfl rfl rfl ?_
        refine WP.nil ?_
        refine WX.keep [0, 1, 5, 44] (WX.pk [0] (by decide) ?_) rfl
        exact ext_List_Fill_j1_ok h _ _ _ ⟨hB, _, _, g0_0, rfl, rfl⟩
      · have q_k57 := of_decide_eq_false k57
        replace h := (if_neg q_k57).symm.trans h
        refine WP.q (i := 14) rfl (.mv (v := .int _ _) rfl) rfl (wg rfl rfl (gf k57)) rfl ?_
        refine WP.q (i := 15) rfl (.r fun _ => rfl) rfl (wg rfl rfl (gf k57)) rfl ?_
        refine WP.q (i := 16) rfl (.pfv (v := .bool _) rfl k57 rfl) rfl rfl rfl ?_
        refine WP.q (i := 17) rfl (.mv (v := .bool _) rfl) rfl rfl rfl ?_
        rcases bsp (decide (a1 < 0)) with k58 | k58
        · have q_k58 := of_decide_eq_true k58
          replace h := (if_pos q_k58).symm.trans h
          refine WP.sk (i := 18) rfl rfl (wg rfl rfl (gfn k58)) rfl ?_
          refine WP.sk (i := 19) rfl rfl (wg rfl rfl (gfn k58)) rfl ?_
          refine WP.sk (i := 20) rfl rfl (wg rfl rfl (gfn k58)) rfl ?_
          refine WP.sd (i := 21) rfl rfl (wg rfl rfl (gfn k58)) rfl ?_
          refine WP.sk (i := 22) rfl rfl (wg rfl rfl (gfn k58)) rfl ?_
          refine WP.q (i := 23) rfl (.ptv (v := .bool _) rfl k58 rfl) rfl rfl rfl ?_
          refine WP.q (i := 24) rfl (.mv (v := .bool _) rfl) rfl rfl rfl ?_
          refine WP.sk (i := 25) rfl rfl (wg rfl rfl (gfn rfl)) rfl ?_
          refine WP.sk (i := 26) rfl rfl (wg rfl rfl (gfn rfl)) rfl ?_
          refine WP.sk (i := 28) rfl rfl (wg rfl rfl (gfn rfl)) rfl ?_
          refine WP.sk (i := 29) rfl rfl (wg rfl rfl (gfn rfl)) rfl ?_
          refine WP.sd (i := 27) rfl rfl (wg rfl rfl (gfn rfl)) rfl ?_
          refine WP.sk (i := 30) rfl rfl (wg rfl rfl (gfn rfl)) rfl ?_
          refine WP.sk (i := 31) rfl rfl (wg rfl rfl (gfn rfl)) rfl ?_
          refine WP.q (i := 32) rfl (.ptv (v := .bool _) rfl rfl rfl) rfl rfl rfl ?_
          refine WP.nil ?_
          refine WX.keep [0, 1, 5, 44] (WX.pk [0] (by decide) ?_) rfl
          exact ext_List_Fill_j1_ok h _ _ _ ⟨hB, _, _, g0_0, rfl, rfl⟩
        · have q_k58 := of_decide_eq_false k58
          replace h := (if_neg q_k58).symm.trans h
          refine WP.q (i := 18) rfl (.fa (fa35_1 _ _)) rfl (wg rfl rfl (gf k58)) rfl ?_
          refine WP.q (i := 19) rfl (.ldS (i := 0) rfl rfl rfl ti3 rfl) rfl (wg rfl rfl (gf k58)) rfl ?_
          refine WP.q (i := 20) rfl (.mv (v := .sl _ _ _ _ _ _) rfl) rfl (wg rfl rfl (gf k58)) rfl ?_
          obtain ⟨y59, hy59, h⟩ := Option.bind_eq_some_iff.1 h
          refine WP.cS (i := 21) rfl rfl rfl (ext_List_Blocks_ok g0_0 hy59) rfl (wg rfl rfl (gf k58)) rfl ?_
          rintro _ rfl
          refine WP.q (i := 22) rfl (.r fun _ => rfl) rfl (wg rfl rfl (gf k58)) rfl ?_
          refine WP.q (i := 23) rfl (.pfv (v := .bool _) rfl k58 rfl) rfl rfl rfl ?_
          refine WP.q (i := 24) rfl (.mv (v := .bool _) rfl) rfl rfl rfl ?_
          rcases bsp (decide (y59 < a2.2)) with k60 | k60
          · have q_k60 := of_decide_eq_true k60
            replace h := (if_pos q_k60).symm.trans h
            refine WP.sk (i := 25) rfl rfl (wg rfl rfl (gfn k60)) rfl ?_
            refine WP.sk (i := 26) rfl rfl (wg rfl rfl (gfn k60)) rfl ?_
            refine WP.sk (i := 28) rfl rfl (wg rfl rfl (gfn k60)) rfl ?_
            refine WP.sk (i := 29) rfl rfl (wg rfl rfl (gfn k60)) rfl ?_
            refine WP.sd (i := 27) rfl rfl (wg rfl rfl (gfn k60)) rfl ?_
            refine WP.sk (i := 30) rfl rfl (wg rfl rfl (gfn k60)) rfl ?_
            refine WP.sk (i := 31) rfl rfl (wg rfl rfl (gfn k60)) rfl ?_
            refine WP.q (i := 32) rfl (.ptv (v := .bool _) rfl k60 rfl) rfl rfl rfl ?_
            refine WP.nil ?_
            refine WX.keep [0, 1, 5, 44] (WX.pk [0] (by decide) ?_) rfl
            exact ext_List_Fill_j1_ok h _ _ _ ⟨hB, _, _, g0_0, rfl, rfl⟩
          · have q_k60 := of_decide_eq_false k60
            replace h := (if_neg q_k60).symm.trans h
            refine WP.q (i := 25) rfl (.mv (v := .int _ _) rfl) rfl (wg rfl rfl (gf k60)) rfl ?_
            refine WP.q (i := 26) rfl (.mv (v := .sl _ _ _ _ _ _) rfl) rfl (wg rfl rfl (gf k60)) rfl ?_
            refine WP.q (i := 28) rfl (.fa (fa35_1 _ _)) rfl (wg rfl rfl (gf k60)) rfl ?_
            refine WP.q (i := 29) rfl (.ldS (i := 0) rfl rfl rfl ti3 rfl) rfl (wg rfl rfl (gf k60)) rfl ?_
            obtain ⟨y61, hy61, h⟩ := Option.bind_eq_some_iff.1 h
            refine WP.cS (i := 27) rfl rfl rfl (ext_List_Blocks_ok g0_0 hy61) rfl (wg rfl rfl (gf k60)) rfl ?_
            rintro _ rfl
            refine WP.q (i := 30) rfl (.r fun _ => rfl) rfl (wg rfl rfl (gf k60)) rfl ?_
            refine WP.q (i := 31) rfl (.r fun _ => rfl) rfl (wg rfl rfl (gf k60)) rfl ?_
            refine WP.q (i := 32) rfl (.pfv (v := .bool _) rfl k60 rfl) rfl rfl rfl ?_
            refine WP.nil ?_
            refine WX.keep [0, 1, 5, 44] (WX.pk [0] (by decide) ?_) rfl
            exact ext_List_Fill_j1_ok h _ _ _ ⟨hB, _, _, g0_0, rfl, rfl⟩
  · replace h := (if_neg (bnt k3)).symm.trans h
    refine WP.sk (i := 4) rfl rfl (wg rfl rfl (gfn (t_not k3))) rfl ?_
    refine WP.sk (i := 5) rfl rfl (wg rfl rfl (gfn (t_not k3))) rfl ?_
    refine WP.sk (i := 6) rfl rfl (wg rfl rfl (gfn (t_not k3))) rfl ?_
    refine WP.q (i := 7) rfl (.ptv (v := .bool _) rfl (t_not k3) rfl) rfl rfl rfl ?_
    refine WP.q (i := 8) rfl (.mv (v := .bool _) rfl) rfl rfl rfl ?_
    refine WP.sk (i := 9) rfl rfl (wg rfl rfl (gfn rfl)) rfl ?_
    refine WP.sk (i := 10) rfl rfl (wg rfl rfl (gfn rfl)) rfl ?_
    refine WP.sk (i := 11) rfl rfl (wg rfl rfl (gfn rfl)) rfl ?_
    refine WP.q (i := 12) rfl (.ptv (v := .bool _) rfl rfl rfl) rfl rfl rfl ?_
    refine WP.q (i := 13) rfl (.mv (v := .bool _) rfl) rfl rfl rfl ?_
    refine WP.sk (i := 14) rfl rfl (wg rfl rfl (gfn rfl)) rfl ?_
    refine WP.sk (i := 15) rfl rfl (wg rfl rfl (gfn rfl)) rfl ?_
    refine WP.q (i := 16) rfl (.ptv (v := .bool _) rfl rfl rfl) rfl rfl rfl ?_
    refine WP.q (i := 17) rfl (.mv (v := .bool _) rfl) rfl rfl rfl ?_
    refine WP.sk (i := 18) rfl rfl (wg rfl rfl (gfn rfl)) rfl ?_
    refine WP.sk (i := 19) rfl rfl (wg rfl rfl (gfn rfl)) rfl ?_
    refine WP.sk (i := 20) rfl rfl (wg rfl rfl (gfn rfl)) rfl ?_
    refine WP.sd (i := 21) rfl rfl (wg rfl rfl (gfn rfl)) rfl ?_
    refine WP.sk (i := 22) rfl rfl (wg rfl rfl (gfn rfl)) rfl ?_
    refine WP.q (i := 23) rfl (.ptv (v := .bool _) rfl rfl rfl) rfl rfl rfl ?_
    refine WP.q (i := 24) rfl (.mv (v := .bool _) rfl) rfl rfl rfl ?_
    refine WP.sk (i := 25) rfl rfl (wg rfl rfl (gfn rfl)) rfl ?_
    refine WP.sk (i := 26) rfl rfl (wg rfl rfl (gfn rfl)) rfl ?_
    refine WP.sk (i := 28) rfl rfl (wg rfl rfl (gfn rfl)) rfl ?_
    refine WP.sk (i := 29) rfl rfl (wg rfl rfl (gfn rfl)) rfl ?_
    refine WP.sd (i := 27) rfl rfl (wg rfl rfl (gfn rfl)) rfl ?_
    refine WP.sk (i := 30) rfl rfl (wg rfl rfl (gfn rfl)) rfl ?_
    refine WP.sk (i := 31) rfl rfl (wg rfl rfl (gfn rfl)) rfl ?_
    refine WP.q (i := 32) rfl (.ptv (v := .bool _) rfl rfl rfl) rfl rfl rfl ?_
    refine WP.nil ?_
    refine WX.keep [0, 1, 5, 44] (WX.pk [0] (by decide) ?_) rfl
    exact ext_List_Fill_j1_ok h _ _ _ ⟨hB, _, _, g0_0, rfl, rfl⟩
def slices_IndexFunc_ext_List_alloc_Extent_P (B : Kn) (L : Own) (r : Int) : AV → St → Prop := CS B L fun v => v = .int .i64 r
def slices_IndexFunc_ext_List_alloc_Extent_l0_I (B0 : Kn) (fg1 : Nat) (fc1 : List AV) (x0 : List (Int × Int)) (x8 : Int) : Fr → Kn → Own → Prop := fun fr B A => KLe B0 B ∧ ∃ v1, RSl EPIi64Ii64Q B v1 x0 ∧ fr = [(0, v1), (1, .fn (.func fg1) [] fc1), (7, .int .i64 (x0.length : Int)), (8, .int .i64 x8)] ∧ A = []
def slices_IndexFunc_ext_List_alloc_Extent_l0_X0 (B0 : Kn) (fg1 : Nat) (fc1 : List AV) : Fr → Kn → Own → Prop := fun fr B A => KLe B0 B ∧ fr = [] ∧ A = []
theorem slices_IndexFunc_ext_List_alloc_Extent_l0_s {B0 : Kn} {L : Own} {n0 : Nat} {fg1 : Nat} {fc1 : List AV} {a1 : (Int × Int) → Option Bool} {x0 : List (Int × Int)} {x8 : Int} {Q : AV → St → Prop} {E : Int ⊕ (Int ⊕ Unit) → Prop} {o : Int ⊕ (Int ⊕ Unit)} (h : slices_IndexFunc_ext_List_alloc_Extent_l0 a1 x0 x8 = some o) (hf1 : ∀ (x0 : Int × Int) (r : Bool), a1 x0 = some r → ∀ B, KLe B0 B → ∀ Lx st, Hp B (Lx ++ L) st → ASpec Try.prog fg1 ([.agg [.int .i64 x0.1, .int .i64 x0.2]] ++ fc1) st (CS B (Lx ++ L) fun v => v = .bool r)) (hn : ∀ s, E (.inl s) → WXI Try.prog 19 n0 (Fin Try.prog Try.f88.results.toList n0 Q) [.lp (ct [1, 0, 1, 0, 0] (bodyOf Try.f88)), .blk 0, .code (ct [1, 1] (bodyOf Try.f88))] (slices_IndexFunc_ext_List_alloc_Extent_l0_I B0 fg1 fc1 x0 s) L) (hx0 : ∀ s, E (.inr (.inr s)) → WXI Try.prog 19 n0 (Fin Try.prog Try.f88.results.toList n0 Q) [.code (ct [1, 1] (bodyOf Try.f88))] (slices_IndexFunc_ext_List_alloc_Extent_l0_X0 B0 fg1 fc1) L) (hr : ∀ r, E (.inr (.inl r)) → ∀ v st, slices_IndexFunc_ext_List_alloc_Extent_P B0 L r v st → Q v st) (hE : E o) : WXI Try.prog 19 n0 (Fin Try.prog Try.f88.results.toList n0 Q) [.code (ct [1, 0, 1, 0, 0] (bodyOf Try.f88)), .lp (ct [1, 0, 1, 0, 0] (bodyOf Try.f88)), .blk 0, .code (ct [1, 1] (bodyOf Try.f88))] (slices_IndexFunc_ext_List_alloc_Extent_l0_I B0 fg1 fc1 x0 x8) L := by
  unfold slices_IndexFunc_ext_List_alloc_Extent_l0 at h
  rintro _ B _ ⟨hB, v1, h1, rfl, rfl⟩
  obtain ⟨_, _, _, _, _, rfl⟩ := h1.isl
  refine WX.seq ?_
  refine WX.reg ?_
  refine WO.q (.r fun _ => rfl) rfl rfl ?_
  refine WO.nil ?_
  refine WX.seq ?_
  rcases bsp (decide (x8 < (x0.length : Int))) with k2 | k2
  · have q_k2 := of_decide_eq_true k2
    replace h := (if_pos q_k2).symm.trans h
    refine WX.condT rfl k2 ?_
    refine WX.skip ?_
    refine WX.seq ?_
    refine WX.block ?_
    refine WX.seq ?_
    refine WX.reg ?_
    refine WO.q (.mv (v := .int _ _) rfl) rfl rfl ?_
    refine WO.q (.as (v := .int _ _) rfl) rfl rfl ?_
    refine WO.nil ?_
    refine WX.seq ?_
    refine WX.reg ?_
    refine WO.q (.mv (v := .fn _ _ _) rfl) rfl rfl ?_
    refine WO.q (.mv (v := .sl _ _ _ _ _ _) rfl) rfl rfl ?_
    refine WO.q (.mv (v := .int _ _) rfl) rfl rfl ?_
    obtain ⟨y3, hy3, h⟩ := Option.bind_eq_some_iff.1 h
    obtain ⟨b_y3, o_y3, _, i_y3, p_y3, r_y3⟩ := h1.at sl44 hy3 .i64
    obtain ⟨_, _, rfl, rfl, rfl⟩ := r_y3
    refine WO.q (.ia i_y3) rfl rfl ?_
    refine WO.q (.lpA rfl p_y3 ti35 rfl rfl) rfl rfl ?_
    obtain ⟨y4, hy4, h⟩ := Option.bind_eq_some_iff.1 h
    refine WO.cS rfl rfl (hf1 _ _  hy4 _ hB _) rfl rfl rfl ?_
    rintro _ rfl
    refine WO.nil ?_
    rcases bsp y4 with k5 | k5
    · replace h := (if_pos k5).symm.trans h
      refine WX.condT rfl k5 ?_
      refine WX.seq ?_
      refine WX.reg ?_
      refine WO.q (.mv (v := .int _ _) rfl) rfl rfl ?_
      refine WO.q (.as (v := .int _ _) rfl) rfl rfl ?_
      refine WO.nil ?_
      obtain rfl := Option.some.inj h
      exact WX.ret (rs_ (rs_tmp rfl rs_nil)) fun st hp => hr _ hE _ _ ⟨(hp.pk [] (by decide)).le hB, rfl⟩
    · replace h := (if_neg (bnt k5)).symm.trans h
      refine WX.condF rfl k5 ?_
      refine WX.skip ?_
      refine WX.pop ?_
      refine WX.reg ?_
      refine WO.q (.r fun _ => rfl) rfl rfl ?_
      refine WO.q (.mv (v := .int _ _) rfl) rfl rfl ?_
      refine WO.nil ?_
      refine WX.keepL [0, 1, 7, 8] (WX.pk [] (by decide) ?_) rfl
      obtain rfl := Option.some.inj h
      exact hn _ hE _ _ _ ⟨hB, _, h1, rfl, rfl⟩
  · have q_k2 := of_decide_eq_false k2
    replace h := (if_neg q_k2).symm.trans h
    refine WX.condF rfl k2 ?_
    refine WX.exit rfl ?_
    refine WX.keep [] (WX.pk [] (by decide) ?_) rfl
    obtain rfl := Option.some.inj h
    exact hx0 _ hE _ _ _ ⟨hB, rfl, rfl⟩
theorem slices_IndexFunc_ext_List_alloc_Extent_l0_ok {B0 : Kn} {L : Own} {n0 : Nat} {fg1 : Nat} {fc1 : List AV} {a1 : (Int × Int) → Option Bool} {x0 : List (Int × Int)} {x8 : Int} {Q : AV → St → Prop} {d : Nat} {e : Int ⊕ Unit} (h : iter (fun (s : Int) => slices_IndexFunc_ext_List_alloc_Extent_l0 a1 x0 s) d x8 = some e) (hf1 : ∀ (x0 : Int × Int) (r : Bool), a1 x0 = some r → ∀ B, KLe B0 B → ∀ Lx st, Hp B (Lx ++ L) st → ASpec Try.prog fg1 ([.agg [.int .i64 x0.1, .int .i64 x0.2]] ++ fc1) st (CS B (Lx ++ L) fun v => v = .bool r)) (g0 : ∀ r, e = (.inl r) → ∀ v st, slices_IndexFunc_ext_List_alloc_Extent_P B0 L r v st → Q v st) (g1 : ∀ s, e = (.inr s) → WXI Try.prog 19 n0 (Fin Try.prog Try.f88.results.toList n0 Q) [.code (ct [1, 1] (bodyOf Try.f88))] (slices_IndexFunc_ext_List_alloc_Extent_l0_X0 B0 fg1 fc1) L) : WXI Try.prog 19 n0 (Fin Try.prog Try.f88.results.toList n0 Q) [.code (ct [1, 0, 1, 0, 0] (bodyOf Try.f88)), .lp (ct [1, 0, 1, 0, 0] (bodyOf Try.f88)), .blk 0, .code (ct [1, 1] (bodyOf Try.f88))] (slices_IndexFunc_ext_List_alloc_Extent_l0_I B0 fg1 fc1 x0 x8) L :=
  iter_ok (I := fun s => slices_IndexFunc_ext_List_alloc_Extent_l0_I B0 fg1 fc1 x0 s) (D := fun e => (∀ r, e = (.inl r) → ∀ v st, slices_IndexFunc_ext_List_alloc_Extent_P B0 L r v st → Q v st) ∧ (∀ s, e = (.inr s) → WXI Try.prog 19 n0 (Fin Try.prog Try.f88.results.toList n0 Q) [.code (ct [1, 1] (bodyOf Try.f88))] (slices_IndexFunc_ext_List_alloc_Extent_l0_X0 B0 fg1 fc1) L)) (fun E hn hx s o ho hE => slices_IndexFunc_ext_List_alloc_Extent_l0_s ho hf1 hn (fun s hs => (hx _ hs).2 _ rfl) (fun r hs => (hx _ hs).1 _ rfl) hE) h ⟨g0, g1⟩
theorem slices_IndexFunc_ext_List_alloc_Extent_ok {B0 : Kn} {L : Own} {fg1 : Nat} {fc1 : List AV} {a1 : (Int × Int) → Option Bool} {a0 : List (Int × Int)} {v0_0 : AV} {r : Int} (hf1 : ∀ (x0 : Int × Int) (r : Bool), a1 x0 = some r → ∀ B, KLe B0 B → ∀ Lx st, Hp B (Lx ++ L) st → ASpec Try.prog fg1 ([.agg [.int .i64 x0.1, .int .i64 x0.2]] ++ fc1) st (CS B (Lx ++ L) fun v => v = .bool r)) (g0_0 : RSl EPIi64Ii64Q B0 v0_0 a0) (h : slices_IndexFunc_ext_List_alloc_Extent a0 a1 = some r) : ∀ st, Hp B0 L st → ASpec Try.prog 88 [v0_0, .fn (.func fg1) [] fc1] st (slices_IndexFunc_ext_List_alloc_Extent_P B0 L r) := by
  unfold slices_IndexFunc_ext_List_alloc_Extent at h
  refine bodyA (A := []) Try.func88 rfl (c := bodyOf Try.f88) rfl Try.ntmps88 (lb rfl) fun n0 => ?_
  have hB := KLe.refl B0
  obtain ⟨_, _, _, _, _, rfl⟩ := g0_0.isl
  refine WX.seq ?_
  refine WX.reg ?_
  refine WO.q (.as (v := .int _ _) rfl) rfl rfl ?_
  refine WO.nil ?_
  refine WX.seq ?_
  refine WX.seq ?_
  refine WX.reg ?_
  refine WO.q (.mv (v := .sl _ _ _ _ _ _) rfl) rfl rfl ?_
  refine WO.q (.len rfl rfl rfl (sl44.len g0_0.isl)) rfl rfl ?_
  refine WO.q (.mv (v := .int _ _) rfl) rfl rfl ?_
  refine WO.nil ?_
  refine WX.block ?_
  refine WX.loop ?_
  obtain ⟨e6, he6, h⟩ := Option.bind_eq_some_iff.1 h
  refine WX.keep [0, 1, 7, 8] (WX.pk [] (by decide) ?_) rfl
  refine slices_IndexFunc_ext_List_alloc_Extent_l0_ok he6 hf1 ?_ ?_ _ _ _ ⟨hB, _, g0_0, rfl, rfl⟩
  · intro r8 he_
    subst he_
    replace h := (on_l h)
    obtain rfl := Option.some.inj h
    exact fun v st hp => hp
  · intro x9 he_
    subst he_
    replace h := (on_r h)
    rintro _ B _ ⟨hB, rfl, rfl⟩
    refine WX.seq ?_
    refine WX.reg ?_
    refine WO.q (.as (v := .int _ _) rfl) rfl rfl ?_
    refine WO.nil ?_
    obtain rfl := Option.some.inj h
    exact WX.ret (rs_ (rs_tmp rfl rs_nil)) fun st hp => ⟨(hp.pk [] (by decide)).le hB, rfl⟩
end Gab
