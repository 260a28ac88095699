/- The Go code comes to what the Lean functions say. Written by a program (gp.py). -/
import Derived.Test.YtdkldojcpncnhaaFd
import Derived.Test.YtdkldojcpncnhaaTy
import Derived.Test.YtdkldojcpncnhaaFpRef010
set_option linter.unusedSimpArgs false
set_option linter.unusedVariables false
set_option maxHeartbeats 4000000
set_option maxRecDepth 100000
namespace Gab
open Go Go.Proofs
def gabionref15_joins_P (B : Kn) (L : Own) (r : Bool) : AV → St → Prop := CS B L fun v => v = .bool r
def gabionref15_joins_j1_I (B0 : Kn) (x12 : Bool) (zb2 : Int × Int) (zb3 : Int × Int) : Fr → Kn → Own → Prop := fun fr B A => KLe B0 B ∧ ∃ b4 b5, fr = [(2, .ptr b4 0), (3, .ptr b5 0), (12, .bool x12)] ∧ A = [(b4, some [.int .i64 zb2.1, .int .i64 zb2.2]), (b5, some [.int .i64 zb3.1, .int .i64 zb3.2])]
theorem gabionref15_joins_j1_ok {B0 : Kn} {L : Own} {n0 : Nat} {x12 : Bool} {zb2 : Int × Int} {zb3 : Int × Int} {r : Bool} (h : gabionref15_joins_j1 x12 zb2 zb3 = some r) : WXI Try.prog 29 n0 (Fin Try.prog Try.f68.results.toList n0 (gabionref15_joins_P B0 L r)) [.code (ct [1, 0, 1] (bodyOf Try.f68)), .code (ct [1, 1] (bodyOf Try.f68))] (gabionref15_joins_j1_I B0 x12 zb2 zb3) L := by
  unfold gabionref15_joins_j1 at h
  rintro _ B _ ⟨hB, b4, b5, rfl, rfl⟩
  rcases bsp x12 with k6 | k6
  · replace h := (if_pos k6).symm.trans h
    refine WX.condT rfl k6 ?_
    refine WX.seq ?_
    refine WX.reg ?_
    refine WO.q (.ia (ia41_0 _ _)) rfl rfl ?_
    refine WO.q (.ldS (i := 0) rfl rfl rfl ti3 rfl) rfl rfl ?_
    refine WO.q (.r fun _ => rfl) rfl rfl ?_
    refine WO.q (.mv (v := .bool _) rfl) rfl rfl ?_
    rcases bsp (decide (zb2.1 = (-1))) with k7 | k7
    · have q_k7 := of_decide_eq_true k7
      replace h := (if_pos q_k7).symm.trans h
      refine WO.q (.ia (ia41_0 _ _)) (wg rfl rfl (gt k7)) rfl ?_
      refine WO.q (.ldS (i := 1) rfl rfl rfl ti3 rfl) (wg rfl rfl (gt k7)) rfl ?_
      refine WO.q (.r fun _ => rfl) (wg rfl rfl (gt k7)) rfl ?_
      refine WO.q (.ptv (v := .bool _) rfl k7 rfl) rfl rfl ?_
      refine WO.q (.as (v := .bool _) rfl) rfl rfl ?_
      refine WO.nil ?_
      obtain rfl := Option.some.inj h
      exact WX.ret (rs_ (rs_tmp rfl rs_nil)) fun st hp => ⟨(hp.pk [] (by decide)).le hB, rfl⟩
    · have q_k7 := of_decide_eq_false k7
      replace h := (if_neg q_k7).symm.trans h
      refine WO.sd (wg rfl rfl (gtn k7)) rfl ?_
      refine WO.sd (wg rfl rfl (gtn k7)) rfl ?_
      refine WO.sd (wg rfl rfl (gtn k7)) rfl ?_
      refine WO.q (.pfv (v := .bool _) rfl k7 rfl) rfl rfl ?_
      refine WO.q (.as (v := .bool _) rfl) rfl rfl ?_
      refine WO.nil ?_
      obtain rfl := Option.some.inj h
      exact WX.ret (rs_ (rs_tmp rfl rs_nil)) fun st hp => ⟨(hp.pk [] (by decide)).le hB, rfl⟩
  · replace h := (if_neg (bnt k6)).symm.trans h
    refine WX.condF rfl k6 ?_
    refine WX.skip ?_
    refine WX.seq ?_
    refine WX.reg ?_
    refine WO.q (.ia (ia41_0 _ _)) rfl rfl ?_
    refine WO.q (.ldS (i := 0) rfl rfl rfl ti3 rfl) rfl rfl ?_
    refine WO.q (.ia (ia41_1 _ _)) rfl rfl ?_
    refine WO.q (.ldS (i := 0) rfl rfl rfl ti3 rfl) rfl rfl ?_
    refine WO.q (.r fun _ => rfl) rfl rfl ?_
    refine WO.q (.ia (ia41_0 _ _)) rfl rfl ?_
    refine WO.q (.ldS (i := 1) rfl rfl rfl ti3 rfl) rfl rfl ?_
    refine WO.q (.r fun _ => rfl) rfl rfl ?_
    refine WO.q (.as (v := .bool _) rfl) rfl rfl ?_
    refine WO.nil ?_
    obtain rfl := Option.some.inj h
    exact WX.ret (rs_ (rs_tmp rfl rs_nil)) fun st hp => ⟨(hp.pk [] (by decide)).le hB, rfl⟩
theorem gabionref15_joins_ok {B0 : Kn} {L : Own} {a0 : Int × Int} {a1 : Int × Int} {r : Bool} (h : gabionref15_joins a0 a1 = some r) : ∀ st, Hp B0 L st → ASpec Try.prog 68 [.agg [.int .i64 a0.1, .int .i64 a0.2], .agg [.int .i64 a1.1, .int .i64 a1.2]] st (gabionref15_joins_P B0 L r) := by
  unfold gabionref15_joins at h
  refine bodyA (A := []) Try.func68 rfl (c := bodyOf Try.f68) rfl Try.ntmps68 (lb rfl) fun n0 => ?_
  have hB := KLe.refl B0
  refine WX.seq ?_
  refine WX.reg ?_
  refine WO.md (MOp.box (cA rfl)) rfl rfl ?_
  rintro _ _ ⟨b1, rfl, rfl⟩
  refine WO.md (MOp.box (cA rfl)) rfl rfl ?_
  rintro _ _ ⟨b2, rfl, rfl⟩
  refine WO.q (.as (v := .bool _) rfl) rfl rfl ?_
  refine WO.nil ?_
  refine WX.seq ?_
  refine WX.seq ?_
  refine WX.reg ?_
  refine WO.q (.ia (ia41_0 _ _)) rfl rfl ?_
  refine WO.q (.ldS (i := 1) rfl rfl rfl ti3 rfl) rfl rfl ?_
  refine WO.q (.r fun _ => rfl) rfl rfl ?_
  refine WO.q (.mv (v := .bool _) rfl) rfl rfl ?_
  rcases bsp (decide (a0.1 = (-1))) with k3 | k3
  · have q_k3 := of_decide_eq_true k3
    replace h := (if_pos q_k3).symm.trans h
    refine WO.sd (wg rfl rfl (gfn k3)) rfl ?_
    refine WO.sd (wg rfl rfl (gfn k3)) rfl ?_
    refine WO.sd (wg rfl rfl (gfn k3)) rfl ?_
    refine WO.q (.ptv (v := .bool _) rfl k3 rfl) rfl rfl ?_
    refine WO.nil ?_
    refine WX.keep [2, 3, 12] (WX.pk [1, 0] (by decide) ?_) rfl
    exact gabionref15_joins_j1_ok h _ _ _ ⟨hB, _, _, rfl, rfl⟩
  · have q_k3 := of_decide_eq_false k3
    replace h := (if_neg q_k3).symm.trans h
    refine WO.q (.ia (ia41_0 _ _)) (wg rfl rfl (gf k3)) rfl ?_
    refine WO.q (.ldS (i := 0) rfl rfl rfl ti3 rfl) (wg rfl rfl (gf k3)) rfl ?_
    refine WO.q (.r fun _ => rfl) (wg rfl rfl (gf k3)) rfl ?_
    refine WO.q (.pfv (v := .bool _) rfl k3 rfl) rfl rfl ?_
    refine WO.nil ?_
    refine WX.keep [2, 3, 12] (WX.pk [1, 0] (by decide) ?_) rfl
    exact gabionref15_joins_j1_ok h _ _ _ ⟨hB, _, _, rfl, rfl⟩
def gabionref15_Runs_P (B : Kn) (L : Own) (r : (List (Int × Int))) : AV → St → Prop := C1 B L fun B' v e0 => ∃ w0 b0 n0 c0, v = w0 ∧ e0 = oe b0 n0 c0 ∧ OSl EPIi64Ii64Q B' w0 b0 n0 c0 r
def gabionref15_Runs_j10_I (B0 : Kn) (x0 : List Int) (x3 : List (Int × Int)) (x4 : Int) : Fr → Kn → Own → Prop := fun fr B A => KLe B0 B ∧ ∃ v13 v14 b14 n14 c14, RSl (Ty.int .i64) B v13 x0 ∧ OSl EPIi64Ii64Q B v14 b14 n14 c14 x3 ∧ fr = [(0, v13), (3, v14), (4, .int .i64 x4)] ∧ A = [oe b14 n14 c14]
def gabionref15_Runs_j11_I (B0 : Kn) (x0 : List Int) (x3 : List (Int × Int)) (x4 : Int) : Fr → Kn → Own → Prop := fun fr B A => KLe B0 B ∧ ∃ v15 v16 b16 n16 c16, RSl (Ty.int .i64) B v15 x0 ∧ OSl EPIi64Ii64Q B v16 b16 n16 c16 x3 ∧ fr = [(0, v15), (3, v16), (4, .int .i64 x4)] ∧ A = [oe b16 n16 c16]
def gabionref15_Runs_l0_I (B0 : Kn) (x0 : List Int) (x3 : List (Int × Int)) (x4 : Int) : Fr → Kn → Own → Prop := fun fr B A => KLe B0 B ∧ ∃ v1 v2 b2 n2 c2, RSl (Ty.int .i64) B v1 x0 ∧ OSl EPIi64Ii64Q B v2 b2 n2 c2 x3 ∧ fr = [(0, v1), (3, v2), (4, .int .i64 x4)] ∧ A = [oe b2 n2 c2]
def gabionref15_Runs_l0_X0 (B0 : Kn) (x3 : List (Int × Int)) : Fr → Kn → Own → Prop := fun fr B A => KLe B0 B ∧ ∃ v31 b31 n31 c31, OSl EPIi64Ii64Q B v31 b31 n31 c31 x3 ∧ fr = [(3, v31)] ∧ A = [oe b31 n31 c31]
theorem gabionref15_Runs_j10_ok {B0 : Kn} {L : Own} {n0 : Nat} {x0 : List Int} {x3 : List (Int × Int)} {x4 : Int} {Q : AV → St → Prop} {E : ((List (Int × Int)) × Int) ⊕ (List (Int × Int)) → Prop} {o : ((List (Int × Int)) × Int) ⊕ (List (Int × Int))} (h : gabionref15_Runs_j10 x0 x3 x4 = some o) (hn : ∀ s, E (.inl s) → WXI Try.prog 47 n0 (Fin Try.prog Try.f67.results.toList n0 Q) [.lp (ct [1, 1, 0, 1, 0, 0] (bodyOf Try.f67)), .blk 0, .code (ct [1, 1, 1] (bodyOf Try.f67))] (gabionref15_Runs_l0_I B0 x0 s.1 s.2) L) (hx0 : ∀ s, E (.inr s) → WXI Try.prog 47 n0 (Fin Try.prog Try.f67.results.toList n0 Q) [.code (ct [1, 1, 1] (bodyOf Try.f67))] (gabionref15_Runs_l0_X0 B0 s) L) (hE : E o) : WXI Try.prog 47 n0 (Fin Try.prog Try.f67.results.toList n0 Q) [.code (ct [1, 1, 0, 1, 0, 0, 1, 1] (bodyOf Try.f67)), .lp (ct [1, 1, 0, 1, 0, 0] (bodyOf Try.f67)), .blk 0, .code (ct [1, 1, 1] (bodyOf Try.f67))] (gabionref15_Runs_j10_I B0 x0 x3 x4) L := by
  unfold gabionref15_Runs_j10 at h
  rintro _ B _ ⟨hB, v13, v14, b14, n14, c14, h13, h14, rfl, rfl⟩
  obtain ⟨_, _, _, _, _, rfl⟩ := h13.isl
  obtain ⟨_, _, _, _, _, rfl⟩ := h14.isl
  refine WX.reg ?_
  refine WO.q (.mv (v := .int _ _) rfl) rfl rfl ?_
  refine WO.q (.r fun _ => rfl) rfl rfl ?_
  refine WO.q (.as (v := .int _ _) rfl) rfl rfl ?_
  refine WO.nil ?_
  refine WX.keepL [0, 3, 4] (WX.pk [0] (by decide) ?_) rfl
  obtain rfl := Option.some.inj h
  exact hn _ hE _ _ _ ⟨hB, _, _, _, n14, _, h13, h14, rfl, rfl⟩
theorem gabionref15_Runs_j11_ok {B0 : Kn} {L : Own} {n0 : Nat} {x0 : List Int} {x3 : List (Int × Int)} {x4 : Int} {Q : AV → St → Prop} {E : ((List (Int × Int)) × Int) ⊕ (List (Int × Int)) → Prop} {o : ((List (Int × Int)) × Int) ⊕ (List (Int × Int))} (h : gabionref15_Runs_j11 x0 x3 x4 = some o) (hn : ∀ s, E (.inl s) → WXI Try.prog 47 n0 (Fin Try.prog Try.f67.results.toList n0 Q) [.lp (ct [1, 1, 0, 1, 0, 0] (bodyOf Try.f67)), .blk 0, .code (ct [1, 1, 1] (bodyOf Try.f67))] (gabionref15_Runs_l0_I B0 x0 s.1 s.2) L) (hx0 : ∀ s, E (.inr s) → WXI Try.prog 47 n0 (Fin Try.prog Try.f67.results.toList n0 Q) [.code (ct [1, 1, 1] (bodyOf Try.f67))] (gabionref15_Runs_l0_X0 B0 s) L) (hE : E o) : WXI Try.prog 47 n0 (Fin Try.prog Try.f67.results.toList n0 Q) [.code (ct [1, 1, 0, 1, 0, 0, 1, 0, 0, 1, 1] (bodyOf Try.f67)), .blk 1, .code (ct [1, 1, 0, 1, 0, 0, 1, 1] (bodyOf Try.f67)), .lp (ct [1, 1, 0, 1, 0, 0] (bodyOf Try.f67)), .blk 0, .code (ct [1, 1, 1] (bodyOf Try.f67))] (gabionref15_Runs_j11_I B0 x0 x3 x4) L := by
  unfold gabionref15_Runs_j11 at h
  rintro _ B _ ⟨hB, v15, v16, b16, n16, c16, h15, h16, rfl, rfl⟩
  obtain ⟨_, _, _, _, _, rfl⟩ := h15.isl
  obtain ⟨_, _, _, _, _, rfl⟩ := h16.isl
  refine WX.reg ?_
  refine WO.q (.mv (v := .sl _ _ _ _ _ _) rfl) rfl rfl ?_
  refine WO.q (.mv (v := .sl _ _ _ _ _ _) rfl) rfl rfl ?_
  refine WO.q (.mv (v := .int _ _) rfl) rfl rfl ?_
  obtain ⟨y17, hy17, h⟩ := Option.bind_eq_some_iff.1 h
  obtain ⟨b_y17, o_y17, _, i_y17, p_y17, r_y17⟩ := h15.at sl22 hy17 .i64
  obtain rfl := r_y17
  refine WO.q (.ia i_y17) rfl rfl ?_
  refine WO.q (.lp0 rfl p_y17 rfl ti3 rfl) rfl rfl ?_
  refine WO.q (.bd (bd41_0_1 (cI rfl) (cI rfl))) rfl rfl ?_
  refine WO.md (MOp.bs (l := ([((y17, 1) : Int × Int)] : List (Int × Int))) sl40 (RL.cons (Rp Ri Ri) RL.nil) (lb rfl) rfl rfl) rfl rfl ?_
  rintro v20 _ ⟨b18, o19, rfl⟩
  obtain ⟨_, _, _, _, _, rfl⟩ := o19.isl
  obtain ⟨y22, hy22, h⟩ := Option.bind_eq_some_iff.1 h
  refine WO.md (MOp.app rfl rfl rfl sl40 h16 (Src.o (i := 0) sl40 o19 rfl) hy22 rfl rfl (fun _ => (.t .h))) rfl rfl ?_
  rintro v26 _ ⟨b23, n24, o25, rfl⟩
  obtain ⟨_, _, _, _, _, rfl⟩ := o25.isl
  refine WO.q (.as (v := .sl _ _ _ _ _ _) rfl) rfl rfl ?_
  refine WO.nil ?_
  refine WX.pop ?_
  refine WX.keep [0, 3, 4] (WX.pk [1] (by decide) ?_) rfl
  exact gabionref15_Runs_j10_ok h hn hx0 hE _ _ _ ⟨hB, _, _, _, n24, _, h15, o25, rfl, rfl⟩
theorem gabionref15_Runs_l0_s {B0 : Kn} {L : Own} {n0 : Nat} {x0 : List Int} {x3 : List (Int × Int)} {x4 : Int} {Q : AV → St → Prop} {E : ((List (Int × Int)) × Int) ⊕ (List (Int × Int)) → Prop} {o : ((List (Int × Int)) × Int) ⊕ (List (Int × Int))} (h : gabionref15_Runs_l0 x0 x3 x4 = some o) (hn : ∀ s, E (.inl s) → WXI Try.prog 47 n0 (Fin Try.prog Try.f67.results.toList n0 Q) [.lp (ct [1, 1, 0, 1, 0, 0] (bodyOf Try.f67)), .blk 0, .code (ct [1, 1, 1] (bodyOf Try.f67))] (gabionref15_Runs_l0_I B0 x0 s.1 s.2) L) (hx0 : ∀ s, E (.inr s) → WXI Try.prog 47 n0 (Fin Try.prog Try.f67.results.toList n0 Q) [.code (ct [1, 1, 1] (bodyOf Try.f67))] (gabionref15_Runs_l0_X0 B0 s) L) (hE : E o) : WXI Try.prog 47 n0 (Fin Try.prog Try.f67.results.toList n0 Q) [.code (ct [1, 1, 0, 1, 0, 0] (bodyOf Try.f67)), .lp (ct [1, 1, 0, 1, 0, 0] (bodyOf Try.f67)), .blk 0, .code (ct [1, 1, 1] (bodyOf Try.f67))] (gabionref15_Runs_l0_I B0 x0 x3 x4) L := by
  unfold gabionref15_Runs_l0 at h
  rintro _ B _ ⟨hB, v1, v2, b2, n2, c2, h1, h2, rfl, rfl⟩
  obtain ⟨_, _, _, _, _, rfl⟩ := h1.isl
  obtain ⟨_, _, _, _, _, rfl⟩ := h2.isl
  refine WX.seq ?_
  refine WX.seq ?_
  refine WX.reg ?_
  refine WO.q (.mv (v := .int _ _) rfl) rfl rfl ?_
  refine WO.q (.mv (v := .sl _ _ _ _ _ _) rfl) rfl rfl ?_
  refine WO.q (.len rfl rfl rfl (sl22.len h1.isl)) rfl rfl ?_
  refine WO.q (.r fun _ => rfl) rfl rfl ?_
  refine WO.nil ?_
  rcases bsp (decide (x4 < (x0.length : Int))) with k3 | k3
  · have q_k3 := of_decide_eq_true k3
    replace h := (if_pos q_k3).symm.trans h
    refine WX.condT rfl k3 ?_
    refine WX.skip ?_
    refine WX.seq ?_
    refine WX.block ?_
    refine WX.seq ?_
    refine WX.reg ?_
    refine WO.q (.mv (v := .sl _ _ _ _ _ _) rfl) rfl rfl ?_
    refine WO.q (.len rfl rfl rfl (sl40.len h2.isl)) rfl rfl ?_
    refine WO.q (.as (v := .int _ _) rfl) rfl rfl ?_
    refine WO.nil ?_
    refine WX.seq ?_
    refine WX.seq ?_
    refine WX.reg ?_
    refine WO.q (.mv (v := .int _ _) rfl) rfl rfl ?_
    refine WO.q (.r fun _ => rfl) rfl rfl ?_
    refine WO.nil ?_
    rcases bsp (decide (0 < (x3.length : Int))) with k4 | k4
    · have q_k4 := of_decide_eq_true k4
      replace h := (if_pos q_k4).symm.trans h
      refine WX.condT rfl k4 ?_
      refine WX.seq ?_
      refine WX.drw (Plan.of [0, 1, 2, 3, 4, 5, 6, 7, 8, 9, 10, 11] .nil) _ mixed (by kernel_rfl) rfl (pk_sub [0]) ?_
      refine WP.q (i := 0) rfl (.mv (v := .sl _ _ _ _ _ _) rfl) rfl rfl rfl ?_
      refine WP.q (i := 1) rfl (.mv (v := .int _ _) rfl) rfl rfl rfl ?_
      refine WP.q (i := 2) rfl (.r fun _ => rfl) rfl rfl rfl ?_
      obtain ⟨y5, hy5, h⟩ := Option.bind_eq_some_iff.1 h
      obtain rfl := h2.nonnil hy5
      obtain ⟨_, i_y5, l_y5, r_y5⟩ := h2.at sl40 hy5 .i64
      obtain ⟨_, _, rfl, rfl, rfl⟩ := r_y5
      refine WP.q (i := 3) rfl (.ia i_y5) rfl rfl rfl ?_
      refine WP.q (i := 4) rfl (.leA (i := 0) rfl rfl l_y5 ti41 rfl rfl) rfl rfl rfl ?_
      refine WP.q (i := 5) rfl (.mv (v := .sl _ _ _ _ _ _) rfl) rfl rfl rfl ?_
      refine WP.q (i := 6) rfl (.mv (v := .int _ _) rfl) rfl rfl rfl ?_
      obtain ⟨y6, hy6, h⟩ := Option.bind_eq_some_iff.1 h
      obtain ⟨b_y6, o_y6, _, i_y6, p_y6, r_y6⟩ := h1.at sl22 hy6 .i64
      obtain rfl := r_y6
      refine WP.q (i := 7) rfl (.ia i_y6) rfl rfl rfl ?_
      refine WP.q (i := 8) rfl (.lp0 rfl p_y6 rfl ti3 rfl) rfl rfl rfl ?_
      refine WP.q (i := 9) rfl (.bd (bd41_0_1 (cI rfl) (cI rfl))) rfl rfl rfl ?_
      obtain ⟨y7, hy7, h⟩ := Option.bind_eq_some_iff.1 h
      refine WP.cS (i := 10) rfl rfl rfl (gabionref15_joins_ok hy7) rfl rfl rfl ?_
      rintro _ rfl
      refine WP.q (i := 11) rfl (.as (v := .bool _) rfl) rfl rfl rfl ?_
      refine WP.nil ?_
      refine WX.seq ?_
      refine WX.reg ?_
      refine WO.q (.mv (v := .bool _) rfl) rfl rfl ?_
      refine WO.nil ?_
      rcases bsp y7 with k8 | k8
      · replace h := (if_pos k8).symm.trans h
        refine WX.condT rfl k8 ?_
        refine WX.seq ?_
        refine WX.drw (Plan.of [0, 1, 2, 3, 4, 5, 6, 7, 8, 9] .nil) _ mixed (by kernel_rfl) rfl (pk_sub [0]) ?_
        refine WP.q (i := 0) rfl (.mv (v := .sl _ _ _ _ _ _) rfl) rfl rfl rfl ?_
        refine WP.q (i := 1) rfl (.mv (v := .int _ _) rfl) rfl rfl rfl ?_
        refine WP.q (i := 2) rfl (.r fun _ => rfl) rfl rfl rfl ?_
        obtain ⟨y9, hy9, h⟩ := Option.bind_eq_some_iff.1 h
        obtain ⟨_, i_y9, l_y9, r_y9⟩ := h2.at sl40 hy9 .i64
        obtain ⟨_, _, rfl, rfl, rfl⟩ := r_y9
        refine WP.q (i := 3) rfl (.ia i_y9) rfl rfl rfl ?_
        refine WP.q (i := 4) rfl (.ia (ia41_1 _ _)) rfl rfl rfl ?_
        refine WP.q (i := 5) rfl (.ldS (i := 0) rfl rfl (l_y9.g rfl) ti3 rfl) rfl rfl rfl ?_
        refine WP.q (i := 6) rfl (.r fun _ => rfl) rfl rfl rfl ?_
        obtain ⟨y10, hy10, h⟩ := Option.bind_eq_some_iff.1 h
        obtain ⟨_, i_y10, l_y10, r_y10⟩ := h2.at sl40 hy10 .i64
        obtain ⟨_, _, rfl, rfl, rfl⟩ := r_y10
        refine WP.q (i := 7) rfl (.ia i_y10) rfl rfl rfl ?_
        refine WP.q (i := 8) rfl (.ia (ia41_1 _ _)) rfl rfl rfl ?_
        refine WP.msn (i := 9) rfl (MOp.ost1 (x' := (y10.1, (wi64 (y9.2 + 1)))) (f := 1) rfl (cI rfl) (fun _ => .h) ti3 rfl rfl h2 hy10 l_y10 (cs' := [.int .i64 y10.1, .int .i64 (wi64 (y9.2 + 1))]) rfl ⟨[_], _, rfl, rfl, rfl⟩) rfl (by kernel_rfl) rfl ?_
        rintro _ _ ⟨c12, o11, rfl⟩
        refine WS.nil ?_
        refine WX.exit rfl ?_
        refine WX.keep [0, 3, 4] (WX.pk [0] (by decide) ?_) rfl
        exact gabionref15_Runs_j10_ok h hn hx0 hE _ _ _ ⟨hB, _, _, _, false, _, h1, o11, rfl, rfl⟩
      · replace h := (if_neg (bnt k8)).symm.trans h
        refine WX.condF rfl k8 ?_
        refine WX.skip ?_
        refine WX.keep [0, 3, 4] (WX.pk [0] (by decide) ?_) rfl
        exact gabionref15_Runs_j11_ok h hn hx0 hE _ _ _ ⟨hB, _, _, _, false, _, h1, h2, rfl, rfl⟩
    · have q_k4 := of_decide_eq_false k4
      replace h := (if_neg q_k4).symm.trans h
      refine WX.condF rfl k4 ?_
      refine WX.skip ?_
      refine WX.keep [0, 3, 4] (WX.pk [0] (by decide) ?_) rfl
      exact gabionref15_Runs_j11_ok h hn hx0 hE _ _ _ ⟨hB, _, _, _, n2, _, h1, h2, rfl, rfl⟩
  · have q_k3 := of_decide_eq_false k3
    replace h := (if_neg q_k3).symm.trans h
    refine WX.condF rfl k3 ?_
    refine WX.exit rfl ?_
    refine WX.keep [3] (WX.pk [0] (by decide) ?_) rfl
    obtain rfl := Option.some.inj h
    exact hx0 _ hE _ _ _ ⟨hB, _, _, n2, _, h2, rfl, rfl⟩
theorem gabionref15_Runs_l0_ok {B0 : Kn} {L : Own} {n0 : Nat} {x0 : List Int} {x3 : List (Int × Int)} {x4 : Int} {Q : AV → St → Prop} {d : Nat} {e : (List (Int × Int))} (h : iter (fun (s : (List (Int × Int)) × Int) => gabionref15_Runs_l0 x0 s.1 s.2) d (x3, x4) = some e) (g0 : ∀ s, e = s → WXI Try.prog 47 n0 (Fin Try.prog Try.f67.results.toList n0 Q) [.code (ct [1, 1, 1] (bodyOf Try.f67))] (gabionref15_Runs_l0_X0 B0 s) L) : WXI Try.prog 47 n0 (Fin Try.prog Try.f67.results.toList n0 Q) [.code (ct [1, 1, 0, 1, 0, 0] (bodyOf Try.f67)), .lp (ct [1, 1, 0, 1, 0, 0] (bodyOf Try.f67)), .blk 0, .code (ct [1, 1, 1] (bodyOf Try.f67))] (gabionref15_Runs_l0_I B0 x0 x3 x4) L :=
  iter_ok (I := fun s => gabionref15_Runs_l0_I B0 x0 s.1 s.2) (D := fun e => (∀ s, e = s → WXI Try.prog 47 n0 (Fin Try.prog Try.f67.results.toList n0 Q) [.code (ct [1, 1, 1] (bodyOf Try.f67))] (gabionref15_Runs_l0_X0 B0 s) L)) (fun E hn hx s o ho hE => gabionref15_Runs_l0_s ho hn (fun s hs => (hx _ hs) _ rfl)  hE) h g0
theorem gabionref15_Runs_ok {B0 : Kn} {L : Own} {a0 : List Int} {v0_0 : AV} {r : (List (Int × Int))} (g0_0 : RSl (Ty.int .i64) B0 v0_0 a0) (h : gabionref15_Runs a0 = some r) : ∀ st, Hp B0 L st → ASpec Try.prog 67 [v0_0] st (gabionref15_Runs_P B0 L r) := by
  unfold gabionref15_Runs at h
  refine bodyA (A := []) Try.func67 rfl (c := bodyOf Try.f67) rfl Try.ntmps67 (lb rfl) fun n0 => ?_
  have hB := KLe.refl B0
  obtain ⟨_, _, _, _, _, rfl⟩ := g0_0.isl
  refine WX.seq ?_
  refine WX.reg ?_
  refine WO.q (.as (v := .sl _ _ _ _ _ _) rfl) rfl rfl ?_
  refine WO.nil ?_
  refine WX.seq ?_
  refine WX.reg ?_
  refine WO.q (.as (v := .sl _ _ _ _ _ _) rfl) rfl rfl ?_
  refine WO.nil ?_
  refine WX.seq ?_
  refine WX.seq ?_
  refine WX.reg ?_
  refine WO.q (.as (v := .int _ _) rfl) rfl rfl ?_
  refine WO.nil ?_
  refine WX.block ?_
  refine WX.loop ?_
  obtain ⟨e28, he28, h⟩ := Option.bind_eq_some_iff.1 h
  refine WX.keep [0, 3, 4] (WX.pk [] (by decide) (WX.addn [0] ?_)) rfl
  refine gabionref15_Runs_l0_ok he28 ?_ _ _ _ ⟨hB, _, _, 0, true, [], g0_0, OSl.none _ _, rfl, rfl⟩
  · intro s30 he_
    subst he_
    replace h := h
    rintro _ B _ ⟨hB, v29, b29, n29, c29, h29, rfl, rfl⟩
    obtain ⟨_, _, _, _, _, rfl⟩ := h29.isl
    refine WX.seq ?_
    refine WX.reg ?_
    refine WO.q (.mv (v := .sl _ _ _ _ _ _) rfl) rfl rfl ?_
    refine WO.q (.as (v := .sl _ _ _ _ _ _) rfl) rfl rfl ?_
    refine WO.nil ?_
    obtain rfl := Option.some.inj h
    exact WX.ret (rs_ (rs_tmp rfl rs_nil)) fun st hp => ⟨_, _, hB, (hp.pk [0] (by decide)), _, _, n29, _, rfl, rfl, h29⟩
def gabionref15_Right_P (B : Kn) (L : Own) (r : Bool) : AV → St → Prop := CS B L fun v => v = .bool r
def gabionref15_Right_j12_I (B0 : Kn) (x0 : List (Int × Int)) (x3 : Int) (x4 : Int) : Fr → Kn → Own → Prop := fun fr B A => KLe B0 B ∧ ∃ v13, RSl EPIi64Ii64Q B v13 x0 ∧ fr = [(0, v13), (3, .int .i64 x3), (4, .int .i64 x4)] ∧ A = []
def gabionref15_Right_j7_I (B0 : Kn) (x0 : List (Int × Int)) (x3 : Int) (x4 : Int) (x44 : Bool) : Fr → Kn → Own → Prop := fun fr B A => KLe B0 B ∧ ∃ v6, RSl EPIi64Ii64Q B v6 x0 ∧ fr = [(0, v6), (3, .int .i64 x3), (4, .int .i64 x4), (44, .bool x44)] ∧ A = []
def gabionref15_Right_l0_I (B0 : Kn) (x0 : List (Int × Int)) (x3 : Int) (x4 : Int) : Fr → Kn → Own → Prop := fun fr B A => KLe B0 B ∧ ∃ v2, RSl EPIi64Ii64Q B v2 x0 ∧ fr = [(0, v2), (3, .int .i64 x3), (4, .int .i64 x4)] ∧ A = []
def gabionref15_Right_l0_X0 (B0 : Kn) (x3 : Int) : Fr → Kn → Own → Prop := fun fr B A => KLe B0 B ∧ fr = [(3, .int .i64 x3)] ∧ A = []
theorem gabionref15_Right_j12_ok {B0 : Kn} {L : Own} {n0 : Nat} {x0 : List (Int × Int)} {x3 : Int} {x4 : Int} {Q : AV → St → Prop} {E : (Int × Int) ⊕ (Bool ⊕ Int) → Prop} {o : (Int × Int) ⊕ (Bool ⊕ Int)} (h : gabionref15_Right_j12 x0 x3 x4 = some o) (hn : ∀ s, E (.inl s) → WXI Try.prog 67 n0 (Fin Try.prog Try.f25.results.toList n0 Q) [.lp (ct [1, 1, 1, 0, 1, 0, 0] (bodyOf Try.f25)), .blk 0, .code (ct [1, 1, 1, 1] (bodyOf Try.f25))] (gabionref15_Right_l0_I B0 x0 s.1 s.2) L) (hx0 : ∀ s, E (.inr (.inr s)) → WXI Try.prog 67 n0 (Fin Try.prog Try.f25.results.toList n0 Q) [.code (ct [1, 1, 1, 1] (bodyOf Try.f25))] (gabionref15_Right_l0_X0 B0 s) L) (hr : ∀ r, E (.inr (.inl r)) → ∀ v st, gabionref15_Right_P B0 L r v st → Q v st) (hE : E o) : WXI Try.prog 67 n0 (Fin Try.prog Try.f25.results.toList n0 Q) [.code (ct [1, 1, 1, 0, 1, 0, 0, 1, 0, 0, 1, 1] (bodyOf Try.f25)), .blk 1, .code (ct [1, 1, 1, 0, 1, 0, 0, 1, 1] (bodyOf Try.f25)), .lp (ct [1, 1, 1, 0, 1, 0, 0] (bodyOf Try.f25)), .blk 0, .code (ct [1, 1, 1, 1] (bodyOf Try.f25))] (gabionref15_Right_j12_I B0 x0 x3 x4) L := by
  unfold gabionref15_Right_j12 at h
  rintro _ B _ ⟨hB, v13, h13, rfl, rfl⟩
  obtain ⟨_, _, _, _, _, rfl⟩ := h13.isl
  refine WX.reg ?_
  refine WO.q (.mv (v := .int _ _) rfl) rfl rfl ?_
  refine WO.q (.mv (v := .sl _ _ _ _ _ _) rfl) rfl rfl ?_
  refine WO.q (.mv (v := .int _ _) rfl) rfl rfl ?_
  obtain ⟨y14, hy14, h⟩ := Option.bind_eq_some_iff.1 h
  obtain ⟨b_y14, o_y14, _, i_y14, p_y14, r_y14⟩ := h13.at sl40 hy14 .i64
  obtain ⟨_, _, rfl, rfl, rfl⟩ := r_y14
  refine WO.q (.ia i_y14) rfl rfl ?_
  refine WO.q (.ia (ia41_1 _ _)) rfl rfl ?_
  refine WO.q (.lpS rfl p_y14 rfl ti3 rfl) rfl rfl ?_
  refine WO.q (.r fun _ => rfl) rfl rfl ?_
  refine WO.q (.as (v := .int _ _) rfl) rfl rfl ?_
  refine WO.nil ?_
  refine WX.pop ?_
  refine WX.reg ?_
  refine WO.q (.mv (v := .int _ _) rfl) rfl rfl ?_
  refine WO.q (.r fun _ => rfl) rfl rfl ?_
  refine WO.q (.as (v := .int _ _) rfl) rfl rfl ?_
  refine WO.nil ?_
  refine WX.keepL [0, 3, 4] (WX.pk [] (by decide) ?_) rfl
  obtain rfl := Option.some.inj h
  exact hn _ hE _ _ _ ⟨hB, _, h13, rfl, rfl⟩
theorem gabionref15_Right_j7_ok {B0 : Kn} {L : Own} {n0 : Nat} {x0 : List (Int × Int)} {x3 : Int} {x4 : Int} {x44 : Bool} {Q : AV → St → Prop} {E : (Int × Int) ⊕ (Bool ⊕ Int) → Prop} {o : (Int × Int) ⊕ (Bool ⊕ Int)} (h : gabionref15_Right_j7 x0 x3 x4 x44 = some o) (hn : ∀ s, E (.inl s) → WXI Try.prog 67 n0 (Fin Try.prog Try.f25.results.toList n0 Q) [.lp (ct [1, 1, 1, 0, 1, 0, 0] (bodyOf Try.f25)), .blk 0, .code (ct [1, 1, 1, 1] (bodyOf Try.f25))] (gabionref15_Right_l0_I B0 x0 s.1 s.2) L) (hx0 : ∀ s, E (.inr (.inr s)) → WXI Try.prog 67 n0 (Fin Try.prog Try.f25.results.toList n0 Q) [.code (ct [1, 1, 1, 1] (bodyOf Try.f25))] (gabionref15_Right_l0_X0 B0 s) L) (hr : ∀ r, E (.inr (.inl r)) → ∀ v st, gabionref15_Right_P B0 L r v st → Q v st) (hE : E o) : WXI Try.prog 67 n0 (Fin Try.prog Try.f25.results.toList n0 Q) [.code (ct [1, 1, 1, 0, 1, 0, 0, 1, 0, 0, 0, 1] (bodyOf Try.f25)), .code (ct [1, 1, 1, 0, 1, 0, 0, 1, 0, 0, 1] (bodyOf Try.f25)), .blk 1, .code (ct [1, 1, 1, 0, 1, 0, 0, 1, 1] (bodyOf Try.f25)), .lp (ct [1, 1, 1, 0, 1, 0, 0] (bodyOf Try.f25)), .blk 0, .code (ct [1, 1, 1, 1] (bodyOf Try.f25))] (gabionref15_Right_j7_I B0 x0 x3 x4 x44) L := by
  unfold gabionref15_Right_j7 at h
  rintro _ B _ ⟨hB, v6, h6, rfl, rfl⟩
  obtain ⟨_, _, _, _, _, rfl⟩ := h6.isl
  rcases bsp x44 with k7 | k7
  · replace h := (if_pos k7).symm.trans h
    refine WX.condT rfl k7 ?_
    refine WX.seq ?_
    refine WX.reg ?_
    refine WO.q (.as (v := .bool _) rfl) rfl rfl ?_
    refine WO.nil ?_
    obtain rfl := Option.some.inj h
    exact WX.ret (rs_ (rs_tmp rfl rs_nil)) fun st hp => hr _ hE _ _ ⟨(hp.pk [] (by decide)).le hB, rfl⟩
  · replace h := (if_neg (bnt k7)).symm.trans h
    refine WX.condF rfl k7 ?_
    refine WX.skip ?_
    refine WX.seq ?_
    refine WX.seq ?_
    refine WX.reg ?_
    refine WO.q (.mv (v := .int _ _) rfl) rfl rfl ?_
    refine WO.q (.r fun _ => rfl) rfl rfl ?_
    refine WO.nil ?_
    rcases bsp (decide (0 < x4)) with k8 | k8
    · have q_k8 := of_decide_eq_true k8
      replace h := (if_pos q_k8).symm.trans h
      refine WX.condT rfl k8 ?_
      refine WX.seq ?_
      refine WX.drw (Plan.of [0, 1, 2, 3, 4, 5, 6, 7, 8, 9, 10] .nil) _ mixed (by kernel_rfl) rfl (pk_sub []) ?_
      refine WP.q (i := 0) rfl (.mv (v := .sl _ _ _ _ _ _) rfl) rfl rfl rfl ?_
      refine WP.q (i := 1) rfl (.mv (v := .int _ _) rfl) rfl rfl rfl ?_
      refine WP.q (i := 2) rfl (.r fun _ => rfl) rfl rfl rfl ?_
      obtain ⟨y9, hy9, h⟩ := Option.bind_eq_some_iff.1 h
      obtain ⟨b_y9, o_y9, _, i_y9, p_y9, r_y9⟩ := h6.at sl40 hy9 .i64
      obtain ⟨_, _, rfl, rfl, rfl⟩ := r_y9
      refine WP.q (i := 3) rfl (.ia i_y9) rfl rfl rfl ?_
      refine WP.q (i := 4) rfl (.lpA rfl p_y9 ti41 rfl rfl) rfl rfl rfl ?_
      refine WP.q (i := 5) rfl (.mv (v := .sl _ _ _ _ _ _) rfl) rfl rfl rfl ?_
      refine WP.q (i := 6) rfl (.mv (v := .int _ _) rfl) rfl rfl rfl ?_
      obtain ⟨y10, hy10, h⟩ := Option.bind_eq_some_iff.1 h
      obtain ⟨b_y10, o_y10, _, i_y10, p_y10, r_y10⟩ := h6.at sl40 hy10 .i64
      obtain ⟨_, _, rfl, rfl, rfl⟩ := r_y10
      refine WP.q (i := 7) rfl (.ia i_y10) rfl rfl rfl ?_
      refine WP.q (i := 8) rfl (.lpA rfl p_y10 ti41 rfl rfl) rfl rfl rfl ?_
      obtain ⟨y11, hy11, h⟩ := Option.bind_eq_some_iff.1 h
      refine WP.cS (i := 9) rfl rfl rfl (gabionref15_joins_ok hy11) rfl rfl rfl ?_
      rintro _ rfl
      refine WP.q (i := 10) rfl (.as (v := .bool _) rfl) rfl rfl rfl ?_
      refine WP.nil ?_
      refine WX.seq ?_
      refine WX.reg ?_
      refine WO.q (.mv (v := .bool _) rfl) rfl rfl ?_
      refine WO.nil ?_
      rcases bsp y11 with k12 | k12
      · replace h := (if_pos k12).symm.trans h
        refine WX.condT rfl k12 ?_
        refine WX.seq ?_
        refine WX.reg ?_
        refine WO.q (.as (v := .bool _) rfl) rfl rfl ?_
        refine WO.nil ?_
        obtain rfl := Option.some.inj h
        exact WX.ret (rs_ (rs_tmp rfl rs_nil)) fun st hp => hr _ hE _ _ ⟨(hp.pk [] (by decide)).le hB, rfl⟩
      · replace h := (if_neg (bnt k12)).symm.trans h
        refine WX.condF rfl k12 ?_
        refine WX.skip ?_
        refine WX.keep [0, 3, 4] (WX.pk [] (by decide) ?_) rfl
        exact gabionref15_Right_j12_ok h hn hx0 hr hE _ _ _ ⟨hB, _, h6, rfl, rfl⟩
    · have q_k8 := of_decide_eq_false k8
      replace h := (if_neg q_k8).symm.trans h
      refine WX.condF rfl k8 ?_
      refine WX.skip ?_
      refine WX.keep [0, 3, 4] (WX.pk [] (by decide) ?_) rfl
      exact gabionref15_Right_j12_ok h hn hx0 hr hE _ _ _ ⟨hB, _, h6, rfl, rfl⟩
theorem gabionref15_Right_l0_s {B0 : Kn} {L : Own} {n0 : Nat} {x0 : List (Int × Int)} {x3 : Int} {x4 : Int} {Q : AV → St → Prop} {E : (Int × Int) ⊕ (Bool ⊕ Int) → Prop} {o : (Int × Int) ⊕ (Bool ⊕ Int)} (h : gabionref15_Right_l0 x0 x3 x4 = some o) (hn : ∀ s, E (.inl s) → WXI Try.prog 67 n0 (Fin Try.prog Try.f25.results.toList n0 Q) [.lp (ct [1, 1, 1, 0, 1, 0, 0] (bodyOf Try.f25)), .blk 0, .code (ct [1, 1, 1, 1] (bodyOf Try.f25))] (gabionref15_Right_l0_I B0 x0 s.1 s.2) L) (hx0 : ∀ s, E (.inr (.inr s)) → WXI Try.prog 67 n0 (Fin Try.prog Try.f25.results.toList n0 Q) [.code (ct [1, 1, 1, 1] (bodyOf Try.f25))] (gabionref15_Right_l0_X0 B0 s) L) (hr : ∀ r, E (.inr (.inl r)) → ∀ v st, gabionref15_Right_P B0 L r v st → Q v st) (hE : E o) : WXI Try.prog 67 n0 (Fin Try.prog Try.f25.results.toList n0 Q) [.code (ct [1, 1, 1, 0, 1, 0, 0] (bodyOf Try.f25)), .lp (ct [1, 1, 1, 0, 1, 0, 0] (bodyOf Try.f25)), .blk 0, .code (ct [1, 1, 1, 1] (bodyOf Try.f25))] (gabionref15_Right_l0_I B0 x0 x3 x4) L := by
  unfold gabionref15_Right_l0 at h
  rintro _ B _ ⟨hB, v2, h2, rfl, rfl⟩
  obtain ⟨_, _, _, _, _, rfl⟩ := h2.isl
  refine WX.seq ?_
  refine WX.seq ?_
  refine WX.reg ?_
  refine WO.q (.mv (v := .int _ _) rfl) rfl rfl ?_
  refine WO.q (.mv (v := .sl _ _ _ _ _ _) rfl) rfl rfl ?_
  refine WO.q (.len rfl rfl rfl (sl40.len h2.isl)) rfl rfl ?_
  refine WO.q (.r fun _ => rfl) rfl rfl ?_
  refine WO.nil ?_
  rcases bsp (decide (x4 < (x0.length : Int))) with k3 | k3
  · have q_k3 := of_decide_eq_true k3
    replace h := (if_pos q_k3).symm.trans h
    refine WX.condT rfl k3 ?_
    refine WX.skip ?_
    refine WX.seq ?_
    refine WX.block ?_
    refine WX.seq ?_
    refine WX.seq ?_
    refine WX.reg ?_
    refine WO.q (.mv (v := .sl _ _ _ _ _ _) rfl) rfl rfl ?_
    refine WO.q (.mv (v := .int _ _) rfl) rfl rfl ?_
    obtain ⟨y4, hy4, h⟩ := Option.bind_eq_some_iff.1 h
    obtain ⟨b_y4, o_y4, _, i_y4, p_y4, r_y4⟩ := h2.at sl40 hy4 .i64
    obtain ⟨_, _, rfl, rfl, rfl⟩ := r_y4
    refine WO.q (.ia i_y4) rfl rfl ?_
    refine WO.q (.ia (ia41_0 _ _)) rfl rfl ?_
    refine WO.q (.lpS rfl p_y4 rfl ti3 rfl) rfl rfl ?_
    refine WO.q (.r fun _ => rfl) rfl rfl ?_
    refine WO.q (.mv (v := .bool _) rfl) rfl rfl ?_
    rcases bsp (decide (y4.1 < (-1))) with k5 | k5
    · have q_k5 := of_decide_eq_true k5
      replace h := (if_pos q_k5).symm.trans h
      refine WO.sd (wg rfl rfl (gfn k5)) rfl ?_
      refine WO.sd (wg rfl rfl (gfn k5)) rfl ?_
      refine WO.sd (wg rfl rfl (gfn k5)) rfl ?_
      refine WO.sd (wg rfl rfl (gfn k5)) rfl ?_
      refine WO.sd (wg rfl rfl (gfn k5)) rfl ?_
      refine WO.sd (wg rfl rfl (gfn k5)) rfl ?_
      refine WO.q (.ptv (v := .bool _) rfl k5 rfl) rfl rfl ?_
      refine WO.q (.mv (v := .bool _) rfl) rfl rfl ?_
      refine WO.sd (wg rfl rfl (gfn rfl)) rfl ?_
      refine WO.sd (wg rfl rfl (gfn rfl)) rfl ?_
      refine WO.sd (wg rfl rfl (gfn rfl)) rfl ?_
      refine WO.sd (wg rfl rfl (gfn rfl)) rfl ?_
      refine WO.sd (wg rfl rfl (gfn rfl)) rfl ?_
      refine WO.sd (wg rfl rfl (gfn rfl)) rfl ?_
      refine WO.q (.ptv (v := .bool _) rfl rfl rfl) rfl rfl ?_
      refine WO.q (.mv (v := .bool _) rfl) rfl rfl ?_
      refine WO.sd (wg rfl rfl (gfn rfl)) rfl ?_
      refine WO.sd (wg rfl rfl (gfn rfl)) rfl ?_
      refine WO.sd (wg rfl rfl (gfn rfl)) rfl ?_
      refine WO.sd (wg rfl rfl (gfn rfl)) rfl ?_
      refine WO.sd (wg rfl rfl (gfn rfl)) rfl ?_
      refine WO.sd (wg rfl rfl (gfn rfl)) rfl ?_
      refine WO.q (.ptv (v := .bool _) rfl rfl rfl) rfl rfl ?_
      refine WO.nil ?_
      refine WX.keep [0, 3, 4, 44] (WX.pk [] (by decide) ?_) rfl
      exact gabionref15_Right_j7_ok h hn hx0 hr hE _ _ _ ⟨hB, _, h2, rfl, rfl⟩
    · have q_k5 := of_decide_eq_false k5
      replace h := (if_neg q_k5).symm.trans h
      refine WO.q (.mv (v := .sl _ _ _ _ _ _) rfl) (wg rfl rfl (gf k5)) rfl ?_
      refine WO.q (.mv (v := .int _ _) rfl) (wg rfl rfl (gf k5)) rfl ?_
      obtain ⟨y15, hy15, h⟩ := Option.bind_eq_some_iff.1 h
      obtain ⟨b_y15, o_y15, _, i_y15, p_y15, r_y15⟩ := h2.at sl40 hy15 .i64
      obtain ⟨_, _, rfl, rfl, rfl⟩ := r_y15
      refine WO.q (.ia i_y15) (wg rfl rfl (gf k5)) rfl ?_
      refine WO.q (.ia (ia41_0 _ _)) (wg rfl rfl (gf k5)) rfl ?_
      refine WO.q (.lpS rfl p_y15 rfl ti3 rfl) (wg rfl rfl (gf k5)) rfl ?_
      refine WO.q (.r fun _ => rfl) (wg rfl rfl (gf k5)) rfl ?_
      refine WO.q (.pfv (v := .bool _) rfl k5 rfl) rfl rfl ?_
      refine WO.q (.mv (v := .bool _) rfl) rfl rfl ?_
      rcases bsp (decide (65536 < y15.1)) with k16 | k16
      · have q_k16 := of_decide_eq_true k16
        replace h := (if_pos q_k16).symm.trans h
        refine WO.sd (wg rfl rfl (gfn k16)) rfl ?_
        refine WO.sd (wg rfl rfl (gfn k16)) rfl ?_
        refine WO.sd (wg rfl rfl (gfn k16)) rfl ?_
        refine WO.sd (wg rfl rfl (gfn k16)) rfl ?_
        refine WO.sd (wg rfl rfl (gfn k16)) rfl ?_
        refine WO.sd (wg rfl rfl (gfn k16)) rfl ?_
        refine WO.q (.ptv (v := .bool _) rfl k16 rfl) rfl rfl ?_
        refine WO.q (.mv (v := .bool _) rfl) rfl rfl ?_
        refine WO.sd (wg rfl rfl (gfn rfl)) rfl ?_
        refine WO.sd (wg rfl rfl (gfn rfl)) rfl ?_
        refine WO.sd (wg rfl rfl (gfn rfl)) rfl ?_
        refine WO.sd (wg rfl rfl (gfn rfl)) rfl ?_
        refine WO.sd (wg rfl rfl (gfn rfl)) rfl ?_
        refine WO.sd (wg rfl rfl (gfn rfl)) rfl ?_
        refine WO.q (.ptv (v := .bool _) rfl rfl rfl) rfl rfl ?_
        refine WO.nil ?_
        refine WX.keep [0, 3, 4, 44] (WX.pk [] (by decide) ?_) rfl
        exact gabionref15_Right_j7_ok h hn hx0 hr hE _ _ _ ⟨hB, _, h2, rfl, rfl⟩
      · have q_k16 := of_decide_eq_false k16
        replace h := (if_neg q_k16).symm.trans h
        refine WO.q (.mv (v := .sl _ _ _ _ _ _) rfl) (wg rfl rfl (gf k16)) rfl ?_
        refine WO.q (.mv (v := .int _ _) rfl) (wg rfl rfl (gf k16)) rfl ?_
        obtain ⟨y17, hy17, h⟩ := Option.bind_eq_some_iff.1 h
        obtain ⟨b_y17, o_y17, _, i_y17, p_y17, r_y17⟩ := h2.at sl40 hy17 .i64
        obtain ⟨_, _, rfl, rfl, rfl⟩ := r_y17
        refine WO.q (.ia i_y17) (wg rfl rfl (gf k16)) rfl ?_
        refine WO.q (.ia (ia41_1 _ _)) (wg rfl rfl (gf k16)) rfl ?_
        refine WO.q (.lpS rfl p_y17 rfl ti3 rfl) (wg rfl rfl (gf k16)) rfl ?_
        refine WO.q (.r fun _ => rfl) (wg rfl rfl (gf k16)) rfl ?_
        refine WO.q (.pfv (v := .bool _) rfl k16 rfl) rfl rfl ?_
        refine WO.q (.mv (v := .bool _) rfl) rfl rfl ?_
        rcases bsp (decide (y17.2 < 1)) with k18 | k18
        · have q_k18 := of_decide_eq_true k18
          replace h := (if_pos q_k18).symm.trans h
          refine WO.sd (wg rfl rfl (gfn k18)) rfl ?_
          refine WO.sd (wg rfl rfl (gfn k18)) rfl ?_
          refine WO.sd (wg rfl rfl (gfn k18)) rfl ?_
          refine WO.sd (wg rfl rfl (gfn k18)) rfl ?_
          refine WO.sd (wg rfl rfl (gfn k18)) rfl ?_
          refine WO.sd (wg rfl rfl (gfn k18)) rfl ?_
          refine WO.q (.ptv (v := .bool _) rfl k18 rfl) rfl rfl ?_
          refine WO.nil ?_
          refine WX.keep [0, 3, 4, 44] (WX.pk [] (by decide) ?_) rfl
          exact gabionref15_Right_j7_ok h hn hx0 hr hE _ _ _ ⟨hB, _, h2, rfl, rfl⟩
        · have q_k18 := of_decide_eq_false k18
          replace h := (if_neg q_k18).symm.trans h
          refine WO.q (.mv (v := .sl _ _ _ _ _ _) rfl) (wg rfl rfl (gf k18)) rfl ?_
          refine WO.q (.mv (v := .int _ _) rfl) (wg rfl rfl (gf k18)) rfl ?_
          obtain ⟨y19, hy19, h⟩ := Option.bind_eq_some_iff.1 h
          obtain ⟨b_y19, o_y19, _, i_y19, p_y19, r_y19⟩ := h2.at sl40 hy19 .i64
          obtain ⟨_, _, rfl, rfl, rfl⟩ := r_y19
          refine WO.q (.ia i_y19) (wg rfl rfl (gf k18)) rfl ?_
          refine WO.q (.ia (ia41_1 _ _)) (wg rfl rfl (gf k18)) rfl ?_
          refine WO.q (.lpS rfl p_y19 rfl ti3 rfl) (wg rfl rfl (gf k18)) rfl ?_
          refine WO.q (.r fun _ => rfl) (wg rfl rfl (gf k18)) rfl ?_
          refine WO.q (.pfv (v := .bool _) rfl k18 rfl) rfl rfl ?_
          refine WO.nil ?_
          refine WX.keep [0, 3, 4, 44] (WX.pk [] (by decide) ?_) rfl
          exact gabionref15_Right_j7_ok h hn hx0 hr hE _ _ _ ⟨hB, _, h2, rfl, rfl⟩
  · have q_k3 := of_decide_eq_false k3
    replace h := (if_neg q_k3).symm.trans h
    refine WX.condF rfl k3 ?_
    refine WX.exit rfl ?_
    refine WX.keep [3] (WX.pk [] (by decide) ?_) rfl
    obtain rfl := Option.some.inj h
    exact hx0 _ hE _ _ _ ⟨hB, rfl, rfl⟩
theorem gabionref15_Right_l0_ok {B0 : Kn} {L : Own} {n0 : Nat} {x0 : List (Int × Int)} {x3 : Int} {x4 : Int} {Q : AV → St → Prop} {d : Nat} {e : Bool ⊕ Int} (h : iter (fun (s : Int × Int) => gabionref15_Right_l0 x0 s.1 s.2) d (x3, x4) = some e) (g0 : ∀ r, e = (.inl r) → ∀ v st, gabionref15_Right_P B0 L r v st → Q v st) (g1 : ∀ s, e = (.inr s) → WXI Try.prog 67 n0 (Fin Try.prog Try.f25.results.toList n0 Q) [.code (ct [1, 1, 1, 1] (bodyOf Try.f25))] (gabionref15_Right_l0_X0 B0 s) L) : WXI Try.prog 67 n0 (Fin Try.prog Try.f25.results.toList n0 Q) [.code (ct [1, 1, 1, 0, 1, 0, 0] (bodyOf Try.f25)), .lp (ct [1, 1, 1, 0, 1, 0, 0] (bodyOf Try.f25)), .blk 0, .code (ct [1, 1, 1, 1] (bodyOf Try.f25))] (gabionref15_Right_l0_I B0 x0 x3 x4) L :=
  iter_ok (I := fun s => gabionref15_Right_l0_I B0 x0 s.1 s.2) (D := fun e => (∀ r, e = (.inl r) → ∀ v st, gabionref15_Right_P B0 L r v st → Q v st) ∧ (∀ s, e = (.inr s) → WXI Try.prog 67 n0 (Fin Try.prog Try.f25.results.toList n0 Q) [.code (ct [1, 1, 1, 1] (bodyOf Try.f25))] (gabionref15_Right_l0_X0 B0 s) L)) (fun E hn hx s o ho hE => gabionref15_Right_l0_s ho hn (fun s hs => (hx _ hs).2 _ rfl) (fun r hs => (hx _ hs).1 _ rfl) hE) h ⟨g0, g1⟩
theorem gabionref15_Right_ok {B0 : Kn} {L : Own} {a0 : List (Int × Int)} {v0_0 : AV} {r : Bool} (g0_0 : RSl EPIi64Ii64Q B0 v0_0 a0) (h : gabionref15_Right a0 = some r) : ∀ st, Hp B0 L st → ASpec Try.prog 25 [v0_0] st (gabionref15_Right_P B0 L r) := by
  unfold gabionref15_Right at h
  refine bodyA (A := []) Try.func25 rfl (c := bodyOf Try.f25) rfl Try.ntmps25 (lb rfl) fun n0 => ?_
  have hB := KLe.refl B0
  obtain ⟨_, _, _, _, _, rfl⟩ := g0_0.isl
  refine WX.seq ?_
  refine WX.reg ?_
  refine WO.q (.as (v := .bool _) rfl) rfl rfl ?_
  refine WO.nil ?_
  refine WX.seq ?_
  refine WX.seq ?_
  refine WX.reg ?_
  refine WO.q (.mv (v := .sl _ _ _ _ _ _) rfl) rfl rfl ?_
  refine WO.q (.len rfl rfl rfl (sl40.len g0_0.isl)) rfl rfl ?_
  refine WO.q (.r fun _ => rfl) rfl rfl ?_
  refine WO.nil ?_
  rcases bsp (decide (64 < (a0.length : Int))) with k1 | k1
  · have q_k1 := of_decide_eq_true k1
    replace h := (if_pos q_k1).symm.trans h
    refine WX.condT rfl k1 ?_
    refine WX.seq ?_
    refine WX.reg ?_
    refine WO.q (.as (v := .bool _) rfl) rfl rfl ?_
    refine WO.nil ?_
    obtain rfl := Option.some.inj h
    exact WX.ret (rs_ (rs_tmp rfl rs_nil)) fun st hp => ⟨(hp.pk [] (by decide)).le hB, rfl⟩
  · have q_k1 := of_decide_eq_false k1
    replace h := (if_neg q_k1).symm.trans h
    refine WX.condF rfl k1 ?_
    refine WX.skip ?_
    refine WX.seq ?_
    refine WX.reg ?_
    refine WO.q (.as (v := .int _ _) rfl) rfl rfl ?_
    refine WO.nil ?_
    refine WX.seq ?_
    refine WX.seq ?_
    refine WX.reg ?_
    refine WO.q (.as (v := .int _ _) rfl) rfl rfl ?_
    refine WO.nil ?_
    refine WX.block ?_
    refine WX.loop ?_
    obtain ⟨e20, he20, h⟩ := Option.bind_eq_some_iff.1 h
    refine WX.keep [0, 3, 4] (WX.pk [] (by decide) ?_) rfl
    refine gabionref15_Right_l0_ok he20 ?_ ?_ _ _ _ ⟨hB, _, g0_0, rfl, rfl⟩
    · intro r22 he_
      subst he_
      replace h := (on_l h)
      obtain rfl := Option.some.inj h
      exact fun v st hp => hp
    · intro x23 he_
      subst he_
      replace h := (on_r h)
      rintro _ B _ ⟨hB, rfl, rfl⟩
      refine WX.seq ?_
      refine WX.reg ?_
      refine WO.q (.mv (v := .int _ _) rfl) rfl rfl ?_
      refine WO.q (.r fun _ => rfl) rfl rfl ?_
      refine WO.q (.as (v := .bool _) rfl) rfl rfl ?_
      refine WO.nil ?_
      obtain rfl := Option.some.inj h
      exact WX.ret (rs_ (rs_tmp rfl rs_nil)) fun st hp => ⟨(hp.pk [] (by decide)).le hB, rfl⟩
def gabionref15_Blocks_P (B : Kn) (L : Own) (r : (List Int)) : AV → St → Prop := C1 B L fun B' v e0 => ∃ w0 b0 n0 c0, v = w0 ∧ e0 = oe b0 n0 c0 ∧ OSl (Ty.int .i64) B' w0 b0 n0 c0 r
def gabionref15_Blocks_j9_I (B0 : Kn) (x0 : List (Int × Int)) (x3 : List Int) (x4 : Int) (x5 : Int) : Fr → Kn → Own → Prop := fun fr B A => KLe B0 B ∧ ∃ v19 v20 b20 n20 c20, RSl EPIi64Ii64Q B v19 x0 ∧ OSl (Ty.int .i64) B v20 b20 n20 c20 x3 ∧ fr = [(0, v19), (3, v20), (4, .int .i64 x4), (5, .int .i64 x5)] ∧ A = [oe b20 n20 c20]
def gabionref15_Blocks_l1_I (B0 : Kn) (x0 : List (Int × Int)) (x3 : List Int) (x4 : Int) (x5 : Int) : Fr → Kn → Own → Prop := fun fr B A => KLe B0 B ∧ ∃ v4 v5 b5 n5 c5, RSl EPIi64Ii64Q B v4 x0 ∧ OSl (Ty.int .i64) B v5 b5 n5 c5 x3 ∧ fr = [(0, v4), (3, v5), (4, .int .i64 x4), (5, .int .i64 x5)] ∧ A = [oe b5 n5 c5]
def gabionref15_Blocks_l1_X0 (B0 : Kn) (x0 : List (Int × Int)) (x3 : List Int) (x4 : Int) : Fr → Kn → Own → Prop := fun fr B A => KLe B0 B ∧ ∃ v41 v42 b42 n42 c42, RSl EPIi64Ii64Q B v41 x0 ∧ OSl (Ty.int .i64) B v42 b42 n42 c42 x3 ∧ fr = [(0, v41), (3, v42), (4, .int .i64 x4)] ∧ A = [oe b42 n42 c42]
def gabionref15_Blocks_l0_I (B0 : Kn) (x0 : List (Int × Int)) (x3 : List Int) (x4 : Int) : Fr → Kn → Own → Prop := fun fr B A => KLe B0 B ∧ ∃ v1 v2 b2 n2 c2, RSl EPIi64Ii64Q B v1 x0 ∧ OSl (Ty.int .i64) B v2 b2 n2 c2 x3 ∧ fr = [(0, v1), (3, v2), (4, .int .i64 x4)] ∧ A = [oe b2 n2 c2]
def gabionref15_Blocks_l0_X0 (B0 : Kn) (x3 : List Int) : Fr → Kn → Own → Prop := fun fr B A => KLe B0 B ∧ ∃ v43 b43 n43 c43, OSl (Ty.int .i64) B v43 b43 n43 c43 x3 ∧ fr = [(3, v43)] ∧ A = [oe b43 n43 c43]
theorem gabionref15_Blocks_j9_ok {B0 : Kn} {L : Own} {n0 : Nat} {x0 : List (Int × Int)} {x3 : List Int} {x4 : Int} {x5 : Int} {Q : AV → St → Prop} {E : ((List Int) × Int × Int) ⊕ ((List Int) × Int) → Prop} {o : ((List Int) × Int × Int) ⊕ ((List Int) × Int)} (h : gabionref15_Blocks_j9 x0 x3 x4 x5 = some o) (hn : ∀ s, E (.inl s) → WXI Try.prog 41 n0 (Fin Try.prog Try.f44.results.toList n0 Q) [.lp (ct [1, 1, 0, 1, 0, 0, 1, 0, 0, 1, 0, 0] (bodyOf Try.f44)), .blk 2, .blk 1, .code (ct [1, 1, 0, 1, 0, 0, 1, 1] (bodyOf Try.f44)), .lp (ct [1, 1, 0, 1, 0, 0] (bodyOf Try.f44)), .blk 0, .code (ct [1, 1, 1] (bodyOf Try.f44))] (gabionref15_Blocks_l1_I B0 x0 s.1 s.2.1 s.2.2) L) (hx0 : ∀ s, E (.inr s) → WXI Try.prog 41 n0 (Fin Try.prog Try.f44.results.toList n0 Q) [.code (ct [1, 1, 0, 1, 0, 0, 1, 1] (bodyOf Try.f44)), .lp (ct [1, 1, 0, 1, 0, 0] (bodyOf Try.f44)), .blk 0, .code (ct [1, 1, 1] (bodyOf Try.f44))] (gabionref15_Blocks_l1_X0 B0 x0 s.1 s.2) L) (hE : E o) : WXI Try.prog 41 n0 (Fin Try.prog Try.f44.results.toList n0 Q) [.code (ct [1, 1, 0, 1, 0, 0, 1, 0, 0, 1, 0, 0, 1, 1] (bodyOf Try.f44)), .lp (ct [1, 1, 0, 1, 0, 0, 1, 0, 0, 1, 0, 0] (bodyOf Try.f44)), .blk 2, .blk 1, .code (ct [1, 1, 0, 1, 0, 0, 1, 1] (bodyOf Try.f44)), .lp (ct [1, 1, 0, 1, 0, 0] (bodyOf Try.f44)), .blk 0, .code (ct [1, 1, 1] (bodyOf Try.f44))] (gabionref15_Blocks_j9_I B0 x0 x3 x4 x5) L := by
  unfold gabionref15_Blocks_j9 at h
  rintro _ B _ ⟨hB, v19, v20, b20, n20, c20, h19, h20, rfl, rfl⟩
  obtain ⟨_, _, _, _, _, rfl⟩ := h19.isl
  obtain ⟨_, _, _, _, _, rfl⟩ := h20.isl
  refine WX.reg ?_
  refine WO.q (.mv (v := .int _ _) rfl) rfl rfl ?_
  refine WO.q (.r fun _ => rfl) rfl rfl ?_
  refine WO.q (.as (v := .int _ _) rfl) rfl rfl ?_
  refine WO.nil ?_
  refine WX.keepL [0, 3, 4, 5] (WX.pk [0] (by decide) ?_) rfl
  obtain rfl := Option.some.inj h
  exact hn _ hE _ _ _ ⟨hB, _, _, _, n20, _, h19, h20, rfl, rfl⟩
theorem gabionref15_Blocks_l1_s {B0 : Kn} {L : Own} {n0 : Nat} {x0 : List (Int × Int)} {x3 : List Int} {x4 : Int} {x5 : Int} {Q : AV → St → Prop} {E : ((List Int) × Int × Int) ⊕ ((List Int) × Int) → Prop} {o : ((List Int) × Int × Int) ⊕ ((List Int) × Int)} (h : gabionref15_Blocks_l1 x0 x3 x4 x5 = some o) (hn : ∀ s, E (.inl s) → WXI Try.prog 41 n0 (Fin Try.prog Try.f44.results.toList n0 Q) [.lp (ct [1, 1, 0, 1, 0, 0, 1, 0, 0, 1, 0, 0] (bodyOf Try.f44)), .blk 2, .blk 1, .code (ct [1, 1, 0, 1, 0, 0, 1, 1] (bodyOf Try.f44)), .lp (ct [1, 1, 0, 1, 0, 0] (bodyOf Try.f44)), .blk 0, .code (ct [1, 1, 1] (bodyOf Try.f44))] (gabionref15_Blocks_l1_I B0 x0 s.1 s.2.1 s.2.2) L) (hx0 : ∀ s, E (.inr s) → WXI Try.prog 41 n0 (Fin Try.prog Try.f44.results.toList n0 Q) [.code (ct [1, 1, 0, 1, 0, 0, 1, 1] (bodyOf Try.f44)), .lp (ct [1, 1, 0, 1, 0, 0] (bodyOf Try.f44)), .blk 0, .code (ct [1, 1, 1] (bodyOf Try.f44))] (gabionref15_Blocks_l1_X0 B0 x0 s.1 s.2) L) (hE : E o) : WXI Try.prog 41 n0 (Fin Try.prog Try.f44.results.toList n0 Q) [.code (ct [1, 1, 0, 1, 0, 0, 1, 0, 0, 1, 0, 0] (bodyOf Try.f44)), .lp (ct [1, 1, 0, 1, 0, 0, 1, 0, 0, 1, 0, 0] (bodyOf Try.f44)), .blk 2, .blk 1, .code (ct [1, 1, 0, 1, 0, 0, 1, 1] (bodyOf Try.f44)), .lp (ct [1, 1, 0, 1, 0, 0] (bodyOf Try.f44)), .blk 0, .code (ct [1, 1, 1] (bodyOf Try.f44))] (gabionref15_Blocks_l1_I B0 x0 x3 x4 x5) L := by
  unfold gabionref15_Blocks_l1 at h
  rintro _ B _ ⟨hB, v4, v5, b5, n5, c5, h4, h5, rfl, rfl⟩
  obtain ⟨_, _, _, _, _, rfl⟩ := h4.isl
  obtain ⟨_, _, _, _, _, rfl⟩ := h5.isl
  refine WX.seq ?_
  refine WX.seq ?_
  refine WX.reg ?_
  refine WO.q (.mv (v := .int _ _) rfl) rfl rfl ?_
  refine WO.q (.mv (v := .sl _ _ _ _ _ _) rfl) rfl rfl ?_
  refine WO.q (.mv (v := .int _ _) rfl) rfl rfl ?_
  obtain ⟨y6, hy6, h⟩ := Option.bind_eq_some_iff.1 h
  obtain ⟨b_y6, o_y6, _, i_y6, p_y6, r_y6⟩ := h4.at sl40 hy6 .i64
  obtain ⟨_, _, rfl, rfl, rfl⟩ := r_y6
  refine WO.q (.ia i_y6) rfl rfl ?_
  refine WO.q (.ia (ia41_1 _ _)) rfl rfl ?_
  refine WO.q (.lpS rfl p_y6 rfl ti3 rfl) rfl rfl ?_
  refine WO.q (.r fun _ => rfl) rfl rfl ?_
  refine WO.nil ?_
  rcases bsp (decide (x5 < y6.2)) with k7 | k7
  · have q_k7 := of_decide_eq_true k7
    replace h := (if_pos q_k7).symm.trans h
    refine WX.condT rfl k7 ?_
    refine WX.skip ?_
    refine WX.seq ?_
    refine WX.block ?_
    refine WX.seq ?_
    refine WX.reg ?_
    refine WO.q (.mv (v := .sl _ _ _ _ _ _) rfl) rfl rfl ?_
    refine WO.q (.mv (v := .int _ _) rfl) rfl rfl ?_
    obtain ⟨y8, hy8, h⟩ := Option.bind_eq_some_iff.1 h
    obtain ⟨b_y8, o_y8, _, i_y8, p_y8, r_y8⟩ := h4.at sl40 hy8 .i64
    obtain ⟨_, _, rfl, rfl, rfl⟩ := r_y8
    refine WO.q (.ia i_y8) rfl rfl ?_
    refine WO.q (.ia (ia41_0 _ _)) rfl rfl ?_
    refine WO.q (.lpS rfl p_y8 rfl ti3 rfl) rfl rfl ?_
    refine WO.q (.r fun _ => rfl) rfl rfl ?_
    refine WO.nil ?_
    rcases bsp (decide (y8.1 = (-1))) with k9 | k9
    · have q_k9 := of_decide_eq_true k9
      replace h := (if_pos q_k9).symm.trans h
      refine WX.condT rfl k9 ?_
      refine WX.reg ?_
      refine WO.q (.mv (v := .sl _ _ _ _ _ _) rfl) rfl rfl ?_
      refine WO.md (MOp.bs (l := ([(-1)] : List Int)) sl22 (RL.cons Ri RL.nil) (lb rfl) rfl rfl) rfl rfl ?_
      rintro v12 _ ⟨b10, o11, rfl⟩
      obtain ⟨_, _, _, _, _, rfl⟩ := o11.isl
      obtain ⟨y14, hy14, h⟩ := Option.bind_eq_some_iff.1 h
      refine WO.md (MOp.app rfl rfl rfl sl22 h5 (Src.o (i := 0) sl22 o11 rfl) hy14 rfl rfl (fun _ => (.t .h))) rfl rfl ?_
      rintro v18 _ ⟨b15, n16, o17, rfl⟩
      obtain ⟨_, _, _, _, _, rfl⟩ := o17.isl
      refine WO.q (.as (v := .sl _ _ _ _ _ _) rfl) rfl rfl ?_
      refine WO.nil ?_
      refine WX.pop ?_
      refine WX.keep [0, 3, 4, 5] (WX.pk [1] (by decide) ?_) rfl
      exact gabionref15_Blocks_j9_ok h hn hx0 hE _ _ _ ⟨hB, _, _, _, n16, _, h4, o17, rfl, rfl⟩
    · have q_k9 := of_decide_eq_false k9
      replace h := (if_neg q_k9).symm.trans h
      refine WX.condF rfl k9 ?_
      refine WX.reg ?_
      refine WO.q (.mv (v := .sl _ _ _ _ _ _) rfl) rfl rfl ?_
      refine WO.q (.mv (v := .sl _ _ _ _ _ _) rfl) rfl rfl ?_
      refine WO.q (.mv (v := .int _ _) rfl) rfl rfl ?_
      obtain ⟨y21, hy21, h⟩ := Option.bind_eq_some_iff.1 h
      obtain ⟨b_y21, o_y21, _, i_y21, p_y21, r_y21⟩ := h4.at sl40 hy21 .i64
      obtain ⟨_, _, rfl, rfl, rfl⟩ := r_y21
      refine WO.q (.ia i_y21) rfl rfl ?_
      refine WO.q (.ia (ia41_0 _ _)) rfl rfl ?_
      refine WO.q (.lpS rfl p_y21 rfl ti3 rfl) rfl rfl ?_
      refine WO.q (.mv (v := .int _ _) rfl) rfl rfl ?_
      refine WO.q (.r fun _ => rfl) rfl rfl ?_
      refine WO.md (MOp.bs (l := ([(wi64 (y21.1 + x5))] : List Int)) sl22 (RL.cons Ri RL.nil) (lb rfl) rfl rfl) rfl rfl ?_
      rintro v24 _ ⟨b22, o23, rfl⟩
      obtain ⟨_, _, _, _, _, rfl⟩ := o23.isl
      obtain ⟨y26, hy26, h⟩ := Option.bind_eq_some_iff.1 h
      refine WO.md (MOp.app rfl rfl rfl sl22 h5 (Src.o (i := 0) sl22 o23 rfl) hy26 rfl rfl (fun _ => (.t .h))) rfl rfl ?_
      rintro v30 _ ⟨b27, n28, o29, rfl⟩
      obtain ⟨_, _, _, _, _, rfl⟩ := o29.isl
      refine WO.q (.as (v := .sl _ _ _ _ _ _) rfl) rfl rfl ?_
      refine WO.nil ?_
      refine WX.pop ?_
      refine WX.keep [0, 3, 4, 5] (WX.pk [1] (by decide) ?_) rfl
      exact gabionref15_Blocks_j9_ok h hn hx0 hE _ _ _ ⟨hB, _, _, _, n28, _, h4, o29, rfl, rfl⟩
  · have q_k7 := of_decide_eq_false k7
    replace h := (if_neg q_k7).symm.trans h
    refine WX.condF rfl k7 ?_
    refine WX.exit rfl ?_
    refine WX.pop ?_
    refine WX.keep [0, 3, 4] (WX.pk [0] (by decide) ?_) rfl
    obtain rfl := Option.some.inj h
    exact hx0 _ hE _ _ _ ⟨hB, _, _, _, n5, _, h4, h5, rfl, rfl⟩
theorem gabionref15_Blocks_l1_ok {B0 : Kn} {L : Own} {n0 : Nat} {x0 : List (Int × Int)} {x3 : List Int} {x4 : Int} {x5 : Int} {Q : AV → St → Prop} {d : Nat} {e : ((List Int) × Int)} (h : iter (fun (s : (List Int) × Int × Int) => gabionref15_Blocks_l1 x0 s.1 s.2.1 s.2.2) d (x3, x4, x5) = some e) (g0 : ∀ s, e = s → WXI Try.prog 41 n0 (Fin Try.prog Try.f44.results.toList n0 Q) [.code (ct [1, 1, 0, 1, 0, 0, 1, 1] (bodyOf Try.f44)), .lp (ct [1, 1, 0, 1, 0, 0] (bodyOf Try.f44)), .blk 0, .code (ct [1, 1, 1] (bodyOf Try.f44))] (gabionref15_Blocks_l1_X0 B0 x0 s.1 s.2) L) : WXI Try.prog 41 n0 (Fin Try.prog Try.f44.results.toList n0 Q) [.code (ct [1, 1, 0, 1, 0, 0, 1, 0, 0, 1, 0, 0] (bodyOf Try.f44)), .lp (ct [1, 1, 0, 1, 0, 0, 1, 0, 0, 1, 0, 0] (bodyOf Try.f44)), .blk 2, .blk 1, .code (ct [1, 1, 0, 1, 0, 0, 1, 1] (bodyOf Try.f44)), .lp (ct [1, 1, 0, 1, 0, 0] (bodyOf Try.f44)), .blk 0, .code (ct [1, 1, 1] (bodyOf Try.f44))] (gabionref15_Blocks_l1_I B0 x0 x3 x4 x5) L :=
  iter_ok (I := fun s => gabionref15_Blocks_l1_I B0 x0 s.1 s.2.1 s.2.2) (D := fun e => (∀ s, e = s → WXI Try.prog 41 n0 (Fin Try.prog Try.f44.results.toList n0 Q) [.code (ct [1, 1, 0, 1, 0, 0, 1, 1] (bodyOf Try.f44)), .lp (ct [1, 1, 0, 1, 0, 0] (bodyOf Try.f44)), .blk 0, .code (ct [1, 1, 1] (bodyOf Try.f44))] (gabionref15_Blocks_l1_X0 B0 x0 s.1 s.2) L)) (fun E hn hx s o ho hE => gabionref15_Blocks_l1_s ho hn (fun s hs => (hx _ hs) _ rfl)  hE) h g0
theorem gabionref15_Blocks_l0_s {B0 : Kn} {L : Own} {n0 : Nat} {x0 : List (Int × Int)} {x3 : List Int} {x4 : Int} {Q : AV → St → Prop} {E : ((List Int) × Int) ⊕ (List Int) → Prop} {o : ((List Int) × Int) ⊕ (List Int)} (h : gabionref15_Blocks_l0 x0 x3 x4 = some o) (hn : ∀ s, E (.inl s) → WXI Try.prog 41 n0 (Fin Try.prog Try.f44.results.toList n0 Q) [.lp (ct [1, 1, 0, 1, 0, 0] (bodyOf Try.f44)), .blk 0, .code (ct [1, 1, 1] (bodyOf Try.f44))] (gabionref15_Blocks_l0_I B0 x0 s.1 s.2) L) (hx0 : ∀ s, E (.inr s) → WXI Try.prog 41 n0 (Fin Try.prog Try.f44.results.toList n0 Q) [.code (ct [1, 1, 1] (bodyOf Try.f44))] (gabionref15_Blocks_l0_X0 B0 s) L) (hE : E o) : WXI Try.prog 41 n0 (Fin Try.prog Try.f44.results.toList n0 Q) [.code (ct [1, 1, 0, 1, 0, 0] (bodyOf Try.f44)), .lp (ct [1, 1, 0, 1, 0, 0] (bodyOf Try.f44)), .blk 0, .code (ct [1, 1, 1] (bodyOf Try.f44))] (gabionref15_Blocks_l0_I B0 x0 x3 x4) L := by
  unfold gabionref15_Blocks_l0 at h
  rintro _ B _ ⟨hB, v1, v2, b2, n2, c2, h1, h2, rfl, rfl⟩
  obtain ⟨_, _, _, _, _, rfl⟩ := h1.isl
  obtain ⟨_, _, _, _, _, rfl⟩ := h2.isl
  refine WX.seq ?_
  refine WX.seq ?_
  refine WX.reg ?_
  refine WO.q (.mv (v := .int _ _) rfl) rfl rfl ?_
  refine WO.q (.mv (v := .sl _ _ _ _ _ _) rfl) rfl rfl ?_
  refine WO.q (.len rfl rfl rfl (sl40.len h1.isl)) rfl rfl ?_
  refine WO.q (.r fun _ => rfl) rfl rfl ?_
  refine WO.nil ?_
  rcases bsp (decide (x4 < (x0.length : Int))) with k3 | k3
  · have q_k3 := of_decide_eq_true k3
    replace h := (if_pos q_k3).symm.trans h
    refine WX.condT rfl k3 ?_
    refine WX.skip ?_
    refine WX.seq ?_
    refine WX.block ?_
    refine WX.seq ?_
    refine WX.reg ?_
    refine WO.q (.as (v := .int _ _) rfl) rfl rfl ?_
    refine WO.nil ?_
    refine WX.block ?_
    refine WX.loop ?_
    obtain ⟨e33, he33, h⟩ := Option.bind_eq_some_iff.1 h
    refine WX.keep [0, 3, 4, 5] (WX.pk [0] (by decide) ?_) rfl
    refine gabionref15_Blocks_l1_ok he33 ?_ _ _ _ ⟨hB, _, _, _, n2, _, h1, h2, rfl, rfl⟩
    · intro s36 he_
      subst he_
      replace h := h
      rintro _ B _ ⟨hB, v34, v35, b35, n35, c35, h34, h35, rfl, rfl⟩
      obtain ⟨_, _, _, _, _, rfl⟩ := h34.isl
      obtain ⟨_, _, _, _, _, rfl⟩ := h35.isl
      refine WX.reg ?_
      refine WO.q (.mv (v := .int _ _) rfl) rfl rfl ?_
      refine WO.q (.r fun _ => rfl) rfl rfl ?_
      refine WO.q (.as (v := .int _ _) rfl) rfl rfl ?_
      refine WO.nil ?_
      refine WX.keepL [0, 3, 4] (WX.pk [0] (by decide) ?_) rfl
      obtain rfl := Option.some.inj h
      exact hn _ hE _ _ _ ⟨hB, _, _, _, n35, _, h34, h35, rfl, rfl⟩
  · have q_k3 := of_decide_eq_false k3
    replace h := (if_neg q_k3).symm.trans h
    refine WX.condF rfl k3 ?_
    refine WX.exit rfl ?_
    refine WX.keep [3] (WX.pk [0] (by decide) ?_) rfl
    obtain rfl := Option.some.inj h
    exact hx0 _ hE _ _ _ ⟨hB, _, _, n2, _, h2, rfl, rfl⟩
theorem gabionref15_Blocks_l0_ok {B0 : Kn} {L : Own} {n0 : Nat} {x0 : List (Int × Int)} {x3 : List Int} {x4 : Int} {Q : AV → St → Prop} {d : Nat} {e : (List Int)} (h : iter (fun (s : (List Int) × Int) => gabionref15_Blocks_l0 x0 s.1 s.2) d (x3, x4) = some e) (g0 : ∀ s, e = s → WXI Try.prog 41 n0 (Fin Try.prog Try.f44.results.toList n0 Q) [.code (ct [1, 1, 1] (bodyOf Try.f44))] (gabionref15_Blocks_l0_X0 B0 s) L) : WXI Try.prog 41 n0 (Fin Try.prog Try.f44.results.toList n0 Q) [.code (ct [1, 1, 0, 1, 0, 0] (bodyOf Try.f44)), .lp (ct [1, 1, 0, 1, 0, 0] (bodyOf Try.f44)), .blk 0, .code (ct [1, 1, 1] (bodyOf Try.f44))] (gabionref15_Blocks_l0_I B0 x0 x3 x4) L :=
  iter_ok (I := fun s => gabionref15_Blocks_l0_I B0 x0 s.1 s.2) (D := fun e => (∀ s, e = s → WXI Try.prog 41 n0 (Fin Try.prog Try.f44.results.toList n0 Q) [.code (ct [1, 1, 1] (bodyOf Try.f44))] (gabionref15_Blocks_l0_X0 B0 s) L)) (fun E hn hx s o ho hE => gabionref15_Blocks_l0_s ho hn (fun s hs => (hx _ hs) _ rfl)  hE) h g0
theorem gabionref15_Blocks_ok {B0 : Kn} {L : Own} {a0 : List (Int × Int)} {v0_0 : AV} {r : (List Int)} (g0_0 : RSl EPIi64Ii64Q B0 v0_0 a0) (h : gabionref15_Blocks a0 = some r) : ∀ st, Hp B0 L st → ASpec Try.prog 44 [v0_0] st (gabionref15_Blocks_P B0 L r) := by
  unfold gabionref15_Blocks at h
  refine bodyA (A := []) Try.func44 rfl (c := bodyOf Try.f44) rfl Try.ntmps44 (lb rfl) fun n0 => ?_
  have hB := KLe.refl B0
  obtain ⟨_, _, _, _, _, rfl⟩ := g0_0.isl
  refine WX.seq ?_
  refine WX.reg ?_
  refine WO.q (.as (v := .sl _ _ _ _ _ _) rfl) rfl rfl ?_
  refine WO.nil ?_
  refine WX.seq ?_
  refine WX.reg ?_
  refine WO.q (.as (v := .sl _ _ _ _ _ _) rfl) rfl rfl ?_
  refine WO.nil ?_
  refine WX.seq ?_
  refine WX.seq ?_
  refine WX.reg ?_
  refine WO.q (.as (v := .int _ _) rfl) rfl rfl ?_
  refine WO.nil ?_
  refine WX.block ?_
  refine WX.loop ?_
  obtain ⟨e38, he38, h⟩ := Option.bind_eq_some_iff.1 h
  refine WX.keep [0, 3, 4] (WX.pk [] (by decide) (WX.addn [0] ?_)) rfl
  refine gabionref15_Blocks_l0_ok he38 ?_ _ _ _ ⟨hB, _, _, 0, true, [], g0_0, OSl.none _ _, rfl, rfl⟩
  · intro s40 he_
    subst he_
    replace h := h
    rintro _ B _ ⟨hB, v39, b39, n39, c39, h39, rfl, rfl⟩
    obtain ⟨_, _, _, _, _, rfl⟩ := h39.isl
    refine WX.seq ?_
    refine WX.reg ?_
    refine WO.q (.mv (v := .sl _ _ _ _ _ _) rfl) rfl rfl ?_
    refine WO.q (.as (v := .sl _ _ _ _ _ _) rfl) rfl rfl ?_
    refine WO.nil ?_
    obtain rfl := Option.some.inj h
    exact WX.ret (rs_ (rs_tmp rfl rs_nil)) fun st hp => ⟨_, _, hB, (hp.pk [0] (by decide)), _, _, n39, _, rfl, rfl, h39⟩
def gabionref15_Append_P (B : Kn) (L : Own) (r : (List (Int × Int)) × Int) : AV → St → Prop := C1 B L fun B' v e0 => ∃ w0 b0 n0 c0, v = .tup [w0, .int .i64 r.2] ∧ e0 = oe b0 n0 c0 ∧ OSl EPIi64Ii64Q B' w0 b0 n0 c0 r.1
theorem gabionref15_Append_ok {B0 : Kn} {L : Own} {a0 : List (Int × Int)} {a1 : Int} {a2 : Int} {v0_0 : AV} {r : (List (Int × Int)) × Int} (g0_0 : RSl EPIi64Ii64Q B0 v0_0 a0) (h : gabionref15_Append a0 a1 a2 = some r) : ∀ st, Hp B0 L st → ASpec Try.prog 28 [v0_0, .int .i64 a1, .int .i64 a2] st (gabionref15_Append_P B0 L r) := by
  unfold gabionref15_Append at h
  refine bodyA (A := []) Try.func28 rfl (c := bodyOf Try.f28) rfl Try.ntmps28 (lb rfl) fun n0 => ?_
  have hB := KLe.refl B0
  obtain ⟨_, _, _, _, _, rfl⟩ := g0_0.isl
  refine WX.seq ?_
  refine WX.reg ?_
  refine WO.q (.as (v := .sl _ _ _ _ _ _) rfl) rfl rfl ?_
  refine WO.q (.as (v := .int _ _) rfl) rfl rfl ?_
  refine WO.nil ?_
  refine WX.seq ?_
  refine WX.reg ?_
  refine WO.q (.mv (v := .sl _ _ _ _ _ _) rfl) rfl rfl ?_
  obtain ⟨y1, hy1, h⟩ := Option.bind_eq_some_iff.1 h
  refine WO.cS rfl rfl (gabionref15_Right_ok g0_0 hy1) rfl rfl rfl ?_
  rintro _ rfl
  refine WO.q (.as (v := .bool _) rfl) rfl rfl ?_
  refine WO.nil ?_
  refine WX.seq ?_
  refine WX.seq ?_
  refine WX.reg ?_
  refine WO.q (.mv (v := .bool _) rfl) rfl rfl ?_
  refine WO.q (.r fun _ => rfl) rfl rfl ?_
  refine WO.nil ?_
  rcases bsp y1 with k2 | k2
  · replace h := (if_pos k2).symm.trans h
    refine WX.condF rfl (f_not k2) ?_
    refine WX.skip ?_
    refine WX.seq ?_
    refine WX.reg ?_
    refine WO.q (.mv (v := .int _ _) rfl) rfl rfl ?_
    refine WO.q (.mv (v := .int _ _) rfl) rfl rfl ?_
    refine WO.q (.bd (bd41_0_1 (cI rfl) (cI rfl))) rfl rfl ?_
    refine WO.md (MOp.bs (l := ([(a1, a2)] : List (Int × Int))) sl40 (RL.cons (Rp Ri Ri) RL.nil) (lb rfl) rfl rfl) rfl rfl ?_
    rintro v5 _ ⟨b3, o4, rfl⟩
    obtain ⟨_, _, _, _, _, rfl⟩ := o4.isl
    obtain ⟨y7, hy7, h⟩ := Option.bind_eq_some_iff.1 h
    refine WO.cS rfl rfl (lendC (j := 0) o4 rfl fun _ K9 g8 => gabionref15_Right_ok g8 hy7) rfl rfl rfl ?_
    rintro _ rfl
    refine WO.q (.as (v := .bool _) rfl) rfl rfl ?_
    refine WO.nil ?_
    refine WX.seq ?_
    refine WX.seq ?_
    refine WX.reg ?_
    refine WO.q (.mv (v := .bool _) rfl) rfl rfl ?_
    refine WO.q (.r fun _ => rfl) rfl rfl ?_
    refine WO.nil ?_
    rcases bsp y7 with k10 | k10
    · replace h := (if_pos k10).symm.trans h
      refine WX.condF rfl (f_not k10) ?_
      refine WX.skip ?_
      refine WX.seq ?_
      refine WX.reg ?_
      refine WO.q (.mv (v := .sl _ _ _ _ _ _) rfl) rfl rfl ?_
      obtain ⟨y11, hy11, h⟩ := Option.bind_eq_some_iff.1 h
      refine WO.c1 rfl rfl (gabionref15_Blocks_ok g0_0 hy11) rfl rfl rfl ?_
      rintro _ B _ hK ⟨v12, b13, n14, c15, rfl, rfl, h16⟩
      obtain ⟨_, _, _, _, _, rfl⟩ := h16.isl
      replace g0_0 := g0_0.up hK
      replace o4 := o4.up hK
      replace hB := hB.trans hK
      refine WO.q (.as (v := .sl _ _ _ _ _ _) rfl) rfl rfl ?_
      refine WO.nil ?_
      refine WX.seq ?_
      refine WX.reg ?_
      refine WO.q (.mv (v := .int _ _) rfl) rfl rfl ?_
      refine WO.q (.mv (v := .int _ _) rfl) rfl rfl ?_
      refine WO.q (.bd (bd41_0_1 (cI rfl) (cI rfl))) rfl rfl ?_
      refine WO.md (MOp.bs (l := ([(a1, a2)] : List (Int × Int))) sl40 (RL.cons (Rp Ri Ri) RL.nil) (lb rfl) rfl rfl) rfl rfl ?_
      rintro v19 _ ⟨b17, o18, rfl⟩
      obtain ⟨_, _, _, _, _, rfl⟩ := o18.isl
      refine WO.fz (j := 0) o18 rfl ?_
      intro B hK g21
      replace o4 := o4.up hK
      replace h16 := h16.up hK
      replace hB := hB.trans hK
      obtain ⟨y22, hy22, h⟩ := Option.bind_eq_some_iff.1 h
      refine WO.c1 rfl rfl (gabionref15_Blocks_ok g21 hy22) rfl rfl rfl ?_
      rintro _ B _ hK ⟨v23, b24, n25, c26, rfl, rfl, h27⟩
      obtain ⟨_, _, _, _, _, rfl⟩ := h27.isl
      replace g21 := g21.up hK
      replace o4 := o4.up hK
      replace h16 := h16.up hK
      replace hB := hB.trans hK
      refine WO.q (.as (v := .sl _ _ _ _ _ _) rfl) rfl rfl ?_
      refine WO.nil ?_
      refine WX.seq ?_
      refine WX.reg ?_
      refine WO.q (.mv (v := .sl _ _ _ _ _ _) rfl) rfl rfl ?_
      refine WO.q (.mv (v := .sl _ _ _ _ _ _) rfl) rfl rfl ?_
      obtain ⟨y28, hy28, h⟩ := Option.bind_eq_some_iff.1 h
      refine WO.md (MOp.app rfl rfl rfl sl22 h16 (Src.o (i := 0) sl22 h27 rfl) hy28 rfl rfl (fun _ => (.t .h))) rfl rfl ?_
      rintro v32 _ ⟨b29, n30, o31, rfl⟩
      obtain ⟨_, _, _, _, _, rfl⟩ := o31.isl
      refine WO.q (.as (v := .sl _ _ _ _ _ _) rfl) rfl rfl ?_
      refine WO.nil ?_
      refine WX.seq ?_
      refine WX.reg ?_
      refine WO.q (.mv (v := .sl _ _ _ _ _ _) rfl) rfl rfl ?_
      refine WO.fz (j := 1) o31 rfl ?_
      intro B hK g33
      replace o4 := o4.up hK
      replace h27 := h27.up hK
      replace hB := hB.trans hK
      obtain ⟨y34, hy34, h⟩ := Option.bind_eq_some_iff.1 h
      refine WO.c1 rfl rfl (gabionref15_Runs_ok g33 hy34) rfl rfl rfl ?_
      rintro _ B _ hK ⟨v35, b36, n37, c38, rfl, rfl, h39⟩
      obtain ⟨_, _, _, _, _, rfl⟩ := h39.isl
      replace g33 := g33.up hK
      replace o4 := o4.up hK
      replace h27 := h27.up hK
      replace hB := hB.trans hK
      refine WO.q (.as (v := .sl _ _ _ _ _ _) rfl) rfl rfl ?_
      refine WO.nil ?_
      refine WX.seq ?_
      refine WX.reg ?_
      refine WO.q (.mv (v := .sl _ _ _ _ _ _) rfl) rfl rfl ?_
      obtain ⟨y40, hy40, h⟩ := Option.bind_eq_some_iff.1 h
      refine WO.cS rfl rfl (lendC (j := 0) h39 rfl fun _ K42 g41 => gabionref15_Right_ok g41 hy40) rfl rfl rfl ?_
      rintro _ rfl
      refine WO.q (.as (v := .bool _) rfl) rfl rfl ?_
      refine WO.nil ?_
      refine WX.seq ?_
      refine WX.seq ?_
      refine WX.reg ?_
      refine WO.q (.mv (v := .bool _) rfl) rfl rfl ?_
      refine WO.q (.r fun _ => rfl) rfl rfl ?_
      refine WO.nil ?_
      rcases bsp y40 with k43 | k43
      · replace h := (if_pos k43).symm.trans h
        refine WX.condF rfl (f_not k43) ?_
        refine WX.skip ?_
        refine WX.seq ?_
        refine WX.reg ?_
        refine WO.q (.mv (v := .sl _ _ _ _ _ _) rfl) rfl rfl ?_
        refine WO.q (.as (v := .sl _ _ _ _ _ _) rfl) rfl rfl ?_
        refine WO.q (.as (v := .int _ _) rfl) rfl rfl ?_
        refine WO.nil ?_
        obtain rfl := Option.some.inj h
        exact WX.ret (rs_ (rs_tmp rfl (rs_tmp rfl rs_nil))) fun st hp => ⟨_, _, hB, (hp.pk [0] (by decide)), _, _, n37, _, rfl, rfl, h39⟩
      · replace h := (if_neg (bnt k43)).symm.trans h
        refine WX.condT rfl (t_not k43) ?_
        refine WX.seq ?_
        refine WX.reg ?_
        refine WO.q (.as (v := .sl _ _ _ _ _ _) rfl) rfl rfl ?_
        refine WO.q (.as (v := .int _ _) rfl) rfl rfl ?_
        refine WO.nil ?_
        obtain rfl := Option.some.inj h
        exact WX.ret (rs_ (rs_tmp rfl (rs_tmp rfl rs_nil))) fun st hp => ⟨_, _, hB, ((hp.pk [] (by decide)).skip 0), _, 0, true, [], rfl, rfl, OSl.none _ _⟩
    · replace h := (if_neg (bnt k10)).symm.trans h
      refine WX.condT rfl (t_not k10) ?_
      refine WX.seq ?_
      refine WX.reg ?_
      refine WO.q (.as (v := .sl _ _ _ _ _ _) rfl) rfl rfl ?_
      refine WO.q (.as (v := .int _ _) rfl) rfl rfl ?_
      refine WO.nil ?_
      obtain rfl := Option.some.inj h
      exact WX.ret (rs_ (rs_tmp rfl (rs_tmp rfl rs_nil))) fun st hp => ⟨_, _, hB, ((hp.pk [] (by decide)).skip 0), _, 0, true, [], rfl, rfl, OSl.none _ _⟩
  · replace h := (if_neg (bnt k2)).symm.trans h
    refine WX.condT rfl (t_not k2) ?_
    refine WX.seq ?_
    refine WX.reg ?_
    refine WO.q (.as (v := .sl _ _ _ _ _ _) rfl) rfl rfl ?_
    refine WO.q (.as (v := .int _ _) rfl) rfl rfl ?_
    refine WO.nil ?_
    obtain rfl := Option.some.inj h
    exact WX.ret (rs_ (rs_tmp rfl (rs_tmp rfl rs_nil))) fun st hp => ⟨_, _, hB, ((hp.pk [] (by decide)).skip 0), _, 0, true, [], rfl, rfl, OSl.none _ _⟩
def gabionref15_Fill_P (B : Kn) (L : Own) (r : (List (Int × Int)) × Int) : AV → St → Prop := C1 B L fun B' v e0 => ∃ w0 b0 n0 c0, v = .tup [w0, .int .i64 r.2] ∧ e0 = oe b0 n0 c0 ∧ OSl EPIi64Ii64Q B' w0 b0 n0 c0 r.1
def gabionref15_Fill_l0_I (B0 : Kn) (x1 : Int) (x2 : Int) (x3 : Int) (x11 : List Int) (x12 : List Int) (x13 : Int) : Fr → Kn → Own → Prop := fun fr B A => KLe B0 B ∧ ∃ v21 b21 n21 c21 v22 b22 n22 c22, OSl (Ty.int .i64) B v21 b21 n21 c21 x11 ∧ OSl (Ty.int .i64) B v22 b22 n22 c22 x12 ∧ fr = [(1, .int .i64 x1), (2, .int .i64 x2), (3, .int .i64 x3), (11, v21), (12, v22), (13, .int .i64 x13)] ∧ A = [oe b21 n21 c21, oe b22 n22 c22]
def gabionref15_Fill_l0_X0 (B0 : Kn) (x12 : List Int) : Fr → Kn → Own → Prop := fun fr B A => KLe B0 B ∧ ∃ v47 b47 n47 c47, OSl (Ty.int .i64) B v47 b47 n47 c47 x12 ∧ fr = [(12, v47)] ∧ A = [oe b47 n47 c47]
def gabionref15_Fill_j5_I (B0 : Kn) (x1 : Int) (x2 : Int) (x3 : Int) (x11 : List Int) (x44 : Bool) : Fr → Kn → Own → Prop := fun fr B A => KLe B0 B ∧ ∃ v13 b13 n13 c13, OSl (Ty.int .i64) B v13 b13 n13 c13 x11 ∧ fr = [(1, .int .i64 x1), (2, .int .i64 x2), (3, .int .i64 x3), (11, v13), (44, .bool x44)] ∧ A = [oe b13 n13 c13]
def gabionref15_Fill_j2_I (B0 : Kn) (x0 : List (Int × Int)) (x1 : Int) (x2 : Int) (x3 : Int) (x30 : Bool) : Fr → Kn → Own → Prop := fun fr B A => KLe B0 B ∧ ∃ v4, RSl EPIi64Ii64Q B v4 x0 ∧ fr = [(0, v4), (1, .int .i64 x1), (2, .int .i64 x2), (3, .int .i64 x3), (30, .bool x30)] ∧ A = []
theorem gabionref15_Fill_l0_s {B0 : Kn} {L : Own} {n0 : Nat} {x1 : Int} {x2 : Int} {x3 : Int} {x11 : List Int} {x12 : List Int} {x13 : Int} {Q : AV → St → Prop} {E : ((List Int) × Int) ⊕ (((List (Int × Int)) × Int) ⊕ (List Int)) → Prop} {o : ((List Int) × Int) ⊕ (((List (Int × Int)) × Int) ⊕ (List Int))} (h : gabionref15_Fill_l0 x1 x2 x3 x11 x12 x13 = some o) (hn : ∀ s, E (.inl s) → WXI Try.prog 75 n0 (Fin Try.prog Try.f31.results.toList n0 Q) [.lp (ct [1, 1, 1, 1, 1, 1, 1, 0, 1, 0, 0] (bodyOf Try.f31)), .blk 0, .code (ct [1, 1, 1, 1, 1, 1, 1, 1] (bodyOf Try.f31))] (gabionref15_Fill_l0_I B0 x1 x2 x3 x11 s.1 s.2) L) (hx0 : ∀ s, E (.inr (.inr s)) → WXI Try.prog 75 n0 (Fin Try.prog Try.f31.results.toList n0 Q) [.code (ct [1, 1, 1, 1, 1, 1, 1, 1] (bodyOf Try.f31))] (gabionref15_Fill_l0_X0 B0 s) L) (hr : ∀ r, E (.inr (.inl r)) → ∀ v st, gabionref15_Fill_P B0 L r v st → Q v st) (hE : E o) : WXI Try.prog 75 n0 (Fin Try.prog Try.f31.results.toList n0 Q) [.code (ct [1, 1, 1, 1, 1, 1, 1, 0, 1, 0, 0] (bodyOf Try.f31)), .lp (ct [1, 1, 1, 1, 1, 1, 1, 0, 1, 0, 0] (bodyOf Try.f31)), .blk 0, .code (ct [1, 1, 1, 1, 1, 1, 1, 1] (bodyOf Try.f31))] (gabionref15_Fill_l0_I B0 x1 x2 x3 x11 x12 x13) L := by
  unfold gabionref15_Fill_l0 at h
  rintro _ B _ ⟨hB, v21, b21, n21, c21, v22, b22, n22, c22, h21, h22, rfl, rfl⟩
  obtain ⟨_, _, _, _, _, rfl⟩ := h21.isl
  obtain ⟨_, _, _, _, _, rfl⟩ := h22.isl
  refine WX.seq ?_
  refine WX.seq ?_
  refine WX.reg ?_
  refine WO.q (.mv (v := .int _ _) rfl) rfl rfl ?_
  refine WO.q (.mv (v := .int _ _) rfl) rfl rfl ?_
  refine WO.q (.r fun _ => rfl) rfl rfl ?_
  refine WO.nil ?_
  rcases bsp (decide (x13 < x3)) with k23 | k23
  · have q_k23 := of_decide_eq_true k23
    replace h := (if_pos q_k23).symm.trans h
    refine WX.condT rfl k23 ?_
    refine WX.skip ?_
    refine WX.seq ?_
    refine WX.block ?_
    refine WX.seq ?_
    refine WX.seq ?_
    refine WX.reg ?_
    refine WO.q (.mv (v := .sl _ _ _ _ _ _) rfl) rfl rfl ?_
    refine WO.q (.mv (v := .int _ _) rfl) rfl rfl ?_
    refine WO.q (.mv (v := .int _ _) rfl) rfl rfl ?_
    refine WO.q (.r fun _ => rfl) rfl rfl ?_
    obtain ⟨y24, hy24, h⟩ := Option.bind_eq_some_iff.1 h
    obtain rfl := h21.nonnil hy24
    obtain ⟨_, i_y24, l_y24, r_y24⟩ := h21.at sl22 hy24 .i64
    obtain rfl := r_y24
    refine WO.q (.ia i_y24) rfl rfl ?_
    refine WO.q (.ldS (i := 0) rfl rfl (l_y24.g0 rfl) ti3 rfl) rfl rfl ?_
    refine WO.q (.r fun _ => rfl) rfl rfl ?_
    refine WO.nil ?_
    rcases bsp (decide (y24 ≠ (-1))) with k25 | k25
    · have q_k25 := of_decide_eq_true k25
      replace h := (if_pos q_k25).symm.trans h
      refine WX.condT rfl k25 ?_
      refine WX.seq ?_
      refine WX.reg ?_
      refine WO.q (.as (v := .sl _ _ _ _ _ _) rfl) rfl rfl ?_
      refine WO.q (.as (v := .int _ _) rfl) rfl rfl ?_
      refine WO.nil ?_
      obtain rfl := Option.some.inj h
      exact WX.ret (rs_ (rs_tmp rfl (rs_tmp rfl rs_nil))) fun st hp => hr _ hE _ _ ⟨_, _, hB, ((hp.pk [] (by decide)).skip 0), _, 0, true, [], rfl, rfl, OSl.none _ _⟩
    · have q_k25 := of_decide_eq_false k25
      replace h := (if_neg q_k25).symm.trans h
      refine WX.condF rfl k25 ?_
      refine WX.skip ?_
      refine WX.reg ?_
      refine WO.q (.mv (v := .sl _ _ _ _ _ _) rfl) rfl rfl ?_
      refine WO.q (.mv (v := .int _ _) rfl) rfl rfl ?_
      refine WO.q (.mv (v := .int _ _) rfl) rfl rfl ?_
      refine WO.q (.r fun _ => rfl) rfl rfl ?_
      refine WO.q (.mv (v := .int _ _) rfl) rfl rfl ?_
      refine WO.q (.mv (v := .int _ _) rfl) rfl rfl ?_
      refine WO.q (.r fun _ => rfl) rfl rfl ?_
      obtain ⟨y26, hy26, h⟩ := Option.bind_eq_some_iff.1 h
      obtain rfl := h22.nonnil hy26
      obtain ⟨_, i_y26, l_y26, r_y26⟩ := h22.at sl22 hy26 .i64
      obtain rfl := r_y26
      refine WO.q (.ia i_y26) rfl rfl ?_
      refine WO.mn (MOp.ostW (x' := (wi64 (x2 + x13))) rfl (cI rfl) (fun _ => (.t .h)) ti3 rfl rfl h22 hy26 Ri) rfl ?_
      rintro _ _ ⟨c28, o27, rfl⟩
      refine WO.nil ?_
      refine WX.pop ?_
      refine WX.reg ?_
      refine WO.q (.mv (v := .int _ _) rfl) rfl rfl ?_
      refine WO.q (.r fun _ => rfl) rfl rfl ?_
      refine WO.q (.as (v := .int _ _) rfl) rfl rfl ?_
      refine WO.nil ?_
      refine WX.keepL [1, 2, 3, 11, 12, 13] (WX.pk [0, 1] (by decide) ?_) rfl
      obtain rfl := Option.some.inj h
      exact hn _ hE _ _ _ ⟨hB, _, _, false, _, _, _, false, _, h21, o27, rfl, rfl⟩
  · have q_k23 := of_decide_eq_false k23
    replace h := (if_neg q_k23).symm.trans h
    refine WX.condF rfl k23 ?_
    refine WX.exit rfl ?_
    refine WX.keep [12] (WX.pk [1] (by decide) ?_) rfl
    obtain rfl := Option.some.inj h
    exact hx0 _ hE _ _ _ ⟨hB, _, _, n22, _, h22, rfl, rfl⟩
theorem gabionref15_Fill_l0_ok {B0 : Kn} {L : Own} {n0 : Nat} {x1 : Int} {x2 : Int} {x3 : Int} {x11 : List Int} {x12 : List Int} {x13 : Int} {Q : AV → St → Prop} {d : Nat} {e : ((List (Int × Int)) × Int) ⊕ (List Int)} (h : iter (fun (s : (List Int) × Int) => gabionref15_Fill_l0 x1 x2 x3 x11 s.1 s.2) d (x12, x13) = some e) (g0 : ∀ r, e = (.inl r) → ∀ v st, gabionref15_Fill_P B0 L r v st → Q v st) (g1 : ∀ s, e = (.inr s) → WXI Try.prog 75 n0 (Fin Try.prog Try.f31.results.toList n0 Q) [.code (ct [1, 1, 1, 1, 1, 1, 1, 1] (bodyOf Try.f31))] (gabionref15_Fill_l0_X0 B0 s) L) : WXI Try.prog 75 n0 (Fin Try.prog Try.f31.results.toList n0 Q) [.code (ct [1, 1, 1, 1, 1, 1, 1, 0, 1, 0, 0] (bodyOf Try.f31)), .lp (ct [1, 1, 1, 1, 1, 1, 1, 0, 1, 0, 0] (bodyOf Try.f31)), .blk 0, .code (ct [1, 1, 1, 1, 1, 1, 1, 1] (bodyOf Try.f31))] (gabionref15_Fill_l0_I B0 x1 x2 x3 x11 x12 x13) L :=
  iter_ok (I := fun s => gabionref15_Fill_l0_I B0 x1 x2 x3 x11 s.1 s.2) (D := fun e => (∀ r, e = (.inl r) → ∀ v st, gabionref15_Fill_P B0 L r v st → Q v st) ∧ (∀ s, e = (.inr s) → WXI Try.prog 75 n0 (Fin Try.prog Try.f31.results.toList n0 Q) [.code (ct [1, 1, 1, 1, 1, 1, 1, 1] (bodyOf Try.f31))] (gabionref15_Fill_l0_X0 B0 s) L)) (fun E hn hx s o ho hE => gabionref15_Fill_l0_s ho hn (fun s hs => (hx _ hs).2 _ rfl) (fun r hs => (hx _ hs).1 _ rfl) hE) h ⟨g0, g1⟩
theorem gabionref15_Fill_j5_ok {B0 : Kn} {L : Own} {n0 : Nat} {x1 : Int} {x2 : Int} {x3 : Int} {x11 : List Int} {x44 : Bool} {r : (List (Int × Int)) × Int} (h : gabionref15_Fill_j5 x1 x2 x3 x11 x44 = some r) : WXI Try.prog 75 n0 (Fin Try.prog Try.f31.results.toList n0 (gabionref15_Fill_P B0 L r)) [.code (ct [1, 1, 1, 1, 0, 1] (bodyOf Try.f31)), .code (ct [1, 1, 1, 1, 1] (bodyOf Try.f31))] (gabionref15_Fill_j5_I B0 x1 x2 x3 x11 x44) L := by
  unfold gabionref15_Fill_j5 at h
  rintro _ B _ ⟨hB, v13, b13, n13, c13, h13, rfl, rfl⟩
  obtain ⟨_, _, _, _, _, rfl⟩ := h13.isl
  rcases bsp x44 with k14 | k14
  · replace h := (if_pos k14).symm.trans h
    refine WX.condT rfl k14 ?_
    refine WX.seq ?_
    refine WX.reg ?_
    refine WO.q (.as (v := .sl _ _ _ _ _ _) rfl) rfl rfl ?_
    refine WO.q (.as (v := .int _ _) rfl) rfl rfl ?_
    refine WO.nil ?_
    obtain rfl := Option.some.inj h
    exact WX.ret (rs_ (rs_tmp rfl (rs_tmp rfl rs_nil))) fun st hp => ⟨_, _, hB, ((hp.pk [] (by decide)).skip 0), _, 0, true, [], rfl, rfl, OSl.none _ _⟩
  · replace h := (if_neg (bnt k14)).symm.trans h
    refine WX.condF rfl k14 ?_
    refine WX.skip ?_
    refine WX.seq ?_
    refine WX.reg ?_
    refine WO.q (.as (v := .sl _ _ _ _ _ _) rfl) rfl rfl ?_
    refine WO.nil ?_
    refine WX.seq ?_
    refine WX.reg ?_
    refine WO.q (.mv (v := .sl _ _ _ _ _ _) rfl) rfl rfl ?_
    refine WO.q (.mv (v := .sl _ _ _ _ _ _) rfl) rfl rfl ?_
    refine WO.addn ?_
    obtain ⟨y16, hy16, h⟩ := Option.bind_eq_some_iff.1 h
    refine WO.md (MOp.app rfl rfl rfl sl22 (OSl.none (Ty.int .i64) _) (Src.o (i := 1) sl22 h13 rfl) hy16 rfl rfl (fun _ => .h)) rfl rfl ?_
    rintro v20 _ ⟨b17, n18, o19, rfl⟩
    obtain ⟨_, _, _, _, _, rfl⟩ := o19.isl
    refine WO.q (.as (v := .sl _ _ _ _ _ _) rfl) rfl rfl ?_
    refine WO.nil ?_
    refine WX.seq ?_
    refine WX.seq ?_
    refine WX.reg ?_
    refine WO.q (.as (v := .int _ _) rfl) rfl rfl ?_
    refine WO.nil ?_
    refine WX.block ?_
    refine WX.loop ?_
    obtain ⟨e30, he30, h⟩ := Option.bind_eq_some_iff.1 h
    refine WX.keep [1, 2, 3, 11, 12, 13] (WX.pk [1, 0] (by decide) ?_) rfl
    refine gabionref15_Fill_l0_ok he30 ?_ ?_ _ _ _ ⟨hB, _, _, n13, _, _, _, n18, _, h13, o19, rfl, rfl⟩
    · intro r32 he_
      subst he_
      replace h := (on_l h)
      obtain rfl := Option.some.inj h
      exact fun v st hp => hp
    · intro x33 he_
      subst he_
      replace h := (on_r h)
      rintro _ B _ ⟨hB, v34, b34, n34, c34, h34, rfl, rfl⟩
      obtain ⟨_, _, _, _, _, rfl⟩ := h34.isl
      refine WX.seq ?_
      refine WX.reg ?_
      refine WO.q (.mv (v := .sl _ _ _ _ _ _) rfl) rfl rfl ?_
      refine WO.fz (j := 0) h34 rfl ?_
      intro B hK g35
      replace hB := hB.trans hK
      obtain ⟨y36, hy36, h⟩ := Option.bind_eq_some_iff.1 h
      refine WO.c1 rfl rfl (gabionref15_Runs_ok g35 hy36) rfl rfl rfl ?_
      rintro _ B _ hK ⟨v37, b38, n39, c40, rfl, rfl, h41⟩
      obtain ⟨_, _, _, _, _, rfl⟩ := h41.isl
      replace g35 := g35.up hK
      replace hB := hB.trans hK
      refine WO.q (.as (v := .sl _ _ _ _ _ _) rfl) rfl rfl ?_
      refine WO.nil ?_
      refine WX.seq ?_
      refine WX.reg ?_
      refine WO.q (.mv (v := .sl _ _ _ _ _ _) rfl) rfl rfl ?_
      obtain ⟨y42, hy42, h⟩ := Option.bind_eq_some_iff.1 h
      refine WO.cS rfl rfl (lendC (j := 0) h41 rfl fun _ K44 g43 => gabionref15_Right_ok g43 hy42) rfl rfl rfl ?_
      rintro _ rfl
      refine WO.q (.as (v := .bool _) rfl) rfl rfl ?_
      refine WO.nil ?_
      refine WX.seq ?_
      refine WX.seq ?_
      refine WX.reg ?_
      refine WO.q (.mv (v := .bool _) rfl) rfl rfl ?_
      refine WO.q (.r fun _ => rfl) rfl rfl ?_
      refine WO.nil ?_
      rcases bsp y42 with k45 | k45
      · replace h := (if_pos k45).symm.trans h
        refine WX.condF rfl (f_not k45) ?_
        refine WX.skip ?_
        refine WX.seq ?_
        refine WX.reg ?_
        refine WO.q (.mv (v := .sl _ _ _ _ _ _) rfl) rfl rfl ?_
        refine WO.q (.as (v := .sl _ _ _ _ _ _) rfl) rfl rfl ?_
        refine WO.q (.as (v := .int _ _) rfl) rfl rfl ?_
        refine WO.nil ?_
        obtain rfl := Option.some.inj h
        exact WX.ret (rs_ (rs_tmp rfl (rs_tmp rfl rs_nil))) fun st hp => ⟨_, _, hB, (hp.pk [0] (by decide)), _, _, n39, _, rfl, rfl, h41⟩
      · replace h := (if_neg (bnt k45)).symm.trans h
        refine WX.condT rfl (t_not k45) ?_
        refine WX.seq ?_
        refine WX.reg ?_
        refine WO.q (.as (v := .sl _ _ _ _ _ _) rfl) rfl rfl ?_
        refine WO.q (.as (v := .int _ _) rfl) rfl rfl ?_
        refine WO.nil ?_
        obtain rfl := Option.some.inj h
        exact WX.ret (rs_ (rs_tmp rfl (rs_tmp rfl rs_nil))) fun st hp => ⟨_, _, hB, ((hp.pk [] (by decide)).skip 0), _, 0, true, [], rfl, rfl, OSl.none _ _⟩
theorem gabionref15_Fill_j2_ok {B0 : Kn} {L : Own} {n0 : Nat} {x0 : List (Int × Int)} {x1 : Int} {x2 : Int} {x3 : Int} {x30 : Bool} {r : (List (Int × Int)) × Int} (h : gabionref15_Fill_j2 x0 x1 x2 x3 x30 = some r) : WXI Try.prog 75 n0 (Fin Try.prog Try.f31.results.toList n0 (gabionref15_Fill_P B0 L r)) [.code (ct [1, 1, 0, 1] (bodyOf Try.f31)), .code (ct [1, 1, 1] (bodyOf Try.f31))] (gabionref15_Fill_j2_I B0 x0 x1 x2 x3 x30) L := by
  unfold gabionref15_Fill_j2 at h
  rintro _ B _ ⟨hB, v4, h4, rfl, rfl⟩
  obtain ⟨_, _, _, _, _, rfl⟩ := h4.isl
  rcases bsp x30 with k5 | k5
  · replace h := (if_pos k5).symm.trans h
    refine WX.condT rfl k5 ?_
    refine WX.seq ?_
    refine WX.reg ?_
    refine WO.q (.as (v := .sl _ _ _ _ _ _) rfl) rfl rfl ?_
    refine WO.q (.as (v := .int _ _) rfl) rfl rfl ?_
    refine WO.nil ?_
    obtain rfl := Option.some.inj h
    exact WX.ret (rs_ (rs_tmp rfl (rs_tmp rfl rs_nil))) fun st hp => ⟨_, _, hB, ((hp.pk [] (by decide)).skip 0), _, 0, true, [], rfl, rfl, OSl.none _ _⟩
  · replace h := (if_neg (bnt k5)).symm.trans h
    refine WX.condF rfl k5 ?_
    refine WX.skip ?_
    refine WX.seq ?_
    refine WX.reg ?_
    refine WO.q (.mv (v := .sl _ _ _ _ _ _) rfl) rfl rfl ?_
    obtain ⟨y6, hy6, h⟩ := Option.bind_eq_some_iff.1 h
    refine WO.c1 rfl rfl (gabionref15_Blocks_ok h4 hy6) rfl rfl rfl ?_
    rintro _ B _ hK ⟨v7, b8, n9, c10, rfl, rfl, h11⟩
    obtain ⟨_, _, _, _, _, rfl⟩ := h11.isl
    replace h4 := h4.up hK
    replace hB := hB.trans hK
    refine WO.q (.as (v := .sl _ _ _ _ _ _) rfl) rfl rfl ?_
    refine WO.nil ?_
    refine WX.seq ?_
    refine WX.seq ?_
    refine WX.reg ?_
    refine WO.q (.mv (v := .int _ _) rfl) rfl rfl ?_
    refine WO.q (.mv (v := .sl _ _ _ _ _ _) rfl) rfl rfl ?_
    refine WO.q (.len rfl rfl rfl (sl22.len h11.isl)) rfl rfl ?_
    refine WO.q (.r fun _ => rfl) rfl rfl ?_
    refine WO.q (.mv (v := .bool _) rfl) rfl rfl ?_
    rcases bsp (decide ((y6.length : Int) < x3)) with k12 | k12
    · have q_k12 := of_decide_eq_true k12
      replace h := (if_pos q_k12).symm.trans h
      refine WO.sd (wg rfl rfl (gfn k12)) rfl ?_
      refine WO.sd (wg rfl rfl (gfn k12)) rfl ?_
      refine WO.sd (wg rfl rfl (gfn k12)) rfl ?_
      refine WO.sd (wg rfl rfl (gfn k12)) rfl ?_
      refine WO.sd (wg rfl rfl (gfn k12)) rfl ?_
      refine WO.sd (wg rfl rfl (gfn k12)) rfl ?_
      refine WO.q (.ptv (v := .bool _) rfl k12 rfl) rfl rfl ?_
      refine WO.nil ?_
      refine WX.keep [1, 2, 3, 11, 44] (WX.pk [0] (by decide) ?_) rfl
      exact gabionref15_Fill_j5_ok h _ _ _ ⟨hB, _, _, n9, _, h11, rfl, rfl⟩
    · have q_k12 := of_decide_eq_false k12
      replace h := (if_neg q_k12).symm.trans h
      refine WO.q (.mv (v := .int _ _) rfl) (wg rfl rfl (gf k12)) rfl ?_
      refine WO.q (.mv (v := .sl _ _ _ _ _ _) rfl) (wg rfl rfl (gf k12)) rfl ?_
      refine WO.q (.len rfl rfl rfl (sl22.len h11.isl)) (wg rfl rfl (gf k12)) rfl ?_
      refine WO.q (.mv (v := .int _ _) rfl) (wg rfl rfl (gf k12)) rfl ?_
      refine WO.q (.r fun _ => rfl) (wg rfl rfl (gf k12)) rfl ?_
      refine WO.q (.r fun _ => rfl) (wg rfl rfl (gf k12)) rfl ?_
      refine WO.q (.pfv (v := .bool _) rfl k12 rfl) rfl rfl ?_
      refine WO.nil ?_
      refine WX.keep [1, 2, 3, 11, 44] (WX.pk [0] (by decide) ?_) rfl
      exact gabionref15_Fill_j5_ok h _ _ _ ⟨hB, _, _, n9, _, h11, rfl, rfl⟩
theorem gabionref15_Fill_ok {B0 : Kn} {L : Own} {a0 : List (Int × Int)} {a1 : Int} {a2 : Int} {a3 : Int} {v0_0 : AV} {r : (List (Int × Int)) × Int} (g0_0 : RSl EPIi64Ii64Q B0 v0_0 a0) (h : gabionref15_Fill a0 a1 a2 a3 = some r) : ∀ st, Hp B0 L st → ASpec Try.prog 31 [v0_0, .int .i64 a1, .int .i64 a2, .int .i64 a3] st (gabionref15_Fill_P B0 L r) := by
  unfold gabionref15_Fill at h
  refine bodyA (A := []) Try.func31 rfl (c := bodyOf Try.f31) rfl Try.ntmps31 (lb rfl) fun n0 => ?_
  have hB := KLe.refl B0
  obtain ⟨_, _, _, _, _, rfl⟩ := g0_0.isl
  refine WX.seq ?_
  refine WX.reg ?_
  refine WO.q (.as (v := .sl _ _ _ _ _ _) rfl) rfl rfl ?_
  refine WO.q (.as (v := .int _ _) rfl) rfl rfl ?_
  refine WO.nil ?_
  refine WX.seq ?_
  refine WX.reg ?_
  refine WO.q (.mv (v := .sl _ _ _ _ _ _) rfl) rfl rfl ?_
  obtain ⟨y1, hy1, h⟩ := Option.bind_eq_some_iff.1 h
  refine WO.cS rfl rfl (gabionref15_Right_ok g0_0 hy1) rfl rfl rfl ?_
  rintro _ rfl
  refine WO.q (.as (v := .bool _) rfl) rfl rfl ?_
  refine WO.nil ?_
  refine WX.seq ?_
  refine WX.seq ?_
  refine WX.reg ?_
  refine WO.q (.mv (v := .bool _) rfl) rfl rfl ?_
  refine WO.q (.r fun _ => rfl) rfl rfl ?_
  refine WO.q (.mv (v := .bool _) rfl) rfl rfl ?_
  rcases bsp y1 with k2 | k2
  · replace h := (if_pos k2).symm.trans h
    refine WO.q (.mv (v := .int _ _) rfl) (wg rfl rfl (gf (f_not k2))) rfl ?_
    refine WO.q (.r fun _ => rfl) (wg rfl rfl (gf (f_not k2))) rfl ?_
    refine WO.q (.pfv (v := .bool _) rfl (f_not k2) rfl) rfl rfl ?_
    refine WO.q (.mv (v := .bool _) rfl) rfl rfl ?_
    rcases bsp (decide (a2 < 0)) with k3 | k3
    · have q_k3 := of_decide_eq_true k3
      replace h := (if_pos q_k3).symm.trans h
      refine WO.sd (wg rfl rfl (gfn k3)) rfl ?_
      refine WO.sd (wg rfl rfl (gfn k3)) rfl ?_
      refine WO.q (.ptv (v := .bool _) rfl k3 rfl) rfl rfl ?_
      refine WO.q (.mv (v := .bool _) rfl) rfl rfl ?_
      refine WO.sd (wg rfl rfl (gfn rfl)) rfl ?_
      refine WO.sd (wg rfl rfl (gfn rfl)) rfl ?_
      refine WO.q (.ptv (v := .bool _) rfl rfl rfl) rfl rfl ?_
      refine WO.nil ?_
      refine WX.keep [0, 1, 2, 3, 30] (WX.pk [] (by decide) ?_) rfl
      exact gabionref15_Fill_j2_ok h _ _ _ ⟨hB, _, g0_0, rfl, rfl⟩
    · have q_k3 := of_decide_eq_false k3
      replace h := (if_neg q_k3).symm.trans h
      refine WO.q (.mv (v := .int _ _) rfl) (wg rfl rfl (gf k3)) rfl ?_
      refine WO.q (.r fun _ => rfl) (wg rfl rfl (gf k3)) rfl ?_
      refine WO.q (.pfv (v := .bool _) rfl k3 rfl) rfl rfl ?_
      refine WO.q (.mv (v := .bool _) rfl) rfl rfl ?_
      rcases bsp (decide (a3 < 1)) with k46 | k46
      · have q_k46 := of_decide_eq_true k46
        replace h := (if_pos q_k46).symm.trans h
        refine WO.sd (wg rfl rfl (gfn k46)) rfl ?_
        refine WO.sd (wg rfl rfl (gfn k46)) rfl ?_
        refine WO.q (.ptv (v := .bool _) rfl k46 rfl) rfl rfl ?_
        refine WO.nil ?_
        refine WX.keep [0, 1, 2, 3, 30] (WX.pk [] (by decide) ?_) rfl
        exact gabionref15_Fill_j2_ok h _ _ _ ⟨hB, _, g0_0, rfl, rfl⟩
      · have q_k46 := of_decide_eq_false k46
        replace h := (if_neg q_k46).symm.trans h
        refine WO.q (.mv (v := .int _ _) rfl) (wg rfl rfl (gf k46)) rfl ?_
        refine WO.q (.r fun _ => rfl) (wg rfl rfl (gf k46)) rfl ?_
        refine WO.q (.pfv (v := .bool _) rfl k46 rfl) rfl rfl ?_
        refine WO.nil ?_
        refine WX.keep [0, 1, 2, 3, 30] (WX.pk [] (by decide) ?_) rfl
        exact gabionref15_Fill_j2_ok h _ _ _ ⟨hB, _, g0_0, rfl, rfl⟩
  · replace h := (if_neg (bnt k2)).symm.trans h
    refine WO.sd (wg rfl rfl (gfn (t_not k2))) rfl ?_
    refine WO.sd (wg rfl rfl (gfn (t_not k2))) rfl ?_
    refine WO.q (.ptv (v := .bool _) rfl (t_not k2) rfl) rfl rfl ?_
    refine WO.q (.mv (v := .bool _) rfl) rfl rfl ?_
    refine WO.sd (wg rfl rfl (gfn rfl)) rfl ?_
    refine WO.sd (wg rfl rfl (gfn rfl)) rfl ?_
    refine WO.q (.ptv (v := .bool _) rfl rfl rfl) rfl rfl ?_
    refine WO.q (.mv (v := .bool _) rfl) rfl rfl ?_
    refine WO.sd (wg rfl rfl (gfn rfl)) rfl ?_
    refine WO.sd (wg rfl rfl (gfn rfl)) rfl ?_
    refine WO.q (.ptv (v := .bool _) rfl rfl rfl) rfl rfl ?_
    refine WO.nil ?_
    refine WX.keep [0, 1, 2, 3, 30] (WX.pk [] (by decide) ?_) rfl
    exact gabionref15_Fill_j2_ok h _ _ _ ⟨hB, _, g0_0, rfl, rfl⟩
def gabionref15_Cut_P (B : Kn) (L : Own) (r : (List (Int × Int)) × (List (Int × Int)) × Int) : AV → St → Prop := C2 B L fun B' v e0 e1 => ∃ w0 b0 n0 c0 w1 b1 n1 c1, v = .tup [w0, w1, .int .i64 r.2.2] ∧ e0 = oe b0 n0 c0 ∧ OSl EPIi64Ii64Q B' w0 b0 n0 c0 r.1 ∧ e1 = oe b1 n1 c1 ∧ OSl EPIi64Ii64Q B' w1 b1 n1 c1 r.2.1
def gabionref15_Cut_j14_I (B0 : Kn) (x9 : List (Int × Int)) (x10 : List (Int × Int)) (x11 : List (Int × Int)) (x12 : Int) : Fr → Kn → Own → Prop := fun fr B A => KLe B0 B ∧ ∃ v43 b43 n43 c43 v44 b44 n44 c44 v45 b45 n45 c45, OSl EPIi64Ii64Q B v43 b43 n43 c43 x9 ∧ OSl EPIi64Ii64Q B v44 b44 n44 c44 x10 ∧ OSl EPIi64Ii64Q B v45 b45 n45 c45 x11 ∧ fr = [(9, v43), (10, v44), (11, v45), (12, .int .i64 x12)] ∧ A = [oe b43 n43 c43, oe b44 n44 c44, oe b45 n45 c45]
def gabionref15_Cut_l0_I (B0 : Kn) (x9 : List (Int × Int)) (x10 : List (Int × Int)) (x11 : List (Int × Int)) (x12 : Int) : Fr → Kn → Own → Prop := fun fr B A => KLe B0 B ∧ ∃ v27 b27 n27 c27 v28 b28 n28 c28 v29 b29 n29 c29, OSl EPIi64Ii64Q B v27 b27 n27 c27 x9 ∧ OSl EPIi64Ii64Q B v28 b28 n28 c28 x10 ∧ OSl EPIi64Ii64Q B v29 b29 n29 c29 x11 ∧ fr = [(9, v27), (10, v28), (11, v29), (12, .int .i64 x12)] ∧ A = [oe b27 n27 c27, oe b28 n28 c28, oe b29 n29 c29]
def gabionref15_Cut_l0_X0 (B0 : Kn) (x9 : List (Int × Int)) (x11 : List (Int × Int)) : Fr → Kn → Own → Prop := fun fr B A => KLe B0 B ∧ ∃ v52 b52 n52 c52 v53 b53 n53 c53, OSl EPIi64Ii64Q B v52 b52 n52 c52 x9 ∧ OSl EPIi64Ii64Q B v53 b53 n53 c53 x11 ∧ fr = [(9, v52), (11, v53)] ∧ A = [oe b52 n52 c52, oe b53 n53 c53]
def gabionref15_Cut_j5_I (B0 : Kn) (x1 : Int) (x8 : List Int) (x26 : Bool) : Fr → Kn → Own → Prop := fun fr B A => KLe B0 B ∧ ∃ v10 b10 n10 c10, OSl (Ty.int .i64) B v10 b10 n10 c10 x8 ∧ fr = [(1, .int .i64 x1), (8, v10), (26, .bool x26)] ∧ A = [oe b10 n10 c10]
theorem gabionref15_Cut_j14_ok {B0 : Kn} {L : Own} {n0 : Nat} {x9 : List (Int × Int)} {x10 : List (Int × Int)} {x11 : List (Int × Int)} {x12 : Int} {Q : AV → St → Prop} {E : ((List (Int × Int)) × Int) ⊕ (List (Int × Int)) → Prop} {o : ((List (Int × Int)) × Int) ⊕ (List (Int × Int))} (h : gabionref15_Cut_j14 x9 x10 x11 x12 = some o) (hn : ∀ s, E (.inl s) → WXI Try.prog 56 n0 (Fin Try.prog Try.f33.results.toList n0 Q) [.lp (ct [1, 1, 1, 1, 1, 1, 1, 1, 0, 1, 0, 0] (bodyOf Try.f33)), .blk 0, .code (ct [1, 1, 1, 1, 1, 1, 1, 1, 1] (bodyOf Try.f33))] (gabionref15_Cut_l0_I B0 x9 x10 s.1 s.2) L) (hx0 : ∀ s, E (.inr s) → WXI Try.prog 56 n0 (Fin Try.prog Try.f33.results.toList n0 Q) [.code (ct [1, 1, 1, 1, 1, 1, 1, 1, 1] (bodyOf Try.f33))] (gabionref15_Cut_l0_X0 B0 x9 s) L) (hE : E o) : WXI Try.prog 56 n0 (Fin Try.prog Try.f33.results.toList n0 Q) [.code (ct [1, 1, 1, 1, 1, 1, 1, 1, 0, 1, 0, 0, 1, 1] (bodyOf Try.f33)), .lp (ct [1, 1, 1, 1, 1, 1, 1, 1, 0, 1, 0, 0] (bodyOf Try.f33)), .blk 0, .code (ct [1, 1, 1, 1, 1, 1, 1, 1, 1] (bodyOf Try.f33))] (gabionref15_Cut_j14_I B0 x9 x10 x11 x12) L := by
  unfold gabionref15_Cut_j14 at h
  rintro _ B _ ⟨hB, v43, b43, n43, c43, v44, b44, n44, c44, v45, b45, n45, c45, h43, h44, h45, rfl, rfl⟩
  obtain ⟨_, _, _, _, _, rfl⟩ := h43.isl
  obtain ⟨_, _, _, _, _, rfl⟩ := h44.isl
  obtain ⟨_, _, _, _, _, rfl⟩ := h45.isl
  refine WX.reg ?_
  refine WO.q (.mv (v := .int _ _) rfl) rfl rfl ?_
  refine WO.q (.r fun _ => rfl) rfl rfl ?_
  refine WO.q (.as (v := .int _ _) rfl) rfl rfl ?_
  refine WO.nil ?_
  refine WX.keepL [9, 10, 11, 12] (WX.pk [0, 1, 2] (by decide) ?_) rfl
  obtain rfl := Option.some.inj h
  exact hn _ hE _ _ _ ⟨hB, _, _, n43, _, _, _, n44, _, _, _, n45, _, h43, h44, h45, rfl, rfl⟩
theorem gabionref15_Cut_l0_s {B0 : Kn} {L : Own} {n0 : Nat} {x9 : List (Int × Int)} {x10 : List (Int × Int)} {x11 : List (Int × Int)} {x12 : Int} {Q : AV → St → Prop} {E : ((List (Int × Int)) × Int) ⊕ (List (Int × Int)) → Prop} {o : ((List (Int × Int)) × Int) ⊕ (List (Int × Int))} (h : gabionref15_Cut_l0 x9 x10 x11 x12 = some o) (hn : ∀ s, E (.inl s) → WXI Try.prog 56 n0 (Fin Try.prog Try.f33.results.toList n0 Q) [.lp (ct [1, 1, 1, 1, 1, 1, 1, 1, 0, 1, 0, 0] (bodyOf Try.f33)), .blk 0, .code (ct [1, 1, 1, 1, 1, 1, 1, 1, 1] (bodyOf Try.f33))] (gabionref15_Cut_l0_I B0 x9 x10 s.1 s.2) L) (hx0 : ∀ s, E (.inr s) → WXI Try.prog 56 n0 (Fin Try.prog Try.f33.results.toList n0 Q) [.code (ct [1, 1, 1, 1, 1, 1, 1, 1, 1] (bodyOf Try.f33))] (gabionref15_Cut_l0_X0 B0 x9 s) L) (hE : E o) : WXI Try.prog 56 n0 (Fin Try.prog Try.f33.results.toList n0 Q) [.code (ct [1, 1, 1, 1, 1, 1, 1, 1, 0, 1, 0, 0] (bodyOf Try.f33)), .lp (ct [1, 1, 1, 1, 1, 1, 1, 1, 0, 1, 0, 0] (bodyOf Try.f33)), .blk 0, .code (ct [1, 1, 1, 1, 1, 1, 1, 1, 1] (bodyOf Try.f33))] (gabionref15_Cut_l0_I B0 x9 x10 x11 x12) L := by
  unfold gabionref15_Cut_l0 at h
  rintro _ B _ ⟨hB, v27, b27, n27, c27, v28, b28, n28, c28, v29, b29, n29, c29, h27, h28, h29, rfl, rfl⟩
  obtain ⟨_, _, _, _, _, rfl⟩ := h27.isl
  obtain ⟨_, _, _, _, _, rfl⟩ := h28.isl
  obtain ⟨_, _, _, _, _, rfl⟩ := h29.isl
  refine WX.seq ?_
  refine WX.seq ?_
  refine WX.reg ?_
  refine WO.q (.mv (v := .int _ _) rfl) rfl rfl ?_
  refine WO.q (.mv (v := .sl _ _ _ _ _ _) rfl) rfl rfl ?_
  refine WO.q (.len rfl rfl rfl (sl40.len h28.isl)) rfl rfl ?_
  refine WO.q (.r fun _ => rfl) rfl rfl ?_
  refine WO.nil ?_
  rcases bsp (decide (x12 < (x10.length : Int))) with k30 | k30
  · have q_k30 := of_decide_eq_true k30
    replace h := (if_pos q_k30).symm.trans h
    refine WX.condT rfl k30 ?_
    refine WX.skip ?_
    refine WX.seq ?_
    refine WX.block ?_
    refine WX.seq ?_
    refine WX.reg ?_
    refine WO.q (.mv (v := .sl _ _ _ _ _ _) rfl) rfl rfl ?_
    refine WO.q (.mv (v := .int _ _) rfl) rfl rfl ?_
    obtain ⟨y31, hy31, h⟩ := Option.bind_eq_some_iff.1 h
    obtain rfl := h28.nonnil hy31
    obtain ⟨_, i_y31, l_y31, r_y31⟩ := h28.at sl40 hy31 .i64
    obtain ⟨_, _, rfl, rfl, rfl⟩ := r_y31
    refine WO.q (.ia i_y31) rfl rfl ?_
    refine WO.q (.ia (ia41_0 _ _)) rfl rfl ?_
    refine WO.q (.ldS (i := 1) rfl rfl (l_y31.g rfl) ti3 rfl) rfl rfl ?_
    refine WO.q (.r fun _ => rfl) rfl rfl ?_
    refine WO.nil ?_
    rcases bsp (decide (y31.1 ≠ (-1))) with k32 | k32
    · have q_k32 := of_decide_eq_true k32
      replace h := (if_pos q_k32).symm.trans h
      refine WX.condT rfl k32 ?_
      refine WX.reg ?_
      refine WO.q (.mv (v := .sl _ _ _ _ _ _) rfl) rfl rfl ?_
      refine WO.q (.mv (v := .sl _ _ _ _ _ _) rfl) rfl rfl ?_
      refine WO.q (.mv (v := .int _ _) rfl) rfl rfl ?_
      obtain ⟨y33, hy33, h⟩ := Option.bind_eq_some_iff.1 h
      obtain ⟨_, i_y33, l_y33, r_y33⟩ := h28.at sl40 hy33 .i64
      obtain ⟨_, _, rfl, rfl, rfl⟩ := r_y33
      refine WO.q (.ia i_y33) rfl rfl ?_
      refine WO.q (.leA (i := 1) rfl rfl l_y33 ti41 rfl rfl) rfl rfl ?_
      refine WO.md (MOp.bs (l := ([y33] : List (Int × Int))) sl40 (RL.cons (Rp Ri Ri) RL.nil) (lb rfl) rfl rfl) rfl rfl ?_
      rintro v36 _ ⟨b34, o35, rfl⟩
      obtain ⟨_, _, _, _, _, rfl⟩ := o35.isl
      obtain ⟨y38, hy38, h⟩ := Option.bind_eq_some_iff.1 h
      refine WO.md (MOp.app rfl rfl rfl sl40 h29 (Src.o (i := 0) sl40 o35 rfl) hy38 rfl rfl (fun _ => (.t (.t (.t .h))))) rfl rfl ?_
      rintro v42 _ ⟨b39, n40, o41, rfl⟩
      obtain ⟨_, _, _, _, _, rfl⟩ := o41.isl
      refine WO.q (.as (v := .sl _ _ _ _ _ _) rfl) rfl rfl ?_
      refine WO.nil ?_
      refine WX.pop ?_
      refine WX.keep [9, 10, 11, 12] (WX.pk [1, 2, 3] (by decide) ?_) rfl
      exact gabionref15_Cut_j14_ok h hn hx0 hE _ _ _ ⟨hB, _, _, n27, _, _, _, false, _, _, _, n40, _, h27, h28, o41, rfl, rfl⟩
    · have q_k32 := of_decide_eq_false k32
      replace h := (if_neg q_k32).symm.trans h
      refine WX.condF rfl k32 ?_
      refine WX.skip ?_
      refine WX.pop ?_
      refine WX.keep [9, 10, 11, 12] (WX.pk [0, 1, 2] (by decide) ?_) rfl
      exact gabionref15_Cut_j14_ok h hn hx0 hE _ _ _ ⟨hB, _, _, n27, _, _, _, false, _, _, _, n29, _, h27, h28, h29, rfl, rfl⟩
  · have q_k30 := of_decide_eq_false k30
    replace h := (if_neg q_k30).symm.trans h
    refine WX.condF rfl k30 ?_
    refine WX.exit rfl ?_
    refine WX.keep [9, 11] (WX.pk [0, 2] (by decide) ?_) rfl
    obtain rfl := Option.some.inj h
    exact hx0 _ hE _ _ _ ⟨hB, _, _, n27, _, _, _, n29, _, h27, h29, rfl, rfl⟩
theorem gabionref15_Cut_l0_ok {B0 : Kn} {L : Own} {n0 : Nat} {x9 : List (Int × Int)} {x10 : List (Int × Int)} {x11 : List (Int × Int)} {x12 : Int} {Q : AV → St → Prop} {d : Nat} {e : (List (Int × Int))} (h : iter (fun (s : (List (Int × Int)) × Int) => gabionref15_Cut_l0 x9 x10 s.1 s.2) d (x11, x12) = some e) (g0 : ∀ s, e = s → WXI Try.prog 56 n0 (Fin Try.prog Try.f33.results.toList n0 Q) [.code (ct [1, 1, 1, 1, 1, 1, 1, 1, 1] (bodyOf Try.f33))] (gabionref15_Cut_l0_X0 B0 x9 s) L) : WXI Try.prog 56 n0 (Fin Try.prog Try.f33.results.toList n0 Q) [.code (ct [1, 1, 1, 1, 1, 1, 1, 1, 0, 1, 0, 0] (bodyOf Try.f33)), .lp (ct [1, 1, 1, 1, 1, 1, 1, 1, 0, 1, 0, 0] (bodyOf Try.f33)), .blk 0, .code (ct [1, 1, 1, 1, 1, 1, 1, 1, 1] (bodyOf Try.f33))] (gabionref15_Cut_l0_I B0 x9 x10 x11 x12) L :=
  iter_ok (I := fun s => gabionref15_Cut_l0_I B0 x9 x10 s.1 s.2) (D := fun e => (∀ s, e = s → WXI Try.prog 56 n0 (Fin Try.prog Try.f33.results.toList n0 Q) [.code (ct [1, 1, 1, 1, 1, 1, 1, 1, 1] (bodyOf Try.f33))] (gabionref15_Cut_l0_X0 B0 x9 s) L)) (fun E hn hx s o ho hE => gabionref15_Cut_l0_s ho hn (fun s hs => (hx _ hs) _ rfl)  hE) h g0
theorem gabionref15_Cut_j5_ok {B0 : Kn} {L : Own} {n0 : Nat} {x1 : Int} {x8 : List Int} {x26 : Bool} {r : (List (Int × Int)) × (List (Int × Int)) × Int} (h : gabionref15_Cut_j5 x1 x8 x26 = some r) : WXI Try.prog 56 n0 (Fin Try.prog Try.f33.results.toList n0 (gabionref15_Cut_P B0 L r)) [.code (ct [1, 1, 1, 1, 0, 1] (bodyOf Try.f33)), .code (ct [1, 1, 1, 1, 1] (bodyOf Try.f33))] (gabionref15_Cut_j5_I B0 x1 x8 x26) L := by
  unfold gabionref15_Cut_j5 at h
  rintro _ B _ ⟨hB, v10, b10, n10, c10, h10, rfl, rfl⟩
  obtain ⟨_, _, _, _, _, rfl⟩ := h10.isl
  rcases bsp x26 with k11 | k11
  · replace h := (if_pos k11).symm.trans h
    refine WX.condT rfl k11 ?_
    refine WX.seq ?_
    refine WX.reg ?_
    refine WO.q (.as (v := .sl _ _ _ _ _ _) rfl) rfl rfl ?_
    refine WO.q (.as (v := .sl _ _ _ _ _ _) rfl) rfl rfl ?_
    refine WO.q (.as (v := .int _ _) rfl) rfl rfl ?_
    refine WO.nil ?_
    obtain rfl := Option.some.inj h
    exact WX.ret (rs_ (rs_tmp rfl (rs_tmp rfl (rs_tmp rfl rs_nil)))) fun st hp => ⟨_, _, _, hB, (((hp.pk [] (by decide)).skip 0).skip 0), _, 0, true, [], _, 0, true, [], rfl, rfl, OSl.none _ _, rfl, OSl.none _ _⟩
  · replace h := (if_neg (bnt k11)).symm.trans h
    refine WX.condF rfl k11 ?_
    refine WX.skip ?_
    refine WX.seq ?_
    refine WX.reg ?_
    refine WO.q (.mv (v := .sl _ _ _ _ _ _) rfl) rfl rfl ?_
    refine WO.q (.mv (v := .int _ _) rfl) rfl rfl ?_
    refine WO.fz (j := 0) h10 rfl ?_
    intro B hK g12
    replace hB := hB.trans hK
    obtain ⟨y13, hy13, h⟩ := Option.bind_eq_some_iff.1 h
    obtain ⟨v_y13, e_y13, g_y13⟩ := g12.cut sl22 hy13 (lo := none) (hi := some (.int .i64 x1)) bnd_none (bnd_int (Int.le_trans (cutL_some hy13).1.1 (cutL_some hy13).1.2.1))
    obtain ⟨_, _, _, _, _, rfl⟩ := g_y13.isl
    refine WO.q (.sl e_y13) rfl rfl ?_
    obtain ⟨y14, hy14, h⟩ := Option.bind_eq_some_iff.1 h
    refine WO.c1 rfl rfl (gabionref15_Runs_ok g_y13 hy14) rfl rfl rfl ?_
    rintro _ B _ hK ⟨v15, b16, n17, c18, rfl, rfl, h19⟩
    obtain ⟨_, _, _, _, _, rfl⟩ := h19.isl
    replace g12 := g12.up hK
    replace g_y13 := g_y13.up hK
    replace hB := hB.trans hK
    refine WO.q (.as (v := .sl _ _ _ _ _ _) rfl) rfl rfl ?_
    refine WO.nil ?_
    refine WX.seq ?_
    refine WX.reg ?_
    refine WO.q (.mv (v := .sl _ _ _ _ _ _) rfl) rfl rfl ?_
    refine WO.q (.mv (v := .int _ _) rfl) rfl rfl ?_
    obtain ⟨y20, hy20, h⟩ := Option.bind_eq_some_iff.1 h
    obtain ⟨v_y20, e_y20, g_y20⟩ := g12.cut sl22 hy20 (lo := some (.int .i64 x1)) (hi := none) (bnd_int (cutL_some hy20).1.1) rfl
    obtain ⟨_, _, _, _, _, rfl⟩ := g_y20.isl
    refine WO.q (.sl e_y20) rfl rfl ?_
    obtain ⟨y21, hy21, h⟩ := Option.bind_eq_some_iff.1 h
    refine WO.c1 rfl rfl (gabionref15_Runs_ok g_y20 hy21) rfl rfl rfl ?_
    rintro _ B _ hK ⟨v22, b23, n24, c25, rfl, rfl, h26⟩
    obtain ⟨_, _, _, _, _, rfl⟩ := h26.isl
    replace g12 := g12.up hK
    replace g_y20 := g_y20.up hK
    replace h19 := h19.up hK
    replace hB := hB.trans hK
    refine WO.q (.as (v := .sl _ _ _ _ _ _) rfl) rfl rfl ?_
    refine WO.nil ?_
    refine WX.seq ?_
    refine WX.reg ?_
    refine WO.q (.as (v := .sl _ _ _ _ _ _) rfl) rfl rfl ?_
    refine WO.nil ?_
    refine WX.seq ?_
    refine WX.seq ?_
    refine WX.reg ?_
    refine WO.q (.as (v := .int _ _) rfl) rfl rfl ?_
    refine WO.nil ?_
    refine WX.block ?_
    refine WX.loop ?_
    obtain ⟨e48, he48, h⟩ := Option.bind_eq_some_iff.1 h
    refine WX.keep [9, 10, 11, 12] (WX.pk [1, 0] (by decide) (WX.addn [2] ?_)) rfl
    refine gabionref15_Cut_l0_ok he48 ?_ _ _ _ ⟨hB, _, _, n17, _, _, _, n24, _, _, 0, true, [], h19, h26, OSl.none _ _, rfl, rfl⟩
    · intro s51 he_
      subst he_
      replace h := h
      rintro _ B _ ⟨hB, v49, b49, n49, c49, v50, b50, n50, c50, h49, h50, rfl, rfl⟩
      obtain ⟨_, _, _, _, _, rfl⟩ := h49.isl
      obtain ⟨_, _, _, _, _, rfl⟩ := h50.isl
      refine WX.seq ?_
      refine WX.reg ?_
      refine WO.q (.mv (v := .sl _ _ _ _ _ _) rfl) rfl rfl ?_
      refine WO.q (.mv (v := .sl _ _ _ _ _ _) rfl) rfl rfl ?_
      refine WO.q (.as (v := .sl _ _ _ _ _ _) rfl) rfl rfl ?_
      refine WO.q (.as (v := .sl _ _ _ _ _ _) rfl) rfl rfl ?_
      refine WO.q (.as (v := .int _ _) rfl) rfl rfl ?_
      refine WO.nil ?_
      obtain rfl := Option.some.inj h
      exact WX.ret (rs_ (rs_tmp rfl (rs_tmp rfl (rs_tmp rfl rs_nil)))) fun st hp => ⟨_, _, _, hB, (hp.pk [0, 1] (by decide)), _, _, n49, _, _, _, n50, _, rfl, rfl, h49, rfl, h50⟩
theorem gabionref15_Cut_ok {B0 : Kn} {L : Own} {a0 : List (Int × Int)} {a1 : Int} {v0_0 : AV} {r : (List (Int × Int)) × (List (Int × Int)) × Int} (g0_0 : RSl EPIi64Ii64Q B0 v0_0 a0) (h : gabionref15_Cut a0 a1 = some r) : ∀ st, Hp B0 L st → ASpec Try.prog 33 [v0_0, .int .i64 a1] st (gabionref15_Cut_P B0 L r) := by
  unfold gabionref15_Cut at h
  refine bodyA (A := []) Try.func33 rfl (c := bodyOf Try.f33) rfl Try.ntmps33 (lb rfl) fun n0 => ?_
  have hB := KLe.refl B0
  obtain ⟨_, _, _, _, _, rfl⟩ := g0_0.isl
  refine WX.seq ?_
  refine WX.reg ?_
  refine WO.q (.as (v := .sl _ _ _ _ _ _) rfl) rfl rfl ?_
  refine WO.q (.as (v := .sl _ _ _ _ _ _) rfl) rfl rfl ?_
  refine WO.q (.as (v := .int _ _) rfl) rfl rfl ?_
  refine WO.nil ?_
  refine WX.seq ?_
  refine WX.reg ?_
  refine WO.q (.mv (v := .sl _ _ _ _ _ _) rfl) rfl rfl ?_
  obtain ⟨y1, hy1, h⟩ := Option.bind_eq_some_iff.1 h
  refine WO.cS rfl rfl (gabionref15_Right_ok g0_0 hy1) rfl rfl rfl ?_
  rintro _ rfl
  refine WO.q (.as (v := .bool _) rfl) rfl rfl ?_
  refine WO.nil ?_
  refine WX.seq ?_
  refine WX.seq ?_
  refine WX.reg ?_
  refine WO.q (.mv (v := .bool _) rfl) rfl rfl ?_
  refine WO.q (.r fun _ => rfl) rfl rfl ?_
  refine WO.nil ?_
  rcases bsp y1 with k2 | k2
  · replace h := (if_pos k2).symm.trans h
    refine WX.condF rfl (f_not k2) ?_
    refine WX.skip ?_
    refine WX.seq ?_
    refine WX.reg ?_
    refine WO.q (.mv (v := .sl _ _ _ _ _ _) rfl) rfl rfl ?_
    obtain ⟨y3, hy3, h⟩ := Option.bind_eq_some_iff.1 h
    refine WO.c1 rfl rfl (gabionref15_Blocks_ok g0_0 hy3) rfl rfl rfl ?_
    rintro _ B _ hK ⟨v4, b5, n6, c7, rfl, rfl, h8⟩
    obtain ⟨_, _, _, _, _, rfl⟩ := h8.isl
    replace g0_0 := g0_0.up hK
    replace hB := hB.trans hK
    refine WO.q (.as (v := .sl _ _ _ _ _ _) rfl) rfl rfl ?_
    refine WO.nil ?_
    refine WX.seq ?_
    refine WX.seq ?_
    refine WX.reg ?_
    refine WO.q (.mv (v := .int _ _) rfl) rfl rfl ?_
    refine WO.q (.r fun _ => rfl) rfl rfl ?_
    refine WO.q (.mv (v := .bool _) rfl) rfl rfl ?_
    rcases bsp (decide (a1 < 0)) with k9 | k9
    · have q_k9 := of_decide_eq_true k9
      replace h := (if_pos q_k9).symm.trans h
      refine WO.sd (wg rfl rfl (gfn k9)) rfl ?_
      refine WO.sd (wg rfl rfl (gfn k9)) rfl ?_
      refine WO.sd (wg rfl rfl (gfn k9)) rfl ?_
      refine WO.sd (wg rfl rfl (gfn k9)) rfl ?_
      refine WO.q (.ptv (v := .bool _) rfl k9 rfl) rfl rfl ?_
      refine WO.nil ?_
      refine WX.keep [1, 8, 26] (WX.pk [0] (by decide) ?_) rfl
      exact gabionref15_Cut_j5_ok h _ _ _ ⟨hB, _, _, n6, _, h8, rfl, rfl⟩
    · have q_k9 := of_decide_eq_false k9
      replace h := (if_neg q_k9).symm.trans h
      refine WO.q (.mv (v := .int _ _) rfl) (wg rfl rfl (gf k9)) rfl ?_
      refine WO.q (.mv (v := .sl _ _ _ _ _ _) rfl) (wg rfl rfl (gf k9)) rfl ?_
      refine WO.q (.len rfl rfl rfl (sl22.len h8.isl)) (wg rfl rfl (gf k9)) rfl ?_
      refine WO.q (.r fun _ => rfl) (wg rfl rfl (gf k9)) rfl ?_
      refine WO.q (.pfv (v := .bool _) rfl k9 rfl) rfl rfl ?_
      refine WO.nil ?_
      refine WX.keep [1, 8, 26] (WX.pk [0] (by decide) ?_) rfl
      exact gabionref15_Cut_j5_ok h _ _ _ ⟨hB, _, _, n6, _, h8, rfl, rfl⟩
  · replace h := (if_neg (bnt k2)).symm.trans h
    refine WX.condT rfl (t_not k2) ?_
    refine WX.seq ?_
    refine WX.reg ?_
    refine WO.q (.as (v := .sl _ _ _ _ _ _) rfl) rfl rfl ?_
    refine WO.q (.as (v := .sl _ _ _ _ _ _) rfl) rfl rfl ?_
    refine WO.q (.as (v := .int _ _) rfl) rfl rfl ?_
    refine WO.nil ?_
    obtain rfl := Option.some.inj h
    exact WX.ret (rs_ (rs_tmp rfl (rs_tmp rfl (rs_tmp rfl rs_nil)))) fun st hp => ⟨_, _, _, hB, (((hp.pk [] (by decide)).skip 0).skip 0), _, 0, true, [], _, 0, true, [], rfl, rfl, OSl.none _ _, rfl, OSl.none _ _⟩
def gabionref15_Text_P (B : Kn) (L : Own) (r : (List UInt8)) : AV → St → Prop := CS B L fun v => v = .str r
def gabionref15_Text_j4_I (B0 : Kn) (x0 : List (Int × Int)) (x3 : Bool) (x4 : List UInt8) (x5 : Int) (x16 : Bool) : Fr → Kn → Own → Prop := fun fr B A => KLe B0 B ∧ ∃ v4, RSl EPIi64Ii64Q B v4 x0 ∧ fr = [(0, v4), (3, .bool x3), (4, .str x4), (5, .int .i64 x5), (16, .bool x16)] ∧ A = []
def gabionref15_Text_l0_I (B0 : Kn) (x0 : List (Int × Int)) (x3 : Bool) (x4 : List UInt8) (x5 : Int) : Fr → Kn → Own → Prop := fun fr B A => KLe B0 B ∧ ∃ v2, RSl EPIi64Ii64Q B v2 x0 ∧ fr = [(0, v2), (3, .bool x3), (4, .str x4), (5, .int .i64 x5)] ∧ A = []
def gabionref15_Text_l0_X0 (B0 : Kn) (x4 : List UInt8) : Fr → Kn → Own → Prop := fun fr B A => KLe B0 B ∧ fr = [(4, .str x4)] ∧ A = []
theorem gabionref15_Text_j4_ok {B0 : Kn} {L : Own} {n0 : Nat} {x0 : List (Int × Int)} {x3 : Bool} {x4 : List UInt8} {x5 : Int} {x16 : Bool} {Q : AV → St → Prop} {E : ((List UInt8) × Int) ⊕ (List UInt8) → Prop} {o : ((List UInt8) × Int) ⊕ (List UInt8)} (h : gabionref15_Text_j4 x0 x3 x4 x5 x16 = some o) (hn : ∀ s, E (.inl s) → WXI Try.prog 40 n0 (Fin Try.prog Try.f43.results.toList n0 Q) [.lp (ct [1, 1, 1, 0, 1, 0, 0] (bodyOf Try.f43)), .blk 0, .code (ct [1, 1, 1, 1] (bodyOf Try.f43))] (gabionref15_Text_l0_I B0 x0 x3 s.1 s.2) L) (hx0 : ∀ s, E (.inr s) → WXI Try.prog 40 n0 (Fin Try.prog Try.f43.results.toList n0 Q) [.code (ct [1, 1, 1, 1] (bodyOf Try.f43))] (gabionref15_Text_l0_X0 B0 s) L) (hE : E o) : WXI Try.prog 40 n0 (Fin Try.prog Try.f43.results.toList n0 Q) [.code (ct [1, 1, 1, 0, 1, 0, 0, 0, 1] (bodyOf Try.f43)), .code (ct [1, 1, 1, 0, 1, 0, 0, 1] (bodyOf Try.f43)), .lp (ct [1, 1, 1, 0, 1, 0, 0] (bodyOf Try.f43)), .blk 0, .code (ct [1, 1, 1, 1] (bodyOf Try.f43))] (gabionref15_Text_j4_I B0 x0 x3 x4 x5 x16) L := by
  unfold gabionref15_Text_j4 at h
  rintro _ B _ ⟨hB, v4, h4, rfl, rfl⟩
  obtain ⟨_, _, _, _, _, rfl⟩ := h4.isl
  rcases bsp x16 with k5 | k5
  · replace h := (if_pos k5).symm.trans h
    refine WX.condT rfl k5 ?_
    refine WX.skip ?_
    refine WX.seq ?_
    refine WX.block ?_
    refine WX.seq ?_
    refine WX.reg ?_
    refine WO.q (.mv (v := .sl _ _ _ _ _ _) rfl) rfl rfl ?_
    refine WO.q (.mv (v := .int _ _) rfl) rfl rfl ?_
    obtain ⟨y6, hy6, h⟩ := Option.bind_eq_some_iff.1 h
    obtain ⟨b_y6, o_y6, _, i_y6, p_y6, r_y6⟩ := h4.at sl40 hy6 .i64
    obtain ⟨_, _, rfl, rfl, rfl⟩ := r_y6
    refine WO.q (.ia i_y6) rfl rfl ?_
    refine WO.q (.ia (ia41_0 _ _)) rfl rfl ?_
    refine WO.q (.lpS rfl p_y6 rfl ti3 rfl) rfl rfl ?_
    refine WO.q (.r fun _ => rfl) rfl rfl ?_
    refine WO.q (cvI ti3 ti119 rfl rfl) rfl rfl ?_
    obtain ⟨y7, hy7, h⟩ := Option.bind_eq_some_iff.1 h
    refine WO.cS rfl rfl (gabionref01_Put_ok hy7) rfl rfl rfl ?_
    rintro _ rfl
    refine WO.q (.as (v := .str _) rfl) rfl rfl ?_
    refine WO.nil ?_
    refine WX.seq ?_
    refine WX.reg ?_
    refine WO.q (.mv (v := .sl _ _ _ _ _ _) rfl) rfl rfl ?_
    refine WO.q (.mv (v := .int _ _) rfl) rfl rfl ?_
    obtain ⟨y8, hy8, h⟩ := Option.bind_eq_some_iff.1 h
    obtain ⟨b_y8, o_y8, _, i_y8, p_y8, r_y8⟩ := h4.at sl40 hy8 .i64
    obtain ⟨_, _, rfl, rfl, rfl⟩ := r_y8
    refine WO.q (.ia i_y8) rfl rfl ?_
    refine WO.q (.ia (ia41_1 _ _)) rfl rfl ?_
    refine WO.q (.lpS rfl p_y8 rfl ti3 rfl) rfl rfl ?_
    refine WO.q (cvI ti3 ti119 rfl rfl) rfl rfl ?_
    obtain ⟨y9, hy9, h⟩ := Option.bind_eq_some_iff.1 h
    refine WO.cS rfl rfl (gabionref01_Put_ok hy9) rfl rfl rfl ?_
    rintro _ rfl
    refine WO.q (.as (v := .str _) rfl) rfl rfl ?_
    refine WO.nil ?_
    refine WX.reg ?_
    refine WO.q (.mv (v := .str _) rfl) rfl rfl ?_
    refine WO.q (.mv (v := .str _) rfl) rfl rfl ?_
    obtain ⟨y10, hy10, h⟩ := Option.bind_eq_some_iff.1 h
    refine WO.q (.bin (evcat hy10)) rfl rfl ?_
    refine WO.q (.mv (v := .str _) rfl) rfl rfl ?_
    obtain ⟨y11, hy11, h⟩ := Option.bind_eq_some_iff.1 h
    refine WO.q (.bin (evcat hy11)) rfl rfl ?_
    refine WO.q (.as (v := .str _) rfl) rfl rfl ?_
    refine WO.nil ?_
    refine WX.pop ?_
    refine WX.reg ?_
    refine WO.q (.mv (v := .int _ _) rfl) rfl rfl ?_
    refine WO.q (.r fun _ => rfl) rfl rfl ?_
    refine WO.q (.as (v := .int _ _) rfl) rfl rfl ?_
    refine WO.nil ?_
    refine WX.keepL [0, 3, 4, 5] (WX.pk [] (by decide) ?_) rfl
    obtain rfl := Option.some.inj h
    exact hn _ hE _ _ _ ⟨hB, _, h4, rfl, rfl⟩
  · replace h := (if_neg (bnt k5)).symm.trans h
    refine WX.condF rfl k5 ?_
    refine WX.exit rfl ?_
    refine WX.keep [4] (WX.pk [] (by decide) ?_) rfl
    obtain rfl := Option.some.inj h
    exact hx0 _ hE _ _ _ ⟨hB, rfl, rfl⟩
theorem gabionref15_Text_l0_s {B0 : Kn} {L : Own} {n0 : Nat} {x0 : List (Int × Int)} {x3 : Bool} {x4 : List UInt8} {x5 : Int} {Q : AV → St → Prop} {E : ((List UInt8) × Int) ⊕ (List UInt8) → Prop} {o : ((List UInt8) × Int) ⊕ (List UInt8)} (h : gabionref15_Text_l0 x0 x3 x4 x5 = some o) (hn : ∀ s, E (.inl s) → WXI Try.prog 40 n0 (Fin Try.prog Try.f43.results.toList n0 Q) [.lp (ct [1, 1, 1, 0, 1, 0, 0] (bodyOf Try.f43)), .blk 0, .code (ct [1, 1, 1, 1] (bodyOf Try.f43))] (gabionref15_Text_l0_I B0 x0 x3 s.1 s.2) L) (hx0 : ∀ s, E (.inr s) → WXI Try.prog 40 n0 (Fin Try.prog Try.f43.results.toList n0 Q) [.code (ct [1, 1, 1, 1] (bodyOf Try.f43))] (gabionref15_Text_l0_X0 B0 s) L) (hE : E o) : WXI Try.prog 40 n0 (Fin Try.prog Try.f43.results.toList n0 Q) [.code (ct [1, 1, 1, 0, 1, 0, 0] (bodyOf Try.f43)), .lp (ct [1, 1, 1, 0, 1, 0, 0] (bodyOf Try.f43)), .blk 0, .code (ct [1, 1, 1, 1] (bodyOf Try.f43))] (gabionref15_Text_l0_I B0 x0 x3 x4 x5) L := by
  unfold gabionref15_Text_l0 at h
  rintro _ B _ ⟨hB, v2, h2, rfl, rfl⟩
  obtain ⟨_, _, _, _, _, rfl⟩ := h2.isl
  refine WX.seq ?_
  refine WX.seq ?_
  refine WX.reg ?_
  refine WO.q (.mv (v := .int _ _) rfl) rfl rfl ?_
  refine WO.q (.mv (v := .sl _ _ _ _ _ _) rfl) rfl rfl ?_
  refine WO.q (.len rfl rfl rfl (sl40.len h2.isl)) rfl rfl ?_
  refine WO.q (.r fun _ => rfl) rfl rfl ?_
  refine WO.q (.mv (v := .bool _) rfl) rfl rfl ?_
  rcases bsp (decide (x5 < (x0.length : Int))) with k3 | k3
  · have q_k3 := of_decide_eq_true k3
    replace h := (if_pos q_k3).symm.trans h
    refine WO.q (.mv (v := .bool _) rfl) (wg rfl rfl (gt k3)) rfl ?_
    refine WO.q (.ptv (v := .bool _) rfl k3 rfl) rfl rfl ?_
    refine WO.nil ?_
    refine WX.keep [0, 3, 4, 5, 16] (WX.pk [] (by decide) ?_) rfl
    exact gabionref15_Text_j4_ok h hn hx0 hE _ _ _ ⟨hB, _, h2, rfl, rfl⟩
  · have q_k3 := of_decide_eq_false k3
    replace h := (if_neg q_k3).symm.trans h
    refine WO.sd (wg rfl rfl (gtn k3)) rfl ?_
    refine WO.q (.pfv (v := .bool _) rfl k3 rfl) rfl rfl ?_
    refine WO.nil ?_
    refine WX.keep [0, 3, 4, 5, 16] (WX.pk [] (by decide) ?_) rfl
    exact gabionref15_Text_j4_ok h hn hx0 hE _ _ _ ⟨hB, _, h2, rfl, rfl⟩
theorem gabionref15_Text_l0_ok {B0 : Kn} {L : Own} {n0 : Nat} {x0 : List (Int × Int)} {x3 : Bool} {x4 : List UInt8} {x5 : Int} {Q : AV → St → Prop} {d : Nat} {e : (List UInt8)} (h : iter (fun (s : (List UInt8) × Int) => gabionref15_Text_l0 x0 x3 s.1 s.2) d (x4, x5) = some e) (g0 : ∀ s, e = s → WXI Try.prog 40 n0 (Fin Try.prog Try.f43.results.toList n0 Q) [.code (ct [1, 1, 1, 1] (bodyOf Try.f43))] (gabionref15_Text_l0_X0 B0 s) L) : WXI Try.prog 40 n0 (Fin Try.prog Try.f43.results.toList n0 Q) [.code (ct [1, 1, 1, 0, 1, 0, 0] (bodyOf Try.f43)), .lp (ct [1, 1, 1, 0, 1, 0, 0] (bodyOf Try.f43)), .blk 0, .code (ct [1, 1, 1, 1] (bodyOf Try.f43))] (gabionref15_Text_l0_I B0 x0 x3 x4 x5) L :=
  iter_ok (I := fun s => gabionref15_Text_l0_I B0 x0 x3 s.1 s.2) (D := fun e => (∀ s, e = s → WXI Try.prog 40 n0 (Fin Try.prog Try.f43.results.toList n0 Q) [.code (ct [1, 1, 1, 1] (bodyOf Try.f43))] (gabionref15_Text_l0_X0 B0 s) L)) (fun E hn hx s o ho hE => gabionref15_Text_l0_s ho hn (fun s hs => (hx _ hs) _ rfl)  hE) h g0
theorem gabionref15_Text_ok {B0 : Kn} {L : Own} {a0 : List (Int × Int)} {v0_0 : AV} {r : (List UInt8)} (g0_0 : RSl EPIi64Ii64Q B0 v0_0 a0) (h : gabionref15_Text a0 = some r) : ∀ st, Hp B0 L st → ASpec Try.prog 43 [v0_0] st (gabionref15_Text_P B0 L r) := by
  unfold gabionref15_Text at h
  refine bodyA (A := []) Try.func43 rfl (c := bodyOf Try.f43) rfl Try.ntmps43 (lb rfl) fun n0 => ?_
  have hB := KLe.refl B0
  obtain ⟨_, _, _, _, _, rfl⟩ := g0_0.isl
  refine WX.seq ?_
  refine WX.reg ?_
  refine WO.q (.as (v := .str _) rfl) rfl rfl ?_
  refine WO.nil ?_
  refine WX.seq ?_
  refine WX.reg ?_
  refine WO.q (.mv (v := .sl _ _ _ _ _ _) rfl) rfl rfl ?_
  obtain ⟨y1, hy1, h⟩ := Option.bind_eq_some_iff.1 h
  refine WO.cS rfl rfl (gabionref15_Right_ok g0_0 hy1) rfl rfl rfl ?_
  rintro _ rfl
  refine WO.q (.as (v := .bool _) rfl) rfl rfl ?_
  refine WO.nil ?_
  refine WX.seq ?_
  refine WX.reg ?_
  refine WO.q (.as (v := .str _) rfl) rfl rfl ?_
  refine WO.nil ?_
  refine WX.seq ?_
  refine WX.seq ?_
  refine WX.reg ?_
  refine WO.q (.as (v := .int _ _) rfl) rfl rfl ?_
  refine WO.nil ?_
  refine WX.block ?_
  refine WX.loop ?_
  obtain ⟨e12, he12, h⟩ := Option.bind_eq_some_iff.1 h
  refine WX.keep [0, 3, 4, 5] (WX.pk [] (by decide) ?_) rfl
  refine gabionref15_Text_l0_ok he12 ?_ _ _ _ ⟨hB, _, g0_0, rfl, rfl⟩
  · intro s13 he_
    subst he_
    replace h := h
    rintro _ B _ ⟨hB, rfl, rfl⟩
    refine WX.seq ?_
    refine WX.reg ?_
    refine WO.q (.mv (v := .str _) rfl) rfl rfl ?_
    refine WO.q (.as (v := .str _) rfl) rfl rfl ?_
    refine WO.nil ?_
    obtain rfl := Option.some.inj h
    exact WX.ret (rs_ (rs_tmp rfl rs_nil)) fun st hp => ⟨(hp.pk [] (by decide)).le hB, rfl⟩
end Gab
