/- The Go code comes to what the Lean functions say. Written by a program (gp.py). -/
import Derived.Test.YtdkldojcpncnhaaFd
import Derived.Test.YtdkldojcpncnhaaTy
set_option linter.unusedSimpArgs false
set_option linter.unusedVariables false
set_option maxHeartbeats 4000000
set_option maxRecDepth 100000
namespace Gab
open Go Go.Proofs
def gabionref15_joins_P (B : Kn) (L : Own) (r : Bool) : AV → St → Prop := CS B L fun v => v = .bool r
def gabionref15_joins_j1_I (B0 : Kn) (x12 : Bool) (zb2 : Int × Int) (zb3 : Int × Int) : Fr → Kn → Own → Prop := fun fr B A => KLe B0 B ∧ ∃ b4 b5, fr = [(2, .ptr b4 0), (3, .ptr b5 0), (12, .bool x12)] ∧ A = [(b4, some [.int .i64 zb2.1, .int .i64 zb2.2]), (b5, some [.int .i64 zb3.1, .int .i64 zb3.2])]
theorem gabionref15_joins_j1_ok {B0 : Kn} {L : Own} {n0 : Nat} {x12 : Bool} {zb2 : Int × Int} {zb3 : Int × Int} {r : Bool} (h : gabionref15_joins_j1 x12 zb2 zb3 = some r) : WXI Try.prog 29 n0 (Fin Try.prog Try.f68.results.toList n0 (gabionref15_joins_P B0 L r)) [.code (ct [1, 0, 1] (bodyOf Try.f68)), .code (ct [1, 1] (bodyOf Try.f68))] (gabionref15_joins_j1_I B0 x12 zb2 zb3) L := by
  unfold gabionref15_joins_j1 at h
  rintro _ B _ ⟨hB, b4, b5, rfl, rfl⟩
  rcases bsp x12 with k6 | k6
  · replace h := (if_pos k6).symm.trans h
    refine WX.condT rfl k6 ?_
    refine WX.seq ?_
    refine WX.reg ?_
    refine WO.q (.ia (ia41_0 _ _)) rfl rfl ?_
    refine WO.q (.ldS (i := 0) rfl rfl rfl ti3 rfl) rfl rfl ?_
    refine WO.q (.r fun _ => rfl) rfl rfl ?_
    refine WO.q (.mv (v := .bool _) rfl) rfl rfl ?_
    rcases bsp (decide (zb2.1 = (-1))) with k7 | k7
    · have q_k7 := of_decide_eq_true k7
      replace h := (if_pos q_k7).symm.trans h
      refine WO.q (.ia (ia41_0 _ _)) (wg rfl rfl (gt k7)) rfl ?_
      refine WO.q (.ldS (i := 1) rfl rfl rfl ti3 rfl) (wg rfl rfl (gt k7)) rfl ?_
      refine WO.q (.r fun _ => rfl) (wg rfl rfl (gt k7)) rfl ?_
      refine WO.q (.ptv (v := .bool _) rfl k7 rfl) rfl rfl ?_
      refine WO.q (.as (v := .bool _) rfl) rfl rfl ?_
      refine WO.nil ?_
      obtain rfl := Option.some.inj h
      exact WX.ret (rs_ (rs_tmp rfl rs_nil)) fun st hp => ⟨(hp.pk [] (by decide)).le hB, rfl⟩
    · have q_k7 := of_decide_eq_false k7
      replace h := (if_neg q_k7).symm.trans h
      refine WO.sd (wg rfl rfl (gtn k7)) rfl ?_
      refine WO.sd (wg rfl rfl (gtn k7)) rfl ?_
      refine WO.sd (wg rfl rfl (gtn k7)) rfl ?_
      refine WO.q (.pfv (v := .bool _) rfl k7 rfl) rfl rfl ?_
      refine WO.q (.as (v := .bool _) rfl) rfl rfl ?_
      refine WO.nil ?_
      obtain rfl := Option.some.inj h
      exact WX.ret (rs_ (rs_tmp rfl rs_nil)) fun st hp => ⟨(hp.pk [] (by decide)).le hB, rfl⟩
  · replace h := (if_neg (bnt k6)).symm.trans h
    refine WX.condF rfl k6 ?_
    refine WX.skip ?_
    refine WX.seq ?_
    refine WX.reg ?_
    refine WO.q (.ia (ia41_0 _ _)) rfl rfl ?_
    refine WO.q (.ldS (i := 0) rfl rfl rfl ti3 rfl) rfl rfl ?_
    refine WO.q (.ia (ia41_1 _ _)) rfl rfl ?_
    refine WO.q (.ldS (i := 0) rfl rfl rfl ti3 rfl) rfl rfl ?_
    refine WO.q (.r fun _ => rfl) rfl rfl ?_
    refine WO.q (.ia (ia41_0 _ _)) rfl rfl ?_
    refine WO.q (.ldS (i := 1) rfl rfl rfl ti3 rfl) rfl rfl ?_
    refine WO.q (.r fun _ => rfl) rfl rfl ?_
    refine WO.q (.as (v := .bool _) rfl) rfl rfl ?_
    refine WO.nil ?_
    obtain rfl := Option.some.inj h
    exact WX.ret (rs_ (rs_tmp rfl rs_nil)) fun st hp => ⟨(hp.pk [] (by decide)).le hB, rfl⟩
theorem gabionref15_joins_ok {B0 : Kn} {L : Own} {a0 : Int × Int} {a1 : Int × Int} {r : Bool} (h : gabionref15_joins a0 a1 = some r) : ∀ st, Hp B0 L st → ASpec Try.prog 68 [.agg [.int .i64 a0.1, .int .i64 a0.2], .agg [.int .i64 a1.1, .int .i64 a1.2]] st (gabionref15_joins_P B0 L r) := by
  unfold gabionref15_joins at h
  refine bodyA (A := []) Try.func68 rfl (c := bodyOf Try.f68) rfl Try.ntmps68 (lb rfl) fun n0 => ?_
  have hB := KLe.refl B0
  refine WX.seq ?_
  refine WX.reg ?_
  refine WO.md (MOp.box (cA rfl)) rfl rfl ?_
  rintro _ _ ⟨b1, rfl, rfl⟩
  refine WO.md (MOp.box (cA rfl)) rfl rfl ?_
  rintro _ _ ⟨b2, rfl, rfl⟩
  refine WO.q (.as (v := .bool _) rfl) rfl rfl ?_
  refine WO.nil ?_
  refine WX.seq ?_
  refine WX.seq ?_
  refine WX.reg ?_
  refine WO.q (.ia (ia41_0 _ _)) rfl rfl ?_
  refine WO.q (.ldS (i := 1) rfl rfl rfl ti3 rfl) rfl rfl ?_
  refine WO.q (.r fun _ => rfl) rfl rfl ?_
  refine WO.q (.mv (v := .bool _) rfl) rfl rfl ?_
  rcases bsp (decide (a0.1 = (-1))) with k3 | k3
  · have q_k3 := of_decide_eq_true k3
    replace h := (if_pos q_k3).symm.trans h
    refine WO.sd (wg rfl rfl (gfn k3)) rfl ?_
    refine WO.sd (wg rfl rfl (gfn k3)) rfl ?_
    refine WO.sd (wg rfl rfl (gfn k3)) rfl ?_
    refine WO.q (.ptv (v := .bool _) rfl k3 rfl) rfl rfl ?_
    refine WO.nil ?_
    refine WX.keep [2, 3, 12] (WX.pk [1, 0] (by decide) ?_) rfl
    exact gabionref15_joins_j1_ok h _ _ _ ⟨hB, _, _, rfl, rfl⟩
  · have q_k3 := of_decide_eq_false k3
    replace h := (if_neg q_k3).symm.trans h
    refine WO.q (.ia (ia41_0 _ _)) (wg rfl rfl (gf k3)) rfl ?_
    refine WO.q (.ldS (i := 0) rfl rfl rfl ti3 rfl) (wg rfl rfl (gf k3)) rfl ?_
    refine WO.q (.r fun _ => rfl) (wg rfl rfl (gf k3)) rfl ?_
    refine WO.q (.pfv (v := .bool _) rfl k3 rfl) rfl rfl ?_
    refine WO.nil ?_
    refine WX.keep [2, 3, 12] (WX.pk [1, 0] (by decide) ?_) rfl
    exact gabionref15_joins_j1_ok h _ _ _ ⟨hB, _, _, rfl, rfl⟩
def gabionref15_Runs_P (B : Kn) (L : Own) (r : (List (Int × Int))) : AV → St → Prop := C1 B L fun B' v e0 => ∃ w0 b0 n0 c0, v = w0 ∧ e0 = oe b0 n0 c0 ∧ OSl EPIi64Ii64Q B' w0 b0 n0 c0 r
def gabionref15_Runs_j10_I (B0 : Kn) (x0 : List Int) (x3 : List (Int × Int)) (x4 : Int) : Fr → Kn → Own → Prop := fun fr B A => KLe B0 B ∧ ∃ v13 v14 b14 n14 c14, RSl (Ty.int .i64) B v13 x0 ∧ OSl EPIi64Ii64Q B v14 b14 n14 c14 x3 ∧ fr = [(0, v13), (3, v14), (4, .int .i64 x4)] ∧ A = [oe b14 n14 c14]
def gabionref15_Runs_j11_I (B0 : Kn) (x0 : List Int) (x3 : List (Int × Int)) (x4 : Int) : Fr → Kn → Own → Prop := fun fr B A => KLe B0 B ∧ ∃ v15 v16 b16 n16 c16, RSl (Ty.int .i64) B v15 x0 ∧ OSl EPIi64Ii64Q B v16 b16 n16 c16 x3 ∧ fr = [(0, v15), (3, v16), (4, .int .i64 x4)] ∧ A = [oe b16 n16 c16]
def gabionref15_Runs_l0_I (B0 : Kn) (x0 : List Int) (x3 : List (Int × Int)) (x4 : Int) : Fr → Kn → Own → Prop := fun fr B A => KLe B0 B ∧ ∃ v1 v2 b2 n2 c2, RSl (Ty.int .i64) B v1 x0 ∧ OSl EPIi64Ii64Q B v2 b2 n2 c2 x3 ∧ fr = [(0, v1), (3, v2), (4, .int .i64 x4)] ∧ A = [oe b2 n2 c2]
def gabionref15_Runs_l0_X0 (B0 : Kn) (x3 : List (Int × Int)) : Fr → Kn → Own → Prop := fun fr B A => KLe B0 B ∧ ∃ v31 b31 n31 c31, OSl EPIi64Ii64Q B v31 b31 n31 c31 x3 ∧ fr = [(3, v31)] ∧ A = [oe b31 n31 c31]
theorem gabionref15_Runs_j10_ok {B0 : Kn} {L : Own} {n0 : Nat} {x0 : List Int} {x3 : List (Int × Int)} {x4 : Int} {Q : AV → St → Prop} {E : ((List (Int × Int)) × Int) ⊕ (List (Int × Int)) → Prop} {o : ((List (Int × Int)) × Int) ⊕ (List (Int × Int))} (h : gabionref15_Runs_j10 x0 x3 x4 = some o) (hn : ∀ s, E (.inl s) → WXI Try.prog 47 n0 (Fin Try.prog Try.f67.results.toList n0 Q) [.lp (ct [1, 1, 0, 1, 0, 0] (bodyOf Try.f67)), .blk 0, .code (ct [1, 1, 1] (bodyOf Try.f67))] (gabionref15_Runs_l0_I B0 x0 s.1 s.2) L) (hx0 : ∀ s, E (.inr s) → WXI Try.prog 47 n0 (Fin Try.prog Try.f67.results.toList n0 Q) [.code (ct [1, 1, 1] (bodyOf Try.f67))] (gabionref15_Runs_l0_X0 B0 s) L) (hE : E o) : WXI Try.prog 47 n0 (Fin Try.prog Try.f67.results.toList n0 Q) [.code (ct [1, 1, 0, 1, 0, 0, 1, 1] (bodyOf Try.f67)), .lp (ct [1, 1, 0, 1, 0, 0] (bodyOf Try.f67)), .blk 0, .code (ct [1, 1, 1] (bodyOf Try.f67))] (gabionref15_Runs_j10_I B0 x0 x3 x4) L := by
  unfold gabionref15_Runs_j10 at h
  rintro _ B _ ⟨hB, v13, v14, b14, n14, c14, h13, h14, rfl, rfl⟩
  obtain ⟨_, _, _, _, _, rfl⟩ := h13.isl
  obtain ⟨_, _, _, _, _, rfl⟩ := h14.isl
  refine WX.reg ?_
  refine WO.q (.mv (v := .int _ _) rfl) rfl rfl ?_
  refine WO.q (.r fun _ => rfl) rfl rfl ?_
  refine WO.q (.as (v := .int _ _) rfl) rfl rfl ?_
  refine WO.nil ?_
  refine WX.keepL [0, 3, 4] (WX.pk [0] (by decide) ?_) rfl
  obtain rfl := Option.some.inj h
  exact hn _ hE _ _ _ ⟨hB, _, _, _, n14, _, h13, h14, rfl, rfl⟩
theorem gabionref15_Runs_j11_ok {B0 : Kn} {L : Own} {n0 : Nat} {x0 : List Int} {x3 : List (Int × Int)} {x4 : Int} {Q : AV → St → Prop} {E : ((List (Int × Int)) × Int) ⊕ (List (Int × Int)) → Prop} {o : ((List (Int × Int)) × Int) ⊕ (List (Int × Int))} (h : gabionref15_Runs_j11 x0 x3 x4 = some o) (hn : ∀ s, E (.inl s) → WXI Try.prog 47 n0 (Fin Try.prog Try.f67.results.toList n0 Q) [.lp (ct [1, 1, 0, 1, 0, 0] (bodyOf Try.f67)), .blk 0, .code (ct [1, 1, 1] (bodyOf Try.f67))] (gabionref15_Runs_l0_I B0 x0 s.1 s.2) L) (hx0 : ∀ s, E (.inr s) → WXI Try.prog 47 n0 (Fin Try.prog Try.f67.results.toList n0 Q) [.code (ct [1, 1, 1] (bodyOf Try.f67))] (gabionref15_Runs_l0_X0 B0 s) L) (hE : E o) : WXI Try.prog 47 n0 (Fin Try.prog Try.f67.results.toList n0 Q) [.code (ct [1, 1, 0, 1, 0, 0, 1, 0, 0, 1, 1] (bodyOf Try.f67)), .blk 1, .code (ct [1, 1, 0, 1, 0, 0, 1, 1] (bodyOf Try.f67)), .lp (ct [1, 1, 0, 1, 0, 0] (bodyOf Try.f67)), .blk 0, .code (ct [1, 1, 1] (bodyOf Try.f67))] (gabionref15_Runs_j11_I B0 x0 x3 x4) L := by
  unfold gabionref15_Runs_j11 at h
  rintro _ B _ ⟨hB, v15, v16, b16, n16, c16, h15, h16, rfl, rfl⟩
  obtain ⟨_, _, _, _, _, rfl⟩ := h15.isl
  obtain ⟨_, _, _, _, _, rfl⟩ := h16.isl
  refine WX.reg ?_
  refine WO.q (.mv (v := .sl _ _ _ _ _ _) rfl) rfl rfl ?_
  refine WO.q (.mv (v := .sl _ _ _ _ _ _) rfl) rfl rfl ?_
  refine WO.q (.mv (v := .int _ _) rfl) rfl rfl ?_
  obtain ⟨y17, hy17, h⟩ := Option.bind_eq_some_iff.1 h
  obtain ⟨b_y17, o_y17, _, i_y17, p_y17, r_y17⟩ := h15.at sl22 hy17 .i64
  obtain rfl := r_y17
  refine WO.q (.ia i_y17) rfl rfl ?_
  refine WO.q (.lp0 rfl p_y17 rfl ti3 rfl) rfl rfl ?_
  refine WO.q (.bd (bd41_0_1 (cI rfl) (cI rfl))) rfl rfl ?_
  refine WO.md (MOp.bs (l := ([((y17, 1) : Int × Int)] : List (Int × Int))) sl40 (RL.cons (Rp Ri Ri) RL.nil) (lb rfl) rfl rfl) rfl rfl ?_
  rintro v20 _ ⟨b18, o19, rfl⟩
  obtain ⟨_, _, _, _, _, rfl⟩ := o19.isl
  obtain ⟨y22, hy22, h⟩ := Option.bind_eq_some_iff.1 h
  refine WO.md (MOp.app rfl rfl rfl sl40 h16 (Src.o (i := 0) sl40 o19 rfl) hy22 rfl rfl (fun _ => (.t .h))) rfl rfl ?_
  rintro v26 _ ⟨b23, n24, o25, rfl⟩
  obtain ⟨_, _, _, _, _, rfl⟩ := o25.isl
  refine WO.q (.as (v := .sl _ _ _ _ _ _) rfl) rfl rfl ?_
  refine WO.nil ?_
  refine WX.pop ?_
  refine WX.keep [0, 3, 4] (WX.pk [1] (by decide) ?_) rfl
  exact gabionref15_Runs_j10_ok h hn hx0 hE _ _ _ ⟨hB, _, _, _, n24, _, h15, o25, rfl, rfl⟩
theorem gabionref15_Runs_l0_s {B0 : Kn} {L : Own} {n0 : Nat} {x0 : List Int} {x3 : List (Int × Int)} {x4 : Int} {Q : AV → St → Prop} {E : ((List (Int × Int)) × Int) ⊕ (List (Int × Int)) → Prop} {o : ((List (Int × Int)) × Int) ⊕ (List (Int × Int))} (h : gabionref15_Runs_l0 x0 x3 x4 = some o) (hn : ∀ s, E (.inl s) → WXI Try.prog 47 n0 (Fin Try.prog Try.f67.results.toList n0 Q) [.lp (ct [1, 1, 0, 1, 0, 0] (bodyOf Try.f67)), .blk 0, .code (ct [1, 1, 1] (bodyOf Try.f67))] (gabionref15_Runs_l0_I B0 x0 s.1 s.2) L) (hx0 : ∀ s, E (.inr s) → WXI Try.prog 47 n0 (Fin Try.prog Try.f67.results.toList n0 Q) [.code (ct [1, 1, 1] (bodyOf Try.f67))] (gabionref15_Runs_l0_X0 B0 s) L) (hE : E o) : WXI Try.prog 47 n0 (Fin Try.prog Try.f67.results.toList n0 Q) [.code (ct [1, 1, 0, 1, 0, 0] (bodyOf Try.f67)), .lp (ct [1, 1, 0, 1, 0, 0] (bodyOf Try.f67)), .blk 0, .code (ct [1, 1, 1] (bodyOf Try.f67))] (gabionref15_Runs_l0_I B0 x0 x3 x4) L := by
  unfold gabionref15_Runs_l0 at h
  rintro _ B _ ⟨hB, v1, v2, b2, n2, c2, h1, h2, rfl, rfl⟩
  obtain ⟨_, _, _, _, _, rfl⟩ := h1.isl
  obtain ⟨_, _, _, _, _, rfl⟩ := h2.isl
  refine WX.seq ?_
  refine WX.seq ?_
  refine WX.reg ?_
  refine WO.q (.mv (v := .int _ _) rfl) rfl rfl ?_
  refine WO.q (.mv (v := .sl _ _ _ _ _ _) rfl) rfl rfl ?_
  refine WO.q (.len rfl rfl rfl (sl22.len h1.isl)) rfl rfl ?_
  refine WO.q (.r fun _ => rfl) rfl rfl ?_
  refine WO.nil ?_
  rcases bsp (decide (x4 < (x0.length : Int))) with k3 | k3
  · have q_k3 := of_decide_eq_true k3
    replace h := (if_pos q_k3).symm.trans h
    refine WX.condT rfl k3 ?_
    refine WX.skip ?_
    refine WX.seq ?_
    refine WX.block ?_
    refine WX.seq ?_
    refine WX.reg ?_
    refine WO.q (.mv (v := .sl _ _ _ _ _ _) rfl) rfl rfl ?_
    refine WO.q (.len rfl rfl rfl (sl40.len h2.isl)) rfl rfl ?_
    refine WO.q (.as (v := .int _ _) rfl) rfl rfl ?_
    refine WO.nil ?_
    refine WX.seq ?_
    refine WX.seq ?_
    refine WX.reg ?_
    refine WO.q (.mv (v := .int _ _) rfl) rfl rfl ?_
    refine WO.q (.r fun _ => rfl) rfl rfl ?_
    refine WO.nil ?_
    rcases bsp (decide (0 < (x3.length : Int))) with k4 | k4
    · have q_k4 := of_decide_eq_true k4
      replace h := (if_pos q_k4).symm.trans h
      refine WX.condT rfl k4 ?_
      refine WX.seq ?_
      refine WX.drw (Plan.of [0, 1, 2, 3, 4, 5, 6, 7, 8, 9, 10, 11] .nil) _ mixed (by kernel_rfl) rfl (pk_sub [0]) ?_
      refine WP.q (i := 0) rfl (.mv (v := .sl _ _ _ _ _ _) rfl) rfl rfl rfl ?_
      refine WP.q (i := 1) rfl (.mv (v := .int _ _) rfl) rfl rfl rfl ?_
      refine WP.q (i := 2) rfl (.r fun _ => rfl) rfl rfl rfl ?_
      obtain ⟨y5, hy5, h⟩ := Option.bind_eq_some_iff.1 h
      obtain rfl := h2.nonnil hy5
      obtain ⟨_, i_y5, l_y5, r_y5⟩ := h2.at sl40 hy5 .i64
      obtain ⟨_, _, rfl, rfl, rfl⟩ := r_y5
      refine WP.q (i := 3) rfl (.ia i_y5) rfl rfl rfl ?_
      refine WP.q (i := 4) rfl (.leA (i := 0) rfl rfl l_y5 ti41 rfl rfl) rfl rfl rfl ?_
      refine WP.q (i := 5) rfl (.mv (v := .sl _ _ _ _ _ _) rfl) rfl rfl rfl ?_
      refine WP.q (i := 6) rfl (.mv (v := .int _ _) rfl) rfl rfl rfl ?_
      obtain ⟨y6, hy6, h⟩ := Option.bind_eq_some_iff.1 h
      obtain ⟨b_y6, o_y6, _, i_y6, p_y6, r_y6⟩ := h1.at sl22 hy6 .i64
      obtain rfl := r_y6
      refine WP.q (i := 7) rfl (.ia i_y6) rfl rfl rfl ?_
      refine WP.q (i := 8) rfl (.lp0 rfl p_y6 rfl ti3 rfl) rfl rfl rfl ?_
      refine WP.q (i := 9) rfl (.bd (bd41_0_1 (cI rfl) (cI rfl))) rfl rfl rfl ?_
      obtain ⟨y7, hy7, h⟩ := Option.bind_eq_some_iff.1 h
      refine WP.cS (i := 10) rfl rfl rfl (gabionref15_joins_ok hy7) rfl rfl rfl ?_
      rintro _ rfl
      refine WP.q (i := 11) rfl (.as (v := .bool _) rfl) rfl rfl rfl ?_
      refine WP.nil ?_
      refine WX.seq ?_
      refine WX.reg ?_
      refine WO.q (.mv (v := .bool _) rfl) rfl rfl ?_
      refine WO.nil ?_
      rcases bsp y7 with k8 | k8
      · replace h := (if_pos k8).symm.trans h
        refine WX.condT rfl k8 ?_
        refine WX.seq ?_
        refine WX.drw (Plan.of [0, 1, 2, 3, 4, 5, 6, 7, 8, 9] .nil) _ mixed (by kernel_rfl) rfl (pk_sub [0]) ?_
        refine WP.q (i := 0) rfl (.mv (v := .sl _ _ _ _ _ _) rfl) rfl rfl rfl ?_
        refine WP.q (i := 1) rfl (.mv (v := .int _ _) rfl) rfl rfl rfl ?_
        refine WP.q (i := 2) rfl (.r fun _ => rfl) rfl rfl rfl ?_
        obtain ⟨y9, hy9, h⟩ := Option.bind_eq_some_iff.1 h
        obtain ⟨_, i_y9, l_y9, r_y9⟩ := h2.at sl40 hy9 .i64
        obtain ⟨_, _, rfl, rfl, rfl⟩ := r_y9
        refine WP.q (i := 3) rfl (.ia i_y9) rfl rfl rfl ?_
        refine WP.q (i := 4) rfl (.ia (ia41_1 _ _)) rfl rfl rfl ?_
        refine WP.q (i := 5) rfl (.ldS (i := 0) rfl rfl (l_y9.g rfl) ti3 rfl) rfl rfl rfl ?_
        refine WP.q (i := 6) rfl (.r fun _ => rfl) rfl rfl rfl ?_
        obtain ⟨y10, hy10, h⟩ := Option.bind_eq_some_iff.1 h
        obtain ⟨_, i_y10, l_y10, r_y10⟩ := h2.at sl40 hy10 .i64
        obtain ⟨_, _, rfl, rfl, rfl⟩ := r_y10
        refine WP.q (i := 7) rfl (.ia i_y10) rfl rfl rfl ?_
        refine WP.q (i := 8) rfl (.ia (ia41_1 _ _)) rfl rfl rfl ?_
        refine WP.msn (i := 9) rfl (MOp.ost1 (x' := (y10.1, (wi64 (y9.2 + 1)))) (f := 1) rfl (cI rfl) (fun _ => .h) ti3 rfl rfl h2 hy10 l_y10 (cs' := [.int .i64 y10.1, .int .i64 (wi64 (y9.2 + 1))]) rfl ⟨[_], _, rfl, rfl, rfl⟩) rfl (by kernel_rfl) rfl ?_
        rintro _ _ ⟨c12, o11, rfl⟩
        refine WS.nil ?_
        refine WX.exit rfl ?_
        refine WX.keep [0, 3, 4] (WX.pk [0] (by decide) ?_) rfl
        exact gabionref15_Runs_j10_ok h hn hx0 hE _ _ _ ⟨hB, _, _, _, false, _, h1, o11, rfl, rfl⟩
      · replace h := (if_neg (bnt k8)).symm.trans h
        refine WX.condF rfl k8 ?_
        refine WX.skip ?_
        refine WX.keep [0, 3, 4] (WX.pk [0] (by decide) ?_) rfl
        exact gabionref15_Runs_j11_ok h hn hx0 hE _ _ _ ⟨hB, _, _, _, false, _, h1, h2, rfl, rfl⟩
    · have q_k4 := of_decide_eq_false k4
      replace h := (if_neg q_k4).symm.trans h
      refine WX.condF rfl k4 ?_
      refine WX.skip ?_
      refine WX.keep [0, 3, 4] (WX.pk [0] (by decide) ?_) rfl
      exact gabionref15_Runs_j11_ok h hn hx0 hE _ _ _ ⟨hB, _, _, _, n2, _, h1, h2, rfl, rfl⟩
  · have q_k3 := of_decide_eq_false k3
    replace h := (if_neg q_k3).symm.trans h
    refine WX.condF rfl k3 ?_
    refine WX.exit rfl ?_
    refine WX.keep [3] (WX.pk [0] (by decide) ?_) rfl
    obtain rfl := Option.some.inj h
    exact hx0 _ hE _ _ _ ⟨hB, _, _, n2, _, h2, rfl, rfl⟩
theorem gabionref15_Runs_l0_ok {B0 : Kn} {L : Own} {n0 : Nat} {x0 : List Int} {x3 : List (Int × Int)} {x4 : Int} {Q : AV → St → Prop} {d : Nat} {e : (List (Int × Int))} (h : iter (fun (s : (List (Int × Int)) × Int) => gabionref15_Runs_l0 x0 s.1 s.2) d (x3, x4) = some e) (g0 : ∀ s, e = s → WXI Try.prog 47 n0 (Fin Try.prog Try.f67.results.toList n0 Q) [.code (ct [1, 1, 1] (bodyOf Try.f67))] (gabionref15_Runs_l0_X0 B0 s) L) : WXI Try.prog 47 n0 (Fin Try.prog Try.f67.results.toList n0 Q) [.code (ct [1, 1, 0, 1, 0, 0] (bodyOf Try.f67)), .lp (ct [1, 1, 0, 1, 0, 0] (bodyOf Try.f67)), .blk 0, .code (ct [1, 1, 1] (bodyOf Try.f67))] (gabionref15_Runs_l0_I B0 x0 x3 x4) L :=
  iter_ok (I := fun s => gabionref15_Runs_l0_I B0 x0 s.1 s.2) (D := fun e => (∀ s, e = s → WXI Try.prog 47 n0 (Fin Try.prog Try.f67.results.toList n0 Q) [.code (ct [1, 1, 1] (bodyOf Try.f67))] (gabionref15_Runs_l0_X0 B0 s) L)) (fun E hn hx s o ho hE => gabionref15_Runs_l0_s ho hn (fun s hs => (hx _ hs) _ rfl)  hE) h g0
theorem gabionref15_Runs_ok {B0 : Kn} {L : Own} {a0 : List Int} {v0_0 : AV} {r : (List (Int × Int))} (g0_0 : RSl (Ty.int .i64) B0 v0_0 a0) (h : gabionref15_Runs a0 = some r) : ∀ st, Hp B0 L st → ASpec Try.prog 67 [v0_0] st (gabionref15_Runs_P B0 L r) := by
  unfold gabionref15_Runs at h
  refine bodyA (A := []) Try.func67 rfl (c := bodyOf Try.f67) rfl Try.ntmps67 (lb rfl) fun n0 => ?_
  have hB := KLe.refl B0
  obtain ⟨_, _, _, _, _, rfl⟩ := g0_0.isl
  refine WX.seq ?_
  refine WX.reg ?_
  refine WO.q (.as (v := .sl _ _ _ _ _ _) rfl) rfl rfl ?_
  refine WO.nil ?_
  refine WX.seq ?_
  refine WX.reg ?_
  refine WO.q (.as (v := .sl _ _ _ _ _ _) rfl) rfl rfl ?_
  refine WO.nil ?_
  refine WX.seq ?_
  refine WX.seq ?_
  refine WX.reg ?_
  refine WO.q (.as (v := .int _ _) rfl) rfl rfl ?_
  refine WO.nil ?_
  refine WX.block ?_
  refine WX.loop ?_
  obtain ⟨e28, he28, h⟩ := Option.bind_eq_some_iff.1 h
  refine WX.keep [0, 3, 4] (WX.pk [] (by decide) (WX.addn [0] ?_)) rfl
  refine gabionref15_Runs_l0_ok he28 ?_ _ _ _ ⟨hB, _, _, 0, true, [], g0_0, OSl.none _ _, rfl, rfl⟩
  · intro s30 he_
    subst he_
    replace h := h
    rintro _ B _ ⟨hB, v29, b29, n29, c29, h29, rfl, rfl⟩
    obtain ⟨_, _, _, _, _, rfl⟩ := h29.isl
    refine WX.seq ?_
    refine WX.reg ?_
    refine WO.q (.mv (v := .sl _ _ _ _ _ _) rfl) rfl rfl ?_
    refine WO.q (.as (v := .sl _ _ _ _ _ _) rfl) rfl rfl ?_
    refine WO.nil ?_
    obtain rfl := Option.some.inj h
    exact WX.ret (rs_ (rs_tmp rfl rs_nil)) fun st hp => ⟨_, _, hB, (hp.pk [0] (by decide)), _, _, n29, _, rfl, rfl, h29⟩
def gabionref15_Right_P (B : Kn) (L : Own) (r : Bool) : AV → St → Prop := CS B L fun v => v = .bool r
def gabionref15_Right_j12_I (B0 : Kn) (x0 : List (Int × Int)) (x3 : Int) (x4 : Int) : Fr → Kn → Own → Prop := fun fr B A => KLe B0 B ∧ ∃ v13, RSl EPIi64Ii64Q B v13 x0 ∧ fr = [(0, v13), (3, .int .i64 x3), (4, .int .i64 x4)] ∧ A = []
def gabionref15_Right_j7_I (B0 : Kn) (x0 : List (Int × Int)) (x3 : Int) (x4 : Int) (x44 : Bool) : Fr → Kn → Own → Prop := fun fr B A => KLe B0 B ∧ ∃ v6, RSl EPIi64Ii64Q B v6 x0 ∧ fr = [(0, v6), (3, .int .i64 x3), (4, .int .i64 x4), (44, .bool x44)] ∧ A = []
def gabionref15_Right_l0_I (B0 : Kn) (x0 : List (Int × Int)) (x3 : Int) (x4 : Int) : Fr → Kn → Own → Prop := fun fr B A => KLe B0 B ∧ ∃ v2, RSl EPIi64Ii64Q B v2 x0 ∧ fr = [(0, v2), (3, .int .i64 x3), (4, .int .i64 x4)] ∧ A = []
def gabionref15_Right_l0_X0 (B0 : Kn) (x3 : Int) : Fr → Kn → Own → Prop := fun fr B A => KLe B0 B ∧ fr = [(3, .int .i64 x3)] ∧ A = []
theorem gabionref15_Right_j12_ok {B0 : Kn} {L : Own} {n0 : Nat} {x0 : List (Int × Int)} {x3 : Int} {x4 : Int} {Q : AV → St → Prop} {E : (Int × Int) ⊕ (Bool ⊕ Int) → Prop} {o : (Int × Int) ⊕ (Bool ⊕ Int)} (h : gabionref15_Right_j12 x0 x3 x4 = some o) (hn : ∀ s, E (.inl s) → WXI Try.prog 67 n0 (Fin Try.prog Try.f25.results.toList n0 Q) [.lp (ct [1, 1, 1, 0, 1, 0, 0] (bodyOf Try.f25)), .blk 0, .code (ct [1, 1, 1, 1] (bodyOf Try.f25))] (gabionref15_Right_l0_I B0 x0 s.1 s.2) L) (hx0 : ∀ s, E (.inr (.inr s)) → WXI Try.prog 67 n0 (Fin Try.prog Try.f25.results.toList n0 Q) [.code (ct [1, 1, 1, 1] (bodyOf Try.f25))] (gabionref15_Right_l0_X0 B0 s) L) (hr : ∀ r, E (.inr (.inl r)) → ∀ v st, gabionref15_Right_P B0 L r v st → Q v st) (hE : E o) : WXI Try.prog 67 n0 (Fin Try.prog Try.f25.results.toList n0 Q) [.code (ct [1, 1, 1, 0, 1, 0, 0, 1, 0, 0, 1, 1] (bodyOf Try.f25)), .blk 1, .code (ct [1, 1, 1, 0, 1, 0, 0, 1, 1] (bodyOf Try.f25)), .lp (ct [1, 1, 1, 0, 1, 0, 0] (bodyOf Try.f25)), .blk 0, .code (ct [1, 1, 1, 1] (bodyOf Try.f25))] (gabionref15_Right_j12_I B0 x0 x3 x4) L := by
  unfold gabionref15_Right_j12 at h
  rintro _ B _ ⟨hB, v13, h13, rfl, rfl⟩
  obtain ⟨_, _, _, _, _, rfl⟩ := h13.isl
  refine WX.reg ?_
  refine WO.q (.mv (v := .int _ _) rfl) rfl rfl ?_
  refine WO.q (.mv (v := .sl _ _ _ _ _ _) rfl) rfl rfl ?_
  refine WO.q (.mv (v := .int _ _) rfl) rfl rfl ?_
  obtain ⟨y14, hy14, h⟩ := Option.bind_eq_some_iff.1 h
  obtain ⟨b_y14, o_y14, _, i_y14, p_y14, r_y14⟩ := h13.at sl40 hy14 .i64
  obtain ⟨_, _, rfl, rfl, rfl⟩ := r_y14
  refine WO.q (.ia i_y14) rfl rfl ?_
  refine WO.q (.ia (ia41_1 _ _)) rfl rfl ?_
  refine WO.q (.lpS rfl p_y14 rfl ti3 rfl) rfl rfl ?_
  refine WO.q (.r fun _ => rfl) rfl rfl ?_
  refine WO.q (.as (v := .int _ _) rfl) rfl rfl ?_
  refine WO.nil ?_
  refine WX.pop ?_
  refine WX.reg ?_
  refine WO.q (.mv (v := .int _ _) rfl) rfl rfl ?_
  refine WO.q (.r fun _ => rfl) rfl rfl ?_
  refine WO.q (.as (v := .int _ _) rfl) rfl rfl ?_
  refine WO.nil ?_
  refine WX.keepL [0, 3, 4] (WX.pk [] (by decide) ?_) rfl
  obtain rfl := Option.some.inj h
  exact hn _ hE _ _ _ ⟨hB, _, h13, rfl, rfl⟩
theorem gabionref15_Right_j7_ok {B0 : Kn} {L : Own} {n0 : Nat} {x0 : List (Int × Int)} {x3 : Int} {x4 : Int} {x44 : Bool} {Q : AV → St → Prop} {E : (Int × Int) ⊕ (Bool ⊕ Int) → Prop} {o : (Int × Int) ⊕ (Bool ⊕ Int)} (h : gabionref15_Right_j7 x0 x3 x4 x44 = some o) (hn : ∀ s, E (.inl s) → WXI Try.prog 67 n0 (Fin Try.prog Try.f25.results.toList n0 Q) [.lp (ct [1, 1, 1, 0, 1, 0, 0] (bodyOf Try.f25)), .blk 0, .code (ct [1, 1, 1, 1] (bodyOf Try.f25))] (gabionref15_Right_l0_I B0 x0 s.1 s.2) L) (hx0 : ∀ s, E (.inr (.inr s)) → WXI Try.prog 67 n0 (Fin Try.prog Try.f25.results.toList n0 Q) [.code (ct [1, 1, 1, 1] (bodyOf Try.f25))] (gabionref15_Right_l0_X0 B0 s) L) (hr : ∀ r, E (.inr (.inl r)) → ∀ v st, gabionref15_Right_P B0 L r v st → Q v st) (hE : E o) : WXI Try.prog 67 n0 (Fin Try.prog Try.f25.results.toList n0 Q) [.code (ct [1, 1, 1, 0, 1, 0, 0, 1, 0, 0, 0, 1] (bodyOf Try.f25)), .code (ct [1, 1, 1, 0, 1, 0, 0, 1, 0, 0, 1] (bodyOf Try.f25)), .blk 1, .code (ct [1, 1, 1, 0, 1, 0, 0, 1, 1] (bodyOf Try.f25)), .lp (ct [1, 1, 1, 0, 1, 0, 0] (bodyOf Try.f25)), .blk 0, .code (ct [1, 1, 1, 1] (bodyOf Try.f25))] (gabionref15_Right_j7_I B0 x0 x3 x4 x44) L := by
  unfold gabionref15_Right_j7 at h
  rintro _ B _ ⟨hB, v6, h6, rfl, rfl⟩
  obtain ⟨_, _, _, _, _, rfl⟩ := h6.isl
  rcases bsp x44 with k7 | k7
  · replace h := (if_pos k7).symm.trans h
    refine WX.condT rfl k7 ?_
    refine WX.seq ?_
    refine WX.reg ?_
    refine WO.q (.as (v := .bool _) rfl) rfl rfl ?_
    refine WO.nil ?_
    obtain rfl := Option.some.inj h
    exact WX.ret (rs_ (rs_tmp rfl rs_nil)) fun st hp => hr _ hE _ _ ⟨(hp.pk [] (by decide)).le hB, rfl⟩
  · replace h := (if_neg (bnt k7)).symm.trans h
    refine WX.condF rfl k7 ?_
    refine WX.skip ?_
    refine WX.seq ?_
    refine WX.seq ?_
    refine WX.reg ?_
    refine WO.q (.mv (v := .int _ _) rfl) rfl rfl ?_
    refine WO.q (.r fun _ => rfl) rfl rfl ?_
    refine WO.nil ?_
    rcases bsp (decide (0 < x4)) with k8 | k8
    · have q_k8 := of_decide_eq_true k8
      replace h := (if_pos q_k8).symm.trans h
      refine WX.condT rfl k8 ?_
      refine WX.seq ?_
      refine WX.drw (Plan.of [0, 1, 2, 3, 4, 5, 6, 7, 8, 9, 10] .nil) _ mixed (by kernel_rfl) rfl (pk_sub []) ?_
      refine WP.q (i := 0) rfl (.mv (v := .sl _ _ _ _ _ _) rfl) rfl rfl rfl ?_
      refine WP.q (i := 1) rfl (.mv (v := .int _ _) rfl) rfl rfl rfl ?_
      refine WP.q (i := 2) rfl (.r fun _ => rfl) rfl rfl rfl ?_
      obtain ⟨y9, hy9, h⟩ := Option.bind_eq_some_iff.1 h
      obtain ⟨b_y9, o_y9, _, i_y9, p_y9, r_y9⟩ := h6.at sl40 hy9 .i64
      obtain ⟨_, _, rfl, rfl, rfl⟩ := r_y9
      refine WP.q (i := 3) rfl (.ia i_y9) rfl rfl rfl ?_
      refine WP.q (i := 4) rfl (.lpA rfl p_y9 ti41 rfl rfl) rfl rfl rfl ?_
      refine WP.q (i := 5) rfl (.mv (v := .sl _ _ _ _ _ _) rfl) rfl rfl rfl ?_
      refine WP.q (i := 6) rfl (.mv (v := .int _ _) rfl) rfl rfl rfl ?_
      obtain ⟨y10, hy10, h⟩ := Option.bind_eq_some_iff.1 h
      obtain ⟨b_y10, o_y10, _, i_y10, p_y10, r_y10⟩ := h6.at sl40 hy10 .i64
      obtain ⟨_, _, rfl, rfl, rfl⟩ := r_y10
      refine WP.q (i := 7) rfl (.ia i_y10) rfl rfl rfl ?_
      refine WP.q (i := 8) rfl (.lpA rfl p_y10 ti41 rfl rfl) rfl rfl rfl ?_
      obtain ⟨y11, hy11, h⟩ := Option.bind_eq_some_iff.1 h
      refine WP.cS (i := 9) rfl rfl rfl (gabionref15_joins_ok hy11) rfl rfl rfl ?_
      rintro _ rfl
      refine WP.q (i := 10) rfl (.as (v := .bool _) rfl) rfl rfl rfl ?_
      refine WP.nil ?_
      refine WX.seq ?_
      refine WX.reg ?_
      refine WO.q (.mv (v := .bool _) rfl) rfl rfl ?_
      refine WO.nil ?_
      rcases bsp y11 with k12 | k12
      · replace h := (if_pos k12).symm.trans h
        refine WX.condT rfl k12 ?_
        refine WX.seq ?_
        refine WX.reg ?_
        refine WO.q (.as (v := .bool _) rfl) rfl rfl ?_
        refine WO.nil ?_
        obtain rfl := Option.some.inj h
        exact WX.ret (rs_ (rs_tmp rfl rs_nil)) fun st hp => hr _ hE _ _ ⟨(hp.pk [] (by decide)).le hB, rfl⟩
      · replace h := (if_neg (bnt k12)).symm.trans h
        refine WX.condF rfl k12 ?_
        refine WX.skip ?_
        refine WX.keep [0, 3, 4] (WX.pk [] (by decide) ?_) rfl
        exact gabionref15_Right_j12_ok h hn hx0 hr hE _ _ _ ⟨hB, _, h6, rfl, rfl⟩
    · have q_k8 := of_decide_eq_false k8
      replace h := (if_neg q_k8).symm.trans h
      refine WX.condF rfl k8 ?_
      refine WX.skip ?_
      refine WX.keep [0, 3, 4] (WX.pk [] (by decide) ?_) rfl
      exact gabionref15_Right_j12_ok h hn hx0 hr hE _ _ _ ⟨hB, _, h6, rfl, rfl⟩
theorem gabionref15_Right_l0_s {B0 : Kn} {L : Own} {n0 : Nat} {x0 : List (Int × Int)} {x3 : Int} {x4 : Int} {Q : AV → St → Prop} {E : (Int × Int) ⊕ (Bool ⊕ Int) → Prop} {o : (Int × Int) ⊕ (Bool ⊕ Int)} (h : gabionref15_Right_l0 x0 x3 x4 = some o) (hn : ∀ s, E (.inl s) → WXI Try.prog 67 n0 (Fin Try.prog Try.f25.results.toList n0 Q) [.lp (ct [1, 1, 1, 0, 1, 0, 0] (bodyOf Try.f25)), .blk 0, .code (ct [1, 1, 1, 1] (bodyOf Try.f25))] (gabionref15_Right_l0_I B0 x0 s.1 s.2) L) (hx0 : ∀ s, E (.inr (.inr s)) → WXI Try.prog 67 n0 (Fin Try.prog Try.f25.results.toList n0 Q) [.code (ct [1, 1, 1, 1] (bodyOf Try.f25))] (gabionref15_Right_l0_X0 B0 s) L) (hr : ∀ r, E (.inr (.inl r)) → ∀ v st, gabionref15_Right_P B0 L r v st → Q v st) (hE : E o) : WXI Try.prog 67 n0 (Fin Try.prog Try.f25.results.toList n0 Q) [.code (ct [1, 1, 1, 0, 1, 0, 0] (bodyOf Try.f25)), .lp (ct [1, 1, 1, 0, 1, 0, 0] (bodyOf Try.f25)), .blk 0, .code (ct [1, 1, 1, 1] (bodyOf Try.f25))] (gabionref15_Right_l0_I B0 x0 x3 x4) L := by
  unfold gabionref15_Right_l0 at h
  rintro _ B _ ⟨hB, v2, h2, rfl, rfl⟩
  obtain ⟨_, _, _, _, _, rfl⟩ := h2.isl
  refine WX.seq ?_
  refine WX.seq ?_
  refine WX.reg ?_
  refine WO.q (.mv (v := .int _ _) rfl) rfl rfl ?_
  refine WO.q (.mv (v := .sl _ _ _ _ _ _) rfl) rfl rfl ?_
  refine WO.q (.len rfl rfl rfl (sl40.len h2.isl)) rfl rfl ?_
  refine WO.q (.r fun _ => rfl) rfl rfl ?_
  refine WO.nil ?_
  rcases bsp (decide (x4 < (x0.length : Int))) with k3 | k3
  · have q_k3 := of_decide_eq_true k3
    replace h := (if_pos q_k3).symm.trans h
    refine WX.condT rfl k3 ?_
    refine WX.skip ?_
    refine WX.seq ?_
    refine WX.block ?_
    refine WX.seq ?_
    refine WX.seq ?_
    refine WX.reg ?_
    refine WO.q (.mv (v := .sl _ _ _ _ _ _) rfl) rfl rfl ?_
    refine WO.q (.mv (v := .int _ _) rfl) rfl rfl ?_
    obtain ⟨y4, hy4, h⟩ := Option.bind_eq_some_iff.1 h
    obtain ⟨b_y4, o_y4, _, i_y4, p_y4, r_y4⟩ := h2.at sl40 hy4 .i64
    obtain ⟨_, _, rfl, rfl, rfl⟩ := r_y4
    refine WO.q (.ia i_y4) rfl rfl ?_
    refine WO.q (.ia (ia41_0 _ _)) rfl rfl ?_
    refine WO.q (.lpS rfl p_y4 rfl ti3 rfl) rfl rfl ?_
    refine WO.q (.r fun _ => rfl) rfl rfl ?_
    refine WO.q (.mv (v := .bool _) rfl) rfl rfl ?_
    rcases bsp (decide (y4.1 < (-1))) with k5 | k5
    · have q_k5 := of_decide_eq_true k5
      replace h := (if_pos q_k5).symm.trans h
      refine WO.sd (wg rfl rfl (gfn k5)) rfl ?_
      refine WO.sd (wg rfl rfl (gfn k5)) rfl ?_
      refine WO.sd (wg rfl rfl (gfn k5)) rfl ?_
      refine WO.sd (wg rfl rfl (gfn k5)) rfl ?_
      refine WO.sd (wg rfl rfl (gfn k5)) rfl ?_
      refine WO.sd (wg rfl rfl (gfn k5)) rfl ?_
      refine WO.q (.ptv (v := .bool _) rfl k5 rfl) rfl rfl ?_
      refine WO.q (.mv (v := .bool _) rfl) rfl rfl ?_
      refine WO.sd (wg rfl rfl (gfn rfl)) rfl ?_
      refine WO.sd (wg rfl rfl (gfn rfl)) rfl ?_
      refine WO.sd (wg rfl rfl (gfn rfl)) rfl ?_
      refine WO.sd (wg rfl rfl (gfn rfl)) rfl ?_
      refine WO.sd (wg rfl rfl (gfn rfl)) rfl ?_
      refine WO.sd (wg rfl rfl (gfn rfl)) rfl ?_
      refine WO.q (.ptv (v := .bool _) rfl rfl rfl) rfl rfl ?_
      refine WO.q (.mv (v := .bool _) rfl) rfl rfl ?_
      refine WO.sd (wg rfl rfl (gfn rfl)) rfl ?_
      refine WO.sd (wg rfl rfl (gfn rfl)) rfl ?_
      refine WO.sd (wg rfl rfl (gfn rfl)) rfl ?_
      refine WO.sd (wg rfl rfl (gfn rfl)) rfl ?_
      refine WO.sd (wg rfl rfl (gfn rfl)) rfl ?_
      refine WO.sd (wg rfl rfl (gfn rfl)) rfl ?_
      refine WO.q (.ptv (v := .bool _) rfl rfl rfl) rfl rfl ?_
      refine WO.nil ?_
      refine WX.keep [0, 3, 4, 44] (WX.pk [] (by decide) ?_) rfl
      exact gabionref15_Right_j7_ok h hn hx0 hr hE _ _ _ ⟨hB, _, h2, rfl, rfl⟩
    · have q_k5 := of_decide_eq_false k5
      replace h := (if_neg q_k5).symm.trans h
      refine WO.q (.mv (v := .sl _ _ _ _ _ _) rfl) (wg rfl rfl (gf k5)) rfl ?_
      refine WO.q (.mv (v := .int _ _) rfl) (wg rfl rfl (gf k5)) rfl ?_
      obtain ⟨y15, hy15, h⟩ := Option.bind_eq_some_iff.1 h
      obtain ⟨b_y15, o_y15, _, i_y15, p_y15, r_y15⟩ := h2.at sl40 hy15 .i64
      obtain ⟨_, _, rfl, rfl, rfl⟩ := r_y15
      refine WO.q (.ia i_y15) (wg rfl rfl (gf k5)) rfl ?_
      refine WO.q (.ia (ia41_0 _ _)) (wg rfl rfl (gf k5)) rfl ?_
      refine WO.q (.lpS rfl p_y15 rfl ti3 rfl) (wg rfl rfl (gf k5)) rfl ?_
      refine WO.q (.r fun _ => rfl) (wg rfl rfl (gf k5)) rfl ?_
      refine WO.q (.pfv (v := .bool _) rfl k5 rfl) rfl rfl ?_
      refine WO.q (.mv (v := .bool _) rfl) rfl rfl ?_
      rcases bsp (decide (65536 < y15.1)) with k16 | k16
      · have q_k16 := of_decide_eq_true k16
        replace h := (if_pos q_k16).symm.trans h
        refine WO.sd (wg rfl rfl (gfn k16)) rfl ?_
        refine WO.sd (wg rfl rfl (gfn k16)) rfl ?_
        refine WO.sd (wg rfl rfl (gfn k16)) rfl ?_
        refine WO.sd (wg rfl rfl (gfn k16)) rfl ?_
        refine WO.sd (wg rfl rfl (gfn k16)) rfl ?_
        refine WO.sd (wg rfl rfl (gfn k16)) rfl ?_
        refine WO.q (.ptv (v := .bool _) rfl k16 rfl) rfl rfl ?_
        refine WO.q (.mv (v := .bool _) rfl) rfl rfl ?_
        refine WO.sd (wg rfl rfl (gfn rfl)) rfl ?_
        refine WO.sd (wg rfl rfl (gfn rfl)) rfl ?_
        refine WO.sd (wg rfl rfl (gfn rfl)) rfl ?_
        refine WO.sd (wg rfl rfl (gfn rfl)) rfl ?_
        refine WO.sd (wg rfl rfl (gfn rfl)) rfl ?_
        refine WO.sd (wg rfl rfl (gfn rfl)) rfl ?_
        refine WO.q (.ptv (v := .bool _) rfl rfl rfl) rfl rfl ?_
        refine WO.nil ?_
        refine WX.keep [0, 3, 4, 44] (WX.pk [] (by decide) ?_) rfl
        exact gabionref15_Right_j7_ok h hn hx0 hr hE _ _ _ ⟨hB, _, h2, rfl, rfl⟩
      · have q_k16 := of_decide_eq_false k16
        replace h := (if_neg q_k16).symm.trans h
        refine WO.q (.mv (v := .sl _ _ _ _ _ _) rfl) (wg rfl rfl (gf k16)) rfl ?_
        refine WO.q (.mv (v := .int _ _) rfl) (wg rfl rfl (gf k16)) rfl ?_
        obtain ⟨y17, hy17, h⟩ := Option.bind_eq_some_iff.1 h
        obtain ⟨b_y17, o_y17, _, i_y17, p_y17, r_y17⟩ := h2.at sl40 hy17 .i64
        obtain ⟨_, _, rfl, rfl, rfl⟩ := r_y17
        refine WO.q (.ia i_y17) (wg rfl rfl (gf k16)) rfl ?_
        refine WO.q (.ia (ia41_1 _ _)) (wg rfl rfl (gf k16)) rfl ?_
        refine WO.q (.lpS rfl p_y17 rfl ti3 rfl) (wg rfl rfl (gf k16)) rfl ?_
        refine WO.q (.r fun _ => rfl) (wg rfl rfl (gf k16)) rfl ?_
        refine WO.q (.pfv (v := .bool _) rfl k16 rfl) rfl rfl ?_
        refine WO.q (.mv (v := .bool _) rfl) rfl rfl ?_
        rcases bsp (decide (y17.2 < 1)) with k18 | k18
        · have q_k18 := of_decide_eq_true k18
          replace h := (if_pos q_k18).symm.trans h
          refine WO.sd (wg rfl rfl (gfn k18)) rfl ?_
          refine WO.sd (wg rfl rfl (gfn k18)) rfl ?_
          refine WO.sd (wg rfl rfl (gfn k18)) rfl ?_
          refine WO.sd (wg rfl rfl (gfn k18)) rfl ?_
          refine WO.sd (wg rfl rfl (gfn k18)) rfl ?_
          refine WO.sd (wg rfl rfl (gfn k18)) rfl ?_
          refine WO.q (.ptv (v := .bool _) rfl k18 rfl) rfl rfl ?_
          refine WO.nil ?_
          refine WX.keep [0, 3, 4, 44] (WX.pk [] (by decide) ?_) rfl
          exact gabionref15_Right_j7_ok h hn hx0 hr hE _ _ _ ⟨hB, _, h2, rfl, rfl⟩
        · have q_k18 := of_decide_eq_false k18
          replace h := (if_neg q_k18).symm.trans h
          refine WO.q (.mv (v := .sl _ _ _ _ _ _) rfl) (wg rfl rfl (gf k18)) rfl ?_
          refine WO.q (.mv (v := .int _ _) rfl) (wg rfl rfl (gf k18)) rfl ?_
          obtain ⟨y19, hy19, h⟩ := Option.bind_eq_some_iff.1 h
          obtain ⟨b_y19, o_y19, _, i_y19, p_y19, r_y19⟩ := h2.at sl40 hy19 .i64
          obtain ⟨_, _, rfl, rfl, rfl⟩ := r_y19
          refine WO.q (.ia i_y19) (wg rfl rfl (gf k18)) rfl ?_
          refine WO.q (.ia (ia41_1 _ _)) (wg rfl rfl (gf k18)) rfl ?_
          refine WO.q (.lpS rfl p_y19 rfl ti3 rfl) (wg rfl rfl (gf k18)) rfl ?_
          refine WO.q (.r fun _ => rfl) (wg rfl rfl (gf k18)) rfl ?_
          refine WO.q (.pfv (v := .bool _) rfl k18 rfl) rfl rfl ?_
          refine WO.nil ?_
          refine WX.keep [0, 3, 4, 44] (WX.pk [] (by decide) ?_) rfl
          exact gabionref15_Right_j7_ok h hn hx0 hr hE _ _ _ ⟨hB, _, h2, rfl, rfl⟩
  · have q_k3 := of_decide_eq_false k3
    replace h := (if_neg q_k3).symm.trans h
    refine WX.condF rfl k3 ?_
    refine WX.exit rfl ?_
    refine WX.keep [3] (WX.pk [] (by decide) ?_) rfl
    obtain rfl := Option.some.inj h
    exact hx0 _ hE _ _ _ ⟨hB, rfl, rfl⟩
theorem gabionref15_Right_l0_ok {B0 : Kn} {L : Own} {n0 : Nat} {x0 : List (Int × Int)} {x3 : Int} {x4 : Int} {Q : AV → St → Prop} {d : Nat} {e : Bool ⊕ Int} (h : iter (fun (s : Int × Int) => gabionref15_Right_l0 x0 s.1 s.2) d (x3, x4) = some e) (g0 : ∀ r, e = (.inl r) → ∀ v st, gabionref15_Right_P B0 L r v st → Q v st) (g1 : ∀ s, e = (.inr s) → WXI Try.prog 67 n0 (Fin Try.prog Try.f25.results.toList n0 Q) [.code (ct [1, 1, 1, 1] (bodyOf Try.f25))] (gabionref15_Right_l0_X0 B0 s) L) : WXI Try.prog 67 n0 (Fin Try.prog Try.f25.results.toList n0 Q) [.code (ct [1, 1, 1, 0, 1, 0, 0] (bodyOf Try.f25)), .lp (ct [1, 1, 1, 0, 1, 0, 0] (bodyOf Try.f25)), .blk 0, .code (ct [1, 1, 1, 1] (bodyOf Try.f25))] (gabionref15_Right_l0_I B0 x0 x3 x4) L :=
  iter_ok (I := fun s => gabionref15_Right_l0_I B0 x0 s.1 s.2) (D := fun e => (∀ r, e = (.inl r) → ∀ v st, gabionref15_Right_P B0 L r v st → Q v st) ∧ (∀ s, e = (.inr s) → WXI Try.prog 67 n0 (Fin Try.prog Try.f25.results.toList n0 Q) [.code (ct [1, 1, 1, 1] (bodyOf Try.f25))] (gabionref15_Right_l0_X0 B0 s) L)) (fun E hn hx s o ho hE => gabionref15_Right_l0_s ho hn (fun s hs => (hx _ hs).2 _ rfl) (fun r hs => (hx _ hs).1 _ rfl) hE) h ⟨g0, g1⟩
theorem gabionref15_Right_ok {B0 : Kn} {L : Own} {a0 : List (Int × Int)} {v0_0 : AV} {r : Bool} (g0_0 : RSl EPIi64Ii64Q B0 v0_0 a0) (h : gabionref15_Right a0 = some r) : ∀ st, Hp B0 L st → ASpec Try.prog 25 [v0_0] st (gabionref15_Right_P B0 L r) := by
  unfold gabionref15_Right at h
  refine bodyA (A := []) Try.func25 rfl (c := bodyOf Try.f25) rfl Try.ntmps25 (lb rfl) fun n0 => ?_
  have hB := KLe.refl B0
  obtain ⟨_, _, _, _, _, rfl⟩ := g0_0.isl
  refine WX.seq ?_
  refine WX.reg ?_
  refine WO.q (.as (v := .bool _) rfl) rfl rfl ?_
  refine WO.nil ?_
  refine WX.seq ?_
  refine WX.seq ?_
  refine WX.reg ?_
  refine WO.q (.mv (v := .sl _ _ _ _ _ _) rfl) rfl rfl ?_
  refine WO.q (.len rfl rfl rfl (sl40.len g0_0.isl)) rfl rfl ?_
  refine WO.q (.r fun _ => rfl) rfl rfl ?_
  refine WO.nil ?_
  rcases bsp (decide (64 < (a0.length : Int))) with k1 | k1
  · have q_k1 := of_decide_eq_true k1
    replace h := (if_pos q_k1).symm.trans h
    refine WX.condT rfl k1 ?_
    refine WX.seq ?_
    refine WX.reg ?_
    refine WO.q (.as (v := .bool _) rfl) rfl rfl ?_
    refine WO.nil ?_
    obtain rfl := Option.some.inj h
    exact WX.ret (rs_ (rs_tmp rfl rs_nil)) fun st hp => ⟨(hp.pk [] (by decide)).le hB, rfl⟩
  · have q_k1 := of_decide_eq_false k1
    replace h := (if_neg q_k1).symm.trans h
    refine WX.condF rfl k1 ?_
    refine WX.skip ?_
    refine WX.seq ?_
    refine WX.reg ?_
    refine WO.q (.as (v := .int _ _) rfl) rfl rfl ?_
    refine WO.nil ?_
    refine WX.seq ?_
    refine WX.seq ?_
    refine WX.reg ?_
    refine WO.q (.as (v := .int _ _) rfl) rfl rfl ?_
    refine WO.nil ?_
    refine WX.block ?_
    refine WX.loop ?_
    obtain ⟨e20, he20, h⟩ := Option.bind_eq_some_iff.1 h
    refine WX.keep [0, 3, 4] (WX.pk [] (by decide) ?_) rfl
    refine gabionref15_Right_l0_ok he20 ?_ ?_ _ _ _ ⟨hB, _, g0_0, rfl, rfl⟩
    · intro r22 he_
      subst he_
      replace h := (on_l h)
      obtain rfl := Option.some.inj h
      exact fun v st hp => hp
    · intro x23 he_
      subst he_
      replace h := (on_r h)
      rintro _ B _ ⟨hB, rfl, rfl⟩
      refine WX.seq ?_
      refine WX.reg ?_
      refine WO.q (.mv (v := .int _ _) rfl) rfl rfl ?_
      refine WO.q (.r fun _ => rfl) rfl rfl ?_
      refine WO.q (.as (v := .bool _) rfl) rfl rfl ?_
      refine WO.nil ?_
      obtain rfl := Option.some.inj h
      exact WX.ret (rs_ (rs_tmp rfl rs_nil)) fun st hp => ⟨(hp.pk [] (by decide)).le hB, rfl⟩
end Gab
