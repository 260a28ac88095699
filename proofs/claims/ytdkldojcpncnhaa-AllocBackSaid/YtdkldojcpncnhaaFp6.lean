/- The Go code comes to what the Lean functions say. Written by a program (gp.py). -/
import Derived.Test.YtdkldojcpncnhaaFd
import Derived.Test.YtdkldojcpncnhaaFp5
set_option linter.unusedSimpArgs false
set_option linter.unusedVariables false
set_option maxHeartbeats 4000000
set_option maxRecDepth 100000
namespace Gab
open Go Go.Proofs
def gabionref15_Runs_P (B : Kn) (L : Own) (r : (List (Int × Int))) : AV → St → Prop := C1 B L fun B' v e0 => ∃ w0 b0 n0 c0, v = w0 ∧ e0 = oe b0 n0 c0 ∧ OSl EPIi64Ii64Q B' w0 b0 n0 c0 r
def gabionref15_Runs_j10_I (B0 : Kn) (x0 : List Int) (x3 : List (Int × Int)) (x4 : Int) : Fr → Kn → Own → Prop := fun fr B A => KLe B0 B ∧ ∃ v13 v14 b14 n14 c14, RSl (Ty.int .i64) B v13 x0 ∧ OSl EPIi64Ii64Q B v14 b14 n14 c14 x3 ∧ fr = [(0, v13), (3, v14), (4, .int .i64 x4)] ∧ A = [oe b14 n14 c14]
def gabionref15_Runs_j11_I (B0 : Kn) (x0 : List Int) (x3 : List (Int × Int)) (x4 : Int) : Fr → Kn → Own → Prop := fun fr B A => KLe B0 B ∧ ∃ v15 v16 b16 n16 c16, RSl (Ty.int .i64) B v15 x0 ∧ OSl EPIi64Ii64Q B v16 b16 n16 c16 x3 ∧ fr = [(0, v15), (3, v16), (4, .int .i64 x4)] ∧ A = [oe b16 n16 c16]
def gabionref15_Runs_l0_I (B0 : Kn) (x0 : List Int) (x3 : List (Int × Int)) (x4 : Int) : Fr → Kn → Own → Prop := fun fr B A => KLe B0 B ∧ ∃ v1 v2 b2 n2 c2, RSl (Ty.int .i64) B v1 x0 ∧ OSl EPIi64Ii64Q B v2 b2 n2 c2 x3 ∧ fr = [(0, v1), (3, v2), (4, .int .i64 x4)] ∧ A = [oe b2 n2 c2]
def gabionref15_Runs_l0_X0 (B0 : Kn) (x3 : List (Int × Int)) : Fr → Kn → Own → Prop := fun fr B A => KLe B0 B ∧ ∃ v31 b31 n31 c31, OSl EPIi64Ii64Q B v31 b31 n31 c31 x3 ∧ fr = [(3, v31)] ∧ A = [oe b31 n31 c31]
theorem gabionref15_Runs_j10_ok {B0 : Kn} {L : Own} {n0 : Nat} {x0 : List Int} {x3 : List (Int × Int)} {x4 : Int} {Q : AV → St → Prop} {E : ((List (Int × Int)) × Int) ⊕ (List (Int × Int)) → Prop} {o : ((List (Int × Int)) × Int) ⊕ (List (Int × Int))} (h : gabionref15_Runs_j10 x0 x3 x4 = some o) (hn : ∀ s, E (.inl s) → WXI Try.prog 47 n0 (Fin Try.prog Try.f67.results.toList n0 Q) [.lp (ct [1, 1, 0, 1, 0, 0] (bodyOf Try.f67)), .blk 0, .code (ct [1, 1, 1] (bodyOf Try.f67))] (gabionref15_Runs_l0_I B0 x0 s.1 s.2) L) (hx0 : ∀ s, E (.inr s) → WXI Try.prog 47 n0 (Fin Try.prog Try.f67.results.toList n0 Q) [.code (ct [1, 1, 1] (bodyOf Try.f67))] (gabionref15_Runs_l0_X0 B0 s) L) (hE : E o) : WXI Try.prog 47 n0 (Fin Try.prog Try.f67.results.toList n0 Q) [.code (ct [1, 1, 0, 1, 0, 0, 1, 1] (bodyOf Try.f67)), .lp (ct [1, 1, 0, 1, 0, 0] (bodyOf Try.f67)), .blk 0, .code (ct [1, 1, 1] (bodyOf Try.f67))] (gabionref15_Runs_j10_I B0 x0 x3 x4) L := by
  unfold gabionref15_Runs_j10 at h
  rintro _ B _ ⟨hB, v13, v14, b14, n14, c14, h13, h14, rfl, rfl⟩
  obtain ⟨_, _, _, _, _, rfl⟩ := h13.isl
  obtain ⟨_, _, _, _, _, rfl⟩ := h14.isl
  refine WX.reg ?_
  refine WO.q (.mv (v := .int _ _) rfl) rfl rfl ?_
  refine WO.q (.r fun _ => rfl) rfl rfl ?_
  refine WO.q (.as (v := .int _ _) rfl) rfl rfl ?_
  refine WO.nil ?_
  refine WX.keepL [0, 3, 4] (WX.pk [0] (by decide) ?_) rfl
  obtain rfl := Option.some.inj h
  exact hn _ hE _ _ _ ⟨hB, _, _, _, n14, _, h13, h14, rfl, rfl⟩
theorem gabionref15_Runs_j11_ok {B0 : Kn} {L : Own} {n0 : Nat} {x0 : List Int} {x3 : List (Int × Int)} {x4 : Int} {Q : AV → St → Prop} {E : ((List (Int × Int)) × Int) ⊕ (List (Int × Int)) → Prop} {o : ((List (Int × Int)) × Int) ⊕ (List (Int × Int))} (h : gabionref15_Runs_j11 x0 x3 x4 = some o) (hn : ∀ s, E (.inl s) → WXI Try.prog 47 n0 (Fin Try.prog Try.f67.results.toList n0 Q) [.lp (ct [1, 1, 0, 1, 0, 0] (bodyOf Try.f67)), .blk 0, .code (ct [1, 1, 1] (bodyOf Try.f67))] (gabionref15_Runs_l0_I B0 x0 s.1 s.2) L) (hx0 : ∀ s, E (.inr s) → WXI Try.prog 47 n0 (Fin Try.prog Try.f67.results.toList n0 Q) [.code (ct [1, 1, 1] (bodyOf Try.f67))] (gabionref15_Runs_l0_X0 B0 s) L) (hE : E o) : WXI Try.prog 47 n0 (Fin Try.prog Try.f67.results.toList n0 Q) [.code (ct [1, 1, 0, 1, 0, 0, 1, 0, 0, 1, 1] (bodyOf Try.f67)), .blk 1, .code (ct [1, 1, 0, 1, 0, 0, 1, 1] (bodyOf Try.f67)), .lp (ct [1, 1, 0, 1, 0, 0] (bodyOf Try.f67)), .blk 0, .code (ct [1, 1, 1] (bodyOf Try.f67))] (gabionref15_Runs_j11_I B0 x0 x3 x4) L := by
  unfold gabionref15_Runs_j11 at h
  rintro _ B _ ⟨hB, v15, v16, b16, n16, c16, h15, h16, rfl, rfl⟩
  obtain ⟨_, _, _, _, _, rfl⟩ := h15.isl
  obtain ⟨_, _, _, _, _, rfl⟩ := h16.isl
  refine WX.reg ?_
  refine WO.q (.mv (v := .sl _ _ _ _ _ _) rfl) rfl rfl ?_
  refine WO.q (.mv (v := .sl _ _ _ _ _ _) rfl) rfl rfl ?_
  refine WO.q (.mv (v := .int _ _) rfl) rfl rfl ?_
  obtain ⟨y17, hy17, h⟩ := Option.bind_eq_some_iff.1 h
  obtain ⟨b_y17, o_y17, _, i_y17, p_y17, r_y17⟩ := h15.at sl22 hy17 .i64
  obtain rfl := r_y17
  refine WO.q (.ia i_y17) rfl rfl ?_
  refine WO.q (.lp0 rfl p_y17 rfl ti3 rfl) rfl rfl ?_
  refine WO.q (.bd (bd41_0_1 (cI rfl) (cI rfl))) rfl rfl ?_
  refine WO.md (MOp.bs (l := ([(y17, 1)] : List (Int × Int))) sl40 (RL.cons (Rp Ri Ri) RL.nil) (lb rfl) rfl rfl) rfl rfl ?_
  rintro v20 _ ⟨b18, o19, rfl⟩
  obtain ⟨_, _, _, _, _, rfl⟩ := o19.isl
  obtain ⟨y22, hy22, h⟩ := Option.bind_eq_some_iff.1 h
  refine WO.md (MOp.app rfl rfl rfl sl40 h16 (Src.o (i := 0) sl40 o19 rfl) hy22 rfl rfl (fun _ => (.t .h))) rfl rfl ?_
  rintro v26 _ ⟨b23, n24, o25, rfl⟩
  obtain ⟨_, _, _, _, _, rfl⟩ := o25.isl
  refine WO.q (.as (v := .sl _ _ _ _ _ _) rfl) rfl rfl ?_
  refine WO.nil ?_
  refine WX.pop ?_
  refine WX.keep [0, 3, 4] (WX.pk [1] (by decide) ?_) rfl
  exact gabionref15_Runs_j10_ok h hn hx0 hE _ _ _ ⟨hB, _, _, _, n24, _, h15, o25, rfl, rfl⟩
theorem gabionref15_Runs_l0_s {B0 : Kn} {L : Own} {n0 : Nat} {x0 : List Int} {x3 : List (Int × Int)} {x4 : Int} {Q : AV → St → Prop} {E : ((List (Int × Int)) × Int) ⊕ (List (Int × Int)) → Prop} {o : ((List (Int × Int)) × Int) ⊕ (List (Int × Int))} (h : gabionref15_Runs_l0 x0 x3 x4 = some o) (hn : ∀ s, E (.inl s) → WXI Try.prog 47 n0 (Fin Try.prog Try.f67.results.toList n0 Q) [.lp (ct [1, 1, 0, 1, 0, 0] (bodyOf Try.f67)), .blk 0, .code (ct [1, 1, 1] (bodyOf Try.f67))] (gabionref15_Runs_l0_I B0 x0 s.1 s.2) L) (hx0 : ∀ s, E (.inr s) → WXI Try.prog 47 n0 (Fin Try.prog Try.f67.results.toList n0 Q) [.code (ct [1, 1, 1] (bodyOf Try.f67))] (gabionref15_Runs_l0_X0 B0 s) L) (hE : E o) : WXI Try.prog 47 n0 (Fin Try.prog Try.f67.results.toList n0 Q) [.code (ct [1, 1, 0, 1, 0, 0] (bodyOf Try.f67)), .lp (ct [1, 1, 0, 1, 0, 0] (bodyOf Try.f67)), .blk 0, .code (ct [1, 1, 1] (bodyOf Try.f67))] (gabionref15_Runs_l0_I B0 x0 x3 x4) L := by
  unfold gabionref15_Runs_l0 at h
  rintro _ B _ ⟨hB, v1, v2, b2, n2, c2, h1, h2, rfl, rfl⟩
  obtain ⟨_, _, _, _, _, rfl⟩ := h1.isl
  obtain ⟨_, _, _, _, _, rfl⟩ := h2.isl
  refine WX.seq ?_
  refine WX.seq ?_
  refine WX.reg ?_
  refine WO.q (.mv (v := .int _ _) rfl) rfl rfl ?_
  refine WO.q (.mv (v := .sl _ _ _ _ _ _) rfl) rfl rfl ?_
  refine WO.q (.len rfl rfl rfl (sl22.len h1.isl)) rfl rfl ?_
  refine WO.q (.r fun _ => rfl) rfl rfl ?_
  refine WO.nil ?_
  rcases bsp (decide (x4 < (x0.length : Int))) with k3 | k3
  · have q_k3 := of_decide_eq_true k3
    replace h := (if_pos q_k3).symm.trans h
    refine WX.condT rfl k3 ?_
    refine WX.skip ?_
    refine WX.seq ?_
    refine WX.block ?_
    refine WX.seq ?_
    refine WX.reg ?_
    refine WO.q (.mv (v := .sl _ _ _ _ _ _) rfl) rfl rfl ?_
    refine WO.q (.len rfl rfl rfl (sl40.len h2.isl)) rfl rfl ?_
    refine WO.q (.as (v := .int _ _) rfl) rfl rfl ?_
    refine WO.nil ?_
    refine WX.seq ?_
    refine WX.seq ?_
    refine WX.reg ?_
    refine WO.q (.mv (v := .int _ _) rfl) rfl rfl ?_
    refine WO.q (.r fun _ => rfl) rfl rfl ?_
    refine WO.nil ?_
    rcases bsp (decide (0 < (x3.length : Int))) with k4 | k4
    · have q_k4 := of_decide_eq_true k4
      replace h := (if_pos q_k4).symm.trans h
      refine WX.condT rfl k4 ?_
      refine WX.seq ?_
      refine WX.drw [0, 1, 2, 3, 4, 5, 6, 7, 8, 9, 10, 11] _ mixed (by kernel_rfl) rfl (pk_sub [0]) ?_
      refine WP.q (i := 0) rfl (.mv (v := .sl _ _ _ _ _ _) rfl) rfl rfl rfl ?_
      refine WP.q (i := 1) rfl (.mv (v := .int _ _) rfl) rfl rfl rfl ?_
      refine WP.q (i := 2) rfl (.r fun _ => rfl) rfl rfl rfl ?_
      obtain ⟨y5, hy5, h⟩ := Option.bind_eq_some_iff.1 h
      obtain rfl := h2.nonnil hy5
      obtain ⟨_, i_y5, l_y5, r_y5⟩ := h2.at sl40 hy5 .i64
      obtain ⟨_, _, rfl, rfl, rfl⟩ := r_y5
      refine WP.q (i := 3) rfl (.ia i_y5) rfl rfl rfl ?_
      refine WP.q (i := 4) rfl (.leA (i := 0) rfl rfl l_y5 ti41 rfl rfl) rfl rfl rfl ?_
      refine WP.q (i := 5) rfl (.mv (v := .sl _ _ _ _ _ _) rfl) rfl rfl rfl ?_
      refine WP.q (i := 6) rfl (.mv (v := .int _ _) rfl) rfl rfl rfl ?_
      obtain ⟨y6, hy6, h⟩ := Option.bind_eq_some_iff.1 h
      obtain ⟨b_y6, o_y6, _, i_y6, p_y6, r_y6⟩ := h1.at sl22 hy6 .i64
      obtain rfl := r_y6
      refine WP.q (i := 7) rfl (.ia i_y6) rfl rfl rfl ?_
      refine WP.q (i := 8) rfl (.lp0 rfl p_y6 rfl ti3 rfl) rfl rfl rfl ?_
      refine WP.q (i := 9) rfl (.bd (bd41_0_1 (cI rfl) (cI rfl))) rfl rfl rfl ?_
      obtain ⟨y7, hy7, h⟩ := Option.bind_eq_some_iff.1 h
      refine WP.cS (i := 10) rfl rfl rfl (gabionref15_joins_ok hy7) rfl rfl rfl ?_
      rintro _ rfl
      refine WP.q (i := 11) rfl (.as (v := .bool _) rfl) rfl rfl rfl ?_
      refine WP.nil ?_
      refine WX.seq ?_
      refine WX.reg ?_
      refine WO.q (.mv (v := .bool _) rfl) rfl rfl ?_
      refine WO.nil ?_
      rcases bsp y7 with k8 | k8
      · replace h := (if_pos k8).symm.trans h
        refine WX.condT rfl k8 ?_
        refine WX.seq ?_
        refine WX.drw [0, 1, 2, 3, 4, 5, 6, 7, 8, 9] _ mixed (by kernel_rfl) rfl (pk_sub [0]) ?_
        refine WP.q (i := 0) rfl (.mv (v := .sl _ _ _ _ _ _) rfl) rfl rfl rfl ?_
        refine WP.q (i := 1) rfl (.mv (v := .int _ _) rfl) rfl rfl rfl ?_
        refine WP.q (i := 2) rfl (.r fun _ => rfl) rfl rfl rfl ?_
        obtain ⟨y9, hy9, h⟩ := Option.bind_eq_some_iff.1 h
        obtain ⟨_, i_y9, l_y9, r_y9⟩ := h2.at sl40 hy9 .i64
        obtain ⟨_, _, rfl, rfl, rfl⟩ := r_y9
        refine WP.q (i := 3) rfl (.ia i_y9) rfl rfl rfl ?_
        refine WP.q (i := 4) rfl (.ia (ia41_1 _ _)) rfl rfl rfl ?_
        refine WP.q (i := 5) rfl (.ldS (i := 0) rfl rfl (l_y9.g rfl) ti3 rfl) rfl rfl rfl ?_
        refine WP.q (i := 6) rfl (.r fun _ => rfl) rfl rfl rfl ?_
        obtain ⟨y10, hy10, h⟩ := Option.bind_eq_some_iff.1 h
        obtain ⟨_, i_y10, l_y10, r_y10⟩ := h2.at sl40 hy10 .i64
        obtain ⟨_, _, rfl, rfl, rfl⟩ := r_y10
        refine WP.q (i := 7) rfl (.ia i_y10) rfl rfl rfl ?_
        refine WP.q (i := 8) rfl (.ia (ia41_1 _ _)) rfl rfl rfl ?_
        refine WP.msn (i := 9) rfl (MOp.ost1 (x' := (y10.1, (wi64 (y9.2 + 1)))) (f := 1) rfl (cI rfl) (fun _ => .h) ti3 rfl rfl h2 hy10 l_y10 (cs' := [.int .i64 y10.1, .int .i64 (wi64 (y9.2 + 1))]) rfl ⟨[_], _, rfl, rfl, rfl⟩) rfl (by kernel_rfl) rfl ?_
        rintro _ _ ⟨c12, o11, rfl⟩
        refine WS.nil ?_
        refine WX.exit rfl ?_
        refine WX.keep [0, 3, 4] (WX.pk [0] (by decide) ?_) rfl
        exact gabionref15_Runs_j10_ok h hn hx0 hE _ _ _ ⟨hB, _, _, _, false, _, h1, o11, rfl, rfl⟩
      · replace h := (if_neg (bnt k8)).symm.trans h
        refine WX.condF rfl k8 ?_
        refine WX.skip ?_
        refine WX.keep [0, 3, 4] (WX.pk [0] (by decide) ?_) rfl
        exact gabionref15_Runs_j11_ok h hn hx0 hE _ _ _ ⟨hB, _, _, _, false, _, h1, h2, rfl, rfl⟩
    · have q_k4 := of_decide_eq_false k4
      replace h := (if_neg q_k4).symm.trans h
      refine WX.condF rfl k4 ?_
      refine WX.skip ?_
      refine WX.keep [0, 3, 4] (WX.pk [0] (by decide) ?_) rfl
      exact gabionref15_Runs_j11_ok h hn hx0 hE _ _ _ ⟨hB, _, _, _, n2, _, h1, h2, rfl, rfl⟩
  · have q_k3 := of_decide_eq_false k3
    replace h := (if_neg q_k3).symm.trans h
    refine WX.condF rfl k3 ?_
    refine WX.exit rfl ?_
    refine WX.keep [3] (WX.pk [0] (by decide) ?_) rfl
    obtain rfl := Option.some.inj h
    exact hx0 _ hE _ _ _ ⟨hB, _, _, n2, _, h2, rfl, rfl⟩
theorem gabionref15_Runs_l0_ok {B0 : Kn} {L : Own} {n0 : Nat} {x0 : List Int} {x3 : List (Int × Int)} {x4 : Int} {Q : AV → St → Prop} {d : Nat} {e : (List (Int × Int))} (h : iter (fun (s : (List (Int × Int)) × Int) => gabionref15_Runs_l0 x0 s.1 s.2) d (x3, x4) = some e) (g0 : ∀ s, e = s → WXI Try.prog 47 n0 (Fin Try.prog Try.f67.results.toList n0 Q) [.code (ct [1, 1, 1] (bodyOf Try.f67))] (gabionref15_Runs_l0_X0 B0 s) L) : WXI Try.prog 47 n0 (Fin Try.prog Try.f67.results.toList n0 Q) [.code (ct [1, 1, 0, 1, 0, 0] (bodyOf Try.f67)), .lp (ct [1, 1, 0, 1, 0, 0] (bodyOf Try.f67)), .blk 0, .code (ct [1, 1, 1] (bodyOf Try.f67))] (gabionref15_Runs_l0_I B0 x0 x3 x4) L :=
  iter_ok (I := fun s => gabionref15_Runs_l0_I B0 x0 s.1 s.2) (D := fun e => (∀ s, e = s → WXI Try.prog 47 n0 (Fin Try.prog Try.f67.results.toList n0 Q) [.code (ct [1, 1, 1] (bodyOf Try.f67))] (gabionref15_Runs_l0_X0 B0 s) L)) (fun E hn hx s o ho hE => gabionref15_Runs_l0_s ho hn (fun s hs => (hx _ hs) _ rfl)  hE) h g0
theorem gabionref15_Runs_ok {B0 : Kn} {L : Own} {a0 : List Int} {v0_0 : AV} {r : (List (Int × Int))} (g0_0 : RSl (Ty.int .i64) B0 v0_0 a0) (h : gabionref15_Runs a0 = some r) : ∀ st, Hp B0 L st → ASpec Try.prog 67 [v0_0] st (gabionref15_Runs_P B0 L r) := by
  unfold gabionref15_Runs at h
  refine bodyA (A := []) Try.func67 rfl (c := bodyOf Try.f67) rfl Try.ntmps67 (lb rfl) fun n0 => ?_
  have hB := KLe.refl B0
  obtain ⟨_, _, _, _, _, rfl⟩ := g0_0.isl
  refine WX.seq ?_
  refine WX.reg ?_
  refine WO.q (.as (v := .sl _ _ _ _ _ _) rfl) rfl rfl ?_
  refine WO.nil ?_
  refine WX.seq ?_
  refine WX.reg ?_
  refine WO.q (.as (v := .sl _ _ _ _ _ _) rfl) rfl rfl ?_
  refine WO.nil ?_
  refine WX.seq ?_
  refine WX.seq ?_
  refine WX.reg ?_
  refine WO.q (.as (v := .int _ _) rfl) rfl rfl ?_
  refine WO.nil ?_
  refine WX.block ?_
  refine WX.loop ?_
  obtain ⟨e28, he28, h⟩ := Option.bind_eq_some_iff.1 h
  refine WX.keep [0, 3, 4] (WX.pk [] (by decide) (WX.addn [0] ?_)) rfl
  refine gabionref15_Runs_l0_ok he28 ?_ _ _ _ ⟨hB, _, _, 0, true, [], g0_0, OSl.none _ _, rfl, rfl⟩
  · intro s30 he_
    subst he_
    replace h := h
    rintro _ B _ ⟨hB, v29, b29, n29, c29, h29, rfl, rfl⟩
    obtain ⟨_, _, _, _, _, rfl⟩ := h29.isl
    refine WX.seq ?_
    refine WX.reg ?_
    refine WO.q (.mv (v := .sl _ _ _ _ _ _) rfl) rfl rfl ?_
    refine WO.q (.as (v := .sl _ _ _ _ _ _) rfl) rfl rfl ?_
    refine WO.nil ?_
    obtain rfl := Option.some.inj h
    exact WX.ret (rs_ (rs_tmp rfl rs_nil)) fun st hp => ⟨_, _, hB, (hp.pk [0] (by decide)), _, _, n29, _, rfl, rfl, h29⟩
def gabionlaw15_tame_P (B : Kn) (L : Own) (r : (List (Int × Int))) : AV → St → Prop := C1 B L fun B' v e0 => ∃ w0 b0 n0 c0, v = w0 ∧ e0 = oe b0 n0 c0 ∧ OSl EPIi64Ii64Q B' w0 b0 n0 c0 r
def gabionlaw15_tame_j12_I (B0 : Kn) (x3 : List Int) (x6 : Int) (x13 : List (Int × Int)) (x15 : Int) (x28 : Int) (x29 : Int) : Fr → Kn → Own → Prop := fun fr B A => KLe B0 B ∧ ∃ v20 b20 n20 c20 v21, OSl (Ty.int .i64) B v20 b20 n20 c20 x3 ∧ RSl EPIi64Ii64Q B v21 x13 ∧ fr = [(3, v20), (6, .int .i64 x6), (13, v21), (14, .int .i64 (x13.length : Int)), (15, .int .i64 x15), (28, .int .i64 x28), (29, .int .i64 x29)] ∧ A = [oe b20 n20 c20]
def gabionlaw15_tame_l1_I (B0 : Kn) (x6 : Int) (x13 : List (Int × Int)) (x28 : Int) (x3 : List Int) (x15 : Int) (x29 : Int) : Fr → Kn → Own → Prop := fun fr B A => KLe B0 B ∧ ∃ v7 b7 n7 c7 v8, OSl (Ty.int .i64) B v7 b7 n7 c7 x3 ∧ RSl EPIi64Ii64Q B v8 x13 ∧ fr = [(3, v7), (6, .int .i64 x6), (13, v8), (14, .int .i64 (x13.length : Int)), (15, .int .i64 x15), (28, .int .i64 x28), (29, .int .i64 x29)] ∧ A = [oe b7 n7 c7]
def gabionlaw15_tame_l1_X0 (B0 : Kn) (x3 : List Int) (x13 : List (Int × Int)) (x15 : Int) : Fr → Kn → Own → Prop := fun fr B A => KLe B0 B ∧ ∃ v48 b48 n48 c48 v49, OSl (Ty.int .i64) B v48 b48 n48 c48 x3 ∧ RSl EPIi64Ii64Q B v49 x13 ∧ fr = [(3, v48), (13, v49), (14, .int .i64 (x13.length : Int)), (15, .int .i64 x15)] ∧ A = [oe b48 n48 c48]
def gabionlaw15_tame_l0_I (B0 : Kn) (x13 : List (Int × Int)) (x3 : List Int) (x15 : Int) : Fr → Kn → Own → Prop := fun fr B A => KLe B0 B ∧ ∃ v2 b2 n2 c2 v3, OSl (Ty.int .i64) B v2 b2 n2 c2 x3 ∧ RSl EPIi64Ii64Q B v3 x13 ∧ fr = [(3, v2), (13, v3), (14, .int .i64 (x13.length : Int)), (15, .int .i64 x15)] ∧ A = [oe b2 n2 c2]
def gabionlaw15_tame_l0_X0 (B0 : Kn) (x3 : List Int) : Fr → Kn → Own → Prop := fun fr B A => KLe B0 B ∧ ∃ v50 b50 n50 c50, OSl (Ty.int .i64) B v50 b50 n50 c50 x3 ∧ fr = [(3, v50)] ∧ A = [oe b50 n50 c50]
theorem gabionlaw15_tame_j12_ok {B0 : Kn} {L : Own} {n0 : Nat} {x3 : List Int} {x6 : Int} {x13 : List (Int × Int)} {x15 : Int} {x28 : Int} {x29 : Int} {Q : AV → St → Prop} {E : ((List Int) × Int × Int) ⊕ ((List Int) × Int) → Prop} {o : ((List Int) × Int × Int) ⊕ ((List Int) × Int)} (h : gabionlaw15_tame_j12 x3 x6 x13 x15 x28 x29 = some o) (hn : ∀ s, E (.inl s) → WXI Try.prog 47 n0 (Fin Try.prog Try.f23.results.toList n0 Q) [.lp (ct [1, 1, 0, 1, 0, 0, 1, 1, 0, 0, 1, 1, 1, 0, 0] (bodyOf Try.f23)), .blk 2, .blk 1, .code (ct [1, 1, 0, 1, 0, 0, 1, 1, 1] (bodyOf Try.f23)), .lp (ct [1, 1, 0, 1, 0, 0] (bodyOf Try.f23)), .blk 0, .code (ct [1, 1, 1] (bodyOf Try.f23))] (gabionlaw15_tame_l1_I B0 x6 x13 x28 s.1 s.2.1 s.2.2) L) (hx0 : ∀ s, E (.inr s) → WXI Try.prog 47 n0 (Fin Try.prog Try.f23.results.toList n0 Q) [.code (ct [1, 1, 0, 1, 0, 0, 1, 1, 1] (bodyOf Try.f23)), .lp (ct [1, 1, 0, 1, 0, 0] (bodyOf Try.f23)), .blk 0, .code (ct [1, 1, 1] (bodyOf Try.f23))] (gabionlaw15_tame_l1_X0 B0 s.1 x13 s.2) L) (hE : E o) : WXI Try.prog 47 n0 (Fin Try.prog Try.f23.results.toList n0 Q) [.code (ct [1, 1, 0, 1, 0, 0, 1, 1, 0, 0, 1, 1, 1, 0, 0, 1, 1, 1] (bodyOf Try.f23)), .lp (ct [1, 1, 0, 1, 0, 0, 1, 1, 0, 0, 1, 1, 1, 0, 0] (bodyOf Try.f23)), .blk 2, .blk 1, .code (ct [1, 1, 0, 1, 0, 0, 1, 1, 1] (bodyOf Try.f23)), .lp (ct [1, 1, 0, 1, 0, 0] (bodyOf Try.f23)), .blk 0, .code (ct [1, 1, 1] (bodyOf Try.f23))] (gabionlaw15_tame_j12_I B0 x3 x6 x13 x15 x28 x29) L := by
  unfold gabionlaw15_tame_j12 at h
  rintro _ B _ ⟨hB, v20, b20, n20, c20, v21, h20, h21, rfl, rfl⟩
  obtain ⟨_, _, _, _, _, rfl⟩ := h20.isl
  obtain ⟨_, _, _, _, _, rfl⟩ := h21.isl
  refine WX.reg ?_
  refine WO.q (.r fun _ => rfl) rfl rfl ?_
  refine WO.q (.mv (v := .int _ _) rfl) rfl rfl ?_
  refine WO.nil ?_
  refine WX.keepL [3, 6, 13, 14, 15, 28, 29] (WX.pk [0] (by decide) ?_) rfl
  obtain rfl := Option.some.inj h
  exact hn _ hE _ _ _ ⟨hB, _, _, n20, _, _, h20, h21, rfl, rfl⟩
theorem gabionlaw15_tame_l1_s {B0 : Kn} {L : Own} {n0 : Nat} {x6 : Int} {x13 : List (Int × Int)} {x28 : Int} {x3 : List Int} {x15 : Int} {x29 : Int} {Q : AV → St → Prop} {E : ((List Int) × Int × Int) ⊕ ((List Int) × Int) → Prop} {o : ((List Int) × Int × Int) ⊕ ((List Int) × Int)} (h : gabionlaw15_tame_l1 x6 x13 x28 x3 x15 x29 = some o) (hn : ∀ s, E (.inl s) → WXI Try.prog 47 n0 (Fin Try.prog Try.f23.results.toList n0 Q) [.lp (ct [1, 1, 0, 1, 0, 0, 1, 1, 0, 0, 1, 1, 1, 0, 0] (bodyOf Try.f23)), .blk 2, .blk 1, .code (ct [1, 1, 0, 1, 0, 0, 1, 1, 1] (bodyOf Try.f23)), .lp (ct [1, 1, 0, 1, 0, 0] (bodyOf Try.f23)), .blk 0, .code (ct [1, 1, 1] (bodyOf Try.f23))] (gabionlaw15_tame_l1_I B0 x6 x13 x28 s.1 s.2.1 s.2.2) L) (hx0 : ∀ s, E (.inr s) → WXI Try.prog 47 n0 (Fin Try.prog Try.f23.results.toList n0 Q) [.code (ct [1, 1, 0, 1, 0, 0, 1, 1, 1] (bodyOf Try.f23)), .lp (ct [1, 1, 0, 1, 0, 0] (bodyOf Try.f23)), .blk 0, .code (ct [1, 1, 1] (bodyOf Try.f23))] (gabionlaw15_tame_l1_X0 B0 s.1 x13 s.2) L) (hE : E o) : WXI Try.prog 47 n0 (Fin Try.prog Try.f23.results.toList n0 Q) [.code (ct [1, 1, 0, 1, 0, 0, 1, 1, 0, 0, 1, 1, 1, 0, 0] (bodyOf Try.f23)), .lp (ct [1, 1, 0, 1, 0, 0, 1, 1, 0, 0, 1, 1, 1, 0, 0] (bodyOf Try.f23)), .blk 2, .blk 1, .code (ct [1, 1, 0, 1, 0, 0, 1, 1, 1] (bodyOf Try.f23)), .lp (ct [1, 1, 0, 1, 0, 0] (bodyOf Try.f23)), .blk 0, .code (ct [1, 1, 1] (bodyOf Try.f23))] (gabionlaw15_tame_l1_I B0 x6 x13 x28 x3 x15 x29) L := by
  unfold gabionlaw15_tame_l1 at h
  rintro _ B _ ⟨hB, v7, b7, n7, c7, v8, h7, h8, rfl, rfl⟩
  obtain ⟨_, _, _, _, _, rfl⟩ := h7.isl
  obtain ⟨_, _, _, _, _, rfl⟩ := h8.isl
  refine WX.seq ?_
  refine WX.reg ?_
  refine WO.q (.r fun _ => rfl) rfl rfl ?_
  refine WO.nil ?_
  refine WX.seq ?_
  rcases bsp (decide (x29 < x28)) with k9 | k9
  · have q_k9 := of_decide_eq_true k9
    replace h := (if_pos q_k9).symm.trans h
    refine WX.condT rfl k9 ?_
    refine WX.skip ?_
    refine WX.seq ?_
    refine WX.block ?_
    refine WX.seq ?_
    refine WX.reg ?_
    refine WO.q (.mv (v := .int _ _) rfl) rfl rfl ?_
    refine WO.q (.as (v := .int _ _) rfl) rfl rfl ?_
    refine WO.nil ?_
    refine WX.seq ?_
    refine WX.reg ?_
    refine WO.q (.mv (v := .int _ _) rfl) rfl rfl ?_
    refine WO.q (.r fun _ => rfl) rfl rfl ?_
    refine WO.nil ?_
    rcases bsp (decide (x6 < 0)) with k10 | k10
    · have q_k10 := of_decide_eq_true k10
      replace h := (if_pos q_k10).symm.trans h
      refine WX.condT rfl k10 ?_
      refine WX.reg ?_
      refine WO.q (.mv (v := .sl _ _ _ _ _ _) rfl) rfl rfl ?_
      refine WO.md (MOp.bs (l := ([(-1)] : List Int)) sl22 (RL.cons Ri RL.nil) (lb rfl) rfl rfl) rfl rfl ?_
      rintro v13 _ ⟨b11, o12, rfl⟩
      obtain ⟨_, _, _, _, _, rfl⟩ := o12.isl
      obtain ⟨y15, hy15, h⟩ := Option.bind_eq_some_iff.1 h
      refine WO.md (MOp.app rfl rfl rfl sl22 h7 (Src.o (i := 0) sl22 o12 rfl) hy15 rfl rfl (fun _ => (.t .h))) rfl rfl ?_
      rintro v19 _ ⟨b16, n17, o18, rfl⟩
      obtain ⟨_, _, _, _, _, rfl⟩ := o18.isl
      refine WO.q (.as (v := .sl _ _ _ _ _ _) rfl) rfl rfl ?_
      refine WO.nil ?_
      refine WX.pop ?_
      refine WX.keep [3, 6, 13, 14, 15, 28, 29] (WX.pk [1] (by decide) ?_) rfl
      exact gabionlaw15_tame_j12_ok h hn hx0 hE _ _ _ ⟨hB, _, _, n17, _, _, o18, h8, rfl, rfl⟩
    · have q_k10 := of_decide_eq_false k10
      replace h := (if_neg q_k10).symm.trans h
      refine WX.condF rfl k10 ?_
      refine WX.reg ?_
      refine WO.q (.mv (v := .sl _ _ _ _ _ _) rfl) rfl rfl ?_
      refine WO.q (.mv (v := .int _ _) rfl) rfl rfl ?_
      refine WO.q (.mv (v := .int _ _) rfl) rfl rfl ?_
      refine WO.q (.r fun _ => rfl) rfl rfl ?_
      refine WO.md (MOp.bs (l := ([(wi64 (x6 + x29))] : List Int)) sl22 (RL.cons Ri RL.nil) (lb rfl) rfl rfl) rfl rfl ?_
      rintro v24 _ ⟨b22, o23, rfl⟩
      obtain ⟨_, _, _, _, _, rfl⟩ := o23.isl
      obtain ⟨y26, hy26, h⟩ := Option.bind_eq_some_iff.1 h
      refine WO.md (MOp.app rfl rfl rfl sl22 h7 (Src.o (i := 0) sl22 o23 rfl) hy26 rfl rfl (fun _ => (.t .h))) rfl rfl ?_
      rintro v30 _ ⟨b27, n28, o29, rfl⟩
      obtain ⟨_, _, _, _, _, rfl⟩ := o29.isl
      refine WO.q (.as (v := .sl _ _ _ _ _ _) rfl) rfl rfl ?_
      refine WO.nil ?_
      refine WX.pop ?_
      refine WX.keep [3, 6, 13, 14, 15, 28, 29] (WX.pk [1] (by decide) ?_) rfl
      exact gabionlaw15_tame_j12_ok h hn hx0 hE _ _ _ ⟨hB, _, _, n28, _, _, o29, h8, rfl, rfl⟩
  · have q_k9 := of_decide_eq_false k9
    replace h := (if_neg q_k9).symm.trans h
    refine WX.condF rfl k9 ?_
    refine WX.exit rfl ?_
    refine WX.pop ?_
    refine WX.keep [3, 13, 14, 15] (WX.pk [0] (by decide) ?_) rfl
    obtain rfl := Option.some.inj h
    exact hx0 _ hE _ _ _ ⟨hB, _, _, n7, _, _, h7, h8, rfl, rfl⟩
theorem gabionlaw15_tame_l1_ok {B0 : Kn} {L : Own} {n0 : Nat} {x6 : Int} {x13 : List (Int × Int)} {x28 : Int} {x3 : List Int} {x15 : Int} {x29 : Int} {Q : AV → St → Prop} {d : Nat} {e : ((List Int) × Int)} (h : iter (fun (s : (List Int) × Int × Int) => gabionlaw15_tame_l1 x6 x13 x28 s.1 s.2.1 s.2.2) d (x3, x15, x29) = some e) (g0 : ∀ s, e = s → WXI Try.prog 47 n0 (Fin Try.prog Try.f23.results.toList n0 Q) [.code (ct [1, 1, 0, 1, 0, 0, 1, 1, 1] (bodyOf Try.f23)), .lp (ct [1, 1, 0, 1, 0, 0] (bodyOf Try.f23)), .blk 0, .code (ct [1, 1, 1] (bodyOf Try.f23))] (gabionlaw15_tame_l1_X0 B0 s.1 x13 s.2) L) : WXI Try.prog 47 n0 (Fin Try.prog Try.f23.results.toList n0 Q) [.code (ct [1, 1, 0, 1, 0, 0, 1, 1, 0, 0, 1, 1, 1, 0, 0] (bodyOf Try.f23)), .lp (ct [1, 1, 0, 1, 0, 0, 1, 1, 0, 0, 1, 1, 1, 0, 0] (bodyOf Try.f23)), .blk 2, .blk 1, .code (ct [1, 1, 0, 1, 0, 0, 1, 1, 1] (bodyOf Try.f23)), .lp (ct [1, 1, 0, 1, 0, 0] (bodyOf Try.f23)), .blk 0, .code (ct [1, 1, 1] (bodyOf Try.f23))] (gabionlaw15_tame_l1_I B0 x6 x13 x28 x3 x15 x29) L :=
  iter_ok (I := fun s => gabionlaw15_tame_l1_I B0 x6 x13 x28 s.1 s.2.1 s.2.2) (D := fun e => (∀ s, e = s → WXI Try.prog 47 n0 (Fin Try.prog Try.f23.results.toList n0 Q) [.code (ct [1, 1, 0, 1, 0, 0, 1, 1, 1] (bodyOf Try.f23)), .lp (ct [1, 1, 0, 1, 0, 0] (bodyOf Try.f23)), .blk 0, .code (ct [1, 1, 1] (bodyOf Try.f23))] (gabionlaw15_tame_l1_X0 B0 s.1 x13 s.2) L)) (fun E hn hx s o ho hE => gabionlaw15_tame_l1_s ho hn (fun s hs => (hx _ hs) _ rfl)  hE) h g0
theorem gabionlaw15_tame_l0_s {B0 : Kn} {L : Own} {n0 : Nat} {x13 : List (Int × Int)} {x3 : List Int} {x15 : Int} {Q : AV → St → Prop} {E : ((List Int) × Int) ⊕ (List Int) → Prop} {o : ((List Int) × Int) ⊕ (List Int)} (h : gabionlaw15_tame_l0 x13 x3 x15 = some o) (hn : ∀ s, E (.inl s) → WXI Try.prog 47 n0 (Fin Try.prog Try.f23.results.toList n0 Q) [.lp (ct [1, 1, 0, 1, 0, 0] (bodyOf Try.f23)), .blk 0, .code (ct [1, 1, 1] (bodyOf Try.f23))] (gabionlaw15_tame_l0_I B0 x13 s.1 s.2) L) (hx0 : ∀ s, E (.inr s) → WXI Try.prog 47 n0 (Fin Try.prog Try.f23.results.toList n0 Q) [.code (ct [1, 1, 1] (bodyOf Try.f23))] (gabionlaw15_tame_l0_X0 B0 s) L) (hE : E o) : WXI Try.prog 47 n0 (Fin Try.prog Try.f23.results.toList n0 Q) [.code (ct [1, 1, 0, 1, 0, 0] (bodyOf Try.f23)), .lp (ct [1, 1, 0, 1, 0, 0] (bodyOf Try.f23)), .blk 0, .code (ct [1, 1, 1] (bodyOf Try.f23))] (gabionlaw15_tame_l0_I B0 x13 x3 x15) L := by
  unfold gabionlaw15_tame_l0 at h
  rintro _ B _ ⟨hB, v2, b2, n2, c2, v3, h2, h3, rfl, rfl⟩
  obtain ⟨_, _, _, _, _, rfl⟩ := h2.isl
  obtain ⟨_, _, _, _, _, rfl⟩ := h3.isl
  refine WX.seq ?_
  refine WX.reg ?_
  refine WO.q (.r fun _ => rfl) rfl rfl ?_
  refine WO.nil ?_
  refine WX.seq ?_
  rcases bsp (decide (x15 < (x13.length : Int))) with k4 | k4
  · have q_k4 := of_decide_eq_true k4
    replace h := (if_pos q_k4).symm.trans h
    refine WX.condT rfl k4 ?_
    refine WX.skip ?_
    refine WX.seq ?_
    refine WX.block ?_
    refine WX.seq ?_
    refine WX.reg ?_
    obtain ⟨y5, hy5, h⟩ := Option.bind_eq_some_iff.1 h
    obtain ⟨b_y5, o_y5, _, i_y5, p_y5, r_y5⟩ := h3.at sl40 hy5 .i64
    obtain ⟨_, _, rfl, rfl, rfl⟩ := r_y5
    refine WO.q (.ia i_y5) rfl rfl ?_
    refine WO.q (.lpA rfl p_y5 ti41 rfl rfl) rfl rfl ?_
    refine WO.md (MOp.alloc ti41 rfl) rfl rfl ?_
    rintro _ _ ⟨b6, rfl, rfl⟩
    refine WO.mn (MOp.storeW rfl (cA rfl) .h ti41 rfl rfl rfl) rfl ?_
    rintro _ _ rfl
    refine WO.nil ?_
    refine WX.seq ?_
    refine WX.drw [0, 1, 2, 3, 4, 5, 6, 7, 8, 9, 10] _ mixed (by kernel_rfl) rfl (pk_sub [0, 1]) ?_
    refine WP.q (i := 0) rfl (.ia (ia41_0 _ _)) rfl rfl rfl ?_
    refine WP.q (i := 1) rfl (.ldS (i := 0) rfl rfl rfl ti3 rfl) rfl rfl rfl ?_
    refine WP.q (i := 2) rfl (.r fun _ => rfl) rfl rfl rfl ?_
    refine WP.q (i := 3) rfl (.r fun _ => rfl) rfl rfl rfl ?_
    refine WP.q (i := 4) rfl (.ia (ia41_1 _ _)) rfl rfl rfl ?_
    refine WP.q (i := 5) rfl (.ldS (i := 0) rfl rfl rfl ti3 rfl) rfl rfl rfl ?_
    refine WP.q (i := 6) rfl (.r fun _ => rfl) rfl rfl rfl ?_
    refine WP.q (i := 7) rfl (.r fun _ => rfl) rfl rfl rfl ?_
    refine WP.q (i := 8) rfl (.r fun _ => rfl) rfl rfl rfl ?_
    refine WP.q (i := 9) rfl (.as (v := .int _ _) rfl) rfl rfl rfl ?_
    refine WP.q (i := 10) rfl (.as (v := .int _ _) rfl) rfl rfl rfl ?_
    refine WP.nil ?_
    refine WX.seq ?_
    refine WX.reg ?_
    refine WO.q (.mv (v := .int _ _) rfl) rfl rfl ?_
    refine WO.q (.mv (v := .int _ _) rfl) rfl rfl ?_
    refine WO.nil ?_
    refine WX.block ?_
    refine WX.loop ?_
    obtain ⟨e33, he33, h⟩ := Option.bind_eq_some_iff.1 h
    refine WX.keep [3, 6, 13, 14, 15, 28, 29] (WX.pk [1] (by decide) ?_) rfl
    refine gabionlaw15_tame_l1_ok he33 ?_ _ _ _ ⟨hB, _, _, n2, _, _, h2, h3, rfl, rfl⟩
    · intro s36 he_
      subst he_
      replace h := h
      rintro _ B _ ⟨hB, v34, b34, n34, c34, v35, h34, h35, rfl, rfl⟩
      obtain ⟨_, _, _, _, _, rfl⟩ := h34.isl
      obtain ⟨_, _, _, _, _, rfl⟩ := h35.isl
      refine WX.reg ?_
      refine WO.q (.r fun _ => rfl) rfl rfl ?_
      refine WO.q (.mv (v := .int _ _) rfl) rfl rfl ?_
      refine WO.nil ?_
      refine WX.keepL [3, 13, 14, 15] (WX.pk [0] (by decide) ?_) rfl
      obtain rfl := Option.some.inj h
      exact hn _ hE _ _ _ ⟨hB, _, _, n34, _, _, h34, h35, rfl, rfl⟩
  · have q_k4 := of_decide_eq_false k4
    replace h := (if_neg q_k4).symm.trans h
    refine WX.condF rfl k4 ?_
    refine WX.exit rfl ?_
    refine WX.keep [3] (WX.pk [0] (by decide) ?_) rfl
    obtain rfl := Option.some.inj h
    exact hx0 _ hE _ _ _ ⟨hB, _, _, n2, _, h2, rfl, rfl⟩
theorem gabionlaw15_tame_l0_ok {B0 : Kn} {L : Own} {n0 : Nat} {x13 : List (Int × Int)} {x3 : List Int} {x15 : Int} {Q : AV → St → Prop} {d : Nat} {e : (List Int)} (h : iter (fun (s : (List Int) × Int) => gabionlaw15_tame_l0 x13 s.1 s.2) d (x3, x15) = some e) (g0 : ∀ s, e = s → WXI Try.prog 47 n0 (Fin Try.prog Try.f23.results.toList n0 Q) [.code (ct [1, 1, 1] (bodyOf Try.f23))] (gabionlaw15_tame_l0_X0 B0 s) L) : WXI Try.prog 47 n0 (Fin Try.prog Try.f23.results.toList n0 Q) [.code (ct [1, 1, 0, 1, 0, 0] (bodyOf Try.f23)), .lp (ct [1, 1, 0, 1, 0, 0] (bodyOf Try.f23)), .blk 0, .code (ct [1, 1, 1] (bodyOf Try.f23))] (gabionlaw15_tame_l0_I B0 x13 x3 x15) L :=
  iter_ok (I := fun s => gabionlaw15_tame_l0_I B0 x13 s.1 s.2) (D := fun e => (∀ s, e = s → WXI Try.prog 47 n0 (Fin Try.prog Try.f23.results.toList n0 Q) [.code (ct [1, 1, 1] (bodyOf Try.f23))] (gabionlaw15_tame_l0_X0 B0 s) L)) (fun E hn hx s o ho hE => gabionlaw15_tame_l0_s ho hn (fun s hs => (hx _ hs) _ rfl)  hE) h g0
theorem gabionlaw15_tame_ok {B0 : Kn} {L : Own} {a0 : List (Int × Int)} {v0_0 : AV} {r : (List (Int × Int))} (g0_0 : RSl EPIi64Ii64Q B0 v0_0 a0) (h : gabionlaw15_tame a0 = some r) : ∀ st, Hp B0 L st → ASpec Try.prog 23 [v0_0] st (gabionlaw15_tame_P B0 L r) := by
  unfold gabionlaw15_tame at h
  refine bodyA (A := []) Try.func23 rfl (c := bodyOf Try.f23) rfl Try.ntmps23 (lb rfl) fun n0 => ?_
  have hB := KLe.refl B0
  obtain ⟨_, _, _, _, _, rfl⟩ := g0_0.isl
  refine WX.seq ?_
  refine WX.reg ?_
  refine WO.q (.as (v := .sl _ _ _ _ _ _) rfl) rfl rfl ?_
  refine WO.nil ?_
  refine WX.seq ?_
  refine WX.reg ?_
  refine WO.q (.as (v := .sl _ _ _ _ _ _) rfl) rfl rfl ?_
  refine WO.nil ?_
  refine WX.seq ?_
  refine WX.seq ?_
  refine WX.reg ?_
  refine WO.q (.mv (v := .sl _ _ _ _ _ _) rfl) rfl rfl ?_
  refine WO.q (.mv (v := .sl _ _ _ _ _ _) rfl) rfl rfl ?_
  refine WO.q (.len rfl rfl rfl (sl40.len g0_0.isl)) rfl rfl ?_
  refine WO.q (.r fun _ => rfl) rfl rfl ?_
  obtain ⟨y1, hy1, h⟩ := Option.bind_eq_some_iff.1 h
  obtain ⟨v_y1, e_y1, g_y1⟩ := g0_0.cut sl40 hy1 (lo := none) (hi := some (.int .i64 (mn (a0.length : Int) 20))) bnd_none (bnd_int (Int.le_trans (cutL_some hy1).1.1 (cutL_some hy1).1.2.1))
  obtain ⟨_, _, _, _, _, rfl⟩ := g_y1.isl
  refine WO.q (.sl e_y1) rfl rfl ?_
  refine WO.q (.len rfl rfl rfl (sl40.len g_y1.isl)) rfl rfl ?_
  refine WO.q (.mv (v := .int _ _) rfl) rfl rfl ?_
  refine WO.nil ?_
  refine WX.block ?_
  refine WX.loop ?_
  obtain ⟨e38, he38, h⟩ := Option.bind_eq_some_iff.1 h
  refine WX.keep [3, 13, 14, 15] (WX.pk [] (by decide) (WX.addn [0] ?_)) rfl
  refine gabionlaw15_tame_l0_ok he38 ?_ _ _ _ ⟨hB, _, 0, true, [], _, OSl.none _ _, g_y1, rfl, rfl⟩
  · intro s47 he_
    subst he_
    replace h := h
    rintro _ B _ ⟨hB, v39, b39, n39, c39, h39, rfl, rfl⟩
    obtain ⟨_, _, _, _, _, rfl⟩ := h39.isl
    refine WX.seq ?_
    refine WX.reg ?_
    refine WO.q (.mv (v := .sl _ _ _ _ _ _) rfl) rfl rfl ?_
    refine WO.fz (j := 0) h39 rfl ?_
    intro B hK g40
    replace hB := hB.trans hK
    obtain ⟨y41, hy41, h⟩ := Option.bind_eq_some_iff.1 h
    refine WO.c1 rfl rfl (gabionref15_Runs_ok g40 hy41) rfl rfl rfl ?_
    rintro _ B _ hK ⟨v42, b43, n44, c45, rfl, rfl, h46⟩
    obtain ⟨_, _, _, _, _, rfl⟩ := h46.isl
    replace g40 := g40.up hK
    replace hB := hB.trans hK
    refine WO.q (.as (v := .sl _ _ _ _ _ _) rfl) rfl rfl ?_
    refine WO.nil ?_
    obtain rfl := Option.some.inj h
    exact WX.ret (rs_ (rs_tmp rfl rs_nil)) fun st hp => ⟨_, _, hB, (hp.pk [0] (by decide)), _, _, n44, _, rfl, rfl, h46⟩
end Gab
