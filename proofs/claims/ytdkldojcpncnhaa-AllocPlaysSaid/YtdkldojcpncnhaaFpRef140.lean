/- The Go code comes to what the Lean functions say. Written by a program (gp.py). -/
import Derived.Test.YtdkldojcpncnhaaFd
import Derived.Test.YtdkldojcpncnhaaTy
set_option linter.unusedSimpArgs false
set_option linter.unusedVariables false
set_option maxHeartbeats 4000000
set_option maxRecDepth 100000
namespace Gab
open Go Go.Proofs
def gabionref14_Extents_P (B : Kn) (L : Own) (r : (List (Int × Int))) : AV → St → Prop := C1 B L fun B' v e0 => ∃ w0 b0 n0 c0, v = w0 ∧ e0 = oe b0 n0 c0 ∧ OSl EPIi64Ii64Q B' w0 b0 n0 c0 r
def gabionref14_Extents_j6_I (B0 : Kn) (x0 : List Bool) (x3 : List (Int × Int)) (x4 : Int) : Fr → Kn → Own → Prop := fun fr B A => KLe B0 B ∧ ∃ v15 v16 b16 n16 c16, RSl Ty.bool B v15 x0 ∧ OSl EPIi64Ii64Q B v16 b16 n16 c16 x3 ∧ fr = [(0, v15), (3, v16), (4, .int .i64 x4)] ∧ A = [oe b16 n16 c16]
def gabionref14_Extents_j8_I (B0 : Kn) (x0 : List Bool) (x3 : List (Int × Int)) (x4 : Int) (x24 : Bool) : Fr → Kn → Own → Prop := fun fr B A => KLe B0 B ∧ ∃ v8 v9 b9 n9 c9, RSl Ty.bool B v8 x0 ∧ OSl EPIi64Ii64Q B v9 b9 n9 c9 x3 ∧ fr = [(0, v8), (3, v9), (4, .int .i64 x4), (24, .bool x24)] ∧ A = [oe b9 n9 c9]
def gabionref14_Extents_l0_I (B0 : Kn) (x0 : List Bool) (x3 : List (Int × Int)) (x4 : Int) : Fr → Kn → Own → Prop := fun fr B A => KLe B0 B ∧ ∃ v1 v2 b2 n2 c2, RSl Ty.bool B v1 x0 ∧ OSl EPIi64Ii64Q B v2 b2 n2 c2 x3 ∧ fr = [(0, v1), (3, v2), (4, .int .i64 x4)] ∧ A = [oe b2 n2 c2]
def gabionref14_Extents_l0_X0 (B0 : Kn) (x3 : List (Int × Int)) : Fr → Kn → Own → Prop := fun fr B A => KLe B0 B ∧ ∃ v30 b30 n30 c30, OSl EPIi64Ii64Q B v30 b30 n30 c30 x3 ∧ fr = [(3, v30)] ∧ A = [oe b30 n30 c30]
theorem gabionref14_Extents_j6_ok {B0 : Kn} {L : Own} {n0 : Nat} {x0 : List Bool} {x3 : List (Int × Int)} {x4 : Int} {Q : AV → St → Prop} {E : ((List (Int × Int)) × Int) ⊕ (List (Int × Int)) → Prop} {o : ((List (Int × Int)) × Int) ⊕ (List (Int × Int))} (h : gabionref14_Extents_j6 x0 x3 x4 = some o) (hn : ∀ s, E (.inl s) → WXI Try.prog 41 n0 (Fin Try.prog Try.f77.results.toList n0 Q) [.lp (ct [1, 1, 0, 1, 0, 0] (bodyOf Try.f77)), .blk 0, .code (ct [1, 1, 1] (bodyOf Try.f77))] (gabionref14_Extents_l0_I B0 x0 s.1 s.2) L) (hx0 : ∀ s, E (.inr s) → WXI Try.prog 41 n0 (Fin Try.prog Try.f77.results.toList n0 Q) [.code (ct [1, 1, 1] (bodyOf Try.f77))] (gabionref14_Extents_l0_X0 B0 s) L) (hE : E o) : WXI Try.prog 41 n0 (Fin Try.prog Try.f77.results.toList n0 Q) [.code (ct [1, 1, 0, 1, 0, 0, 1, 1] (bodyOf Try.f77)), .lp (ct [1, 1, 0, 1, 0, 0] (bodyOf Try.f77)), .blk 0, .code (ct [1, 1, 1] (bodyOf Try.f77))] (gabionref14_Extents_j6_I B0 x0 x3 x4) L := by
  unfold gabionref14_Extents_j6 at h
  rintro _ B _ ⟨hB, v15, v16, b16, n16, c16, h15, h16, rfl, rfl⟩
  obtain ⟨_, _, _, _, _, rfl⟩ := h15.isl
  obtain ⟨_, _, _, _, _, rfl⟩ := h16.isl
  refine WX.reg ?_
  refine WO.q (.mv (v := .int _ _) rfl) rfl rfl ?_
  refine WO.q (.r fun _ => rfl) rfl rfl ?_
  refine WO.q (.as (v := .int _ _) rfl) rfl rfl ?_
  refine WO.nil ?_
  refine WX.keepL [0, 3, 4] (WX.pk [0] (by decide) ?_) rfl
  obtain rfl := Option.some.inj h
  exact hn _ hE _ _ _ ⟨hB, _, _, _, n16, _, h15, h16, rfl, rfl⟩
theorem gabionref14_Extents_j8_ok {B0 : Kn} {L : Own} {n0 : Nat} {x0 : List Bool} {x3 : List (Int × Int)} {x4 : Int} {x24 : Bool} {Q : AV → St → Prop} {E : ((List (Int × Int)) × Int) ⊕ (List (Int × Int)) → Prop} {o : ((List (Int × Int)) × Int) ⊕ (List (Int × Int))} (h : gabionref14_Extents_j8 x0 x3 x4 x24 = some o) (hn : ∀ s, E (.inl s) → WXI Try.prog 41 n0 (Fin Try.prog Try.f77.results.toList n0 Q) [.lp (ct [1, 1, 0, 1, 0, 0] (bodyOf Try.f77)), .blk 0, .code (ct [1, 1, 1] (bodyOf Try.f77))] (gabionref14_Extents_l0_I B0 x0 s.1 s.2) L) (hx0 : ∀ s, E (.inr s) → WXI Try.prog 41 n0 (Fin Try.prog Try.f77.results.toList n0 Q) [.code (ct [1, 1, 1] (bodyOf Try.f77))] (gabionref14_Extents_l0_X0 B0 s) L) (hE : E o) : WXI Try.prog 41 n0 (Fin Try.prog Try.f77.results.toList n0 Q) [.code (ct [1, 1, 0, 1, 0, 0, 1, 0, 0, 1, 1] (bodyOf Try.f77)), .blk 1, .code (ct [1, 1, 0, 1, 0, 0, 1, 1] (bodyOf Try.f77)), .lp (ct [1, 1, 0, 1, 0, 0] (bodyOf Try.f77)), .blk 0, .code (ct [1, 1, 1] (bodyOf Try.f77))] (gabionref14_Extents_j8_I B0 x0 x3 x4 x24) L := by
  unfold gabionref14_Extents_j8 at h
  rintro _ B _ ⟨hB, v8, v9, b9, n9, c9, h8, h9, rfl, rfl⟩
  obtain ⟨_, _, _, _, _, rfl⟩ := h8.isl
  obtain ⟨_, _, _, _, _, rfl⟩ := h9.isl
  rcases bsp x24 with k10 | k10
  · replace h := (if_pos k10).symm.trans h
    refine WX.condT rfl k10 ?_
    refine WX.drw [0, 1, 2, 3, 4, 5, 6, 7, 8, 9, 10] _ mixed (by kernel_rfl) rfl (pk_sub [0]) ?_
    refine WP.q (i := 0) rfl (.mv (v := .sl _ _ _ _ _ _) rfl) rfl rfl rfl ?_
    refine WP.q (i := 1) rfl (.mv (v := .sl _ _ _ _ _ _) rfl) rfl rfl rfl ?_
    refine WP.q (i := 2) rfl (.len rfl rfl rfl (sl40.len h9.isl)) rfl rfl rfl ?_
    refine WP.q (i := 3) rfl (.r fun _ => rfl) rfl rfl rfl ?_
    obtain ⟨y11, hy11, h⟩ := Option.bind_eq_some_iff.1 h
    obtain rfl := h9.nonnil hy11
    obtain ⟨_, i_y11, l_y11, r_y11⟩ := h9.at sl40 hy11 .i64
    obtain ⟨_, _, rfl, rfl, rfl⟩ := r_y11
    refine WP.q (i := 4) rfl (.ia i_y11) rfl rfl rfl ?_
    refine WP.q (i := 5) rfl (.ia (ia41_1 _ _)) rfl rfl rfl ?_
    refine WP.q (i := 6) rfl (.ldS (i := 0) rfl rfl (l_y11.g rfl) ti3 rfl) rfl rfl rfl ?_
    refine WP.q (i := 7) rfl (.r fun _ => rfl) rfl rfl rfl ?_
    obtain ⟨y12, hy12, h⟩ := Option.bind_eq_some_iff.1 h
    obtain ⟨_, i_y12, l_y12, r_y12⟩ := h9.at sl40 hy12 .i64
    obtain ⟨_, _, rfl, rfl, rfl⟩ := r_y12
    refine WP.q (i := 8) rfl (.ia i_y12) rfl rfl rfl ?_
    refine WP.q (i := 9) rfl (.ia (ia41_1 _ _)) rfl rfl rfl ?_
    refine WP.msn (i := 10) rfl (MOp.ost1 (x' := (y12.1, (wi64 (y11.2 + 1)))) (f := 1) rfl (cI rfl) (fun _ => .h) ti3 rfl rfl h9 hy12 l_y12 (cs' := [.int .i64 y12.1, .int .i64 (wi64 (y11.2 + 1))]) rfl ⟨[_], _, rfl, rfl, rfl⟩) rfl (by kernel_rfl) rfl ?_
    rintro _ _ ⟨c14, o13, rfl⟩
    refine WS.nil ?_
    refine WX.pop ?_
    refine WX.keep [0, 3, 4] (WX.pk [0] (by decide) ?_) rfl
    exact gabionref14_Extents_j6_ok h hn hx0 hE _ _ _ ⟨hB, _, _, _, false, _, h8, o13, rfl, rfl⟩
  · replace h := (if_neg (bnt k10)).symm.trans h
    refine WX.condF rfl k10 ?_
    refine WX.reg ?_
    refine WO.q (.mv (v := .sl _ _ _ _ _ _) rfl) rfl rfl ?_
    refine WO.q (.mv (v := .int _ _) rfl) rfl rfl ?_
    refine WO.q (.bd (bd41_0_1 (cI rfl) (cI rfl))) rfl rfl ?_
    refine WO.md (MOp.bs (l := ([(x4, 1)] : List (Int × Int))) sl40 (RL.cons (Rp Ri Ri) RL.nil) (lb rfl) rfl rfl) rfl rfl ?_
    rintro v19 _ ⟨b17, o18, rfl⟩
    obtain ⟨_, _, _, _, _, rfl⟩ := o18.isl
    obtain ⟨y21, hy21, h⟩ := Option.bind_eq_some_iff.1 h
    refine WO.md (MOp.app rfl rfl rfl sl40 h9 (Src.o (i := 0) sl40 o18 rfl) hy21 rfl rfl (fun _ => (.t .h))) rfl rfl ?_
    rintro v25 _ ⟨b22, n23, o24, rfl⟩
    obtain ⟨_, _, _, _, _, rfl⟩ := o24.isl
    refine WO.q (.as (v := .sl _ _ _ _ _ _) rfl) rfl rfl ?_
    refine WO.nil ?_
    refine WX.pop ?_
    refine WX.keep [0, 3, 4] (WX.pk [1] (by decide) ?_) rfl
    exact gabionref14_Extents_j6_ok h hn hx0 hE _ _ _ ⟨hB, _, _, _, n23, _, h8, o24, rfl, rfl⟩
theorem gabionref14_Extents_l0_s {B0 : Kn} {L : Own} {n0 : Nat} {x0 : List Bool} {x3 : List (Int × Int)} {x4 : Int} {Q : AV → St → Prop} {E : ((List (Int × Int)) × Int) ⊕ (List (Int × Int)) → Prop} {o : ((List (Int × Int)) × Int) ⊕ (List (Int × Int))} (h : gabionref14_Extents_l0 x0 x3 x4 = some o) (hn : ∀ s, E (.inl s) → WXI Try.prog 41 n0 (Fin Try.prog Try.f77.results.toList n0 Q) [.lp (ct [1, 1, 0, 1, 0, 0] (bodyOf Try.f77)), .blk 0, .code (ct [1, 1, 1] (bodyOf Try.f77))] (gabionref14_Extents_l0_I B0 x0 s.1 s.2) L) (hx0 : ∀ s, E (.inr s) → WXI Try.prog 41 n0 (Fin Try.prog Try.f77.results.toList n0 Q) [.code (ct [1, 1, 1] (bodyOf Try.f77))] (gabionref14_Extents_l0_X0 B0 s) L) (hE : E o) : WXI Try.prog 41 n0 (Fin Try.prog Try.f77.results.toList n0 Q) [.code (ct [1, 1, 0, 1, 0, 0] (bodyOf Try.f77)), .lp (ct [1, 1, 0, 1, 0, 0] (bodyOf Try.f77)), .blk 0, .code (ct [1, 1, 1] (bodyOf Try.f77))] (gabionref14_Extents_l0_I B0 x0 x3 x4) L := by
  unfold gabionref14_Extents_l0 at h
  rintro _ B _ ⟨hB, v1, v2, b2, n2, c2, h1, h2, rfl, rfl⟩
  obtain ⟨_, _, _, _, _, rfl⟩ := h1.isl
  obtain ⟨_, _, _, _, _, rfl⟩ := h2.isl
  refine WX.seq ?_
  refine WX.seq ?_
  refine WX.reg ?_
  refine WO.q (.mv (v := .int _ _) rfl) rfl rfl ?_
  refine WO.q (.mv (v := .sl _ _ _ _ _ _) rfl) rfl rfl ?_
  refine WO.q (.len rfl rfl rfl (sl66.len h1.isl)) rfl rfl ?_
  refine WO.q (.r fun _ => rfl) rfl rfl ?_
  refine WO.nil ?_
  rcases bsp (decide (x4 < (x0.length : Int))) with k3 | k3
  · have q_k3 := of_decide_eq_true k3
    replace h := (if_pos q_k3).symm.trans h
    refine WX.condT rfl k3 ?_
    refine WX.skip ?_
    refine WX.seq ?_
    refine WX.block ?_
    refine WX.seq ?_
    refine WX.seq ?_
    refine WX.reg ?_
    refine WO.q (.mv (v := .sl _ _ _ _ _ _) rfl) rfl rfl ?_
    refine WO.q (.mv (v := .int _ _) rfl) rfl rfl ?_
    obtain ⟨y4, hy4, h⟩ := Option.bind_eq_some_iff.1 h
    obtain ⟨b_y4, o_y4, _, i_y4, p_y4, r_y4⟩ := h1.at sl66 hy4 .i64
    obtain rfl := r_y4
    refine WO.q (.ia i_y4) rfl rfl ?_
    refine WO.q (.lp0 rfl p_y4 rfl ti4 rfl) rfl rfl ?_
    refine WO.q (.r fun _ => rfl) rfl rfl ?_
    refine WO.nil ?_
    rcases bsp y4 with k5 | k5
    · replace h := (if_pos k5).symm.trans h
      refine WX.condF rfl (f_not k5) ?_
      refine WX.skip ?_
      refine WX.seq ?_
      refine WX.reg ?_
      refine WO.q (.mv (v := .int _ _) rfl) rfl rfl ?_
      refine WO.q (.r fun _ => rfl) rfl rfl ?_
      refine WO.q (.mv (v := .bool _) rfl) rfl rfl ?_
      rcases bsp (decide (0 < x4)) with k6 | k6
      · have q_k6 := of_decide_eq_true k6
        replace h := (if_pos q_k6).symm.trans h
        refine WO.q (.mv (v := .sl _ _ _ _ _ _) rfl) (wg rfl rfl (gt k6)) rfl ?_
        refine WO.q (.mv (v := .int _ _) rfl) (wg rfl rfl (gt k6)) rfl ?_
        refine WO.q (.r fun _ => rfl) (wg rfl rfl (gt k6)) rfl ?_
        obtain ⟨y7, hy7, h⟩ := Option.bind_eq_some_iff.1 h
        obtain ⟨b_y7, o_y7, _, i_y7, p_y7, r_y7⟩ := h1.at sl66 hy7 .i64
        obtain rfl := r_y7
        refine WO.q (.ia i_y7) (wg rfl rfl (gt k6)) rfl ?_
        refine WO.q (.lp0 rfl p_y7 rfl ti4 rfl) (wg rfl rfl (gt k6)) rfl ?_
        refine WO.q (.ptv (v := .bool _) rfl k6 rfl) rfl rfl ?_
        refine WO.nil ?_
        refine WX.keep [0, 3, 4, 24] (WX.pk [0] (by decide) ?_) rfl
        exact gabionref14_Extents_j8_ok h hn hx0 hE _ _ _ ⟨hB, _, _, _, n2, _, h1, h2, rfl, rfl⟩
      · have q_k6 := of_decide_eq_false k6
        replace h := (if_neg q_k6).symm.trans h
        refine WO.sd (wg rfl rfl (gtn k6)) rfl ?_
        refine WO.sd (wg rfl rfl (gtn k6)) rfl ?_
        refine WO.sd (wg rfl rfl (gtn k6)) rfl ?_
        refine WO.sd (wg rfl rfl (gtn k6)) rfl ?_
        refine WO.sd (wg rfl rfl (gtn k6)) rfl ?_
        refine WO.q (.pfv (v := .bool _) rfl k6 rfl) rfl rfl ?_
        refine WO.nil ?_
        refine WX.keep [0, 3, 4, 24] (WX.pk [0] (by decide) ?_) rfl
        exact gabionref14_Extents_j8_ok h hn hx0 hE _ _ _ ⟨hB, _, _, _, n2, _, h1, h2, rfl, rfl⟩
    · replace h := (if_neg (bnt k5)).symm.trans h
      refine WX.condT rfl (t_not k5) ?_
      refine WX.exit rfl ?_
      refine WX.keep [0, 3, 4] (WX.pk [0] (by decide) ?_) rfl
      exact gabionref14_Extents_j6_ok h hn hx0 hE _ _ _ ⟨hB, _, _, _, n2, _, h1, h2, rfl, rfl⟩
  · have q_k3 := of_decide_eq_false k3
    replace h := (if_neg q_k3).symm.trans h
    refine WX.condF rfl k3 ?_
    refine WX.exit rfl ?_
    refine WX.keep [3] (WX.pk [0] (by decide) ?_) rfl
    obtain rfl := Option.some.inj h
    exact hx0 _ hE _ _ _ ⟨hB, _, _, n2, _, h2, rfl, rfl⟩
theorem gabionref14_Extents_l0_ok {B0 : Kn} {L : Own} {n0 : Nat} {x0 : List Bool} {x3 : List (Int × Int)} {x4 : Int} {Q : AV → St → Prop} {d : Nat} {e : (List (Int × Int))} (h : iter (fun (s : (List (Int × Int)) × Int) => gabionref14_Extents_l0 x0 s.1 s.2) d (x3, x4) = some e) (g0 : ∀ s, e = s → WXI Try.prog 41 n0 (Fin Try.prog Try.f77.results.toList n0 Q) [.code (ct [1, 1, 1] (bodyOf Try.f77))] (gabionref14_Extents_l0_X0 B0 s) L) : WXI Try.prog 41 n0 (Fin Try.prog Try.f77.results.toList n0 Q) [.code (ct [1, 1, 0, 1, 0, 0] (bodyOf Try.f77)), .lp (ct [1, 1, 0, 1, 0, 0] (bodyOf Try.f77)), .blk 0, .code (ct [1, 1, 1] (bodyOf Try.f77))] (gabionref14_Extents_l0_I B0 x0 x3 x4) L :=
  iter_ok (I := fun s => gabionref14_Extents_l0_I B0 x0 s.1 s.2) (D := fun e => (∀ s, e = s → WXI Try.prog 41 n0 (Fin Try.prog Try.f77.results.toList n0 Q) [.code (ct [1, 1, 1] (bodyOf Try.f77))] (gabionref14_Extents_l0_X0 B0 s) L)) (fun E hn hx s o ho hE => gabionref14_Extents_l0_s ho hn (fun s hs => (hx _ hs) _ rfl)  hE) h g0
theorem gabionref14_Extents_ok {B0 : Kn} {L : Own} {a0 : List Bool} {v0_0 : AV} {r : (List (Int × Int))} (g0_0 : RSl Ty.bool B0 v0_0 a0) (h : gabionref14_Extents a0 = some r) : ∀ st, Hp B0 L st → ASpec Try.prog 77 [v0_0] st (gabionref14_Extents_P B0 L r) := by
  unfold gabionref14_Extents at h
  refine bodyA (A := []) Try.func77 rfl (c := bodyOf Try.f77) rfl Try.ntmps77 (lb rfl) fun n0 => ?_
  have hB := KLe.refl B0
  obtain ⟨_, _, _, _, _, rfl⟩ := g0_0.isl
  refine WX.seq ?_
  refine WX.reg ?_
  refine WO.q (.as (v := .sl _ _ _ _ _ _) rfl) rfl rfl ?_
  refine WO.nil ?_
  refine WX.seq ?_
  refine WX.reg ?_
  refine WO.q (.as (v := .sl _ _ _ _ _ _) rfl) rfl rfl ?_
  refine WO.nil ?_
  refine WX.seq ?_
  refine WX.seq ?_
  refine WX.reg ?_
  refine WO.q (.as (v := .int _ _) rfl) rfl rfl ?_
  refine WO.nil ?_
  refine WX.block ?_
  refine WX.loop ?_
  obtain ⟨e27, he27, h⟩ := Option.bind_eq_some_iff.1 h
  refine WX.keep [0, 3, 4] (WX.pk [] (by decide) (WX.addn [0] ?_)) rfl
  refine gabionref14_Extents_l0_ok he27 ?_ _ _ _ ⟨hB, _, _, 0, true, [], g0_0, OSl.none _ _, rfl, rfl⟩
  · intro s29 he_
    subst he_
    replace h := h
    rintro _ B _ ⟨hB, v28, b28, n28, c28, h28, rfl, rfl⟩
    obtain ⟨_, _, _, _, _, rfl⟩ := h28.isl
    refine WX.seq ?_
    refine WX.reg ?_
    refine WO.q (.mv (v := .sl _ _ _ _ _ _) rfl) rfl rfl ?_
    refine WO.q (.as (v := .sl _ _ _ _ _ _) rfl) rfl rfl ?_
    refine WO.nil ?_
    obtain rfl := Option.some.inj h
    exact WX.ret (rs_ (rs_tmp rfl rs_nil)) fun st hp => ⟨_, _, hB, (hp.pk [0] (by decide)), _, _, n28, _, rfl, rfl, h28⟩
def gabionref14_Set_P (B : Kn) (L : Own) (r : (List Bool) × Int) : AV → St → Prop := C1 B L fun B' v e0 => ∃ w0 b0 n0 c0, v = .tup [w0, .int .i64 r.2] ∧ e0 = oe b0 n0 c0 ∧ OSl Ty.bool B' w0 b0 n0 c0 r.1
def gabionref14_Set_l0_I (B0 : Kn) (x0 : List Bool) (x1 : Int) (x2 : Int) (x3 : Bool) (x10 : List Bool) (x11 : Int) : Fr → Kn → Own → Prop := fun fr B A => KLe B0 B ∧ ∃ v11 v12 b12 n12 c12, RSl Ty.bool B v11 x0 ∧ OSl Ty.bool B v12 b12 n12 c12 x10 ∧ fr = [(0, v11), (1, .int .i64 x1), (2, .int .i64 x2), (3, .bool x3), (10, v12), (11, .int .i64 x11)] ∧ A = [oe b12 n12 c12]
def gabionref14_Set_l0_X0 (B0 : Kn) (x10 : List Bool) : Fr → Kn → Own → Prop := fun fr B A => KLe B0 B ∧ ∃ v27 b27 n27 c27, OSl Ty.bool B v27 b27 n27 c27 x10 ∧ fr = [(10, v27)] ∧ A = [oe b27 n27 c27]
def gabionref14_Set_j1_I (B0 : Kn) (x0 : List Bool) (x1 : Int) (x2 : Int) (x3 : Bool) (x31 : Bool) : Fr → Kn → Own → Prop := fun fr B A => KLe B0 B ∧ ∃ v2, RSl Ty.bool B v2 x0 ∧ fr = [(0, v2), (1, .int .i64 x1), (2, .int .i64 x2), (3, .bool x3), (31, .bool x31)] ∧ A = []
theorem gabionref14_Set_l0_s {B0 : Kn} {L : Own} {n0 : Nat} {x0 : List Bool} {x1 : Int} {x2 : Int} {x3 : Bool} {x10 : List Bool} {x11 : Int} {Q : AV → St → Prop} {E : ((List Bool) × Int) ⊕ (((List Bool) × Int) ⊕ (List Bool)) → Prop} {o : ((List Bool) × Int) ⊕ (((List Bool) × Int) ⊕ (List Bool))} (h : gabionref14_Set_l0 x0 x1 x2 x3 x10 x11 = some o) (hn : ∀ s, E (.inl s) → WXI Try.prog 54 n0 (Fin Try.prog Try.f40.results.toList n0 Q) [.lp (ct [1, 1, 1, 1, 0, 1, 0, 0] (bodyOf Try.f40)), .blk 0, .code (ct [1, 1, 1, 1, 1] (bodyOf Try.f40))] (gabionref14_Set_l0_I B0 x0 x1 x2 x3 s.1 s.2) L) (hx0 : ∀ s, E (.inr (.inr s)) → WXI Try.prog 54 n0 (Fin Try.prog Try.f40.results.toList n0 Q) [.code (ct [1, 1, 1, 1, 1] (bodyOf Try.f40))] (gabionref14_Set_l0_X0 B0 s) L) (hr : ∀ r, E (.inr (.inl r)) → ∀ v st, gabionref14_Set_P B0 L r v st → Q v st) (hE : E o) : WXI Try.prog 54 n0 (Fin Try.prog Try.f40.results.toList n0 Q) [.code (ct [1, 1, 1, 1, 0, 1, 0, 0] (bodyOf Try.f40)), .lp (ct [1, 1, 1, 1, 0, 1, 0, 0] (bodyOf Try.f40)), .blk 0, .code (ct [1, 1, 1, 1, 1] (bodyOf Try.f40))] (gabionref14_Set_l0_I B0 x0 x1 x2 x3 x10 x11) L := by
  unfold gabionref14_Set_l0 at h
  rintro _ B _ ⟨hB, v11, v12, b12, n12, c12, h11, h12, rfl, rfl⟩
  obtain ⟨_, _, _, _, _, rfl⟩ := h11.isl
  obtain ⟨_, _, _, _, _, rfl⟩ := h12.isl
  refine WX.seq ?_
  refine WX.seq ?_
  refine WX.reg ?_
  refine WO.q (.mv (v := .int _ _) rfl) rfl rfl ?_
  refine WO.q (.mv (v := .int _ _) rfl) rfl rfl ?_
  refine WO.q (.mv (v := .int _ _) rfl) rfl rfl ?_
  refine WO.q (.r fun _ => rfl) rfl rfl ?_
  refine WO.q (.r fun _ => rfl) rfl rfl ?_
  refine WO.nil ?_
  rcases bsp (decide (x11 < (wi64 (x1 + x2)))) with k13 | k13
  · have q_k13 := of_decide_eq_true k13
    replace h := (if_pos q_k13).symm.trans h
    refine WX.condT rfl k13 ?_
    refine WX.skip ?_
    refine WX.seq ?_
    refine WX.block ?_
    refine WX.seq ?_
    refine WX.seq ?_
    refine WX.reg ?_
    refine WO.q (.mv (v := .sl _ _ _ _ _ _) rfl) rfl rfl ?_
    refine WO.q (.mv (v := .int _ _) rfl) rfl rfl ?_
    obtain ⟨y14, hy14, h⟩ := Option.bind_eq_some_iff.1 h
    obtain ⟨b_y14, o_y14, _, i_y14, p_y14, r_y14⟩ := h11.at sl66 hy14 .i64
    obtain rfl := r_y14
    refine WO.q (.ia i_y14) rfl rfl ?_
    refine WO.q (.lp0 rfl p_y14 rfl ti4 rfl) rfl rfl ?_
    refine WO.q (.mv (v := .bool _) rfl) rfl rfl ?_
    refine WO.q (.bin (evbooleql ti4 rfl)) rfl rfl ?_
    refine WO.nil ?_
    rcases bsp (decide (y14 = x3)) with k15 | k15
    · have q_k15 := of_decide_eq_true k15
      replace h := (if_pos q_k15).symm.trans h
      refine WX.condT rfl k15 ?_
      refine WX.seq ?_
      refine WX.reg ?_
      refine WO.q (.as (v := .sl _ _ _ _ _ _) rfl) rfl rfl ?_
      refine WO.q (.as (v := .int _ _) rfl) rfl rfl ?_
      refine WO.nil ?_
      obtain rfl := Option.some.inj h
      exact WX.ret (rs_ (rs_tmp rfl (rs_tmp rfl rs_nil))) fun st hp => hr _ hE _ _ ⟨_, _, hB, ((hp.pk [] (by decide)).skip 0), _, 0, true, [], rfl, rfl, OSl.none _ _⟩
    · have q_k15 := of_decide_eq_false k15
      replace h := (if_neg q_k15).symm.trans h
      refine WX.condF rfl k15 ?_
      refine WX.skip ?_
      refine WX.reg ?_
      refine WO.q (.mv (v := .sl _ _ _ _ _ _) rfl) rfl rfl ?_
      refine WO.q (.mv (v := .int _ _) rfl) rfl rfl ?_
      refine WO.q (.mv (v := .bool _) rfl) rfl rfl ?_
      obtain ⟨y16, hy16, h⟩ := Option.bind_eq_some_iff.1 h
      obtain rfl := h12.nonnil hy16
      obtain ⟨_, i_y16, l_y16, r_y16⟩ := h12.at sl66 hy16 .i64
      obtain rfl := r_y16
      refine WO.q (.ia i_y16) rfl rfl ?_
      refine WO.mn (MOp.ostW (x' := x3) rfl (cB rfl) (fun _ => .h) ti4 rfl rfl h12 hy16 Rb) rfl ?_
      rintro _ _ ⟨c18, o17, rfl⟩
      refine WO.nil ?_
      refine WX.pop ?_
      refine WX.reg ?_
      refine WO.q (.mv (v := .int _ _) rfl) rfl rfl ?_
      refine WO.q (.r fun _ => rfl) rfl rfl ?_
      refine WO.q (.as (v := .int _ _) rfl) rfl rfl ?_
      refine WO.nil ?_
      refine WX.keepL [0, 1, 2, 3, 10, 11] (WX.pk [0] (by decide) ?_) rfl
      obtain rfl := Option.some.inj h
      exact hn _ hE _ _ _ ⟨hB, _, _, _, false, _, h11, o17, rfl, rfl⟩
  · have q_k13 := of_decide_eq_false k13
    replace h := (if_neg q_k13).symm.trans h
    refine WX.condF rfl k13 ?_
    refine WX.exit rfl ?_
    refine WX.keep [10] (WX.pk [0] (by decide) ?_) rfl
    obtain rfl := Option.some.inj h
    exact hx0 _ hE _ _ _ ⟨hB, _, _, n12, _, h12, rfl, rfl⟩
theorem gabionref14_Set_l0_ok {B0 : Kn} {L : Own} {n0 : Nat} {x0 : List Bool} {x1 : Int} {x2 : Int} {x3 : Bool} {x10 : List Bool} {x11 : Int} {Q : AV → St → Prop} {d : Nat} {e : ((List Bool) × Int) ⊕ (List Bool)} (h : iter (fun (s : (List Bool) × Int) => gabionref14_Set_l0 x0 x1 x2 x3 s.1 s.2) d (x10, x11) = some e) (g0 : ∀ r, e = (.inl r) → ∀ v st, gabionref14_Set_P B0 L r v st → Q v st) (g1 : ∀ s, e = (.inr s) → WXI Try.prog 54 n0 (Fin Try.prog Try.f40.results.toList n0 Q) [.code (ct [1, 1, 1, 1, 1] (bodyOf Try.f40))] (gabionref14_Set_l0_X0 B0 s) L) : WXI Try.prog 54 n0 (Fin Try.prog Try.f40.results.toList n0 Q) [.code (ct [1, 1, 1, 1, 0, 1, 0, 0] (bodyOf Try.f40)), .lp (ct [1, 1, 1, 1, 0, 1, 0, 0] (bodyOf Try.f40)), .blk 0, .code (ct [1, 1, 1, 1, 1] (bodyOf Try.f40))] (gabionref14_Set_l0_I B0 x0 x1 x2 x3 x10 x11) L :=
  iter_ok (I := fun s => gabionref14_Set_l0_I B0 x0 x1 x2 x3 s.1 s.2) (D := fun e => (∀ r, e = (.inl r) → ∀ v st, gabionref14_Set_P B0 L r v st → Q v st) ∧ (∀ s, e = (.inr s) → WXI Try.prog 54 n0 (Fin Try.prog Try.f40.results.toList n0 Q) [.code (ct [1, 1, 1, 1, 1] (bodyOf Try.f40))] (gabionref14_Set_l0_X0 B0 s) L)) (fun E hn hx s o ho hE => gabionref14_Set_l0_s ho hn (fun s hs => (hx _ hs).2 _ rfl) (fun r hs => (hx _ hs).1 _ rfl) hE) h ⟨g0, g1⟩
theorem gabionref14_Set_j1_ok {B0 : Kn} {L : Own} {n0 : Nat} {x0 : List Bool} {x1 : Int} {x2 : Int} {x3 : Bool} {x31 : Bool} {r : (List Bool) × Int} (h : gabionref14_Set_j1 x0 x1 x2 x3 x31 = some r) : WXI Try.prog 54 n0 (Fin Try.prog Try.f40.results.toList n0 (gabionref14_Set_P B0 L r)) [.code (ct [1, 0, 1] (bodyOf Try.f40)), .code (ct [1, 1] (bodyOf Try.f40))] (gabionref14_Set_j1_I B0 x0 x1 x2 x3 x31) L := by
  unfold gabionref14_Set_j1 at h
  rintro _ B _ ⟨hB, v2, h2, rfl, rfl⟩
  obtain ⟨_, _, _, _, _, rfl⟩ := h2.isl
  rcases bsp x31 with k3 | k3
  · replace h := (if_pos k3).symm.trans h
    refine WX.condT rfl k3 ?_
    refine WX.seq ?_
    refine WX.reg ?_
    refine WO.q (.as (v := .sl _ _ _ _ _ _) rfl) rfl rfl ?_
    refine WO.q (.as (v := .int _ _) rfl) rfl rfl ?_
    refine WO.nil ?_
    obtain rfl := Option.some.inj h
    exact WX.ret (rs_ (rs_tmp rfl (rs_tmp rfl rs_nil))) fun st hp => ⟨_, _, hB, ((hp.pk [] (by decide)).skip 0), _, 0, true, [], rfl, rfl, OSl.none _ _⟩
  · replace h := (if_neg (bnt k3)).symm.trans h
    refine WX.condF rfl k3 ?_
    refine WX.skip ?_
    refine WX.seq ?_
    refine WX.reg ?_
    refine WO.q (.as (v := .sl _ _ _ _ _ _) rfl) rfl rfl ?_
    refine WO.nil ?_
    refine WX.seq ?_
    refine WX.reg ?_
    refine WO.q (.mv (v := .sl _ _ _ _ _ _) rfl) rfl rfl ?_
    refine WO.q (.mv (v := .sl _ _ _ _ _ _) rfl) rfl rfl ?_
    refine WO.addn ?_
    obtain ⟨_, hs6⟩ := Src.r sl66 h2
    obtain ⟨y5, hy5, h⟩ := Option.bind_eq_some_iff.1 h
    refine WO.md (MOp.app rfl rfl rfl sl66 (OSl.none Ty.bool _) (hs6 _) hy5 rfl rfl (fun _ => .h)) rfl rfl ?_
    rintro v10 _ ⟨b7, n8, o9, rfl⟩
    obtain ⟨_, _, _, _, _, rfl⟩ := o9.isl
    refine WO.q (.as (v := .sl _ _ _ _ _ _) rfl) rfl rfl ?_
    refine WO.nil ?_
    refine WX.seq ?_
    refine WX.seq ?_
    refine WX.reg ?_
    refine WO.q (.mv (v := .int _ _) rfl) rfl rfl ?_
    refine WO.q (.as (v := .int _ _) rfl) rfl rfl ?_
    refine WO.nil ?_
    refine WX.block ?_
    refine WX.loop ?_
    obtain ⟨e20, he20, h⟩ := Option.bind_eq_some_iff.1 h
    refine WX.keep [0, 1, 2, 3, 10, 11] (WX.pk [0] (by decide) ?_) rfl
    refine gabionref14_Set_l0_ok he20 ?_ ?_ _ _ _ ⟨hB, _, _, _, n8, _, h2, o9, rfl, rfl⟩
    · intro r22 he_
      subst he_
      replace h := (on_l h)
      obtain rfl := Option.some.inj h
      exact fun v st hp => hp
    · intro x23 he_
      subst he_
      replace h := (on_r h)
      rintro _ B _ ⟨hB, v24, b24, n24, c24, h24, rfl, rfl⟩
      obtain ⟨_, _, _, _, _, rfl⟩ := h24.isl
      refine WX.seq ?_
      refine WX.reg ?_
      refine WO.q (.mv (v := .sl _ _ _ _ _ _) rfl) rfl rfl ?_
      refine WO.q (.as (v := .sl _ _ _ _ _ _) rfl) rfl rfl ?_
      refine WO.q (.as (v := .int _ _) rfl) rfl rfl ?_
      refine WO.nil ?_
      obtain rfl := Option.some.inj h
      exact WX.ret (rs_ (rs_tmp rfl (rs_tmp rfl rs_nil))) fun st hp => ⟨_, _, hB, (hp.pk [0] (by decide)), _, _, n24, _, rfl, rfl, h24⟩
theorem gabionref14_Set_ok {B0 : Kn} {L : Own} {a0 : List Bool} {a1 : Int} {a2 : Int} {a3 : Bool} {v0_0 : AV} {r : (List Bool) × Int} (g0_0 : RSl Ty.bool B0 v0_0 a0) (h : gabionref14_Set a0 a1 a2 a3 = some r) : ∀ st, Hp B0 L st → ASpec Try.prog 40 [v0_0, .int .i64 a1, .int .i64 a2, .bool a3] st (gabionref14_Set_P B0 L r) := by
  unfold gabionref14_Set at h
  refine bodyA (A := []) Try.func40 rfl (c := bodyOf Try.f40) rfl Try.ntmps40 (lb rfl) fun n0 => ?_
  have hB := KLe.refl B0
  obtain ⟨_, _, _, _, _, rfl⟩ := g0_0.isl
  refine WX.seq ?_
  refine WX.reg ?_
  refine WO.q (.as (v := .sl _ _ _ _ _ _) rfl) rfl rfl ?_
  refine WO.q (.as (v := .int _ _) rfl) rfl rfl ?_
  refine WO.nil ?_
  refine WX.seq ?_
  refine WX.seq ?_
  refine WX.reg ?_
  refine WO.q (.mv (v := .int _ _) rfl) rfl rfl ?_
  refine WO.q (.r fun _ => rfl) rfl rfl ?_
  refine WO.q (.mv (v := .bool _) rfl) rfl rfl ?_
  rcases bsp (decide (a1 < 0)) with k1 | k1
  · have q_k1 := of_decide_eq_true k1
    replace h := (if_pos q_k1).symm.trans h
    refine WO.sd (wg rfl rfl (gfn k1)) rfl ?_
    refine WO.sd (wg rfl rfl (gfn k1)) rfl ?_
    refine WO.q (.ptv (v := .bool _) rfl k1 rfl) rfl rfl ?_
    refine WO.q (.mv (v := .bool _) rfl) rfl rfl ?_
    refine WO.sd (wg rfl rfl (gfn rfl)) rfl ?_
    refine WO.sd (wg rfl rfl (gfn rfl)) rfl ?_
    refine WO.sd (wg rfl rfl (gfn rfl)) rfl ?_
    refine WO.sd (wg rfl rfl (gfn rfl)) rfl ?_
    refine WO.q (.ptv (v := .bool _) rfl rfl rfl) rfl rfl ?_
    refine WO.q (.mv (v := .bool _) rfl) rfl rfl ?_
    refine WO.sd (wg rfl rfl (gfn rfl)) rfl ?_
    refine WO.sd (wg rfl rfl (gfn rfl)) rfl ?_
    refine WO.sd (wg rfl rfl (gfn rfl)) rfl ?_
    refine WO.sd (wg rfl rfl (gfn rfl)) rfl ?_
    refine WO.sd (wg rfl rfl (gfn rfl)) rfl ?_
    refine WO.sd (wg rfl rfl (gfn rfl)) rfl ?_
    refine WO.q (.ptv (v := .bool _) rfl rfl rfl) rfl rfl ?_
    refine WO.nil ?_
    refine WX.keep [0, 1, 2, 3, 31] (WX.pk [] (by decide) ?_) rfl
    exact gabionref14_Set_j1_ok h _ _ _ ⟨hB, _, g0_0, rfl, rfl⟩
  · have q_k1 := of_decide_eq_false k1
    replace h := (if_neg q_k1).symm.trans h
    refine WO.q (.mv (v := .int _ _) rfl) (wg rfl rfl (gf k1)) rfl ?_
    refine WO.q (.r fun _ => rfl) (wg rfl rfl (gf k1)) rfl ?_
    refine WO.q (.pfv (v := .bool _) rfl k1 rfl) rfl rfl ?_
    refine WO.q (.mv (v := .bool _) rfl) rfl rfl ?_
    rcases bsp (decide (a2 < 1)) with k25 | k25
    · have q_k25 := of_decide_eq_true k25
      replace h := (if_pos q_k25).symm.trans h
      refine WO.sd (wg rfl rfl (gfn k25)) rfl ?_
      refine WO.sd (wg rfl rfl (gfn k25)) rfl ?_
      refine WO.sd (wg rfl rfl (gfn k25)) rfl ?_
      refine WO.sd (wg rfl rfl (gfn k25)) rfl ?_
      refine WO.q (.ptv (v := .bool _) rfl k25 rfl) rfl rfl ?_
      refine WO.q (.mv (v := .bool _) rfl) rfl rfl ?_
      refine WO.sd (wg rfl rfl (gfn rfl)) rfl ?_
      refine WO.sd (wg rfl rfl (gfn rfl)) rfl ?_
      refine WO.sd (wg rfl rfl (gfn rfl)) rfl ?_
      refine WO.sd (wg rfl rfl (gfn rfl)) rfl ?_
      refine WO.sd (wg rfl rfl (gfn rfl)) rfl ?_
      refine WO.sd (wg rfl rfl (gfn rfl)) rfl ?_
      refine WO.q (.ptv (v := .bool _) rfl rfl rfl) rfl rfl ?_
      refine WO.nil ?_
      refine WX.keep [0, 1, 2, 3, 31] (WX.pk [] (by decide) ?_) rfl
      exact gabionref14_Set_j1_ok h _ _ _ ⟨hB, _, g0_0, rfl, rfl⟩
    · have q_k25 := of_decide_eq_false k25
      replace h := (if_neg q_k25).symm.trans h
      refine WO.q (.mv (v := .int _ _) rfl) (wg rfl rfl (gf k25)) rfl ?_
      refine WO.q (.mv (v := .sl _ _ _ _ _ _) rfl) (wg rfl rfl (gf k25)) rfl ?_
      refine WO.q (.len rfl rfl rfl (sl66.len g0_0.isl)) (wg rfl rfl (gf k25)) rfl ?_
      refine WO.q (.r fun _ => rfl) (wg rfl rfl (gf k25)) rfl ?_
      refine WO.q (.pfv (v := .bool _) rfl k25 rfl) rfl rfl ?_
      refine WO.q (.mv (v := .bool _) rfl) rfl rfl ?_
      rcases bsp (decide ((a0.length : Int) < a2)) with k26 | k26
      · have q_k26 := of_decide_eq_true k26
        replace h := (if_pos q_k26).symm.trans h
        refine WO.sd (wg rfl rfl (gfn k26)) rfl ?_
        refine WO.sd (wg rfl rfl (gfn k26)) rfl ?_
        refine WO.sd (wg rfl rfl (gfn k26)) rfl ?_
        refine WO.sd (wg rfl rfl (gfn k26)) rfl ?_
        refine WO.sd (wg rfl rfl (gfn k26)) rfl ?_
        refine WO.sd (wg rfl rfl (gfn k26)) rfl ?_
        refine WO.q (.ptv (v := .bool _) rfl k26 rfl) rfl rfl ?_
        refine WO.nil ?_
        refine WX.keep [0, 1, 2, 3, 31] (WX.pk [] (by decide) ?_) rfl
        exact gabionref14_Set_j1_ok h _ _ _ ⟨hB, _, g0_0, rfl, rfl⟩
      · have q_k26 := of_decide_eq_false k26
        replace h := (if_neg q_k26).symm.trans h
        refine WO.q (.mv (v := .int _ _) rfl) (wg rfl rfl (gf k26)) rfl ?_
        refine WO.q (.mv (v := .sl _ _ _ _ _ _) rfl) (wg rfl rfl (gf k26)) rfl ?_
        refine WO.q (.len rfl rfl rfl (sl66.len g0_0.isl)) (wg rfl rfl (gf k26)) rfl ?_
        refine WO.q (.mv (v := .int _ _) rfl) (wg rfl rfl (gf k26)) rfl ?_
        refine WO.q (.r fun _ => rfl) (wg rfl rfl (gf k26)) rfl ?_
        refine WO.q (.r fun _ => rfl) (wg rfl rfl (gf k26)) rfl ?_
        refine WO.q (.pfv (v := .bool _) rfl k26 rfl) rfl rfl ?_
        refine WO.nil ?_
        refine WX.keep [0, 1, 2, 3, 31] (WX.pk [] (by decide) ?_) rfl
        exact gabionref14_Set_j1_ok h _ _ _ ⟨hB, _, g0_0, rfl, rfl⟩
end Gab
