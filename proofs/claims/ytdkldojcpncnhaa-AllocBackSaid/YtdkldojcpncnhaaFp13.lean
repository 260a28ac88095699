/- The Go code comes to what the Lean functions say. Written by a program (gp.py). -/
import Derived.Test.YtdkldojcpncnhaaFd
import Derived.Test.YtdkldojcpncnhaaFp12
set_option linter.unusedSimpArgs false
set_option linter.unusedVariables false
set_option maxHeartbeats 4000000
set_option maxRecDepth 100000
namespace Gab
open Go Go.Proofs
def gabionref15_Fill_P (B : Kn) (L : Own) (r : (List (Int × Int)) × Int) : AV → St → Prop := C1 B L fun B' v e0 => ∃ w0 b0 n0 c0, v = .tup [w0, .int .i64 r.2] ∧ e0 = oe b0 n0 c0 ∧ OSl EPIi64Ii64Q B' w0 b0 n0 c0 r.1
def gabionref15_Fill_l0_I (B0 : Kn) (x1 : Int) (x2 : Int) (x3 : Int) (x11 : List Int) (x12 : List Int) (x13 : Int) : Fr → Kn → Own → Prop := fun fr B A => KLe B0 B ∧ ∃ v21 b21 n21 c21 v22 b22 n22 c22, OSl (Ty.int .i64) B v21 b21 n21 c21 x11 ∧ OSl (Ty.int .i64) B v22 b22 n22 c22 x12 ∧ fr = [(1, .int .i64 x1), (2, .int .i64 x2), (3, .int .i64 x3), (11, v21), (12, v22), (13, .int .i64 x13)] ∧ A = [oe b21 n21 c21, oe b22 n22 c22]
def gabionref15_Fill_l0_X0 (B0 : Kn) (x12 : List Int) : Fr → Kn → Own → Prop := fun fr B A => KLe B0 B ∧ ∃ v47 b47 n47 c47, OSl (Ty.int .i64) B v47 b47 n47 c47 x12 ∧ fr = [(12, v47)] ∧ A = [oe b47 n47 c47]
def gabionref15_Fill_j5_I (B0 : Kn) (x1 : Int) (x2 : Int) (x3 : Int) (x11 : List Int) (x44 : Bool) : Fr → Kn → Own → Prop := fun fr B A => KLe B0 B ∧ ∃ v13 b13 n13 c13, OSl (Ty.int .i64) B v13 b13 n13 c13 x11 ∧ fr = [(1, .int .i64 x1), (2, .int .i64 x2), (3, .int .i64 x3), (11, v13), (44, .bool x44)] ∧ A = [oe b13 n13 c13]
def gabionref15_Fill_j2_I (B0 : Kn) (x0 : List (Int × Int)) (x1 : Int) (x2 : Int) (x3 : Int) (x30 : Bool) : Fr → Kn → Own → Prop := fun fr B A => KLe B0 B ∧ ∃ v4, RSl EPIi64Ii64Q B v4 x0 ∧ fr = [(0, v4), (1, .int .i64 x1), (2, .int .i64 x2), (3, .int .i64 x3), (30, .bool x30)] ∧ A = []
theorem gabionref15_Fill_l0_s {B0 : Kn} {L : Own} {n0 : Nat} {x1 : Int} {x2 : Int} {x3 : Int} {x11 : List Int} {x12 : List Int} {x13 : Int} {Q : AV → St → Prop} {E : ((List Int) × Int) ⊕ (((List (Int × Int)) × Int) ⊕ (List Int)) → Prop} {o : ((List Int) × Int) ⊕ (((List (Int × Int)) × Int) ⊕ (List Int))} (h : gabionref15_Fill_l0 x1 x2 x3 x11 x12 x13 = some o) (hn : ∀ s, E (.inl s) → WXI Try.prog 75 n0 (Fin Try.prog Try.f31.results.toList n0 Q) [.lp (ct [1, 1, 1, 1, 1, 1, 1, 0, 1, 0, 0] (bodyOf Try.f31)), .blk 0, .code (ct [1, 1, 1, 1, 1, 1, 1, 1] (bodyOf Try.f31))] (gabionref15_Fill_l0_I B0 x1 x2 x3 x11 s.1 s.2) L) (hx0 : ∀ s, E (.inr (.inr s)) → WXI Try.prog 75 n0 (Fin Try.prog Try.f31.results.toList n0 Q) [.code (ct [1, 1, 1, 1, 1, 1, 1, 1] (bodyOf Try.f31))] (gabionref15_Fill_l0_X0 B0 s) L) (hr : ∀ r, E (.inr (.inl r)) → ∀ v st, gabionref15_Fill_P B0 L r v st → Q v st) (hE : E o) : WXI Try.prog 75 n0 (Fin Try.prog Try.f31.results.toList n0 Q) [.code (ct [1, 1, 1, 1, 1, 1, 1, 0, 1, 0, 0] (bodyOf Try.f31)), .lp (ct [1, 1, 1, 1, 1, 1, 1, 0, 1, 0, 0] (bodyOf Try.f31)), .blk 0, .code (ct [1, 1, 1, 1, 1, 1, 1, 1] (bodyOf Try.f31))] (gabionref15_Fill_l0_I B0 x1 x2 x3 x11 x12 x13) L := by
  unfold gabionref15_Fill_l0 at h
  rintro _ B _ ⟨hB, v21, b21, n21, c21, v22, b22, n22, c22, h21, h22, rfl, rfl⟩
  obtain ⟨_, _, _, _, _, rfl⟩ := h21.isl
  obtain ⟨_, _, _, _, _, rfl⟩ := h22.isl
  refine WX.seq ?_
  refine WX.seq ?_
  refine WX.reg ?_
  refine WO.q (.mv (v := .int _ _) rfl) rfl rfl ?_
  refine WO.q (.mv (v := .int _ _) rfl) rfl rfl ?_
  refine WO.q (.r fun _ => rfl) rfl rfl ?_
  refine WO.nil ?_
  rcases bsp (decide (x13 < x3)) with k23 | k23
  · have q_k23 := of_decide_eq_true k23
    replace h := (if_pos q_k23).symm.trans h
    refine WX.condT rfl k23 ?_
    refine WX.skip ?_
    refine WX.seq ?_
    refine WX.block ?_
    refine WX.seq ?_
    refine WX.seq ?_
    refine WX.reg ?_
    refine WO.q (.mv (v := .sl _ _ _ _ _ _) rfl) rfl rfl ?_
    refine WO.q (.mv (v := .int _ _) rfl) rfl rfl ?_
    refine WO.q (.mv (v := .int _ _) rfl) rfl rfl ?_
    refine WO.q (.r fun _ => rfl) rfl rfl ?_
    obtain ⟨y24, hy24, h⟩ := Option.bind_eq_some_iff.1 h
    obtain rfl := h21.nonnil hy24
    obtain ⟨_, i_y24, l_y24, r_y24⟩ := h21.at sl22 hy24 .i64
    obtain rfl := r_y24
    refine WO.q (.ia i_y24) rfl rfl ?_
    refine WO.q (.ldS (i := 0) rfl rfl (l_y24.g0 rfl) ti3 rfl) rfl rfl ?_
    refine WO.q (.r fun _ => rfl) rfl rfl ?_
    refine WO.nil ?_
    rcases bsp (decide (y24 ≠ (-1))) with k25 | k25
    · have q_k25 := of_decide_eq_true k25
      replace h := (if_pos q_k25).symm.trans h
      refine WX.condT rfl k25 ?_
      refine WX.seq ?_
      refine WX.reg ?_
      refine WO.q (.as (v := .sl _ _ _ _ _ _) rfl) rfl rfl ?_
      refine WO.q (.as (v := .int _ _) rfl) rfl rfl ?_
      refine WO.nil ?_
      obtain rfl := Option.some.inj h
      exact WX.ret (rs_ (rs_tmp rfl (rs_tmp rfl rs_nil))) fun st hp => hr _ hE _ _ ⟨_, _, hB, ((hp.pk [] (by decide)).skip 0), _, 0, true, [], rfl, rfl, OSl.none _ _⟩
    · have q_k25 := of_decide_eq_false k25
      replace h := (if_neg q_k25).symm.trans h
      refine WX.condF rfl k25 ?_
      refine WX.skip ?_
      refine WX.reg ?_
      refine WO.q (.mv (v := .sl _ _ _ _ _ _) rfl) rfl rfl ?_
      refine WO.q (.mv (v := .int _ _) rfl) rfl rfl ?_
      refine WO.q (.mv (v := .int _ _) rfl) rfl rfl ?_
      refine WO.q (.r fun _ => rfl) rfl rfl ?_
      refine WO.q (.mv (v := .int _ _) rfl) rfl rfl ?_
      refine WO.q (.mv (v := .int _ _) rfl) rfl rfl ?_
      refine WO.q (.r fun _ => rfl) rfl rfl ?_
      obtain ⟨y26, hy26, h⟩ := Option.bind_eq_some_iff.1 h
      obtain rfl := h22.nonnil hy26
      obtain ⟨_, i_y26, l_y26, r_y26⟩ := h22.at sl22 hy26 .i64
      obtain rfl := r_y26
      refine WO.q (.ia i_y26) rfl rfl ?_
      refine WO.mn (MOp.ostW (x' := (wi64 (x2 + x13))) rfl (cI rfl) (fun _ => (.t .h)) ti3 rfl rfl h22 hy26 Ri) rfl ?_
      rintro _ _ ⟨c28, o27, rfl⟩
      refine WO.nil ?_
      refine WX.pop ?_
      refine WX.reg ?_
      refine WO.q (.mv (v := .int _ _) rfl) rfl rfl ?_
      refine WO.q (.r fun _ => rfl) rfl rfl ?_
      refine WO.q (.as (v := .int _ _) rfl) rfl rfl ?_
      refine WO.nil ?_
      refine WX.keepL [1, 2, 3, 11, 12, 13] (WX.pk [0, 1] (by decide) ?_) rfl
      obtain rfl := Option.some.inj h
      exact hn _ hE _ _ _ ⟨hB, _, _, false, _, _, _, false, _, h21, o27, rfl, rfl⟩
  · have q_k23 := of_decide_eq_false k23
    replace h := (if_neg q_k23).symm.trans h
    refine WX.condF rfl k23 ?_
    refine WX.exit rfl ?_
    refine WX.keep [12] (WX.pk [1] (by decide) ?_) rfl
    obtain rfl := Option.some.inj h
    exact hx0 _ hE _ _ _ ⟨hB, _, _, n22, _, h22, rfl, rfl⟩
theorem gabionref15_Fill_l0_ok {B0 : Kn} {L : Own} {n0 : Nat} {x1 : Int} {x2 : Int} {x3 : Int} {x11 : List Int} {x12 : List Int} {x13 : Int} {Q : AV → St → Prop} {d : Nat} {e : ((List (Int × Int)) × Int) ⊕ (List Int)} (h : iter (fun (s : (List Int) × Int) => gabionref15_Fill_l0 x1 x2 x3 x11 s.1 s.2) d (x12, x13) = some e) (g0 : ∀ r, e = (.inl r) → ∀ v st, gabionref15_Fill_P B0 L r v st → Q v st) (g1 : ∀ s, e = (.inr s) → WXI Try.prog 75 n0 (Fin Try.prog Try.f31.results.toList n0 Q) [.code (ct [1, 1, 1, 1, 1, 1, 1, 1] (bodyOf Try.f31))] (gabionref15_Fill_l0_X0 B0 s) L) : WXI Try.prog 75 n0 (Fin Try.prog Try.f31.results.toList n0 Q) [.code (ct [1, 1, 1, 1, 1, 1, 1, 0, 1, 0, 0] (bodyOf Try.f31)), .lp (ct [1, 1, 1, 1, 1, 1, 1, 0, 1, 0, 0] (bodyOf Try.f31)), .blk 0, .code (ct [1, 1, 1, 1, 1, 1, 1, 1] (bodyOf Try.f31))] (gabionref15_Fill_l0_I B0 x1 x2 x3 x11 x12 x13) L :=
  iter_ok (I := fun s => gabionref15_Fill_l0_I B0 x1 x2 x3 x11 s.1 s.2) (D := fun e => (∀ r, e = (.inl r) → ∀ v st, gabionref15_Fill_P B0 L r v st → Q v st) ∧ (∀ s, e = (.inr s) → WXI Try.prog 75 n0 (Fin Try.prog Try.f31.results.toList n0 Q) [.code (ct [1, 1, 1, 1, 1, 1, 1, 1] (bodyOf Try.f31))] (gabionref15_Fill_l0_X0 B0 s) L)) (fun E hn hx s o ho hE => gabionref15_Fill_l0_s ho hn (fun s hs => (hx _ hs).2 _ rfl) (fun r hs => (hx _ hs).1 _ rfl) hE) h ⟨g0, g1⟩
theorem gabionref15_Fill_j5_ok {B0 : Kn} {L : Own} {n0 : Nat} {x1 : Int} {x2 : Int} {x3 : Int} {x11 : List Int} {x44 : Bool} {r : (List (Int × Int)) × Int} (h : gabionref15_Fill_j5 x1 x2 x3 x11 x44 = some r) : WXI Try.prog 75 n0 (Fin Try.prog Try.f31.results.toList n0 (gabionref15_Fill_P B0 L r)) [.code (ct [1, 1, 1, 1, 0, 1] (bodyOf Try.f31)), .code (ct [1, 1, 1, 1, 1] (bodyOf Try.f31))] (gabionref15_Fill_j5_I B0 x1 x2 x3 x11 x44) L := by
  unfold gabionref15_Fill_j5 at h
  rintro _ B _ ⟨hB, v13, b13, n13, c13, h13, rfl, rfl⟩
  obtain ⟨_, _, _, _, _, rfl⟩ := h13.isl
  rcases bsp x44 with k14 | k14
  · replace h := (if_pos k14).symm.trans h
    refine WX.condT rfl k14 ?_
    refine WX.seq ?_
    refine WX.reg ?_
    refine WO.q (.as (v := .sl _ _ _ _ _ _) rfl) rfl rfl ?_
    refine WO.q (.as (v := .int _ _) rfl) rfl rfl ?_
    refine WO.nil ?_
    obtain rfl := Option.some.inj h
    exact WX.ret (rs_ (rs_tmp rfl (rs_tmp rfl rs_nil))) fun st hp => ⟨_, _, hB, ((hp.pk [] (by decide)).skip 0), _, 0, true, [], rfl, rfl, OSl.none _ _⟩
  · replace h := (if_neg (bnt k14)).symm.trans h
    refine WX.condF rfl k14 ?_
    refine WX.skip ?_
    refine WX.seq ?_
    refine WX.reg ?_
    refine WO.q (.as (v := .sl _ _ _ _ _ _) rfl) rfl rfl ?_
    refine WO.nil ?_
    refine WX.seq ?_
    refine WX.reg ?_
    refine WO.q (.mv (v := .sl _ _ _ _ _ _) rfl) rfl rfl ?_
    refine WO.q (.mv (v := .sl _ _ _ _ _ _) rfl) rfl rfl ?_
    refine WO.addn ?_
    obtain ⟨y16, hy16, h⟩ := Option.bind_eq_some_iff.1 h
    refine WO.md (MOp.app rfl rfl rfl sl22 (OSl.none (Ty.int .i64) _) (Src.o (i := 1) sl22 h13 rfl) hy16 rfl rfl (fun _ => .h)) rfl rfl ?_
    rintro v20 _ ⟨b17, n18, o19, rfl⟩
    obtain ⟨_, _, _, _, _, rfl⟩ := o19.isl
    refine WO.q (.as (v := .sl _ _ _ _ _ _) rfl) rfl rfl ?_
    refine WO.nil ?_
    refine WX.seq ?_
    refine WX.seq ?_
    refine WX.reg ?_
    refine WO.q (.as (v := .int _ _) rfl) rfl rfl ?_
    refine WO.nil ?_
    refine WX.block ?_
    refine WX.loop ?_
    obtain ⟨e30, he30, h⟩ := Option.bind_eq_some_iff.1 h
    refine WX.keep [1, 2, 3, 11, 12, 13] (WX.pk [1, 0] (by decide) ?_) rfl
    refine gabionref15_Fill_l0_ok he30 ?_ ?_ _ _ _ ⟨hB, _, _, n13, _, _, _, n18, _, h13, o19, rfl, rfl⟩
    · intro r32 he_
      subst he_
      replace h := (on_l h)
      obtain rfl := Option.some.inj h
      exact fun v st hp => hp
    · intro x33 he_
      subst he_
      replace h := (on_r h)
      rintro _ B _ ⟨hB, v34, b34, n34, c34, h34, rfl, rfl⟩
      obtain ⟨_, _, _, _, _, rfl⟩ := h34.isl
      refine WX.seq ?_
      refine WX.reg ?_
      refine WO.q (.mv (v := .sl _ _ _ _ _ _) rfl) rfl rfl ?_
      refine WO.fz (j := 0) h34 rfl ?_
      intro B hK g35
      replace hB := hB.trans hK
      obtain ⟨y36, hy36, h⟩ := Option.bind_eq_some_iff.1 h
      refine WO.c1 rfl rfl (gabionref15_Runs_ok g35 hy36) rfl rfl rfl ?_
      rintro _ B _ hK ⟨v37, b38, n39, c40, rfl, rfl, h41⟩
      obtain ⟨_, _, _, _, _, rfl⟩ := h41.isl
      replace g35 := g35.up hK
      replace hB := hB.trans hK
      refine WO.q (.as (v := .sl _ _ _ _ _ _) rfl) rfl rfl ?_
      refine WO.nil ?_
      refine WX.seq ?_
      refine WX.reg ?_
      refine WO.q (.mv (v := .sl _ _ _ _ _ _) rfl) rfl rfl ?_
      obtain ⟨y42, hy42, h⟩ := Option.bind_eq_some_iff.1 h
      refine WO.cS rfl rfl (lendC (j := 0) h41 rfl fun _ K44 g43 => gabionref15_Right_ok g43 hy42) rfl rfl rfl ?_
      rintro _ rfl
      refine WO.q (.as (v := .bool _) rfl) rfl rfl ?_
      refine WO.nil ?_
      refine WX.seq ?_
      refine WX.seq ?_
      refine WX.reg ?_
      refine WO.q (.mv (v := .bool _) rfl) rfl rfl ?_
      refine WO.q (.r fun _ => rfl) rfl rfl ?_
      refine WO.nil ?_
      rcases bsp y42 with k45 | k45
      · replace h := (if_pos k45).symm.trans h
        refine WX.condF rfl (f_not k45) ?_
        refine WX.skip ?_
        refine WX.seq ?_
        refine WX.reg ?_
        refine WO.q (.mv (v := .sl _ _ _ _ _ _) rfl) rfl rfl ?_
        refine WO.q (.as (v := .sl _ _ _ _ _ _) rfl) rfl rfl ?_
        refine WO.q (.as (v := .int _ _) rfl) rfl rfl ?_
        refine WO.nil ?_
        obtain rfl := Option.some.inj h
        exact WX.ret (rs_ (rs_tmp rfl (rs_tmp rfl rs_nil))) fun st hp => ⟨_, _, hB, (hp.pk [0] (by decide)), _, _, n39, _, rfl, rfl, h41⟩
      · replace h := (if_neg (bnt k45)).symm.trans h
        refine WX.condT rfl (t_not k45) ?_
        refine WX.seq ?_
        refine WX.reg ?_
        refine WO.q (.as (v := .sl _ _ _ _ _ _) rfl) rfl rfl ?_
        refine WO.q (.as (v := .int _ _) rfl) rfl rfl ?_
        refine WO.nil ?_
        obtain rfl := Option.some.inj h
        exact WX.ret (rs_ (rs_tmp rfl (rs_tmp rfl rs_nil))) fun st hp => ⟨_, _, hB, ((hp.pk [] (by decide)).skip 0), _, 0, true, [], rfl, rfl, OSl.none _ _⟩
theorem gabionref15_Fill_j2_ok {B0 : Kn} {L : Own} {n0 : Nat} {x0 : List (Int × Int)} {x1 : Int} {x2 : Int} {x3 : Int} {x30 : Bool} {r : (List (Int × Int)) × Int} (h : gabionref15_Fill_j2 x0 x1 x2 x3 x30 = some r) : WXI Try.prog 75 n0 (Fin Try.prog Try.f31.results.toList n0 (gabionref15_Fill_P B0 L r)) [.code (ct [1, 1, 0, 1] (bodyOf Try.f31)), .code (ct [1, 1, 1] (bodyOf Try.f31))] (gabionref15_Fill_j2_I B0 x0 x1 x2 x3 x30) L := by
  unfold gabionref15_Fill_j2 at h
  rintro _ B _ ⟨hB, v4, h4, rfl, rfl⟩
  obtain ⟨_, _, _, _, _, rfl⟩ := h4.isl
  rcases bsp x30 with k5 | k5
  · replace h := (if_pos k5).symm.trans h
    refine WX.condT rfl k5 ?_
    refine WX.seq ?_
    refine WX.reg ?_
    refine WO.q (.as (v := .sl _ _ _ _ _ _) rfl) rfl rfl ?_
    refine WO.q (.as (v := .int _ _) rfl) rfl rfl ?_
    refine WO.nil ?_
    obtain rfl := Option.some.inj h
    exact WX.ret (rs_ (rs_tmp rfl (rs_tmp rfl rs_nil))) fun st hp => ⟨_, _, hB, ((hp.pk [] (by decide)).skip 0), _, 0, true, [], rfl, rfl, OSl.none _ _⟩
  · replace h := (if_neg (bnt k5)).symm.trans h
    refine WX.condF rfl k5 ?_
    refine WX.skip ?_
    refine WX.seq ?_
    refine WX.reg ?_
    refine WO.q (.mv (v := .sl _ _ _ _ _ _) rfl) rfl rfl ?_
    obtain ⟨y6, hy6, h⟩ := Option.bind_eq_some_iff.1 h
    refine WO.c1 rfl rfl (gabionref15_Blocks_ok h4 hy6) rfl rfl rfl ?_
    rintro _ B _ hK ⟨v7, b8, n9, c10, rfl, rfl, h11⟩
    obtain ⟨_, _, _, _, _, rfl⟩ := h11.isl
    replace h4 := h4.up hK
    replace hB := hB.trans hK
    refine WO.q (.as (v := .sl _ _ _ _ _ _) rfl) rfl rfl ?_
    refine WO.nil ?_
    refine WX.seq ?_
    refine WX.seq ?_
    refine WX.reg ?_
    refine WO.q (.mv (v := .int _ _) rfl) rfl rfl ?_
    refine WO.q (.mv (v := .sl _ _ _ _ _ _) rfl) rfl rfl ?_
    refine WO.q (.len rfl rfl rfl (sl22.len h11.isl)) rfl rfl ?_
    refine WO.q (.r fun _ => rfl) rfl rfl ?_
    refine WO.q (.mv (v := .bool _) rfl) rfl rfl ?_
    rcases bsp (decide ((y6.length : Int) < x3)) with k12 | k12
    · have q_k12 := of_decide_eq_true k12
      replace h := (if_pos q_k12).symm.trans h
      refine WO.sd (wg rfl rfl (gfn k12)) rfl ?_
      refine WO.sd (wg rfl rfl (gfn k12)) rfl ?_
      refine WO.sd (wg rfl rfl (gfn k12)) rfl ?_
      refine WO.sd (wg rfl rfl (gfn k12)) rfl ?_
      refine WO.sd (wg rfl rfl (gfn k12)) rfl ?_
      refine WO.sd (wg rfl rfl (gfn k12)) rfl ?_
      refine WO.q (.ptv (v := .bool _) rfl k12 rfl) rfl rfl ?_
      refine WO.nil ?_
      refine WX.keep [1, 2, 3, 11, 44] (WX.pk [0] (by decide) ?_) rfl
      exact gabionref15_Fill_j5_ok h _ _ _ ⟨hB, _, _, n9, _, h11, rfl, rfl⟩
    · have q_k12 := of_decide_eq_false k12
      replace h := (if_neg q_k12).symm.trans h
      refine WO.q (.mv (v := .int _ _) rfl) (wg rfl rfl (gf k12)) rfl ?_
      refine WO.q (.mv (v := .sl _ _ _ _ _ _) rfl) (wg rfl rfl (gf k12)) rfl ?_
      refine WO.q (.len rfl rfl rfl (sl22.len h11.isl)) (wg rfl rfl (gf k12)) rfl ?_
      refine WO.q (.mv (v := .int _ _) rfl) (wg rfl rfl (gf k12)) rfl ?_
      refine WO.q (.r fun _ => rfl) (wg rfl rfl (gf k12)) rfl ?_
      refine WO.q (.r fun _ => rfl) (wg rfl rfl (gf k12)) rfl ?_
      refine WO.q (.pfv (v := .bool _) rfl k12 rfl) rfl rfl ?_
      refine WO.nil ?_
      refine WX.keep [1, 2, 3, 11, 44] (WX.pk [0] (by decide) ?_) rfl
      exact gabionref15_Fill_j5_ok h _ _ _ ⟨hB, _, _, n9, _, h11, rfl, rfl⟩
theorem gabionref15_Fill_ok {B0 : Kn} {L : Own} {a0 : List (Int × Int)} {a1 : Int} {a2 : Int} {a3 : Int} {v0_0 : AV} {r : (List (Int × Int)) × Int} (g0_0 : RSl EPIi64Ii64Q B0 v0_0 a0) (h : gabionref15_Fill a0 a1 a2 a3 = some r) : ∀ st, Hp B0 L st → ASpec Try.prog 31 [v0_0, .int .i64 a1, .int .i64 a2, .int .i64 a3] st (gabionref15_Fill_P B0 L r) := by
  unfold gabionref15_Fill at h
  refine bodyA (A := []) Try.func31 rfl (c := bodyOf Try.f31) rfl Try.ntmps31 (lb rfl) fun n0 => ?_
  have hB := KLe.refl B0
  obtain ⟨_, _, _, _, _, rfl⟩ := g0_0.isl
  refine WX.seq ?_
  refine WX.reg ?_
  refine WO.q (.as (v := .sl _ _ _ _ _ _) rfl) rfl rfl ?_
  refine WO.q (.as (v := .int _ _) rfl) rfl rfl ?_
  refine WO.nil ?_
  refine WX.seq ?_
  refine WX.reg ?_
  refine WO.q (.mv (v := .sl _ _ _ _ _ _) rfl) rfl rfl ?_
  obtain ⟨y1, hy1, h⟩ := Option.bind_eq_some_iff.1 h
  refine WO.cS rfl rfl (gabionref15_Right_ok g0_0 hy1) rfl rfl rfl ?_
  rintro _ rfl
  refine WO.q (.as (v := .bool _) rfl) rfl rfl ?_
  refine WO.nil ?_
  refine WX.seq ?_
  refine WX.seq ?_
  refine WX.reg ?_
  refine WO.q (.mv (v := .bool _) rfl) rfl rfl ?_
  refine WO.q (.r fun _ => rfl) rfl rfl ?_
  refine WO.q (.mv (v := .bool _) rfl) rfl rfl ?_
  rcases bsp y1 with k2 | k2
  · replace h := (if_pos k2).symm.trans h
    refine WO.q (.mv (v := .int _ _) rfl) (wg rfl rfl (gf (f_not k2))) rfl ?_
    refine WO.q (.r fun _ => rfl) (wg rfl rfl (gf (f_not k2))) rfl ?_
    refine WO.q (.pfv (v := .bool _) rfl (f_not k2) rfl) rfl rfl ?_
    refine WO.q (.mv (v := .bool _) rfl) rfl rfl ?_
    rcases bsp (decide (a2 < 0)) with k3 | k3
    · have q_k3 := of_decide_eq_true k3
      replace h := (if_pos q_k3).symm.trans h
      refine WO.sd (wg rfl rfl (gfn k3)) rfl ?_
      refine WO.sd (wg rfl rfl (gfn k3)) rfl ?_
      refine WO.q (.ptv (v := .bool _) rfl k3 rfl) rfl rfl ?_
      refine WO.q (.mv (v := .bool _) rfl) rfl rfl ?_
      refine WO.sd (wg rfl rfl (gfn rfl)) rfl ?_
      refine WO.sd (wg rfl rfl (gfn rfl)) rfl ?_
      refine WO.q (.ptv (v := .bool _) rfl rfl rfl) rfl rfl ?_
      refine WO.nil ?_
      refine WX.keep [0, 1, 2, 3, 30] (WX.pk [] (by decide) ?_) rfl
      exact gabionref15_Fill_j2_ok h _ _ _ ⟨hB, _, g0_0, rfl, rfl⟩
    · have q_k3 := of_decide_eq_false k3
      replace h := (if_neg q_k3).symm.trans h
      refine WO.q (.mv (v := .int _ _) rfl) (wg rfl rfl (gf k3)) rfl ?_
      refine WO.q (.r fun _ => rfl) (wg rfl rfl (gf k3)) rfl ?_
      refine WO.q (.pfv (v := .bool _) rfl k3 rfl) rfl rfl ?_
      refine WO.q (.mv (v := .bool _) rfl) rfl rfl ?_
      rcases bsp (decide (a3 < 1)) with k46 | k46
      · have q_k46 := of_decide_eq_true k46
        replace h := (if_pos q_k46).symm.trans h
        refine WO.sd (wg rfl rfl (gfn k46)) rfl ?_
        refine WO.sd (wg rfl rfl (gfn k46)) rfl ?_
        refine WO.q (.ptv (v := .bool _) rfl k46 rfl) rfl rfl ?_
        refine WO.nil ?_
        refine WX.keep [0, 1, 2, 3, 30] (WX.pk [] (by decide) ?_) rfl
        exact gabionref15_Fill_j2_ok h _ _ _ ⟨hB, _, g0_0, rfl, rfl⟩
      · have q_k46 := of_decide_eq_false k46
        replace h := (if_neg q_k46).symm.trans h
        refine WO.q (.mv (v := .int _ _) rfl) (wg rfl rfl (gf k46)) rfl ?_
        refine WO.q (.r fun _ => rfl) (wg rfl rfl (gf k46)) rfl ?_
        refine WO.q (.pfv (v := .bool _) rfl k46 rfl) rfl rfl ?_
        refine WO.nil ?_
        refine WX.keep [0, 1, 2, 3, 30] (WX.pk [] (by decide) ?_) rfl
        exact gabionref15_Fill_j2_ok h _ _ _ ⟨hB, _, g0_0, rfl, rfl⟩
  · replace h := (if_neg (bnt k2)).symm.trans h
    refine WO.sd (wg rfl rfl (gfn (t_not k2))) rfl ?_
    refine WO.sd (wg rfl rfl (gfn (t_not k2))) rfl ?_
    refine WO.q (.ptv (v := .bool _) rfl (t_not k2) rfl) rfl rfl ?_
    refine WO.q (.mv (v := .bool _) rfl) rfl rfl ?_
    refine WO.sd (wg rfl rfl (gfn rfl)) rfl ?_
    refine WO.sd (wg rfl rfl (gfn rfl)) rfl ?_
    refine WO.q (.ptv (v := .bool _) rfl rfl rfl) rfl rfl ?_
    refine WO.q (.mv (v := .bool _) rfl) rfl rfl ?_
    refine WO.sd (wg rfl rfl (gfn rfl)) rfl ?_
    refine WO.sd (wg rfl rfl (gfn rfl)) rfl ?_
    refine WO.q (.ptv (v := .bool _) rfl rfl rfl) rfl rfl ?_
    refine WO.nil ?_
    refine WX.keep [0, 1, 2, 3, 30] (WX.pk [] (by decide) ?_) rfl
    exact gabionref15_Fill_j2_ok h _ _ _ ⟨hB, _, g0_0, rfl, rfl⟩
def slices_IndexFunc_ext_List_alloc_Extent_P (B : Kn) (L : Own) (r : Int) : AV → St → Prop := CS B L fun v => v = .int .i64 r
def slices_IndexFunc_ext_List_alloc_Extent_l0_I (B0 : Kn) (fg1 : Nat) (fc1 : List AV) (x0 : List (Int × Int)) (x8 : Int) : Fr → Kn → Own → Prop := fun fr B A => KLe B0 B ∧ ∃ v1, RSl EPIi64Ii64Q B v1 x0 ∧ fr = [(0, v1), (1, .fn (.func fg1) [] fc1), (7, .int .i64 (x0.length : Int)), (8, .int .i64 x8)] ∧ A = []
def slices_IndexFunc_ext_List_alloc_Extent_l0_X0 (B0 : Kn) (fg1 : Nat) (fc1 : List AV) : Fr → Kn → Own → Prop := fun fr B A => KLe B0 B ∧ fr = [] ∧ A = []
theorem slices_IndexFunc_ext_List_alloc_Extent_l0_s {B0 : Kn} {L : Own} {n0 : Nat} {fg1 : Nat} {fc1 : List AV} {a1 : (Int × Int) → Option Bool} {x0 : List (Int × Int)} {x8 : Int} {Q : AV → St → Prop} {E : Int ⊕ (Int ⊕ Unit) → Prop} {o : Int ⊕ (Int ⊕ Unit)} (h : slices_IndexFunc_ext_List_alloc_Extent_l0 a1 x0 x8 = some o) (hf1 : ∀ (x0 : Int × Int) (r : Bool), a1 x0 = some r → ∀ B, KLe B0 B → ∀ Lx st, Hp B (Lx ++ L) st → ASpec Try.prog fg1 ([.agg [.int .i64 x0.1, .int .i64 x0.2]] ++ fc1) st (CS B (Lx ++ L) fun v => v = .bool r)) (hn : ∀ s, E (.inl s) → WXI Try.prog 19 n0 (Fin Try.prog Try.f88.results.toList n0 Q) [.lp (ct [1, 0, 1, 0, 0] (bodyOf Try.f88)), .blk 0, .code (ct [1, 1] (bodyOf Try.f88))] (slices_IndexFunc_ext_List_alloc_Extent_l0_I B0 fg1 fc1 x0 s) L) (hx0 : ∀ s, E (.inr (.inr s)) → WXI Try.prog 19 n0 (Fin Try.prog Try.f88.results.toList n0 Q) [.code (ct [1, 1] (bodyOf Try.f88))] (slices_IndexFunc_ext_List_alloc_Extent_l0_X0 B0 fg1 fc1) L) (hr : ∀ r, E (.inr (.inl r)) → ∀ v st, slices_IndexFunc_ext_List_alloc_Extent_P B0 L r v st → Q v st) (hE : E o) : WXI Try.prog 19 n0 (Fin Try.prog Try.f88.results.toList n0 Q) [.code (ct [1, 0, 1, 0, 0] (bodyOf Try.f88)), .lp (ct [1, 0, 1, 0, 0] (bodyOf Try.f88)), .blk 0, .code (ct [1, 1] (bodyOf Try.f88))] (slices_IndexFunc_ext_List_alloc_Extent_l0_I B0 fg1 fc1 x0 x8) L := by
  unfold slices_IndexFunc_ext_List_alloc_Extent_l0 at h
  rintro _ B _ ⟨hB, v1, h1, rfl, rfl⟩
  obtain ⟨_, _, _, _, _, rfl⟩ := h1.isl
  refine WX.seq ?_
  refine WX.reg ?_
  refine WO.q (.r fun _ => rfl) rfl rfl ?_
  refine WO.nil ?_
  refine WX.seq ?_
  rcases bsp (decide (x8 < (x0.length : Int))) with k2 | k2
  · have q_k2 := of_decide_eq_true k2
    replace h := (if_pos q_k2).symm.trans h
    refine WX.condT rfl k2 ?_
    refine WX.skip ?_
    refine WX.seq ?_
    refine WX.block ?_
    refine WX.seq ?_
    refine WX.reg ?_
    refine WO.q (.mv (v := .int _ _) rfl) rfl rfl ?_
    refine WO.q (.as (v := .int _ _) rfl) rfl rfl ?_
    refine WO.nil ?_
    refine WX.seq ?_
    refine WX.reg ?_
    refine WO.q (.mv (v := .fn _ _ _) rfl) rfl rfl ?_
    refine WO.q (.mv (v := .sl _ _ _ _ _ _) rfl) rfl rfl ?_
    refine WO.q (.mv (v := .int _ _) rfl) rfl rfl ?_
    obtain ⟨y3, hy3, h⟩ := Option.bind_eq_some_iff.1 h
    obtain ⟨b_y3, o_y3, _, i_y3, p_y3, r_y3⟩ := h1.at sl44 hy3 .i64
    obtain ⟨_, _, rfl, rfl, rfl⟩ := r_y3
    refine WO.q (.ia i_y3) rfl rfl ?_
    refine WO.q (.lpA rfl p_y3 ti35 rfl rfl) rfl rfl ?_
    obtain ⟨y4, hy4, h⟩ := Option.bind_eq_some_iff.1 h
    refine WO.cS rfl rfl (hf1 _ _  hy4 _ hB _) rfl rfl rfl ?_
    rintro _ rfl
    refine WO.nil ?_
    rcases bsp y4 with k5 | k5
    · replace h := (if_pos k5).symm.trans h
      refine WX.condT rfl k5 ?_
      refine WX.seq ?_
      refine WX.reg ?_
      refine WO.q (.mv (v := .int _ _) rfl) rfl rfl ?_
      refine WO.q (.as (v := .int _ _) rfl) rfl rfl ?_
      refine WO.nil ?_
      obtain rfl := Option.some.inj h
      exact WX.ret (rs_ (rs_tmp rfl rs_nil)) fun st hp => hr _ hE _ _ ⟨(hp.pk [] (by decide)).le hB, rfl⟩
    · replace h := (if_neg (bnt k5)).symm.trans h
      refine WX.condF rfl k5 ?_
      refine WX.skip ?_
      refine WX.pop ?_
      refine WX.reg ?_
      refine WO.q (.r fun _ => rfl) rfl rfl ?_
      refine WO.q (.mv (v := .int _ _) rfl) rfl rfl ?_
      refine WO.nil ?_
      refine WX.keepL [0, 1, 7, 8] (WX.pk [] (by decide) ?_) rfl
      obtain rfl := Option.some.inj h
      exact hn _ hE _ _ _ ⟨hB, _, h1, rfl, rfl⟩
  · have q_k2 := of_decide_eq_false k2
    replace h := (if_neg q_k2).symm.trans h
    refine WX.condF rfl k2 ?_
    refine WX.exit rfl ?_
    refine WX.keep [] (WX.pk [] (by decide) ?_) rfl
    obtain rfl := Option.some.inj h
    exact hx0 _ hE _ _ _ ⟨hB, rfl, rfl⟩
theorem slices_IndexFunc_ext_List_alloc_Extent_l0_ok {B0 : Kn} {L : Own} {n0 : Nat} {fg1 : Nat} {fc1 : List AV} {a1 : (Int × Int) → Option Bool} {x0 : List (Int × Int)} {x8 : Int} {Q : AV → St → Prop} {d : Nat} {e : Int ⊕ Unit} (h : iter (fun (s : Int) => slices_IndexFunc_ext_List_alloc_Extent_l0 a1 x0 s) d x8 = some e) (hf1 : ∀ (x0 : Int × Int) (r : Bool), a1 x0 = some r → ∀ B, KLe B0 B → ∀ Lx st, Hp B (Lx ++ L) st → ASpec Try.prog fg1 ([.agg [.int .i64 x0.1, .int .i64 x0.2]] ++ fc1) st (CS B (Lx ++ L) fun v => v = .bool r)) (g0 : ∀ r, e = (.inl r) → ∀ v st, slices_IndexFunc_ext_List_alloc_Extent_P B0 L r v st → Q v st) (g1 : ∀ s, e = (.inr s) → WXI Try.prog 19 n0 (Fin Try.prog Try.f88.results.toList n0 Q) [.code (ct [1, 1] (bodyOf Try.f88))] (slices_IndexFunc_ext_List_alloc_Extent_l0_X0 B0 fg1 fc1) L) : WXI Try.prog 19 n0 (Fin Try.prog Try.f88.results.toList n0 Q) [.code (ct [1, 0, 1, 0, 0] (bodyOf Try.f88)), .lp (ct [1, 0, 1, 0, 0] (bodyOf Try.f88)), .blk 0, .code (ct [1, 1] (bodyOf Try.f88))] (slices_IndexFunc_ext_List_alloc_Extent_l0_I B0 fg1 fc1 x0 x8) L :=
  iter_ok (I := fun s => slices_IndexFunc_ext_List_alloc_Extent_l0_I B0 fg1 fc1 x0 s) (D := fun e => (∀ r, e = (.inl r) → ∀ v st, slices_IndexFunc_ext_List_alloc_Extent_P B0 L r v st → Q v st) ∧ (∀ s, e = (.inr s) → WXI Try.prog 19 n0 (Fin Try.prog Try.f88.results.toList n0 Q) [.code (ct [1, 1] (bodyOf Try.f88))] (slices_IndexFunc_ext_List_alloc_Extent_l0_X0 B0 fg1 fc1) L)) (fun E hn hx s o ho hE => slices_IndexFunc_ext_List_alloc_Extent_l0_s ho hf1 hn (fun s hs => (hx _ hs).2 _ rfl) (fun r hs => (hx _ hs).1 _ rfl) hE) h ⟨g0, g1⟩
theorem slices_IndexFunc_ext_List_alloc_Extent_ok {B0 : Kn} {L : Own} {fg1 : Nat} {fc1 : List AV} {a1 : (Int × Int) → Option Bool} {a0 : List (Int × Int)} {v0_0 : AV} {r : Int} (hf1 : ∀ (x0 : Int × Int) (r : Bool), a1 x0 = some r → ∀ B, KLe B0 B → ∀ Lx st, Hp B (Lx ++ L) st → ASpec Try.prog fg1 ([.agg [.int .i64 x0.1, .int .i64 x0.2]] ++ fc1) st (CS B (Lx ++ L) fun v => v = .bool r)) (g0_0 : RSl EPIi64Ii64Q B0 v0_0 a0) (h : slices_IndexFunc_ext_List_alloc_Extent a0 a1 = some r) : ∀ st, Hp B0 L st → ASpec Try.prog 88 [v0_0, .fn (.func fg1) [] fc1] st (slices_IndexFunc_ext_List_alloc_Extent_P B0 L r) := by
  unfold slices_IndexFunc_ext_List_alloc_Extent at h
  refine bodyA (A := []) Try.func88 rfl (c := bodyOf Try.f88) rfl Try.ntmps88 (lb rfl) fun n0 => ?_
  have hB := KLe.refl B0
  obtain ⟨_, _, _, _, _, rfl⟩ := g0_0.isl
  refine WX.seq ?_
  refine WX.reg ?_
  refine WO.q (.as (v := .int _ _) rfl) rfl rfl ?_
  refine WO.nil ?_
  refine WX.seq ?_
  refine WX.seq ?_
  refine WX.reg ?_
  refine WO.q (.mv (v := .sl _ _ _ _ _ _) rfl) rfl rfl ?_
  refine WO.q (.len rfl rfl rfl (sl44.len g0_0.isl)) rfl rfl ?_
  refine WO.q (.mv (v := .int _ _) rfl) rfl rfl ?_
  refine WO.nil ?_
  refine WX.block ?_
  refine WX.loop ?_
  obtain ⟨e6, he6, h⟩ := Option.bind_eq_some_iff.1 h
  refine WX.keep [0, 1, 7, 8] (WX.pk [] (by decide) ?_) rfl
  refine slices_IndexFunc_ext_List_alloc_Extent_l0_ok he6 hf1 ?_ ?_ _ _ _ ⟨hB, _, g0_0, rfl, rfl⟩
  · intro r8 he_
    subst he_
    replace h := (on_l h)
    obtain rfl := Option.some.inj h
    exact fun v st hp => hp
  · intro x9 he_
    subst he_
    replace h := (on_r h)
    rintro _ B _ ⟨hB, rfl, rfl⟩
    refine WX.seq ?_
    refine WX.reg ?_
    refine WO.q (.as (v := .int _ _) rfl) rfl rfl ?_
    refine WO.nil ?_
    obtain rfl := Option.some.inj h
    exact WX.ret (rs_ (rs_tmp rfl rs_nil)) fun st hp => ⟨(hp.pk [] (by decide)).le hB, rfl⟩
def ext_List_Cut_1_P (B : Kn) (L : Own) (r : Bool) : AV → St → Prop := CS B L fun v => v = .bool r
theorem ext_List_Cut_1_ok {B0 : Kn} {L : Own} {a0 : Int × Int} {r : Bool} (h : ext_List_Cut_1 a0 = some r) : ∀ st, Hp B0 L st → ASpec Try.prog 73 [.agg [.int .i64 a0.1, .int .i64 a0.2]] st (ext_List_Cut_1_P B0 L r) := by
  unfold ext_List_Cut_1 at h
  refine bodyA (A := []) Try.func73 rfl (c := bodyOf Try.f73) rfl Try.ntmps73 (lb rfl) fun n0 => ?_
  have hB := KLe.refl B0
  refine WX.seq ?_
  refine WX.reg ?_
  refine WO.md (MOp.box (cA rfl)) rfl rfl ?_
  rintro _ _ ⟨b1, rfl, rfl⟩
  refine WO.q (.as (v := .bool _) rfl) rfl rfl ?_
  refine WO.nil ?_
  refine WX.seq ?_
  refine WX.reg ?_
  refine WO.q (.fa (fa35_0 _ _)) rfl rfl ?_
  refine WO.q (.ldS (i := 0) rfl rfl rfl ti3 rfl) rfl rfl ?_
  refine WO.q (.r fun _ => rfl) rfl rfl ?_
  refine WO.q (.as (v := .bool _) rfl) rfl rfl ?_
  refine WO.nil ?_
  obtain rfl := Option.some.inj h
  exact WX.ret (rs_ (rs_tmp rfl rs_nil)) fun st hp => ⟨(hp.pk [] (by decide)).le hB, rfl⟩
end Gab
