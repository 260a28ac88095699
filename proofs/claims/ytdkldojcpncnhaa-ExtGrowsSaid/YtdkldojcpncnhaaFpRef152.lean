/- The Go code comes to what the Lean functions say. Written by a program (gp.py). -/
import Derived.Test.YtdkldojcpncnhaaFd
import Derived.Test.YtdkldojcpncnhaaTy
import Derived.Test.YtdkldojcpncnhaaFpRef150
import Derived.Test.YtdkldojcpncnhaaFpRef151
set_option linter.unusedSimpArgs false
set_option linter.unusedVariables false
set_option maxHeartbeats 4000000
set_option maxRecDepth 100000
namespace Gab
open Go Go.Proofs
def gabionref15_Fill_P (B : Kn) (L : Own) (r : (List (Int × Int)) × Int) : AV → St → Prop := C1 B L fun B' v e0 => ∃ w0 b0 n0 c0, v = .tup [w0, .int .i64 r.2] ∧ e0 = oe b0 n0 c0 ∧ OSl EPIi64Ii64Q B' w0 b0 n0 c0 r.1
def gabionref15_Fill_l0_I (B0 : Kn) (x1 : Int) (x2 : Int) (x3 : Int) (x11 : List Int) (x12 : List Int) (x13 : Int) : Fr → Kn → Own → Prop := fun fr B A => KLe B0 B ∧ ∃ v21 b21 n21 c21 v22 b22 n22 c22, OSl (Ty.int .i64) B v21 b21 n21 c21 x11 ∧ OSl (Ty.int .i64) B v22 b22 n22 c22 x12 ∧ fr = [(1, .int .i64 x1), (2, .int .i64 x2), (3, .int .i64 x3), (11, v21), (12, v22), (13, .int .i64 x13)] ∧ A = [oe b21 n21 c21, oe b22 n22 c22]
def gabionref15_Fill_l0_X0 (B0 : Kn) (x12 : List Int) : Fr → Kn → Own → Prop := fun fr B A => KLe B0 B ∧ ∃ v47 b47 n47 c47, OSl (Ty.int .i64) B v47 b47 n47 c47 x12 ∧ fr = [(12, v47)] ∧ A = [oe b47 n47 c47]
def gabionref15_Fill_j5_I (B0 : Kn) (x1 : Int) (x2 : Int) (x3 : Int) (x11 : List Int) (x44 : Bool) : Fr → Kn → Own → Prop := fun fr B A => KLe B0 B ∧ ∃ v13 b13 n13 c13, OSl (Ty.int .i64) B v13 b13 n13 c13 x11 ∧ fr = [(1, .int .i64 x1), (2, .int .i64 x2), (3, .int .i64 x3), (11, v13), (44, .bool x44)] ∧ A = [oe b13 n13 c13]
def gabionref15_Fill_j2_I (B0 : Kn) (x0 : List (Int × Int)) (x1 : Int) (x2 : Int) (x3 : Int) (x30 : Bool) : Fr → Kn → Own → Prop := fun fr B A => KLe B0 B ∧ ∃ v4, RSl EPIi64Ii64Q B v4 x0 ∧ fr = [(0, v4), (1, .int .i64 x1), (2, .int .i64 x2), (3, .int .i64 x3), (30, .bool x30)] ∧ A = []
theorem gabionref15_Fill_l0_s {B0 : Kn} {L : Own} {n0 : Nat} {x1 : Int} {x2 : Int} {x3 : Int} {x11 : List Int} {x12 : List Int} {x13 : Int} {Q : AV → St → Prop} {E : ((List Int) × Int) ⊕ (((List (Int × Int)) × Int) ⊕ (List Int)) → Prop} {o : ((List Int) × Int) ⊕ (((List (Int × Int)) × Int) ⊕ (List Int))} (h : gabionref15_Fill_l0 x1 x2 x3 x11 x12 x13 = some o) (hn : ∀ s, E (.inl s) → WXI Try.prog 75 n0 (Fin Try.prog Try.f31.results.toList n0 Q) [.lp (ct [1, 1, 1, 1, 1, 1, 1, 0, 1, 0, 0] (bodyOf Try.f31)), .blk 0, .code (ct [1, 1, 1, 1, 1, 1, 1, 1] (bodyOf Try.f31))] (gabionref15_Fill_l0_I B0 x1 x2 x3 x11 s.1 s.2) L) (hx0 : ∀ s, E (.inr (.inr s)) → WXI Try.prog 75 n0 (Fin Try.prog Try.f31.results.toList n0 Q) [.code (ct [1, 1, 1, 1, 1, 1, 1, 1] (bodyOf Try.f31))] (gabionref15_Fill_l0_X0 B0 s) L) (hr : ∀ r, E (.inr (.inl r)) → ∀ v st, gabionref15_Fill_P B0 L r v st → Q v st) (hE : E o) : WXI Try.prog 75 n0 (Fin Try.prog Try.f31.results.toList n0 Q) [.code (ct [1, 1, 1, 1, 1, 1, 1, 0, 1, 0, 0] (bodyOf Try.f31)), .lp (ct [1, 1, 1, 1, 1, 1, 1, 0, 1, 0, 0] (bodyOf Try.f31)), .blk 0, .code (ct [1, 1, 1, 1, 1, 1, 1, 1] (bodyOf Try.f31))] (gabionref15_Fill_l0_I B0 x1 x2 x3 x11 x12 x13) L := by
  unfold gabionref15_Fill_l0 at h
  rintro _ B _ ⟨hB, v21, b21, n21, c21, v22, b22, n22, c22, h21, h22, rfl, rfl⟩
  obtain ⟨_, _, _, _, _, rfl⟩ := h21.isl
  obtain ⟨_, _, _, _, _, rfl⟩ := h22.isl
  refine WX.seq ?_
  refine WX.seq ?_
  refine WX.reg ?_
  refine WO.q (.mv (v := .int _ _) rfl) rfl rfl ?_
  refine WO.q (.mv (v := .int _ _) rfl) rfl rfl ?_
  refine WO.q (.r fun _ => rfl) rfl rfl ?_
  refine WO.nil ?_
  rcases bsp (decide (x13 < x3)) with k23 | k23
  · have q_k23 := of_decide_eq_true k23
    replace h := (if_pos q_k23).symm.trans h
    refine WX.condT rfl k23 ?_
    refine WX.skip ?_
    refine WX.seq ?_
    refine WX.block ?_
    refine WX.seq ?_
    refine WX.seq ?_
    refine WX.reg ?_
    refine WO.q (.mv (v := .sl _ _ _ _ _ _) rfl) rfl rfl ?_
    refine WO.q (.mv (v := .int _ _) rfl) rfl rfl ?_
    refine WO.q (.mv (v := .int _ _) rfl) rfl rfl ?_
    refine WO.q (.r fun _ => rfl) rfl rfl ?_
    obtain ⟨y24, hy24, h⟩ := Option.bind_eq_some_iff.1 h
    obtain rfl := h21.nonnil hy24
    obtain ⟨_, i_y24, l_y24, r_y24⟩ := h21.at sl22 hy24 .i64
    obtain rfl := r_y24
    refine WO.q (.ia i_y24) rfl rfl ?_
    refine WO.q (.ldS (i := 0) rfl rfl (l_y24.g0 rfl) ti3 rfl) rfl rfl ?_
    refine WO.q (.r fun _ => rfl) rfl rfl ?_
    refine WO.nil ?_
    rcases bsp (decide (y24 ≠ (-1))) with k25 | k25
    · have q_k25 := of_decide_eq_true k25
      replace h := (if_pos q_k25).symm.trans h
      refine WX.condT rfl k25 ?_
      refine WX.seq ?_
      refine WX.reg ?_
      refine WO.q (.as (v := .sl _ _ _ _ _ _) rfl) rfl rfl ?_
      refine WO.q (.as (v := .int _ _) rfl) rfl rfl ?_
      refine WO.nil ?_
      obtain rfl := Option.some.inj h
      exact WX.ret (rs_ (rs_tmp rfl (rs_tmp rfl rs_nil))) fun st hp => hr _ hE _ _ ⟨_, _, hB, ((hp.pk [] (by decide)).skip 0), _, 0, true, [], rfl, rfl, OSl.none _ _⟩
    · have q_k25 := of_decide_eq_false k25
      replace h := (if_neg q_k25).symm.trans h
      refine WX.condF rfl k25 ?_
      refine WX.skip ?_
      refine WX.reg ?_
      refine WO.q (.mv (v := .sl _ _ _ _ _ _) rfl) rfl rfl ?_
      refine WO.q (.mv (v := .int _ _) rfl) rfl rfl ?_
      refine WO.q (.mv (v := .int _ _) rfl) rfl rfl ?_
      refine WO.q (.r fun _ => rfl) rfl rfl ?_
      refine WO.q (.mv (v := .int _ _) rfl) rfl rfl ?_
      refine WO.q (.mv (v := .int _ _) rfl) rfl rfl ?_
      refine WO.q (.r fun _ => rfl) rfl rfl ?_
      obtain ⟨y26, hy26, h⟩ := Option.bind_eq_some_iff.1 h
      obtain rfl := h22.nonnil hy26
      obtain ⟨_, i_y26, l_y26, r_y26⟩ := h22.at sl22 hy26 .i64
      obtain rfl := r_y26
      refine WO.q (.ia i_y26) rfl rfl ?_
      refine WO.mn (MOp.ostW (x' := (wi64 (x2 + x13))) rfl (cI rfl) (fun _ => (.t .h)) ti3 rfl rfl h22 hy26 Ri) rfl ?_
      rintro _ _ ⟨c28, o27, rfl⟩
      refine WO.nil ?_
      refine WX.pop ?_
      refine WX.reg ?_
      refine WO.q (.mv (v := .int _ _) rfl) rfl rfl ?_
      refine WO.q (.r fun _ => rfl) rfl rfl ?_
      refine WO.q (.as (v := .int _ _) rfl) rfl rfl ?_
      refine WO.nil ?_
      refine WX.keepL [1, 2, 3, 11, 12, 13] (WX.pk [0, 1] (by decide) ?_) rfl
      obtain rfl := Option.some.inj h
      exact hn _ hE _ _ _ ⟨hB, _, _, false, _, _, _, false, _, h21, o27, rfl, rfl⟩
  · have q_k23 := of_decide_eq_false k23
    replace h := (if_neg q_k23).symm.trans h
    refine WX.condF rfl k23 ?_
    refine WX.exit rfl ?_
    refine WX.keep [12] (WX.pk [1] (by decide) ?_) rfl
    obtain rfl := Option.some.inj h
    exact hx0 _ hE _ _ _ ⟨hB, _, _, n22, _, h22, rfl, rfl⟩
theorem gabionref15_Fill_l0_ok {B0 : Kn} {L : Own} {n0 : Nat} {x1 : Int} {x2 : Int} {x3 : Int} {x11 : List Int} {x12 : List Int} {x13 : Int} {Q : AV → St → Prop} {d : Nat} {e : ((List (Int × Int)) × Int) ⊕ (List Int)} (h : iter (fun (s : (List Int) × Int) => gabionref15_Fill_l0 x1 x2 x3 x11 s.1 s.2) d (x12, x13) = some e) (g0 : ∀ r, e = (.inl r) → ∀ v st, gabionref15_Fill_P B0 L r v st → Q v st) (g1 : ∀ s, e = (.inr s) → WXI Try.prog 75 n0 (Fin Try.prog Try.f31.results.toList n0 Q) [.code (ct [1, 1, 1, 1, 1, 1, 1, 1] (bodyOf Try.f31))] (gabionref15_Fill_l0_X0 B0 s) L) : WXI Try.prog 75 n0 (Fin Try.prog Try.f31.results.toList n0 Q) [.code (ct [1, 1, 1, 1, 1, 1, 1, 0, 1, 0, 0] (bodyOf Try.f31)), .lp (ct [1, 1, 1, 1, 1, 1, 1, 0, 1, 0, 0] (bodyOf Try.f31)), .blk 0, .code (ct [1, 1, 1, 1, 1, 1, 1, 1] (bodyOf Try.f31))] (gabionref15_Fill_l0_I B0 x1 x2 x3 x11 x12 x13) L :=
  iter_ok (I := fun s => gabionref15_Fill_l0_I B0 x1 x2 x3 x11 s.1 s.2) (D := fun e => (∀ r, e = (.inl r) → ∀ v st, gabionref15_Fill_P B0 L r v st → Q v st) ∧ (∀ s, e = (.inr s) → WXI Try.prog 75 n0 (Fin Try.prog Try.f31.results.toList n0 Q) [.code (ct [1, 1, 1, 1, 1, 1, 1, 1] (bodyOf Try.f31))] (gabionref15_Fill_l0_X0 B0 s) L)) (fun E hn hx s o ho hE => gabionref15_Fill_l0_s ho hn (fun s hs => (hx _ hs).2 _ rfl) (fun r hs => (hx _ hs).1 _ rfl) hE) h ⟨g0, g1⟩
theorem gabionref15_Fill_j5_ok {B0 : Kn} {L : Own} {n0 : Nat} {x1 : Int} {x2 : Int} {x3 : Int} {x11 : List Int} {x44 : Bool} {r : (List (Int × Int)) × Int} (h : gabionref15_Fill_j5 x1 x2 x3 x11 x44 = some r) : WXI Try.prog 75 n0 (Fin Try.prog Try.f31.results.toList n0 (gabionref15_Fill_P B0 L r)) [.code (ct [1, 1, 1, 1, 0, 1] (bodyOf Try.f31)), .code (ct [1, 1, 1, 1, 1] (bodyOf Try.f31))] (gabionref15_Fill_j5_I B0 x1 x2 x3 x11 x44) L := by
  unfold gabionref15_Fill_j5 at h
  rintro _ B _ ⟨hB, v13, b13, n13, c13, h13, rfl, rfl⟩
  obtain ⟨_, _, _, _, _, rfl⟩ := h13.isl
  rcases bsp x44 with k14 | k14
  · replace h := (if_pos k14).symm.trans h
    refine WX.condT rfl k14 ?_
    refine WX.seq ?_
    refine WX.reg ?_
    refine WO.q (.as (v := .sl _ _ _ _ _ _) rfl) rfl rfl ?_
    refine WO.q (.as (v := .int _ _) rfl) rfl rfl ?_
    refine WO.nil ?_
    obtain rfl := Option.some.inj h
    exact WX.ret (rs_ (rs_tmp rfl (rs_tmp rfl rs_nil))) fun st hp => ⟨_, _, hB, ((hp.pk [] (by decide)).skip 0), _, 0, true, [], rfl, rfl, OSl.none _ _⟩
  · replace h := (if_neg (bnt k14)).symm.trans h
    refine WX.condF rfl k14 ?_
    refine WX.skip ?_
    refine WX.seq ?_
    refine WX.reg ?_
    refine WO.q (.as (v := .sl _ _ _ _ _ _) rfl) rfl rfl ?_
    refine WO.nil ?_
    refine WX.seq ?_
    refine WX.reg ?_
    refine WO.q (.mv (v := .sl _ _ _ _ _ _) rfl) rfl rfl ?_
    refine WO.q (.mv (v := .sl _ _ _ _ _ _) rfl) rfl rfl ?_
    refine WO.addn ?_
    obtain ⟨y16, hy16, h⟩ := Option.bind_eq_some_iff.1 h
    refine WO.md (MOp.app rfl rfl rfl sl22 (OSl.none (Ty.int .i64) _) (Src.o (i := 1) sl22 h13 rfl) hy16 rfl rfl (fun _ => .h)) rfl rfl ?_
    rintro v20 _ ⟨b17, n18, o19, rfl⟩
    obtain ⟨_, _, _, _, _, rfl⟩ := o19.isl
    refine WO.q (.as (v := .sl _ _ _ _ _ _) rfl) rfl rfl ?_
    refine WO.nil ?_
    refine WX.seq ?_
    refine WX.seq ?_
    refine WX.reg ?_
    refine WO.q (.as (v := .int _ _) rfl) rfl rfl ?_
    refine WO.nil ?_
    refine WX.block ?_
    refine WX.loop ?_
    obtain ⟨e30, he30, h⟩ := Option.bind_eq_some_iff.1 h
    refine WX.keep [1, 2, 3, 11, 12, 13] (WX.pk [1, 0] (by decide) ?_) rfl
    refine gabionref15_Fill_l0_ok he30 ?_ ?_ _ _ _ ⟨hB, _, _, n13, _, _, _, n18, _, h13, o19, rfl, rfl⟩
    · intro r32 he_
      subst he_
      replace h := (on_l h)
      obtain rfl := Option.some.inj h
      exact fun v st hp => hp
    · intro x33 he_
      subst he_
      replace h := (on_r h)
      rintro _ B _ ⟨hB, v34, b34, n34, c34, h34, rfl, rfl⟩
      obtain ⟨_, _, _, _, _, rfl⟩ := h34.isl
      refine WX.seq ?_
      refine WX.reg ?_
      refine WO.q (.mv (v := .sl _ _ _ _ _ _) rfl) rfl rfl ?_
      refine WO.fz (j := 0) h34 rfl ?_
      intro B hK g35
      replace hB := hB.trans hK
      obtain ⟨y36, hy36, h⟩ := Option.bind_eq_some_iff.1 h
      refine WO.c1 rfl rfl (gabionref15_Runs_ok g35 hy36) rfl rfl rfl ?_
      rintro _ B _ hK ⟨v37, b38, n39, c40, rfl, rfl, h41⟩
      obtain ⟨_, _, _, _, _, rfl⟩ := h41.isl
      replace g35 := g35.up hK
      replace hB := hB.trans hK
      refine WO.q (.as (v := .sl _ _ _ _ _ _) rfl) rfl rfl ?_
      refine WO.nil ?_
      refine WX.seq ?_
      refine WX.reg ?_
      refine WO.q (.mv (v := .sl _ _ _ _ _ _) rfl) rfl rfl ?_
      obtain ⟨y42, hy42, h⟩ := Option.bind_eq_some_iff.1 h
      refine WO.cS rfl rfl (lendC (j := 0) h41 rfl fun _ K44 g43 => gabionref15_Right_ok g43 hy42) rfl rfl rfl ?_
      rintro _ rfl
      refine WO.q (.as (v := .bool _) rfl) rfl rfl ?_
      refine WO.nil ?_
      refine WX.seq ?_
      refine WX.seq ?_
      refine WX.reg ?_
      refine WO.q (.mv (v := .bool _) rfl) rfl rfl ?_
      refine WO.q (.r fun _ => rfl) rfl rfl ?_
      refine WO.nil ?_
      rcases bsp y42 with k45 | k45
      · replace h := (if_pos k45).symm.trans h
        refine WX.condF rfl (f_not k45) ?_
        refine WX.skip ?_
        refine WX.seq ?_
        refine WX.reg ?_
        refine WO.q (.mv (v := .sl _ _ _ _ _ _) rfl) rfl rfl ?_
        refine WO.q (.as (v := .sl _ _ _ _ _ _) rfl) rfl rfl ?_
        refine WO.q (.as (v := .int _ _) rfl) rfl rfl ?_
        refine WO.nil ?_
        obtain rfl := Option.some.inj h
        exact WX.ret (rs_ (rs_tmp rfl (rs_tmp rfl rs_nil))) fun st hp => ⟨_, _, hB, (hp.pk [0] (by decide)), _, _, n39, _, rfl, rfl, h41⟩
      · replace h := (if_neg (bnt k45)).symm.trans h
        refine WX.condT rfl (t_not k45) ?_
        refine WX.seq ?_
        refine WX.reg ?_
        refine WO.q (.as (v := .sl _ _ _ _ _ _) rfl) rfl rfl ?_
        refine WO.q (.as (v := .int _ _) rfl) rfl rfl ?_
        refine WO.nil ?_
        obtain rfl := Option.some.inj h
        exact WX.ret (rs_ (rs_tmp rfl (rs_tmp rfl rs_nil))) fun st hp => ⟨_, _, hB, ((hp.pk [] (by decide)).skip 0), _, 0, true, [], rfl, rfl, OSl.none _ _⟩
theorem gabionref15_Fill_j2_ok {B0 : Kn} {L : Own} {n0 : Nat} {x0 : List (Int × Int)} {x1 : Int} {x2 : Int} {x3 : Int} {x30 : Bool} {r : (List (Int × Int)) × Int} (h : gabionref15_Fill_j2 x0 x1 x2 x3 x30 = some r) : WXI Try.prog 75 n0 (Fin Try.prog Try.f31.results.toList n0 (gabionref15_Fill_P B0 L r)) [.code (ct [1, 1, 0, 1] (bodyOf Try.f31)), .code (ct [1, 1, 1] (bodyOf Try.f31))] (gabionref15_Fill_j2_I B0 x0 x1 x2 x3 x30) L := by
  unfold gabionref15_Fill_j2 at h
  rintro _ B _ ⟨hB, v4, h4, rfl, rfl⟩
  obtain ⟨_, _, _, _, _, rfl⟩ := h4.isl
  rcases bsp x30 with k5 | k5
  · replace h := (if_pos k5).symm.trans h
    refine WX.condT rfl k5 ?_
    refine WX.seq ?_
    refine WX.reg ?_
    refine WO.q (.as (v := .sl _ _ _ _ _ _) rfl) rfl rfl ?_
    refine WO.q (.as (v := .int _ _) rfl) rfl rfl ?_
    refine WO.nil ?_
    obtain rfl := Option.some.inj h
    exact WX.ret (rs_ (rs_tmp rfl (rs_tmp rfl rs_nil))) fun st hp => ⟨_, _, hB, ((hp.pk [] (by decide)).skip 0), _, 0, true, [], rfl, rfl, OSl.none _ _⟩
  · replace h := (if_neg (bnt k5)).symm.trans h
    refine WX.condF rfl k5 ?_
    refine WX.skip ?_
    refine WX.seq ?_
    refine WX.reg ?_
    refine WO.q (.mv (v := .sl _ _ _ _ _ _) rfl) rfl rfl ?_
    obtain ⟨y6, hy6, h⟩ := Option.bind_eq_some_iff.1 h
    refine WO.c1 rfl rfl (gabionref15_Blocks_ok h4 hy6) rfl rfl rfl ?_
    rintro _ B _ hK ⟨v7, b8, n9, c10, rfl, rfl, h11⟩
    obtain ⟨_, _, _, _, _, rfl⟩ := h11.isl
    replace h4 := h4.up hK
    replace hB := hB.trans hK
    refine WO.q (.as (v := .sl _ _ _ _ _ _) rfl) rfl rfl ?_
    refine WO.nil ?_
    refine WX.seq ?_
    refine WX.seq ?_
    refine WX.reg ?_
    refine WO.q (.mv (v := .int _ _) rfl) rfl rfl ?_
    refine WO.q (.mv (v := .sl _ _ _ _ _ _) rfl) rfl rfl ?_
    refine WO.q (.len rfl rfl rfl (sl22.len h11.isl)) rfl rfl ?_
    refine WO.q (.r fun _ => rfl) rfl rfl ?_
    refine WO.q (.mv (v := .bool _) rfl) rfl rfl ?_
    rcases bsp (decide ((y6.length : Int) < x3)) with k12 | k12
    · have q_k12 := of_decide_eq_true k12
      replace h := (if_pos q_k12).symm.trans h
      refine WO.sd (wg rfl rfl (gfn k12)) rfl ?_
      refine WO.sd (wg rfl rfl (gfn k12)) rfl ?_
      refine WO.sd (wg rfl rfl (gfn k12)) rfl ?_
      refine WO.sd (wg rfl rfl (gfn k12)) rfl ?_
      refine WO.sd (wg rfl rfl (gfn k12)) rfl ?_
      refine WO.sd (wg rfl rfl (gfn k12)) rfl ?_
      refine WO.q (.ptv (v := .bool _) rfl k12 rfl) rfl rfl ?_
      refine WO.nil ?_
      refine WX.keep [1, 2, 3, 11, 44] (WX.pk [0] (by decide) ?_) rfl
      exact gabionref15_Fill_j5_ok h _ _ _ ⟨hB, _, _, n9, _, h11, rfl, rfl⟩
    · have q_k12 := of_decide_eq_false k12
      replace h := (if_neg q_k12).symm.trans h
      refine WO.q (.mv (v := .int _ _) rfl) (wg rfl rfl (gf k12)) rfl ?_
      refine WO.q (.mv (v := .sl _ _ _ _ _ _) rfl) (wg rfl rfl (gf k12)) rfl ?_
      refine WO.q (.len rfl rfl rfl (sl22.len h11.isl)) (wg rfl rfl (gf k12)) rfl ?_
      refine WO.q (.mv (v := .int _ _) rfl) (wg rfl rfl (gf k12)) rfl ?_
      refine WO.q (.r fun _ => rfl) (wg rfl rfl (gf k12)) rfl ?_
      refine WO.q (.r fun _ => rfl) (wg rfl rfl (gf k12)) rfl ?_
      refine WO.q (.pfv (v := .bool _) rfl k12 rfl) rfl rfl ?_
      refine WO.nil ?_
      refine WX.keep [1, 2, 3, 11, 44] (WX.pk [0] (by decide) ?_) rfl
      exact gabionref15_Fill_j5_ok h _ _ _ ⟨hB, _, _, n9, _, h11, rfl, rfl⟩
theorem gabionref15_Fill_ok {B0 : Kn} {L : Own} {a0 : List (Int × Int)} {a1 : Int} {a2 : Int} {a3 : Int} {v0_0 : AV} {r : (List (Int × Int)) × Int} (g0_0 : RSl EPIi64Ii64Q B0 v0_0 a0) (h : gabionref15_Fill a0 a1 a2 a3 = some r) : ∀ st, Hp B0 L st → ASpec Try.prog 31 [v0_0, .int .i64 a1, .int .i64 a2, .int .i64 a3] st (gabionref15_Fill_P B0 L r) := by
  unfold gabionref15_Fill at h
  refine bodyA (A := []) Try.func31 rfl (c := bodyOf Try.f31) rfl Try.ntmps31 (lb rfl) fun n0 => ?_
  have hB := KLe.refl B0
  obtain ⟨_, _, _, _, _, rfl⟩ := g0_0.isl
  refine WX.seq ?_
  refine WX.reg ?_
  refine WO.q (.as (v := .sl _ _ _ _ _ _) rfl) rfl rfl ?_
  refine WO.q (.as (v := .int _ _) rfl) rfl rfl ?_
  refine WO.nil ?_
  refine WX.seq ?_
  refine WX.reg ?_
  refine WO.q (.mv (v := .sl _ _ _ _ _ _) rfl) rfl rfl ?_
  obtain ⟨y1, hy1, h⟩ := Option.bind_eq_some_iff.1 h
  refine WO.cS rfl rfl (gabionref15_Right_ok g0_0 hy1) rfl rfl rfl ?_
  rintro _ rfl
  refine WO.q (.as (v := .bool _) rfl) rfl rfl ?_
  refine WO.nil ?_
  refine WX.seq ?_
  refine WX.seq ?_
  refine WX.reg ?_
  refine WO.q (.mv (v := .bool _) rfl) rfl rfl ?_
  refine WO.q (.r fun _ => rfl) rfl rfl ?_
  refine WO.q (.mv (v := .bool _) rfl) rfl rfl ?_
  rcases bsp y1 with k2 | k2
  · replace h := (if_pos k2).symm.trans h
    refine WO.q (.mv (v := .int _ _) rfl) (wg rfl rfl (gf (f_not k2))) rfl ?_
    refine WO.q (.r fun _ => rfl) (wg rfl rfl (gf (f_not k2))) rfl ?_
    refine WO.q (.pfv (v := .bool _) rfl (f_not k2) rfl) rfl rfl ?_
    refine WO.q (.mv (v := .bool _) rfl) rfl rfl ?_
    rcases bsp (decide (a2 < 0)) with k3 | k3
    · have q_k3 := of_decide_eq_true k3
      replace h := (if_pos q_k3).symm.trans h
      refine WO.sd (wg rfl rfl (gfn k3)) rfl ?_
      refine WO.sd (wg rfl rfl (gfn k3)) rfl ?_
      refine WO.q (.ptv (v := .bool _) rfl k3 rfl) rfl rfl ?_
      refine WO.q (.mv (v := .bool _) rfl) rfl rfl ?_
      refine WO.sd (wg rfl rfl (gfn rfl)) rfl ?_
      refine WO.sd (wg rfl rfl (gfn rfl)) rfl ?_
      refine WO.q (.ptv (v := .bool _) rfl rfl rfl) rfl rfl ?_
      refine WO.nil ?_
      refine WX.keep [0, 1, 2, 3, 30] (WX.pk [] (by decide) ?_) rfl
      exact gabionref15_Fill_j2_ok h _ _ _ ⟨hB, _, g0_0, rfl, rfl⟩
    · have q_k3 := of_decide_eq_false k3
      replace h := (if_neg q_k3).symm.trans h
      refine WO.q (.mv (v := .int _ _) rfl) (wg rfl rfl (gf k3)) rfl ?_
      refine WO.q (.r fun _ => rfl) (wg rfl rfl (gf k3)) rfl ?_
      refine WO.q (.pfv (v := .bool _) rfl k3 rfl) rfl rfl ?_
      refine WO.q (.mv (v := .bool _) rfl) rfl rfl ?_
      rcases bsp (decide (a3 < 1)) with k46 | k46
      · have q_k46 := of_decide_eq_true k46
        replace h := (if_pos q_k46).symm.trans h
        refine WO.sd (wg rfl rfl (gfn k46)) rfl ?_
        refine WO.sd (wg rfl rfl (gfn k46)) rfl ?_
        refine WO.q (.ptv (v := .bool _) rfl k46 rfl) rfl rfl ?_
        refine WO.nil ?_
        refine WX.keep [0, 1, 2, 3, 30] (WX.pk [] (by decide) ?_) rfl
        exact gabionref15_Fill_j2_ok h _ _ _ ⟨hB, _, g0_0, rfl, rfl⟩
      · have q_k46 := of_decide_eq_false k46
        replace h := (if_neg q_k46).symm.trans h
        refine WO.q (.mv (v := .int _ _) rfl) (wg rfl rfl (gf k46)) rfl ?_
        refine WO.q (.r fun _ => rfl) (wg rfl rfl (gf k46)) rfl ?_
        refine WO.q (.pfv (v := .bool _) rfl k46 rfl) rfl rfl ?_
        refine WO.nil ?_
        refine WX.keep [0, 1, 2, 3, 30] (WX.pk [] (by decide) ?_) rfl
        exact gabionref15_Fill_j2_ok h _ _ _ ⟨hB, _, g0_0, rfl, rfl⟩
  · replace h := (if_neg (bnt k2)).symm.trans h
    refine WO.sd (wg rfl rfl (gfn (t_not k2))) rfl ?_
    refine WO.sd (wg rfl rfl (gfn (t_not k2))) rfl ?_
    refine WO.q (.ptv (v := .bool _) rfl (t_not k2) rfl) rfl rfl ?_
    refine WO.q (.mv (v := .bool _) rfl) rfl rfl ?_
    refine WO.sd (wg rfl rfl (gfn rfl)) rfl ?_
    refine WO.sd (wg rfl rfl (gfn rfl)) rfl ?_
    refine WO.q (.ptv (v := .bool _) rfl rfl rfl) rfl rfl ?_
    refine WO.q (.mv (v := .bool _) rfl) rfl rfl ?_
    refine WO.sd (wg rfl rfl (gfn rfl)) rfl ?_
    refine WO.sd (wg rfl rfl (gfn rfl)) rfl ?_
    refine WO.q (.ptv (v := .bool _) rfl rfl rfl) rfl rfl ?_
    refine WO.nil ?_
    refine WX.keep [0, 1, 2, 3, 30] (WX.pk [] (by decide) ?_) rfl
    exact gabionref15_Fill_j2_ok h _ _ _ ⟨hB, _, g0_0, rfl, rfl⟩
def gabionref15_Cut_P (B : Kn) (L : Own) (r : (List (Int × Int)) × (List (Int × Int)) × Int) : AV → St → Prop := C2 B L fun B' v e0 e1 => ∃ w0 b0 n0 c0 w1 b1 n1 c1, v = .tup [w0, w1, .int .i64 r.2.2] ∧ e0 = oe b0 n0 c0 ∧ OSl EPIi64Ii64Q B' w0 b0 n0 c0 r.1 ∧ e1 = oe b1 n1 c1 ∧ OSl EPIi64Ii64Q B' w1 b1 n1 c1 r.2.1
def gabionref15_Cut_j14_I (B0 : Kn) (x9 : List (Int × Int)) (x10 : List (Int × Int)) (x11 : List (Int × Int)) (x12 : Int) : Fr → Kn → Own → Prop := fun fr B A => KLe B0 B ∧ ∃ v43 b43 n43 c43 v44 b44 n44 c44 v45 b45 n45 c45, OSl EPIi64Ii64Q B v43 b43 n43 c43 x9 ∧ OSl EPIi64Ii64Q B v44 b44 n44 c44 x10 ∧ OSl EPIi64Ii64Q B v45 b45 n45 c45 x11 ∧ fr = [(9, v43), (10, v44), (11, v45), (12, .int .i64 x12)] ∧ A = [oe b43 n43 c43, oe b44 n44 c44, oe b45 n45 c45]
def gabionref15_Cut_l0_I (B0 : Kn) (x9 : List (Int × Int)) (x10 : List (Int × Int)) (x11 : List (Int × Int)) (x12 : Int) : Fr → Kn → Own → Prop := fun fr B A => KLe B0 B ∧ ∃ v27 b27 n27 c27 v28 b28 n28 c28 v29 b29 n29 c29, OSl EPIi64Ii64Q B v27 b27 n27 c27 x9 ∧ OSl EPIi64Ii64Q B v28 b28 n28 c28 x10 ∧ OSl EPIi64Ii64Q B v29 b29 n29 c29 x11 ∧ fr = [(9, v27), (10, v28), (11, v29), (12, .int .i64 x12)] ∧ A = [oe b27 n27 c27, oe b28 n28 c28, oe b29 n29 c29]
def gabionref15_Cut_l0_X0 (B0 : Kn) (x9 : List (Int × Int)) (x11 : List (Int × Int)) : Fr → Kn → Own → Prop := fun fr B A => KLe B0 B ∧ ∃ v52 b52 n52 c52 v53 b53 n53 c53, OSl EPIi64Ii64Q B v52 b52 n52 c52 x9 ∧ OSl EPIi64Ii64Q B v53 b53 n53 c53 x11 ∧ fr = [(9, v52), (11, v53)] ∧ A = [oe b52 n52 c52, oe b53 n53 c53]
def gabionref15_Cut_j5_I (B0 : Kn) (x1 : Int) (x8 : List Int) (x26 : Bool) : Fr → Kn → Own → Prop := fun fr B A => KLe B0 B ∧ ∃ v10 b10 n10 c10, OSl (Ty.int .i64) B v10 b10 n10 c10 x8 ∧ fr = [(1, .int .i64 x1), (8, v10), (26, .bool x26)] ∧ A = [oe b10 n10 c10]
theorem gabionref15_Cut_j14_ok {B0 : Kn} {L : Own} {n0 : Nat} {x9 : List (Int × Int)} {x10 : List (Int × Int)} {x11 : List (Int × Int)} {x12 : Int} {Q : AV → St → Prop} {E : ((List (Int × Int)) × Int) ⊕ (List (Int × Int)) → Prop} {o : ((List (Int × Int)) × Int) ⊕ (List (Int × Int))} (h : gabionref15_Cut_j14 x9 x10 x11 x12 = some o) (hn : ∀ s, E (.inl s) → WXI Try.prog 56 n0 (Fin Try.prog Try.f33.results.toList n0 Q) [.lp (ct [1, 1, 1, 1, 1, 1, 1, 1, 0, 1, 0, 0] (bodyOf Try.f33)), .blk 0, .code (ct [1, 1, 1, 1, 1, 1, 1, 1, 1] (bodyOf Try.f33))] (gabionref15_Cut_l0_I B0 x9 x10 s.1 s.2) L) (hx0 : ∀ s, E (.inr s) → WXI Try.prog 56 n0 (Fin Try.prog Try.f33.results.toList n0 Q) [.code (ct [1, 1, 1, 1, 1, 1, 1, 1, 1] (bodyOf Try.f33))] (gabionref15_Cut_l0_X0 B0 x9 s) L) (hE : E o) : WXI Try.prog 56 n0 (Fin Try.prog Try.f33.results.toList n0 Q) [.code (ct [1, 1, 1, 1, 1, 1, 1, 1, 0, 1, 0, 0, 1, 1] (bodyOf Try.f33)), .lp (ct [1, 1, 1, 1, 1, 1, 1, 1, 0, 1, 0, 0] (bodyOf Try.f33)), .blk 0, .code (ct [1, 1, 1, 1, 1, 1, 1, 1, 1] (bodyOf Try.f33))] (gabionref15_Cut_j14_I B0 x9 x10 x11 x12) L := by
  unfold gabionref15_Cut_j14 at h
  rintro _ B _ ⟨hB, v43, b43, n43, c43, v44, b44, n44, c44, v45, b45, n45, c45, h43, h44, h45, rfl, rfl⟩
  obtain ⟨_, _, _, _, _, rfl⟩ := h43.isl
  obtain ⟨_, _, _, _, _, rfl⟩ := h44.isl
  obtain ⟨_, _, _, _, _, rfl⟩ := h45.isl
  refine WX.reg ?_
  refine WO.q (.mv (v := .int _ _) rfl) rfl rfl ?_
  refine WO.q (.r fun _ => rfl) rfl rfl ?_
  refine WO.q (.as (v := .int _ _) rfl) rfl rfl ?_
  refine WO.nil ?_
  refine WX.keepL [9, 10, 11, 12] (WX.pk [0, 1, 2] (by decide) ?_) rfl
  obtain rfl := Option.some.inj h
  exact hn _ hE _ _ _ ⟨hB, _, _, n43, _, _, _, n44, _, _, _, n45, _, h43, h44, h45, rfl, rfl⟩
theorem gabionref15_Cut_l0_s {B0 : Kn} {L : Own} {n0 : Nat} {x9 : List (Int × Int)} {x10 : List (Int × Int)} {x11 : List (Int × Int)} {x12 : Int} {Q : AV → St → Prop} {E : ((List (Int × Int)) × Int) ⊕ (List (Int × Int)) → Prop} {o : ((List (Int × Int)) × Int) ⊕ (List (Int × Int))} (h : gabionref15_Cut_l0 x9 x10 x11 x12 = some o) (hn : ∀ s, E (.inl s) → WXI Try.prog 56 n0 (Fin Try.prog Try.f33.results.toList n0 Q) [.lp (ct [1, 1, 1, 1, 1, 1, 1, 1, 0, 1, 0, 0] (bodyOf Try.f33)), .blk 0, .code (ct [1, 1, 1, 1, 1, 1, 1, 1, 1] (bodyOf Try.f33))] (gabionref15_Cut_l0_I B0 x9 x10 s.1 s.2) L) (hx0 : ∀ s, E (.inr s) → WXI Try.prog 56 n0 (Fin Try.prog Try.f33.results.toList n0 Q) [.code (ct [1, 1, 1, 1, 1, 1, 1, 1, 1] (bodyOf Try.f33))] (gabionref15_Cut_l0_X0 B0 x9 s) L) (hE : E o) : WXI Try.prog 56 n0 (Fin Try.prog Try.f33.results.toList n0 Q) [.code (ct [1, 1, 1, 1, 1, 1, 1, 1, 0, 1, 0, 0] (bodyOf Try.f33)), .lp (ct [1, 1, 1, 1, 1, 1, 1, 1, 0, 1, 0, 0] (bodyOf Try.f33)), .blk 0, .code (ct [1, 1, 1, 1, 1, 1, 1, 1, 1] (bodyOf Try.f33))] (gabionref15_Cut_l0_I B0 x9 x10 x11 x12) L := by
  unfold gabionref15_Cut_l0 at h
  rintro _ B _ ⟨hB, v27, b27, n27, c27, v28, b28, n28, c28, v29, b29, n29, c29, h27, h28, h29, rfl, rfl⟩
  obtain ⟨_, _, _, _, _, rfl⟩ := h27.isl
  obtain ⟨_, _, _, _, _, rfl⟩ := h28.isl
  obtain ⟨_, _, _, _, _, rfl⟩ := h29.isl
  refine WX.seq ?_
  refine WX.seq ?_
  refine WX.reg ?_
  refine WO.q (.mv (v := .int _ _) rfl) rfl rfl ?_
  refine WO.q (.mv (v := .sl _ _ _ _ _ _) rfl) rfl rfl ?_
  refine WO.q (.len rfl rfl rfl (sl40.len h28.isl)) rfl rfl ?_
  refine WO.q (.r fun _ => rfl) rfl rfl ?_
  refine WO.nil ?_
  rcases bsp (decide (x12 < (x10.length : Int))) with k30 | k30
  · have q_k30 := of_decide_eq_true k30
    replace h := (if_pos q_k30).symm.trans h
    refine WX.condT rfl k30 ?_
    refine WX.skip ?_
    refine WX.seq ?_
    refine WX.block ?_
    refine WX.seq ?_
    refine WX.reg ?_
    refine WO.q (.mv (v := .sl _ _ _ _ _ _) rfl) rfl rfl ?_
    refine WO.q (.mv (v := .int _ _) rfl) rfl rfl ?_
    obtain ⟨y31, hy31, h⟩ := Option.bind_eq_some_iff.1 h
    obtain rfl := h28.nonnil hy31
    obtain ⟨_, i_y31, l_y31, r_y31⟩ := h28.at sl40 hy31 .i64
    obtain ⟨_, _, rfl, rfl, rfl⟩ := r_y31
    refine WO.q (.ia i_y31) rfl rfl ?_
    refine WO.q (.ia (ia41_0 _ _)) rfl rfl ?_
    refine WO.q (.ldS (i := 1) rfl rfl (l_y31.g rfl) ti3 rfl) rfl rfl ?_
    refine WO.q (.r fun _ => rfl) rfl rfl ?_
    refine WO.nil ?_
    rcases bsp (decide (y31.1 ≠ (-1))) with k32 | k32
    · have q_k32 := of_decide_eq_true k32
      replace h := (if_pos q_k32).symm.trans h
      refine WX.condT rfl k32 ?_
      refine WX.reg ?_
      refine WO.q (.mv (v := .sl _ _ _ _ _ _) rfl) rfl rfl ?_
      refine WO.q (.mv (v := .sl _ _ _ _ _ _) rfl) rfl rfl ?_
      refine WO.q (.mv (v := .int _ _) rfl) rfl rfl ?_
      obtain ⟨y33, hy33, h⟩ := Option.bind_eq_some_iff.1 h
      obtain ⟨_, i_y33, l_y33, r_y33⟩ := h28.at sl40 hy33 .i64
      obtain ⟨_, _, rfl, rfl, rfl⟩ := r_y33
      refine WO.q (.ia i_y33) rfl rfl ?_
      refine WO.q (.leA (i := 1) rfl rfl l_y33 ti41 rfl rfl) rfl rfl ?_
      refine WO.md (MOp.bs (l := ([y33] : List (Int × Int))) sl40 (RL.cons (Rp Ri Ri) RL.nil) (lb rfl) rfl rfl) rfl rfl ?_
      rintro v36 _ ⟨b34, o35, rfl⟩
      obtain ⟨_, _, _, _, _, rfl⟩ := o35.isl
      obtain ⟨y38, hy38, h⟩ := Option.bind_eq_some_iff.1 h
      refine WO.md (MOp.app rfl rfl rfl sl40 h29 (Src.o (i := 0) sl40 o35 rfl) hy38 rfl rfl (fun _ => (.t (.t (.t .h))))) rfl rfl ?_
      rintro v42 _ ⟨b39, n40, o41, rfl⟩
      obtain ⟨_, _, _, _, _, rfl⟩ := o41.isl
      refine WO.q (.as (v := .sl _ _ _ _ _ _) rfl) rfl rfl ?_
      refine WO.nil ?_
      refine WX.pop ?_
      refine WX.keep [9, 10, 11, 12] (WX.pk [1, 2, 3] (by decide) ?_) rfl
      exact gabionref15_Cut_j14_ok h hn hx0 hE _ _ _ ⟨hB, _, _, n27, _, _, _, false, _, _, _, n40, _, h27, h28, o41, rfl, rfl⟩
    · have q_k32 := of_decide_eq_false k32
      replace h := (if_neg q_k32).symm.trans h
      refine WX.condF rfl k32 ?_
      refine WX.skip ?_
      refine WX.pop ?_
      refine WX.keep [9, 10, 11, 12] (WX.pk [0, 1, 2] (by decide) ?_) rfl
      exact gabionref15_Cut_j14_ok h hn hx0 hE _ _ _ ⟨hB, _, _, n27, _, _, _, false, _, _, _, n29, _, h27, h28, h29, rfl, rfl⟩
  · have q_k30 := of_decide_eq_false k30
    replace h := (if_neg q_k30).symm.trans h
    refine WX.condF rfl k30 ?_
    refine WX.exit rfl ?_
    refine WX.keep [9, 11] (WX.pk [0, 2] (by decide) ?_) rfl
    obtain rfl := Option.some.inj h
    exact hx0 _ hE _ _ _ ⟨hB, _, _, n27, _, _, _, n29, _, h27, h29, rfl, rfl⟩
theorem gabionref15_Cut_l0_ok {B0 : Kn} {L : Own} {n0 : Nat} {x9 : List (Int × Int)} {x10 : List (Int × Int)} {x11 : List (Int × Int)} {x12 : Int} {Q : AV → St → Prop} {d : Nat} {e : (List (Int × Int))} (h : iter (fun (s : (List (Int × Int)) × Int) => gabionref15_Cut_l0 x9 x10 s.1 s.2) d (x11, x12) = some e) (g0 : ∀ s, e = s → WXI Try.prog 56 n0 (Fin Try.prog Try.f33.results.toList n0 Q) [.code (ct [1, 1, 1, 1, 1, 1, 1, 1, 1] (bodyOf Try.f33))] (gabionref15_Cut_l0_X0 B0 x9 s) L) : WXI Try.prog 56 n0 (Fin Try.prog Try.f33.results.toList n0 Q) [.code (ct [1, 1, 1, 1, 1, 1, 1, 1, 0, 1, 0, 0] (bodyOf Try.f33)), .lp (ct [1, 1, 1, 1, 1, 1, 1, 1, 0, 1, 0, 0] (bodyOf Try.f33)), .blk 0, .code (ct [1, 1, 1, 1, 1, 1, 1, 1, 1] (bodyOf Try.f33))] (gabionref15_Cut_l0_I B0 x9 x10 x11 x12) L :=
  iter_ok (I := fun s => gabionref15_Cut_l0_I B0 x9 x10 s.1 s.2) (D := fun e => (∀ s, e = s → WXI Try.prog 56 n0 (Fin Try.prog Try.f33.results.toList n0 Q) [.code (ct [1, 1, 1, 1, 1, 1, 1, 1, 1] (bodyOf Try.f33))] (gabionref15_Cut_l0_X0 B0 x9 s) L)) (fun E hn hx s o ho hE => gabionref15_Cut_l0_s ho hn (fun s hs => (hx _ hs) _ rfl)  hE) h g0
theorem gabionref15_Cut_j5_ok {B0 : Kn} {L : Own} {n0 : Nat} {x1 : Int} {x8 : List Int} {x26 : Bool} {r : (List (Int × Int)) × (List (Int × Int)) × Int} (h : gabionref15_Cut_j5 x1 x8 x26 = some r) : WXI Try.prog 56 n0 (Fin Try.prog Try.f33.results.toList n0 (gabionref15_Cut_P B0 L r)) [.code (ct [1, 1, 1, 1, 0, 1] (bodyOf Try.f33)), .code (ct [1, 1, 1, 1, 1] (bodyOf Try.f33))] (gabionref15_Cut_j5_I B0 x1 x8 x26) L := by
  unfold gabionref15_Cut_j5 at h
  rintro _ B _ ⟨hB, v10, b10, n10, c10, h10, rfl, rfl⟩
  obtain ⟨_, _, _, _, _, rfl⟩ := h10.isl
  rcases bsp x26 with k11 | k11
  · replace h := (if_pos k11).symm.trans h
    refine WX.condT rfl k11 ?_
    refine WX.seq ?_
    refine WX.reg ?_
    refine WO.q (.as (v := .sl _ _ _ _ _ _) rfl) rfl rfl ?_
    refine WO.q (.as (v := .sl _ _ _ _ _ _) rfl) rfl rfl ?_
    refine WO.q (.as (v := .int _ _) rfl) rfl rfl ?_
    refine WO.nil ?_
    obtain rfl := Option.some.inj h
    exact WX.ret (rs_ (rs_tmp rfl (rs_tmp rfl (rs_tmp rfl rs_nil)))) fun st hp => ⟨_, _, _, hB, (((hp.pk [] (by decide)).skip 0).skip 0), _, 0, true, [], _, 0, true, [], rfl, rfl, OSl.none _ _, rfl, OSl.none _ _⟩
  · replace h := (if_neg (bnt k11)).symm.trans h
    refine WX.condF rfl k11 ?_
    refine WX.skip ?_
    refine WX.seq ?_
    refine WX.reg ?_
    refine WO.q (.mv (v := .sl _ _ _ _ _ _) rfl) rfl rfl ?_
    refine WO.q (.mv (v := .int _ _) rfl) rfl rfl ?_
    refine WO.fz (j := 0) h10 rfl ?_
    intro B hK g12
    replace hB := hB.trans hK
    obtain ⟨y13, hy13, h⟩ := Option.bind_eq_some_iff.1 h
    obtain ⟨v_y13, e_y13, g_y13⟩ := g12.cut sl22 hy13 (lo := none) (hi := some (.int .i64 x1)) bnd_none (bnd_int (Int.le_trans (cutL_some hy13).1.1 (cutL_some hy13).1.2.1))
    obtain ⟨_, _, _, _, _, rfl⟩ := g_y13.isl
    refine WO.q (.sl e_y13) rfl rfl ?_
    obtain ⟨y14, hy14, h⟩ := Option.bind_eq_some_iff.1 h
    refine WO.c1 rfl rfl (gabionref15_Runs_ok g_y13 hy14) rfl rfl rfl ?_
    rintro _ B _ hK ⟨v15, b16, n17, c18, rfl, rfl, h19⟩
    obtain ⟨_, _, _, _, _, rfl⟩ := h19.isl
    replace g12 := g12.up hK
    replace g_y13 := g_y13.up hK
    replace hB := hB.trans hK
    refine WO.q (.as (v := .sl _ _ _ _ _ _) rfl) rfl rfl ?_
    refine WO.nil ?_
    refine WX.seq ?_
    refine WX.reg ?_
    refine WO.q (.mv (v := .sl _ _ _ _ _ _) rfl) rfl rfl ?_
    refine WO.q (.mv (v := .int _ _) rfl) rfl rfl ?_
    obtain ⟨y20, hy20, h⟩ := Option.bind_eq_some_iff.1 h
    obtain ⟨v_y20, e_y20, g_y20⟩ := g12.cut sl22 hy20 (lo := some (.int .i64 x1)) (hi := none) (bnd_int (cutL_some hy20).1.1) rfl
    obtain ⟨_, _, _, _, _, rfl⟩ := g_y20.isl
    refine WO.q (.sl e_y20) rfl rfl ?_
    obtain ⟨y21, hy21, h⟩ := Option.bind_eq_some_iff.1 h
    refine WO.c1 rfl rfl (gabionref15_Runs_ok g_y20 hy21) rfl rfl rfl ?_
    rintro _ B _ hK ⟨v22, b23, n24, c25, rfl, rfl, h26⟩
    obtain ⟨_, _, _, _, _, rfl⟩ := h26.isl
    replace g12 := g12.up hK
    replace g_y20 := g_y20.up hK
    replace h19 := h19.up hK
    replace hB := hB.trans hK
    refine WO.q (.as (v := .sl _ _ _ _ _ _) rfl) rfl rfl ?_
    refine WO.nil ?_
    refine WX.seq ?_
    refine WX.reg ?_
    refine WO.q (.as (v := .sl _ _ _ _ _ _) rfl) rfl rfl ?_
    refine WO.nil ?_
    refine WX.seq ?_
    refine WX.seq ?_
    refine WX.reg ?_
    refine WO.q (.as (v := .int _ _) rfl) rfl rfl ?_
    refine WO.nil ?_
    refine WX.block ?_
    refine WX.loop ?_
    obtain ⟨e48, he48, h⟩ := Option.bind_eq_some_iff.1 h
    refine WX.keep [9, 10, 11, 12] (WX.pk [1, 0] (by decide) (WX.addn [2] ?_)) rfl
    refine gabionref15_Cut_l0_ok he48 ?_ _ _ _ ⟨hB, _, _, n17, _, _, _, n24, _, _, 0, true, [], h19, h26, OSl.none _ _, rfl, rfl⟩
    · intro s51 he_
      subst he_
      replace h := h
      rintro _ B _ ⟨hB, v49, b49, n49, c49, v50, b50, n50, c50, h49, h50, rfl, rfl⟩
      obtain ⟨_, _, _, _, _, rfl⟩ := h49.isl
      obtain ⟨_, _, _, _, _, rfl⟩ := h50.isl
      refine WX.seq ?_
      refine WX.reg ?_
      refine WO.q (.mv (v := .sl _ _ _ _ _ _) rfl) rfl rfl ?_
      refine WO.q (.mv (v := .sl _ _ _ _ _ _) rfl) rfl rfl ?_
      refine WO.q (.as (v := .sl _ _ _ _ _ _) rfl) rfl rfl ?_
      refine WO.q (.as (v := .sl _ _ _ _ _ _) rfl) rfl rfl ?_
      refine WO.q (.as (v := .int _ _) rfl) rfl rfl ?_
      refine WO.nil ?_
      obtain rfl := Option.some.inj h
      exact WX.ret (rs_ (rs_tmp rfl (rs_tmp rfl (rs_tmp rfl rs_nil)))) fun st hp => ⟨_, _, _, hB, (hp.pk [0, 1] (by decide)), _, _, n49, _, _, _, n50, _, rfl, rfl, h49, rfl, h50⟩
theorem gabionref15_Cut_ok {B0 : Kn} {L : Own} {a0 : List (Int × Int)} {a1 : Int} {v0_0 : AV} {r : (List (Int × Int)) × (List (Int × Int)) × Int} (g0_0 : RSl EPIi64Ii64Q B0 v0_0 a0) (h : gabionref15_Cut a0 a1 = some r) : ∀ st, Hp B0 L st → ASpec Try.prog 33 [v0_0, .int .i64 a1] st (gabionref15_Cut_P B0 L r) := by
  unfold gabionref15_Cut at h
  refine bodyA (A := []) Try.func33 rfl (c := bodyOf Try.f33) rfl Try.ntmps33 (lb rfl) fun n0 => ?_
  have hB := KLe.refl B0
  obtain ⟨_, _, _, _, _, rfl⟩ := g0_0.isl
  refine WX.seq ?_
  refine WX.reg ?_
  refine WO.q (.as (v := .sl _ _ _ _ _ _) rfl) rfl rfl ?_
  refine WO.q (.as (v := .sl _ _ _ _ _ _) rfl) rfl rfl ?_
  refine WO.q (.as (v := .int _ _) rfl) rfl rfl ?_
  refine WO.nil ?_
  refine WX.seq ?_
  refine WX.reg ?_
  refine WO.q (.mv (v := .sl _ _ _ _ _ _) rfl) rfl rfl ?_
  obtain ⟨y1, hy1, h⟩ := Option.bind_eq_some_iff.1 h
  refine WO.cS rfl rfl (gabionref15_Right_ok g0_0 hy1) rfl rfl rfl ?_
  rintro _ rfl
  refine WO.q (.as (v := .bool _) rfl) rfl rfl ?_
  refine WO.nil ?_
  refine WX.seq ?_
  refine WX.seq ?_
  refine WX.reg ?_
  refine WO.q (.mv (v := .bool _) rfl) rfl rfl ?_
  refine WO.q (.r fun _ => rfl) rfl rfl ?_
  refine WO.nil ?_
  rcases bsp y1 with k2 | k2
  · replace h := (if_pos k2).symm.trans h
    refine WX.condF rfl (f_not k2) ?_
    refine WX.skip ?_
    refine WX.seq ?_
    refine WX.reg ?_
    refine WO.q (.mv (v := .sl _ _ _ _ _ _) rfl) rfl rfl ?_
    obtain ⟨y3, hy3, h⟩ := Option.bind_eq_some_iff.1 h
    refine WO.c1 rfl rfl (gabionref15_Blocks_ok g0_0 hy3) rfl rfl rfl ?_
    rintro _ B _ hK ⟨v4, b5, n6, c7, rfl, rfl, h8⟩
    obtain ⟨_, _, _, _, _, rfl⟩ := h8.isl
    replace g0_0 := g0_0.up hK
    replace hB := hB.trans hK
    refine WO.q (.as (v := .sl _ _ _ _ _ _) rfl) rfl rfl ?_
    refine WO.nil ?_
    refine WX.seq ?_
    refine WX.seq ?_
    refine WX.reg ?_
    refine WO.q (.mv (v := .int _ _) rfl) rfl rfl ?_
    refine WO.q (.r fun _ => rfl) rfl rfl ?_
    refine WO.q (.mv (v := .bool _) rfl) rfl rfl ?_
    rcases bsp (decide (a1 < 0)) with k9 | k9
    · have q_k9 := of_decide_eq_true k9
      replace h := (if_pos q_k9).symm.trans h
      refine WO.sd (wg rfl rfl (gfn k9)) rfl ?_
      refine WO.sd (wg rfl rfl (gfn k9)) rfl ?_
      refine WO.sd (wg rfl rfl (gfn k9)) rfl ?_
      refine WO.sd (wg rfl rfl (gfn k9)) rfl ?_
      refine WO.q (.ptv (v := .bool _) rfl k9 rfl) rfl rfl ?_
      refine WO.nil ?_
      refine WX.keep [1, 8, 26] (WX.pk [0] (by decide) ?_) rfl
      exact gabionref15_Cut_j5_ok h _ _ _ ⟨hB, _, _, n6, _, h8, rfl, rfl⟩
    · have q_k9 := of_decide_eq_false k9
      replace h := (if_neg q_k9).symm.trans h
      refine WO.q (.mv (v := .int _ _) rfl) (wg rfl rfl (gf k9)) rfl ?_
      refine WO.q (.mv (v := .sl _ _ _ _ _ _) rfl) (wg rfl rfl (gf k9)) rfl ?_
      refine WO.q (.len rfl rfl rfl (sl22.len h8.isl)) (wg rfl rfl (gf k9)) rfl ?_
      refine WO.q (.r fun _ => rfl) (wg rfl rfl (gf k9)) rfl ?_
      refine WO.q (.pfv (v := .bool _) rfl k9 rfl) rfl rfl ?_
      refine WO.nil ?_
      refine WX.keep [1, 8, 26] (WX.pk [0] (by decide) ?_) rfl
      exact gabionref15_Cut_j5_ok h _ _ _ ⟨hB, _, _, n6, _, h8, rfl, rfl⟩
  · replace h := (if_neg (bnt k2)).symm.trans h
    refine WX.condT rfl (t_not k2) ?_
    refine WX.seq ?_
    refine WX.reg ?_
    refine WO.q (.as (v := .sl _ _ _ _ _ _) rfl) rfl rfl ?_
    refine WO.q (.as (v := .sl _ _ _ _ _ _) rfl) rfl rfl ?_
    refine WO.q (.as (v := .int _ _) rfl) rfl rfl ?_
    refine WO.nil ?_
    obtain rfl := Option.some.inj h
    exact WX.ret (rs_ (rs_tmp rfl (rs_tmp rfl (rs_tmp rfl rs_nil)))) fun st hp => ⟨_, _, _, hB, (((hp.pk [] (by decide)).skip 0).skip 0), _, 0, true, [], _, 0, true, [], rfl, rfl, OSl.none _ _, rfl, OSl.none _ _⟩
end Gab
