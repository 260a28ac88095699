/- The Go code comes to what the Lean functions say. Written by a program (gp.py). -/
import Derived.Test.YtdkldojcpncnhaaFd
import Derived.Test.YtdkldojcpncnhaaTy
import Derived.Test.YtdkldojcpncnhaaFpRef150
set_option linter.unusedSimpArgs false
set_option linter.unusedVariables false
set_option maxHeartbeats 4000000
set_option maxRecDepth 100000
namespace Gab
open Go Go.Proofs
def gabionref15_Blocks_P (B : Kn) (L : Own) (r : (List Int)) : AV → St → Prop := C1 B L fun B' v e0 => ∃ w0 b0 n0 c0, v = w0 ∧ e0 = oe b0 n0 c0 ∧ OSl (Ty.int .i64) B' w0 b0 n0 c0 r
def gabionref15_Blocks_j9_I (B0 : Kn) (x0 : List (Int × Int)) (x3 : List Int) (x4 : Int) (x5 : Int) : Fr → Kn → Own → Prop := fun fr B A => KLe B0 B ∧ ∃ v19 v20 b20 n20 c20, RSl EPIi64Ii64Q B v19 x0 ∧ OSl (Ty.int .i64) B v20 b20 n20 c20 x3 ∧ fr = [(0, v19), (3, v20), (4, .int .i64 x4), (5, .int .i64 x5)] ∧ A = [oe b20 n20 c20]
def gabionref15_Blocks_l1_I (B0 : Kn) (x0 : List (Int × Int)) (x3 : List Int) (x4 : Int) (x5 : Int) : Fr → Kn → Own → Prop := fun fr B A => KLe B0 B ∧ ∃ v4 v5 b5 n5 c5, RSl EPIi64Ii64Q B v4 x0 ∧ OSl (Ty.int .i64) B v5 b5 n5 c5 x3 ∧ fr = [(0, v4), (3, v5), (4, .int .i64 x4), (5, .int .i64 x5)] ∧ A = [oe b5 n5 c5]
def gabionref15_Blocks_l1_X0 (B0 : Kn) (x0 : List (Int × Int)) (x3 : List Int) (x4 : Int) : Fr → Kn → Own → Prop := fun fr B A => KLe B0 B ∧ ∃ v41 v42 b42 n42 c42, RSl EPIi64Ii64Q B v41 x0 ∧ OSl (Ty.int .i64) B v42 b42 n42 c42 x3 ∧ fr = [(0, v41), (3, v42), (4, .int .i64 x4)] ∧ A = [oe b42 n42 c42]
def gabionref15_Blocks_l0_I (B0 : Kn) (x0 : List (Int × Int)) (x3 : List Int) (x4 : Int) : Fr → Kn → Own → Prop := fun fr B A => KLe B0 B ∧ ∃ v1 v2 b2 n2 c2, RSl EPIi64Ii64Q B v1 x0 ∧ OSl (Ty.int .i64) B v2 b2 n2 c2 x3 ∧ fr = [(0, v1), (3, v2), (4, .int .i64 x4)] ∧ A = [oe b2 n2 c2]
def gabionref15_Blocks_l0_X0 (B0 : Kn) (x3 : List Int) : Fr → Kn → Own → Prop := fun fr B A => KLe B0 B ∧ ∃ v43 b43 n43 c43, OSl (Ty.int .i64) B v43 b43 n43 c43 x3 ∧ fr = [(3, v43)] ∧ A = [oe b43 n43 c43]
theorem gabionref15_Blocks_j9_ok {B0 : Kn} {L : Own} {n0 : Nat} {x0 : List (Int × Int)} {x3 : List Int} {x4 : Int} {x5 : Int} {Q : AV → St → Prop} {E : ((List Int) × Int × Int) ⊕ ((List Int) × Int) → Prop} {o : ((List Int) × Int × Int) ⊕ ((List Int) × Int)} (h : gabionref15_Blocks_j9 x0 x3 x4 x5 = some o) (hn : ∀ s, E (.inl s) → WXI Try.prog 41 n0 (Fin Try.prog Try.f44.results.toList n0 Q) [.lp (ct [1, 1, 0, 1, 0, 0, 1, 0, 0, 1, 0, 0] (bodyOf Try.f44)), .blk 2, .blk 1, .code (ct [1, 1, 0, 1, 0, 0, 1, 1] (bodyOf Try.f44)), .lp (ct [1, 1, 0, 1, 0, 0] (bodyOf Try.f44)), .blk 0, .code (ct [1, 1, 1] (bodyOf Try.f44))] (gabionref15_Blocks_l1_I B0 x0 s.1 s.2.1 s.2.2) L) (hx0 : ∀ s, E (.inr s) → WXI Try.prog 41 n0 (Fin Try.prog Try.f44.results.toList n0 Q) [.code (ct [1, 1, 0, 1, 0, 0, 1, 1] (bodyOf Try.f44)), .lp (ct [1, 1, 0, 1, 0, 0] (bodyOf Try.f44)), .blk 0, .code (ct [1, 1, 1] (bodyOf Try.f44))] (gabionref15_Blocks_l1_X0 B0 x0 s.1 s.2) L) (hE : E o) : WXI Try.prog 41 n0 (Fin Try.prog Try.f44.results.toList n0 Q) [.code (ct [1, 1, 0, 1, 0, 0, 1, 0, 0, 1, 0, 0, 1, 1] (bodyOf Try.f44)), .lp (ct [1, 1, 0, 1, 0, 0, 1, 0, 0, 1, 0, 0] (bodyOf Try.f44)), .blk 2, .blk 1, .code (ct [1, 1, 0, 1, 0, 0, 1, 1] (bodyOf Try.f44)), .lp (ct [1, 1, 0, 1, 0, 0] (bodyOf Try.f44)), .blk 0, .code (ct [1, 1, 1] (bodyOf Try.f44))] (gabionref15_Blocks_j9_I B0 x0 x3 x4 x5) L := by
  unfold gabionref15_Blocks_j9 at h
  rintro _ B _ ⟨hB, v19, v20, b20, n20, c20, h19, h20, rfl, rfl⟩
  obtain ⟨_, _, _, _, _, rfl⟩ := h19.isl
  obtain ⟨_, _, _, _, _, rfl⟩ := h20.isl
  refine WX.reg ?_
  refine WO.q (.mv (v := .int _ _) rfl) rfl rfl ?_
  refine WO.q (.r fun _ => rfl) rfl rfl ?_
  refine WO.q (.as (v := .int _ _) rfl) rfl rfl ?_
  refine WO.nil ?_
  refine WX.keepL [0, 3, 4, 5] (WX.pk [0] (by decide) ?_) rfl
  obtain rfl := Option.some.inj h
  exact hn _ hE _ _ _ ⟨hB, _, _, _, n20, _, h19, h20, rfl, rfl⟩
theorem gabionref15_Blocks_l1_s {B0 : Kn} {L : Own} {n0 : Nat} {x0 : List (Int × Int)} {x3 : List Int} {x4 : Int} {x5 : Int} {Q : AV → St → Prop} {E : ((List Int) × Int × Int) ⊕ ((List Int) × Int) → Prop} {o : ((List Int) × Int × Int) ⊕ ((List Int) × Int)} (h : gabionref15_Blocks_l1 x0 x3 x4 x5 = some o) (hn : ∀ s, E (.inl s) → WXI Try.prog 41 n0 (Fin Try.prog Try.f44.results.toList n0 Q) [.lp (ct [1, 1, 0, 1, 0, 0, 1, 0, 0, 1, 0, 0] (bodyOf Try.f44)), .blk 2, .blk 1, .code (ct [1, 1, 0, 1, 0, 0, 1, 1] (bodyOf Try.f44)), .lp (ct [1, 1, 0, 1, 0, 0] (bodyOf Try.f44)), .blk 0, .code (ct [1, 1, 1] (bodyOf Try.f44))] (gabionref15_Blocks_l1_I B0 x0 s.1 s.2.1 s.2.2) L) (hx0 : ∀ s, E (.inr s) → WXI Try.prog 41 n0 (Fin Try.prog Try.f44.results.toList n0 Q) [.code (ct [1, 1, 0, 1, 0, 0, 1, 1] (bodyOf Try.f44)), .lp (ct [1, 1, 0, 1, 0, 0] (bodyOf Try.f44)), .blk 0, .code (ct [1, 1, 1] (bodyOf Try.f44))] (gabionref15_Blocks_l1_X0 B0 x0 s.1 s.2) L) (hE : E o) : WXI Try.prog 41 n0 (Fin Try.prog Try.f44.results.toList n0 Q) [.code (ct [1, 1, 0, 1, 0, 0, 1, 0, 0, 1, 0, 0] (bodyOf Try.f44)), .lp (ct [1, 1, 0, 1, 0, 0, 1, 0, 0, 1, 0, 0] (bodyOf Try.f44)), .blk 2, .blk 1, .code (ct [1, 1, 0, 1, 0, 0, 1, 1] (bodyOf Try.f44)), .lp (ct [1, 1, 0, 1, 0, 0] (bodyOf Try.f44)), .blk 0, .code (ct [1, 1, 1] (bodyOf Try.f44))] (gabionref15_Blocks_l1_I B0 x0 x3 x4 x5) L := by
  unfold gabionref15_Blocks_l1 at h
  rintro _ B _ ⟨hB, v4, v5, b5, n5, c5, h4, h5, rfl, rfl⟩
  obtain ⟨_, _, _, _, _, rfl⟩ := h4.isl
  obtain ⟨_, _, _, _, _, rfl⟩ := h5.isl
  refine WX.seq ?_
  refine WX.seq ?_
  refine WX.reg ?_
  refine WO.q (.mv (v := .int _ _) rfl) rfl rfl ?_
  refine WO.q (.mv (v := .sl _ _ _ _ _ _) rfl) rfl rfl ?_
  refine WO.q (.mv (v := .int _ _) rfl) rfl rfl ?_
  obtain ⟨y6, hy6, h⟩ := Option.bind_eq_some_iff.1 h
  obtain ⟨b_y6, o_y6, _, i_y6, p_y6, r_y6⟩ := h4.at sl40 hy6 .i64
  obtain ⟨_, _, rfl, rfl, rfl⟩ := r_y6
  refine WO.q (.ia i_y6) rfl rfl ?_
  refine WO.q (.ia (ia41_1 _ _)) rfl rfl ?_
  refine WO.q (.lpS rfl p_y6 rfl ti3 rfl) rfl rfl ?_
  refine WO.q (.r fun _ => rfl) rfl rfl ?_
  refine WO.nil ?_
  rcases bsp (decide (x5 < y6.2)) with k7 | k7
  · have q_k7 := of_decide_eq_true k7
    replace h := (if_pos q_k7).symm.trans h
    refine WX.condT rfl k7 ?_
    refine WX.skip ?_
    refine WX.seq ?_
    refine WX.block ?_
    refine WX.seq ?_
    refine WX.reg ?_
    refine WO.q (.mv (v := .sl _ _ _ _ _ _) rfl) rfl rfl ?_
    refine WO.q (.mv (v := .int _ _) rfl) rfl rfl ?_
    obtain ⟨y8, hy8, h⟩ := Option.bind_eq_some_iff.1 h
    obtain ⟨b_y8, o_y8, _, i_y8, p_y8, r_y8⟩ := h4.at sl40 hy8 .i64
    obtain ⟨_, _, rfl, rfl, rfl⟩ := r_y8
    refine WO.q (.ia i_y8) rfl rfl ?_
    refine WO.q (.ia (ia41_0 _ _)) rfl rfl ?_
    refine WO.q (.lpS rfl p_y8 rfl ti3 rfl) rfl rfl ?_
    refine WO.q (.r fun _ => rfl) rfl rfl ?_
    refine WO.nil ?_
    rcases bsp (decide (y8.1 = (-1))) with k9 | k9
    · have q_k9 := of_decide_eq_true k9
      replace h := (if_pos q_k9).symm.trans h
      refine WX.condT rfl k9 ?_
      refine WX.reg ?_
      refine WO.q (.mv (v := .sl _ _ _ _ _ _) rfl) rfl rfl ?_
      refine WO.md (MOp.bs (l := ([(-1)] : List Int)) sl22 (RL.cons Ri RL.nil) (lb rfl) rfl rfl) rfl rfl ?_
      rintro v12 _ ⟨b10, o11, rfl⟩
      obtain ⟨_, _, _, _, _, rfl⟩ := o11.isl
      obtain ⟨y14, hy14, h⟩ := Option.bind_eq_some_iff.1 h
      refine WO.md (MOp.app rfl rfl rfl sl22 h5 (Src.o (i := 0) sl22 o11 rfl) hy14 rfl rfl (fun _ => (.t .h))) rfl rfl ?_
      rintro v18 _ ⟨b15, n16, o17, rfl⟩
      obtain ⟨_, _, _, _, _, rfl⟩ := o17.isl
      refine WO.q (.as (v := .sl _ _ _ _ _ _) rfl) rfl rfl ?_
      refine WO.nil ?_
      refine WX.pop ?_
      refine WX.keep [0, 3, 4, 5] (WX.pk [1] (by decide) ?_) rfl
      exact gabionref15_Blocks_j9_ok h hn hx0 hE _ _ _ ⟨hB, _, _, _, n16, _, h4, o17, rfl, rfl⟩
    · have q_k9 := of_decide_eq_false k9
      replace h := (if_neg q_k9).symm.trans h
      refine WX.condF rfl k9 ?_
      refine WX.reg ?_
      refine WO.q (.mv (v := .sl _ _ _ _ _ _) rfl) rfl rfl ?_
      refine WO.q (.mv (v := .sl _ _ _ _ _ _) rfl) rfl rfl ?_
      refine WO.q (.mv (v := .int _ _) rfl) rfl rfl ?_
      obtain ⟨y21, hy21, h⟩ := Option.bind_eq_some_iff.1 h
      obtain ⟨b_y21, o_y21, _, i_y21, p_y21, r_y21⟩ := h4.at sl40 hy21 .i64
      obtain ⟨_, _, rfl, rfl, rfl⟩ := r_y21
      refine WO.q (.ia i_y21) rfl rfl ?_
      refine WO.q (.ia (ia41_0 _ _)) rfl rfl ?_
      refine WO.q (.lpS rfl p_y21 rfl ti3 rfl) rfl rfl ?_
      refine WO.q (.mv (v := .int _ _) rfl) rfl rfl ?_
      refine WO.q (.r fun _ => rfl) rfl rfl ?_
      refine WO.md (MOp.bs (l := ([(wi64 (y21.1 + x5))] : List Int)) sl22 (RL.cons Ri RL.nil) (lb rfl) rfl rfl) rfl rfl ?_
      rintro v24 _ ⟨b22, o23, rfl⟩
      obtain ⟨_, _, _, _, _, rfl⟩ := o23.isl
      obtain ⟨y26, hy26, h⟩ := Option.bind_eq_some_iff.1 h
      refine WO.md (MOp.app rfl rfl rfl sl22 h5 (Src.o (i := 0) sl22 o23 rfl) hy26 rfl rfl (fun _ => (.t .h))) rfl rfl ?_
      rintro v30 _ ⟨b27, n28, o29, rfl⟩
      obtain ⟨_, _, _, _, _, rfl⟩ := o29.isl
      refine WO.q (.as (v := .sl _ _ _ _ _ _) rfl) rfl rfl ?_
      refine WO.nil ?_
      refine WX.pop ?_
      refine WX.keep [0, 3, 4, 5] (WX.pk [1] (by decide) ?_) rfl
      exact gabionref15_Blocks_j9_ok h hn hx0 hE _ _ _ ⟨hB, _, _, _, n28, _, h4, o29, rfl, rfl⟩
  · have q_k7 := of_decide_eq_false k7
    replace h := (if_neg q_k7).symm.trans h
    refine WX.condF rfl k7 ?_
    refine WX.exit rfl ?_
    refine WX.pop ?_
    refine WX.keep [0, 3, 4] (WX.pk [0] (by decide) ?_) rfl
    obtain rfl := Option.some.inj h
    exact hx0 _ hE _ _ _ ⟨hB, _, _, _, n5, _, h4, h5, rfl, rfl⟩
theorem gabionref15_Blocks_l1_ok {B0 : Kn} {L : Own} {n0 : Nat} {x0 : List (Int × Int)} {x3 : List Int} {x4 : Int} {x5 : Int} {Q : AV → St → Prop} {d : Nat} {e : ((List Int) × Int)} (h : iter (fun (s : (List Int) × Int × Int) => gabionref15_Blocks_l1 x0 s.1 s.2.1 s.2.2) d (x3, x4, x5) = some e) (g0 : ∀ s, e = s → WXI Try.prog 41 n0 (Fin Try.prog Try.f44.results.toList n0 Q) [.code (ct [1, 1, 0, 1, 0, 0, 1, 1] (bodyOf Try.f44)), .lp (ct [1, 1, 0, 1, 0, 0] (bodyOf Try.f44)), .blk 0, .code (ct [1, 1, 1] (bodyOf Try.f44))] (gabionref15_Blocks_l1_X0 B0 x0 s.1 s.2) L) : WXI Try.prog 41 n0 (Fin Try.prog Try.f44.results.toList n0 Q) [.code (ct [1, 1, 0, 1, 0, 0, 1, 0, 0, 1, 0, 0] (bodyOf Try.f44)), .lp (ct [1, 1, 0, 1, 0, 0, 1, 0, 0, 1, 0, 0] (bodyOf Try.f44)), .blk 2, .blk 1, .code (ct [1, 1, 0, 1, 0, 0, 1, 1] (bodyOf Try.f44)), .lp (ct [1, 1, 0, 1, 0, 0] (bodyOf Try.f44)), .blk 0, .code (ct [1, 1, 1] (bodyOf Try.f44))] (gabionref15_Blocks_l1_I B0 x0 x3 x4 x5) L :=
  iter_ok (I := fun s => gabionref15_Blocks_l1_I B0 x0 s.1 s.2.1 s.2.2) (D := fun e => (∀ s, e = s → WXI Try.prog 41 n0 (Fin Try.prog Try.f44.results.toList n0 Q) [.code (ct [1, 1, 0, 1, 0, 0, 1, 1] (bodyOf Try.f44)), .lp (ct [1, 1, 0, 1, 0, 0] (bodyOf Try.f44)), .blk 0, .code (ct [1, 1, 1] (bodyOf Try.f44))] (gabionref15_Blocks_l1_X0 B0 x0 s.1 s.2) L)) (fun E hn hx s o ho hE => gabionref15_Blocks_l1_s ho hn (fun s hs => (hx _ hs) _ rfl)  hE) h g0
theorem gabionref15_Blocks_l0_s {B0 : Kn} {L : Own} {n0 : Nat} {x0 : List (Int × Int)} {x3 : List Int} {x4 : Int} {Q : AV → St → Prop} {E : ((List Int) × Int) ⊕ (List Int) → Prop} {o : ((List Int) × Int) ⊕ (List Int)} (h : gabionref15_Blocks_l0 x0 x3 x4 = some o) (hn : ∀ s, E (.inl s) → WXI Try.prog 41 n0 (Fin Try.prog Try.f44.results.toList n0 Q) [.lp (ct [1, 1, 0, 1, 0, 0] (bodyOf Try.f44)), .blk 0, .code (ct [1, 1, 1] (bodyOf Try.f44))] (gabionref15_Blocks_l0_I B0 x0 s.1 s.2) L) (hx0 : ∀ s, E (.inr s) → WXI Try.prog 41 n0 (Fin Try.prog Try.f44.results.toList n0 Q) [.code (ct [1, 1, 1] (bodyOf Try.f44))] (gabionref15_Blocks_l0_X0 B0 s) L) (hE : E o) : WXI Try.prog 41 n0 (Fin Try.prog Try.f44.results.toList n0 Q) [.code (ct [1, 1, 0, 1, 0, 0] (bodyOf Try.f44)), .lp (ct [1, 1, 0, 1, 0, 0] (bodyOf Try.f44)), .blk 0, .code (ct [1, 1, 1] (bodyOf Try.f44))] (gabionref15_Blocks_l0_I B0 x0 x3 x4) L := by
  unfold gabionref15_Blocks_l0 at h
  rintro _ B _ ⟨hB, v1, v2, b2, n2, c2, h1, h2, rfl, rfl⟩
  obtain ⟨_, _, _, _, _, rfl⟩ := h1.isl
  obtain ⟨_, _, _, _, _, rfl⟩ := h2.isl
  refine WX.seq ?_
  refine WX.seq ?_
  refine WX.reg ?_
  refine WO.q (.mv (v := .int _ _) rfl) rfl rfl ?_
  refine WO.q (.mv (v := .sl _ _ _ _ _ _) rfl) rfl rfl ?_
  refine WO.q (.len rfl rfl rfl (sl40.len h1.isl)) rfl rfl ?_
  refine WO.q (.r fun _ => rfl) rfl rfl ?_
  refine WO.nil ?_
  rcases bsp (decide (x4 < (x0.length : Int))) with k3 | k3
  · have q_k3 := of_decide_eq_true k3
    replace h := (if_pos q_k3).symm.trans h
    refine WX.condT rfl k3 ?_
    refine WX.skip ?_
    refine WX.seq ?_
    refine WX.block ?_
    refine WX.seq ?_
    refine WX.reg ?_
    refine WO.q (.as (v := .int _ _) rfl) rfl rfl ?_
    refine WO.nil ?_
    refine WX.block ?_
    refine WX.loop ?_
    obtain ⟨e33, he33, h⟩ := Option.bind_eq_some_iff.1 h
    refine WX.keep [0, 3, 4, 5] (WX.pk [0] (by decide) ?_) rfl
    refine gabionref15_Blocks_l1_ok he33 ?_ _ _ _ ⟨hB, _, _, _, n2, _, h1, h2, rfl, rfl⟩
    · intro s36 he_
      subst he_
      replace h := h
      rintro _ B _ ⟨hB, v34, v35, b35, n35, c35, h34, h35, rfl, rfl⟩
      obtain ⟨_, _, _, _, _, rfl⟩ := h34.isl
      obtain ⟨_, _, _, _, _, rfl⟩ := h35.isl
      refine WX.reg ?_
      refine WO.q (.mv (v := .int _ _) rfl) rfl rfl ?_
      refine WO.q (.r fun _ => rfl) rfl rfl ?_
      refine WO.q (.as (v := .int _ _) rfl) rfl rfl ?_
      refine WO.nil ?_
      refine WX.keepL [0, 3, 4] (WX.pk [0] (by decide) ?_) rfl
      obtain rfl := Option.some.inj h
      exact hn _ hE _ _ _ ⟨hB, _, _, _, n35, _, h34, h35, rfl, rfl⟩
  · have q_k3 := of_decide_eq_false k3
    replace h := (if_neg q_k3).symm.trans h
    refine WX.condF rfl k3 ?_
    refine WX.exit rfl ?_
    refine WX.keep [3] (WX.pk [0] (by decide) ?_) rfl
    obtain rfl := Option.some.inj h
    exact hx0 _ hE _ _ _ ⟨hB, _, _, n2, _, h2, rfl, rfl⟩
theorem gabionref15_Blocks_l0_ok {B0 : Kn} {L : Own} {n0 : Nat} {x0 : List (Int × Int)} {x3 : List Int} {x4 : Int} {Q : AV → St → Prop} {d : Nat} {e : (List Int)} (h : iter (fun (s : (List Int) × Int) => gabionref15_Blocks_l0 x0 s.1 s.2) d (x3, x4) = some e) (g0 : ∀ s, e = s → WXI Try.prog 41 n0 (Fin Try.prog Try.f44.results.toList n0 Q) [.code (ct [1, 1, 1] (bodyOf Try.f44))] (gabionref15_Blocks_l0_X0 B0 s) L) : WXI Try.prog 41 n0 (Fin Try.prog Try.f44.results.toList n0 Q) [.code (ct [1, 1, 0, 1, 0, 0] (bodyOf Try.f44)), .lp (ct [1, 1, 0, 1, 0, 0] (bodyOf Try.f44)), .blk 0, .code (ct [1, 1, 1] (bodyOf Try.f44))] (gabionref15_Blocks_l0_I B0 x0 x3 x4) L :=
  iter_ok (I := fun s => gabionref15_Blocks_l0_I B0 x0 s.1 s.2) (D := fun e => (∀ s, e = s → WXI Try.prog 41 n0 (Fin Try.prog Try.f44.results.toList n0 Q) [.code (ct [1, 1, 1] (bodyOf Try.f44))] (gabionref15_Blocks_l0_X0 B0 s) L)) (fun E hn hx s o ho hE => gabionref15_Blocks_l0_s ho hn (fun s hs => (hx _ hs) _ rfl)  hE) h g0
theorem gabionref15_Blocks_ok {B0 : Kn} {L : Own} {a0 : List (Int × Int)} {v0_0 : AV} {r : (List Int)} (g0_0 : RSl EPIi64Ii64Q B0 v0_0 a0) (h : gabionref15_Blocks a0 = some r) : ∀ st, Hp B0 L st → ASpec Try.prog 44 [v0_0] st (gabionref15_Blocks_P B0 L r) := by
  unfold gabionref15_Blocks at h
  refine bodyA (A := []) Try.func44 rfl (c := bodyOf Try.f44) rfl Try.ntmps44 (lb rfl) fun n0 => ?_
  have hB := KLe.refl B0
  obtain ⟨_, _, _, _, _, rfl⟩ := g0_0.isl
  refine WX.seq ?_
  refine WX.reg ?_
  refine WO.q (.as (v := .sl _ _ _ _ _ _) rfl) rfl rfl ?_
  refine WO.nil ?_
  refine WX.seq ?_
  refine WX.reg ?_
  refine WO.q (.as (v := .sl _ _ _ _ _ _) rfl) rfl rfl ?_
  refine WO.nil ?_
  refine WX.seq ?_
  refine WX.seq ?_
  refine WX.reg ?_
  refine WO.q (.as (v := .int _ _) rfl) rfl rfl ?_
  refine WO.nil ?_
  refine WX.block ?_
  refine WX.loop ?_
  obtain ⟨e38, he38, h⟩ := Option.bind_eq_some_iff.1 h
  refine WX.keep [0, 3, 4] (WX.pk [] (by decide) (WX.addn [0] ?_)) rfl
  refine gabionref15_Blocks_l0_ok he38 ?_ _ _ _ ⟨hB, _, _, 0, true, [], g0_0, OSl.none _ _, rfl, rfl⟩
  · intro s40 he_
    subst he_
    replace h := h
    rintro _ B _ ⟨hB, v39, b39, n39, c39, h39, rfl, rfl⟩
    obtain ⟨_, _, _, _, _, rfl⟩ := h39.isl
    refine WX.seq ?_
    refine WX.reg ?_
    refine WO.q (.mv (v := .sl _ _ _ _ _ _) rfl) rfl rfl ?_
    refine WO.q (.as (v := .sl _ _ _ _ _ _) rfl) rfl rfl ?_
    refine WO.nil ?_
    obtain rfl := Option.some.inj h
    exact WX.ret (rs_ (rs_tmp rfl rs_nil)) fun st hp => ⟨_, _, hB, (hp.pk [0] (by decide)), _, _, n39, _, rfl, rfl, h39⟩
def gabionref15_Append_P (B : Kn) (L : Own) (r : (List (Int × Int)) × Int) : AV → St → Prop := C1 B L fun B' v e0 => ∃ w0 b0 n0 c0, v = .tup [w0, .int .i64 r.2] ∧ e0 = oe b0 n0 c0 ∧ OSl EPIi64Ii64Q B' w0 b0 n0 c0 r.1
theorem gabionref15_Append_ok {B0 : Kn} {L : Own} {a0 : List (Int × Int)} {a1 : Int} {a2 : Int} {v0_0 : AV} {r : (List (Int × Int)) × Int} (g0_0 : RSl EPIi64Ii64Q B0 v0_0 a0) (h : gabionref15_Append a0 a1 a2 = some r) : ∀ st, Hp B0 L st → ASpec Try.prog 28 [v0_0, .int .i64 a1, .int .i64 a2] st (gabionref15_Append_P B0 L r) := by
  unfold gabionref15_Append at h
  refine bodyA (A := []) Try.func28 rfl (c := bodyOf Try.f28) rfl Try.ntmps28 (lb rfl) fun n0 => ?_
  have hB := KLe.refl B0
  obtain ⟨_, _, _, _, _, rfl⟩ := g0_0.isl
  refine WX.seq ?_
  refine WX.reg ?_
  refine WO.q (.as (v := .sl _ _ _ _ _ _) rfl) rfl rfl ?_
  refine WO.q (.as (v := .int _ _) rfl) rfl rfl ?_
  refine WO.nil ?_
  refine WX.seq ?_
  refine WX.reg ?_
  refine WO.q (.mv (v := .sl _ _ _ _ _ _) rfl) rfl rfl ?_
  obtain ⟨y1, hy1, h⟩ := Option.bind_eq_some_iff.1 h
  refine WO.cS rfl rfl (gabionref15_Right_ok g0_0 hy1) rfl rfl rfl ?_
  rintro _ rfl
  refine WO.q (.as (v := .bool _) rfl) rfl rfl ?_
  refine WO.nil ?_
  refine WX.seq ?_
  refine WX.seq ?_
  refine WX.reg ?_
  refine WO.q (.mv (v := .bool _) rfl) rfl rfl ?_
  refine WO.q (.r fun _ => rfl) rfl rfl ?_
  refine WO.nil ?_
  rcases bsp y1 with k2 | k2
  · replace h := (if_pos k2).symm.trans h
    refine WX.condF rfl (f_not k2) ?_
    refine WX.skip ?_
    refine WX.seq ?_
    refine WX.reg ?_
    refine WO.q (.mv (v := .int _ _) rfl) rfl rfl ?_
    refine WO.q (.mv (v := .int _ _) rfl) rfl rfl ?_
    refine WO.q (.bd (bd41_0_1 (cI rfl) (cI rfl))) rfl rfl ?_
    refine WO.md (MOp.bs (l := ([(a1, a2)] : List (Int × Int))) sl40 (RL.cons (Rp Ri Ri) RL.nil) (lb rfl) rfl rfl) rfl rfl ?_
    rintro v5 _ ⟨b3, o4, rfl⟩
    obtain ⟨_, _, _, _, _, rfl⟩ := o4.isl
    obtain ⟨y7, hy7, h⟩ := Option.bind_eq_some_iff.1 h
    refine WO.cS rfl rfl (lendC (j := 0) o4 rfl fun _ K9 g8 => gabionref15_Right_ok g8 hy7) rfl rfl rfl ?_
    rintro _ rfl
    refine WO.q (.as (v := .bool _) rfl) rfl rfl ?_
    refine WO.nil ?_
    refine WX.seq ?_
    refine WX.seq ?_
    refine WX.reg ?_
    refine WO.q (.mv (v := .bool _) rfl) rfl rfl ?_
    refine WO.q (.r fun _ => rfl) rfl rfl ?_
    refine WO.nil ?_
    rcases bsp y7 with k10 | k10
    · replace h := (if_pos k10).symm.trans h
      refine WX.condF rfl (f_not k10) ?_
      refine WX.skip ?_
      refine WX.seq ?_
      refine WX.reg ?_
      refine WO.q (.mv (v := .sl _ _ _ _ _ _) rfl) rfl rfl ?_
      obtain ⟨y11, hy11, h⟩ := Option.bind_eq_some_iff.1 h
      refine WO.c1 rfl rfl (gabionref15_Blocks_ok g0_0 hy11) rfl rfl rfl ?_
      rintro _ B _ hK ⟨v12, b13, n14, c15, rfl, rfl, h16⟩
      obtain ⟨_, _, _, _, _, rfl⟩ := h16.isl
      replace g0_0 := g0_0.up hK
      replace o4 := o4.up hK
      replace hB := hB.trans hK
      refine WO.q (.as (v := .sl _ _ _ _ _ _) rfl) rfl rfl ?_
      refine WO.nil ?_
      refine WX.seq ?_
      refine WX.reg ?_
      refine WO.q (.mv (v := .int _ _) rfl) rfl rfl ?_
      refine WO.q (.mv (v := .int _ _) rfl) rfl rfl ?_
      refine WO.q (.bd (bd41_0_1 (cI rfl) (cI rfl))) rfl rfl ?_
      refine WO.md (MOp.bs (l := ([(a1, a2)] : List (Int × Int))) sl40 (RL.cons (Rp Ri Ri) RL.nil) (lb rfl) rfl rfl) rfl rfl ?_
      rintro v19 _ ⟨b17, o18, rfl⟩
      obtain ⟨_, _, _, _, _, rfl⟩ := o18.isl
      refine WO.fz (j := 0) o18 rfl ?_
      intro B hK g21
      replace o4 := o4.up hK
      replace h16 := h16.up hK
      replace hB := hB.trans hK
      obtain ⟨y22, hy22, h⟩ := Option.bind_eq_some_iff.1 h
      refine WO.c1 rfl rfl (gabionref15_Blocks_ok g21 hy22) rfl rfl rfl ?_
      rintro _ B _ hK ⟨v23, b24, n25, c26, rfl, rfl, h27⟩
      obtain ⟨_, _, _, _, _, rfl⟩ := h27.isl
      replace g21 := g21.up hK
      replace o4 := o4.up hK
      replace h16 := h16.up hK
      replace hB := hB.trans hK
      refine WO.q (.as (v := .sl _ _ _ _ _ _) rfl) rfl rfl ?_
      refine WO.nil ?_
      refine WX.seq ?_
      refine WX.reg ?_
      refine WO.q (.mv (v := .sl _ _ _ _ _ _) rfl) rfl rfl ?_
      refine WO.q (.mv (v := .sl _ _ _ _ _ _) rfl) rfl rfl ?_
      obtain ⟨y28, hy28, h⟩ := Option.bind_eq_some_iff.1 h
      refine WO.md (MOp.app rfl rfl rfl sl22 h16 (Src.o (i := 0) sl22 h27 rfl) hy28 rfl rfl (fun _ => (.t .h))) rfl rfl ?_
      rintro v32 _ ⟨b29, n30, o31, rfl⟩
      obtain ⟨_, _, _, _, _, rfl⟩ := o31.isl
      refine WO.q (.as (v := .sl _ _ _ _ _ _) rfl) rfl rfl ?_
      refine WO.nil ?_
      refine WX.seq ?_
      refine WX.reg ?_
      refine WO.q (.mv (v := .sl _ _ _ _ _ _) rfl) rfl rfl ?_
      refine WO.fz (j := 1) o31 rfl ?_
      intro B hK g33
      replace o4 := o4.up hK
      replace h27 := h27.up hK
      replace hB := hB.trans hK
      obtain ⟨y34, hy34, h⟩ := Option.bind_eq_some_iff.1 h
      refine WO.c1 rfl rfl (gabionref15_Runs_ok g33 hy34) rfl rfl rfl ?_
      rintro _ B _ hK ⟨v35, b36, n37, c38, rfl, rfl, h39⟩
      obtain ⟨_, _, _, _, _, rfl⟩ := h39.isl
      replace g33 := g33.up hK
      replace o4 := o4.up hK
      replace h27 := h27.up hK
      replace hB := hB.trans hK
      refine WO.q (.as (v := .sl _ _ _ _ _ _) rfl) rfl rfl ?_
      refine WO.nil ?_
      refine WX.seq ?_
      refine WX.reg ?_
      refine WO.q (.mv (v := .sl _ _ _ _ _ _) rfl) rfl rfl ?_
      obtain ⟨y40, hy40, h⟩ := Option.bind_eq_some_iff.1 h
      refine WO.cS rfl rfl (lendC (j := 0) h39 rfl fun _ K42 g41 => gabionref15_Right_ok g41 hy40) rfl rfl rfl ?_
      rintro _ rfl
      refine WO.q (.as (v := .bool _) rfl) rfl rfl ?_
      refine WO.nil ?_
      refine WX.seq ?_
      refine WX.seq ?_
      refine WX.reg ?_
      refine WO.q (.mv (v := .bool _) rfl) rfl rfl ?_
      refine WO.q (.r fun _ => rfl) rfl rfl ?_
      refine WO.nil ?_
      rcases bsp y40 with k43 | k43
      · replace h := (if_pos k43).symm.trans h
        refine WX.condF rfl (f_not k43) ?_
        refine WX.skip ?_
        refine WX.seq ?_
        refine WX.reg ?_
        refine WO.q (.mv (v := .sl _ _ _ _ _ _) rfl) rfl rfl ?_
        refine WO.q (.as (v := .sl _ _ _ _ _ _) rfl) rfl rfl ?_
        refine WO.q (.as (v := .int _ _) rfl) rfl rfl ?_
        refine WO.nil ?_
        obtain rfl := Option.some.inj h
        exact WX.ret (rs_ (rs_tmp rfl (rs_tmp rfl rs_nil))) fun st hp => ⟨_, _, hB, (hp.pk [0] (by decide)), _, _, n37, _, rfl, rfl, h39⟩
      · replace h := (if_neg (bnt k43)).symm.trans h
        refine WX.condT rfl (t_not k43) ?_
        refine WX.seq ?_
        refine WX.reg ?_
        refine WO.q (.as (v := .sl _ _ _ _ _ _) rfl) rfl rfl ?_
        refine WO.q (.as (v := .int _ _) rfl) rfl rfl ?_
        refine WO.nil ?_
        obtain rfl := Option.some.inj h
        exact WX.ret (rs_ (rs_tmp rfl (rs_tmp rfl rs_nil))) fun st hp => ⟨_, _, hB, ((hp.pk [] (by decide)).skip 0), _, 0, true, [], rfl, rfl, OSl.none _ _⟩
    · replace h := (if_neg (bnt k10)).symm.trans h
      refine WX.condT rfl (t_not k10) ?_
      refine WX.seq ?_
      refine WX.reg ?_
      refine WO.q (.as (v := .sl _ _ _ _ _ _) rfl) rfl rfl ?_
      refine WO.q (.as (v := .int _ _) rfl) rfl rfl ?_
      refine WO.nil ?_
      obtain rfl := Option.some.inj h
      exact WX.ret (rs_ (rs_tmp rfl (rs_tmp rfl rs_nil))) fun st hp => ⟨_, _, hB, ((hp.pk [] (by decide)).skip 0), _, 0, true, [], rfl, rfl, OSl.none _ _⟩
  · replace h := (if_neg (bnt k2)).symm.trans h
    refine WX.condT rfl (t_not k2) ?_
    refine WX.seq ?_
    refine WX.reg ?_
    refine WO.q (.as (v := .sl _ _ _ _ _ _) rfl) rfl rfl ?_
    refine WO.q (.as (v := .int _ _) rfl) rfl rfl ?_
    refine WO.nil ?_
    obtain rfl := Option.some.inj h
    exact WX.ret (rs_ (rs_tmp rfl (rs_tmp rfl rs_nil))) fun st hp => ⟨_, _, hB, ((hp.pk [] (by decide)).skip 0), _, 0, true, [], rfl, rfl, OSl.none _ _⟩
end Gab
