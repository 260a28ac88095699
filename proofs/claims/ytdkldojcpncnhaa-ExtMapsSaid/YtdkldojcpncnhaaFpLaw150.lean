/- The Go code comes to what the Lean functions say. Written by a program (gp.py). -/
import Derived.Test.YtdkldojcpncnhaaFd
import Derived.Test.YtdkldojcpncnhaaTy
import Derived.Test.YtdkldojcpncnhaaFpRef150
set_option linter.unusedSimpArgs false
set_option linter.unusedVariables false
set_option maxHeartbeats 4000000
set_option maxRecDepth 100000
namespace Gab
open Go Go.Proofs
def gabionlaw15_tame_P (B : Kn) (L : Own) (r : (List (Int × Int))) : AV → St → Prop := C1 B L fun B' v e0 => ∃ w0 b0 n0 c0, v = w0 ∧ e0 = oe b0 n0 c0 ∧ OSl EPIi64Ii64Q B' w0 b0 n0 c0 r
def gabionlaw15_tame_j12_I (B0 : Kn) (x3 : List Int) (x6 : Int) (x13 : List (Int × Int)) (x15 : Int) (x28 : Int) (x29 : Int) : Fr → Kn → Own → Prop := fun fr B A => KLe B0 B ∧ ∃ v20 b20 n20 c20 v21, OSl (Ty.int .i64) B v20 b20 n20 c20 x3 ∧ RSl EPIi64Ii64Q B v21 x13 ∧ fr = [(3, v20), (6, .int .i64 x6), (13, v21), (14, .int .i64 (x13.length : Int)), (15, .int .i64 x15), (28, .int .i64 x28), (29, .int .i64 x29)] ∧ A = [oe b20 n20 c20]
def gabionlaw15_tame_l1_I (B0 : Kn) (x6 : Int) (x13 : List (Int × Int)) (x28 : Int) (x3 : List Int) (x15 : Int) (x29 : Int) : Fr → Kn → Own → Prop := fun fr B A => KLe B0 B ∧ ∃ v7 b7 n7 c7 v8, OSl (Ty.int .i64) B v7 b7 n7 c7 x3 ∧ RSl EPIi64Ii64Q B v8 x13 ∧ fr = [(3, v7), (6, .int .i64 x6), (13, v8), (14, .int .i64 (x13.length : Int)), (15, .int .i64 x15), (28, .int .i64 x28), (29, .int .i64 x29)] ∧ A = [oe b7 n7 c7]
def gabionlaw15_tame_l1_X0 (B0 : Kn) (x3 : List Int) (x13 : List (Int × Int)) (x15 : Int) : Fr → Kn → Own → Prop := fun fr B A => KLe B0 B ∧ ∃ v48 b48 n48 c48 v49, OSl (Ty.int .i64) B v48 b48 n48 c48 x3 ∧ RSl EPIi64Ii64Q B v49 x13 ∧ fr = [(3, v48), (13, v49), (14, .int .i64 (x13.length : Int)), (15, .int .i64 x15)] ∧ A = [oe b48 n48 c48]
def gabionlaw15_tame_l0_I (B0 : Kn) (x13 : List (Int × Int)) (x3 : List Int) (x15 : Int) : Fr → Kn → Own → Prop := fun fr B A => KLe B0 B ∧ ∃ v2 b2 n2 c2 v3, OSl (Ty.int .i64) B v2 b2 n2 c2 x3 ∧ RSl EPIi64Ii64Q B v3 x13 ∧ fr = [(3, v2), (13, v3), (14, .int .i64 (x13.length : Int)), (15, .int .i64 x15)] ∧ A = [oe b2 n2 c2]
def gabionlaw15_tame_l0_X0 (B0 : Kn) (x3 : List Int) : Fr → Kn → Own → Prop := fun fr B A => KLe B0 B ∧ ∃ v50 b50 n50 c50, OSl (Ty.int .i64) B v50 b50 n50 c50 x3 ∧ fr = [(3, v50)] ∧ A = [oe b50 n50 c50]
theorem gabionlaw15_tame_j12_ok {B0 : Kn} {L : Own} {n0 : Nat} {x3 : List Int} {x6 : Int} {x13 : List (Int × Int)} {x15 : Int} {x28 : Int} {x29 : Int} {Q : AV → St → Prop} {E : ((List Int) × Int × Int) ⊕ ((List Int) × Int) → Prop} {o : ((List Int) × Int × Int) ⊕ ((List Int) × Int)} (h : gabionlaw15_tame_j12 x3 x6 x13 x15 x28 x29 = some o) (hn : ∀ s, E (.inl s) → WXI Try.prog 47 n0 (Fin Try.prog Try.f23.results.toList n0 Q) [.lp (ct [1, 1, 0, 1, 0, 0, 1, 1, 0, 0, 1, 1, 1, 0, 0] (bodyOf Try.f23)), .blk 2, .blk 1, .code (ct [1, 1, 0, 1, 0, 0, 1, 1, 1] (bodyOf Try.f23)), .lp (ct [1, 1, 0, 1, 0, 0] (bodyOf Try.f23)), .blk 0, .code (ct [1, 1, 1] (bodyOf Try.f23))] (gabionlaw15_tame_l1_I B0 x6 x13 x28 s.1 s.2.1 s.2.2) L) (hx0 : ∀ s, E (.inr s) → WXI Try.prog 47 n0 (Fin Try.prog Try.f23.results.toList n0 Q) [.code (ct [1, 1, 0, 1, 0, 0, 1, 1, 1] (bodyOf Try.f23)), .lp (ct [1, 1, 0, 1, 0, 0] (bodyOf Try.f23)), .blk 0, .code (ct [1, 1, 1] (bodyOf Try.f23))] (gabionlaw15_tame_l1_X0 B0 s.1 x13 s.2) L) (hE : E o) : WXI Try.prog 47 n0 (Fin Try.prog Try.f23.results.toList n0 Q) [.code (ct [1, 1, 0, 1, 0, 0, 1, 1, 0, 0, 1, 1, 1, 0, 0, 1, 1, 1] (bodyOf Try.f23)), .lp (ct [1, 1, 0, 1, 0, 0, 1, 1, 0, 0, 1, 1, 1, 0, 0] (bodyOf Try.f23)), .blk 2, .blk 1, .code (ct [1, 1, 0, 1, 0, 0, 1, 1, 1] (bodyOf Try.f23)), .lp (ct [1, 1, 0, 1, 0, 0] (bodyOf Try.f23)), .blk 0, .code (ct [1, 1, 1] (bodyOf Try.f23))] (gabionlaw15_tame_j12_I B0 x3 x6 x13 x15 x28 x29) L := by
  unfold gabionlaw15_tame_j12 at h
  rintro _ B _ ⟨hB, v20, b20, n20, c20, v21, h20, h21, rfl, rfl⟩
  obtain ⟨_, _, _, _, _, rfl⟩ := h20.isl
  obtain ⟨_, _, _, _, _, rfl⟩ := h21.isl
  refine WX.reg ?_
  refine WO.q (.r fun _ => rfl) rfl rfl ?_
  refine WO.q (.mv (v := .int _ _) rfl) rfl rfl ?_
  refine WO.nil ?_
  refine WX.keepL [3, 6, 13, 14, 15, 28, 29] (WX.pk [0] (by decide) ?_) rfl
  obtain rfl := Option.some.inj h
  exact hn _ hE _ _ _ ⟨hB, _, _, n20, _, _, h20, h21, rfl, rfl⟩
theorem gabionlaw15_tame_l1_s {B0 : Kn} {L : Own} {n0 : Nat} {x6 : Int} {x13 : List (Int × Int)} {x28 : Int} {x3 : List Int} {x15 : Int} {x29 : Int} {Q : AV → St → Prop} {E : ((List Int) × Int × Int) ⊕ ((List Int) × Int) → Prop} {o : ((List Int) × Int × Int) ⊕ ((List Int) × Int)} (h : gabionlaw15_tame_l1 x6 x13 x28 x3 x15 x29 = some o) (hn : ∀ s, E (.inl s) → WXI Try.prog 47 n0 (Fin Try.prog Try.f23.results.toList n0 Q) [.lp (ct [1, 1, 0, 1, 0, 0, 1, 1, 0, 0, 1, 1, 1, 0, 0] (bodyOf Try.f23)), .blk 2, .blk 1, .code (ct [1, 1, 0, 1, 0, 0, 1, 1, 1] (bodyOf Try.f23)), .lp (ct [1, 1, 0, 1, 0, 0] (bodyOf Try.f23)), .blk 0, .code (ct [1, 1, 1] (bodyOf Try.f23))] (gabionlaw15_tame_l1_I B0 x6 x13 x28 s.1 s.2.1 s.2.2) L) (hx0 : ∀ s, E (.inr s) → WXI Try.prog 47 n0 (Fin Try.prog Try.f23.results.toList n0 Q) [.code (ct [1, 1, 0, 1, 0, 0, 1, 1, 1] (bodyOf Try.f23)), .lp (ct [1, 1, 0, 1, 0, 0] (bodyOf Try.f23)), .blk 0, .code (ct [1, 1, 1] (bodyOf Try.f23))] (gabionlaw15_tame_l1_X0 B0 s.1 x13 s.2) L) (hE : E o) : WXI Try.prog 47 n0 (Fin Try.prog Try.f23.results.toList n0 Q) [.code (ct [1, 1, 0, 1, 0, 0, 1, 1, 0, 0, 1, 1, 1, 0, 0] (bodyOf Try.f23)), .lp (ct [1, 1, 0, 1, 0, 0, 1, 1, 0, 0, 1, 1, 1, 0, 0] (bodyOf Try.f23)), .blk 2, .blk 1, .code (ct [1, 1, 0, 1, 0, 0, 1, 1, 1] (bodyOf Try.f23)), .lp (ct [1, 1, 0, 1, 0, 0] (bodyOf Try.f23)), .blk 0, .code (ct [1, 1, 1] (bodyOf Try.f23))] (gabionlaw15_tame_l1_I B0 x6 x13 x28 x3 x15 x29) L := by
  unfold gabionlaw15_tame_l1 at h
  rintro _ B _ ⟨hB, v7, b7, n7, c7, v8, h7, h8, rfl, rfl⟩
  obtain ⟨_, _, _, _, _, rfl⟩ := h7.isl
  obtain ⟨_, _, _, _, _, rfl⟩ := h8.isl
  refine WX.seq ?_
  refine WX.reg ?_
  refine WO.q (.r fun _ => rfl) rfl rfl ?_
  refine WO.nil ?_
  refine WX.seq ?_
  rcases bsp (decide (x29 < x28)) with k9 | k9
  · have q_k9 := of_decide_eq_true k9
    replace h := (if_pos q_k9).symm.trans h
    refine WX.condT rfl k9 ?_
    refine WX.skip ?_
    refine WX.seq ?_
    refine WX.block ?_
    refine WX.seq ?_
    refine WX.reg ?_
    refine WO.q (.mv (v := .int _ _) rfl) rfl rfl ?_
    refine WO.q (.as (v := .int _ _) rfl) rfl rfl ?_
    refine WO.nil ?_
    refine WX.seq ?_
    refine WX.reg ?_
    refine WO.q (.mv (v := .int _ _) rfl) rfl rfl ?_
    refine WO.q (.r fun _ => rfl) rfl rfl ?_
    refine WO.nil ?_
    rcases bsp (decide (x6 < 0)) with k10 | k10
    · have q_k10 := of_decide_eq_true k10
      replace h := (if_pos q_k10).symm.trans h
      refine WX.condT rfl k10 ?_
      refine WX.reg ?_
      refine WO.q (.mv (v := .sl _ _ _ _ _ _) rfl) rfl rfl ?_
      refine WO.md (MOp.bs (l := ([(-1)] : List Int)) sl22 (RL.cons Ri RL.nil) (lb rfl) rfl rfl) rfl rfl ?_
      rintro v13 _ ⟨b11, o12, rfl⟩
      obtain ⟨_, _, _, _, _, rfl⟩ := o12.isl
      obtain ⟨y15, hy15, h⟩ := Option.bind_eq_some_iff.1 h
      refine WO.md (MOp.app rfl rfl rfl sl22 h7 (Src.o (i := 0) sl22 o12 rfl) hy15 rfl rfl (fun _ => (.t .h))) rfl rfl ?_
      rintro v19 _ ⟨b16, n17, o18, rfl⟩
      obtain ⟨_, _, _, _, _, rfl⟩ := o18.isl
      refine WO.q (.as (v := .sl _ _ _ _ _ _) rfl) rfl rfl ?_
      refine WO.nil ?_
      refine WX.pop ?_
      refine WX.keep [3, 6, 13, 14, 15, 28, 29] (WX.pk [1] (by decide) ?_) rfl
      exact gabionlaw15_tame_j12_ok h hn hx0 hE _ _ _ ⟨hB, _, _, n17, _, _, o18, h8, rfl, rfl⟩
    · have q_k10 := of_decide_eq_false k10
      replace h := (if_neg q_k10).symm.trans h
      refine WX.condF rfl k10 ?_
      refine WX.reg ?_
      refine WO.q (.mv (v := .sl _ _ _ _ _ _) rfl) rfl rfl ?_
      refine WO.q (.mv (v := .int _ _) rfl) rfl rfl ?_
      refine WO.q (.mv (v := .int _ _) rfl) rfl rfl ?_
      refine WO.q (.r fun _ => rfl) rfl rfl ?_
      refine WO.md (MOp.bs (l := ([(wi64 (x6 + x29))] : List Int)) sl22 (RL.cons Ri RL.nil) (lb rfl) rfl rfl) rfl rfl ?_
      rintro v24 _ ⟨b22, o23, rfl⟩
      obtain ⟨_, _, _, _, _, rfl⟩ := o23.isl
      obtain ⟨y26, hy26, h⟩ := Option.bind_eq_some_iff.1 h
      refine WO.md (MOp.app rfl rfl rfl sl22 h7 (Src.o (i := 0) sl22 o23 rfl) hy26 rfl rfl (fun _ => (.t .h))) rfl rfl ?_
      rintro v30 _ ⟨b27, n28, o29, rfl⟩
      obtain ⟨_, _, _, _, _, rfl⟩ := o29.isl
      refine WO.q (.as (v := .sl _ _ _ _ _ _) rfl) rfl rfl ?_
      refine WO.nil ?_
      refine WX.pop ?_
      refine WX.keep [3, 6, 13, 14, 15, 28, 29] (WX.pk [1] (by decide) ?_) rfl
      exact gabionlaw15_tame_j12_ok h hn hx0 hE _ _ _ ⟨hB, _, _, n28, _, _, o29, h8, rfl, rfl⟩
  · have q_k9 := of_decide_eq_false k9
    replace h := (if_neg q_k9).symm.trans h
    refine WX.condF rfl k9 ?_
    refine WX.exit rfl ?_
    refine WX.pop ?_
    refine WX.keep [3, 13, 14, 15] (WX.pk [0] (by decide) ?_) rfl
    obtain rfl := Option.some.inj h
    exact hx0 _ hE _ _ _ ⟨hB, _, _, n7, _, _, h7, h8, rfl, rfl⟩
theorem gabionlaw15_tame_l1_ok {B0 : Kn} {L : Own} {n0 : Nat} {x6 : Int} {x13 : List (Int × Int)} {x28 : Int} {x3 : List Int} {x15 : Int} {x29 : Int} {Q : AV → St → Prop} {d : Nat} {e : ((List Int) × Int)} (h : iter (fun (s : (List Int) × Int × Int) => gabionlaw15_tame_l1 x6 x13 x28 s.1 s.2.1 s.2.2) d (x3, x15, x29) = some e) (g0 : ∀ s, e = s → WXI Try.prog 47 n0 (Fin Try.prog Try.f23.results.toList n0 Q) [.code (ct [1, 1, 0, 1, 0, 0, 1, 1, 1] (bodyOf Try.f23)), .lp (ct [1, 1, 0, 1, 0, 0] (bodyOf Try.f23)), .blk 0, .code (ct [1, 1, 1] (bodyOf Try.f23))] (gabionlaw15_tame_l1_X0 B0 s.1 x13 s.2) L) : WXI Try.prog 47 n0 (Fin Try.prog Try.f23.results.toList n0 Q) [.code (ct [1, 1, 0, 1, 0, 0, 1, 1, 0, 0, 1, 1, 1, 0, 0] (bodyOf Try.f23)), .lp (ct [1, 1, 0, 1, 0, 0, 1, 1, 0, 0, 1, 1, 1, 0, 0] (bodyOf Try.f23)), .blk 2, .blk 1, .code (ct [1, 1, 0, 1, 0, 0, 1, 1, 1] (bodyOf Try.f23)), .lp (ct [1, 1, 0, 1, 0, 0] (bodyOf Try.f23)), .blk 0, .code (ct [1, 1, 1] (bodyOf Try.f23))] (gabionlaw15_tame_l1_I B0 x6 x13 x28 x3 x15 x29) L :=
  iter_ok (I := fun s => gabionlaw15_tame_l1_I B0 x6 x13 x28 s.1 s.2.1 s.2.2) (D := fun e => (∀ s, e = s → WXI Try.prog 47 n0 (Fin Try.prog Try.f23.results.toList n0 Q) [.code (ct [1, 1, 0, 1, 0, 0, 1, 1, 1] (bodyOf Try.f23)), .lp (ct [1, 1, 0, 1, 0, 0] (bodyOf Try.f23)), .blk 0, .code (ct [1, 1, 1] (bodyOf Try.f23))] (gabionlaw15_tame_l1_X0 B0 s.1 x13 s.2) L)) (fun E hn hx s o ho hE => gabionlaw15_tame_l1_s ho hn (fun s hs => (hx _ hs) _ rfl)  hE) h g0
theorem gabionlaw15_tame_l0_s {B0 : Kn} {L : Own} {n0 : Nat} {x13 : List (Int × Int)} {x3 : List Int} {x15 : Int} {Q : AV → St → Prop} {E : ((List Int) × Int) ⊕ (List Int) → Prop} {o : ((List Int) × Int) ⊕ (List Int)} (h : gabionlaw15_tame_l0 x13 x3 x15 = some o) (hn : ∀ s, E (.inl s) → WXI Try.prog 47 n0 (Fin Try.prog Try.f23.results.toList n0 Q) [.lp (ct [1, 1, 0, 1, 0, 0] (bodyOf Try.f23)), .blk 0, .code (ct [1, 1, 1] (bodyOf Try.f23))] (gabionlaw15_tame_l0_I B0 x13 s.1 s.2) L) (hx0 : ∀ s, E (.inr s) → WXI Try.prog 47 n0 (Fin Try.prog Try.f23.results.toList n0 Q) [.code (ct [1, 1, 1] (bodyOf Try.f23))] (gabionlaw15_tame_l0_X0 B0 s) L) (hE : E o) : WXI Try.prog 47 n0 (Fin Try.prog Try.f23.results.toList n0 Q) [.code (ct [1, 1, 0, 1, 0, 0] (bodyOf Try.f23)), .lp (ct [1, 1, 0, 1, 0, 0] (bodyOf Try.f23)), .blk 0, .code (ct [1, 1, 1] (bodyOf Try.f23))] (gabionlaw15_tame_l0_I B0 x13 x3 x15) L := by
  unfold gabionlaw15_tame_l0 at h
  rintro _ B _ ⟨hB, v2, b2, n2, c2, v3, h2, h3, rfl, rfl⟩
  obtain ⟨_, _, _, _, _, rfl⟩ := h2.isl
  obtain ⟨_, _, _, _, _, rfl⟩ := h3.isl
  refine WX.seq ?_
  refine WX.reg ?_
  refine WO.q (.r fun _ => rfl) rfl rfl ?_
  refine WO.nil ?_
  refine WX.seq ?_
  rcases bsp (decide (x15 < (x13.length : Int))) with k4 | k4
  · have q_k4 := of_decide_eq_true k4
    replace h := (if_pos q_k4).symm.trans h
    refine WX.condT rfl k4 ?_
    refine WX.skip ?_
    refine WX.seq ?_
    refine WX.block ?_
    refine WX.seq ?_
    refine WX.reg ?_
    obtain ⟨y5, hy5, h⟩ := Option.bind_eq_some_iff.1 h
    obtain ⟨b_y5, o_y5, _, i_y5, p_y5, r_y5⟩ := h3.at sl40 hy5 .i64
    obtain ⟨_, _, rfl, rfl, rfl⟩ := r_y5
    refine WO.q (.ia i_y5) rfl rfl ?_
    refine WO.q (.lpA rfl p_y5 ti41 rfl rfl) rfl rfl ?_
    refine WO.md (MOp.alloc ti41 rfl) rfl rfl ?_
    rintro _ _ ⟨b6, rfl, rfl⟩
    refine WO.mn (MOp.storeW rfl (cA rfl) .h ti41 rfl rfl rfl) rfl ?_
    rintro _ _ rfl
    refine WO.nil ?_
    refine WX.seq ?_
    refine WX.drw [0, 1, 2, 3, 4, 5, 6, 7, 8, 9, 10] _ mixed (by kernel_rfl) rfl (pk_sub [0, 1]) ?_
    refine WP.q (i := 0) rfl (.ia (ia41_0 _ _)) rfl rfl rfl ?_
    refine WP.q (i := 1) rfl (.ldS (i := 0) rfl rfl rfl ti3 rfl) rfl rfl rfl ?_
    refine WP.q (i := 2) rfl (.r fun _ => rfl) rfl rfl rfl ?_
    refine WP.q (i := 3) rfl (.r fun _ => rfl) rfl rfl rfl ?_
    refine WP.q (i := 4) rfl (.ia (ia41_1 _ _)) rfl rfl rfl ?_
    refine WP.q (i := 5) rfl (.ldS (i := 0) rfl rfl rfl ti3 rfl) rfl rfl rfl ?_
    refine WP.q (i := 6) rfl (.r fun _ => rfl) rfl rfl rfl ?_
    refine WP.q (i := 7) rfl (.r fun _ => rfl) rfl rfl rfl ?_
    refine WP.q (i := 8) rfl (.r fun _ => rfl) rfl rfl rfl ?_
    refine WP.q (i := 9) rfl (.as (v := .int _ _) rfl) rfl rfl rfl ?_
    refine WP.q (i := 10) rfl (.as (v := .int _ _) rfl) rfl rfl rfl ?_
    refine WP.nil ?_
    refine WX.seq ?_
    refine WX.reg ?_
    refine WO.q (.mv (v := .int _ _) rfl) rfl rfl ?_
    refine WO.q (.mv (v := .int _ _) rfl) rfl rfl ?_
    refine WO.nil ?_
    refine WX.block ?_
    refine WX.loop ?_
    obtain ⟨e33, he33, h⟩ := Option.bind_eq_some_iff.1 h
    refine WX.keep [3, 6, 13, 14, 15, 28, 29] (WX.pk [1] (by decide) ?_) rfl
    refine gabionlaw15_tame_l1_ok he33 ?_ _ _ _ ⟨hB, _, _, n2, _, _, h2, h3, rfl, rfl⟩
    · intro s36 he_
      subst he_
      replace h := h
      rintro _ B _ ⟨hB, v34, b34, n34, c34, v35, h34, h35, rfl, rfl⟩
      obtain ⟨_, _, _, _, _, rfl⟩ := h34.isl
      obtain ⟨_, _, _, _, _, rfl⟩ := h35.isl
      refine WX.reg ?_
      refine WO.q (.r fun _ => rfl) rfl rfl ?_
      refine WO.q (.mv (v := .int _ _) rfl) rfl rfl ?_
      refine WO.nil ?_
      refine WX.keepL [3, 13, 14, 15] (WX.pk [0] (by decide) ?_) rfl
      obtain rfl := Option.some.inj h
      exact hn _ hE _ _ _ ⟨hB, _, _, n34, _, _, h34, h35, rfl, rfl⟩
  · have q_k4 := of_decide_eq_false k4
    replace h := (if_neg q_k4).symm.trans h
    refine WX.condF rfl k4 ?_
    refine WX.exit rfl ?_
    refine WX.keep [3] (WX.pk [0] (by decide) ?_) rfl
    obtain rfl := Option.some.inj h
    exact hx0 _ hE _ _ _ ⟨hB, _, _, n2, _, h2, rfl, rfl⟩
theorem gabionlaw15_tame_l0_ok {B0 : Kn} {L : Own} {n0 : Nat} {x13 : List (Int × Int)} {x3 : List Int} {x15 : Int} {Q : AV → St → Prop} {d : Nat} {e : (List Int)} (h : iter (fun (s : (List Int) × Int) => gabionlaw15_tame_l0 x13 s.1 s.2) d (x3, x15) = some e) (g0 : ∀ s, e = s → WXI Try.prog 47 n0 (Fin Try.prog Try.f23.results.toList n0 Q) [.code (ct [1, 1, 1] (bodyOf Try.f23))] (gabionlaw15_tame_l0_X0 B0 s) L) : WXI Try.prog 47 n0 (Fin Try.prog Try.f23.results.toList n0 Q) [.code (ct [1, 1, 0, 1, 0, 0] (bodyOf Try.f23)), .lp (ct [1, 1, 0, 1, 0, 0] (bodyOf Try.f23)), .blk 0, .code (ct [1, 1, 1] (bodyOf Try.f23))] (gabionlaw15_tame_l0_I B0 x13 x3 x15) L :=
  iter_ok (I := fun s => gabionlaw15_tame_l0_I B0 x13 s.1 s.2) (D := fun e => (∀ s, e = s → WXI Try.prog 47 n0 (Fin Try.prog Try.f23.results.toList n0 Q) [.code (ct [1, 1, 1] (bodyOf Try.f23))] (gabionlaw15_tame_l0_X0 B0 s) L)) (fun E hn hx s o ho hE => gabionlaw15_tame_l0_s ho hn (fun s hs => (hx _ hs) _ rfl)  hE) h g0
theorem gabionlaw15_tame_ok {B0 : Kn} {L : Own} {a0 : List (Int × Int)} {v0_0 : AV} {r : (List (Int × Int))} (g0_0 : RSl EPIi64Ii64Q B0 v0_0 a0) (h : gabionlaw15_tame a0 = some r) : ∀ st, Hp B0 L st → ASpec Try.prog 23 [v0_0] st (gabionlaw15_tame_P B0 L r) := by
  unfold gabionlaw15_tame at h
  refine bodyA (A := []) Try.func23 rfl (c := bodyOf Try.f23) rfl Try.ntmps23 (lb rfl) fun n0 => ?_
  have hB := KLe.refl B0
  obtain ⟨_, _, _, _, _, rfl⟩ := g0_0.isl
  refine WX.seq ?_
  refine WX.reg ?_
  refine WO.q (.as (v := .sl _ _ _ _ _ _) rfl) rfl rfl ?_
  refine WO.nil ?_
  refine WX.seq ?_
  refine WX.reg ?_
  refine WO.q (.as (v := .sl _ _ _ _ _ _) rfl) rfl rfl ?_
  refine WO.nil ?_
  refine WX.seq ?_
  refine WX.seq ?_
  refine WX.reg ?_
  refine WO.q (.mv (v := .sl _ _ _ _ _ _) rfl) rfl rfl ?_
  refine WO.q (.mv (v := .sl _ _ _ _ _ _) rfl) rfl rfl ?_
  refine WO.q (.len rfl rfl rfl (sl40.len g0_0.isl)) rfl rfl ?_
  refine WO.q (.r fun _ => rfl) rfl rfl ?_
  obtain ⟨y1, hy1, h⟩ := Option.bind_eq_some_iff.1 h
  obtain ⟨v_y1, e_y1, g_y1⟩ := g0_0.cut sl40 hy1 (lo := none) (hi := some (.int .i64 (mn (a0.length : Int) 20))) bnd_none (bnd_int (Int.le_trans (cutL_some hy1).1.1 (cutL_some hy1).1.2.1))
  obtain ⟨_, _, _, _, _, rfl⟩ := g_y1.isl
  refine WO.q (.sl e_y1) rfl rfl ?_
  refine WO.q (.len rfl rfl rfl (sl40.len g_y1.isl)) rfl rfl ?_
  refine WO.q (.mv (v := .int _ _) rfl) rfl rfl ?_
  refine WO.nil ?_
  refine WX.block ?_
  refine WX.loop ?_
  obtain ⟨e38, he38, h⟩ := Option.bind_eq_some_iff.1 h
  refine WX.keep [3, 13, 14, 15] (WX.pk [] (by decide) (WX.addn [0] ?_)) rfl
  refine gabionlaw15_tame_l0_ok he38 ?_ _ _ _ ⟨hB, _, 0, true, [], _, OSl.none _ _, g_y1, rfl, rfl⟩
  · intro s47 he_
    subst he_
    replace h := h
    rintro _ B _ ⟨hB, v39, b39, n39, c39, h39, rfl, rfl⟩
    obtain ⟨_, _, _, _, _, rfl⟩ := h39.isl
    refine WX.seq ?_
    refine WX.reg ?_
    refine WO.q (.mv (v := .sl _ _ _ _ _ _) rfl) rfl rfl ?_
    refine WO.fz (j := 0) h39 rfl ?_
    intro B hK g40
    replace hB := hB.trans hK
    obtain ⟨y41, hy41, h⟩ := Option.bind_eq_some_iff.1 h
    refine WO.c1 rfl rfl (gabionref15_Runs_ok g40 hy41) rfl rfl rfl ?_
    rintro _ B _ hK ⟨v42, b43, n44, c45, rfl, rfl, h46⟩
    obtain ⟨_, _, _, _, _, rfl⟩ := h46.isl
    replace g40 := g40.up hK
    replace hB := hB.trans hK
    refine WO.q (.as (v := .sl _ _ _ _ _ _) rfl) rfl rfl ?_
    refine WO.nil ?_
    obtain rfl := Option.some.inj h
    exact WX.ret (rs_ (rs_tmp rfl rs_nil)) fun st hp => ⟨_, _, hB, (hp.pk [0] (by decide)), _, _, n44, _, rfl, rfl, h46⟩
def gabionlaw15_list_P (B : Kn) (L : Own) (r : (List (Int × Int)) × (List (Int × Int))) : AV → St → Prop := C1 B L fun B' v e0 => ∃ w1 w0 b0 n0 c0, v = .tup [w0, w1] ∧ RSl EPIi64Ii64Q B' w1 r.2 ∧ e0 = oe b0 n0 c0 ∧ OSl EPIi64Ii64Q B' w0 b0 n0 c0 r.1
def gabionlaw15_list_l0_I (B0 : Kn) (x0 : List (Int × Int)) (x12 : List (Int × Int)) (x4 : List (Int × Int)) (x14 : Int) : Fr → Kn → Own → Prop := fun fr B A => KLe B0 B ∧ ∃ v2 v3 b3 n3 c3 v4, RSl EPIi64Ii64Q B v2 x0 ∧ OSl EPIi64Ii64Q B v3 b3 n3 c3 x4 ∧ RSl EPIi64Ii64Q B v4 x12 ∧ fr = [(0, v2), (4, v3), (12, v4), (13, .int .i64 (x12.length : Int)), (14, .int .i64 x14)] ∧ A = [oe b3 n3 c3]
def gabionlaw15_list_l0_X0 (B0 : Kn) (x0 : List (Int × Int)) (x4 : List (Int × Int)) : Fr → Kn → Own → Prop := fun fr B A => KLe B0 B ∧ ∃ v23 v24 b24 n24 c24, RSl EPIi64Ii64Q B v23 x0 ∧ OSl EPIi64Ii64Q B v24 b24 n24 c24 x4 ∧ fr = [(0, v23), (4, v24)] ∧ A = [oe b24 n24 c24]
theorem gabionlaw15_list_l0_s {B0 : Kn} {L : Own} {n0 : Nat} {x0 : List (Int × Int)} {x12 : List (Int × Int)} {x4 : List (Int × Int)} {x14 : Int} {Q : AV → St → Prop} {E : ((List (Int × Int)) × Int) ⊕ (List (Int × Int)) → Prop} {o : ((List (Int × Int)) × Int) ⊕ (List (Int × Int))} (h : gabionlaw15_list_l0 x0 x12 x4 x14 = some o) (hn : ∀ s, E (.inl s) → WXI Try.prog 29 n0 (Fin Try.prog Try.f24.results.toList n0 Q) [.lp (ct [1, 1, 1, 0, 1, 0, 0] (bodyOf Try.f24)), .blk 0, .code (ct [1, 1, 1, 1] (bodyOf Try.f24))] (gabionlaw15_list_l0_I B0 x0 x12 s.1 s.2) L) (hx0 : ∀ s, E (.inr s) → WXI Try.prog 29 n0 (Fin Try.prog Try.f24.results.toList n0 Q) [.code (ct [1, 1, 1, 1] (bodyOf Try.f24))] (gabionlaw15_list_l0_X0 B0 x0 s) L) (hE : E o) : WXI Try.prog 29 n0 (Fin Try.prog Try.f24.results.toList n0 Q) [.code (ct [1, 1, 1, 0, 1, 0, 0] (bodyOf Try.f24)), .lp (ct [1, 1, 1, 0, 1, 0, 0] (bodyOf Try.f24)), .blk 0, .code (ct [1, 1, 1, 1] (bodyOf Try.f24))] (gabionlaw15_list_l0_I B0 x0 x12 x4 x14) L := by
  unfold gabionlaw15_list_l0 at h
  rintro _ B _ ⟨hB, v2, v3, b3, n3, c3, v4, h2, h3, h4, rfl, rfl⟩
  obtain ⟨_, _, _, _, _, rfl⟩ := h2.isl
  obtain ⟨_, _, _, _, _, rfl⟩ := h3.isl
  obtain ⟨_, _, _, _, _, rfl⟩ := h4.isl
  refine WX.seq ?_
  refine WX.reg ?_
  refine WO.q (.r fun _ => rfl) rfl rfl ?_
  refine WO.nil ?_
  refine WX.seq ?_
  rcases bsp (decide (x14 < (x12.length : Int))) with k5 | k5
  · have q_k5 := of_decide_eq_true k5
    replace h := (if_pos q_k5).symm.trans h
    refine WX.condT rfl k5 ?_
    refine WX.skip ?_
    refine WX.seq ?_
    refine WX.block ?_
    refine WX.seq ?_
    refine WX.reg ?_
    obtain ⟨y6, hy6, h⟩ := Option.bind_eq_some_iff.1 h
    obtain ⟨b_y6, o_y6, _, i_y6, p_y6, r_y6⟩ := h4.at sl40 hy6 .i64
    obtain ⟨_, _, rfl, rfl, rfl⟩ := r_y6
    refine WO.q (.ia i_y6) rfl rfl ?_
    refine WO.q (.lpA rfl p_y6 ti41 rfl rfl) rfl rfl ?_
    refine WO.md (MOp.alloc ti41 rfl) rfl rfl ?_
    rintro _ _ ⟨b7, rfl, rfl⟩
    refine WO.mn (MOp.storeW rfl (cA rfl) .h ti41 rfl rfl rfl) rfl ?_
    rintro _ _ rfl
    refine WO.nil ?_
    refine WX.reg ?_
    refine WO.q (.mv (v := .sl _ _ _ _ _ _) rfl) rfl rfl ?_
    refine WO.q (.ia (ia41_0 _ _)) rfl rfl ?_
    refine WO.q (.ldS (i := 0) rfl rfl rfl ti3 rfl) rfl rfl ?_
    refine WO.q (.ia (ia41_1 _ _)) rfl rfl ?_
    refine WO.q (.ldS (i := 0) rfl rfl rfl ti3 rfl) rfl rfl ?_
    refine WO.q (.bd (bd35_0_1 (cI rfl) (cI rfl))) rfl rfl ?_
    refine WO.md (MOp.bs (l := ([y6] : List (Int × Int))) sl44 (RL.cons (Rp Ri Ri) RL.nil) (lb rfl) rfl rfl) rfl rfl ?_
    rintro v10 _ ⟨b8, o9, rfl⟩
    obtain ⟨_, _, _, _, _, rfl⟩ := o9.isl
    obtain ⟨y12, hy12, h⟩ := Option.bind_eq_some_iff.1 h
    refine WO.md (MOp.app rfl rfl rfl sl44 h3 (Src.o (i := 0) sl44 o9 rfl) hy12 rfl rfl (fun _ => (.t (.t .h)))) rfl rfl ?_
    rintro v16 _ ⟨b13, n14, o15, rfl⟩
    obtain ⟨_, _, _, _, _, rfl⟩ := o15.isl
    refine WO.q (.as (v := .sl _ _ _ _ _ _) rfl) rfl rfl ?_
    refine WO.nil ?_
    refine WX.pop ?_
    refine WX.reg ?_
    refine WO.q (.r fun _ => rfl) rfl rfl ?_
    refine WO.q (.mv (v := .int _ _) rfl) rfl rfl ?_
    refine WO.nil ?_
    refine WX.keepL [0, 4, 12, 13, 14] (WX.pk [2] (by decide) ?_) rfl
    obtain rfl := Option.some.inj h
    exact hn _ hE _ _ _ ⟨hB, _, _, _, n14, _, _, h2, o15, h4, rfl, rfl⟩
  · have q_k5 := of_decide_eq_false k5
    replace h := (if_neg q_k5).symm.trans h
    refine WX.condF rfl k5 ?_
    refine WX.exit rfl ?_
    refine WX.keep [0, 4] (WX.pk [0] (by decide) ?_) rfl
    obtain rfl := Option.some.inj h
    exact hx0 _ hE _ _ _ ⟨hB, _, _, _, n3, _, h2, h3, rfl, rfl⟩
theorem gabionlaw15_list_l0_ok {B0 : Kn} {L : Own} {n0 : Nat} {x0 : List (Int × Int)} {x12 : List (Int × Int)} {x4 : List (Int × Int)} {x14 : Int} {Q : AV → St → Prop} {d : Nat} {e : (List (Int × Int))} (h : iter (fun (s : (List (Int × Int)) × Int) => gabionlaw15_list_l0 x0 x12 s.1 s.2) d (x4, x14) = some e) (g0 : ∀ s, e = s → WXI Try.prog 29 n0 (Fin Try.prog Try.f24.results.toList n0 Q) [.code (ct [1, 1, 1, 1] (bodyOf Try.f24))] (gabionlaw15_list_l0_X0 B0 x0 s) L) : WXI Try.prog 29 n0 (Fin Try.prog Try.f24.results.toList n0 Q) [.code (ct [1, 1, 1, 0, 1, 0, 0] (bodyOf Try.f24)), .lp (ct [1, 1, 1, 0, 1, 0, 0] (bodyOf Try.f24)), .blk 0, .code (ct [1, 1, 1, 1] (bodyOf Try.f24))] (gabionlaw15_list_l0_I B0 x0 x12 x4 x14) L :=
  iter_ok (I := fun s => gabionlaw15_list_l0_I B0 x0 x12 s.1 s.2) (D := fun e => (∀ s, e = s → WXI Try.prog 29 n0 (Fin Try.prog Try.f24.results.toList n0 Q) [.code (ct [1, 1, 1, 1] (bodyOf Try.f24))] (gabionlaw15_list_l0_X0 B0 x0 s) L)) (fun E hn hx s o ho hE => gabionlaw15_list_l0_s ho hn (fun s hs => (hx _ hs) _ rfl)  hE) h g0
theorem gabionlaw15_list_ok {B0 : Kn} {L : Own} {a0 : List (Int × Int)} {v0_0 : AV} {r : (List (Int × Int)) × (List (Int × Int))} (g0_0 : RSl EPIi64Ii64Q B0 v0_0 a0) (h : gabionlaw15_list a0 = some r) : ∀ st, Hp B0 L st → ASpec Try.prog 24 [v0_0] st (gabionlaw15_list_P B0 L r) := by
  unfold gabionlaw15_list at h
  refine bodyA (A := []) Try.func24 rfl (c := bodyOf Try.f24) rfl Try.ntmps24 (lb rfl) fun n0 => ?_
  have hB := KLe.refl B0
  obtain ⟨_, _, _, _, _, rfl⟩ := g0_0.isl
  refine WX.seq ?_
  refine WX.reg ?_
  refine WO.q (.as (v := .sl _ _ _ _ _ _) rfl) rfl rfl ?_
  refine WO.q (.as (v := .sl _ _ _ _ _ _) rfl) rfl rfl ?_
  refine WO.nil ?_
  refine WX.seq ?_
  refine WX.reg ?_
  refine WO.q (.mv (v := .sl _ _ _ _ _ _) rfl) rfl rfl ?_
  refine WO.q (.mv (v := .sl _ _ _ _ _ _) rfl) rfl rfl ?_
  refine WO.q (.len rfl rfl rfl (sl40.len g0_0.isl)) rfl rfl ?_
  refine WO.q (.r fun _ => rfl) rfl rfl ?_
  obtain ⟨y1, hy1, h⟩ := Option.bind_eq_some_iff.1 h
  obtain ⟨v_y1, e_y1, g_y1⟩ := g0_0.cut sl40 hy1 (lo := none) (hi := some (.int .i64 (mn (a0.length : Int) 70))) bnd_none (bnd_int (Int.le_trans (cutL_some hy1).1.1 (cutL_some hy1).1.2.1))
  obtain ⟨_, _, _, _, _, rfl⟩ := g_y1.isl
  refine WO.q (.sl e_y1) rfl rfl ?_
  refine WO.q (.as (v := .sl _ _ _ _ _ _) rfl) rfl rfl ?_
  refine WO.nil ?_
  refine WX.seq ?_
  refine WX.reg ?_
  refine WO.q (.as (v := .sl _ _ _ _ _ _) rfl) rfl rfl ?_
  refine WO.nil ?_
  refine WX.seq ?_
  refine WX.seq ?_
  refine WX.reg ?_
  refine WO.q (.mv (v := .sl _ _ _ _ _ _) rfl) rfl rfl ?_
  refine WO.q (.len rfl rfl rfl (sl40.len g_y1.isl)) rfl rfl ?_
  refine WO.q (.mv (v := .int _ _) rfl) rfl rfl ?_
  refine WO.nil ?_
  refine WX.block ?_
  refine WX.loop ?_
  obtain ⟨e19, he19, h⟩ := Option.bind_eq_some_iff.1 h
  refine WX.keep [0, 4, 12, 13, 14] (WX.pk [] (by decide) (WX.addn [0] ?_)) rfl
  refine gabionlaw15_list_l0_ok he19 ?_ _ _ _ ⟨hB, _, _, 0, true, [], _, g_y1, OSl.none _ _, g_y1, rfl, rfl⟩
  · intro s22 he_
    subst he_
    replace h := h
    rintro _ B _ ⟨hB, v20, v21, b21, n21, c21, h20, h21, rfl, rfl⟩
    obtain ⟨_, _, _, _, _, rfl⟩ := h20.isl
    obtain ⟨_, _, _, _, _, rfl⟩ := h21.isl
    refine WX.seq ?_
    refine WX.reg ?_
    refine WO.q (.mv (v := .sl _ _ _ _ _ _) rfl) rfl rfl ?_
    refine WO.q (.mv (v := .sl _ _ _ _ _ _) rfl) rfl rfl ?_
    refine WO.q (.as (v := .sl _ _ _ _ _ _) rfl) rfl rfl ?_
    refine WO.q (.as (v := .sl _ _ _ _ _ _) rfl) rfl rfl ?_
    refine WO.nil ?_
    obtain rfl := Option.some.inj h
    exact WX.ret (rs_ (rs_tmp rfl (rs_tmp rfl rs_nil))) fun st hp => ⟨_, _, hB, (hp.pk [0] (by decide)), _, _, _, n21, _, rfl, h20, rfl, h21⟩
def gabionlaw15_same_P (B : Kn) (L : Own) (r : Bool) : AV → St → Prop := CS B L fun v => v = .bool r
def gabionlaw15_same_j7_I (B0 : Kn) (x1 : List (Int × Int)) (x12 : List (Int × Int)) (x14 : Int) (x36 : Bool) : Fr → Kn → Own → Prop := fun fr B A => KLe B0 B ∧ ∃ v9 v10, RSl EPIi64Ii64Q B v9 x1 ∧ RSl EPIi64Ii64Q B v10 x12 ∧ fr = [(1, v9), (12, v10), (13, .int .i64 (x12.length : Int)), (14, .int .i64 x14), (36, .bool x36)] ∧ A = []
def gabionlaw15_same_l0_I (B0 : Kn) (x1 : List (Int × Int)) (x12 : List (Int × Int)) (x14 : Int) : Fr → Kn → Own → Prop := fun fr B A => KLe B0 B ∧ ∃ v2 v3, RSl EPIi64Ii64Q B v2 x1 ∧ RSl EPIi64Ii64Q B v3 x12 ∧ fr = [(1, v2), (12, v3), (13, .int .i64 (x12.length : Int)), (14, .int .i64 x14)] ∧ A = []
def gabionlaw15_same_l0_X0 (B0 : Kn) : Fr → Kn → Own → Prop := fun fr B A => KLe B0 B ∧ fr = [] ∧ A = []
theorem gabionlaw15_same_j7_ok {B0 : Kn} {L : Own} {n0 : Nat} {x1 : List (Int × Int)} {x12 : List (Int × Int)} {x14 : Int} {x36 : Bool} {Q : AV → St → Prop} {E : Int ⊕ (Bool ⊕ Unit) → Prop} {o : Int ⊕ (Bool ⊕ Unit)} (h : gabionlaw15_same_j7 x1 x12 x14 x36 = some o) (hn : ∀ s, E (.inl s) → WXI Try.prog 38 n0 (Fin Try.prog Try.f29.results.toList n0 Q) [.lp (ct [1, 1, 0, 1, 0, 0] (bodyOf Try.f29)), .blk 0, .code (ct [1, 1, 1] (bodyOf Try.f29))] (gabionlaw15_same_l0_I B0 x1 x12 s) L) (hx0 : ∀ s, E (.inr (.inr s)) → WXI Try.prog 38 n0 (Fin Try.prog Try.f29.results.toList n0 Q) [.code (ct [1, 1, 1] (bodyOf Try.f29))] (gabionlaw15_same_l0_X0 B0) L) (hr : ∀ r, E (.inr (.inl r)) → ∀ v st, gabionlaw15_same_P B0 L r v st → Q v st) (hE : E o) : WXI Try.prog 38 n0 (Fin Try.prog Try.f29.results.toList n0 Q) [.code (ct [1, 1, 0, 1, 0, 0, 1, 1, 0, 0, 1, 1] (bodyOf Try.f29)), .blk 1, .code (ct [1, 1, 0, 1, 0, 0, 1, 1, 1] (bodyOf Try.f29)), .lp (ct [1, 1, 0, 1, 0, 0] (bodyOf Try.f29)), .blk 0, .code (ct [1, 1, 1] (bodyOf Try.f29))] (gabionlaw15_same_j7_I B0 x1 x12 x14 x36) L := by
  unfold gabionlaw15_same_j7 at h
  rintro _ B _ ⟨hB, v9, v10, h9, h10, rfl, rfl⟩
  obtain ⟨_, _, _, _, _, rfl⟩ := h9.isl
  obtain ⟨_, _, _, _, _, rfl⟩ := h10.isl
  rcases bsp x36 with k11 | k11
  · replace h := (if_pos k11).symm.trans h
    refine WX.condT rfl k11 ?_
    refine WX.seq ?_
    refine WX.reg ?_
    refine WO.q (.as (v := .bool _) rfl) rfl rfl ?_
    refine WO.nil ?_
    obtain rfl := Option.some.inj h
    exact WX.ret (rs_ (rs_tmp rfl rs_nil)) fun st hp => hr _ hE _ _ ⟨(hp.pk [] (by decide)).le hB, rfl⟩
  · replace h := (if_neg (bnt k11)).symm.trans h
    refine WX.condF rfl k11 ?_
    refine WX.skip ?_
    refine WX.pop ?_
    refine WX.reg ?_
    refine WO.q (.r fun _ => rfl) rfl rfl ?_
    refine WO.q (.mv (v := .int _ _) rfl) rfl rfl ?_
    refine WO.nil ?_
    refine WX.keepL [1, 12, 13, 14] (WX.pk [] (by decide) ?_) rfl
    obtain rfl := Option.some.inj h
    exact hn _ hE _ _ _ ⟨hB, _, _, h9, h10, rfl, rfl⟩
theorem gabionlaw15_same_l0_s {B0 : Kn} {L : Own} {n0 : Nat} {x1 : List (Int × Int)} {x12 : List (Int × Int)} {x14 : Int} {Q : AV → St → Prop} {E : Int ⊕ (Bool ⊕ Unit) → Prop} {o : Int ⊕ (Bool ⊕ Unit)} (h : gabionlaw15_same_l0 x1 x12 x14 = some o) (hn : ∀ s, E (.inl s) → WXI Try.prog 38 n0 (Fin Try.prog Try.f29.results.toList n0 Q) [.lp (ct [1, 1, 0, 1, 0, 0] (bodyOf Try.f29)), .blk 0, .code (ct [1, 1, 1] (bodyOf Try.f29))] (gabionlaw15_same_l0_I B0 x1 x12 s) L) (hx0 : ∀ s, E (.inr (.inr s)) → WXI Try.prog 38 n0 (Fin Try.prog Try.f29.results.toList n0 Q) [.code (ct [1, 1, 1] (bodyOf Try.f29))] (gabionlaw15_same_l0_X0 B0) L) (hr : ∀ r, E (.inr (.inl r)) → ∀ v st, gabionlaw15_same_P B0 L r v st → Q v st) (hE : E o) : WXI Try.prog 38 n0 (Fin Try.prog Try.f29.results.toList n0 Q) [.code (ct [1, 1, 0, 1, 0, 0] (bodyOf Try.f29)), .lp (ct [1, 1, 0, 1, 0, 0] (bodyOf Try.f29)), .blk 0, .code (ct [1, 1, 1] (bodyOf Try.f29))] (gabionlaw15_same_l0_I B0 x1 x12 x14) L := by
  unfold gabionlaw15_same_l0 at h
  rintro _ B _ ⟨hB, v2, v3, h2, h3, rfl, rfl⟩
  obtain ⟨_, _, _, _, _, rfl⟩ := h2.isl
  obtain ⟨_, _, _, _, _, rfl⟩ := h3.isl
  refine WX.seq ?_
  refine WX.reg ?_
  refine WO.q (.r fun _ => rfl) rfl rfl ?_
  refine WO.nil ?_
  refine WX.seq ?_
  rcases bsp (decide (x14 < (x12.length : Int))) with k4 | k4
  · have q_k4 := of_decide_eq_true k4
    replace h := (if_pos q_k4).symm.trans h
    refine WX.condT rfl k4 ?_
    refine WX.skip ?_
    refine WX.seq ?_
    refine WX.block ?_
    refine WX.seq ?_
    refine WX.reg ?_
    refine WO.q (.mv (v := .int _ _) rfl) rfl rfl ?_
    obtain ⟨y5, hy5, h⟩ := Option.bind_eq_some_iff.1 h
    obtain ⟨b_y5, o_y5, _, i_y5, p_y5, r_y5⟩ := h3.at sl44 hy5 .i64
    obtain ⟨_, _, rfl, rfl, rfl⟩ := r_y5
    refine WO.q (.ia i_y5) rfl rfl ?_
    refine WO.q (.lpA rfl p_y5 ti35 rfl rfl) rfl rfl ?_
    refine WO.md (MOp.alloc ti35 rfl) rfl rfl ?_
    rintro _ _ ⟨b6, rfl, rfl⟩
    refine WO.q (.as (v := .int _ _) rfl) rfl rfl ?_
    refine WO.mn (MOp.storeW rfl (cA rfl) .h ti35 rfl rfl rfl) rfl ?_
    rintro _ _ rfl
    refine WO.nil ?_
    refine WX.seq ?_
    refine WX.drw [0, 1, 2, 3, 4, 5, 6, 7, 8, 9, 10, 11, 12, 13, 14, 15, 16, 17] _ mixed (by kernel_rfl) rfl (pk_sub [0]) ?_
    refine WP.q (i := 0) rfl (.fa (fa35_0 _ _)) rfl rfl rfl ?_
    refine WP.q (i := 1) rfl (.ldS (i := 0) rfl rfl rfl ti3 rfl) rfl rfl rfl ?_
    refine WP.q (i := 2) rfl (.mv (v := .sl _ _ _ _ _ _) rfl) rfl rfl rfl ?_
    refine WP.q (i := 3) rfl (.mv (v := .int _ _) rfl) rfl rfl rfl ?_
    obtain ⟨y7, hy7, h⟩ := Option.bind_eq_some_iff.1 h
    obtain ⟨b_y7, o_y7, _, i_y7, p_y7, r_y7⟩ := h2.at sl40 hy7 .i64
    obtain ⟨_, _, rfl, rfl, rfl⟩ := r_y7
    refine WP.q (i := 4) rfl (.ia i_y7) rfl rfl rfl ?_
    refine WP.q (i := 5) rfl (.ia (ia41_0 _ _)) rfl rfl rfl ?_
    refine WP.q (i := 6) rfl (.lpS rfl p_y7 rfl ti3 rfl) rfl rfl rfl ?_
    refine WP.q (i := 7) rfl (.r fun _ => rfl) rfl rfl rfl ?_
    refine WP.q (i := 8) rfl (.mv (v := .bool _) rfl) rfl rfl rfl ?_
    rcases bsp (decide (y5.1 ≠ y7.1)) with k8 | k8
    · have q_k8 := of_decide_eq_true k8
      replace h := (if_pos q_k8).symm.trans h
      refine WP.sk (i := 9) rfl rfl (wg rfl rfl (gfn k8)) rfl ?_
      refine WP.sk (i := 10) rfl rfl (wg rfl rfl (gfn k8)) rfl ?_
      refine WP.sk (i := 11) rfl rfl (wg rfl rfl (gfn k8)) rfl ?_
      refine WP.sk (i := 12) rfl rfl (wg rfl rfl (gfn k8)) rfl ?_
      refine WP.sk (i := 13) rfl rfl (wg rfl rfl (gfn k8)) rfl ?_
      refine WP.sk (i := 14) rfl rfl (wg rfl rfl (gfn k8)) rfl ?_
      refine WP.sk (i := 15) rfl rfl (wg rfl rfl (gfn k8)) rfl ?_
      refine WP.sk (i := 16) rfl rfl (wg rfl rfl (gfn k8)) rfl ?_
      refine WP.q (i := 17) rfl (.ptv (v := .bool _) rfl k8 rfl) rfl rfl rfl ?_
      refine WP.nil ?_
      refine WX.keep [1, 12, 13, 14, 36] (WX.pk [] (by decide) ?_) rfl
      exact gabionlaw15_same_j7_ok h hn hx0 hr hE _ _ _ ⟨hB, _, _, h2, h3, rfl, rfl⟩
    · have q_k8 := of_decide_eq_false k8
      replace h := (if_neg q_k8).symm.trans h
      refine WP.q (i := 9) rfl (.fa (fa35_1 _ _)) rfl (wg rfl rfl (gf k8)) rfl ?_
      refine WP.q (i := 10) rfl (.ldS (i := 0) rfl rfl rfl ti3 rfl) rfl (wg rfl rfl (gf k8)) rfl ?_
      refine WP.q (i := 11) rfl (.mv (v := .sl _ _ _ _ _ _) rfl) rfl (wg rfl rfl (gf k8)) rfl ?_
      refine WP.q (i := 12) rfl (.mv (v := .int _ _) rfl) rfl (wg rfl rfl (gf k8)) rfl ?_
      obtain ⟨y12, hy12, h⟩ := Option.bind_eq_some_iff.1 h
      obtain ⟨b_y12, o_y12, _, i_y12, p_y12, r_y12⟩ := h2.at sl40 hy12 .i64
      obtain ⟨_, _, rfl, rfl, rfl⟩ := r_y12
      refine WP.q (i := 13) rfl (.ia i_y12) rfl (wg rfl rfl (gf k8)) rfl ?_
      refine WP.q (i := 14) rfl (.ia (ia41_1 _ _)) rfl (wg rfl rfl (gf k8)) rfl ?_
      refine WP.q (i := 15) rfl (.lpS rfl p_y12 rfl ti3 rfl) rfl (wg rfl rfl (gf k8)) rfl ?_
      refine WP.q (i := 16) rfl (.r fun _ => rfl) rfl (wg rfl rfl (gf k8)) rfl ?_
      refine WP.q (i := 17) rfl (.pfv (v := .bool _) rfl k8 rfl) rfl rfl rfl ?_
      refine WP.nil ?_
      refine WX.keep [1, 12, 13, 14, 36] (WX.pk [] (by decide) ?_) rfl
      exact gabionlaw15_same_j7_ok h hn hx0 hr hE _ _ _ ⟨hB, _, _, h2, h3, rfl, rfl⟩
  · have q_k4 := of_decide_eq_false k4
    replace h := (if_neg q_k4).symm.trans h
    refine WX.condF rfl k4 ?_
    refine WX.exit rfl ?_
    refine WX.keep [] (WX.pk [] (by decide) ?_) rfl
    obtain rfl := Option.some.inj h
    exact hx0 _ hE _ _ _ ⟨hB, rfl, rfl⟩
theorem gabionlaw15_same_l0_ok {B0 : Kn} {L : Own} {n0 : Nat} {x1 : List (Int × Int)} {x12 : List (Int × Int)} {x14 : Int} {Q : AV → St → Prop} {d : Nat} {e : Bool ⊕ Unit} (h : iter (fun (s : Int) => gabionlaw15_same_l0 x1 x12 s) d x14 = some e) (g0 : ∀ r, e = (.inl r) → ∀ v st, gabionlaw15_same_P B0 L r v st → Q v st) (g1 : ∀ s, e = (.inr s) → WXI Try.prog 38 n0 (Fin Try.prog Try.f29.results.toList n0 Q) [.code (ct [1, 1, 1] (bodyOf Try.f29))] (gabionlaw15_same_l0_X0 B0) L) : WXI Try.prog 38 n0 (Fin Try.prog Try.f29.results.toList n0 Q) [.code (ct [1, 1, 0, 1, 0, 0] (bodyOf Try.f29)), .lp (ct [1, 1, 0, 1, 0, 0] (bodyOf Try.f29)), .blk 0, .code (ct [1, 1, 1] (bodyOf Try.f29))] (gabionlaw15_same_l0_I B0 x1 x12 x14) L :=
  iter_ok (I := fun s => gabionlaw15_same_l0_I B0 x1 x12 s) (D := fun e => (∀ r, e = (.inl r) → ∀ v st, gabionlaw15_same_P B0 L r v st → Q v st) ∧ (∀ s, e = (.inr s) → WXI Try.prog 38 n0 (Fin Try.prog Try.f29.results.toList n0 Q) [.code (ct [1, 1, 1] (bodyOf Try.f29))] (gabionlaw15_same_l0_X0 B0) L)) (fun E hn hx s o ho hE => gabionlaw15_same_l0_s ho hn (fun s hs => (hx _ hs).2 _ rfl) (fun r hs => (hx _ hs).1 _ rfl) hE) h ⟨g0, g1⟩
theorem gabionlaw15_same_ok {B0 : Kn} {L : Own} {a0 : List (Int × Int)} {a1 : List (Int × Int)} {v0_0 : AV} {v1_0 : AV} {r : Bool} (g0_0 : RSl EPIi64Ii64Q B0 v0_0 a0) (g1_0 : RSl EPIi64Ii64Q B0 v1_0 a1) (h : gabionlaw15_same a0 a1 = some r) : ∀ st, Hp B0 L st → ASpec Try.prog 29 [v0_0, v1_0] st (gabionlaw15_same_P B0 L r) := by
  unfold gabionlaw15_same at h
  refine bodyA (A := []) Try.func29 rfl (c := bodyOf Try.f29) rfl Try.ntmps29 (lb rfl) fun n0 => ?_
  have hB := KLe.refl B0
  obtain ⟨_, _, _, _, _, rfl⟩ := g0_0.isl
  obtain ⟨_, _, _, _, _, rfl⟩ := g1_0.isl
  refine WX.seq ?_
  refine WX.reg ?_
  refine WO.q (.as (v := .bool _) rfl) rfl rfl ?_
  refine WO.nil ?_
  refine WX.seq ?_
  refine WX.seq ?_
  refine WX.reg ?_
  refine WO.q (.mv (v := .sl _ _ _ _ _ _) rfl) rfl rfl ?_
  refine WO.q (.len rfl rfl rfl (sl44.len g0_0.isl)) rfl rfl ?_
  refine WO.q (.mv (v := .sl _ _ _ _ _ _) rfl) rfl rfl ?_
  refine WO.q (.len rfl rfl rfl (sl40.len g1_0.isl)) rfl rfl ?_
  refine WO.q (.r fun _ => rfl) rfl rfl ?_
  refine WO.nil ?_
  rcases bsp (decide ((a0.length : Int) ≠ (a1.length : Int))) with k1 | k1
  · have q_k1 := of_decide_eq_true k1
    replace h := (if_pos q_k1).symm.trans h
    refine WX.condT rfl k1 ?_
    refine WX.seq ?_
    refine WX.reg ?_
    refine WO.q (.as (v := .bool _) rfl) rfl rfl ?_
    refine WO.nil ?_
    obtain rfl := Option.some.inj h
    exact WX.ret (rs_ (rs_tmp rfl rs_nil)) fun st hp => ⟨(hp.pk [] (by decide)).le hB, rfl⟩
  · have q_k1 := of_decide_eq_false k1
    replace h := (if_neg q_k1).symm.trans h
    refine WX.condF rfl k1 ?_
    refine WX.skip ?_
    refine WX.seq ?_
    refine WX.seq ?_
    refine WX.reg ?_
    refine WO.q (.mv (v := .sl _ _ _ _ _ _) rfl) rfl rfl ?_
    refine WO.q (.len rfl rfl rfl (sl44.len g0_0.isl)) rfl rfl ?_
    refine WO.q (.mv (v := .int _ _) rfl) rfl rfl ?_
    refine WO.nil ?_
    refine WX.block ?_
    refine WX.loop ?_
    obtain ⟨e13, he13, h⟩ := Option.bind_eq_some_iff.1 h
    refine WX.keep [1, 12, 13, 14] (WX.pk [] (by decide) ?_) rfl
    refine gabionlaw15_same_l0_ok he13 ?_ ?_ _ _ _ ⟨hB, _, _, g1_0, g0_0, rfl, rfl⟩
    · intro r15 he_
      subst he_
      replace h := (on_l h)
      obtain rfl := Option.some.inj h
      exact fun v st hp => hp
    · intro x16 he_
      subst he_
      replace h := (on_r h)
      rintro _ B _ ⟨hB, rfl, rfl⟩
      refine WX.seq ?_
      refine WX.reg ?_
      refine WO.q (.as (v := .bool _) rfl) rfl rfl ?_
      refine WO.nil ?_
      obtain rfl := Option.some.inj h
      exact WX.ret (rs_ (rs_tmp rfl rs_nil)) fun st hp => ⟨(hp.pk [] (by decide)).le hB, rfl⟩
end Gab
