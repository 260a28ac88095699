/- The Go code comes to what the Lean functions say. Written by a program (gp.py). -/
import Derived.Test.YtdkldojcpncnhaaFd
import Derived.Test.YtdkldojcpncnhaaTy
import Derived.Test.YtdkldojcpncnhaaFpAlloc0
import Derived.Test.YtdkldojcpncnhaaFpAlloc2
import Derived.Test.YtdkldojcpncnhaaFpRef140
set_option linter.unusedSimpArgs false
set_option linter.unusedVariables false
set_option maxHeartbeats 4000000
set_option maxRecDepth 100000
namespace Gab
open Go Go.Proofs
def gabionlaw14_same_P (B : Kn) (L : Own) (r : Bool) : AV → St → Prop := CS B L fun v => v = .bool r
def gabionlaw14_same_j10_I (B0 : Kn) (x1 : List Bool) (x5 : List (Int × Int)) (x7 : Int) (x28 : List (Int × Int)) (x30 : Int) (x52 : Bool) (zb2 : Int × (List (Int × Int))) (zb9 : Int × Int) : Fr → Kn → Own → Prop := fun fr B A => KLe B0 B ∧ ∃ b31 v32 b33 v34 v35 b35 n35 c35 v36 b36 n36 c36, RSl EPIi64Ii64Q B v32 zb2.2 ∧ RSl Ty.bool B v34 x1 ∧ OSl EPIi64Ii64Q B v35 b35 n35 c35 x5 ∧ OSl EPIi64Ii64Q B v36 b36 n36 c36 x28 ∧ fr = [(1, v34), (2, .ptr b31 0), (5, v35), (7, .int .i64 x7), (9, .ptr b33 0), (28, v36), (29, .int .i64 (x28.length : Int)), (30, .int .i64 x30), (52, .bool x52)] ∧ A = [(b31, some [.int .i64 zb2.1, v32]), (b33, some [.int .i64 zb9.1, .int .i64 zb9.2]), oe b35 n35 c35, oe b36 n36 c36]
def gabionlaw14_same_l0_I (B0 : Kn) (x1 : List Bool) (x5 : List (Int × Int)) (x28 : List (Int × Int)) (zb2 : Int × (List (Int × Int))) (x7 : Int) (x30 : Int) : Fr → Kn → Own → Prop := fun fr B A => KLe B0 B ∧ ∃ b21 v22 v23 v24 b24 n24 c24 v25 b25 n25 c25, RSl EPIi64Ii64Q B v22 zb2.2 ∧ RSl Ty.bool B v23 x1 ∧ OSl EPIi64Ii64Q B v24 b24 n24 c24 x5 ∧ OSl EPIi64Ii64Q B v25 b25 n25 c25 x28 ∧ fr = [(1, v23), (2, .ptr b21 0), (5, v24), (7, .int .i64 x7), (28, v25), (29, .int .i64 (x28.length : Int)), (30, .int .i64 x30)] ∧ A = [(b21, some [.int .i64 zb2.1, v22]), oe b24 n24 c24, oe b25 n25 c25]
def gabionlaw14_same_l0_X0 (B0 : Kn) (x1 : List Bool) (x7 : Int) (zb2 : Int × (List (Int × Int))) : Fr → Kn → Own → Prop := fun fr B A => KLe B0 B ∧ ∃ b73 v74 v75, RSl EPIi64Ii64Q B v74 zb2.2 ∧ RSl Ty.bool B v75 x1 ∧ fr = [(1, v75), (2, .ptr b73 0), (7, .int .i64 x7)] ∧ A = [(b73, some [.int .i64 zb2.1, v74])]
def gabionlaw14_same_l1_I (B0 : Kn) (x1 : List Bool) (x7 : Int) (x58 : List Bool) (zb2 : Int × (List (Int × Int))) (x60 : Int) : Fr → Kn → Own → Prop := fun fr B A => KLe B0 B ∧ ∃ b49 v50 v51 v52, RSl EPIi64Ii64Q B v50 zb2.2 ∧ RSl Ty.bool B v51 x1 ∧ RSl Ty.bool B v52 x58 ∧ fr = [(1, v51), (2, .ptr b49 0), (7, .int .i64 x7), (58, v52), (59, .int .i64 (x58.length : Int)), (60, .int .i64 x60)] ∧ A = [(b49, some [.int .i64 zb2.1, v50])]
def gabionlaw14_same_l1_X0 (B0 : Kn) (x1 : List Bool) (x7 : Int) (zb2 : Int × (List (Int × Int))) : Fr → Kn → Own → Prop := fun fr B A => KLe B0 B ∧ ∃ b76 v77 v78, RSl EPIi64Ii64Q B v77 zb2.2 ∧ RSl Ty.bool B v78 x1 ∧ fr = [(1, v78), (2, .ptr b76 0), (7, .int .i64 x7)] ∧ A = [(b76, some [.int .i64 zb2.1, v77])]
def gabionlaw14_same_j4_I (B0 : Kn) (x1 : List Bool) (x5 : List (Int × Int)) (x6 : List (Int × Int)) (x27 : Bool) (zb2 : Int × (List (Int × Int))) : Fr → Kn → Own → Prop := fun fr B A => KLe B0 B ∧ ∃ b15 v16 v17 v18 b18 n18 c18 v19 b19 n19 c19, RSl EPIi64Ii64Q B v16 zb2.2 ∧ RSl Ty.bool B v17 x1 ∧ OSl EPIi64Ii64Q B v18 b18 n18 c18 x5 ∧ OSl EPIi64Ii64Q B v19 b19 n19 c19 x6 ∧ fr = [(1, v17), (2, .ptr b15 0), (5, v18), (6, v19), (7, .int .i64 0), (27, .bool x27)] ∧ A = [(b15, some [.int .i64 zb2.1, v16]), oe b18 n18 c18, oe b19 n19 c19]
theorem gabionlaw14_same_j10_ok {B0 : Kn} {L : Own} {n0 : Nat} {x1 : List Bool} {x5 : List (Int × Int)} {x7 : Int} {x28 : List (Int × Int)} {x30 : Int} {x52 : Bool} {zb2 : Int × (List (Int × Int))} {zb9 : Int × Int} {Q : AV → St → Prop} {E : (Int × Int) ⊕ (Bool ⊕ Int) → Prop} {o : (Int × Int) ⊕ (Bool ⊕ Int)} (h : gabionlaw14_same_j10 x1 x5 x7 x28 x30 x52 zb2 zb9 = some o) (hn : ∀ s, E (.inl s) → WXI Try.prog 87 n0 (Fin Try.prog Try.f39.results.toList n0 Q) [.lp (ct [1, 1, 1, 1, 1, 0, 1, 0, 0] (bodyOf Try.f39)), .blk 0, .code (ct [1, 1, 1, 1, 1, 1] (bodyOf Try.f39))] (gabionlaw14_same_l0_I B0 x1 x5 x28 zb2 s.1 s.2) L) (hx0 : ∀ s, E (.inr (.inr s)) → WXI Try.prog 87 n0 (Fin Try.prog Try.f39.results.toList n0 Q) [.code (ct [1, 1, 1, 1, 1, 1] (bodyOf Try.f39))] (gabionlaw14_same_l0_X0 B0 x1 s zb2) L) (hr : ∀ r, E (.inr (.inl r)) → ∀ v st, gabionlaw14_same_P B0 L r v st → Q v st) (hE : E o) : WXI Try.prog 87 n0 (Fin Try.prog Try.f39.results.toList n0 Q) [.code (ct [1, 1, 1, 1, 1, 0, 1, 0, 0, 1, 1, 0, 0, 1, 0, 1] (bodyOf Try.f39)), .code (ct [1, 1, 1, 1, 1, 0, 1, 0, 0, 1, 1, 0, 0, 1, 1] (bodyOf Try.f39)), .blk 1, .code (ct [1, 1, 1, 1, 1, 0, 1, 0, 0, 1, 1, 1] (bodyOf Try.f39)), .lp (ct [1, 1, 1, 1, 1, 0, 1, 0, 0] (bodyOf Try.f39)), .blk 0, .code (ct [1, 1, 1, 1, 1, 1] (bodyOf Try.f39))] (gabionlaw14_same_j10_I B0 x1 x5 x7 x28 x30 x52 zb2 zb9) L := by
  unfold gabionlaw14_same_j10 at h
  rintro _ B _ ⟨hB, b31, v32, b33, v34, v35, b35, n35, c35, v36, b36, n36, c36, h32, h34, h35, h36, rfl, rfl⟩
  obtain ⟨_, _, _, _, _, rfl⟩ := h32.isl
  obtain ⟨_, _, _, _, _, rfl⟩ := h34.isl
  obtain ⟨_, _, _, _, _, rfl⟩ := h35.isl
  obtain ⟨_, _, _, _, _, rfl⟩ := h36.isl
  rcases bsp x52 with k37 | k37
  · replace h := (if_pos k37).symm.trans h
    refine WX.condT rfl k37 ?_
    refine WX.seq ?_
    refine WX.reg ?_
    refine WO.q (.as (v := .bool _) rfl) rfl rfl ?_
    refine WO.nil ?_
    obtain rfl := Option.some.inj h
    exact WX.ret (rs_ (rs_tmp rfl rs_nil)) fun st hp => hr _ hE _ _ ⟨(hp.pk [] (by decide)).le hB, rfl⟩
  · replace h := (if_neg (bnt k37)).symm.trans h
    refine WX.condF rfl k37 ?_
    refine WX.skip ?_
    refine WX.reg ?_
    refine WO.q (.mv (v := .int _ _) rfl) rfl rfl ?_
    refine WO.q (.fa (fa35_1 _ _)) rfl rfl ?_
    refine WO.q (.ldS (i := 1) rfl rfl rfl ti3 rfl) rfl rfl ?_
    refine WO.q (.r fun _ => rfl) rfl rfl ?_
    refine WO.q (.as (v := .int _ _) rfl) rfl rfl ?_
    refine WO.nil ?_
    refine WX.pop ?_
    refine WX.reg ?_
    refine WO.q (.r fun _ => rfl) rfl rfl ?_
    refine WO.q (.mv (v := .int _ _) rfl) rfl rfl ?_
    refine WO.nil ?_
    refine WX.keepL [1, 2, 5, 7, 28, 29, 30] (WX.pk [0, 2, 3] (by decide) ?_) rfl
    obtain rfl := Option.some.inj h
    exact hn _ hE _ _ _ ⟨hB, _, _, _, _, _, n35, _, _, _, n36, _, h32, h34, h35, h36, rfl, rfl⟩
theorem gabionlaw14_same_l0_s {B0 : Kn} {L : Own} {n0 : Nat} {x1 : List Bool} {x5 : List (Int × Int)} {x28 : List (Int × Int)} {zb2 : Int × (List (Int × Int))} {x7 : Int} {x30 : Int} {Q : AV → St → Prop} {E : (Int × Int) ⊕ (Bool ⊕ Int) → Prop} {o : (Int × Int) ⊕ (Bool ⊕ Int)} (h : gabionlaw14_same_l0 x1 x5 x28 zb2 x7 x30 = some o) (hn : ∀ s, E (.inl s) → WXI Try.prog 87 n0 (Fin Try.prog Try.f39.results.toList n0 Q) [.lp (ct [1, 1, 1, 1, 1, 0, 1, 0, 0] (bodyOf Try.f39)), .blk 0, .code (ct [1, 1, 1, 1, 1, 1] (bodyOf Try.f39))] (gabionlaw14_same_l0_I B0 x1 x5 x28 zb2 s.1 s.2) L) (hx0 : ∀ s, E (.inr (.inr s)) → WXI Try.prog 87 n0 (Fin Try.prog Try.f39.results.toList n0 Q) [.code (ct [1, 1, 1, 1, 1, 1] (bodyOf Try.f39))] (gabionlaw14_same_l0_X0 B0 x1 s zb2) L) (hr : ∀ r, E (.inr (.inl r)) → ∀ v st, gabionlaw14_same_P B0 L r v st → Q v st) (hE : E o) : WXI Try.prog 87 n0 (Fin Try.prog Try.f39.results.toList n0 Q) [.code (ct [1, 1, 1, 1, 1, 0, 1, 0, 0] (bodyOf Try.f39)), .lp (ct [1, 1, 1, 1, 1, 0, 1, 0, 0] (bodyOf Try.f39)), .blk 0, .code (ct [1, 1, 1, 1, 1, 1] (bodyOf Try.f39))] (gabionlaw14_same_l0_I B0 x1 x5 x28 zb2 x7 x30) L := by
  unfold gabionlaw14_same_l0 at h
  rintro _ B _ ⟨hB, b21, v22, v23, v24, b24, n24, c24, v25, b25, n25, c25, h22, h23, h24, h25, rfl, rfl⟩
  obtain ⟨_, _, _, _, _, rfl⟩ := h22.isl
  obtain ⟨_, _, _, _, _, rfl⟩ := h23.isl
  obtain ⟨_, _, _, _, _, rfl⟩ := h24.isl
  obtain ⟨_, _, _, _, _, rfl⟩ := h25.isl
  refine WX.seq ?_
  refine WX.reg ?_
  refine WO.q (.r fun _ => rfl) rfl rfl ?_
  refine WO.nil ?_
  refine WX.seq ?_
  rcases bsp (decide (x30 < (x28.length : Int))) with k26 | k26
  · have q_k26 := of_decide_eq_true k26
    replace h := (if_pos q_k26).symm.trans h
    refine WX.condT rfl k26 ?_
    refine WX.skip ?_
    refine WX.seq ?_
    refine WX.block ?_
    refine WX.seq ?_
    refine WX.reg ?_
    refine WO.q (.mv (v := .int _ _) rfl) rfl rfl ?_
    obtain ⟨y27, hy27, h⟩ := Option.bind_eq_some_iff.1 h
    obtain rfl := h25.nonnil hy27
    obtain ⟨_, i_y27, l_y27, r_y27⟩ := h25.at sl23 hy27 .i64
    obtain ⟨_, _, rfl, rfl, rfl⟩ := r_y27
    refine WO.q (.ia i_y27) rfl rfl ?_
    refine WO.q (.leA (i := 2) rfl rfl l_y27 ti35 rfl rfl) rfl rfl ?_
    refine WO.md (MOp.alloc ti35 rfl) rfl rfl ?_
    rintro _ _ ⟨b28, rfl, rfl⟩
    refine WO.q (.as (v := .int _ _) rfl) rfl rfl ?_
    refine WO.mn (MOp.storeW rfl (cA rfl) .h ti35 rfl rfl rfl) rfl ?_
    rintro _ _ rfl
    refine WO.nil ?_
    refine WX.seq ?_
    refine WX.seq ?_
    refine WX.drw [0, 1, 2, 3, 4, 5, 6, 7, 8, 9, 10, 11, 12, 13, 14, 15, 16, 17] _ mixed (by kernel_rfl) rfl (pk_sub [0, 1, 2, 3]) ?_
    refine WP.q (i := 0) rfl (.fa (fa35_0 _ _)) rfl rfl rfl ?_
    refine WP.q (i := 1) rfl (.ldS (i := 0) rfl rfl rfl ti3 rfl) rfl rfl rfl ?_
    refine WP.q (i := 2) rfl (.mv (v := .sl _ _ _ _ _ _) rfl) rfl rfl rfl ?_
    refine WP.q (i := 3) rfl (.mv (v := .int _ _) rfl) rfl rfl rfl ?_
    obtain ⟨y29, hy29, h⟩ := Option.bind_eq_some_iff.1 h
    obtain rfl := h24.nonnil hy29
    obtain ⟨_, i_y29, l_y29, r_y29⟩ := h24.at sl40 hy29 .i64
    obtain ⟨_, _, rfl, rfl, rfl⟩ := r_y29
    refine WP.q (i := 4) rfl (.ia i_y29) rfl rfl rfl ?_
    refine WP.q (i := 5) rfl (.ia (ia41_0 _ _)) rfl rfl rfl ?_
    refine WP.q (i := 6) rfl (.ldS (i := 2) rfl rfl (l_y29.g rfl) ti3 rfl) rfl rfl rfl ?_
    refine WP.q (i := 7) rfl (.r fun _ => rfl) rfl rfl rfl ?_
    refine WP.q (i := 8) rfl (.mv (v := .bool _) rfl) rfl rfl rfl ?_
    rcases bsp (decide (y27.1 ≠ y29.1)) with k30 | k30
    · have q_k30 := of_decide_eq_true k30
      replace h := (if_pos q_k30).symm.trans h
      refine WP.sk (i := 9) rfl rfl (wg rfl rfl (gfn k30)) rfl ?_
      refine WP.sk (i := 10) rfl rfl (wg rfl rfl (gfn k30)) rfl ?_
      refine WP.sk (i := 11) rfl rfl (wg rfl rfl (gfn k30)) rfl ?_
      refine WP.sk (i := 12) rfl rfl (wg rfl rfl (gfn k30)) rfl ?_
      refine WP.sk (i := 13) rfl rfl (wg rfl rfl (gfn k30)) rfl ?_
      refine WP.sk (i := 14) rfl rfl (wg rfl rfl (gfn k30)) rfl ?_
      refine WP.sk (i := 15) rfl rfl (wg rfl rfl (gfn k30)) rfl ?_
      refine WP.sk (i := 16) rfl rfl (wg rfl rfl (gfn k30)) rfl ?_
      refine WP.q (i := 17) rfl (.ptv (v := .bool _) rfl k30 rfl) rfl rfl rfl ?_
      refine WP.nil ?_
      refine WX.keep [1, 2, 5, 7, 9, 28, 29, 30, 52] (WX.pk [1, 0, 2, 3] (by decide) ?_) rfl
      exact gabionlaw14_same_j10_ok h hn hx0 hr hE _ _ _ ⟨hB, _, _, _, _, _, _, false, _, _, _, false, _, h22, h23, h24, h25, rfl, rfl⟩
    · have q_k30 := of_decide_eq_false k30
      replace h := (if_neg q_k30).symm.trans h
      refine WP.q (i := 9) rfl (.fa (fa35_1 _ _)) rfl (wg rfl rfl (gf k30)) rfl ?_
      refine WP.q (i := 10) rfl (.ldS (i := 0) rfl rfl rfl ti3 rfl) rfl (wg rfl rfl (gf k30)) rfl ?_
      refine WP.q (i := 11) rfl (.mv (v := .sl _ _ _ _ _ _) rfl) rfl (wg rfl rfl (gf k30)) rfl ?_
      refine WP.q (i := 12) rfl (.mv (v := .int _ _) rfl) rfl (wg rfl rfl (gf k30)) rfl ?_
      obtain ⟨y38, hy38, h⟩ := Option.bind_eq_some_iff.1 h
      obtain ⟨_, i_y38, l_y38, r_y38⟩ := h24.at sl40 hy38 .i64
      obtain ⟨_, _, rfl, rfl, rfl⟩ := r_y38
      refine WP.q (i := 13) rfl (.ia i_y38) rfl (wg rfl rfl (gf k30)) rfl ?_
      refine WP.q (i := 14) rfl (.ia (ia41_1 _ _)) rfl (wg rfl rfl (gf k30)) rfl ?_
      refine WP.q (i := 15) rfl (.ldS (i := 2) rfl rfl (l_y38.g rfl) ti3 rfl) rfl (wg rfl rfl (gf k30)) rfl ?_
      refine WP.q (i := 16) rfl (.r fun _ => rfl) rfl (wg rfl rfl (gf k30)) rfl ?_
      refine WP.q (i := 17) rfl (.pfv (v := .bool _) rfl k30 rfl) rfl rfl rfl ?_
      refine WP.nil ?_
      refine WX.keep [1, 2, 5, 7, 9, 28, 29, 30, 52] (WX.pk [1, 0, 2, 3] (by decide) ?_) rfl
      exact gabionlaw14_same_j10_ok h hn hx0 hr hE _ _ _ ⟨hB, _, _, _, _, _, _, false, _, _, _, false, _, h22, h23, h24, h25, rfl, rfl⟩
  · have q_k26 := of_decide_eq_false k26
    replace h := (if_neg q_k26).symm.trans h
    refine WX.condF rfl k26 ?_
    refine WX.exit rfl ?_
    refine WX.keep [1, 2, 7] (WX.pk [0] (by decide) ?_) rfl
    obtain rfl := Option.some.inj h
    exact hx0 _ hE _ _ _ ⟨hB, _, _, _, h22, h23, rfl, rfl⟩
theorem gabionlaw14_same_l0_ok {B0 : Kn} {L : Own} {n0 : Nat} {x1 : List Bool} {x5 : List (Int × Int)} {x28 : List (Int × Int)} {zb2 : Int × (List (Int × Int))} {x7 : Int} {x30 : Int} {Q : AV → St → Prop} {d : Nat} {e : Bool ⊕ Int} (h : iter (fun (s : Int × Int) => gabionlaw14_same_l0 x1 x5 x28 zb2 s.1 s.2) d (x7, x30) = some e) (g0 : ∀ r, e = (.inl r) → ∀ v st, gabionlaw14_same_P B0 L r v st → Q v st) (g1 : ∀ s, e = (.inr s) → WXI Try.prog 87 n0 (Fin Try.prog Try.f39.results.toList n0 Q) [.code (ct [1, 1, 1, 1, 1, 1] (bodyOf Try.f39))] (gabionlaw14_same_l0_X0 B0 x1 s zb2) L) : WXI Try.prog 87 n0 (Fin Try.prog Try.f39.results.toList n0 Q) [.code (ct [1, 1, 1, 1, 1, 0, 1, 0, 0] (bodyOf Try.f39)), .lp (ct [1, 1, 1, 1, 1, 0, 1, 0, 0] (bodyOf Try.f39)), .blk 0, .code (ct [1, 1, 1, 1, 1, 1] (bodyOf Try.f39))] (gabionlaw14_same_l0_I B0 x1 x5 x28 zb2 x7 x30) L :=
  iter_ok (I := fun s => gabionlaw14_same_l0_I B0 x1 x5 x28 zb2 s.1 s.2) (D := fun e => (∀ r, e = (.inl r) → ∀ v st, gabionlaw14_same_P B0 L r v st → Q v st) ∧ (∀ s, e = (.inr s) → WXI Try.prog 87 n0 (Fin Try.prog Try.f39.results.toList n0 Q) [.code (ct [1, 1, 1, 1, 1, 1] (bodyOf Try.f39))] (gabionlaw14_same_l0_X0 B0 x1 s zb2) L)) (fun E hn hx s o ho hE => gabionlaw14_same_l0_s ho hn (fun s hs => (hx _ hs).2 _ rfl) (fun r hs => (hx _ hs).1 _ rfl) hE) h ⟨g0, g1⟩
theorem gabionlaw14_same_l1_s {B0 : Kn} {L : Own} {n0 : Nat} {x1 : List Bool} {x7 : Int} {x58 : List Bool} {zb2 : Int × (List (Int × Int))} {x60 : Int} {Q : AV → St → Prop} {E : Int ⊕ (Bool ⊕ Int) → Prop} {o : Int ⊕ (Bool ⊕ Int)} (h : gabionlaw14_same_l1 x1 x7 x58 zb2 x60 = some o) (hn : ∀ s, E (.inl s) → WXI Try.prog 87 n0 (Fin Try.prog Try.f39.results.toList n0 Q) [.lp (ct [1, 1, 1, 1, 1, 1, 0, 1, 0, 0] (bodyOf Try.f39)), .blk 2, .code (ct [1, 1, 1, 1, 1, 1, 1] (bodyOf Try.f39))] (gabionlaw14_same_l1_I B0 x1 x7 x58 zb2 s) L) (hx0 : ∀ s, E (.inr (.inr s)) → WXI Try.prog 87 n0 (Fin Try.prog Try.f39.results.toList n0 Q) [.code (ct [1, 1, 1, 1, 1, 1, 1] (bodyOf Try.f39))] (gabionlaw14_same_l1_X0 B0 x1 s zb2) L) (hr : ∀ r, E (.inr (.inl r)) → ∀ v st, gabionlaw14_same_P B0 L r v st → Q v st) (hE : E o) : WXI Try.prog 87 n0 (Fin Try.prog Try.f39.results.toList n0 Q) [.code (ct [1, 1, 1, 1, 1, 1, 0, 1, 0, 0] (bodyOf Try.f39)), .lp (ct [1, 1, 1, 1, 1, 1, 0, 1, 0, 0] (bodyOf Try.f39)), .blk 2, .code (ct [1, 1, 1, 1, 1, 1, 1] (bodyOf Try.f39))] (gabionlaw14_same_l1_I B0 x1 x7 x58 zb2 x60) L := by
  unfold gabionlaw14_same_l1 at h
  rintro _ B _ ⟨hB, b49, v50, v51, v52, h50, h51, h52, rfl, rfl⟩
  obtain ⟨_, _, _, _, _, rfl⟩ := h50.isl
  obtain ⟨_, _, _, _, _, rfl⟩ := h51.isl
  obtain ⟨_, _, _, _, _, rfl⟩ := h52.isl
  refine WX.seq ?_
  refine WX.reg ?_
  refine WO.q (.r fun _ => rfl) rfl rfl ?_
  refine WO.nil ?_
  refine WX.seq ?_
  rcases bsp (decide (x60 < (x58.length : Int))) with k53 | k53
  · have q_k53 := of_decide_eq_true k53
    replace h := (if_pos q_k53).symm.trans h
    refine WX.condT rfl k53 ?_
    refine WX.skip ?_
    refine WX.seq ?_
    refine WX.block ?_
    refine WX.seq ?_
    refine WX.reg ?_
    refine WO.q (.mv (v := .int _ _) rfl) rfl rfl ?_
    obtain ⟨y54, hy54, h⟩ := Option.bind_eq_some_iff.1 h
    obtain ⟨b_y54, o_y54, _, i_y54, p_y54, r_y54⟩ := h52.at sl66 hy54 .i64
    obtain rfl := r_y54
    refine WO.q (.ia i_y54) rfl rfl ?_
    refine WO.q (.lp0 rfl p_y54 rfl ti4 rfl) rfl rfl ?_
    refine WO.q (.as (v := .int _ _) rfl) rfl rfl ?_
    refine WO.q (.as (v := .bool _) rfl) rfl rfl ?_
    refine WO.nil ?_
    refine WX.seq ?_
    refine WX.reg ?_
    refine WO.q (.ldA (i := 0) rfl rfl rfl ti25 rfl) rfl rfl ?_
    refine WO.q (.mv (v := .int _ _) rfl) rfl rfl ?_
    obtain ⟨y55, hy55, h⟩ := Option.bind_eq_some_iff.1 h
    refine WO.cS rfl rfl (alloc_Set_Has_ok h50 hy55) rfl rfl rfl ?_
    rintro _ rfl
    refine WO.q (.mv (v := .bool _) rfl) rfl rfl ?_
    refine WO.q (.bin (evboolneq ti4 rfl)) rfl rfl ?_
    refine WO.nil ?_
    rcases bsp (decide (y55 = y54)) with k56 | k56
    · have q_k56 := of_decide_eq_true k56
      replace h := (if_pos q_k56).symm.trans h
      refine WX.condF rfl (f_not k56) ?_
      refine WX.skip ?_
      refine WX.pop ?_
      refine WX.reg ?_
      refine WO.q (.r fun _ => rfl) rfl rfl ?_
      refine WO.q (.mv (v := .int _ _) rfl) rfl rfl ?_
      refine WO.nil ?_
      refine WX.keepL [1, 2, 7, 58, 59, 60] (WX.pk [0] (by decide) ?_) rfl
      obtain rfl := Option.some.inj h
      exact hn _ hE _ _ _ ⟨hB, _, _, _, _, h50, h51, h52, rfl, rfl⟩
    · have q_k56 := of_decide_eq_false k56
      replace h := (if_neg q_k56).symm.trans h
      refine WX.condT rfl (t_not k56) ?_
      refine WX.seq ?_
      refine WX.reg ?_
      refine WO.q (.as (v := .bool _) rfl) rfl rfl ?_
      refine WO.nil ?_
      obtain rfl := Option.some.inj h
      exact WX.ret (rs_ (rs_tmp rfl rs_nil)) fun st hp => hr _ hE _ _ ⟨(hp.pk [] (by decide)).le hB, rfl⟩
  · have q_k53 := of_decide_eq_false k53
    replace h := (if_neg q_k53).symm.trans h
    refine WX.condF rfl k53 ?_
    refine WX.exit rfl ?_
    refine WX.keep [1, 2, 7] (WX.pk [0] (by decide) ?_) rfl
    obtain rfl := Option.some.inj h
    exact hx0 _ hE _ _ _ ⟨hB, _, _, _, h50, h51, rfl, rfl⟩
theorem gabionlaw14_same_l1_ok {B0 : Kn} {L : Own} {n0 : Nat} {x1 : List Bool} {x7 : Int} {x58 : List Bool} {zb2 : Int × (List (Int × Int))} {x60 : Int} {Q : AV → St → Prop} {d : Nat} {e : Bool ⊕ Int} (h : iter (fun (s : Int) => gabionlaw14_same_l1 x1 x7 x58 zb2 s) d x60 = some e) (g0 : ∀ r, e = (.inl r) → ∀ v st, gabionlaw14_same_P B0 L r v st → Q v st) (g1 : ∀ s, e = (.inr s) → WXI Try.prog 87 n0 (Fin Try.prog Try.f39.results.toList n0 Q) [.code (ct [1, 1, 1, 1, 1, 1, 1] (bodyOf Try.f39))] (gabionlaw14_same_l1_X0 B0 x1 s zb2) L) : WXI Try.prog 87 n0 (Fin Try.prog Try.f39.results.toList n0 Q) [.code (ct [1, 1, 1, 1, 1, 1, 0, 1, 0, 0] (bodyOf Try.f39)), .lp (ct [1, 1, 1, 1, 1, 1, 0, 1, 0, 0] (bodyOf Try.f39)), .blk 2, .code (ct [1, 1, 1, 1, 1, 1, 1] (bodyOf Try.f39))] (gabionlaw14_same_l1_I B0 x1 x7 x58 zb2 x60) L :=
  iter_ok (I := fun s => gabionlaw14_same_l1_I B0 x1 x7 x58 zb2 s) (D := fun e => (∀ r, e = (.inl r) → ∀ v st, gabionlaw14_same_P B0 L r v st → Q v st) ∧ (∀ s, e = (.inr s) → WXI Try.prog 87 n0 (Fin Try.prog Try.f39.results.toList n0 Q) [.code (ct [1, 1, 1, 1, 1, 1, 1] (bodyOf Try.f39))] (gabionlaw14_same_l1_X0 B0 x1 s zb2) L)) (fun E hn hx s o ho hE => gabionlaw14_same_l1_s ho hn (fun s hs => (hx _ hs).2 _ rfl) (fun r hs => (hx _ hs).1 _ rfl) hE) h ⟨g0, g1⟩
theorem gabionlaw14_same_j4_ok {B0 : Kn} {L : Own} {n0 : Nat} {x1 : List Bool} {x5 : List (Int × Int)} {x6 : List (Int × Int)} {x27 : Bool} {zb2 : Int × (List (Int × Int))} {r : Bool} (h : gabionlaw14_same_j4 x1 x5 x6 x27 zb2 = some r) : WXI Try.prog 87 n0 (Fin Try.prog Try.f39.results.toList n0 (gabionlaw14_same_P B0 L r)) [.code (ct [1, 1, 1, 1, 0, 1] (bodyOf Try.f39)), .code (ct [1, 1, 1, 1, 1] (bodyOf Try.f39))] (gabionlaw14_same_j4_I B0 x1 x5 x6 x27 zb2) L := by
  unfold gabionlaw14_same_j4 at h
  rintro _ B _ ⟨hB, b15, v16, v17, v18, b18, n18, c18, v19, b19, n19, c19, h16, h17, h18, h19, rfl, rfl⟩
  obtain ⟨_, _, _, _, _, rfl⟩ := h16.isl
  obtain ⟨_, _, _, _, _, rfl⟩ := h17.isl
  obtain ⟨_, _, _, _, _, rfl⟩ := h18.isl
  obtain ⟨_, _, _, _, _, rfl⟩ := h19.isl
  rcases bsp x27 with k20 | k20
  · replace h := (if_pos k20).symm.trans h
    refine WX.condT rfl k20 ?_
    refine WX.seq ?_
    refine WX.reg ?_
    refine WO.q (.as (v := .bool _) rfl) rfl rfl ?_
    refine WO.nil ?_
    obtain rfl := Option.some.inj h
    exact WX.ret (rs_ (rs_tmp rfl rs_nil)) fun st hp => ⟨(hp.pk [] (by decide)).le hB, rfl⟩
  · replace h := (if_neg (bnt k20)).symm.trans h
    refine WX.condF rfl k20 ?_
    refine WX.skip ?_
    refine WX.seq ?_
    refine WX.seq ?_
    refine WX.reg ?_
    refine WO.q (.mv (v := .sl _ _ _ _ _ _) rfl) rfl rfl ?_
    refine WO.q (.len rfl rfl rfl (sl23.len h19.isl)) rfl rfl ?_
    refine WO.q (.mv (v := .int _ _) rfl) rfl rfl ?_
    refine WO.nil ?_
    refine WX.block ?_
    refine WX.loop ?_
    obtain ⟨e42, he42, h⟩ := Option.bind_eq_some_iff.1 h
    refine WX.keep [1, 2, 5, 7, 28, 29, 30] (WX.pk [0, 1, 2] (by decide) ?_) rfl
    refine gabionlaw14_same_l0_ok he42 ?_ ?_ _ _ _ ⟨hB, _, _, _, _, _, n18, _, _, _, n19, _, h16, h17, h18, h19, rfl, rfl⟩
    · intro r44 he_
      subst he_
      replace h := (on_l h)
      obtain rfl := Option.some.inj h
      exact fun v st hp => hp
    · intro x45 he_
      subst he_
      replace h := (on_r h)
      rintro _ B _ ⟨hB, b46, v47, v48, h47, h48, rfl, rfl⟩
      obtain ⟨_, _, _, _, _, rfl⟩ := h47.isl
      obtain ⟨_, _, _, _, _, rfl⟩ := h48.isl
      refine WX.seq ?_
      refine WX.seq ?_
      refine WX.reg ?_
      refine WO.q (.mv (v := .sl _ _ _ _ _ _) rfl) rfl rfl ?_
      refine WO.q (.len rfl rfl rfl (sl66.len h48.isl)) rfl rfl ?_
      refine WO.q (.mv (v := .int _ _) rfl) rfl rfl ?_
      refine WO.nil ?_
      refine WX.block ?_
      refine WX.loop ?_
      obtain ⟨e60, he60, h⟩ := Option.bind_eq_some_iff.1 h
      refine WX.keep [1, 2, 7, 58, 59, 60] (WX.pk [0] (by decide) ?_) rfl
      refine gabionlaw14_same_l1_ok he60 ?_ ?_ _ _ _ ⟨hB, _, _, _, _, h47, h48, h48, rfl, rfl⟩
      · intro r62 he_
        subst he_
        replace h := (on_l h)
        obtain rfl := Option.some.inj h
        exact fun v st hp => hp
      · intro x63 he_
        subst he_
        replace h := (on_r h)
        rintro _ B _ ⟨hB, b64, v65, v66, h65, h66, rfl, rfl⟩
        obtain ⟨_, _, _, _, _, rfl⟩ := h65.isl
        obtain ⟨_, _, _, _, _, rfl⟩ := h66.isl
        refine WX.seq ?_
        refine WX.reg ?_
        refine WO.q (.ldA (i := 0) rfl rfl rfl ti25 rfl) rfl rfl ?_
        obtain ⟨y67, hy67, h⟩ := Option.bind_eq_some_iff.1 h
        refine WO.cS rfl rfl (alloc_Set_Free_ok h65 hy67) rfl rfl rfl ?_
        rintro _ rfl
        refine WO.q (.mv (v := .int _ _) rfl) rfl rfl ?_
        refine WO.q (.r fun _ => rfl) rfl rfl ?_
        refine WO.q (.mv (v := .bool _) rfl) rfl rfl ?_
        rcases bsp (decide (y67 = x63)) with k68 | k68
        · have q_k68 := of_decide_eq_true k68
          replace h := (if_pos q_k68).symm.trans h
          refine WO.q (.ldA (i := 0) rfl rfl rfl ti25 rfl) (wg rfl rfl (gt k68)) rfl ?_
          obtain ⟨y69, hy69, h⟩ := Option.bind_eq_some_iff.1 h
          refine WO.cS rfl rfl (alloc_Set_Has_ok h65 hy69) rfl (wg rfl rfl (gt k68)) rfl ?_
          rintro _ rfl
          refine WO.q (.r fun _ => rfl) (wg rfl rfl (gt k68)) rfl ?_
          refine WO.q (.ptv (v := .bool _) rfl k68 rfl) rfl rfl ?_
          refine WO.q (.mv (v := .bool _) rfl) rfl rfl ?_
          rcases bsp y69 with k70 | k70
          · replace h := (if_pos k70).symm.trans h
            refine WO.sd (wg rfl rfl (gtn (f_not k70))) rfl ?_
            refine WO.sd (wg rfl rfl (gtn (f_not k70))) rfl ?_
            refine WO.sd (wg rfl rfl (gtn (f_not k70))) rfl ?_
            refine WO.sd (wg rfl rfl (gtn (f_not k70))) rfl ?_
            refine WO.sd (wg rfl rfl (gtn (f_not k70))) rfl ?_
            refine WO.q (.pfv (v := .bool _) rfl (f_not k70) rfl) rfl rfl ?_
            refine WO.q (.as (v := .bool _) rfl) rfl rfl ?_
            refine WO.nil ?_
            obtain rfl := Option.some.inj h
            exact WX.ret (rs_ (rs_tmp rfl rs_nil)) fun st hp => ⟨(hp.pk [] (by decide)).le hB, rfl⟩
          · replace h := (if_neg (bnt k70)).symm.trans h
            refine WO.q (.ldA (i := 0) rfl rfl rfl ti25 rfl) (wg rfl rfl (gt (t_not k70))) rfl ?_
            refine WO.q (.mv (v := .sl _ _ _ _ _ _) rfl) (wg rfl rfl (gt (t_not k70))) rfl ?_
            refine WO.q (.len rfl rfl rfl (sl66.len h66.isl)) (wg rfl rfl (gt (t_not k70))) rfl ?_
            obtain ⟨y71, hy71, h⟩ := Option.bind_eq_some_iff.1 h
            refine WO.cS rfl rfl (alloc_Set_Has_ok h65 hy71) rfl (wg rfl rfl (gt (t_not k70))) rfl ?_
            rintro _ rfl
            refine WO.q (.r fun _ => rfl) (wg rfl rfl (gt (t_not k70))) rfl ?_
            refine WO.q (.ptv (v := .bool _) rfl (t_not k70) rfl) rfl rfl ?_
            refine WO.q (.as (v := .bool _) rfl) rfl rfl ?_
            refine WO.nil ?_
            obtain rfl := Option.some.inj h
            exact WX.ret (rs_ (rs_tmp rfl rs_nil)) fun st hp => ⟨(hp.pk [] (by decide)).le hB, rfl⟩
        · have q_k68 := of_decide_eq_false k68
          replace h := (if_neg q_k68).symm.trans h
          refine WO.sd (wg rfl rfl (gtn k68)) rfl ?_
          refine WO.sd (wg rfl rfl (gtn k68)) rfl ?_
          refine WO.sd (wg rfl rfl (gtn k68)) rfl ?_
          refine WO.q (.pfv (v := .bool _) rfl k68 rfl) rfl rfl ?_
          refine WO.q (.mv (v := .bool _) rfl) rfl rfl ?_
          refine WO.sd (wg rfl rfl (gtn rfl)) rfl ?_
          refine WO.sd (wg rfl rfl (gtn rfl)) rfl ?_
          refine WO.sd (wg rfl rfl (gtn rfl)) rfl ?_
          refine WO.sd (wg rfl rfl (gtn rfl)) rfl ?_
          refine WO.sd (wg rfl rfl (gtn rfl)) rfl ?_
          refine WO.q (.pfv (v := .bool _) rfl rfl rfl) rfl rfl ?_
          refine WO.q (.as (v := .bool _) rfl) rfl rfl ?_
          refine WO.nil ?_
          obtain rfl := Option.some.inj h
          exact WX.ret (rs_ (rs_tmp rfl rs_nil)) fun st hp => ⟨(hp.pk [] (by decide)).le hB, rfl⟩
theorem gabionlaw14_same_ok {B0 : Kn} {L : Own} {a0 : Int × (List (Int × Int))} {a1 : List Bool} {v0_0 : AV} {v1_0 : AV} {r : Bool} (g0_0 : RSl EPIi64Ii64Q B0 v0_0 a0.2) (g1_0 : RSl Ty.bool B0 v1_0 a1) (h : gabionlaw14_same a0 a1 = some r) : ∀ st, Hp B0 L st → ASpec Try.prog 39 [.agg [.int .i64 a0.1, v0_0], v1_0] st (gabionlaw14_same_P B0 L r) := by
  unfold gabionlaw14_same at h
  refine bodyA (A := []) Try.func39 rfl (c := bodyOf Try.f39) rfl Try.ntmps39 (lb rfl) fun n0 => ?_
  have hB := KLe.refl B0
  obtain ⟨_, _, _, _, _, rfl⟩ := g0_0.isl
  obtain ⟨_, _, _, _, _, rfl⟩ := g1_0.isl
  refine WX.seq ?_
  refine WX.reg ?_
  refine WO.md (MOp.box (cA rfl)) rfl rfl ?_
  rintro _ _ ⟨b1, rfl, rfl⟩
  refine WO.q (.as (v := .bool _) rfl) rfl rfl ?_
  refine WO.nil ?_
  refine WX.seq ?_
  refine WX.reg ?_
  refine WO.q (.mv (v := .sl _ _ _ _ _ _) rfl) rfl rfl ?_
  obtain ⟨y2, hy2, h⟩ := Option.bind_eq_some_iff.1 h
  refine WO.c1 rfl rfl (gabionref14_Extents_ok g1_0 hy2) rfl rfl rfl ?_
  rintro _ B _ hK ⟨v3, b4, n5, c6, rfl, rfl, h7⟩
  obtain ⟨_, _, _, _, _, rfl⟩ := h7.isl
  replace g1_0 := g1_0.up hK
  replace g0_0 := g0_0.up hK
  replace hB := hB.trans hK
  refine WO.q (.as (v := .sl _ _ _ _ _ _) rfl) rfl rfl ?_
  refine WO.nil ?_
  refine WX.seq ?_
  refine WX.reg ?_
  refine WO.q (.ldA (i := 1) rfl rfl rfl ti25 rfl) rfl rfl ?_
  obtain ⟨y8, hy8, h⟩ := Option.bind_eq_some_iff.1 h
  refine WO.c1 rfl rfl (alloc_Set_List_ok g0_0 hy8) rfl rfl rfl ?_
  rintro _ B _ hK ⟨v9, b10, n11, c12, rfl, rfl, h13⟩
  obtain ⟨_, _, _, _, _, rfl⟩ := h13.isl
  replace g1_0 := g1_0.up hK
  replace g0_0 := g0_0.up hK
  replace h7 := h7.up hK
  replace hB := hB.trans hK
  refine WO.q (.as (v := .sl _ _ _ _ _ _) rfl) rfl rfl ?_
  refine WO.nil ?_
  refine WX.seq ?_
  refine WX.reg ?_
  refine WO.q (.as (v := .int _ _) rfl) rfl rfl ?_
  refine WO.nil ?_
  refine WX.seq ?_
  refine WX.seq ?_
  refine WX.reg ?_
  refine WO.q (.mv (v := .sl _ _ _ _ _ _) rfl) rfl rfl ?_
  refine WO.q (.len rfl rfl rfl (sl23.len h13.isl)) rfl rfl ?_
  refine WO.q (.mv (v := .sl _ _ _ _ _ _) rfl) rfl rfl ?_
  refine WO.q (.len rfl rfl rfl (sl40.len h7.isl)) rfl rfl ?_
  refine WO.q (.r fun _ => rfl) rfl rfl ?_
  refine WO.q (.mv (v := .bool _) rfl) rfl rfl ?_
  rcases bsp (decide ((y8.length : Int) ≠ (y2.length : Int))) with k14 | k14
  · have q_k14 := of_decide_eq_true k14
    replace h := (if_pos q_k14).symm.trans h
    refine WO.sd (wg rfl rfl (gfn k14)) rfl ?_
    refine WO.sd (wg rfl rfl (gfn k14)) rfl ?_
    refine WO.sd (wg rfl rfl (gfn k14)) rfl ?_
    refine WO.sd (wg rfl rfl (gfn k14)) rfl ?_
    refine WO.sd (wg rfl rfl (gfn k14)) rfl ?_
    refine WO.q (.ptv (v := .bool _) rfl k14 rfl) rfl rfl ?_
    refine WO.nil ?_
    refine WX.keep [1, 2, 5, 6, 7, 27] (WX.pk [2, 1, 0] (by decide) ?_) rfl
    exact gabionlaw14_same_j4_ok h _ _ _ ⟨hB, _, _, _, _, _, n5, _, _, _, n11, _, g0_0, g1_0, h7, h13, rfl, rfl⟩
  · have q_k14 := of_decide_eq_false k14
    replace h := (if_neg q_k14).symm.trans h
    refine WO.q (.ldA (i := 2) rfl rfl rfl ti25 rfl) (wg rfl rfl (gf k14)) rfl ?_
    obtain ⟨y72, hy72, h⟩ := Option.bind_eq_some_iff.1 h
    refine WO.cS rfl rfl (alloc_Set_Size_ok g0_0 hy72) rfl (wg rfl rfl (gf k14)) rfl ?_
    rintro _ rfl
    refine WO.q (.mv (v := .sl _ _ _ _ _ _) rfl) (wg rfl rfl (gf k14)) rfl ?_
    refine WO.q (.len rfl rfl rfl (sl66.len g1_0.isl)) (wg rfl rfl (gf k14)) rfl ?_
    refine WO.q (.r fun _ => rfl) (wg rfl rfl (gf k14)) rfl ?_
    refine WO.q (.pfv (v := .bool _) rfl k14 rfl) rfl rfl ?_
    refine WO.nil ?_
    refine WX.keep [1, 2, 5, 6, 7, 27] (WX.pk [2, 1, 0] (by decide) ?_) rfl
    exact gabionlaw14_same_j4_ok h _ _ _ ⟨hB, _, _, _, _, _, n5, _, _, _, n11, _, g0_0, g1_0, h7, h13, rfl, rfl⟩
end Gab
