/- The Go code comes to what the Lean functions say. Written by a program (gp.py). -/
import Derived.Test.YtdkldojcpncnhaaFd
import Derived.Test.YtdkldojcpncnhaaTy
import Derived.Test.YtdkldojcpncnhaaFpExt1
import Derived.Test.YtdkldojcpncnhaaFpExt4
import Derived.Test.YtdkldojcpncnhaaFpLaw150
import Derived.Test.YtdkldojcpncnhaaFpLaw151
set_option linter.unusedSimpArgs false
set_option linter.unusedVariables false
set_option maxHeartbeats 4000000
set_option maxRecDepth 100000
namespace Gab
open Go Go.Proofs
def gabionlaw15_ExtParts_P (B : Kn) (L : Own) (r : Bool) : AV → St → Prop := CS B L fun v => v = .bool r
def gabionlaw15_ExtParts_j17_I (B0 : Kn) (x3 : List (Int × Int)) (x4 : List (Int × Int)) (x5 : List (Int × Int)) (x11 : Int) (x18 : List (Int × Int)) (x20 : Int) (x45 : Int) (x46 : Int) (zb7 : Int × Int) : Fr → Kn → Own → Prop := fun fr B A => KLe B0 B ∧ ∃ b27 v28 v29 v30 v31, RSl EPIi64Ii64Q B v28 x3 ∧ RSl EPIi64Ii64Q B v29 x4 ∧ RSl EPIi64Ii64Q B v30 x5 ∧ RSl EPIi64Ii64Q B v31 x18 ∧ fr = [(3, v28), (4, v29), (5, v30), (7, .ptr b27 0), (11, .int .i64 x11), (18, v31), (19, .int .i64 (x18.length : Int)), (20, .int .i64 x20), (45, .int .i64 x45), (46, .int .i64 x46)] ∧ A = [(b27, some [.int .i64 zb7.1, .int .i64 zb7.2])]
def gabionlaw15_ExtParts_l1_I (B0 : Kn) (x3 : List (Int × Int)) (x4 : List (Int × Int)) (x18 : List (Int × Int)) (x45 : Int) (zb7 : Int × Int) (x5 : List (Int × Int)) (x20 : Int) (x46 : Int) : Fr → Kn → Own → Prop := fun fr B A => KLe B0 B ∧ ∃ b20 v21 v22 v23 v24, RSl EPIi64Ii64Q B v21 x3 ∧ RSl EPIi64Ii64Q B v22 x4 ∧ RSl EPIi64Ii64Q B v23 x5 ∧ RSl EPIi64Ii64Q B v24 x18 ∧ fr = [(3, v21), (4, v22), (5, v23), (7, .ptr b20 0), (18, v24), (19, .int .i64 (x18.length : Int)), (20, .int .i64 x20), (45, .int .i64 x45), (46, .int .i64 x46)] ∧ A = [(b20, some [.int .i64 zb7.1, .int .i64 zb7.2])]
def gabionlaw15_ExtParts_l1_X0 (B0 : Kn) (x3 : List (Int × Int)) (x4 : List (Int × Int)) (x5 : List (Int × Int)) (x18 : List (Int × Int)) (x20 : Int) : Fr → Kn → Own → Prop := fun fr B A => KLe B0 B ∧ ∃ v75 v76 v77 v78, RSl EPIi64Ii64Q B v75 x3 ∧ RSl EPIi64Ii64Q B v76 x4 ∧ RSl EPIi64Ii64Q B v77 x5 ∧ RSl EPIi64Ii64Q B v78 x18 ∧ fr = [(3, v75), (4, v76), (5, v77), (18, v78), (19, .int .i64 (x18.length : Int)), (20, .int .i64 x20)] ∧ A = []
def gabionlaw15_ExtParts_l0_I (B0 : Kn) (x3 : List (Int × Int)) (x18 : List (Int × Int)) (x4 : List (Int × Int)) (x5 : List (Int × Int)) (x20 : Int) : Fr → Kn → Own → Prop := fun fr B A => KLe B0 B ∧ ∃ v8 v9 v10 v11, RSl EPIi64Ii64Q B v8 x3 ∧ RSl EPIi64Ii64Q B v9 x4 ∧ RSl EPIi64Ii64Q B v10 x5 ∧ RSl EPIi64Ii64Q B v11 x18 ∧ fr = [(3, v8), (4, v9), (5, v10), (18, v11), (19, .int .i64 (x18.length : Int)), (20, .int .i64 x20)] ∧ A = []
def gabionlaw15_ExtParts_l0_X0 (B0 : Kn) (x3 : List (Int × Int)) (x4 : List (Int × Int)) (x5 : List (Int × Int)) : Fr → Kn → Own → Prop := fun fr B A => KLe B0 B ∧ ∃ v79 v80 v81, RSl EPIi64Ii64Q B v79 x3 ∧ RSl EPIi64Ii64Q B v80 x4 ∧ RSl EPIi64Ii64Q B v81 x5 ∧ fr = [(3, v79), (4, v80), (5, v81)] ∧ A = []
theorem gabionlaw15_ExtParts_j17_ok {B0 : Kn} {L : Own} {n0 : Nat} {x3 : List (Int × Int)} {x4 : List (Int × Int)} {x5 : List (Int × Int)} {x11 : Int} {x18 : List (Int × Int)} {x20 : Int} {x45 : Int} {x46 : Int} {zb7 : Int × Int} {Q : AV → St → Prop} {E : ((List (Int × Int)) × Int × Int) ⊕ (Bool ⊕ ((List (Int × Int)) × Int)) → Prop} {o : ((List (Int × Int)) × Int × Int) ⊕ (Bool ⊕ ((List (Int × Int)) × Int))} (h : gabionlaw15_ExtParts_j17 x3 x4 x5 x11 x18 x20 x45 x46 zb7 = some o) (hn : ∀ s, E (.inl s) → WXI Try.prog 94 n0 (Fin Try.prog Try.f10.results.toList n0 Q) [.lp (ct [1, 1, 1, 0, 1, 0, 0, 1, 1, 0, 0, 1, 1, 1, 1, 1, 0, 0] (bodyOf Try.f10)), .blk 2, .blk 1, .code (ct [1, 1, 1, 0, 1, 0, 0, 1, 1, 1] (bodyOf Try.f10)), .lp (ct [1, 1, 1, 0, 1, 0, 0] (bodyOf Try.f10)), .blk 0, .code (ct [1, 1, 1, 1] (bodyOf Try.f10))] (gabionlaw15_ExtParts_l1_I B0 x3 x4 x18 x45 zb7 s.1 s.2.1 s.2.2) L) (hx0 : ∀ s, E (.inr (.inr s)) → WXI Try.prog 94 n0 (Fin Try.prog Try.f10.results.toList n0 Q) [.code (ct [1, 1, 1, 0, 1, 0, 0, 1, 1, 1] (bodyOf Try.f10)), .lp (ct [1, 1, 1, 0, 1, 0, 0] (bodyOf Try.f10)), .blk 0, .code (ct [1, 1, 1, 1] (bodyOf Try.f10))] (gabionlaw15_ExtParts_l1_X0 B0 x3 x4 s.1 x18 s.2) L) (hr : ∀ r, E (.inr (.inl r)) → ∀ v st, gabionlaw15_ExtParts_P B0 L r v st → Q v st) (hE : E o) : WXI Try.prog 94 n0 (Fin Try.prog Try.f10.results.toList n0 Q) [.code (ct [1, 1, 1, 0, 1, 0, 0, 1, 1, 0, 0, 1, 1, 1, 1, 1, 0, 0, 1, 1, 0, 0, 1, 1, 1] (bodyOf Try.f10)), .blk 3, .code (ct [1, 1, 1, 0, 1, 0, 0, 1, 1, 0, 0, 1, 1, 1, 1, 1, 0, 0, 1, 1, 1] (bodyOf Try.f10)), .lp (ct [1, 1, 1, 0, 1, 0, 0, 1, 1, 0, 0, 1, 1, 1, 1, 1, 0, 0] (bodyOf Try.f10)), .blk 2, .blk 1, .code (ct [1, 1, 1, 0, 1, 0, 0, 1, 1, 1] (bodyOf Try.f10)), .lp (ct [1, 1, 1, 0, 1, 0, 0] (bodyOf Try.f10)), .blk 0, .code (ct [1, 1, 1, 1] (bodyOf Try.f10))] (gabionlaw15_ExtParts_j17_I B0 x3 x4 x5 x11 x18 x20 x45 x46 zb7) L := by
  unfold gabionlaw15_ExtParts_j17 at h
  rintro _ B _ ⟨hB, b27, v28, v29, v30, v31, h28, h29, h30, h31, rfl, rfl⟩
  obtain ⟨_, _, _, _, _, rfl⟩ := h28.isl
  obtain ⟨_, _, _, _, _, rfl⟩ := h29.isl
  obtain ⟨_, _, _, _, _, rfl⟩ := h30.isl
  obtain ⟨_, _, _, _, _, rfl⟩ := h31.isl
  refine WX.seq ?_
  refine WX.reg ?_
  refine WO.q (.mv (v := .sl _ _ _ _ _ _) rfl) rfl rfl ?_
  refine WO.q (.mv (v := .int _ _) rfl) rfl rfl ?_
  refine WO.q (.bd (bd35_0_1 (cI rfl) (cI rfl))) rfl rfl ?_
  obtain ⟨y32, hy32, h⟩ := Option.bind_eq_some_iff.1 h
  refine WO.c0 rfl rfl (ext_List_Append_ok h30 hy32) rfl rfl rfl ?_
  rintro _ B hK ⟨v33, rfl, h34⟩
  obtain ⟨_, _, _, _, _, rfl⟩ := h34.isl
  replace h28 := h28.up hK
  replace h29 := h29.up hK
  replace h30 := h30.up hK
  replace h31 := h31.up hK
  replace hB := hB.trans hK
  refine WO.q (.mv (v := .tup _) rfl) rfl rfl ?_
  refine WO.q (.r fun _ => rfl) rfl rfl ?_
  refine WO.q (.r fun _ => rfl) rfl rfl ?_
  refine WO.q (.as (v := .sl _ _ _ _ _ _) rfl) rfl rfl ?_
  refine WO.q (.as (v := .int _ _) rfl) rfl rfl ?_
  refine WO.nil ?_
  refine WX.seq ?_
  refine WX.seq ?_
  refine WX.reg ?_
  refine WO.q (.mv (v := .int _ _) rfl) rfl rfl ?_
  refine WO.q (.r fun _ => rfl) rfl rfl ?_
  refine WO.nil ?_
  rcases bsp (decide (y32.2 ≠ 0)) with k35 | k35
  · have q_k35 := of_decide_eq_true k35
    replace h := (if_pos q_k35).symm.trans h
    refine WX.condT rfl k35 ?_
    refine WX.seq ?_
    refine WX.reg ?_
    refine WO.q (.as (v := .bool _) rfl) rfl rfl ?_
    refine WO.nil ?_
    obtain rfl := Option.some.inj h
    exact WX.ret (rs_ (rs_tmp rfl rs_nil)) fun st hp => hr _ hE _ _ ⟨(hp.pk [] (by decide)).le hB, rfl⟩
  · have q_k35 := of_decide_eq_false k35
    replace h := (if_neg q_k35).symm.trans h
    refine WX.condF rfl k35 ?_
    refine WX.skip ?_
    refine WX.reg ?_
    refine WO.q (.mv (v := .sl _ _ _ _ _ _) rfl) rfl rfl ?_
    refine WO.q (.as (v := .sl _ _ _ _ _ _) rfl) rfl rfl ?_
    refine WO.nil ?_
    refine WX.pop ?_
    refine WX.reg ?_
    refine WO.q (.r fun _ => rfl) rfl rfl ?_
    refine WO.q (.mv (v := .int _ _) rfl) rfl rfl ?_
    refine WO.nil ?_
    refine WX.keepL [3, 4, 5, 7, 18, 19, 20, 45, 46] (WX.pk [0] (by decide) ?_) rfl
    obtain rfl := Option.some.inj h
    exact hn _ hE _ _ _ ⟨hB, _, _, _, _, _, h28, h29, h34, h31, rfl, rfl⟩
theorem gabionlaw15_ExtParts_l1_s {B0 : Kn} {L : Own} {n0 : Nat} {x3 : List (Int × Int)} {x4 : List (Int × Int)} {x18 : List (Int × Int)} {x45 : Int} {zb7 : Int × Int} {x5 : List (Int × Int)} {x20 : Int} {x46 : Int} {Q : AV → St → Prop} {E : ((List (Int × Int)) × Int × Int) ⊕ (Bool ⊕ ((List (Int × Int)) × Int)) → Prop} {o : ((List (Int × Int)) × Int × Int) ⊕ (Bool ⊕ ((List (Int × Int)) × Int))} (h : gabionlaw15_ExtParts_l1 x3 x4 x18 x45 zb7 x5 x20 x46 = some o) (hn : ∀ s, E (.inl s) → WXI Try.prog 94 n0 (Fin Try.prog Try.f10.results.toList n0 Q) [.lp (ct [1, 1, 1, 0, 1, 0, 0, 1, 1, 0, 0, 1, 1, 1, 1, 1, 0, 0] (bodyOf Try.f10)), .blk 2, .blk 1, .code (ct [1, 1, 1, 0, 1, 0, 0, 1, 1, 1] (bodyOf Try.f10)), .lp (ct [1, 1, 1, 0, 1, 0, 0] (bodyOf Try.f10)), .blk 0, .code (ct [1, 1, 1, 1] (bodyOf Try.f10))] (gabionlaw15_ExtParts_l1_I B0 x3 x4 x18 x45 zb7 s.1 s.2.1 s.2.2) L) (hx0 : ∀ s, E (.inr (.inr s)) → WXI Try.prog 94 n0 (Fin Try.prog Try.f10.results.toList n0 Q) [.code (ct [1, 1, 1, 0, 1, 0, 0, 1, 1, 1] (bodyOf Try.f10)), .lp (ct [1, 1, 1, 0, 1, 0, 0] (bodyOf Try.f10)), .blk 0, .code (ct [1, 1, 1, 1] (bodyOf Try.f10))] (gabionlaw15_ExtParts_l1_X0 B0 x3 x4 s.1 x18 s.2) L) (hr : ∀ r, E (.inr (.inl r)) → ∀ v st, gabionlaw15_ExtParts_P B0 L r v st → Q v st) (hE : E o) : WXI Try.prog 94 n0 (Fin Try.prog Try.f10.results.toList n0 Q) [.code (ct [1, 1, 1, 0, 1, 0, 0, 1, 1, 0, 0, 1, 1, 1, 1, 1, 0, 0] (bodyOf Try.f10)), .lp (ct [1, 1, 1, 0, 1, 0, 0, 1, 1, 0, 0, 1, 1, 1, 1, 1, 0, 0] (bodyOf Try.f10)), .blk 2, .blk 1, .code (ct [1, 1, 1, 0, 1, 0, 0, 1, 1, 1] (bodyOf Try.f10)), .lp (ct [1, 1, 1, 0, 1, 0, 0] (bodyOf Try.f10)), .blk 0, .code (ct [1, 1, 1, 1] (bodyOf Try.f10))] (gabionlaw15_ExtParts_l1_I B0 x3 x4 x18 x45 zb7 x5 x20 x46) L := by
  unfold gabionlaw15_ExtParts_l1 at h
  rintro _ B _ ⟨hB, b20, v21, v22, v23, v24, h21, h22, h23, h24, rfl, rfl⟩
  obtain ⟨_, _, _, _, _, rfl⟩ := h21.isl
  obtain ⟨_, _, _, _, _, rfl⟩ := h22.isl
  obtain ⟨_, _, _, _, _, rfl⟩ := h23.isl
  obtain ⟨_, _, _, _, _, rfl⟩ := h24.isl
  refine WX.seq ?_
  refine WX.reg ?_
  refine WO.q (.r fun _ => rfl) rfl rfl ?_
  refine WO.nil ?_
  refine WX.seq ?_
  rcases bsp (decide (x46 < x45)) with k25 | k25
  · have q_k25 := of_decide_eq_true k25
    replace h := (if_pos q_k25).symm.trans h
    refine WX.condT rfl k25 ?_
    refine WX.skip ?_
    refine WX.seq ?_
    refine WX.block ?_
    refine WX.seq ?_
    refine WX.reg ?_
    refine WO.q (.mv (v := .int _ _) rfl) rfl rfl ?_
    refine WO.q (.as (v := .int _ _) rfl) rfl rfl ?_
    refine WO.nil ?_
    refine WX.seq ?_
    refine WX.reg ?_
    refine WO.q (.ia (ia41_0 _ _)) rfl rfl ?_
    refine WO.q (.ldS (i := 0) rfl rfl rfl ti3 rfl) rfl rfl ?_
    refine WO.q (.mv (v := .int _ _) rfl) rfl rfl ?_
    refine WO.q (.r fun _ => rfl) rfl rfl ?_
    refine WO.q (.as (v := .int _ _) rfl) rfl rfl ?_
    refine WO.nil ?_
    refine WX.seq ?_
    refine WX.seq ?_
    refine WX.reg ?_
    refine WO.q (.ia (ia41_0 _ _)) rfl rfl ?_
    refine WO.q (.ldS (i := 0) rfl rfl rfl ti3 rfl) rfl rfl ?_
    refine WO.q (.r fun _ => rfl) rfl rfl ?_
    refine WO.nil ?_
    rcases bsp (decide (zb7.1 = (-1))) with k26 | k26
    · have q_k26 := of_decide_eq_true k26
      replace h := (if_pos q_k26).symm.trans h
      refine WX.condT rfl k26 ?_
      refine WX.reg ?_
      refine WO.q (.as (v := .int _ _) rfl) rfl rfl ?_
      refine WO.nil ?_
      refine WX.keep [3, 4, 5, 7, 11, 18, 19, 20, 45, 46] (WX.pk [0] (by decide) ?_) rfl
      exact gabionlaw15_ExtParts_j17_ok h hn hx0 hr hE _ _ _ ⟨hB, _, _, _, _, _, h21, h22, h23, h24, rfl, rfl⟩
    · have q_k26 := of_decide_eq_false k26
      replace h := (if_neg q_k26).symm.trans h
      refine WX.condF rfl k26 ?_
      refine WX.skip ?_
      refine WX.keep [3, 4, 5, 7, 11, 18, 19, 20, 45, 46] (WX.pk [0] (by decide) ?_) rfl
      exact gabionlaw15_ExtParts_j17_ok h hn hx0 hr hE _ _ _ ⟨hB, _, _, _, _, _, h21, h22, h23, h24, rfl, rfl⟩
  · have q_k25 := of_decide_eq_false k25
    replace h := (if_neg q_k25).symm.trans h
    refine WX.condF rfl k25 ?_
    refine WX.exit rfl ?_
    refine WX.pop ?_
    refine WX.keep [3, 4, 5, 18, 19, 20] (WX.pk [] (by decide) ?_) rfl
    obtain rfl := Option.some.inj h
    exact hx0 _ hE _ _ _ ⟨hB, _, _, _, _, h21, h22, h23, h24, rfl, rfl⟩
theorem gabionlaw15_ExtParts_l1_ok {B0 : Kn} {L : Own} {n0 : Nat} {x3 : List (Int × Int)} {x4 : List (Int × Int)} {x18 : List (Int × Int)} {x45 : Int} {zb7 : Int × Int} {x5 : List (Int × Int)} {x20 : Int} {x46 : Int} {Q : AV → St → Prop} {d : Nat} {e : Bool ⊕ ((List (Int × Int)) × Int)} (h : iter (fun (s : (List (Int × Int)) × Int × Int) => gabionlaw15_ExtParts_l1 x3 x4 x18 x45 zb7 s.1 s.2.1 s.2.2) d (x5, x20, x46) = some e) (g0 : ∀ r, e = (.inl r) → ∀ v st, gabionlaw15_ExtParts_P B0 L r v st → Q v st) (g1 : ∀ s, e = (.inr s) → WXI Try.prog 94 n0 (Fin Try.prog Try.f10.results.toList n0 Q) [.code (ct [1, 1, 1, 0, 1, 0, 0, 1, 1, 1] (bodyOf Try.f10)), .lp (ct [1, 1, 1, 0, 1, 0, 0] (bodyOf Try.f10)), .blk 0, .code (ct [1, 1, 1, 1] (bodyOf Try.f10))] (gabionlaw15_ExtParts_l1_X0 B0 x3 x4 s.1 x18 s.2) L) : WXI Try.prog 94 n0 (Fin Try.prog Try.f10.results.toList n0 Q) [.code (ct [1, 1, 1, 0, 1, 0, 0, 1, 1, 0, 0, 1, 1, 1, 1, 1, 0, 0] (bodyOf Try.f10)), .lp (ct [1, 1, 1, 0, 1, 0, 0, 1, 1, 0, 0, 1, 1, 1, 1, 1, 0, 0] (bodyOf Try.f10)), .blk 2, .blk 1, .code (ct [1, 1, 1, 0, 1, 0, 0, 1, 1, 1] (bodyOf Try.f10)), .lp (ct [1, 1, 1, 0, 1, 0, 0] (bodyOf Try.f10)), .blk 0, .code (ct [1, 1, 1, 1] (bodyOf Try.f10))] (gabionlaw15_ExtParts_l1_I B0 x3 x4 x18 x45 zb7 x5 x20 x46) L :=
  iter_ok (I := fun s => gabionlaw15_ExtParts_l1_I B0 x3 x4 x18 x45 zb7 s.1 s.2.1 s.2.2) (D := fun e => (∀ r, e = (.inl r) → ∀ v st, gabionlaw15_ExtParts_P B0 L r v st → Q v st) ∧ (∀ s, e = (.inr s) → WXI Try.prog 94 n0 (Fin Try.prog Try.f10.results.toList n0 Q) [.code (ct [1, 1, 1, 0, 1, 0, 0, 1, 1, 1] (bodyOf Try.f10)), .lp (ct [1, 1, 1, 0, 1, 0, 0] (bodyOf Try.f10)), .blk 0, .code (ct [1, 1, 1, 1] (bodyOf Try.f10))] (gabionlaw15_ExtParts_l1_X0 B0 x3 x4 s.1 x18 s.2) L)) (fun E hn hx s o ho hE => gabionlaw15_ExtParts_l1_s ho hn (fun s hs => (hx _ hs).2 _ rfl) (fun r hs => (hx _ hs).1 _ rfl) hE) h ⟨g0, g1⟩
theorem gabionlaw15_ExtParts_l0_s {B0 : Kn} {L : Own} {n0 : Nat} {x3 : List (Int × Int)} {x18 : List (Int × Int)} {x4 : List (Int × Int)} {x5 : List (Int × Int)} {x20 : Int} {Q : AV → St → Prop} {E : ((List (Int × Int)) × (List (Int × Int)) × Int) ⊕ (Bool ⊕ ((List (Int × Int)) × (List (Int × Int)))) → Prop} {o : ((List (Int × Int)) × (List (Int × Int)) × Int) ⊕ (Bool ⊕ ((List (Int × Int)) × (List (Int × Int))))} (h : gabionlaw15_ExtParts_l0 x3 x18 x4 x5 x20 = some o) (hn : ∀ s, E (.inl s) → WXI Try.prog 94 n0 (Fin Try.prog Try.f10.results.toList n0 Q) [.lp (ct [1, 1, 1, 0, 1, 0, 0] (bodyOf Try.f10)), .blk 0, .code (ct [1, 1, 1, 1] (bodyOf Try.f10))] (gabionlaw15_ExtParts_l0_I B0 x3 x18 s.1 s.2.1 s.2.2) L) (hx0 : ∀ s, E (.inr (.inr s)) → WXI Try.prog 94 n0 (Fin Try.prog Try.f10.results.toList n0 Q) [.code (ct [1, 1, 1, 1] (bodyOf Try.f10))] (gabionlaw15_ExtParts_l0_X0 B0 x3 s.1 s.2) L) (hr : ∀ r, E (.inr (.inl r)) → ∀ v st, gabionlaw15_ExtParts_P B0 L r v st → Q v st) (hE : E o) : WXI Try.prog 94 n0 (Fin Try.prog Try.f10.results.toList n0 Q) [.code (ct [1, 1, 1, 0, 1, 0, 0] (bodyOf Try.f10)), .lp (ct [1, 1, 1, 0, 1, 0, 0] (bodyOf Try.f10)), .blk 0, .code (ct [1, 1, 1, 1] (bodyOf Try.f10))] (gabionlaw15_ExtParts_l0_I B0 x3 x18 x4 x5 x20) L := by
  unfold gabionlaw15_ExtParts_l0 at h
  rintro _ B _ ⟨hB, v8, v9, v10, v11, h8, h9, h10, h11, rfl, rfl⟩
  obtain ⟨_, _, _, _, _, rfl⟩ := h8.isl
  obtain ⟨_, _, _, _, _, rfl⟩ := h9.isl
  obtain ⟨_, _, _, _, _, rfl⟩ := h10.isl
  obtain ⟨_, _, _, _, _, rfl⟩ := h11.isl
  refine WX.seq ?_
  refine WX.reg ?_
  refine WO.q (.r fun _ => rfl) rfl rfl ?_
  refine WO.nil ?_
  refine WX.seq ?_
  rcases bsp (decide (x20 < (x18.length : Int))) with k12 | k12
  · have q_k12 := of_decide_eq_true k12
    replace h := (if_pos q_k12).symm.trans h
    refine WX.condT rfl k12 ?_
    refine WX.skip ?_
    refine WX.seq ?_
    refine WX.block ?_
    refine WX.seq ?_
    refine WX.reg ?_
    obtain ⟨y13, hy13, h⟩ := Option.bind_eq_some_iff.1 h
    obtain ⟨b_y13, o_y13, _, i_y13, p_y13, r_y13⟩ := h11.at sl40 hy13 .i64
    obtain ⟨_, _, rfl, rfl, rfl⟩ := r_y13
    refine WO.q (.ia i_y13) rfl rfl ?_
    refine WO.q (.lpA rfl p_y13 ti41 rfl rfl) rfl rfl ?_
    refine WO.md (MOp.alloc ti41 rfl) rfl rfl ?_
    rintro _ _ ⟨b14, rfl, rfl⟩
    refine WO.mn (MOp.storeW rfl (cA rfl) .h ti41 rfl rfl rfl) rfl ?_
    rintro _ _ rfl
    refine WO.nil ?_
    refine WX.seq ?_
    refine WX.reg ?_
    refine WO.q (.mv (v := .sl _ _ _ _ _ _) rfl) rfl rfl ?_
    refine WO.q (.ia (ia41_0 _ _)) rfl rfl ?_
    refine WO.q (.ldS (i := 0) rfl rfl rfl ti3 rfl) rfl rfl ?_
    refine WO.q (.ia (ia41_1 _ _)) rfl rfl ?_
    refine WO.q (.ldS (i := 0) rfl rfl rfl ti3 rfl) rfl rfl ?_
    refine WO.q (.bd (bd35_0_1 (cI rfl) (cI rfl))) rfl rfl ?_
    obtain ⟨y15, hy15, h⟩ := Option.bind_eq_some_iff.1 h
    refine WO.c0 rfl rfl (ext_List_Append_ok h9 hy15) rfl rfl rfl ?_
    rintro _ B hK ⟨v16, rfl, h17⟩
    obtain ⟨_, _, _, _, _, rfl⟩ := h17.isl
    replace h8 := h8.up hK
    replace h9 := h9.up hK
    replace h10 := h10.up hK
    replace h11 := h11.up hK
    replace hB := hB.trans hK
    refine WO.q (.mv (v := .tup _) rfl) rfl rfl ?_
    refine WO.q (.r fun _ => rfl) rfl rfl ?_
    refine WO.q (.r fun _ => rfl) rfl rfl ?_
    refine WO.q (.as (v := .sl _ _ _ _ _ _) rfl) rfl rfl ?_
    refine WO.q (.as (v := .int _ _) rfl) rfl rfl ?_
    refine WO.nil ?_
    refine WX.seq ?_
    refine WX.seq ?_
    refine WX.reg ?_
    refine WO.q (.mv (v := .int _ _) rfl) rfl rfl ?_
    refine WO.q (.r fun _ => rfl) rfl rfl ?_
    refine WO.nil ?_
    rcases bsp (decide (y15.2 ≠ 0)) with k18 | k18
    · have q_k18 := of_decide_eq_true k18
      replace h := (if_pos q_k18).symm.trans h
      refine WX.condT rfl k18 ?_
      refine WX.seq ?_
      refine WX.reg ?_
      refine WO.q (.mv (v := .int _ _) rfl) rfl rfl ?_
      refine WO.q (.r fun _ => rfl) rfl rfl ?_
      refine WO.q (.mv (v := .bool _) rfl) rfl rfl ?_
      rcases bsp (decide (y15.2 = 7)) with k19 | k19
      · have q_k19 := of_decide_eq_true k19
        replace h := (if_pos q_k19).symm.trans h
        refine WO.q (.mv (v := .sl _ _ _ _ _ _) rfl) (wg rfl rfl (gt k19)) rfl ?_
        refine WO.q (.len rfl rfl rfl (sl44.len h9.isl)) (wg rfl rfl (gt k19)) rfl ?_
        refine WO.q (.r fun _ => rfl) (wg rfl rfl (gt k19)) rfl ?_
        refine WO.q (.ptv (v := .bool _) rfl k19 rfl) rfl rfl ?_
        refine WO.q (.as (v := .bool _) rfl) rfl rfl ?_
        refine WO.nil ?_
        obtain rfl := Option.some.inj h
        exact WX.ret (rs_ (rs_tmp rfl rs_nil)) fun st hp => hr _ hE _ _ ⟨(hp.pk [] (by decide)).le hB, rfl⟩
      · have q_k19 := of_decide_eq_false k19
        replace h := (if_neg q_k19).symm.trans h
        refine WO.sd (wg rfl rfl (gtn k19)) rfl ?_
        refine WO.sd (wg rfl rfl (gtn k19)) rfl ?_
        refine WO.sd (wg rfl rfl (gtn k19)) rfl ?_
        refine WO.q (.pfv (v := .bool _) rfl k19 rfl) rfl rfl ?_
        refine WO.q (.as (v := .bool _) rfl) rfl rfl ?_
        refine WO.nil ?_
        obtain rfl := Option.some.inj h
        exact WX.ret (rs_ (rs_tmp rfl rs_nil)) fun st hp => hr _ hE _ _ ⟨(hp.pk [] (by decide)).le hB, rfl⟩
    · have q_k18 := of_decide_eq_false k18
      replace h := (if_neg q_k18).symm.trans h
      refine WX.condF rfl k18 ?_
      refine WX.skip ?_
      refine WX.seq ?_
      refine WX.reg ?_
      refine WO.q (.mv (v := .sl _ _ _ _ _ _) rfl) rfl rfl ?_
      refine WO.q (.as (v := .sl _ _ _ _ _ _) rfl) rfl rfl ?_
      refine WO.nil ?_
      refine WX.seq ?_
      refine WX.reg ?_
      refine WO.q (.ia (ia41_1 _ _)) rfl rfl ?_
      refine WO.q (.ldS (i := 0) rfl rfl rfl ti3 rfl) rfl rfl ?_
      refine WO.q (.mv (v := .int _ _) rfl) rfl rfl ?_
      refine WO.nil ?_
      refine WX.block ?_
      refine WX.loop ?_
      obtain ⟨e40, he40, h⟩ := Option.bind_eq_some_iff.1 h
      refine WX.keep [3, 4, 5, 7, 18, 19, 20, 45, 46] (WX.pk [0] (by decide) ?_) rfl
      refine gabionlaw15_ExtParts_l1_ok he40 ?_ ?_ _ _ _ ⟨hB, _, _, _, _, _, h8, h17, h10, h11, rfl, rfl⟩
      · intro r42 he_
        subst he_
        replace h := (on_l h)
        obtain rfl := Option.some.inj h
        exact hr _ hE
      · intro x43 he_
        subst he_
        replace h := (on_r h)
        rintro _ B _ ⟨hB, v44, v45, v46, v47, h44, h45, h46, h47, rfl, rfl⟩
        obtain ⟨_, _, _, _, _, rfl⟩ := h44.isl
        obtain ⟨_, _, _, _, _, rfl⟩ := h45.isl
        obtain ⟨_, _, _, _, _, rfl⟩ := h46.isl
        obtain ⟨_, _, _, _, _, rfl⟩ := h47.isl
        refine WX.reg ?_
        refine WO.q (.r fun _ => rfl) rfl rfl ?_
        refine WO.q (.mv (v := .int _ _) rfl) rfl rfl ?_
        refine WO.nil ?_
        refine WX.keepL [3, 4, 5, 18, 19, 20] (WX.pk [] (by decide) ?_) rfl
        obtain rfl := Option.some.inj h
        exact hn _ hE _ _ _ ⟨hB, _, _, _, _, h44, h45, h46, h47, rfl, rfl⟩
  · have q_k12 := of_decide_eq_false k12
    replace h := (if_neg q_k12).symm.trans h
    refine WX.condF rfl k12 ?_
    refine WX.exit rfl ?_
    refine WX.keep [3, 4, 5] (WX.pk [] (by decide) ?_) rfl
    obtain rfl := Option.some.inj h
    exact hx0 _ hE _ _ _ ⟨hB, _, _, _, h8, h9, h10, rfl, rfl⟩
theorem gabionlaw15_ExtParts_l0_ok {B0 : Kn} {L : Own} {n0 : Nat} {x3 : List (Int × Int)} {x18 : List (Int × Int)} {x4 : List (Int × Int)} {x5 : List (Int × Int)} {x20 : Int} {Q : AV → St → Prop} {d : Nat} {e : Bool ⊕ ((List (Int × Int)) × (List (Int × Int)))} (h : iter (fun (s : (List (Int × Int)) × (List (Int × Int)) × Int) => gabionlaw15_ExtParts_l0 x3 x18 s.1 s.2.1 s.2.2) d (x4, x5, x20) = some e) (g0 : ∀ r, e = (.inl r) → ∀ v st, gabionlaw15_ExtParts_P B0 L r v st → Q v st) (g1 : ∀ s, e = (.inr s) → WXI Try.prog 94 n0 (Fin Try.prog Try.f10.results.toList n0 Q) [.code (ct [1, 1, 1, 1] (bodyOf Try.f10))] (gabionlaw15_ExtParts_l0_X0 B0 x3 s.1 s.2) L) : WXI Try.prog 94 n0 (Fin Try.prog Try.f10.results.toList n0 Q) [.code (ct [1, 1, 1, 0, 1, 0, 0] (bodyOf Try.f10)), .lp (ct [1, 1, 1, 0, 1, 0, 0] (bodyOf Try.f10)), .blk 0, .code (ct [1, 1, 1, 1] (bodyOf Try.f10))] (gabionlaw15_ExtParts_l0_I B0 x3 x18 x4 x5 x20) L :=
  iter_ok (I := fun s => gabionlaw15_ExtParts_l0_I B0 x3 x18 s.1 s.2.1 s.2.2) (D := fun e => (∀ r, e = (.inl r) → ∀ v st, gabionlaw15_ExtParts_P B0 L r v st → Q v st) ∧ (∀ s, e = (.inr s) → WXI Try.prog 94 n0 (Fin Try.prog Try.f10.results.toList n0 Q) [.code (ct [1, 1, 1, 1] (bodyOf Try.f10))] (gabionlaw15_ExtParts_l0_X0 B0 x3 s.1 s.2) L)) (fun E hn hx s o ho hE => gabionlaw15_ExtParts_l0_s ho hn (fun s hs => (hx _ hs).2 _ rfl) (fun r hs => (hx _ hs).1 _ rfl) hE) h ⟨g0, g1⟩
theorem gabionlaw15_ExtParts_ok {B0 : Kn} {L : Own} {a0 : List (Int × Int)} {v0_0 : AV} {r : Bool} (g0_0 : RSl EPIi64Ii64Q B0 v0_0 a0) (h : gabionlaw15_ExtParts a0 = some r) : ∀ st, Hp B0 L st → ASpec Try.prog 10 [v0_0] st (gabionlaw15_ExtParts_P B0 L r) := by
  unfold gabionlaw15_ExtParts at h
  refine bodyA (A := []) Try.func10 rfl (c := bodyOf Try.f10) rfl Try.ntmps10 (lb rfl) fun n0 => ?_
  have hB := KLe.refl B0
  obtain ⟨_, _, _, _, _, rfl⟩ := g0_0.isl
  refine WX.seq ?_
  refine WX.reg ?_
  refine WO.q (.as (v := .bool _) rfl) rfl rfl ?_
  refine WO.nil ?_
  refine WX.seq ?_
  refine WX.reg ?_
  refine WO.q (.mv (v := .sl _ _ _ _ _ _) rfl) rfl rfl ?_
  obtain ⟨y1, hy1, h⟩ := Option.bind_eq_some_iff.1 h
  refine WO.c1 rfl rfl (gabionlaw15_tame_ok g0_0 hy1) rfl rfl rfl ?_
  rintro _ B _ hK ⟨v2, b3, n4, c5, rfl, rfl, h6⟩
  obtain ⟨_, _, _, _, _, rfl⟩ := h6.isl
  replace g0_0 := g0_0.up hK
  replace hB := hB.trans hK
  refine WO.q (.as (v := .sl _ _ _ _ _ _) rfl) rfl rfl ?_
  refine WO.nil ?_
  refine WX.seq ?_
  refine WX.reg ?_
  refine WO.q (.as (v := .sl _ _ _ _ _ _) rfl) rfl rfl ?_
  refine WO.q (.as (v := .sl _ _ _ _ _ _) rfl) rfl rfl ?_
  refine WO.nil ?_
  refine WX.seq ?_
  refine WX.seq ?_
  refine WX.reg ?_
  refine WO.q (.mv (v := .sl _ _ _ _ _ _) rfl) rfl rfl ?_
  refine WO.q (.len rfl rfl rfl (sl40.len h6.isl)) rfl rfl ?_
  refine WO.q (.mv (v := .int _ _) rfl) rfl rfl ?_
  refine WO.nil ?_
  refine WX.block ?_
  refine WX.loop ?_
  obtain ⟨e51, he51, h⟩ := Option.bind_eq_some_iff.1 h
  refine WX.fz (j := 0) h6 rfl ?_
  intro B hK g7
  replace hB := hB.trans hK
  refine WX.keep [3, 4, 5, 18, 19, 20] (WX.pk [] (by decide) ?_) rfl
  refine gabionlaw15_ExtParts_l0_ok he51 ?_ ?_ _ _ _ ⟨hB, _, _, _, _, g7, RSl.nil _ _, RSl.nil _ _, g7, rfl, rfl⟩
  · intro r53 he_
    subst he_
    replace h := (on_l h)
    obtain rfl := Option.some.inj h
    exact fun v st hp => hp
  · intro x54 he_
    subst he_
    replace h := (on_r h)
    rintro _ B _ ⟨hB, v55, v56, v57, h55, h56, h57, rfl, rfl⟩
    obtain ⟨_, _, _, _, _, rfl⟩ := h55.isl
    obtain ⟨_, _, _, _, _, rfl⟩ := h56.isl
    obtain ⟨_, _, _, _, _, rfl⟩ := h57.isl
    refine WX.seq ?_
    refine WX.reg ?_
    refine WO.q (.mv (v := .sl _ _ _ _ _ _) rfl) rfl rfl ?_
    obtain ⟨y58, hy58, h⟩ := Option.bind_eq_some_iff.1 h
    refine WO.cS rfl rfl (ext_List_Text_ok h56 hy58) rfl rfl rfl ?_
    rintro _ rfl
    obtain ⟨y59, hy59, h⟩ := Option.bind_eq_some_iff.1 h
    refine WO.c1 rfl rfl (ext_Parse_ok hy59) rfl rfl rfl ?_
    rintro _ B _ hK ⟨v60, b61, n62, c63, rfl, rfl, h64⟩
    obtain ⟨_, _, _, _, _, rfl⟩ := h64.isl
    replace h55 := h55.up hK
    replace h56 := h56.up hK
    replace h57 := h57.up hK
    replace hB := hB.trans hK
    refine WO.q (.mv (v := .tup _) rfl) rfl rfl ?_
    refine WO.q (.r fun _ => rfl) rfl rfl ?_
    refine WO.q (.r fun _ => rfl) rfl rfl ?_
    refine WO.q (.as (v := .sl _ _ _ _ _ _) rfl) rfl rfl ?_
    refine WO.q (.as (v := .int _ _) rfl) rfl rfl ?_
    refine WO.nil ?_
    refine WX.seq ?_
    refine WX.reg ?_
    obtain ⟨y65, hy65, h⟩ := Option.bind_eq_some_iff.1 h
    refine WO.cS rfl rfl (gabionlaw15_wakes_ok hy65) rfl rfl rfl ?_
    rintro _ rfl
    refine WO.q (.mv (v := .bool _) rfl) rfl rfl ?_
    rcases bsp y65 with k66 | k66
    · replace h := (if_pos k66).symm.trans h
      refine WO.q (.mv (v := .sl _ _ _ _ _ _) rfl) (wg rfl rfl (gt k66)) rfl ?_
      refine WO.q (.mv (v := .sl _ _ _ _ _ _) rfl) (wg rfl rfl (gt k66)) rfl ?_
      obtain ⟨y67, hy67, h⟩ := Option.bind_eq_some_iff.1 h
      refine WO.cS rfl rfl (gabionlaw15_same_ok h56 h55 hy67) rfl (wg rfl rfl (gt k66)) rfl ?_
      rintro _ rfl
      refine WO.q (.ptv (v := .bool _) rfl k66 rfl) rfl rfl ?_
      refine WO.q (.mv (v := .bool _) rfl) rfl rfl ?_
      rcases bsp y67 with k68 | k68
      · replace h := (if_pos k68).symm.trans h
        refine WO.q (.mv (v := .sl _ _ _ _ _ _) rfl) (wg rfl rfl (gt k68)) rfl ?_
        refine WO.q (.mv (v := .sl _ _ _ _ _ _) rfl) (wg rfl rfl (gt k68)) rfl ?_
        obtain ⟨y69, hy69, h⟩ := Option.bind_eq_some_iff.1 h
        refine WO.cS rfl rfl (gabionlaw15_same_ok h57 h55 hy69) rfl (wg rfl rfl (gt k68)) rfl ?_
        rintro _ rfl
        refine WO.q (.ptv (v := .bool _) rfl k68 rfl) rfl rfl ?_
        refine WO.q (.mv (v := .bool _) rfl) rfl rfl ?_
        rcases bsp y69 with k70 | k70
        · replace h := (if_pos k70).symm.trans h
          refine WO.q (.mv (v := .int _ _) rfl) (wg rfl rfl (gt k70)) rfl ?_
          refine WO.q (.r fun _ => rfl) (wg rfl rfl (gt k70)) rfl ?_
          refine WO.q (.ptv (v := .bool _) rfl k70 rfl) rfl rfl ?_
          refine WO.q (.mv (v := .bool _) rfl) rfl rfl ?_
          rcases bsp (decide (y59.2 = 0)) with k71 | k71
          · have q_k71 := of_decide_eq_true k71
            replace h := (if_pos q_k71).symm.trans h
            refine WO.q (.mv (v := .sl _ _ _ _ _ _) rfl) (wg rfl rfl (gt k71)) rfl ?_
            refine WO.q (.mv (v := .sl _ _ _ _ _ _) rfl) (wg rfl rfl (gt k71)) rfl ?_
            obtain ⟨y72, hy72, h⟩ := Option.bind_eq_some_iff.1 h
            refine WO.cS rfl rfl (lendC (j := 0) h64 rfl fun _ K74 g73 => gabionlaw15_same_ok g73 (h55.up K74) hy72) rfl (wg rfl rfl (gt k71)) rfl ?_
            rintro _ rfl
            refine WO.q (.ptv (v := .bool _) rfl k71 rfl) rfl rfl ?_
            refine WO.q (.as (v := .bool _) rfl) rfl rfl ?_
            refine WO.nil ?_
            obtain rfl := Option.some.inj h
            exact WX.ret (rs_ (rs_tmp rfl rs_nil)) fun st hp => ⟨(hp.pk [] (by decide)).le hB, rfl⟩
          · have q_k71 := of_decide_eq_false k71
            replace h := (if_neg q_k71).symm.trans h
            refine WO.sd (wg rfl rfl (gtn k71)) rfl ?_
            refine WO.sd (wg rfl rfl (gtn k71)) rfl ?_
            refine WO.sd (wg rfl rfl (gtn k71)) rfl ?_
            refine WO.q (.pfv (v := .bool _) rfl k71 rfl) rfl rfl ?_
            refine WO.q (.as (v := .bool _) rfl) rfl rfl ?_
            refine WO.nil ?_
            obtain rfl := Option.some.inj h
            exact WX.ret (rs_ (rs_tmp rfl rs_nil)) fun st hp => ⟨(hp.pk [] (by decide)).le hB, rfl⟩
        · replace h := (if_neg (bnt k70)).symm.trans h
          refine WO.sd (wg rfl rfl (gtn k70)) rfl ?_
          refine WO.sd (wg rfl rfl (gtn k70)) rfl ?_
          refine WO.q (.pfv (v := .bool _) rfl k70 rfl) rfl rfl ?_
          refine WO.q (.mv (v := .bool _) rfl) rfl rfl ?_
          refine WO.sd (wg rfl rfl (gtn rfl)) rfl ?_
          refine WO.sd (wg rfl rfl (gtn rfl)) rfl ?_
          refine WO.sd (wg rfl rfl (gtn rfl)) rfl ?_
          refine WO.q (.pfv (v := .bool _) rfl rfl rfl) rfl rfl ?_
          refine WO.q (.as (v := .bool _) rfl) rfl rfl ?_
          refine WO.nil ?_
          obtain rfl := Option.some.inj h
          exact WX.ret (rs_ (rs_tmp rfl rs_nil)) fun st hp => ⟨(hp.pk [] (by decide)).le hB, rfl⟩
      · replace h := (if_neg (bnt k68)).symm.trans h
        refine WO.sd (wg rfl rfl (gtn k68)) rfl ?_
        refine WO.sd (wg rfl rfl (gtn k68)) rfl ?_
        refine WO.sd (wg rfl rfl (gtn k68)) rfl ?_
        refine WO.q (.pfv (v := .bool _) rfl k68 rfl) rfl rfl ?_
        refine WO.q (.mv (v := .bool _) rfl) rfl rfl ?_
        refine WO.sd (wg rfl rfl (gtn rfl)) rfl ?_
        refine WO.sd (wg rfl rfl (gtn rfl)) rfl ?_
        refine WO.q (.pfv (v := .bool _) rfl rfl rfl) rfl rfl ?_
        refine WO.q (.mv (v := .bool _) rfl) rfl rfl ?_
        refine WO.sd (wg rfl rfl (gtn rfl)) rfl ?_
        refine WO.sd (wg rfl rfl (gtn rfl)) rfl ?_
        refine WO.sd (wg rfl rfl (gtn rfl)) rfl ?_
        refine WO.q (.pfv (v := .bool _) rfl rfl rfl) rfl rfl ?_
        refine WO.q (.as (v := .bool _) rfl) rfl rfl ?_
        refine WO.nil ?_
        obtain rfl := Option.some.inj h
        exact WX.ret (rs_ (rs_tmp rfl rs_nil)) fun st hp => ⟨(hp.pk [] (by decide)).le hB, rfl⟩
    · replace h := (if_neg (bnt k66)).symm.trans h
      refine WO.sd (wg rfl rfl (gtn k66)) rfl ?_
      refine WO.sd (wg rfl rfl (gtn k66)) rfl ?_
      refine WO.sd (wg rfl rfl (gtn k66)) rfl ?_
      refine WO.q (.pfv (v := .bool _) rfl k66 rfl) rfl rfl ?_
      refine WO.q (.mv (v := .bool _) rfl) rfl rfl ?_
      refine WO.sd (wg rfl rfl (gtn rfl)) rfl ?_
      refine WO.sd (wg rfl rfl (gtn rfl)) rfl ?_
      refine WO.sd (wg rfl rfl (gtn rfl)) rfl ?_
      refine WO.q (.pfv (v := .bool _) rfl rfl rfl) rfl rfl ?_
      refine WO.q (.mv (v := .bool _) rfl) rfl rfl ?_
      refine WO.sd (wg rfl rfl (gtn rfl)) rfl ?_
      refine WO.sd (wg rfl rfl (gtn rfl)) rfl ?_
      refine WO.q (.pfv (v := .bool _) rfl rfl rfl) rfl rfl ?_
      refine WO.q (.mv (v := .bool _) rfl) rfl rfl ?_
      refine WO.sd (wg rfl rfl (gtn rfl)) rfl ?_
      refine WO.sd (wg rfl rfl (gtn rfl)) rfl ?_
      refine WO.sd (wg rfl rfl (gtn rfl)) rfl ?_
      refine WO.q (.pfv (v := .bool _) rfl rfl rfl) rfl rfl ?_
      refine WO.q (.as (v := .bool _) rfl) rfl rfl ?_
      refine WO.nil ?_
      obtain rfl := Option.some.inj h
      exact WX.ret (rs_ (rs_tmp rfl rs_nil)) fun st hp => ⟨(hp.pk [] (by decide)).le hB, rfl⟩
end Gab
