/- The Go code comes to what the Lean functions say. Written by a program (gp.py). -/
import Derived.Test.YtdkldojcpncnhaaFd
import Derived.Test.YtdkldojcpncnhaaTy
import Derived.Test.YtdkldojcpncnhaaFpExt0
import Derived.Test.YtdkldojcpncnhaaFpExt2
import Derived.Test.YtdkldojcpncnhaaFpExt4
import Derived.Test.YtdkldojcpncnhaaFpExt5
import Derived.Test.YtdkldojcpncnhaaFpLaw150
import Derived.Test.YtdkldojcpncnhaaFpLaw151
import Derived.Test.YtdkldojcpncnhaaFpRef150
import Derived.Test.YtdkldojcpncnhaaFpRef151
import Derived.Test.YtdkldojcpncnhaaFpRef153
set_option linter.unusedSimpArgs false
set_option linter.unusedVariables false
set_option maxHeartbeats 4000000
set_option maxRecDepth 100000
namespace Gab
open Go Go.Proofs
def gabionlaw15_ExtMaps_P (B : Kn) (L : Own) (r : Bool) : AV → St → Prop := CS B L fun v => v = .bool r
def gabionlaw15_ExtMaps_j9_I (B0 : Kn) (x1 : Int) (x2 : List UInt8) (x30 : List (List (Int × Int))) (x32 : Int) : Fr → Kn → Own → Prop := fun fr B A => KLe B0 B ∧ ∃ v47, RSl ELPIi64Ii64Q B v47 x30 ∧ fr = [(1, .int .i64 x1), (2, .str x2), (30, v47), (31, .int .i64 (x30.length : Int)), (32, .int .i64 x32)] ∧ A = []
def gabionlaw15_ExtMaps_j21_I (B0 : Kn) (x1 : Int) (x2 : List UInt8) (x9 : List (Int × Int)) (x10 : List (Int × Int)) (x11 : List Int) (x12 : Int) (x30 : List (List (Int × Int))) (x32 : Int) (x63 : List Int) (x65 : Int) : Fr → Kn → Own → Prop := fun fr B A => KLe B0 B ∧ ∃ v73 b73 n73 c73 v74 v75 v76 v77, OSl EPIi64Ii64Q B v73 b73 n73 c73 x9 ∧ RSl EPIi64Ii64Q B v74 x10 ∧ RSl (Ty.int .i64) B v75 x11 ∧ RSl ELPIi64Ii64Q B v76 x30 ∧ RSl (Ty.int .i64) B v77 x63 ∧ fr = [(1, .int .i64 x1), (2, .str x2), (9, v73), (10, v74), (11, v75), (12, .int .i64 x12), (30, v76), (31, .int .i64 (x30.length : Int)), (32, .int .i64 x32), (63, v77), (64, .int .i64 (x63.length : Int)), (65, .int .i64 x65)] ∧ A = [oe b73 n73 c73]
def gabionlaw15_ExtMaps_j18_I (B0 : Kn) (x1 : Int) (x2 : List UInt8) (x9 : List (Int × Int)) (x10 : List (Int × Int)) (x11 : List Int) (x12 : Int) (x14 : Int) (x30 : List (List (Int × Int))) (x32 : Int) (x63 : List Int) (x65 : Int) (x82 : Bool) : Fr → Kn → Own → Prop := fun fr B A => KLe B0 B ∧ ∃ v66 b66 n66 c66 v67 v68 v69 v70, OSl EPIi64Ii64Q B v66 b66 n66 c66 x9 ∧ RSl EPIi64Ii64Q B v67 x10 ∧ RSl (Ty.int .i64) B v68 x11 ∧ RSl ELPIi64Ii64Q B v69 x30 ∧ RSl (Ty.int .i64) B v70 x63 ∧ fr = [(1, .int .i64 x1), (2, .str x2), (9, v66), (10, v67), (11, v68), (12, .int .i64 x12), (14, .int .i64 x14), (30, v69), (31, .int .i64 (x30.length : Int)), (32, .int .i64 x32), (63, v70), (64, .int .i64 (x63.length : Int)), (65, .int .i64 x65), (82, .bool x82)] ∧ A = [oe b66 n66 c66]
def gabionlaw15_ExtMaps_l1_I (B0 : Kn) (x1 : Int) (x2 : List UInt8) (x9 : List (Int × Int)) (x10 : List (Int × Int)) (x11 : List Int) (x30 : List (List (Int × Int))) (x63 : List Int) (x12 : Int) (x32 : Int) (x65 : Int) : Fr → Kn → Own → Prop := fun fr B A => KLe B0 B ∧ ∃ v55 b55 n55 c55 v56 v57 v58 v59, OSl EPIi64Ii64Q B v55 b55 n55 c55 x9 ∧ RSl EPIi64Ii64Q B v56 x10 ∧ RSl (Ty.int .i64) B v57 x11 ∧ RSl ELPIi64Ii64Q B v58 x30 ∧ RSl (Ty.int .i64) B v59 x63 ∧ fr = [(1, .int .i64 x1), (2, .str x2), (9, v55), (10, v56), (11, v57), (12, .int .i64 x12), (30, v58), (31, .int .i64 (x30.length : Int)), (32, .int .i64 x32), (63, v59), (64, .int .i64 (x63.length : Int)), (65, .int .i64 x65)] ∧ A = [oe b55 n55 c55]
def gabionlaw15_ExtMaps_l1_X0 (B0 : Kn) (x1 : Int) (x2 : List UInt8) (x9 : List (Int × Int)) (x10 : List (Int × Int)) (x11 : List Int) (x12 : Int) (x30 : List (List (Int × Int))) (x32 : Int) : Fr → Kn → Own → Prop := fun fr B A => KLe B0 B ∧ ∃ v194 b194 n194 c194 v195 v196 v197, OSl EPIi64Ii64Q B v194 b194 n194 c194 x9 ∧ RSl EPIi64Ii64Q B v195 x10 ∧ RSl (Ty.int .i64) B v196 x11 ∧ RSl ELPIi64Ii64Q B v197 x30 ∧ fr = [(1, .int .i64 x1), (2, .str x2), (9, v194), (10, v195), (11, v196), (12, .int .i64 x12), (30, v197), (31, .int .i64 (x30.length : Int)), (32, .int .i64 x32)] ∧ A = [oe b194 n194 c194]
def gabionlaw15_ExtMaps_j27_I (B0 : Kn) (x1 : Int) (x2 : List UInt8) (x30 : List (List (Int × Int))) (x32 : Int) (x161 : Bool) : Fr → Kn → Own → Prop := fun fr B A => KLe B0 B ∧ ∃ v109, RSl ELPIi64Ii64Q B v109 x30 ∧ fr = [(1, .int .i64 x1), (2, .str x2), (30, v109), (31, .int .i64 (x30.length : Int)), (32, .int .i64 x32), (161, .bool x161)] ∧ A = []
def gabionlaw15_ExtMaps_j8_I (B0 : Kn) (x1 : Int) (x2 : List UInt8) (x9 : List (Int × Int)) (x10 : List (Int × Int)) (x30 : List (List (Int × Int))) (x32 : Int) (x60 : Bool) : Fr → Kn → Own → Prop := fun fr B A => KLe B0 B ∧ ∃ v43 b43 n43 c43 v44 v45, OSl EPIi64Ii64Q B v43 b43 n43 c43 x9 ∧ RSl EPIi64Ii64Q B v44 x10 ∧ RSl ELPIi64Ii64Q B v45 x30 ∧ fr = [(1, .int .i64 x1), (2, .str x2), (9, v43), (10, v44), (30, v45), (31, .int .i64 (x30.length : Int)), (32, .int .i64 x32), (60, .bool x60)] ∧ A = [oe b43 n43 c43]
def gabionlaw15_ExtMaps_j6_I (B0 : Kn) (x1 : Int) (x2 : List UInt8) (x9 : List (Int × Int)) (x10 : List (Int × Int)) (x30 : List (List (Int × Int))) (x32 : Int) (x52 : Bool) : Fr → Kn → Own → Prop := fun fr B A => KLe B0 B ∧ ∃ v34 b34 n34 c34 v35 v36, OSl EPIi64Ii64Q B v34 b34 n34 c34 x9 ∧ RSl EPIi64Ii64Q B v35 x10 ∧ RSl ELPIi64Ii64Q B v36 x30 ∧ fr = [(1, .int .i64 x1), (2, .str x2), (9, v34), (10, v35), (30, v36), (31, .int .i64 (x30.length : Int)), (32, .int .i64 x32), (52, .bool x52)] ∧ A = [oe b34 n34 c34]
def gabionlaw15_ExtMaps_l0_I (B0 : Kn) (x1 : Int) (x2 : List UInt8) (x30 : List (List (Int × Int))) (x32 : Int) : Fr → Kn → Own → Prop := fun fr B A => KLe B0 B ∧ ∃ v13, RSl ELPIi64Ii64Q B v13 x30 ∧ fr = [(1, .int .i64 x1), (2, .str x2), (30, v13), (31, .int .i64 (x30.length : Int)), (32, .int .i64 x32)] ∧ A = []
def gabionlaw15_ExtMaps_l0_X0 (B0 : Kn) (x2 : List UInt8) : Fr → Kn → Own → Prop := fun fr B A => KLe B0 B ∧ fr = [(2, .str x2)] ∧ A = []
theorem gabionlaw15_ExtMaps_j9_ok {B0 : Kn} {L : Own} {n0 : Nat} {x1 : Int} {x2 : List UInt8} {x30 : List (List (Int × Int))} {x32 : Int} {Q : AV → St → Prop} {E : Int ⊕ (Bool ⊕ Unit) → Prop} {o : Int ⊕ (Bool ⊕ Unit)} (h : gabionlaw15_ExtMaps_j9 x1 x2 x30 x32 = some o) (hn : ∀ s, E (.inl s) → WXI Try.prog 197 n0 (Fin Try.prog Try.f9.results.toList n0 Q) [.lp (ct [1, 0, 1, 0, 0] (bodyOf Try.f9)), .blk 0, .code (ct [1, 1] (bodyOf Try.f9))] (gabionlaw15_ExtMaps_l0_I B0 x1 x2 x30 s) L) (hx0 : ∀ s, E (.inr (.inr s)) → WXI Try.prog 197 n0 (Fin Try.prog Try.f9.results.toList n0 Q) [.code (ct [1, 1] (bodyOf Try.f9))] (gabionlaw15_ExtMaps_l0_X0 B0 x2) L) (hr : ∀ r, E (.inr (.inl r)) → ∀ v st, gabionlaw15_ExtMaps_P B0 L r v st → Q v st) (hE : E o) : WXI Try.prog 197 n0 (Fin Try.prog Try.f9.results.toList n0 Q) [.code (ct [1, 0, 1, 0, 0, 1, 1, 1] (bodyOf Try.f9)), .lp (ct [1, 0, 1, 0, 0] (bodyOf Try.f9)), .blk 0, .code (ct [1, 1] (bodyOf Try.f9))] (gabionlaw15_ExtMaps_j9_I B0 x1 x2 x30 x32) L := by
  unfold gabionlaw15_ExtMaps_j9 at h
  rintro _ B _ ⟨hB, v47, h47, rfl, rfl⟩
  obtain ⟨_, _, _, _, _, rfl⟩ := h47.isl
  refine WX.reg ?_
  refine WO.q (.r fun _ => rfl) rfl rfl ?_
  refine WO.q (.mv (v := .int _ _) rfl) rfl rfl ?_
  refine WO.nil ?_
  refine WX.keepL [1, 2, 30, 31, 32] (WX.pk [] (by decide) ?_) rfl
  obtain rfl := Option.some.inj h
  exact hn _ hE _ _ _ ⟨hB, _, h47, rfl, rfl⟩
theorem gabionlaw15_ExtMaps_j21_ok {B0 : Kn} {L : Own} {n0 : Nat} {x1 : Int} {x2 : List UInt8} {x9 : List (Int × Int)} {x10 : List (Int × Int)} {x11 : List Int} {x12 : Int} {x30 : List (List (Int × Int))} {x32 : Int} {x63 : List Int} {x65 : Int} {Q : AV → St → Prop} {E : (Int × Int × Int) ⊕ (Bool ⊕ (Int × Int)) → Prop} {o : (Int × Int × Int) ⊕ (Bool ⊕ (Int × Int))} (h : gabionlaw15_ExtMaps_j21 x1 x2 x9 x10 x11 x12 x30 x32 x63 x65 = some o) (hn : ∀ s, E (.inl s) → WXI Try.prog 197 n0 (Fin Try.prog Try.f9.results.toList n0 Q) [.lp (ct [1, 0, 1, 0, 0, 1, 1, 0, 0, 1, 1, 1, 1, 1, 1, 0, 1, 0, 0] (bodyOf Try.f9)), .blk 2, .code (ct [1, 0, 1, 0, 0, 1, 1, 0, 0, 1, 1, 1, 1, 1, 1, 1] (bodyOf Try.f9)), .blk 1, .code (ct [1, 0, 1, 0, 0, 1, 1, 1] (bodyOf Try.f9)), .lp (ct [1, 0, 1, 0, 0] (bodyOf Try.f9)), .blk 0, .code (ct [1, 1] (bodyOf Try.f9))] (gabionlaw15_ExtMaps_l1_I B0 x1 x2 x9 x10 x11 x30 x63 s.1 s.2.1 s.2.2) L) (hx0 : ∀ s, E (.inr (.inr s)) → WXI Try.prog 197 n0 (Fin Try.prog Try.f9.results.toList n0 Q) [.code (ct [1, 0, 1, 0, 0, 1, 1, 0, 0, 1, 1, 1, 1, 1, 1, 1] (bodyOf Try.f9)), .blk 1, .code (ct [1, 0, 1, 0, 0, 1, 1, 1] (bodyOf Try.f9)), .lp (ct [1, 0, 1, 0, 0] (bodyOf Try.f9)), .blk 0, .code (ct [1, 1] (bodyOf Try.f9))] (gabionlaw15_ExtMaps_l1_X0 B0 x1 x2 x9 x10 x11 s.1 x30 s.2) L) (hr : ∀ r, E (.inr (.inl r)) → ∀ v st, gabionlaw15_ExtMaps_P B0 L r v st → Q v st) (hE : E o) : WXI Try.prog 197 n0 (Fin Try.prog Try.f9.results.toList n0 Q) [.code (ct [1, 0, 1, 0, 0, 1, 1, 0, 0, 1, 1, 1, 1, 1, 1, 0, 1, 0, 0, 1, 1, 1] (bodyOf Try.f9)), .lp (ct [1, 0, 1, 0, 0, 1, 1, 0, 0, 1, 1, 1, 1, 1, 1, 0, 1, 0, 0] (bodyOf Try.f9)), .blk 2, .code (ct [1, 0, 1, 0, 0, 1, 1, 0, 0, 1, 1, 1, 1, 1, 1, 1] (bodyOf Try.f9)), .blk 1, .code (ct [1, 0, 1, 0, 0, 1, 1, 1] (bodyOf Try.f9)), .lp (ct [1, 0, 1, 0, 0] (bodyOf Try.f9)), .blk 0, .code (ct [1, 1] (bodyOf Try.f9))] (gabionlaw15_ExtMaps_j21_I B0 x1 x2 x9 x10 x11 x12 x30 x32 x63 x65) L := by
  unfold gabionlaw15_ExtMaps_j21 at h
  rintro _ B _ ⟨hB, v73, b73, n73, c73, v74, v75, v76, v77, h73, h74, h75, h76, h77, rfl, rfl⟩
  obtain ⟨_, _, _, _, _, rfl⟩ := h73.isl
  obtain ⟨_, _, _, _, _, rfl⟩ := h74.isl
  obtain ⟨_, _, _, _, _, rfl⟩ := h75.isl
  obtain ⟨_, _, _, _, _, rfl⟩ := h76.isl
  obtain ⟨_, _, _, _, _, rfl⟩ := h77.isl
  refine WX.reg ?_
  refine WO.q (.r fun _ => rfl) rfl rfl ?_
  refine WO.q (.mv (v := .int _ _) rfl) rfl rfl ?_
  refine WO.nil ?_
  refine WX.keepL [1, 2, 9, 10, 11, 12, 30, 31, 32, 63, 64, 65] (WX.pk [0] (by decide) ?_) rfl
  obtain rfl := Option.some.inj h
  exact hn _ hE _ _ _ ⟨hB, _, _, n73, _, _, _, _, _, h73, h74, h75, h76, h77, rfl, rfl⟩
theorem gabionlaw15_ExtMaps_j18_ok {B0 : Kn} {L : Own} {n0 : Nat} {x1 : Int} {x2 : List UInt8} {x9 : List (Int × Int)} {x10 : List (Int × Int)} {x11 : List Int} {x12 : Int} {x14 : Int} {x30 : List (List (Int × Int))} {x32 : Int} {x63 : List Int} {x65 : Int} {x82 : Bool} {Q : AV → St → Prop} {E : (Int × Int × Int) ⊕ (Bool ⊕ (Int × Int)) → Prop} {o : (Int × Int × Int) ⊕ (Bool ⊕ (Int × Int))} (h : gabionlaw15_ExtMaps_j18 x1 x2 x9 x10 x11 x12 x14 x30 x32 x63 x65 x82 = some o) (hn : ∀ s, E (.inl s) → WXI Try.prog 197 n0 (Fin Try.prog Try.f9.results.toList n0 Q) [.lp (ct [1, 0, 1, 0, 0, 1, 1, 0, 0, 1, 1, 1, 1, 1, 1, 0, 1, 0, 0] (bodyOf Try.f9)), .blk 2, .code (ct [1, 0, 1, 0, 0, 1, 1, 0, 0, 1, 1, 1, 1, 1, 1, 1] (bodyOf Try.f9)), .blk 1, .code (ct [1, 0, 1, 0, 0, 1, 1, 1] (bodyOf Try.f9)), .lp (ct [1, 0, 1, 0, 0] (bodyOf Try.f9)), .blk 0, .code (ct [1, 1] (bodyOf Try.f9))] (gabionlaw15_ExtMaps_l1_I B0 x1 x2 x9 x10 x11 x30 x63 s.1 s.2.1 s.2.2) L) (hx0 : ∀ s, E (.inr (.inr s)) → WXI Try.prog 197 n0 (Fin Try.prog Try.f9.results.toList n0 Q) [.code (ct [1, 0, 1, 0, 0, 1, 1, 0, 0, 1, 1, 1, 1, 1, 1, 1] (bodyOf Try.f9)), .blk 1, .code (ct [1, 0, 1, 0, 0, 1, 1, 1] (bodyOf Try.f9)), .lp (ct [1, 0, 1, 0, 0] (bodyOf Try.f9)), .blk 0, .code (ct [1, 1] (bodyOf Try.f9))] (gabionlaw15_ExtMaps_l1_X0 B0 x1 x2 x9 x10 x11 s.1 x30 s.2) L) (hr : ∀ r, E (.inr (.inl r)) → ∀ v st, gabionlaw15_ExtMaps_P B0 L r v st → Q v st) (hE : E o) : WXI Try.prog 197 n0 (Fin Try.prog Try.f9.results.toList n0 Q) [.code (ct [1, 0, 1, 0, 0, 1, 1, 0, 0, 1, 1, 1, 1, 1, 1, 0, 1, 0, 0, 1, 1, 0, 0, 1, 0, 1, 1] (bodyOf Try.f9)), .code (ct [1, 0, 1, 0, 0, 1, 1, 0, 0, 1, 1, 1, 1, 1, 1, 0, 1, 0, 0, 1, 1, 0, 0, 1, 1] (bodyOf Try.f9)), .blk 3, .code (ct [1, 0, 1, 0, 0, 1, 1, 0, 0, 1, 1, 1, 1, 1, 1, 0, 1, 0, 0, 1, 1, 1] (bodyOf Try.f9)), .lp (ct [1, 0, 1, 0, 0, 1, 1, 0, 0, 1, 1, 1, 1, 1, 1, 0, 1, 0, 0] (bodyOf Try.f9)), .blk 2, .code (ct [1, 0, 1, 0, 0, 1, 1, 0, 0, 1, 1, 1, 1, 1, 1, 1] (bodyOf Try.f9)), .blk 1, .code (ct [1, 0, 1, 0, 0, 1, 1, 1] (bodyOf Try.f9)), .lp (ct [1, 0, 1, 0, 0] (bodyOf Try.f9)), .blk 0, .code (ct [1, 1] (bodyOf Try.f9))] (gabionlaw15_ExtMaps_j18_I B0 x1 x2 x9 x10 x11 x12 x14 x30 x32 x63 x65 x82) L := by
  unfold gabionlaw15_ExtMaps_j18 at h
  rintro _ B _ ⟨hB, v66, b66, n66, c66, v67, v68, v69, v70, h66, h67, h68, h69, h70, rfl, rfl⟩
  obtain ⟨_, _, _, _, _, rfl⟩ := h66.isl
  obtain ⟨_, _, _, _, _, rfl⟩ := h67.isl
  obtain ⟨_, _, _, _, _, rfl⟩ := h68.isl
  obtain ⟨_, _, _, _, _, rfl⟩ := h69.isl
  obtain ⟨_, _, _, _, _, rfl⟩ := h70.isl
  rcases bsp x82 with k71 | k71
  · replace h := (if_pos k71).symm.trans h
    refine WX.condT rfl k71 ?_
    refine WX.seq ?_
    refine WX.reg ?_
    refine WO.q (.as (v := .bool _) rfl) rfl rfl ?_
    refine WO.nil ?_
    obtain rfl := Option.some.inj h
    exact WX.ret (rs_ (rs_tmp rfl rs_nil)) fun st hp => hr _ hE _ _ ⟨(hp.pk [] (by decide)).le hB, rfl⟩
  · replace h := (if_neg (bnt k71)).symm.trans h
    refine WX.condF rfl k71 ?_
    refine WX.skip ?_
    refine WX.seq ?_
    refine WX.reg ?_
    refine WO.q (.mv (v := .int _ _) rfl) rfl rfl ?_
    refine WO.q (.r fun _ => rfl) rfl rfl ?_
    refine WO.nil ?_
    rcases bsp (decide (0 ≤ x14)) with k72 | k72
    · have q_k72 := of_decide_eq_true k72
      replace h := (if_pos q_k72).symm.trans h
      refine WX.condT rfl k72 ?_
      refine WX.reg ?_
      refine WO.q (.mv (v := .int _ _) rfl) rfl rfl ?_
      refine WO.q (.r fun _ => rfl) rfl rfl ?_
      refine WO.q (.as (v := .int _ _) rfl) rfl rfl ?_
      refine WO.nil ?_
      refine WX.pop ?_
      refine WX.keep [1, 2, 9, 10, 11, 12, 30, 31, 32, 63, 64, 65] (WX.pk [0] (by decide) ?_) rfl
      exact gabionlaw15_ExtMaps_j21_ok h hn hx0 hr hE _ _ _ ⟨hB, _, _, n66, _, _, _, _, _, h66, h67, h68, h69, h70, rfl, rfl⟩
    · have q_k72 := of_decide_eq_false k72
      replace h := (if_neg q_k72).symm.trans h
      refine WX.condF rfl k72 ?_
      refine WX.skip ?_
      refine WX.pop ?_
      refine WX.keep [1, 2, 9, 10, 11, 12, 30, 31, 32, 63, 64, 65] (WX.pk [0] (by decide) ?_) rfl
      exact gabionlaw15_ExtMaps_j21_ok h hn hx0 hr hE _ _ _ ⟨hB, _, _, n66, _, _, _, _, _, h66, h67, h68, h69, h70, rfl, rfl⟩
theorem gabionlaw15_ExtMaps_l1_s {B0 : Kn} {L : Own} {n0 : Nat} {x1 : Int} {x2 : List UInt8} {x9 : List (Int × Int)} {x10 : List (Int × Int)} {x11 : List Int} {x30 : List (List (Int × Int))} {x63 : List Int} {x12 : Int} {x32 : Int} {x65 : Int} {Q : AV → St → Prop} {E : (Int × Int × Int) ⊕ (Bool ⊕ (Int × Int)) → Prop} {o : (Int × Int × Int) ⊕ (Bool ⊕ (Int × Int))} (h : gabionlaw15_ExtMaps_l1 x1 x2 x9 x10 x11 x30 x63 x12 x32 x65 = some o) (hn : ∀ s, E (.inl s) → WXI Try.prog 197 n0 (Fin Try.prog Try.f9.results.toList n0 Q) [.lp (ct [1, 0, 1, 0, 0, 1, 1, 0, 0, 1, 1, 1, 1, 1, 1, 0, 1, 0, 0] (bodyOf Try.f9)), .blk 2, .code (ct [1, 0, 1, 0, 0, 1, 1, 0, 0, 1, 1, 1, 1, 1, 1, 1] (bodyOf Try.f9)), .blk 1, .code (ct [1, 0, 1, 0, 0, 1, 1, 1] (bodyOf Try.f9)), .lp (ct [1, 0, 1, 0, 0] (bodyOf Try.f9)), .blk 0, .code (ct [1, 1] (bodyOf Try.f9))] (gabionlaw15_ExtMaps_l1_I B0 x1 x2 x9 x10 x11 x30 x63 s.1 s.2.1 s.2.2) L) (hx0 : ∀ s, E (.inr (.inr s)) → WXI Try.prog 197 n0 (Fin Try.prog Try.f9.results.toList n0 Q) [.code (ct [1, 0, 1, 0, 0, 1, 1, 0, 0, 1, 1, 1, 1, 1, 1, 1] (bodyOf Try.f9)), .blk 1, .code (ct [1, 0, 1, 0, 0, 1, 1, 1] (bodyOf Try.f9)), .lp (ct [1, 0, 1, 0, 0] (bodyOf Try.f9)), .blk 0, .code (ct [1, 1] (bodyOf Try.f9))] (gabionlaw15_ExtMaps_l1_X0 B0 x1 x2 x9 x10 x11 s.1 x30 s.2) L) (hr : ∀ r, E (.inr (.inl r)) → ∀ v st, gabionlaw15_ExtMaps_P B0 L r v st → Q v st) (hE : E o) : WXI Try.prog 197 n0 (Fin Try.prog Try.f9.results.toList n0 Q) [.code (ct [1, 0, 1, 0, 0, 1, 1, 0, 0, 1, 1, 1, 1, 1, 1, 0, 1, 0, 0] (bodyOf Try.f9)), .lp (ct [1, 0, 1, 0, 0, 1, 1, 0, 0, 1, 1, 1, 1, 1, 1, 0, 1, 0, 0] (bodyOf Try.f9)), .blk 2, .code (ct [1, 0, 1, 0, 0, 1, 1, 0, 0, 1, 1, 1, 1, 1, 1, 1] (bodyOf Try.f9)), .blk 1, .code (ct [1, 0, 1, 0, 0, 1, 1, 1] (bodyOf Try.f9)), .lp (ct [1, 0, 1, 0, 0] (bodyOf Try.f9)), .blk 0, .code (ct [1, 1] (bodyOf Try.f9))] (gabionlaw15_ExtMaps_l1_I B0 x1 x2 x9 x10 x11 x30 x63 x12 x32 x65) L := by
  unfold gabionlaw15_ExtMaps_l1 at h
  rintro _ B _ ⟨hB, v55, b55, n55, c55, v56, v57, v58, v59, h55, h56, h57, h58, h59, rfl, rfl⟩
  obtain ⟨_, _, _, _, _, rfl⟩ := h55.isl
  obtain ⟨_, _, _, _, _, rfl⟩ := h56.isl
  obtain ⟨_, _, _, _, _, rfl⟩ := h57.isl
  obtain ⟨_, _, _, _, _, rfl⟩ := h58.isl
  obtain ⟨_, _, _, _, _, rfl⟩ := h59.isl
  refine WX.seq ?_
  refine WX.reg ?_
  refine WO.q (.r fun _ => rfl) rfl rfl ?_
  refine WO.nil ?_
  refine WX.seq ?_
  rcases bsp (decide (x65 < (x63.length : Int))) with k60 | k60
  · have q_k60 := of_decide_eq_true k60
    replace h := (if_pos q_k60).symm.trans h
    refine WX.condT rfl k60 ?_
    refine WX.skip ?_
    refine WX.seq ?_
    refine WX.block ?_
    refine WX.seq ?_
    refine WX.reg ?_
    refine WO.q (.mv (v := .int _ _) rfl) rfl rfl ?_
    obtain ⟨y61, hy61, h⟩ := Option.bind_eq_some_iff.1 h
    obtain ⟨b_y61, o_y61, _, i_y61, p_y61, r_y61⟩ := h59.at sl22 hy61 .i64
    obtain rfl := r_y61
    refine WO.q (.ia i_y61) rfl rfl ?_
    refine WO.q (.lp0 rfl p_y61 rfl ti3 rfl) rfl rfl ?_
    refine WO.q (.as (v := .int _ _) rfl) rfl rfl ?_
    refine WO.q (.as (v := .int _ _) rfl) rfl rfl ?_
    refine WO.nil ?_
    refine WX.seq ?_
    refine WX.seq ?_
    refine WX.reg ?_
    refine WO.q (.mv (v := .sl _ _ _ _ _ _) rfl) rfl rfl ?_
    refine WO.q (.mv (v := .int _ _) rfl) rfl rfl ?_
    obtain ⟨y62, hy62, h⟩ := Option.bind_eq_some_iff.1 h
    refine WO.cS rfl rfl (lendC (j := 0) h55 rfl fun _ K64 g63 => ext_List_Map_ok g63 hy62) rfl rfl rfl ?_
    rintro _ rfl
    refine WO.q (.mv (v := .tup _) rfl) rfl rfl ?_
    refine WO.q (.r fun _ => rfl) rfl rfl ?_
    refine WO.q (.r fun _ => rfl) rfl rfl ?_
    refine WO.q (.as (v := .int _ _) rfl) rfl rfl ?_
    refine WO.q (.as (v := .bool _) rfl) rfl rfl ?_
    refine WO.nil ?_
    refine WX.seq ?_
    refine WX.reg ?_
    refine WO.q (.mv (v := .bool _) rfl) rfl rfl ?_
    refine WO.q (.r fun _ => rfl) rfl rfl ?_
    refine WO.q (.mv (v := .bool _) rfl) rfl rfl ?_
    rcases bsp y62.2 with k65 | k65
    · replace h := (if_pos k65).symm.trans h
      refine WO.q (.mv (v := .int _ _) rfl) (wg rfl rfl (gf (f_not k65))) rfl ?_
      refine WO.q (.mv (v := .int _ _) rfl) (wg rfl rfl (gf (f_not k65))) rfl ?_
      refine WO.q (.r fun _ => rfl) (wg rfl rfl (gf (f_not k65))) rfl ?_
      refine WO.q (.pfv (v := .bool _) rfl (f_not k65) rfl) rfl rfl ?_
      refine WO.nil ?_
      refine WX.keep [1, 2, 9, 10, 11, 12, 14, 30, 31, 32, 63, 64, 65, 82] (WX.pk [0] (by decide) ?_) rfl
      exact gabionlaw15_ExtMaps_j18_ok h hn hx0 hr hE _ _ _ ⟨hB, _, _, n55, _, _, _, _, _, h55, h56, h57, h58, h59, rfl, rfl⟩
    · replace h := (if_neg (bnt k65)).symm.trans h
      refine WO.sd (wg rfl rfl (gfn (t_not k65))) rfl ?_
      refine WO.sd (wg rfl rfl (gfn (t_not k65))) rfl ?_
      refine WO.sd (wg rfl rfl (gfn (t_not k65))) rfl ?_
      refine WO.q (.ptv (v := .bool _) rfl (t_not k65) rfl) rfl rfl ?_
      refine WO.nil ?_
      refine WX.keep [1, 2, 9, 10, 11, 12, 14, 30, 31, 32, 63, 64, 65, 82] (WX.pk [0] (by decide) ?_) rfl
      exact gabionlaw15_ExtMaps_j18_ok h hn hx0 hr hE _ _ _ ⟨hB, _, _, n55, _, _, _, _, _, h55, h56, h57, h58, h59, rfl, rfl⟩
  · have q_k60 := of_decide_eq_false k60
    replace h := (if_neg q_k60).symm.trans h
    refine WX.condF rfl k60 ?_
    refine WX.exit rfl ?_
    refine WX.keep [1, 2, 9, 10, 11, 12, 30, 31, 32] (WX.pk [0] (by decide) ?_) rfl
    obtain rfl := Option.some.inj h
    exact hx0 _ hE _ _ _ ⟨hB, _, _, n55, _, _, _, _, h55, h56, h57, h58, rfl, rfl⟩
theorem gabionlaw15_ExtMaps_l1_ok {B0 : Kn} {L : Own} {n0 : Nat} {x1 : Int} {x2 : List UInt8} {x9 : List (Int × Int)} {x10 : List (Int × Int)} {x11 : List Int} {x30 : List (List (Int × Int))} {x63 : List Int} {x12 : Int} {x32 : Int} {x65 : Int} {Q : AV → St → Prop} {d : Nat} {e : Bool ⊕ (Int × Int)} (h : iter (fun (s : Int × Int × Int) => gabionlaw15_ExtMaps_l1 x1 x2 x9 x10 x11 x30 x63 s.1 s.2.1 s.2.2) d (x12, x32, x65) = some e) (g0 : ∀ r, e = (.inl r) → ∀ v st, gabionlaw15_ExtMaps_P B0 L r v st → Q v st) (g1 : ∀ s, e = (.inr s) → WXI Try.prog 197 n0 (Fin Try.prog Try.f9.results.toList n0 Q) [.code (ct [1, 0, 1, 0, 0, 1, 1, 0, 0, 1, 1, 1, 1, 1, 1, 1] (bodyOf Try.f9)), .blk 1, .code (ct [1, 0, 1, 0, 0, 1, 1, 1] (bodyOf Try.f9)), .lp (ct [1, 0, 1, 0, 0] (bodyOf Try.f9)), .blk 0, .code (ct [1, 1] (bodyOf Try.f9))] (gabionlaw15_ExtMaps_l1_X0 B0 x1 x2 x9 x10 x11 s.1 x30 s.2) L) : WXI Try.prog 197 n0 (Fin Try.prog Try.f9.results.toList n0 Q) [.code (ct [1, 0, 1, 0, 0, 1, 1, 0, 0, 1, 1, 1, 1, 1, 1, 0, 1, 0, 0] (bodyOf Try.f9)), .lp (ct [1, 0, 1, 0, 0, 1, 1, 0, 0, 1, 1, 1, 1, 1, 1, 0, 1, 0, 0] (bodyOf Try.f9)), .blk 2, .code (ct [1, 0, 1, 0, 0, 1, 1, 0, 0, 1, 1, 1, 1, 1, 1, 1] (bodyOf Try.f9)), .blk 1, .code (ct [1, 0, 1, 0, 0, 1, 1, 1] (bodyOf Try.f9)), .lp (ct [1, 0, 1, 0, 0] (bodyOf Try.f9)), .blk 0, .code (ct [1, 1] (bodyOf Try.f9))] (gabionlaw15_ExtMaps_l1_I B0 x1 x2 x9 x10 x11 x30 x63 x12 x32 x65) L :=
  iter_ok (I := fun s => gabionlaw15_ExtMaps_l1_I B0 x1 x2 x9 x10 x11 x30 x63 s.1 s.2.1 s.2.2) (D := fun e => (∀ r, e = (.inl r) → ∀ v st, gabionlaw15_ExtMaps_P B0 L r v st → Q v st) ∧ (∀ s, e = (.inr s) → WXI Try.prog 197 n0 (Fin Try.prog Try.f9.results.toList n0 Q) [.code (ct [1, 0, 1, 0, 0, 1, 1, 0, 0, 1, 1, 1, 1, 1, 1, 1] (bodyOf Try.f9)), .blk 1, .code (ct [1, 0, 1, 0, 0, 1, 1, 1] (bodyOf Try.f9)), .lp (ct [1, 0, 1, 0, 0] (bodyOf Try.f9)), .blk 0, .code (ct [1, 1] (bodyOf Try.f9))] (gabionlaw15_ExtMaps_l1_X0 B0 x1 x2 x9 x10 x11 s.1 x30 s.2) L)) (fun E hn hx s o ho hE => gabionlaw15_ExtMaps_l1_s ho hn (fun s hs => (hx _ hs).2 _ rfl) (fun r hs => (hx _ hs).1 _ rfl) hE) h ⟨g0, g1⟩
theorem gabionlaw15_ExtMaps_j27_ok {B0 : Kn} {L : Own} {n0 : Nat} {x1 : Int} {x2 : List UInt8} {x30 : List (List (Int × Int))} {x32 : Int} {x161 : Bool} {Q : AV → St → Prop} {E : Int ⊕ (Bool ⊕ Unit) → Prop} {o : Int ⊕ (Bool ⊕ Unit)} (h : gabionlaw15_ExtMaps_j27 x1 x2 x30 x32 x161 = some o) (hn : ∀ s, E (.inl s) → WXI Try.prog 197 n0 (Fin Try.prog Try.f9.results.toList n0 Q) [.lp (ct [1, 0, 1, 0, 0] (bodyOf Try.f9)), .blk 0, .code (ct [1, 1] (bodyOf Try.f9))] (gabionlaw15_ExtMaps_l0_I B0 x1 x2 x30 s) L) (hx0 : ∀ s, E (.inr (.inr s)) → WXI Try.prog 197 n0 (Fin Try.prog Try.f9.results.toList n0 Q) [.code (ct [1, 1] (bodyOf Try.f9))] (gabionlaw15_ExtMaps_l0_X0 B0 x2) L) (hr : ∀ r, E (.inr (.inl r)) → ∀ v st, gabionlaw15_ExtMaps_P B0 L r v st → Q v st) (hE : E o) : WXI Try.prog 197 n0 (Fin Try.prog Try.f9.results.toList n0 Q) [.code (ct [1, 0, 1, 0, 0, 1, 1, 0, 0, 1, 1, 1, 1, 1, 1, 1, 1, 1, 1, 1, 1] (bodyOf Try.f9)), .blk 1, .code (ct [1, 0, 1, 0, 0, 1, 1, 1] (bodyOf Try.f9)), .lp (ct [1, 0, 1, 0, 0] (bodyOf Try.f9)), .blk 0, .code (ct [1, 1] (bodyOf Try.f9))] (gabionlaw15_ExtMaps_j27_I B0 x1 x2 x30 x32 x161) L := by
  unfold gabionlaw15_ExtMaps_j27 at h
  rintro _ B _ ⟨hB, v109, h109, rfl, rfl⟩
  obtain ⟨_, _, _, _, _, rfl⟩ := h109.isl
  rcases bsp x161 with k110 | k110
  · replace h := (if_pos k110).symm.trans h
    refine WX.condT rfl k110 ?_
    refine WX.seq ?_
    refine WX.reg ?_
    refine WO.q (.as (v := .bool _) rfl) rfl rfl ?_
    refine WO.nil ?_
    obtain rfl := Option.some.inj h
    exact WX.ret (rs_ (rs_tmp rfl rs_nil)) fun st hp => hr _ hE _ _ ⟨(hp.pk [] (by decide)).le hB, rfl⟩
  · replace h := (if_neg (bnt k110)).symm.trans h
    refine WX.condF rfl k110 ?_
    refine WX.skip ?_
    refine WX.pop ?_
    refine WX.keep [1, 2, 30, 31, 32] (WX.pk [] (by decide) ?_) rfl
    exact gabionlaw15_ExtMaps_j9_ok h hn hx0 hr hE _ _ _ ⟨hB, _, h109, rfl, rfl⟩
theorem gabionlaw15_ExtMaps_j8_ok {B0 : Kn} {L : Own} {n0 : Nat} {x1 : Int} {x2 : List UInt8} {x9 : List (Int × Int)} {x10 : List (Int × Int)} {x30 : List (List (Int × Int))} {x32 : Int} {x60 : Bool} {Q : AV → St → Prop} {E : Int ⊕ (Bool ⊕ Unit) → Prop} {o : Int ⊕ (Bool ⊕ Unit)} (h : gabionlaw15_ExtMaps_j8 x1 x2 x9 x10 x30 x32 x60 = some o) (hn : ∀ s, E (.inl s) → WXI Try.prog 197 n0 (Fin Try.prog Try.f9.results.toList n0 Q) [.lp (ct [1, 0, 1, 0, 0] (bodyOf Try.f9)), .blk 0, .code (ct [1, 1] (bodyOf Try.f9))] (gabionlaw15_ExtMaps_l0_I B0 x1 x2 x30 s) L) (hx0 : ∀ s, E (.inr (.inr s)) → WXI Try.prog 197 n0 (Fin Try.prog Try.f9.results.toList n0 Q) [.code (ct [1, 1] (bodyOf Try.f9))] (gabionlaw15_ExtMaps_l0_X0 B0 x2) L) (hr : ∀ r, E (.inr (.inl r)) → ∀ v st, gabionlaw15_ExtMaps_P B0 L r v st → Q v st) (hE : E o) : WXI Try.prog 197 n0 (Fin Try.prog Try.f9.results.toList n0 Q) [.code (ct [1, 0, 1, 0, 0, 1, 1, 0, 0, 1, 1, 1, 0, 1] (bodyOf Try.f9)), .code (ct [1, 0, 1, 0, 0, 1, 1, 0, 0, 1, 1, 1, 1] (bodyOf Try.f9)), .blk 1, .code (ct [1, 0, 1, 0, 0, 1, 1, 1] (bodyOf Try.f9)), .lp (ct [1, 0, 1, 0, 0] (bodyOf Try.f9)), .blk 0, .code (ct [1, 1] (bodyOf Try.f9))] (gabionlaw15_ExtMaps_j8_I B0 x1 x2 x9 x10 x30 x32 x60) L := by
  unfold gabionlaw15_ExtMaps_j8 at h
  rintro _ B _ ⟨hB, v43, b43, n43, c43, v44, v45, h43, h44, h45, rfl, rfl⟩
  obtain ⟨_, _, _, _, _, rfl⟩ := h43.isl
  obtain ⟨_, _, _, _, _, rfl⟩ := h44.isl
  obtain ⟨_, _, _, _, _, rfl⟩ := h45.isl
  rcases bsp x60 with k46 | k46
  · replace h := (if_pos k46).symm.trans h
    refine WX.condT rfl k46 ?_
    refine WX.exit rfl ?_
    refine WX.keep [1, 2, 30, 31, 32] (WX.pk [] (by decide) ?_) rfl
    exact gabionlaw15_ExtMaps_j9_ok h hn hx0 hr hE _ _ _ ⟨hB, _, h45, rfl, rfl⟩
  · replace h := (if_neg (bnt k46)).symm.trans h
    refine WX.condF rfl k46 ?_
    refine WX.skip ?_
    refine WX.seq ?_
    refine WX.reg ?_
    refine WO.q (.mv (v := .sl _ _ _ _ _ _) rfl) rfl rfl ?_
    obtain ⟨y48, hy48, h⟩ := Option.bind_eq_some_iff.1 h
    refine WO.c1 rfl rfl (gabionref15_Blocks_ok h44 hy48) rfl rfl rfl ?_
    rintro _ B _ hK ⟨v49, b50, n51, c52, rfl, rfl, h53⟩
    obtain ⟨_, _, _, _, _, rfl⟩ := h53.isl
    replace h44 := h44.up hK
    replace h45 := h45.up hK
    replace h43 := h43.up hK
    replace hB := hB.trans hK
    refine WO.q (.as (v := .sl _ _ _ _ _ _) rfl) rfl rfl ?_
    refine WO.nil ?_
    refine WX.seq ?_
    refine WX.reg ?_
    refine WO.q (.as (v := .int _ _) rfl) rfl rfl ?_
    refine WO.nil ?_
    refine WX.seq ?_
    refine WX.seq ?_
    refine WX.reg ?_
    refine WO.q (.mv (v := .sl _ _ _ _ _ _) rfl) rfl rfl ?_
    refine WO.q (.len rfl rfl rfl (sl22.len h53.isl)) rfl rfl ?_
    refine WO.q (.mv (v := .int _ _) rfl) rfl rfl ?_
    refine WO.nil ?_
    refine WX.block ?_
    refine WX.loop ?_
    obtain ⟨e82, he82, h⟩ := Option.bind_eq_some_iff.1 h
    refine WX.fz (j := 0) h53 rfl ?_
    intro B hK g54
    replace h44 := h44.up hK
    replace h45 := h45.up hK
    replace h43 := h43.up hK
    replace hB := hB.trans hK
    refine WX.keep [1, 2, 9, 10, 11, 12, 30, 31, 32, 63, 64, 65] (WX.pk [0] (by decide) ?_) rfl
    refine gabionlaw15_ExtMaps_l1_ok he82 ?_ ?_ _ _ _ ⟨hB, _, _, n43, _, _, _, _, _, h43, h44, g54, h45, g54, rfl, rfl⟩
    · intro r84 he_
      subst he_
      replace h := (on_l h)
      obtain rfl := Option.some.inj h
      exact hr _ hE
    · intro x85 he_
      subst he_
      replace h := (on_r h)
      rintro _ B _ ⟨hB, v86, b86, n86, c86, v87, v88, v89, h86, h87, h88, h89, rfl, rfl⟩
      obtain ⟨_, _, _, _, _, rfl⟩ := h86.isl
      obtain ⟨_, _, _, _, _, rfl⟩ := h87.isl
      obtain ⟨_, _, _, _, _, rfl⟩ := h88.isl
      obtain ⟨_, _, _, _, _, rfl⟩ := h89.isl
      refine WX.seq ?_
      refine WX.reg ?_
      refine WO.q (.mv (v := .sl _ _ _ _ _ _) rfl) rfl rfl ?_
      refine WO.q (.mv (v := .sl _ _ _ _ _ _) rfl) rfl rfl ?_
      refine WO.q (.len rfl rfl rfl (sl22.len h88.isl)) rfl rfl ?_
      obtain ⟨y90, hy90, h⟩ := Option.bind_eq_some_iff.1 h
      refine WO.cS rfl rfl (lendC (j := 0) h86 rfl fun _ K92 g91 => ext_List_Map_ok g91 hy90) rfl rfl rfl ?_
      rintro _ rfl
      refine WO.q (.mv (v := .tup _) rfl) rfl rfl ?_
      refine WO.q (.r fun _ => rfl) rfl rfl ?_
      refine WO.q (.r fun _ => rfl) rfl rfl ?_
      refine WO.q (.as (v := .int _ _) rfl) rfl rfl ?_
      refine WO.q (.as (v := .bool _) rfl) rfl rfl ?_
      refine WO.nil ?_
      refine WX.seq ?_
      refine WX.reg ?_
      refine WO.q (.mv (v := .sl _ _ _ _ _ _) rfl) rfl rfl ?_
      obtain ⟨y93, hy93, h⟩ := Option.bind_eq_some_iff.1 h
      refine WO.cS rfl rfl (lendC (j := 0) h86 rfl fun _ K95 g94 => ext_List_Map_ok g94 hy93) rfl rfl rfl ?_
      rintro _ rfl
      refine WO.q (.mv (v := .tup _) rfl) rfl rfl ?_
      refine WO.q (.r fun _ => rfl) rfl rfl ?_
      refine WO.q (.r fun _ => rfl) rfl rfl ?_
      refine WO.q (.as (v := .int _ _) rfl) rfl rfl ?_
      refine WO.q (.as (v := .bool _) rfl) rfl rfl ?_
      refine WO.nil ?_
      refine WX.seq ?_
      refine WX.reg ?_
      refine WO.q (.mv (v := .sl _ _ _ _ _ _) rfl) rfl rfl ?_
      refine WO.q (.mv (v := .int _ _) rfl) rfl rfl ?_
      obtain ⟨y96, hy96, h⟩ := Option.bind_eq_some_iff.1 h
      refine WO.cS rfl rfl (lendC (j := 0) h86 rfl fun _ K98 g97 => ext_List_Map_ok g97 hy96) rfl rfl rfl ?_
      rintro _ rfl
      refine WO.q (.mv (v := .tup _) rfl) rfl rfl ?_
      refine WO.q (.r fun _ => rfl) rfl rfl ?_
      refine WO.q (.r fun _ => rfl) rfl rfl ?_
      refine WO.q (.as (v := .int _ _) rfl) rfl rfl ?_
      refine WO.q (.as (v := .bool _) rfl) rfl rfl ?_
      refine WO.nil ?_
      refine WX.seq ?_
      refine WX.reg ?_
      refine WO.q (.mv (v := .sl _ _ _ _ _ _) rfl) rfl rfl ?_
      obtain ⟨y99, hy99, h⟩ := Option.bind_eq_some_iff.1 h
      refine WO.cS rfl rfl (lendC (j := 0) h86 rfl fun _ K101 g100 => ext_List_Text_ok g100 hy99) rfl rfl rfl ?_
      rintro _ rfl
      obtain ⟨y102, hy102, h⟩ := Option.bind_eq_some_iff.1 h
      refine WO.c1 rfl rfl (ext_Parse_ok hy102) rfl rfl rfl ?_
      rintro _ B _ hK ⟨v103, b104, n105, c106, rfl, rfl, h107⟩
      obtain ⟨_, _, _, _, _, rfl⟩ := h107.isl
      replace h87 := h87.up hK
      replace h88 := h88.up hK
      replace h89 := h89.up hK
      replace h86 := h86.up hK
      replace hB := hB.trans hK
      refine WO.q (.mv (v := .tup _) rfl) rfl rfl ?_
      refine WO.q (.r fun _ => rfl) rfl rfl ?_
      refine WO.q (.r fun _ => rfl) rfl rfl ?_
      refine WO.q (.as (v := .sl _ _ _ _ _ _) rfl) rfl rfl ?_
      refine WO.q (.as (v := .int _ _) rfl) rfl rfl ?_
      refine WO.nil ?_
      refine WX.seq ?_
      refine WX.reg ?_
      refine WO.q (.mv (v := .bool _) rfl) rfl rfl ?_
      refine WO.q (.mv (v := .bool _) rfl) rfl rfl ?_
      rcases bsp y90.2 with k108 | k108
      · replace h := (if_pos k108).symm.trans h
        refine WO.sd (wg rfl rfl (gfn k108)) rfl ?_
        refine WO.q (.ptv (v := .bool _) rfl k108 rfl) rfl rfl ?_
        refine WO.q (.mv (v := .bool _) rfl) rfl rfl ?_
        refine WO.sd (wg rfl rfl (gfn rfl)) rfl ?_
        refine WO.sd (wg rfl rfl (gfn rfl)) rfl ?_
        refine WO.sd (wg rfl rfl (gfn rfl)) rfl ?_
        refine WO.sd (wg rfl rfl (gfn rfl)) rfl ?_
        refine WO.sd (wgu rfl rfl) rfl ?_
        refine WO.sd (wgu rfl rfl) rfl ?_
        refine WO.sd (wgu rfl rfl) rfl ?_
        refine WO.sd (wgu rfl rfl) rfl ?_
        refine WO.sd (wg rfl rfl (gfn rfl)) rfl ?_
        refine WO.sd (wg rfl rfl (gfn rfl)) rfl ?_
        refine WO.q (.ptv (v := .bool _) rfl rfl rfl) rfl rfl ?_
        refine WO.q (.mv (v := .bool _) rfl) rfl rfl ?_
        refine WO.sd (wg rfl rfl (gfn rfl)) rfl ?_
        refine WO.sd (wg rfl rfl (gfn rfl)) rfl ?_
        refine WO.sd (wgu rfl rfl) rfl ?_
        refine WO.sd (wgu rfl rfl) rfl ?_
        refine WO.sd (wgu rfl rfl) rfl ?_
        refine WO.sd (wgu rfl rfl) rfl ?_
        refine WO.sd (wgu rfl rfl) rfl ?_
        refine WO.sd (wgu rfl rfl) rfl ?_
        refine WO.sd (wg rfl rfl (gfn rfl)) rfl ?_
        refine WO.q (.ptv (v := .bool _) rfl rfl rfl) rfl rfl ?_
        refine WO.q (.mv (v := .bool _) rfl) rfl rfl ?_
        refine WO.sd (wg rfl rfl (gfn rfl)) rfl ?_
        refine WO.sd (wg rfl rfl (gfn rfl)) rfl ?_
        refine WO.sd (wg rfl rfl (gfn rfl)) rfl ?_
        refine WO.sd (wg rfl rfl (gfn rfl)) rfl ?_
        refine WO.sd (wg rfl rfl (gfn rfl)) rfl ?_
        refine WO.q (.ptv (v := .bool _) rfl rfl rfl) rfl rfl ?_
        refine WO.q (.mv (v := .bool _) rfl) rfl rfl ?_
        refine WO.sd (wg rfl rfl (gfn rfl)) rfl ?_
        refine WO.sd (wg rfl rfl (gfn rfl)) rfl ?_
        refine WO.sd (wg rfl rfl (gfn rfl)) rfl ?_
        refine WO.sd (wg rfl rfl (gfn rfl)) rfl ?_
        refine WO.q (.ptv (v := .bool _) rfl rfl rfl) rfl rfl ?_
        refine WO.q (.mv (v := .bool _) rfl) rfl rfl ?_
        refine WO.sd (wg rfl rfl (gfn rfl)) rfl ?_
        refine WO.sd (wg rfl rfl (gfn rfl)) rfl ?_
        refine WO.q (.ptv (v := .bool _) rfl rfl rfl) rfl rfl ?_
        refine WO.q (.mv (v := .bool _) rfl) rfl rfl ?_
        refine WO.sd (wg rfl rfl (gfn rfl)) rfl ?_
        refine WO.sd (wg rfl rfl (gfn rfl)) rfl ?_
        refine WO.sd (wg rfl rfl (gfn rfl)) rfl ?_
        refine WO.sd (wg rfl rfl (gfn rfl)) rfl ?_
        refine WO.q (.ptv (v := .bool _) rfl rfl rfl) rfl rfl ?_
        refine WO.nil ?_
        refine WX.keep [1, 2, 30, 31, 32, 161] (WX.pk [] (by decide) ?_) rfl
        exact gabionlaw15_ExtMaps_j27_ok h hn hx0 hr hE _ _ _ ⟨hB, _, h89, rfl, rfl⟩
      · replace h := (if_neg (bnt k108)).symm.trans h
        refine WO.q (.mv (v := .bool _) rfl) (wg rfl rfl (gf k108)) rfl ?_
        refine WO.q (.pfv (v := .bool _) rfl k108 rfl) rfl rfl ?_
        refine WO.q (.mv (v := .bool _) rfl) rfl rfl ?_
        rcases bsp y93.2 with k111 | k111
        · replace h := (if_pos k111).symm.trans h
          refine WO.sd (wg rfl rfl (gfn k111)) rfl ?_
          refine WO.sd (wg rfl rfl (gfn k111)) rfl ?_
          refine WO.sd (wg rfl rfl (gfn k111)) rfl ?_
          refine WO.sd (wg rfl rfl (gfn k111)) rfl ?_
          refine WO.sd (wgu rfl rfl) rfl ?_
          refine WO.sd (wgu rfl rfl) rfl ?_
          refine WO.sd (wgu rfl rfl) rfl ?_
          refine WO.sd (wgu rfl rfl) rfl ?_
          refine WO.sd (wg rfl rfl (gfn k111)) rfl ?_
          refine WO.sd (wg rfl rfl (gfn k111)) rfl ?_
          refine WO.q (.ptv (v := .bool _) rfl k111 rfl) rfl rfl ?_
          refine WO.q (.mv (v := .bool _) rfl) rfl rfl ?_
          refine WO.sd (wg rfl rfl (gfn rfl)) rfl ?_
          refine WO.sd (wg rfl rfl (gfn rfl)) rfl ?_
          refine WO.sd (wgu rfl rfl) rfl ?_
          refine WO.sd (wgu rfl rfl) rfl ?_
          refine WO.sd (wgu rfl rfl) rfl ?_
          refine WO.sd (wgu rfl rfl) rfl ?_
          refine WO.sd (wgu rfl rfl) rfl ?_
          refine WO.sd (wgu rfl rfl) rfl ?_
          refine WO.sd (wg rfl rfl (gfn rfl)) rfl ?_
          refine WO.q (.ptv (v := .bool _) rfl rfl rfl) rfl rfl ?_
          refine WO.q (.mv (v := .bool _) rfl) rfl rfl ?_
          refine WO.sd (wg rfl rfl (gfn rfl)) rfl ?_
          refine WO.sd (wg rfl rfl (gfn rfl)) rfl ?_
          refine WO.sd (wg rfl rfl (gfn rfl)) rfl ?_
          refine WO.sd (wg rfl rfl (gfn rfl)) rfl ?_
          refine WO.sd (wg rfl rfl (gfn rfl)) rfl ?_
          refine WO.q (.ptv (v := .bool _) rfl rfl rfl) rfl rfl ?_
          refine WO.q (.mv (v := .bool _) rfl) rfl rfl ?_
          refine WO.sd (wg rfl rfl (gfn rfl)) rfl ?_
          refine WO.sd (wg rfl rfl (gfn rfl)) rfl ?_
          refine WO.sd (wg rfl rfl (gfn rfl)) rfl ?_
          refine WO.sd (wg rfl rfl (gfn rfl)) rfl ?_
          refine WO.q (.ptv (v := .bool _) rfl rfl rfl) rfl rfl ?_
          refine WO.q (.mv (v := .bool _) rfl) rfl rfl ?_
          refine WO.sd (wg rfl rfl (gfn rfl)) rfl ?_
          refine WO.sd (wg rfl rfl (gfn rfl)) rfl ?_
          refine WO.q (.ptv (v := .bool _) rfl rfl rfl) rfl rfl ?_
          refine WO.q (.mv (v := .bool _) rfl) rfl rfl ?_
          refine WO.sd (wg rfl rfl (gfn rfl)) rfl ?_
          refine WO.sd (wg rfl rfl (gfn rfl)) rfl ?_
          refine WO.sd (wg rfl rfl (gfn rfl)) rfl ?_
          refine WO.sd (wg rfl rfl (gfn rfl)) rfl ?_
          refine WO.q (.ptv (v := .bool _) rfl rfl rfl) rfl rfl ?_
          refine WO.nil ?_
          refine WX.keep [1, 2, 30, 31, 32, 161] (WX.pk [] (by decide) ?_) rfl
          exact gabionlaw15_ExtMaps_j27_ok h hn hx0 hr hE _ _ _ ⟨hB, _, h89, rfl, rfl⟩
        · replace h := (if_neg (bnt k111)).symm.trans h
          refine WO.q (.mv (v := .bool _) rfl) (wg rfl rfl (gf k111)) rfl ?_
          refine WO.q (.mv (v := .int _ _) rfl) (wg rfl rfl (gf k111)) rfl ?_
          refine WO.q (.r fun _ => rfl) (wg rfl rfl (gf k111)) rfl ?_
          refine WO.q (.mv (v := .bool _) rfl) (wg rfl rfl (gf k111)) rfl ?_
          rcases bsp (decide (0 ≤ x1)) with k112 | k112
          · have q_k112 := of_decide_eq_true k112
            replace h := (if_pos q_k112).symm.trans h
            refine WO.q (.mv (v := .int _ _) rfl) (wg rfl rfl (gt k112)) rfl ?_
            refine WO.q (.mv (v := .sl _ _ _ _ _ _) rfl) (wg rfl rfl (gt k112)) rfl ?_
            refine WO.q (.len rfl rfl rfl (sl22.len h88.isl)) (wg rfl rfl (gt k112)) rfl ?_
            refine WO.q (.r fun _ => rfl) (wg rfl rfl (gt k112)) rfl ?_
            refine WO.q (.ptv (v := .bool _) rfl k112 rfl) (wg rfl rfl (gf k111)) rfl ?_
            refine WO.q (.bin (evboolneq ti4 rfl)) (wg rfl rfl (gf k111)) rfl ?_
            refine WO.q (.pfv (v := .bool _) rfl k111 rfl) rfl rfl ?_
            refine WO.q (.mv (v := .bool _) rfl) rfl rfl ?_
            rcases bsp (decide (y96.2 = (decide (x1 < (y48.length : Int))))) with k113 | k113
            · have q_k113 := of_decide_eq_true k113
              replace h := (if_pos q_k113).symm.trans h
              refine WO.q (.mv (v := .bool _) rfl) (wg rfl rfl (gf (f_not k113))) rfl ?_
              refine WO.q (.mv (v := .bool _) rfl) (wg rfl rfl (gf (f_not k113))) rfl ?_
              rcases bsp y96.2 with k114 | k114
              · replace h := (if_pos k114).symm.trans h
                refine WO.q (.mv (v := .int _ _) rfl) (wg rfl rfl (gt k114)) rfl ?_
                refine WO.q (.mv (v := .sl _ _ _ _ _ _) rfl) (wg rfl rfl (gt k114)) rfl ?_
                refine WO.q (.mv (v := .int _ _) rfl) (wg rfl rfl (gt k114)) rfl ?_
                obtain ⟨y115, hy115, h⟩ := Option.bind_eq_some_iff.1 h
                obtain ⟨b_y115, o_y115, _, i_y115, p_y115, r_y115⟩ := h88.at sl22 hy115 .i64
                obtain rfl := r_y115
                refine WO.q (.ia i_y115) (wg rfl rfl (gt k114)) rfl ?_
                refine WO.q (.lp0 rfl p_y115 rfl ti3 rfl) (wg rfl rfl (gt k114)) rfl ?_
                refine WO.q (.r fun _ => rfl) (wg rfl rfl (gt k114)) rfl ?_
                refine WO.q (.ptv (v := .bool _) rfl k114 rfl) (wg rfl rfl (gf (f_not k113))) rfl ?_
                refine WO.q (.pfv (v := .bool _) rfl (f_not k113) rfl) rfl rfl ?_
                refine WO.q (.mv (v := .bool _) rfl) rfl rfl ?_
                rcases bsp (decide (y96.1 ≠ y115)) with k116 | k116
                · have q_k116 := of_decide_eq_true k116
                  replace h := (if_pos q_k116).symm.trans h
                  refine WO.sd (wg rfl rfl (gfn k116)) rfl ?_
                  refine WO.sd (wg rfl rfl (gfn k116)) rfl ?_
                  refine WO.sd (wg rfl rfl (gfn k116)) rfl ?_
                  refine WO.sd (wg rfl rfl (gfn k116)) rfl ?_
                  refine WO.sd (wg rfl rfl (gfn k116)) rfl ?_
                  refine WO.q (.ptv (v := .bool _) rfl k116 rfl) rfl rfl ?_
                  refine WO.q (.mv (v := .bool _) rfl) rfl rfl ?_
                  refine WO.sd (wg rfl rfl (gfn rfl)) rfl ?_
                  refine WO.sd (wg rfl rfl (gfn rfl)) rfl ?_
                  refine WO.sd (wg rfl rfl (gfn rfl)) rfl ?_
                  refine WO.sd (wg rfl rfl (gfn rfl)) rfl ?_
                  refine WO.q (.ptv (v := .bool _) rfl rfl rfl) rfl rfl ?_
                  refine WO.q (.mv (v := .bool _) rfl) rfl rfl ?_
                  refine WO.sd (wg rfl rfl (gfn rfl)) rfl ?_
                  refine WO.sd (wg rfl rfl (gfn rfl)) rfl ?_
                  refine WO.q (.ptv (v := .bool _) rfl rfl rfl) rfl rfl ?_
                  refine WO.q (.mv (v := .bool _) rfl) rfl rfl ?_
                  refine WO.sd (wg rfl rfl (gfn rfl)) rfl ?_
                  refine WO.sd (wg rfl rfl (gfn rfl)) rfl ?_
                  refine WO.sd (wg rfl rfl (gfn rfl)) rfl ?_
                  refine WO.sd (wg rfl rfl (gfn rfl)) rfl ?_
                  refine WO.q (.ptv (v := .bool _) rfl rfl rfl) rfl rfl ?_
                  refine WO.nil ?_
                  refine WX.keep [1, 2, 30, 31, 32, 161] (WX.pk [] (by decide) ?_) rfl
                  exact gabionlaw15_ExtMaps_j27_ok h hn hx0 hr hE _ _ _ ⟨hB, _, h89, rfl, rfl⟩
                · have q_k116 := of_decide_eq_false k116
                  replace h := (if_neg q_k116).symm.trans h
                  refine WO.q (.mv (v := .sl _ _ _ _ _ _) rfl) (wg rfl rfl (gf k116)) rfl ?_
                  obtain ⟨y117, hy117, h⟩ := Option.bind_eq_some_iff.1 h
                  refine WO.cS rfl rfl (lendC (j := 1) h86 rfl fun _ K119 g118 => ext_List_Blocks_ok g118 hy117) rfl (wg rfl rfl (gf k116)) rfl ?_
                  rintro _ rfl
                  refine WO.q (.mv (v := .sl _ _ _ _ _ _) rfl) (wg rfl rfl (gf k116)) rfl ?_
                  refine WO.q (.len rfl rfl rfl (sl22.len h88.isl)) (wg rfl rfl (gf k116)) rfl ?_
                  refine WO.q (.r fun _ => rfl) (wg rfl rfl (gf k116)) rfl ?_
                  refine WO.q (.pfv (v := .bool _) rfl k116 rfl) rfl rfl ?_
                  refine WO.q (.mv (v := .bool _) rfl) rfl rfl ?_
                  rcases bsp (decide (y117 ≠ (y48.length : Int))) with k120 | k120
                  · have q_k120 := of_decide_eq_true k120
                    replace h := (if_pos q_k120).symm.trans h
                    refine WO.sd (wg rfl rfl (gfn k120)) rfl ?_
                    refine WO.sd (wg rfl rfl (gfn k120)) rfl ?_
                    refine WO.sd (wg rfl rfl (gfn k120)) rfl ?_
                    refine WO.sd (wg rfl rfl (gfn k120)) rfl ?_
                    refine WO.q (.ptv (v := .bool _) rfl k120 rfl) rfl rfl ?_
                    refine WO.q (.mv (v := .bool _) rfl) rfl rfl ?_
                    refine WO.sd (wg rfl rfl (gfn rfl)) rfl ?_
                    refine WO.sd (wg rfl rfl (gfn rfl)) rfl ?_
                    refine WO.q (.ptv (v := .bool _) rfl rfl rfl) rfl rfl ?_
                    refine WO.q (.mv (v := .bool _) rfl) rfl rfl ?_
                    refine WO.sd (wg rfl rfl (gfn rfl)) rfl ?_
                    refine WO.sd (wg rfl rfl (gfn rfl)) rfl ?_
                    refine WO.sd (wg rfl rfl (gfn rfl)) rfl ?_
                    refine WO.sd (wg rfl rfl (gfn rfl)) rfl ?_
                    refine WO.q (.ptv (v := .bool _) rfl rfl rfl) rfl rfl ?_
                    refine WO.nil ?_
                    refine WX.keep [1, 2, 30, 31, 32, 161] (WX.pk [] (by decide) ?_) rfl
                    exact gabionlaw15_ExtMaps_j27_ok h hn hx0 hr hE _ _ _ ⟨hB, _, h89, rfl, rfl⟩
                  · have q_k120 := of_decide_eq_false k120
                    replace h := (if_neg q_k120).symm.trans h
                    refine WO.q (.mv (v := .sl _ _ _ _ _ _) rfl) (wg rfl rfl (gf k120)) rfl ?_
                    obtain ⟨y121, hy121, h⟩ := Option.bind_eq_some_iff.1 h
                    refine WO.cS rfl rfl (lendC (j := 1) h86 rfl fun _ K123 g122 => ext_List_Held_ok g122 hy121) rfl (wg rfl rfl (gf k120)) rfl ?_
                    rintro _ rfl
                    refine WO.q (.mv (v := .int _ _) rfl) (wg rfl rfl (gf k120)) rfl ?_
                    refine WO.q (.r fun _ => rfl) (wg rfl rfl (gf k120)) rfl ?_
                    refine WO.q (.pfv (v := .bool _) rfl k120 rfl) rfl rfl ?_
                    refine WO.q (.mv (v := .bool _) rfl) rfl rfl ?_
                    rcases bsp (decide (y121 ≠ x85.1)) with k124 | k124
                    · have q_k124 := of_decide_eq_true k124
                      replace h := (if_pos q_k124).symm.trans h
                      refine WO.sd (wg rfl rfl (gfn k124)) rfl ?_
                      refine WO.sd (wg rfl rfl (gfn k124)) rfl ?_
                      refine WO.q (.ptv (v := .bool _) rfl k124 rfl) rfl rfl ?_
                      refine WO.q (.mv (v := .bool _) rfl) rfl rfl ?_
                      refine WO.sd (wg rfl rfl (gfn rfl)) rfl ?_
                      refine WO.sd (wg rfl rfl (gfn rfl)) rfl ?_
                      refine WO.sd (wg rfl rfl (gfn rfl)) rfl ?_
                      refine WO.sd (wg rfl rfl (gfn rfl)) rfl ?_
                      refine WO.q (.ptv (v := .bool _) rfl rfl rfl) rfl rfl ?_
                      refine WO.nil ?_
                      refine WX.keep [1, 2, 30, 31, 32, 161] (WX.pk [] (by decide) ?_) rfl
                      exact gabionlaw15_ExtMaps_j27_ok h hn hx0 hr hE _ _ _ ⟨hB, _, h89, rfl, rfl⟩
                    · have q_k124 := of_decide_eq_false k124
                      replace h := (if_neg q_k124).symm.trans h
                      refine WO.q (.mv (v := .int _ _) rfl) (wg rfl rfl (gf k124)) rfl ?_
                      refine WO.q (.r fun _ => rfl) (wg rfl rfl (gf k124)) rfl ?_
                      refine WO.q (.pfv (v := .bool _) rfl k124 rfl) rfl rfl ?_
                      refine WO.q (.mv (v := .bool _) rfl) rfl rfl ?_
                      rcases bsp (decide (y102.2 ≠ 0)) with k125 | k125
                      · have q_k125 := of_decide_eq_true k125
                        replace h := (if_pos q_k125).symm.trans h
                        refine WO.sd (wg rfl rfl (gfn k125)) rfl ?_
                        refine WO.sd (wg rfl rfl (gfn k125)) rfl ?_
                        refine WO.sd (wg rfl rfl (gfn k125)) rfl ?_
                        refine WO.sd (wg rfl rfl (gfn k125)) rfl ?_
                        refine WO.q (.ptv (v := .bool _) rfl k125 rfl) rfl rfl ?_
                        refine WO.nil ?_
                        refine WX.keep [1, 2, 30, 31, 32, 161] (WX.pk [] (by decide) ?_) rfl
                        exact gabionlaw15_ExtMaps_j27_ok h hn hx0 hr hE _ _ _ ⟨hB, _, h89, rfl, rfl⟩
                      · have q_k125 := of_decide_eq_false k125
                        replace h := (if_neg q_k125).symm.trans h
                        refine WO.q (.mv (v := .sl _ _ _ _ _ _) rfl) (wg rfl rfl (gf k125)) rfl ?_
                        refine WO.q (.mv (v := .sl _ _ _ _ _ _) rfl) (wg rfl rfl (gf k125)) rfl ?_
                        obtain ⟨y126, hy126, h⟩ := Option.bind_eq_some_iff.1 h
                        refine WO.cS rfl rfl (lendC (j := 0) h107 rfl fun _ K128 g127 => gabionlaw15_same_ok g127 (h87.up K128) hy126) rfl (wg rfl rfl (gf k125)) rfl ?_
                        rintro _ rfl
                        refine WO.q (.r fun _ => rfl) (wg rfl rfl (gf k125)) rfl ?_
                        refine WO.q (.pfv (v := .bool _) rfl k125 rfl) rfl rfl ?_
                        refine WO.nil ?_
                        refine WX.keep [1, 2, 30, 31, 32, 161] (WX.pk [] (by decide) ?_) rfl
                        exact gabionlaw15_ExtMaps_j27_ok h hn hx0 hr hE _ _ _ ⟨hB, _, h89, rfl, rfl⟩
              · replace h := (if_neg (bnt k114)).symm.trans h
                refine WO.sd (wg rfl rfl (gtn k114)) rfl ?_
                refine WO.sd (wg rfl rfl (gtn k114)) rfl ?_
                refine WO.sd (wg rfl rfl (gtn k114)) rfl ?_
                refine WO.sd (wg rfl rfl (gtn k114)) rfl ?_
                refine WO.sd (wg rfl rfl (gtn k114)) rfl ?_
                refine WO.sd (wg rfl rfl (gtn k114)) rfl ?_
                refine WO.q (.pfv (v := .bool _) rfl k114 rfl) (wg rfl rfl (gf (f_not k113))) rfl ?_
                refine WO.q (.pfv (v := .bool _) rfl (f_not k113) rfl) rfl rfl ?_
                refine WO.q (.mv (v := .bool _) rfl) rfl rfl ?_
                refine WO.q (.mv (v := .sl _ _ _ _ _ _) rfl) (wg rfl rfl (gf rfl)) rfl ?_
                obtain ⟨y129, hy129, h⟩ := Option.bind_eq_some_iff.1 h
                refine WO.cS rfl rfl (lendC (j := 1) h86 rfl fun _ K131 g130 => ext_List_Blocks_ok g130 hy129) rfl (wg rfl rfl (gf rfl)) rfl ?_
                rintro _ rfl
                refine WO.q (.mv (v := .sl _ _ _ _ _ _) rfl) (wg rfl rfl (gf rfl)) rfl ?_
                refine WO.q (.len rfl rfl rfl (sl22.len h88.isl)) (wg rfl rfl (gf rfl)) rfl ?_
                refine WO.q (.r fun _ => rfl) (wg rfl rfl (gf rfl)) rfl ?_
                refine WO.q (.pfv (v := .bool _) rfl rfl rfl) rfl rfl ?_
                refine WO.q (.mv (v := .bool _) rfl) rfl rfl ?_
                rcases bsp (decide (y129 ≠ (y48.length : Int))) with k132 | k132
                · have q_k132 := of_decide_eq_true k132
                  replace h := (if_pos q_k132).symm.trans h
                  refine WO.sd (wg rfl rfl (gfn k132)) rfl ?_
                  refine WO.sd (wg rfl rfl (gfn k132)) rfl ?_
                  refine WO.sd (wg rfl rfl (gfn k132)) rfl ?_
                  refine WO.sd (wg rfl rfl (gfn k132)) rfl ?_
                  refine WO.q (.ptv (v := .bool _) rfl k132 rfl) rfl rfl ?_
                  refine WO.q (.mv (v := .bool _) rfl) rfl rfl ?_
                  refine WO.sd (wg rfl rfl (gfn rfl)) rfl ?_
                  refine WO.sd (wg rfl rfl (gfn rfl)) rfl ?_
                  refine WO.q (.ptv (v := .bool _) rfl rfl rfl) rfl rfl ?_
                  refine WO.q (.mv (v := .bool _) rfl) rfl rfl ?_
                  refine WO.sd (wg rfl rfl (gfn rfl)) rfl ?_
                  refine WO.sd (wg rfl rfl (gfn rfl)) rfl ?_
                  refine WO.sd (wg rfl rfl (gfn rfl)) rfl ?_
                  refine WO.sd (wg rfl rfl (gfn rfl)) rfl ?_
                  refine WO.q (.ptv (v := .bool _) rfl rfl rfl) rfl rfl ?_
                  refine WO.nil ?_
                  refine WX.keep [1, 2, 30, 31, 32, 161] (WX.pk [] (by decide) ?_) rfl
                  exact gabionlaw15_ExtMaps_j27_ok h hn hx0 hr hE _ _ _ ⟨hB, _, h89, rfl, rfl⟩
                · have q_k132 := of_decide_eq_false k132
                  replace h := (if_neg q_k132).symm.trans h
                  refine WO.q (.mv (v := .sl _ _ _ _ _ _) rfl) (wg rfl rfl (gf k132)) rfl ?_
                  obtain ⟨y133, hy133, h⟩ := Option.bind_eq_some_iff.1 h
                  refine WO.cS rfl rfl (lendC (j := 1) h86 rfl fun _ K135 g134 => ext_List_Held_ok g134 hy133) rfl (wg rfl rfl (gf k132)) rfl ?_
                  rintro _ rfl
                  refine WO.q (.mv (v := .int _ _) rfl) (wg rfl rfl (gf k132)) rfl ?_
                  refine WO.q (.r fun _ => rfl) (wg rfl rfl (gf k132)) rfl ?_
                  refine WO.q (.pfv (v := .bool _) rfl k132 rfl) rfl rfl ?_
                  refine WO.q (.mv (v := .bool _) rfl) rfl rfl ?_
                  rcases bsp (decide (y133 ≠ x85.1)) with k136 | k136
                  · have q_k136 := of_decide_eq_true k136
                    replace h := (if_pos q_k136).symm.trans h
                    refine WO.sd (wg rfl rfl (gfn k136)) rfl ?_
                    refine WO.sd (wg rfl rfl (gfn k136)) rfl ?_
                    refine WO.q (.ptv (v := .bool _) rfl k136 rfl) rfl rfl ?_
                    refine WO.q (.mv (v := .bool _) rfl) rfl rfl ?_
                    refine WO.sd (wg rfl rfl (gfn rfl)) rfl ?_
                    refine WO.sd (wg rfl rfl (gfn rfl)) rfl ?_
                    refine WO.sd (wg rfl rfl (gfn rfl)) rfl ?_
                    refine WO.sd (wg rfl rfl (gfn rfl)) rfl ?_
                    refine WO.q (.ptv (v := .bool _) rfl rfl rfl) rfl rfl ?_
                    refine WO.nil ?_
                    refine WX.keep [1, 2, 30, 31, 32, 161] (WX.pk [] (by decide) ?_) rfl
                    exact gabionlaw15_ExtMaps_j27_ok h hn hx0 hr hE _ _ _ ⟨hB, _, h89, rfl, rfl⟩
                  · have q_k136 := of_decide_eq_false k136
                    replace h := (if_neg q_k136).symm.trans h
                    refine WO.q (.mv (v := .int _ _) rfl) (wg rfl rfl (gf k136)) rfl ?_
                    refine WO.q (.r fun _ => rfl) (wg rfl rfl (gf k136)) rfl ?_
                    refine WO.q (.pfv (v := .bool _) rfl k136 rfl) rfl rfl ?_
                    refine WO.q (.mv (v := .bool _) rfl) rfl rfl ?_
                    rcases bsp (decide (y102.2 ≠ 0)) with k137 | k137
                    · have q_k137 := of_decide_eq_true k137
                      replace h := (if_pos q_k137).symm.trans h
                      refine WO.sd (wg rfl rfl (gfn k137)) rfl ?_
                      refine WO.sd (wg rfl rfl (gfn k137)) rfl ?_
                      refine WO.sd (wg rfl rfl (gfn k137)) rfl ?_
                      refine WO.sd (wg rfl rfl (gfn k137)) rfl ?_
                      refine WO.q (.ptv (v := .bool _) rfl k137 rfl) rfl rfl ?_
                      refine WO.nil ?_
                      refine WX.keep [1, 2, 30, 31, 32, 161] (WX.pk [] (by decide) ?_) rfl
                      exact gabionlaw15_ExtMaps_j27_ok h hn hx0 hr hE _ _ _ ⟨hB, _, h89, rfl, rfl⟩
                    · have q_k137 := of_decide_eq_false k137
                      replace h := (if_neg q_k137).symm.trans h
                      refine WO.q (.mv (v := .sl _ _ _ _ _ _) rfl) (wg rfl rfl (gf k137)) rfl ?_
                      refine WO.q (.mv (v := .sl _ _ _ _ _ _) rfl) (wg rfl rfl (gf k137)) rfl ?_
                      obtain ⟨y138, hy138, h⟩ := Option.bind_eq_some_iff.1 h
                      refine WO.cS rfl rfl (lendC (j := 0) h107 rfl fun _ K140 g139 => gabionlaw15_same_ok g139 (h87.up K140) hy138) rfl (wg rfl rfl (gf k137)) rfl ?_
                      rintro _ rfl
                      refine WO.q (.r fun _ => rfl) (wg rfl rfl (gf k137)) rfl ?_
                      refine WO.q (.pfv (v := .bool _) rfl k137 rfl) rfl rfl ?_
                      refine WO.nil ?_
                      refine WX.keep [1, 2, 30, 31, 32, 161] (WX.pk [] (by decide) ?_) rfl
                      exact gabionlaw15_ExtMaps_j27_ok h hn hx0 hr hE _ _ _ ⟨hB, _, h89, rfl, rfl⟩
            · have q_k113 := of_decide_eq_false k113
              replace h := (if_neg q_k113).symm.trans h
              refine WO.sd (wg rfl rfl (gfn (t_not k113))) rfl ?_
              refine WO.sd (wg rfl rfl (gfn (t_not k113))) rfl ?_
              refine WO.sd (wgu rfl rfl) rfl ?_
              refine WO.sd (wgu rfl rfl) rfl ?_
              refine WO.sd (wgu rfl rfl) rfl ?_
              refine WO.sd (wgu rfl rfl) rfl ?_
              refine WO.sd (wgu rfl rfl) rfl ?_
              refine WO.sd (wgu rfl rfl) rfl ?_
              refine WO.sd (wg rfl rfl (gfn (t_not k113))) rfl ?_
              refine WO.q (.ptv (v := .bool _) rfl (t_not k113) rfl) rfl rfl ?_
              refine WO.q (.mv (v := .bool _) rfl) rfl rfl ?_
              refine WO.sd (wg rfl rfl (gfn rfl)) rfl ?_
              refine WO.sd (wg rfl rfl (gfn rfl)) rfl ?_
              refine WO.sd (wg rfl rfl (gfn rfl)) rfl ?_
              refine WO.sd (wg rfl rfl (gfn rfl)) rfl ?_
              refine WO.sd (wg rfl rfl (gfn rfl)) rfl ?_
              refine WO.q (.ptv (v := .bool _) rfl rfl rfl) rfl rfl ?_
              refine WO.q (.mv (v := .bool _) rfl) rfl rfl ?_
              refine WO.sd (wg rfl rfl (gfn rfl)) rfl ?_
              refine WO.sd (wg rfl rfl (gfn rfl)) rfl ?_
              refine WO.sd (wg rfl rfl (gfn rfl)) rfl ?_
              refine WO.sd (wg rfl rfl (gfn rfl)) rfl ?_
              refine WO.q (.ptv (v := .bool _) rfl rfl rfl) rfl rfl ?_
              refine WO.q (.mv (v := .bool _) rfl) rfl rfl ?_
              refine WO.sd (wg rfl rfl (gfn rfl)) rfl ?_
              refine WO.sd (wg rfl rfl (gfn rfl)) rfl ?_
              refine WO.q (.ptv (v := .bool _) rfl rfl rfl) rfl rfl ?_
              refine WO.q (.mv (v := .bool _) rfl) rfl rfl ?_
              refine WO.sd (wg rfl rfl (gfn rfl)) rfl ?_
              refine WO.sd (wg rfl rfl (gfn rfl)) rfl ?_
              refine WO.sd (wg rfl rfl (gfn rfl)) rfl ?_
              refine WO.sd (wg rfl rfl (gfn rfl)) rfl ?_
              refine WO.q (.ptv (v := .bool _) rfl rfl rfl) rfl rfl ?_
              refine WO.nil ?_
              refine WX.keep [1, 2, 30, 31, 32, 161] (WX.pk [] (by decide) ?_) rfl
              exact gabionlaw15_ExtMaps_j27_ok h hn hx0 hr hE _ _ _ ⟨hB, _, h89, rfl, rfl⟩
          · have q_k112 := of_decide_eq_false k112
            replace h := (if_neg q_k112).symm.trans h
            refine WO.sd (wg rfl rfl (gtn k112)) rfl ?_
            refine WO.sd (wg rfl rfl (gtn k112)) rfl ?_
            refine WO.sd (wg rfl rfl (gtn k112)) rfl ?_
            refine WO.sd (wg rfl rfl (gtn k112)) rfl ?_
            refine WO.q (.pfv (v := .bool _) rfl k112 rfl) (wg rfl rfl (gf k111)) rfl ?_
            refine WO.q (.bin (evboolneq ti4 rfl)) (wg rfl rfl (gf k111)) rfl ?_
            refine WO.q (.pfv (v := .bool _) rfl k111 rfl) rfl rfl ?_
            refine WO.q (.mv (v := .bool _) rfl) rfl rfl ?_
            rcases bsp (decide (y96.2 = false)) with k141 | k141
            · have q_k141 := of_decide_eq_true k141
              replace h := (if_pos q_k141).symm.trans h
              refine WO.q (.mv (v := .bool _) rfl) (wg rfl rfl (gf (f_not k141))) rfl ?_
              refine WO.q (.mv (v := .bool _) rfl) (wg rfl rfl (gf (f_not k141))) rfl ?_
              rcases bsp y96.2 with k142 | k142
              · replace h := (if_pos k142).symm.trans h
                refine WO.q (.mv (v := .int _ _) rfl) (wg rfl rfl (gt k142)) rfl ?_
                refine WO.q (.mv (v := .sl _ _ _ _ _ _) rfl) (wg rfl rfl (gt k142)) rfl ?_
                refine WO.q (.mv (v := .int _ _) rfl) (wg rfl rfl (gt k142)) rfl ?_
                obtain ⟨y143, hy143, h⟩ := Option.bind_eq_some_iff.1 h
                obtain ⟨b_y143, o_y143, _, i_y143, p_y143, r_y143⟩ := h88.at sl22 hy143 .i64
                obtain rfl := r_y143
                refine WO.q (.ia i_y143) (wg rfl rfl (gt k142)) rfl ?_
                refine WO.q (.lp0 rfl p_y143 rfl ti3 rfl) (wg rfl rfl (gt k142)) rfl ?_
                refine WO.q (.r fun _ => rfl) (wg rfl rfl (gt k142)) rfl ?_
                refine WO.q (.ptv (v := .bool _) rfl k142 rfl) (wg rfl rfl (gf (f_not k141))) rfl ?_
                refine WO.q (.pfv (v := .bool _) rfl (f_not k141) rfl) rfl rfl ?_
                refine WO.q (.mv (v := .bool _) rfl) rfl rfl ?_
                rcases bsp (decide (y96.1 ≠ y143)) with k144 | k144
                · have q_k144 := of_decide_eq_true k144
                  replace h := (if_pos q_k144).symm.trans h
                  refine WO.sd (wg rfl rfl (gfn k144)) rfl ?_
                  refine WO.sd (wg rfl rfl (gfn k144)) rfl ?_
                  refine WO.sd (wg rfl rfl (gfn k144)) rfl ?_
                  refine WO.sd (wg rfl rfl (gfn k144)) rfl ?_
                  refine WO.sd (wg rfl rfl (gfn k144)) rfl ?_
                  refine WO.q (.ptv (v := .bool _) rfl k144 rfl) rfl rfl ?_
                  refine WO.q (.mv (v := .bool _) rfl) rfl rfl ?_
                  refine WO.sd (wg rfl rfl (gfn rfl)) rfl ?_
                  refine WO.sd (wg rfl rfl (gfn rfl)) rfl ?_
                  refine WO.sd (wg rfl rfl (gfn rfl)) rfl ?_
                  refine WO.sd (wg rfl rfl (gfn rfl)) rfl ?_
                  refine WO.q (.ptv (v := .bool _) rfl rfl rfl) rfl rfl ?_
                  refine WO.q (.mv (v := .bool _) rfl) rfl rfl ?_
                  refine WO.sd (wg rfl rfl (gfn rfl)) rfl ?_
                  refine WO.sd (wg rfl rfl (gfn rfl)) rfl ?_
                  refine WO.q (.ptv (v := .bool _) rfl rfl rfl) rfl rfl ?_
                  refine WO.q (.mv (v := .bool _) rfl) rfl rfl ?_
                  refine WO.sd (wg rfl rfl (gfn rfl)) rfl ?_
                  refine WO.sd (wg rfl rfl (gfn rfl)) rfl ?_
                  refine WO.sd (wg rfl rfl (gfn rfl)) rfl ?_
                  refine WO.sd (wg rfl rfl (gfn rfl)) rfl ?_
                  refine WO.q (.ptv (v := .bool _) rfl rfl rfl) rfl rfl ?_
                  refine WO.nil ?_
                  refine WX.keep [1, 2, 30, 31, 32, 161] (WX.pk [] (by decide) ?_) rfl
                  exact gabionlaw15_ExtMaps_j27_ok h hn hx0 hr hE _ _ _ ⟨hB, _, h89, rfl, rfl⟩
                · have q_k144 := of_decide_eq_false k144
                  replace h := (if_neg q_k144).symm.trans h
                  refine WO.q (.mv (v := .sl _ _ _ _ _ _) rfl) (wg rfl rfl (gf k144)) rfl ?_
                  obtain ⟨y145, hy145, h⟩ := Option.bind_eq_some_iff.1 h
                  refine WO.cS rfl rfl (lendC (j := 1) h86 rfl fun _ K147 g146 => ext_List_Blocks_ok g146 hy145) rfl (wg rfl rfl (gf k144)) rfl ?_
                  rintro _ rfl
                  refine WO.q (.mv (v := .sl _ _ _ _ _ _) rfl) (wg rfl rfl (gf k144)) rfl ?_
                  refine WO.q (.len rfl rfl rfl (sl22.len h88.isl)) (wg rfl rfl (gf k144)) rfl ?_
                  refine WO.q (.r fun _ => rfl) (wg rfl rfl (gf k144)) rfl ?_
                  refine WO.q (.pfv (v := .bool _) rfl k144 rfl) rfl rfl ?_
                  refine WO.q (.mv (v := .bool _) rfl) rfl rfl ?_
                  rcases bsp (decide (y145 ≠ (y48.length : Int))) with k148 | k148
                  · have q_k148 := of_decide_eq_true k148
                    replace h := (if_pos q_k148).symm.trans h
                    refine WO.sd (wg rfl rfl (gfn k148)) rfl ?_
                    refine WO.sd (wg rfl rfl (gfn k148)) rfl ?_
                    refine WO.sd (wg rfl rfl (gfn k148)) rfl ?_
                    refine WO.sd (wg rfl rfl (gfn k148)) rfl ?_
                    refine WO.q (.ptv (v := .bool _) rfl k148 rfl) rfl rfl ?_
                    refine WO.q (.mv (v := .bool _) rfl) rfl rfl ?_
                    refine WO.sd (wg rfl rfl (gfn rfl)) rfl ?_
                    refine WO.sd (wg rfl rfl (gfn rfl)) rfl ?_
                    refine WO.q (.ptv (v := .bool _) rfl rfl rfl) rfl rfl ?_
                    refine WO.q (.mv (v := .bool _) rfl) rfl rfl ?_
                    refine WO.sd (wg rfl rfl (gfn rfl)) rfl ?_
                    refine WO.sd (wg rfl rfl (gfn rfl)) rfl ?_
                    refine WO.sd (wg rfl rfl (gfn rfl)) rfl ?_
                    refine WO.sd (wg rfl rfl (gfn rfl)) rfl ?_
                    refine WO.q (.ptv (v := .bool _) rfl rfl rfl) rfl rfl ?_
                    refine WO.nil ?_
                    refine WX.keep [1, 2, 30, 31, 32, 161] (WX.pk [] (by decide) ?_) rfl
                    exact gabionlaw15_ExtMaps_j27_ok h hn hx0 hr hE _ _ _ ⟨hB, _, h89, rfl, rfl⟩
                  · have q_k148 := of_decide_eq_false k148
                    replace h := (if_neg q_k148).symm.trans h
                    refine WO.q (.mv (v := .sl _ _ _ _ _ _) rfl) (wg rfl rfl (gf k148)) rfl ?_
                    obtain ⟨y149, hy149, h⟩ := Option.bind_eq_some_iff.1 h
                    refine WO.cS rfl rfl (lendC (j := 1) h86 rfl fun _ K151 g150 => ext_List_Held_ok g150 hy149) rfl (wg rfl rfl (gf k148)) rfl ?_
                    rintro _ rfl
                    refine WO.q (.mv (v := .int _ _) rfl) (wg rfl rfl (gf k148)) rfl ?_
                    refine WO.q (.r fun _ => rfl) (wg rfl rfl (gf k148)) rfl ?_
                    refine WO.q (.pfv (v := .bool _) rfl k148 rfl) rfl rfl ?_
                    refine WO.q (.mv (v := .bool _) rfl) rfl rfl ?_
                    rcases bsp (decide (y149 ≠ x85.1)) with k152 | k152
                    · have q_k152 := of_decide_eq_true k152
                      replace h := (if_pos q_k152).symm.trans h
                      refine WO.sd (wg rfl rfl (gfn k152)) rfl ?_
                      refine WO.sd (wg rfl rfl (gfn k152)) rfl ?_
                      refine WO.q (.ptv (v := .bool _) rfl k152 rfl) rfl rfl ?_
                      refine WO.q (.mv (v := .bool _) rfl) rfl rfl ?_
                      refine WO.sd (wg rfl rfl (gfn rfl)) rfl ?_
                      refine WO.sd (wg rfl rfl (gfn rfl)) rfl ?_
                      refine WO.sd (wg rfl rfl (gfn rfl)) rfl ?_
                      refine WO.sd (wg rfl rfl (gfn rfl)) rfl ?_
                      refine WO.q (.ptv (v := .bool _) rfl rfl rfl) rfl rfl ?_
                      refine WO.nil ?_
                      refine WX.keep [1, 2, 30, 31, 32, 161] (WX.pk [] (by decide) ?_) rfl
                      exact gabionlaw15_ExtMaps_j27_ok h hn hx0 hr hE _ _ _ ⟨hB, _, h89, rfl, rfl⟩
                    · have q_k152 := of_decide_eq_false k152
                      replace h := (if_neg q_k152).symm.trans h
                      refine WO.q (.mv (v := .int _ _) rfl) (wg rfl rfl (gf k152)) rfl ?_
                      refine WO.q (.r fun _ => rfl) (wg rfl rfl (gf k152)) rfl ?_
                      refine WO.q (.pfv (v := .bool _) rfl k152 rfl) rfl rfl ?_
                      refine WO.q (.mv (v := .bool _) rfl) rfl rfl ?_
                      rcases bsp (decide (y102.2 ≠ 0)) with k153 | k153
                      · have q_k153 := of_decide_eq_true k153
                        replace h := (if_pos q_k153).symm.trans h
                        refine WO.sd (wg rfl rfl (gfn k153)) rfl ?_
                        refine WO.sd (wg rfl rfl (gfn k153)) rfl ?_
                        refine WO.sd (wg rfl rfl (gfn k153)) rfl ?_
                        refine WO.sd (wg rfl rfl (gfn k153)) rfl ?_
                        refine WO.q (.ptv (v := .bool _) rfl k153 rfl) rfl rfl ?_
                        refine WO.nil ?_
                        refine WX.keep [1, 2, 30, 31, 32, 161] (WX.pk [] (by decide) ?_) rfl
                        exact gabionlaw15_ExtMaps_j27_ok h hn hx0 hr hE _ _ _ ⟨hB, _, h89, rfl, rfl⟩
                      · have q_k153 := of_decide_eq_false k153
                        replace h := (if_neg q_k153).symm.trans h
                        refine WO.q (.mv (v := .sl _ _ _ _ _ _) rfl) (wg rfl rfl (gf k153)) rfl ?_
                        refine WO.q (.mv (v := .sl _ _ _ _ _ _) rfl) (wg rfl rfl (gf k153)) rfl ?_
                        obtain ⟨y154, hy154, h⟩ := Option.bind_eq_some_iff.1 h
                        refine WO.cS rfl rfl (lendC (j := 0) h107 rfl fun _ K156 g155 => gabionlaw15_same_ok g155 (h87.up K156) hy154) rfl (wg rfl rfl (gf k153)) rfl ?_
                        rintro _ rfl
                        refine WO.q (.r fun _ => rfl) (wg rfl rfl (gf k153)) rfl ?_
                        refine WO.q (.pfv (v := .bool _) rfl k153 rfl) rfl rfl ?_
                        refine WO.nil ?_
                        refine WX.keep [1, 2, 30, 31, 32, 161] (WX.pk [] (by decide) ?_) rfl
                        exact gabionlaw15_ExtMaps_j27_ok h hn hx0 hr hE _ _ _ ⟨hB, _, h89, rfl, rfl⟩
              · replace h := (if_neg (bnt k142)).symm.trans h
                refine WO.sd (wg rfl rfl (gtn k142)) rfl ?_
                refine WO.sd (wg rfl rfl (gtn k142)) rfl ?_
                refine WO.sd (wg rfl rfl (gtn k142)) rfl ?_
                refine WO.sd (wg rfl rfl (gtn k142)) rfl ?_
                refine WO.sd (wg rfl rfl (gtn k142)) rfl ?_
                refine WO.sd (wg rfl rfl (gtn k142)) rfl ?_
                refine WO.q (.pfv (v := .bool _) rfl k142 rfl) (wg rfl rfl (gf (f_not k141))) rfl ?_
                refine WO.q (.pfv (v := .bool _) rfl (f_not k141) rfl) rfl rfl ?_
                refine WO.q (.mv (v := .bool _) rfl) rfl rfl ?_
                refine WO.q (.mv (v := .sl _ _ _ _ _ _) rfl) (wg rfl rfl (gf rfl)) rfl ?_
                obtain ⟨y157, hy157, h⟩ := Option.bind_eq_some_iff.1 h
                refine WO.cS rfl rfl (lendC (j := 1) h86 rfl fun _ K159 g158 => ext_List_Blocks_ok g158 hy157) rfl (wg rfl rfl (gf rfl)) rfl ?_
                rintro _ rfl
                refine WO.q (.mv (v := .sl _ _ _ _ _ _) rfl) (wg rfl rfl (gf rfl)) rfl ?_
                refine WO.q (.len rfl rfl rfl (sl22.len h88.isl)) (wg rfl rfl (gf rfl)) rfl ?_
                refine WO.q (.r fun _ => rfl) (wg rfl rfl (gf rfl)) rfl ?_
                refine WO.q (.pfv (v := .bool _) rfl rfl rfl) rfl rfl ?_
                refine WO.q (.mv (v := .bool _) rfl) rfl rfl ?_
                rcases bsp (decide (y157 ≠ (y48.length : Int))) with k160 | k160
                · have q_k160 := of_decide_eq_true k160
                  replace h := (if_pos q_k160).symm.trans h
                  refine WO.sd (wg rfl rfl (gfn k160)) rfl ?_
                  refine WO.sd (wg rfl rfl (gfn k160)) rfl ?_
                  refine WO.sd (wg rfl rfl (gfn k160)) rfl ?_
                  refine WO.sd (wg rfl rfl (gfn k160)) rfl ?_
                  refine WO.q (.ptv (v := .bool _) rfl k160 rfl) rfl rfl ?_
                  refine WO.q (.mv (v := .bool _) rfl) rfl rfl ?_
                  refine WO.sd (wg rfl rfl (gfn rfl)) rfl ?_
                  refine WO.sd (wg rfl rfl (gfn rfl)) rfl ?_
                  refine WO.q (.ptv (v := .bool _) rfl rfl rfl) rfl rfl ?_
                  refine WO.q (.mv (v := .bool _) rfl) rfl rfl ?_
                  refine WO.sd (wg rfl rfl (gfn rfl)) rfl ?_
                  refine WO.sd (wg rfl rfl (gfn rfl)) rfl ?_
                  refine WO.sd (wg rfl rfl (gfn rfl)) rfl ?_
                  refine WO.sd (wg rfl rfl (gfn rfl)) rfl ?_
                  refine WO.q (.ptv (v := .bool _) rfl rfl rfl) rfl rfl ?_
                  refine WO.nil ?_
                  refine WX.keep [1, 2, 30, 31, 32, 161] (WX.pk [] (by decide) ?_) rfl
                  exact gabionlaw15_ExtMaps_j27_ok h hn hx0 hr hE _ _ _ ⟨hB, _, h89, rfl, rfl⟩
                · have q_k160 := of_decide_eq_false k160
                  replace h := (if_neg q_k160).symm.trans h
                  refine WO.q (.mv (v := .sl _ _ _ _ _ _) rfl) (wg rfl rfl (gf k160)) rfl ?_
                  obtain ⟨y161, hy161, h⟩ := Option.bind_eq_some_iff.1 h
                  refine WO.cS rfl rfl (lendC (j := 1) h86 rfl fun _ K163 g162 => ext_List_Held_ok g162 hy161) rfl (wg rfl rfl (gf k160)) rfl ?_
                  rintro _ rfl
                  refine WO.q (.mv (v := .int _ _) rfl) (wg rfl rfl (gf k160)) rfl ?_
                  refine WO.q (.r fun _ => rfl) (wg rfl rfl (gf k160)) rfl ?_
                  refine WO.q (.pfv (v := .bool _) rfl k160 rfl) rfl rfl ?_
                  refine WO.q (.mv (v := .bool _) rfl) rfl rfl ?_
                  rcases bsp (decide (y161 ≠ x85.1)) with k164 | k164
                  · have q_k164 := of_decide_eq_true k164
                    replace h := (if_pos q_k164).symm.trans h
                    refine WO.sd (wg rfl rfl (gfn k164)) rfl ?_
                    refine WO.sd (wg rfl rfl (gfn k164)) rfl ?_
                    refine WO.q (.ptv (v := .bool _) rfl k164 rfl) rfl rfl ?_
                    refine WO.q (.mv (v := .bool _) rfl) rfl rfl ?_
                    refine WO.sd (wg rfl rfl (gfn rfl)) rfl ?_
                    refine WO.sd (wg rfl rfl (gfn rfl)) rfl ?_
                    refine WO.sd (wg rfl rfl (gfn rfl)) rfl ?_
                    refine WO.sd (wg rfl rfl (gfn rfl)) rfl ?_
                    refine WO.q (.ptv (v := .bool _) rfl rfl rfl) rfl rfl ?_
                    refine WO.nil ?_
                    refine WX.keep [1, 2, 30, 31, 32, 161] (WX.pk [] (by decide) ?_) rfl
                    exact gabionlaw15_ExtMaps_j27_ok h hn hx0 hr hE _ _ _ ⟨hB, _, h89, rfl, rfl⟩
                  · have q_k164 := of_decide_eq_false k164
                    replace h := (if_neg q_k164).symm.trans h
                    refine WO.q (.mv (v := .int _ _) rfl) (wg rfl rfl (gf k164)) rfl ?_
                    refine WO.q (.r fun _ => rfl) (wg rfl rfl (gf k164)) rfl ?_
                    refine WO.q (.pfv (v := .bool _) rfl k164 rfl) rfl rfl ?_
                    refine WO.q (.mv (v := .bool _) rfl) rfl rfl ?_
                    rcases bsp (decide (y102.2 ≠ 0)) with k165 | k165
                    · have q_k165 := of_decide_eq_true k165
                      replace h := (if_pos q_k165).symm.trans h
                      refine WO.sd (wg rfl rfl (gfn k165)) rfl ?_
                      refine WO.sd (wg rfl rfl (gfn k165)) rfl ?_
                      refine WO.sd (wg rfl rfl (gfn k165)) rfl ?_
                      refine WO.sd (wg rfl rfl (gfn k165)) rfl ?_
                      refine WO.q (.ptv (v := .bool _) rfl k165 rfl) rfl rfl ?_
                      refine WO.nil ?_
                      refine WX.keep [1, 2, 30, 31, 32, 161] (WX.pk [] (by decide) ?_) rfl
                      exact gabionlaw15_ExtMaps_j27_ok h hn hx0 hr hE _ _ _ ⟨hB, _, h89, rfl, rfl⟩
                    · have q_k165 := of_decide_eq_false k165
                      replace h := (if_neg q_k165).symm.trans h
                      refine WO.q (.mv (v := .sl _ _ _ _ _ _) rfl) (wg rfl rfl (gf k165)) rfl ?_
                      refine WO.q (.mv (v := .sl _ _ _ _ _ _) rfl) (wg rfl rfl (gf k165)) rfl ?_
                      obtain ⟨y166, hy166, h⟩ := Option.bind_eq_some_iff.1 h
                      refine WO.cS rfl rfl (lendC (j := 0) h107 rfl fun _ K168 g167 => gabionlaw15_same_ok g167 (h87.up K168) hy166) rfl (wg rfl rfl (gf k165)) rfl ?_
                      rintro _ rfl
                      refine WO.q (.r fun _ => rfl) (wg rfl rfl (gf k165)) rfl ?_
                      refine WO.q (.pfv (v := .bool _) rfl k165 rfl) rfl rfl ?_
                      refine WO.nil ?_
                      refine WX.keep [1, 2, 30, 31, 32, 161] (WX.pk [] (by decide) ?_) rfl
                      exact gabionlaw15_ExtMaps_j27_ok h hn hx0 hr hE _ _ _ ⟨hB, _, h89, rfl, rfl⟩
            · have q_k141 := of_decide_eq_false k141
              replace h := (if_neg q_k141).symm.trans h
              refine WO.sd (wg rfl rfl (gfn (t_not k141))) rfl ?_
              refine WO.sd (wg rfl rfl (gfn (t_not k141))) rfl ?_
              refine WO.sd (wgu rfl rfl) rfl ?_
              refine WO.sd (wgu rfl rfl) rfl ?_
              refine WO.sd (wgu rfl rfl) rfl ?_
              refine WO.sd (wgu rfl rfl) rfl ?_
              refine WO.sd (wgu rfl rfl) rfl ?_
              refine WO.sd (wgu rfl rfl) rfl ?_
              refine WO.sd (wg rfl rfl (gfn (t_not k141))) rfl ?_
              refine WO.q (.ptv (v := .bool _) rfl (t_not k141) rfl) rfl rfl ?_
              refine WO.q (.mv (v := .bool _) rfl) rfl rfl ?_
              refine WO.sd (wg rfl rfl (gfn rfl)) rfl ?_
              refine WO.sd (wg rfl rfl (gfn rfl)) rfl ?_
              refine WO.sd (wg rfl rfl (gfn rfl)) rfl ?_
              refine WO.sd (wg rfl rfl (gfn rfl)) rfl ?_
              refine WO.sd (wg rfl rfl (gfn rfl)) rfl ?_
              refine WO.q (.ptv (v := .bool _) rfl rfl rfl) rfl rfl ?_
              refine WO.q (.mv (v := .bool _) rfl) rfl rfl ?_
              refine WO.sd (wg rfl rfl (gfn rfl)) rfl ?_
              refine WO.sd (wg rfl rfl (gfn rfl)) rfl ?_
              refine WO.sd (wg rfl rfl (gfn rfl)) rfl ?_
              refine WO.sd (wg rfl rfl (gfn rfl)) rfl ?_
              refine WO.q (.ptv (v := .bool _) rfl rfl rfl) rfl rfl ?_
              refine WO.q (.mv (v := .bool _) rfl) rfl rfl ?_
              refine WO.sd (wg rfl rfl (gfn rfl)) rfl ?_
              refine WO.sd (wg rfl rfl (gfn rfl)) rfl ?_
              refine WO.q (.ptv (v := .bool _) rfl rfl rfl) rfl rfl ?_
              refine WO.q (.mv (v := .bool _) rfl) rfl rfl ?_
              refine WO.sd (wg rfl rfl (gfn rfl)) rfl ?_
              refine WO.sd (wg rfl rfl (gfn rfl)) rfl ?_
              refine WO.sd (wg rfl rfl (gfn rfl)) rfl ?_
              refine WO.sd (wg rfl rfl (gfn rfl)) rfl ?_
              refine WO.q (.ptv (v := .bool _) rfl rfl rfl) rfl rfl ?_
              refine WO.nil ?_
              refine WX.keep [1, 2, 30, 31, 32, 161] (WX.pk [] (by decide) ?_) rfl
              exact gabionlaw15_ExtMaps_j27_ok h hn hx0 hr hE _ _ _ ⟨hB, _, h89, rfl, rfl⟩
theorem gabionlaw15_ExtMaps_j6_ok {B0 : Kn} {L : Own} {n0 : Nat} {x1 : Int} {x2 : List UInt8} {x9 : List (Int × Int)} {x10 : List (Int × Int)} {x30 : List (List (Int × Int))} {x32 : Int} {x52 : Bool} {Q : AV → St → Prop} {E : Int ⊕ (Bool ⊕ Unit) → Prop} {o : Int ⊕ (Bool ⊕ Unit)} (h : gabionlaw15_ExtMaps_j6 x1 x2 x9 x10 x30 x32 x52 = some o) (hn : ∀ s, E (.inl s) → WXI Try.prog 197 n0 (Fin Try.prog Try.f9.results.toList n0 Q) [.lp (ct [1, 0, 1, 0, 0] (bodyOf Try.f9)), .blk 0, .code (ct [1, 1] (bodyOf Try.f9))] (gabionlaw15_ExtMaps_l0_I B0 x1 x2 x30 s) L) (hx0 : ∀ s, E (.inr (.inr s)) → WXI Try.prog 197 n0 (Fin Try.prog Try.f9.results.toList n0 Q) [.code (ct [1, 1] (bodyOf Try.f9))] (gabionlaw15_ExtMaps_l0_X0 B0 x2) L) (hr : ∀ r, E (.inr (.inl r)) → ∀ v st, gabionlaw15_ExtMaps_P B0 L r v st → Q v st) (hE : E o) : WXI Try.prog 197 n0 (Fin Try.prog Try.f9.results.toList n0 Q) [.code (ct [1, 0, 1, 0, 0, 1, 1, 0, 0, 1, 1, 0, 1] (bodyOf Try.f9)), .code (ct [1, 0, 1, 0, 0, 1, 1, 0, 0, 1, 1, 1] (bodyOf Try.f9)), .blk 1, .code (ct [1, 0, 1, 0, 0, 1, 1, 1] (bodyOf Try.f9)), .lp (ct [1, 0, 1, 0, 0] (bodyOf Try.f9)), .blk 0, .code (ct [1, 1] (bodyOf Try.f9))] (gabionlaw15_ExtMaps_j6_I B0 x1 x2 x9 x10 x30 x32 x52) L := by
  unfold gabionlaw15_ExtMaps_j6 at h
  rintro _ B _ ⟨hB, v34, b34, n34, c34, v35, v36, h34, h35, h36, rfl, rfl⟩
  obtain ⟨_, _, _, _, _, rfl⟩ := h34.isl
  obtain ⟨_, _, _, _, _, rfl⟩ := h35.isl
  obtain ⟨_, _, _, _, _, rfl⟩ := h36.isl
  rcases bsp x52 with k37 | k37
  · replace h := (if_pos k37).symm.trans h
    refine WX.condT rfl k37 ?_
    refine WX.seq ?_
    refine WX.reg ?_
    refine WO.q (.as (v := .bool _) rfl) rfl rfl ?_
    refine WO.nil ?_
    obtain rfl := Option.some.inj h
    exact WX.ret (rs_ (rs_tmp rfl rs_nil)) fun st hp => hr _ hE _ _ ⟨(hp.pk [] (by decide)).le hB, rfl⟩
  · replace h := (if_neg (bnt k37)).symm.trans h
    refine WX.condF rfl k37 ?_
    refine WX.skip ?_
    refine WX.seq ?_
    refine WX.seq ?_
    refine WX.reg ?_
    refine WO.q (.mv (v := .sl _ _ _ _ _ _) rfl) rfl rfl ?_
    obtain ⟨y38, hy38, h⟩ := Option.bind_eq_some_iff.1 h
    refine WO.cS rfl rfl (gabionref15_Right_ok h35 hy38) rfl rfl rfl ?_
    rintro _ rfl
    refine WO.q (.r fun _ => rfl) rfl rfl ?_
    refine WO.q (.mv (v := .bool _) rfl) rfl rfl ?_
    rcases bsp y38 with k39 | k39
    · replace h := (if_pos k39).symm.trans h
      refine WO.q (.mv (v := .sl _ _ _ _ _ _) rfl) (wg rfl rfl (gf (f_not k39))) rfl ?_
      obtain ⟨y40, hy40, h⟩ := Option.bind_eq_some_iff.1 h
      refine WO.cS rfl rfl (lendC (j := 0) h34 rfl fun _ K42 g41 => ext_List_Blocks_ok g41 hy40) rfl (wg rfl rfl (gf (f_not k39))) rfl ?_
      rintro _ rfl
      refine WO.q (.r fun _ => rfl) (wg rfl rfl (gf (f_not k39))) rfl ?_
      refine WO.q (.pfv (v := .bool _) rfl (f_not k39) rfl) rfl rfl ?_
      refine WO.nil ?_
      refine WX.keep [1, 2, 9, 10, 30, 31, 32, 60] (WX.pk [0] (by decide) ?_) rfl
      exact gabionlaw15_ExtMaps_j8_ok h hn hx0 hr hE _ _ _ ⟨hB, _, _, n34, _, _, _, h34, h35, h36, rfl, rfl⟩
    · replace h := (if_neg (bnt k39)).symm.trans h
      refine WO.sd (wg rfl rfl (gfn (t_not k39))) rfl ?_
      refine WO.sd (wg rfl rfl (gfn (t_not k39))) rfl ?_
      refine WO.sd (wg rfl rfl (gfn (t_not k39))) rfl ?_
      refine WO.q (.ptv (v := .bool _) rfl (t_not k39) rfl) rfl rfl ?_
      refine WO.nil ?_
      refine WX.keep [1, 2, 9, 10, 30, 31, 32, 60] (WX.pk [0] (by decide) ?_) rfl
      exact gabionlaw15_ExtMaps_j8_ok h hn hx0 hr hE _ _ _ ⟨hB, _, _, n34, _, _, _, h34, h35, h36, rfl, rfl⟩
theorem gabionlaw15_ExtMaps_l0_s {B0 : Kn} {L : Own} {n0 : Nat} {x1 : Int} {x2 : List UInt8} {x30 : List (List (Int × Int))} {x32 : Int} {Q : AV → St → Prop} {E : Int ⊕ (Bool ⊕ Unit) → Prop} {o : Int ⊕ (Bool ⊕ Unit)} (h : gabionlaw15_ExtMaps_l0 x1 x2 x30 x32 = some o) (hn : ∀ s, E (.inl s) → WXI Try.prog 197 n0 (Fin Try.prog Try.f9.results.toList n0 Q) [.lp (ct [1, 0, 1, 0, 0] (bodyOf Try.f9)), .blk 0, .code (ct [1, 1] (bodyOf Try.f9))] (gabionlaw15_ExtMaps_l0_I B0 x1 x2 x30 s) L) (hx0 : ∀ s, E (.inr (.inr s)) → WXI Try.prog 197 n0 (Fin Try.prog Try.f9.results.toList n0 Q) [.code (ct [1, 1] (bodyOf Try.f9))] (gabionlaw15_ExtMaps_l0_X0 B0 x2) L) (hr : ∀ r, E (.inr (.inl r)) → ∀ v st, gabionlaw15_ExtMaps_P B0 L r v st → Q v st) (hE : E o) : WXI Try.prog 197 n0 (Fin Try.prog Try.f9.results.toList n0 Q) [.code (ct [1, 0, 1, 0, 0] (bodyOf Try.f9)), .lp (ct [1, 0, 1, 0, 0] (bodyOf Try.f9)), .blk 0, .code (ct [1, 1] (bodyOf Try.f9))] (gabionlaw15_ExtMaps_l0_I B0 x1 x2 x30 x32) L := by
  unfold gabionlaw15_ExtMaps_l0 at h
  rintro _ B _ ⟨hB, v13, h13, rfl, rfl⟩
  obtain ⟨_, _, _, _, _, rfl⟩ := h13.isl
  refine WX.seq ?_
  refine WX.reg ?_
  refine WO.q (.r fun _ => rfl) rfl rfl ?_
  refine WO.nil ?_
  refine WX.seq ?_
  rcases bsp (decide (x32 < (x30.length : Int))) with k14 | k14
  · have q_k14 := of_decide_eq_true k14
    replace h := (if_pos q_k14).symm.trans h
    refine WX.condT rfl k14 ?_
    refine WX.skip ?_
    refine WX.seq ?_
    refine WX.block ?_
    refine WX.seq ?_
    refine WX.reg ?_
    obtain ⟨y15, hy15, h⟩ := Option.bind_eq_some_iff.1 h
    obtain ⟨b_y15, o_y15, _, i_y15, p_y15, r_y15⟩ := h13.at sl43 hy15 .i64
    obtain ⟨w16, rfl, hw16⟩ := r_y15
    obtain ⟨_, _, _, _, _, rfl⟩ := hw16.isl
    refine WO.q (.ia i_y15) rfl rfl ?_
    refine WO.q (.lp0 rfl p_y15 rfl ti40 rfl) rfl rfl ?_
    refine WO.q (.as (v := .sl _ _ _ _ _ _) rfl) rfl rfl ?_
    refine WO.nil ?_
    refine WX.seq ?_
    refine WX.reg ?_
    refine WO.q (.mv (v := .sl _ _ _ _ _ _) rfl) rfl rfl ?_
    obtain ⟨y17, hy17, h⟩ := Option.bind_eq_some_iff.1 h
    refine WO.c1 rfl rfl (gabionlaw15_list_ok hw16 hy17) rfl rfl rfl ?_
    rintro _ B _ hK ⟨v23, v18, b19, n20, c21, rfl, h24, rfl, h22⟩
    obtain ⟨_, _, _, _, _, rfl⟩ := h24.isl
    obtain ⟨_, _, _, _, _, rfl⟩ := h22.isl
    replace h13 := h13.up hK
    replace hw16 := hw16.up hK
    replace hB := hB.trans hK
    refine WO.q (.mv (v := .tup _) rfl) rfl rfl ?_
    refine WO.q (.r fun _ => rfl) rfl rfl ?_
    refine WO.q (.r fun _ => rfl) rfl rfl ?_
    refine WO.q (.as (v := .sl _ _ _ _ _ _) rfl) rfl rfl ?_
    refine WO.q (.as (v := .sl _ _ _ _ _ _) rfl) rfl rfl ?_
    refine WO.nil ?_
    refine WX.seq ?_
    refine WX.seq ?_
    refine WX.reg ?_
    refine WO.q (.mv (v := .sl _ _ _ _ _ _) rfl) rfl rfl ?_
    obtain ⟨y25, hy25, h⟩ := Option.bind_eq_some_iff.1 h
    refine WO.cS rfl rfl (lendC (j := 0) h22 rfl fun _ K27 g26 => ext_List_Right_ok g26 hy25) rfl rfl rfl ?_
    rintro _ rfl
    refine WO.q (.mv (v := .sl _ _ _ _ _ _) rfl) rfl rfl ?_
    obtain ⟨y28, hy28, h⟩ := Option.bind_eq_some_iff.1 h
    refine WO.cS rfl rfl (gabionref15_Right_ok h24 hy28) rfl rfl rfl ?_
    rintro _ rfl
    refine WO.q (.bin (evboolneq ti4 rfl)) rfl rfl ?_
    refine WO.q (.mv (v := .bool _) rfl) rfl rfl ?_
    rcases bsp (decide (y25 = y28)) with k29 | k29
    · have q_k29 := of_decide_eq_true k29
      replace h := (if_pos q_k29).symm.trans h
      refine WO.q (.mv (v := .sl _ _ _ _ _ _) rfl) (wg rfl rfl (gf (f_not k29))) rfl ?_
      obtain ⟨y30, hy30, h⟩ := Option.bind_eq_some_iff.1 h
      refine WO.cS rfl rfl (lendC (j := 0) h22 rfl fun _ K32 g31 => ext_List_Text_ok g31 hy30) rfl (wg rfl rfl (gf (f_not k29))) rfl ?_
      rintro _ rfl
      refine WO.q (.mv (v := .sl _ _ _ _ _ _) rfl) (wg rfl rfl (gf (f_not k29))) rfl ?_
      obtain ⟨y33, hy33, h⟩ := Option.bind_eq_some_iff.1 h
      refine WO.cS rfl rfl (gabionref15_Text_ok h24 hy33) rfl (wg rfl rfl (gf (f_not k29))) rfl ?_
      rintro _ rfl
      refine WO.q (.r fun _ => rfl) (wg rfl rfl (gf (f_not k29))) rfl ?_
      refine WO.q (.pfv (v := .bool _) rfl (f_not k29) rfl) rfl rfl ?_
      refine WO.nil ?_
      refine WX.keep [1, 2, 9, 10, 30, 31, 32, 52] (WX.pk [0] (by decide) ?_) rfl
      exact gabionlaw15_ExtMaps_j6_ok h hn hx0 hr hE _ _ _ ⟨hB, _, _, n20, _, _, _, h22, h24, h13, rfl, rfl⟩
    · have q_k29 := of_decide_eq_false k29
      replace h := (if_neg q_k29).symm.trans h
      refine WO.sd (wg rfl rfl (gfn (t_not k29))) rfl ?_
      refine WO.sd (wg rfl rfl (gfn (t_not k29))) rfl ?_
      refine WO.sd (wg rfl rfl (gfn (t_not k29))) rfl ?_
      refine WO.sd (wg rfl rfl (gfn (t_not k29))) rfl ?_
      refine WO.sd (wg rfl rfl (gfn (t_not k29))) rfl ?_
      refine WO.q (.ptv (v := .bool _) rfl (t_not k29) rfl) rfl rfl ?_
      refine WO.nil ?_
      refine WX.keep [1, 2, 9, 10, 30, 31, 32, 52] (WX.pk [0] (by decide) ?_) rfl
      exact gabionlaw15_ExtMaps_j6_ok h hn hx0 hr hE _ _ _ ⟨hB, _, _, n20, _, _, _, h22, h24, h13, rfl, rfl⟩
  · have q_k14 := of_decide_eq_false k14
    replace h := (if_neg q_k14).symm.trans h
    refine WX.condF rfl k14 ?_
    refine WX.exit rfl ?_
    refine WX.keep [2] (WX.pk [] (by decide) ?_) rfl
    obtain rfl := Option.some.inj h
    exact hx0 _ hE _ _ _ ⟨hB, rfl, rfl⟩
theorem gabionlaw15_ExtMaps_l0_ok {B0 : Kn} {L : Own} {n0 : Nat} {x1 : Int} {x2 : List UInt8} {x30 : List (List (Int × Int))} {x32 : Int} {Q : AV → St → Prop} {d : Nat} {e : Bool ⊕ Unit} (h : iter (fun (s : Int) => gabionlaw15_ExtMaps_l0 x1 x2 x30 s) d x32 = some e) (g0 : ∀ r, e = (.inl r) → ∀ v st, gabionlaw15_ExtMaps_P B0 L r v st → Q v st) (g1 : ∀ s, e = (.inr s) → WXI Try.prog 197 n0 (Fin Try.prog Try.f9.results.toList n0 Q) [.code (ct [1, 1] (bodyOf Try.f9))] (gabionlaw15_ExtMaps_l0_X0 B0 x2) L) : WXI Try.prog 197 n0 (Fin Try.prog Try.f9.results.toList n0 Q) [.code (ct [1, 0, 1, 0, 0] (bodyOf Try.f9)), .lp (ct [1, 0, 1, 0, 0] (bodyOf Try.f9)), .blk 0, .code (ct [1, 1] (bodyOf Try.f9))] (gabionlaw15_ExtMaps_l0_I B0 x1 x2 x30 x32) L :=
  iter_ok (I := fun s => gabionlaw15_ExtMaps_l0_I B0 x1 x2 x30 s) (D := fun e => (∀ r, e = (.inl r) → ∀ v st, gabionlaw15_ExtMaps_P B0 L r v st → Q v st) ∧ (∀ s, e = (.inr s) → WXI Try.prog 197 n0 (Fin Try.prog Try.f9.results.toList n0 Q) [.code (ct [1, 1] (bodyOf Try.f9))] (gabionlaw15_ExtMaps_l0_X0 B0 x2) L)) (fun E hn hx s o ho hE => gabionlaw15_ExtMaps_l0_s ho hn (fun s hs => (hx _ hs).2 _ rfl) (fun r hs => (hx _ hs).1 _ rfl) hE) h ⟨g0, g1⟩
theorem gabionlaw15_ExtMaps_ok {B0 : Kn} {L : Own} {a0 : List (Int × Int)} {a1 : Int} {a2 : List UInt8} {v0_0 : AV} {r : Bool} (g0_0 : RSl EPIi64Ii64Q B0 v0_0 a0) (h : gabionlaw15_ExtMaps a0 a1 a2 = some r) : ∀ st, Hp B0 L st → ASpec Try.prog 9 [v0_0, .int .i64 a1, .str a2] st (gabionlaw15_ExtMaps_P B0 L r) := by
  unfold gabionlaw15_ExtMaps at h
  refine bodyA (A := []) Try.func9 rfl (c := bodyOf Try.f9) rfl Try.ntmps9 (lb rfl) fun n0 => ?_
  have hB := KLe.refl B0
  obtain ⟨_, _, _, _, _, rfl⟩ := g0_0.isl
  refine WX.seq ?_
  refine WX.reg ?_
  refine WO.q (.as (v := .bool _) rfl) rfl rfl ?_
  refine WO.nil ?_
  refine WX.seq ?_
  refine WX.seq ?_
  refine WX.reg ?_
  refine WO.q (.mv (v := .sl _ _ _ _ _ _) rfl) rfl rfl ?_
  refine WO.q (.mv (v := .sl _ _ _ _ _ _) rfl) rfl rfl ?_
  obtain ⟨y1, hy1, h⟩ := Option.bind_eq_some_iff.1 h
  refine WO.c1 rfl rfl (gabionlaw15_tame_ok g0_0 hy1) rfl rfl rfl ?_
  rintro _ B _ hK ⟨v2, b3, n4, c5, rfl, rfl, h6⟩
  obtain ⟨_, _, _, _, _, rfl⟩ := h6.isl
  replace g0_0 := g0_0.up hK
  replace hB := hB.trans hK
  refine WO.fz (j := 0) h6 rfl ?_
  intro B hK g7
  replace g0_0 := g0_0.up hK
  replace hB := hB.trans hK
  refine WO.md (MOp.bs (l := ([a0, y1] : List (List (Int × Int)))) sl43 (RL.cons (Rl g0_0) (RL.cons (Rl g7) RL.nil)) (lb rfl) rfl rfl) rfl rfl ?_
  rintro v10 _ ⟨b8, o9, rfl⟩
  obtain ⟨_, _, _, _, _, rfl⟩ := o9.isl
  refine WO.q (.len rfl rfl rfl (sl43.len o9.isl)) rfl rfl ?_
  refine WO.q (.mv (v := .int _ _) rfl) rfl rfl ?_
  refine WO.nil ?_
  refine WX.block ?_
  refine WX.loop ?_
  obtain ⟨e169, he169, h⟩ := Option.bind_eq_some_iff.1 h
  refine WX.fz (j := 0) o9 rfl ?_
  intro B hK g12
  replace hB := hB.trans hK
  refine WX.keep [1, 2, 30, 31, 32] (WX.pk [] (by decide) ?_) rfl
  refine gabionlaw15_ExtMaps_l0_ok he169 ?_ ?_ _ _ _ ⟨hB, _, g12, rfl, rfl⟩
  · intro r171 he_
    subst he_
    replace h := (on_l h)
    obtain rfl := Option.some.inj h
    exact fun v st hp => hp
  · intro x172 he_
    subst he_
    replace h := (on_r h)
    rintro _ B _ ⟨hB, rfl, rfl⟩
    refine WX.seq ?_
    refine WX.reg ?_
    refine WO.q (.mv (v := .str _) rfl) rfl rfl ?_
    refine WO.q (.mv (v := .str _) rfl) rfl rfl ?_
    refine WO.q (.len rfl rfl rfl (evslen ti9 rfl _)) rfl rfl ?_
    refine WO.q (.r fun _ => rfl) rfl rfl ?_
    obtain ⟨y173, hy173, h⟩ := Option.bind_eq_some_iff.1 h
    refine WO.q (.sl (evscut ti9 rfl hy173 bnd_none (bnd_int (Int.le_trans (cutL_some hy173).1.1 (cutL_some hy173).1.2.1)))) rfl rfl ?_
    refine WO.q (.as (v := .str _) rfl) rfl rfl ?_
    refine WO.nil ?_
    refine WX.seq ?_
    refine WX.reg ?_
    refine WO.q (.mv (v := .str _) rfl) rfl rfl ?_
    obtain ⟨y174, hy174, h⟩ := Option.bind_eq_some_iff.1 h
    refine WO.c1 rfl rfl (ext_Parse_ok hy174) rfl rfl rfl ?_
    rintro _ B _ hK ⟨v175, b176, n177, c178, rfl, rfl, h179⟩
    obtain ⟨_, _, _, _, _, rfl⟩ := h179.isl
    replace hB := hB.trans hK
    refine WO.q (.mv (v := .tup _) rfl) rfl rfl ?_
    refine WO.q (.r fun _ => rfl) rfl rfl ?_
    refine WO.q (.r fun _ => rfl) rfl rfl ?_
    refine WO.q (.as (v := .sl _ _ _ _ _ _) rfl) rfl rfl ?_
    refine WO.q (.as (v := .int _ _) rfl) rfl rfl ?_
    refine WO.nil ?_
    refine WX.seq ?_
    refine WX.reg ?_
    obtain ⟨y180, hy180, h⟩ := Option.bind_eq_some_iff.1 h
    refine WO.cS rfl rfl (gabionlaw15_wakes_ok hy180) rfl rfl rfl ?_
    rintro _ rfl
    refine WO.q (.mv (v := .bool _) rfl) rfl rfl ?_
    rcases bsp y180 with k181 | k181
    · replace h := (if_pos k181).symm.trans h
      refine WO.q (.mv (v := .int _ _) rfl) (wg rfl rfl (gt k181)) rfl ?_
      refine WO.q (.r fun _ => rfl) (wg rfl rfl (gt k181)) rfl ?_
      refine WO.q (.mv (v := .bool _) rfl) (wg rfl rfl (gt k181)) rfl ?_
      rcases bsp (decide (y174.2 = 0)) with k182 | k182
      · have q_k182 := of_decide_eq_true k182
        replace h := (if_pos q_k182).symm.trans h
        refine WO.q (.mv (v := .sl _ _ _ _ _ _) rfl) (wg rfl rfl (gt k182)) rfl ?_
        obtain ⟨y183, hy183, h⟩ := Option.bind_eq_some_iff.1 h
        refine WO.cS rfl rfl (lendC (j := 0) h179 rfl fun _ K185 g184 => ext_List_Text_ok g184 hy183) rfl (wg rfl rfl (gt k182)) rfl ?_
        rintro _ rfl
        refine WO.q (.mv (v := .str _) rfl) (wg rfl rfl (gt k182)) rfl ?_
        refine WO.q (.r fun _ => rfl) (wg rfl rfl (gt k182)) rfl ?_
        refine WO.q (.ptv (v := .bool _) rfl k182 rfl) (wg rfl rfl (gt k181)) rfl ?_
        refine WO.q (.mv (v := .bool _) rfl) (wg rfl rfl (gt k181)) rfl ?_
        rcases bsp (decide (y183 = y173)) with k186 | k186
        · have q_k186 := of_decide_eq_true k186
          replace h := (if_pos q_k186).symm.trans h
          refine WO.q (.mv (v := .sl _ _ _ _ _ _) rfl) (wg rfl rfl (gt k186)) rfl ?_
          obtain ⟨y187, hy187, h⟩ := Option.bind_eq_some_iff.1 h
          refine WO.cS rfl rfl (lendC (j := 0) h179 rfl fun _ K189 g188 => ext_List_Right_ok g188 hy187) rfl (wg rfl rfl (gt k186)) rfl ?_
          rintro _ rfl
          refine WO.q (.ptv (v := .bool _) rfl k186 rfl) (wg rfl rfl (gt k181)) rfl ?_
          refine WO.q (.mv (v := .bool _) rfl) (wg rfl rfl (gt k181)) rfl ?_
          rcases bsp y187 with k190 | k190
          · replace h := (if_pos k190).symm.trans h
            refine WO.sd (wg rfl rfl (gfn k190)) rfl ?_
            refine WO.sd (wg rfl rfl (gfn k190)) rfl ?_
            refine WO.sd (wg rfl rfl (gfn k190)) rfl ?_
            refine WO.sd (wgu rfl rfl) rfl ?_
            refine WO.sd (wgu rfl rfl) rfl ?_
            refine WO.sd (wgu rfl rfl) rfl ?_
            refine WO.sd (wg rfl rfl (gfn k190)) rfl ?_
            refine WO.q (.ptv (v := .bool _) rfl k190 rfl) (wg rfl rfl (gt k181)) rfl ?_
            refine WO.q (.ptv (v := .bool _) rfl k181 rfl) rfl rfl ?_
            refine WO.q (.as (v := .bool _) rfl) rfl rfl ?_
            refine WO.nil ?_
            obtain rfl := Option.some.inj h
            exact WX.ret (rs_ (rs_tmp rfl rs_nil)) fun st hp => ⟨(hp.pk [] (by decide)).le hB, rfl⟩
          · replace h := (if_neg (bnt k190)).symm.trans h
            refine WO.q (.mv (v := .int _ _) rfl) (wg rfl rfl (gf k190)) rfl ?_
            refine WO.q (.r fun _ => rfl) (wg rfl rfl (gf k190)) rfl ?_
            refine WO.q (.mv (v := .bool _) rfl) (wg rfl rfl (gf k190)) rfl ?_
            rcases bsp (decide (y174.2 = 4)) with k191 | k191
            · have q_k191 := of_decide_eq_true k191
              replace h := (if_pos q_k191).symm.trans h
              refine WO.q (.mv (v := .sl _ _ _ _ _ _) rfl) (wg rfl rfl (gt k191)) rfl ?_
              refine WO.q (.len rfl rfl rfl (sl44.len h179.isl)) (wg rfl rfl (gt k191)) rfl ?_
              refine WO.q (.r fun _ => rfl) (wg rfl rfl (gt k191)) rfl ?_
              refine WO.q (.ptv (v := .bool _) rfl k191 rfl) (wg rfl rfl (gf k190)) rfl ?_
              refine WO.q (.pfv (v := .bool _) rfl k190 rfl) (wg rfl rfl (gt k181)) rfl ?_
              refine WO.q (.ptv (v := .bool _) rfl k181 rfl) rfl rfl ?_
              refine WO.q (.as (v := .bool _) rfl) rfl rfl ?_
              refine WO.nil ?_
              obtain rfl := Option.some.inj h
              exact WX.ret (rs_ (rs_tmp rfl rs_nil)) fun st hp => ⟨(hp.pk [] (by decide)).le hB, rfl⟩
            · have q_k191 := of_decide_eq_false k191
              replace h := (if_neg q_k191).symm.trans h
              refine WO.sd (wg rfl rfl (gtn k191)) rfl ?_
              refine WO.sd (wg rfl rfl (gtn k191)) rfl ?_
              refine WO.sd (wg rfl rfl (gtn k191)) rfl ?_
              refine WO.q (.pfv (v := .bool _) rfl k191 rfl) (wg rfl rfl (gf k190)) rfl ?_
              refine WO.q (.pfv (v := .bool _) rfl k190 rfl) (wg rfl rfl (gt k181)) rfl ?_
              refine WO.q (.ptv (v := .bool _) rfl k181 rfl) rfl rfl ?_
              refine WO.q (.as (v := .bool _) rfl) rfl rfl ?_
              refine WO.nil ?_
              obtain rfl := Option.some.inj h
              exact WX.ret (rs_ (rs_tmp rfl rs_nil)) fun st hp => ⟨(hp.pk [] (by decide)).le hB, rfl⟩
        · have q_k186 := of_decide_eq_false k186
          replace h := (if_neg q_k186).symm.trans h
          refine WO.sd (wg rfl rfl (gtn k186)) rfl ?_
          refine WO.sd (wg rfl rfl (gtn k186)) rfl ?_
          refine WO.q (.pfv (v := .bool _) rfl k186 rfl) (wg rfl rfl (gt k181)) rfl ?_
          refine WO.q (.mv (v := .bool _) rfl) (wg rfl rfl (gt k181)) rfl ?_
          refine WO.q (.mv (v := .int _ _) rfl) (wg rfl rfl (gf rfl)) rfl ?_
          refine WO.q (.r fun _ => rfl) (wg rfl rfl (gf rfl)) rfl ?_
          refine WO.q (.mv (v := .bool _) rfl) (wg rfl rfl (gf rfl)) rfl ?_
          rcases bsp (decide (y174.2 = 4)) with k192 | k192
          · have q_k192 := of_decide_eq_true k192
            replace h := (if_pos q_k192).symm.trans h
            refine WO.q (.mv (v := .sl _ _ _ _ _ _) rfl) (wg rfl rfl (gt k192)) rfl ?_
            refine WO.q (.len rfl rfl rfl (sl44.len h179.isl)) (wg rfl rfl (gt k192)) rfl ?_
            refine WO.q (.r fun _ => rfl) (wg rfl rfl (gt k192)) rfl ?_
            refine WO.q (.ptv (v := .bool _) rfl k192 rfl) (wg rfl rfl (gf rfl)) rfl ?_
            refine WO.q (.pfv (v := .bool _) rfl rfl rfl) (wg rfl rfl (gt k181)) rfl ?_
            refine WO.q (.ptv (v := .bool _) rfl k181 rfl) rfl rfl ?_
            refine WO.q (.as (v := .bool _) rfl) rfl rfl ?_
            refine WO.nil ?_
            obtain rfl := Option.some.inj h
            exact WX.ret (rs_ (rs_tmp rfl rs_nil)) fun st hp => ⟨(hp.pk [] (by decide)).le hB, rfl⟩
          · have q_k192 := of_decide_eq_false k192
            replace h := (if_neg q_k192).symm.trans h
            refine WO.sd (wg rfl rfl (gtn k192)) rfl ?_
            refine WO.sd (wg rfl rfl (gtn k192)) rfl ?_
            refine WO.sd (wg rfl rfl (gtn k192)) rfl ?_
            refine WO.q (.pfv (v := .bool _) rfl k192 rfl) (wg rfl rfl (gf rfl)) rfl ?_
            refine WO.q (.pfv (v := .bool _) rfl rfl rfl) (wg rfl rfl (gt k181)) rfl ?_
            refine WO.q (.ptv (v := .bool _) rfl k181 rfl) rfl rfl ?_
            refine WO.q (.as (v := .bool _) rfl) rfl rfl ?_
            refine WO.nil ?_
            obtain rfl := Option.some.inj h
            exact WX.ret (rs_ (rs_tmp rfl rs_nil)) fun st hp => ⟨(hp.pk [] (by decide)).le hB, rfl⟩
      · have q_k182 := of_decide_eq_false k182
        replace h := (if_neg q_k182).symm.trans h
        refine WO.sd (wg rfl rfl (gtn k182)) rfl ?_
        refine WO.sd (wg rfl rfl (gtn k182)) rfl ?_
        refine WO.sd (wg rfl rfl (gtn k182)) rfl ?_
        refine WO.sd (wg rfl rfl (gtn k182)) rfl ?_
        refine WO.q (.pfv (v := .bool _) rfl k182 rfl) (wg rfl rfl (gt k181)) rfl ?_
        refine WO.q (.mv (v := .bool _) rfl) (wg rfl rfl (gt k181)) rfl ?_
        refine WO.sd (wg rfl rfl (gtn rfl)) rfl ?_
        refine WO.sd (wg rfl rfl (gtn rfl)) rfl ?_
        refine WO.q (.pfv (v := .bool _) rfl rfl rfl) (wg rfl rfl (gt k181)) rfl ?_
        refine WO.q (.mv (v := .bool _) rfl) (wg rfl rfl (gt k181)) rfl ?_
        refine WO.q (.mv (v := .int _ _) rfl) (wg rfl rfl (gf rfl)) rfl ?_
        refine WO.q (.r fun _ => rfl) (wg rfl rfl (gf rfl)) rfl ?_
        refine WO.q (.mv (v := .bool _) rfl) (wg rfl rfl (gf rfl)) rfl ?_
        rcases bsp (decide (y174.2 = 4)) with k193 | k193
        · have q_k193 := of_decide_eq_true k193
          replace h := (if_pos q_k193).symm.trans h
          refine WO.q (.mv (v := .sl _ _ _ _ _ _) rfl) (wg rfl rfl (gt k193)) rfl ?_
          refine WO.q (.len rfl rfl rfl (sl44.len h179.isl)) (wg rfl rfl (gt k193)) rfl ?_
          refine WO.q (.r fun _ => rfl) (wg rfl rfl (gt k193)) rfl ?_
          refine WO.q (.ptv (v := .bool _) rfl k193 rfl) (wg rfl rfl (gf rfl)) rfl ?_
          refine WO.q (.pfv (v := .bool _) rfl rfl rfl) (wg rfl rfl (gt k181)) rfl ?_
          refine WO.q (.ptv (v := .bool _) rfl k181 rfl) rfl rfl ?_
          refine WO.q (.as (v := .bool _) rfl) rfl rfl ?_
          refine WO.nil ?_
          obtain rfl := Option.some.inj h
          exact WX.ret (rs_ (rs_tmp rfl rs_nil)) fun st hp => ⟨(hp.pk [] (by decide)).le hB, rfl⟩
        · have q_k193 := of_decide_eq_false k193
          replace h := (if_neg q_k193).symm.trans h
          refine WO.sd (wg rfl rfl (gtn k193)) rfl ?_
          refine WO.sd (wg rfl rfl (gtn k193)) rfl ?_
          refine WO.sd (wg rfl rfl (gtn k193)) rfl ?_
          refine WO.q (.pfv (v := .bool _) rfl k193 rfl) (wg rfl rfl (gf rfl)) rfl ?_
          refine WO.q (.pfv (v := .bool _) rfl rfl rfl) (wg rfl rfl (gt k181)) rfl ?_
          refine WO.q (.ptv (v := .bool _) rfl k181 rfl) rfl rfl ?_
          refine WO.q (.as (v := .bool _) rfl) rfl rfl ?_
          refine WO.nil ?_
          obtain rfl := Option.some.inj h
          exact WX.ret (rs_ (rs_tmp rfl rs_nil)) fun st hp => ⟨(hp.pk [] (by decide)).le hB, rfl⟩
    · replace h := (if_neg (bnt k181)).symm.trans h
      refine WO.sd (wg rfl rfl (gtn k181)) rfl ?_
      refine WO.sd (wg rfl rfl (gtn k181)) rfl ?_
      refine WO.sd (wg rfl rfl (gtn k181)) rfl ?_
      refine WO.sd (wgu rfl rfl) rfl ?_
      refine WO.sd (wgu rfl rfl) rfl ?_
      refine WO.sd (wgu rfl rfl) rfl ?_
      refine WO.sd (wgu rfl rfl) rfl ?_
      refine WO.sd (wg rfl rfl (gtn k181)) rfl ?_
      refine WO.sd (wg rfl rfl (gtn k181)) rfl ?_
      refine WO.sd (wgu rfl rfl) rfl ?_
      refine WO.sd (wgu rfl rfl) rfl ?_
      refine WO.sd (wg rfl rfl (gtn k181)) rfl ?_
      refine WO.sd (wg rfl rfl (gtn k181)) rfl ?_
      refine WO.sd (wgu rfl rfl) rfl ?_
      refine WO.sd (wgu rfl rfl) rfl ?_
      refine WO.sd (wgu rfl rfl) rfl ?_
      refine WO.sd (wgu rfl rfl) rfl ?_
      refine WO.sd (wgu rfl rfl) rfl ?_
      refine WO.sd (wgu rfl rfl) rfl ?_
      refine WO.sd (wgu rfl rfl) rfl ?_
      refine WO.sd (wg rfl rfl (gtn k181)) rfl ?_
      refine WO.q (.pfv (v := .bool _) rfl k181 rfl) rfl rfl ?_
      refine WO.q (.as (v := .bool _) rfl) rfl rfl ?_
      refine WO.nil ?_
      obtain rfl := Option.some.inj h
      exact WX.ret (rs_ (rs_tmp rfl rs_nil)) fun st hp => ⟨(hp.pk [] (by decide)).le hB, rfl⟩
end Gab
