/- The Go code comes to what the Lean functions say. Written by a program (gp.py). -/
import Derived.Test.YtdkldojcpncnhaaFd
import Derived.Test.YtdkldojcpncnhaaTy
import Derived.Test.YtdkldojcpncnhaaFpExt0
import Derived.Test.YtdkldojcpncnhaaFpExt1
import Derived.Test.YtdkldojcpncnhaaFpExt3
import Derived.Test.YtdkldojcpncnhaaFpExt4
import Derived.Test.YtdkldojcpncnhaaFpLaw150
import Derived.Test.YtdkldojcpncnhaaFpLaw151
import Derived.Test.YtdkldojcpncnhaaFpRef150
import Derived.Test.YtdkldojcpncnhaaFpRef151
import Derived.Test.YtdkldojcpncnhaaFpRef152
set_option linter.unusedSimpArgs false
set_option linter.unusedVariables false
set_option maxHeartbeats 4000000
set_option maxRecDepth 100000
namespace Gab
open Go Go.Proofs
def gabionlaw15_ExtGrows_P (B : Kn) (L : Own) (r : Bool) : AV → St → Prop := CS B L fun v => v = .bool r
def gabionlaw15_ExtGrows_j7_I (B0 : Kn) (x2 : Int) (x31 : List (List (Int × Int))) (x33 : Int) (zb4 : Int × Int) : Fr → Kn → Own → Prop := fun fr B A => KLe B0 B ∧ ∃ b37 v38, RSl ELPIi64Ii64Q B v38 x31 ∧ fr = [(2, .int .i64 x2), (4, .ptr b37 0), (31, v38), (32, .int .i64 (x31.length : Int)), (33, .int .i64 x33)] ∧ A = [(b37, some [.int .i64 zb4.1, .int .i64 zb4.2])]
def gabionlaw15_ExtGrows_j14_I (B0 : Kn) (x2 : Int) (x9 : List (Int × Int)) (x10 : List (Int × Int)) (x31 : List (List (Int × Int))) (x33 : Int) (x60 : List (Int × Int)) (x62 : Int) (zb4 : Int × Int) : Fr → Kn → Own → Prop := fun fr B A => KLe B0 B ∧ ∃ b60 v61 v62 v63 v64 b64 n64 c64, RSl EPIi64Ii64Q B v61 x9 ∧ RSl EPIi64Ii64Q B v62 x10 ∧ RSl ELPIi64Ii64Q B v63 x31 ∧ OSl EPIi64Ii64Q B v64 b64 n64 c64 x60 ∧ fr = [(2, .int .i64 x2), (4, .ptr b60 0), (9, v61), (10, v62), (31, v63), (32, .int .i64 (x31.length : Int)), (33, .int .i64 x33), (60, v64), (61, .int .i64 (x60.length : Int)), (62, .int .i64 x62)] ∧ A = [(b60, some [.int .i64 zb4.1, .int .i64 zb4.2]), oe b64 n64 c64]
def gabionlaw15_ExtGrows_j27_I (B0 : Kn) (x2 : Int) (x9 : List (Int × Int)) (x10 : List (Int × Int)) (x31 : List (List (Int × Int))) (x33 : Int) (x60 : List (Int × Int)) (x62 : Int) (x107 : List Int) (x109 : Int) (x138 : Bool) (zb4 : Int × Int) (zb12 : Int × Int) (zb13 : Int × Int) : Fr → Kn → Own → Prop := fun fr B A => KLe B0 B ∧ ∃ b108 b109 b110 v111 v112 v113 v114 b114 n114 c114 v115 b115 n115 c115, RSl EPIi64Ii64Q B v111 x9 ∧ RSl EPIi64Ii64Q B v112 x10 ∧ RSl ELPIi64Ii64Q B v113 x31 ∧ OSl EPIi64Ii64Q B v114 b114 n114 c114 x60 ∧ OSl (Ty.int .i64) B v115 b115 n115 c115 x107 ∧ fr = [(2, .int .i64 x2), (4, .ptr b108 0), (9, v111), (10, v112), (12, .ptr b109 0), (13, .ptr b110 0), (31, v113), (32, .int .i64 (x31.length : Int)), (33, .int .i64 x33), (60, v114), (61, .int .i64 (x60.length : Int)), (62, .int .i64 x62), (107, v115), (108, .int .i64 (x107.length : Int)), (109, .int .i64 x109), (138, .bool x138)] ∧ A = [(b108, some [.int .i64 zb4.1, .int .i64 zb4.2]), (b109, some [.int .i64 zb12.1, .int .i64 zb12.2]), (b110, some [.int .i64 zb13.1, .int .i64 zb13.2]), oe b114 n114 c114, oe b115 n115 c115]
def gabionlaw15_ExtGrows_l2_I (B0 : Kn) (x2 : Int) (x9 : List (Int × Int)) (x10 : List (Int × Int)) (x31 : List (List (Int × Int))) (x60 : List (Int × Int)) (x107 : List Int) (zb4 : Int × Int) (zb12 : Int × Int) (zb13 : Int × Int) (x33 : Int) (x62 : Int) (x109 : Int) : Fr → Kn → Own → Prop := fun fr B A => KLe B0 B ∧ ∃ b88 b89 b90 v91 v92 v93 v94 b94 n94 c94 v95 b95 n95 c95, RSl EPIi64Ii64Q B v91 x9 ∧ RSl EPIi64Ii64Q B v92 x10 ∧ RSl ELPIi64Ii64Q B v93 x31 ∧ OSl EPIi64Ii64Q B v94 b94 n94 c94 x60 ∧ OSl (Ty.int .i64) B v95 b95 n95 c95 x107 ∧ fr = [(2, .int .i64 x2), (4, .ptr b88 0), (9, v91), (10, v92), (12, .ptr b89 0), (13, .ptr b90 0), (31, v93), (32, .int .i64 (x31.length : Int)), (33, .int .i64 x33), (60, v94), (61, .int .i64 (x60.length : Int)), (62, .int .i64 x62), (107, v95), (108, .int .i64 (x107.length : Int)), (109, .int .i64 x109)] ∧ A = [(b88, some [.int .i64 zb4.1, .int .i64 zb4.2]), (b89, some [.int .i64 zb12.1, .int .i64 zb12.2]), (b90, some [.int .i64 zb13.1, .int .i64 zb13.2]), oe b94 n94 c94, oe b95 n95 c95]
def gabionlaw15_ExtGrows_l2_X0 (B0 : Kn) (x2 : Int) (x9 : List (Int × Int)) (x10 : List (Int × Int)) (x31 : List (List (Int × Int))) (x33 : Int) (x60 : List (Int × Int)) (x62 : Int) (zb4 : Int × Int) : Fr → Kn → Own → Prop := fun fr B A => KLe B0 B ∧ ∃ b214 v215 v216 v217 v218 b218 n218 c218, RSl EPIi64Ii64Q B v215 x9 ∧ RSl EPIi64Ii64Q B v216 x10 ∧ RSl ELPIi64Ii64Q B v217 x31 ∧ OSl EPIi64Ii64Q B v218 b218 n218 c218 x60 ∧ fr = [(2, .int .i64 x2), (4, .ptr b214 0), (9, v215), (10, v216), (31, v217), (32, .int .i64 (x31.length : Int)), (33, .int .i64 x33), (60, v218), (61, .int .i64 (x60.length : Int)), (62, .int .i64 x62)] ∧ A = [(b214, some [.int .i64 zb4.1, .int .i64 zb4.2]), oe b218 n218 c218]
def gabionlaw15_ExtGrows_j19_I (B0 : Kn) (x2 : Int) (x9 : List (Int × Int)) (x10 : List (Int × Int)) (x31 : List (List (Int × Int))) (x33 : Int) (x60 : List (Int × Int)) (x62 : Int) (x102 : Bool) (zb4 : Int × Int) (zb12 : Int × Int) (zb13 : Int × Int) : Fr → Kn → Own → Prop := fun fr B A => KLe B0 B ∧ ∃ b76 b77 b78 v79 v80 v81 v82 b82 n82 c82, RSl EPIi64Ii64Q B v79 x9 ∧ RSl EPIi64Ii64Q B v80 x10 ∧ RSl ELPIi64Ii64Q B v81 x31 ∧ OSl EPIi64Ii64Q B v82 b82 n82 c82 x60 ∧ fr = [(2, .int .i64 x2), (4, .ptr b76 0), (9, v79), (10, v80), (12, .ptr b77 0), (13, .ptr b78 0), (31, v81), (32, .int .i64 (x31.length : Int)), (33, .int .i64 x33), (60, v82), (61, .int .i64 (x60.length : Int)), (62, .int .i64 x62), (102, .bool x102)] ∧ A = [(b76, some [.int .i64 zb4.1, .int .i64 zb4.2]), (b77, some [.int .i64 zb12.1, .int .i64 zb12.2]), (b78, some [.int .i64 zb13.1, .int .i64 zb13.2]), oe b82 n82 c82]
def gabionlaw15_ExtGrows_j13_I (B0 : Kn) (x2 : Int) (x9 : List (Int × Int)) (x10 : List (Int × Int)) (x31 : List (List (Int × Int))) (x33 : Int) (x60 : List (Int × Int)) (x62 : Int) (x73 : Bool) (zb4 : Int × Int) (zb12 : Int × Int) : Fr → Kn → Own → Prop := fun fr B A => KLe B0 B ∧ ∃ b53 b54 v55 v56 v57 v58 b58 n58 c58, RSl EPIi64Ii64Q B v55 x9 ∧ RSl EPIi64Ii64Q B v56 x10 ∧ RSl ELPIi64Ii64Q B v57 x31 ∧ OSl EPIi64Ii64Q B v58 b58 n58 c58 x60 ∧ fr = [(2, .int .i64 x2), (4, .ptr b53 0), (9, v55), (10, v56), (12, .ptr b54 0), (31, v57), (32, .int .i64 (x31.length : Int)), (33, .int .i64 x33), (60, v58), (61, .int .i64 (x60.length : Int)), (62, .int .i64 x62), (73, .bool x73)] ∧ A = [(b53, some [.int .i64 zb4.1, .int .i64 zb4.2]), (b54, some [.int .i64 zb12.1, .int .i64 zb12.2]), oe b58 n58 c58]
def gabionlaw15_ExtGrows_l1_I (B0 : Kn) (x2 : Int) (x9 : List (Int × Int)) (x10 : List (Int × Int)) (x31 : List (List (Int × Int))) (x60 : List (Int × Int)) (zb4 : Int × Int) (x33 : Int) (x62 : Int) : Fr → Kn → Own → Prop := fun fr B A => KLe B0 B ∧ ∃ b44 v45 v46 v47 v48 b48 n48 c48, RSl EPIi64Ii64Q B v45 x9 ∧ RSl EPIi64Ii64Q B v46 x10 ∧ RSl ELPIi64Ii64Q B v47 x31 ∧ OSl EPIi64Ii64Q B v48 b48 n48 c48 x60 ∧ fr = [(2, .int .i64 x2), (4, .ptr b44 0), (9, v45), (10, v46), (31, v47), (32, .int .i64 (x31.length : Int)), (33, .int .i64 x33), (60, v48), (61, .int .i64 (x60.length : Int)), (62, .int .i64 x62)] ∧ A = [(b44, some [.int .i64 zb4.1, .int .i64 zb4.2]), oe b48 n48 c48]
def gabionlaw15_ExtGrows_l1_X0 (B0 : Kn) (x2 : Int) (x9 : List (Int × Int)) (x10 : List (Int × Int)) (x31 : List (List (Int × Int))) (x33 : Int) (zb4 : Int × Int) : Fr → Kn → Own → Prop := fun fr B A => KLe B0 B ∧ ∃ b219 v220 v221 v222, RSl EPIi64Ii64Q B v220 x9 ∧ RSl EPIi64Ii64Q B v221 x10 ∧ RSl ELPIi64Ii64Q B v222 x31 ∧ fr = [(2, .int .i64 x2), (4, .ptr b219 0), (9, v220), (10, v221), (31, v222), (32, .int .i64 (x31.length : Int)), (33, .int .i64 x33)] ∧ A = [(b219, some [.int .i64 zb4.1, .int .i64 zb4.2])]
def gabionlaw15_ExtGrows_j36_I (B0 : Kn) (x2 : Int) (x9 : List (Int × Int)) (x10 : List (Int × Int)) (x31 : List (List (Int × Int))) (x33 : Int) (x145 : List Int) (x147 : Int) (x179 : Bool) (zb4 : Int × Int) : Fr → Kn → Own → Prop := fun fr B A => KLe B0 B ∧ ∃ b180 v181 v182 v183 v184 b184 n184 c184, RSl EPIi64Ii64Q B v181 x9 ∧ RSl EPIi64Ii64Q B v182 x10 ∧ RSl ELPIi64Ii64Q B v183 x31 ∧ OSl (Ty.int .i64) B v184 b184 n184 c184 x145 ∧ fr = [(2, .int .i64 x2), (4, .ptr b180 0), (9, v181), (10, v182), (31, v183), (32, .int .i64 (x31.length : Int)), (33, .int .i64 x33), (145, v184), (146, .int .i64 (x145.length : Int)), (147, .int .i64 x147), (179, .bool x179)] ∧ A = [(b180, some [.int .i64 zb4.1, .int .i64 zb4.2]), oe b184 n184 c184]
def gabionlaw15_ExtGrows_l3_I (B0 : Kn) (x2 : Int) (x9 : List (Int × Int)) (x10 : List (Int × Int)) (x31 : List (List (Int × Int))) (x145 : List Int) (zb4 : Int × Int) (x33 : Int) (x147 : Int) : Fr → Kn → Own → Prop := fun fr B A => KLe B0 B ∧ ∃ b153 v154 v155 v156 v157 b157 n157 c157, RSl EPIi64Ii64Q B v154 x9 ∧ RSl EPIi64Ii64Q B v155 x10 ∧ RSl ELPIi64Ii64Q B v156 x31 ∧ OSl (Ty.int .i64) B v157 b157 n157 c157 x145 ∧ fr = [(2, .int .i64 x2), (4, .ptr b153 0), (9, v154), (10, v155), (31, v156), (32, .int .i64 (x31.length : Int)), (33, .int .i64 x33), (145, v157), (146, .int .i64 (x145.length : Int)), (147, .int .i64 x147)] ∧ A = [(b153, some [.int .i64 zb4.1, .int .i64 zb4.2]), oe b157 n157 c157]
def gabionlaw15_ExtGrows_l3_X0 (B0 : Kn) (x2 : Int) (x9 : List (Int × Int)) (x10 : List (Int × Int)) (x31 : List (List (Int × Int))) (x33 : Int) (zb4 : Int × Int) : Fr → Kn → Own → Prop := fun fr B A => KLe B0 B ∧ ∃ b223 v224 v225 v226, RSl EPIi64Ii64Q B v224 x9 ∧ RSl EPIi64Ii64Q B v225 x10 ∧ RSl ELPIi64Ii64Q B v226 x31 ∧ fr = [(2, .int .i64 x2), (4, .ptr b223 0), (9, v224), (10, v225), (31, v226), (32, .int .i64 (x31.length : Int)), (33, .int .i64 x33)] ∧ A = [(b223, some [.int .i64 zb4.1, .int .i64 zb4.2])]
def gabionlaw15_ExtGrows_j6_I (B0 : Kn) (x2 : Int) (x9 : List (Int × Int)) (x10 : List (Int × Int)) (x31 : List (List (Int × Int))) (x33 : Int) (x48 : Bool) (zb4 : Int × Int) : Fr → Kn → Own → Prop := fun fr B A => KLe B0 B ∧ ∃ b32 v33 b33 n33 c33 v34 v35, OSl EPIi64Ii64Q B v33 b33 n33 c33 x9 ∧ RSl EPIi64Ii64Q B v34 x10 ∧ RSl ELPIi64Ii64Q B v35 x31 ∧ fr = [(2, .int .i64 x2), (4, .ptr b32 0), (9, v33), (10, v34), (31, v35), (32, .int .i64 (x31.length : Int)), (33, .int .i64 x33), (48, .bool x48)] ∧ A = [(b32, some [.int .i64 zb4.1, .int .i64 zb4.2]), oe b33 n33 c33]
def gabionlaw15_ExtGrows_l0_I (B0 : Kn) (x2 : Int) (x31 : List (List (Int × Int))) (zb4 : Int × Int) (x33 : Int) : Fr → Kn → Own → Prop := fun fr B A => KLe B0 B ∧ ∃ b14 v15, RSl ELPIi64Ii64Q B v15 x31 ∧ fr = [(2, .int .i64 x2), (4, .ptr b14 0), (31, v15), (32, .int .i64 (x31.length : Int)), (33, .int .i64 x33)] ∧ A = [(b14, some [.int .i64 zb4.1, .int .i64 zb4.2])]
def gabionlaw15_ExtGrows_l0_X0 (B0 : Kn) : Fr → Kn → Own → Prop := fun fr B A => KLe B0 B ∧ fr = [] ∧ A = []
theorem gabionlaw15_ExtGrows_j7_ok {B0 : Kn} {L : Own} {n0 : Nat} {x2 : Int} {x31 : List (List (Int × Int))} {x33 : Int} {zb4 : Int × Int} {Q : AV → St → Prop} {E : Int ⊕ (Bool ⊕ Unit) → Prop} {o : Int ⊕ (Bool ⊕ Unit)} (h : gabionlaw15_ExtGrows_j7 x2 x31 x33 zb4 = some o) (hn : ∀ s, E (.inl s) → WXI Try.prog 187 n0 (Fin Try.prog Try.f5.results.toList n0 Q) [.lp (ct [1, 0, 1, 0, 0] (bodyOf Try.f5)), .blk 0, .code (ct [1, 1] (bodyOf Try.f5))] (gabionlaw15_ExtGrows_l0_I B0 x2 x31 zb4 s) L) (hx0 : ∀ s, E (.inr (.inr s)) → WXI Try.prog 187 n0 (Fin Try.prog Try.f5.results.toList n0 Q) [.code (ct [1, 1] (bodyOf Try.f5))] (gabionlaw15_ExtGrows_l0_X0 B0) L) (hr : ∀ r, E (.inr (.inl r)) → ∀ v st, gabionlaw15_ExtGrows_P B0 L r v st → Q v st) (hE : E o) : WXI Try.prog 187 n0 (Fin Try.prog Try.f5.results.toList n0 Q) [.code (ct [1, 0, 1, 0, 0, 1, 1, 1] (bodyOf Try.f5)), .lp (ct [1, 0, 1, 0, 0] (bodyOf Try.f5)), .blk 0, .code (ct [1, 1] (bodyOf Try.f5))] (gabionlaw15_ExtGrows_j7_I B0 x2 x31 x33 zb4) L := by
  unfold gabionlaw15_ExtGrows_j7 at h
  rintro _ B _ ⟨hB, b37, v38, h38, rfl, rfl⟩
  obtain ⟨_, _, _, _, _, rfl⟩ := h38.isl
  refine WX.reg ?_
  refine WO.q (.r fun _ => rfl) rfl rfl ?_
  refine WO.q (.mv (v := .int _ _) rfl) rfl rfl ?_
  refine WO.nil ?_
  refine WX.keepL [2, 4, 31, 32, 33] (WX.pk [0] (by decide) ?_) rfl
  obtain rfl := Option.some.inj h
  exact hn _ hE _ _ _ ⟨hB, _, _, h38, rfl, rfl⟩
theorem gabionlaw15_ExtGrows_j14_ok {B0 : Kn} {L : Own} {n0 : Nat} {x2 : Int} {x9 : List (Int × Int)} {x10 : List (Int × Int)} {x31 : List (List (Int × Int))} {x33 : Int} {x60 : List (Int × Int)} {x62 : Int} {zb4 : Int × Int} {Q : AV → St → Prop} {E : (Int × Int) ⊕ (Bool ⊕ Int) → Prop} {o : (Int × Int) ⊕ (Bool ⊕ Int)} (h : gabionlaw15_ExtGrows_j14 x2 x9 x10 x31 x33 x60 x62 zb4 = some o) (hn : ∀ s, E (.inl s) → WXI Try.prog 187 n0 (Fin Try.prog Try.f5.results.toList n0 Q) [.lp (ct [1, 0, 1, 0, 0, 1, 1, 0, 0, 1, 1, 1, 0, 1, 0, 0] (bodyOf Try.f5)), .blk 2, .code (ct [1, 0, 1, 0, 0, 1, 1, 0, 0, 1, 1, 1, 1] (bodyOf Try.f5)), .blk 1, .code (ct [1, 0, 1, 0, 0, 1, 1, 1] (bodyOf Try.f5)), .lp (ct [1, 0, 1, 0, 0] (bodyOf Try.f5)), .blk 0, .code (ct [1, 1] (bodyOf Try.f5))] (gabionlaw15_ExtGrows_l1_I B0 x2 x9 x10 x31 x60 zb4 s.1 s.2) L) (hx0 : ∀ s, E (.inr (.inr s)) → WXI Try.prog 187 n0 (Fin Try.prog Try.f5.results.toList n0 Q) [.code (ct [1, 0, 1, 0, 0, 1, 1, 0, 0, 1, 1, 1, 1] (bodyOf Try.f5)), .blk 1, .code (ct [1, 0, 1, 0, 0, 1, 1, 1] (bodyOf Try.f5)), .lp (ct [1, 0, 1, 0, 0] (bodyOf Try.f5)), .blk 0, .code (ct [1, 1] (bodyOf Try.f5))] (gabionlaw15_ExtGrows_l1_X0 B0 x2 x9 x10 x31 s zb4) L) (hr : ∀ r, E (.inr (.inl r)) → ∀ v st, gabionlaw15_ExtGrows_P B0 L r v st → Q v st) (hE : E o) : WXI Try.prog 187 n0 (Fin Try.prog Try.f5.results.toList n0 Q) [.code (ct [1, 0, 1, 0, 0, 1, 1, 0, 0, 1, 1, 1, 0, 1, 0, 0, 1, 1, 1] (bodyOf Try.f5)), .lp (ct [1, 0, 1, 0, 0, 1, 1, 0, 0, 1, 1, 1, 0, 1, 0, 0] (bodyOf Try.f5)), .blk 2, .code (ct [1, 0, 1, 0, 0, 1, 1, 0, 0, 1, 1, 1, 1] (bodyOf Try.f5)), .blk 1, .code (ct [1, 0, 1, 0, 0, 1, 1, 1] (bodyOf Try.f5)), .lp (ct [1, 0, 1, 0, 0] (bodyOf Try.f5)), .blk 0, .code (ct [1, 1] (bodyOf Try.f5))] (gabionlaw15_ExtGrows_j14_I B0 x2 x9 x10 x31 x33 x60 x62 zb4) L := by
  unfold gabionlaw15_ExtGrows_j14 at h
  rintro _ B _ ⟨hB, b60, v61, v62, v63, v64, b64, n64, c64, h61, h62, h63, h64, rfl, rfl⟩
  obtain ⟨_, _, _, _, _, rfl⟩ := h61.isl
  obtain ⟨_, _, _, _, _, rfl⟩ := h62.isl
  obtain ⟨_, _, _, _, _, rfl⟩ := h63.isl
  obtain ⟨_, _, _, _, _, rfl⟩ := h64.isl
  refine WX.reg ?_
  refine WO.q (.r fun _ => rfl) rfl rfl ?_
  refine WO.q (.mv (v := .int _ _) rfl) rfl rfl ?_
  refine WO.nil ?_
  refine WX.keepL [2, 4, 9, 10, 31, 32, 33, 60, 61, 62] (WX.pk [0, 1] (by decide) ?_) rfl
  obtain rfl := Option.some.inj h
  exact hn _ hE _ _ _ ⟨hB, _, _, _, _, _, _, n64, _, h61, h62, h63, h64, rfl, rfl⟩
theorem gabionlaw15_ExtGrows_j27_ok {B0 : Kn} {L : Own} {n0 : Nat} {x2 : Int} {x9 : List (Int × Int)} {x10 : List (Int × Int)} {x31 : List (List (Int × Int))} {x33 : Int} {x60 : List (Int × Int)} {x62 : Int} {x107 : List Int} {x109 : Int} {x138 : Bool} {zb4 : Int × Int} {zb12 : Int × Int} {zb13 : Int × Int} {Q : AV → St → Prop} {E : (Int × Int × Int) ⊕ (Bool ⊕ (Int × Int)) → Prop} {o : (Int × Int × Int) ⊕ (Bool ⊕ (Int × Int))} (h : gabionlaw15_ExtGrows_j27 x2 x9 x10 x31 x33 x60 x62 x107 x109 x138 zb4 zb12 zb13 = some o) (hn : ∀ s, E (.inl s) → WXI Try.prog 187 n0 (Fin Try.prog Try.f5.results.toList n0 Q) [.lp (ct [1, 0, 1, 0, 0, 1, 1, 0, 0, 1, 1, 1, 0, 1, 0, 0, 1, 1, 0, 0, 1, 1, 1, 1, 1, 1, 1, 0, 0] (bodyOf Try.f5)), .blk 4, .blk 3, .code (ct [1, 0, 1, 0, 0, 1, 1, 0, 0, 1, 1, 1, 0, 1, 0, 0, 1, 1, 1] (bodyOf Try.f5)), .lp (ct [1, 0, 1, 0, 0, 1, 1, 0, 0, 1, 1, 1, 0, 1, 0, 0] (bodyOf Try.f5)), .blk 2, .code (ct [1, 0, 1, 0, 0, 1, 1, 0, 0, 1, 1, 1, 1] (bodyOf Try.f5)), .blk 1, .code (ct [1, 0, 1, 0, 0, 1, 1, 1] (bodyOf Try.f5)), .lp (ct [1, 0, 1, 0, 0] (bodyOf Try.f5)), .blk 0, .code (ct [1, 1] (bodyOf Try.f5))] (gabionlaw15_ExtGrows_l2_I B0 x2 x9 x10 x31 x60 x107 zb4 zb12 zb13 s.1 s.2.1 s.2.2) L) (hx0 : ∀ s, E (.inr (.inr s)) → WXI Try.prog 187 n0 (Fin Try.prog Try.f5.results.toList n0 Q) [.code (ct [1, 0, 1, 0, 0, 1, 1, 0, 0, 1, 1, 1, 0, 1, 0, 0, 1, 1, 1] (bodyOf Try.f5)), .lp (ct [1, 0, 1, 0, 0, 1, 1, 0, 0, 1, 1, 1, 0, 1, 0, 0] (bodyOf Try.f5)), .blk 2, .code (ct [1, 0, 1, 0, 0, 1, 1, 0, 0, 1, 1, 1, 1] (bodyOf Try.f5)), .blk 1, .code (ct [1, 0, 1, 0, 0, 1, 1, 1] (bodyOf Try.f5)), .lp (ct [1, 0, 1, 0, 0] (bodyOf Try.f5)), .blk 0, .code (ct [1, 1] (bodyOf Try.f5))] (gabionlaw15_ExtGrows_l2_X0 B0 x2 x9 x10 x31 s.1 x60 s.2 zb4) L) (hr : ∀ r, E (.inr (.inl r)) → ∀ v st, gabionlaw15_ExtGrows_P B0 L r v st → Q v st) (hE : E o) : WXI Try.prog 187 n0 (Fin Try.prog Try.f5.results.toList n0 Q) [.code (ct [1, 0, 1, 0, 0, 1, 1, 0, 0, 1, 1, 1, 0, 1, 0, 0, 1, 1, 0, 0, 1, 1, 1, 1, 1, 1, 1, 0, 0, 1, 1, 0, 0, 1, 1, 1, 1] (bodyOf Try.f5)), .blk 5, .code (ct [1, 0, 1, 0, 0, 1, 1, 0, 0, 1, 1, 1, 0, 1, 0, 0, 1, 1, 0, 0, 1, 1, 1, 1, 1, 1, 1, 0, 0, 1, 1, 1] (bodyOf Try.f5)), .lp (ct [1, 0, 1, 0, 0, 1, 1, 0, 0, 1, 1, 1, 0, 1, 0, 0, 1, 1, 0, 0, 1, 1, 1, 1, 1, 1, 1, 0, 0] (bodyOf Try.f5)), .blk 4, .blk 3, .code (ct [1, 0, 1, 0, 0, 1, 1, 0, 0, 1, 1, 1, 0, 1, 0, 0, 1, 1, 1] (bodyOf Try.f5)), .lp (ct [1, 0, 1, 0, 0, 1, 1, 0, 0, 1, 1, 1, 0, 1, 0, 0] (bodyOf Try.f5)), .blk 2, .code (ct [1, 0, 1, 0, 0, 1, 1, 0, 0, 1, 1, 1, 1] (bodyOf Try.f5)), .blk 1, .code (ct [1, 0, 1, 0, 0, 1, 1, 1] (bodyOf Try.f5)), .lp (ct [1, 0, 1, 0, 0] (bodyOf Try.f5)), .blk 0, .code (ct [1, 1] (bodyOf Try.f5))] (gabionlaw15_ExtGrows_j27_I B0 x2 x9 x10 x31 x33 x60 x62 x107 x109 x138 zb4 zb12 zb13) L := by
  unfold gabionlaw15_ExtGrows_j27 at h
  rintro _ B _ ⟨hB, b108, b109, b110, v111, v112, v113, v114, b114, n114, c114, v115, b115, n115, c115, h111, h112, h113, h114, h115, rfl, rfl⟩
  obtain ⟨_, _, _, _, _, rfl⟩ := h111.isl
  obtain ⟨_, _, _, _, _, rfl⟩ := h112.isl
  obtain ⟨_, _, _, _, _, rfl⟩ := h113.isl
  obtain ⟨_, _, _, _, _, rfl⟩ := h114.isl
  obtain ⟨_, _, _, _, _, rfl⟩ := h115.isl
  rcases bsp x138 with k116 | k116
  · replace h := (if_pos k116).symm.trans h
    refine WX.condT rfl k116 ?_
    refine WX.seq ?_
    refine WX.reg ?_
    refine WO.q (.as (v := .bool _) rfl) rfl rfl ?_
    refine WO.nil ?_
    obtain rfl := Option.some.inj h
    exact WX.ret (rs_ (rs_tmp rfl rs_nil)) fun st hp => hr _ hE _ _ ⟨(hp.pk [] (by decide)).le hB, rfl⟩
  · replace h := (if_neg (bnt k116)).symm.trans h
    refine WX.condF rfl k116 ?_
    refine WX.skip ?_
    refine WX.pop ?_
    refine WX.reg ?_
    refine WO.q (.r fun _ => rfl) rfl rfl ?_
    refine WO.q (.mv (v := .int _ _) rfl) rfl rfl ?_
    refine WO.nil ?_
    refine WX.keepL [2, 4, 9, 10, 12, 13, 31, 32, 33, 60, 61, 62, 107, 108, 109] (WX.pk [0, 1, 2, 3, 4] (by decide) ?_) rfl
    obtain rfl := Option.some.inj h
    exact hn _ hE _ _ _ ⟨hB, _, _, _, _, _, _, _, _, n114, _, _, _, n115, _, h111, h112, h113, h114, h115, rfl, rfl⟩
theorem gabionlaw15_ExtGrows_l2_s {B0 : Kn} {L : Own} {n0 : Nat} {x2 : Int} {x9 : List (Int × Int)} {x10 : List (Int × Int)} {x31 : List (List (Int × Int))} {x60 : List (Int × Int)} {x107 : List Int} {zb4 : Int × Int} {zb12 : Int × Int} {zb13 : Int × Int} {x33 : Int} {x62 : Int} {x109 : Int} {Q : AV → St → Prop} {E : (Int × Int × Int) ⊕ (Bool ⊕ (Int × Int)) → Prop} {o : (Int × Int × Int) ⊕ (Bool ⊕ (Int × Int))} (h : gabionlaw15_ExtGrows_l2 x2 x9 x10 x31 x60 x107 zb4 zb12 zb13 x33 x62 x109 = some o) (hn : ∀ s, E (.inl s) → WXI Try.prog 187 n0 (Fin Try.prog Try.f5.results.toList n0 Q) [.lp (ct [1, 0, 1, 0, 0, 1, 1, 0, 0, 1, 1, 1, 0, 1, 0, 0, 1, 1, 0, 0, 1, 1, 1, 1, 1, 1, 1, 0, 0] (bodyOf Try.f5)), .blk 4, .blk 3, .code (ct [1, 0, 1, 0, 0, 1, 1, 0, 0, 1, 1, 1, 0, 1, 0, 0, 1, 1, 1] (bodyOf Try.f5)), .lp (ct [1, 0, 1, 0, 0, 1, 1, 0, 0, 1, 1, 1, 0, 1, 0, 0] (bodyOf Try.f5)), .blk 2, .code (ct [1, 0, 1, 0, 0, 1, 1, 0, 0, 1, 1, 1, 1] (bodyOf Try.f5)), .blk 1, .code (ct [1, 0, 1, 0, 0, 1, 1, 1] (bodyOf Try.f5)), .lp (ct [1, 0, 1, 0, 0] (bodyOf Try.f5)), .blk 0, .code (ct [1, 1] (bodyOf Try.f5))] (gabionlaw15_ExtGrows_l2_I B0 x2 x9 x10 x31 x60 x107 zb4 zb12 zb13 s.1 s.2.1 s.2.2) L) (hx0 : ∀ s, E (.inr (.inr s)) → WXI Try.prog 187 n0 (Fin Try.prog Try.f5.results.toList n0 Q) [.code (ct [1, 0, 1, 0, 0, 1, 1, 0, 0, 1, 1, 1, 0, 1, 0, 0, 1, 1, 1] (bodyOf Try.f5)), .lp (ct [1, 0, 1, 0, 0, 1, 1, 0, 0, 1, 1, 1, 0, 1, 0, 0] (bodyOf Try.f5)), .blk 2, .code (ct [1, 0, 1, 0, 0, 1, 1, 0, 0, 1, 1, 1, 1] (bodyOf Try.f5)), .blk 1, .code (ct [1, 0, 1, 0, 0, 1, 1, 1] (bodyOf Try.f5)), .lp (ct [1, 0, 1, 0, 0] (bodyOf Try.f5)), .blk 0, .code (ct [1, 1] (bodyOf Try.f5))] (gabionlaw15_ExtGrows_l2_X0 B0 x2 x9 x10 x31 s.1 x60 s.2 zb4) L) (hr : ∀ r, E (.inr (.inl r)) → ∀ v st, gabionlaw15_ExtGrows_P B0 L r v st → Q v st) (hE : E o) : WXI Try.prog 187 n0 (Fin Try.prog Try.f5.results.toList n0 Q) [.code (ct [1, 0, 1, 0, 0, 1, 1, 0, 0, 1, 1, 1, 0, 1, 0, 0, 1, 1, 0, 0, 1, 1, 1, 1, 1, 1, 1, 0, 0] (bodyOf Try.f5)), .lp (ct [1, 0, 1, 0, 0, 1, 1, 0, 0, 1, 1, 1, 0, 1, 0, 0, 1, 1, 0, 0, 1, 1, 1, 1, 1, 1, 1, 0, 0] (bodyOf Try.f5)), .blk 4, .blk 3, .code (ct [1, 0, 1, 0, 0, 1, 1, 0, 0, 1, 1, 1, 0, 1, 0, 0, 1, 1, 1] (bodyOf Try.f5)), .lp (ct [1, 0, 1, 0, 0, 1, 1, 0, 0, 1, 1, 1, 0, 1, 0, 0] (bodyOf Try.f5)), .blk 2, .code (ct [1, 0, 1, 0, 0, 1, 1, 0, 0, 1, 1, 1, 1] (bodyOf Try.f5)), .blk 1, .code (ct [1, 0, 1, 0, 0, 1, 1, 1] (bodyOf Try.f5)), .lp (ct [1, 0, 1, 0, 0] (bodyOf Try.f5)), .blk 0, .code (ct [1, 1] (bodyOf Try.f5))] (gabionlaw15_ExtGrows_l2_I B0 x2 x9 x10 x31 x60 x107 zb4 zb12 zb13 x33 x62 x109) L := by
  unfold gabionlaw15_ExtGrows_l2 at h
  rintro _ B _ ⟨hB, b88, b89, b90, v91, v92, v93, v94, b94, n94, c94, v95, b95, n95, c95, h91, h92, h93, h94, h95, rfl, rfl⟩
  obtain ⟨_, _, _, _, _, rfl⟩ := h91.isl
  obtain ⟨_, _, _, _, _, rfl⟩ := h92.isl
  obtain ⟨_, _, _, _, _, rfl⟩ := h93.isl
  obtain ⟨_, _, _, _, _, rfl⟩ := h94.isl
  obtain ⟨_, _, _, _, _, rfl⟩ := h95.isl
  refine WX.seq ?_
  refine WX.reg ?_
  refine WO.q (.r fun _ => rfl) rfl rfl ?_
  refine WO.nil ?_
  refine WX.seq ?_
  rcases bsp (decide (x109 < (x107.length : Int))) with k96 | k96
  · have q_k96 := of_decide_eq_true k96
    replace h := (if_pos q_k96).symm.trans h
    refine WX.condT rfl k96 ?_
    refine WX.skip ?_
    refine WX.seq ?_
    refine WX.block ?_
    refine WX.seq ?_
    refine WX.reg ?_
    obtain ⟨y97, hy97, h⟩ := Option.bind_eq_some_iff.1 h
    obtain rfl := h95.nonnil hy97
    obtain ⟨_, i_y97, l_y97, r_y97⟩ := h95.at sl22 hy97 .i64
    obtain rfl := r_y97
    refine WO.q (.ia i_y97) rfl rfl ?_
    refine WO.q (.ldS (i := 4) rfl rfl (l_y97.g0 rfl) ti3 rfl) rfl rfl ?_
    refine WO.q (.as (v := .int _ _) rfl) rfl rfl ?_
    refine WO.nil ?_
    refine WX.seq ?_
    refine WX.reg ?_
    refine WO.q (.mv (v := .sl _ _ _ _ _ _) rfl) rfl rfl ?_
    refine WO.q (.mv (v := .int _ _) rfl) rfl rfl ?_
    refine WO.q (.ldA (i := 2) rfl rfl rfl ti35 rfl) rfl rfl ?_
    obtain ⟨y98, hy98, h⟩ := Option.bind_eq_some_iff.1 h
    refine WO.c0 rfl rfl (ext_List_Fill_ok h91 hy98) rfl rfl rfl ?_
    rintro _ B hK ⟨v99, rfl, h100⟩
    obtain ⟨_, _, _, _, _, rfl⟩ := h100.isl
    replace h91 := h91.up hK
    replace h92 := h92.up hK
    replace h93 := h93.up hK
    replace h94 := h94.up hK
    replace h95 := h95.up hK
    replace hB := hB.trans hK
    refine WO.q (.mv (v := .tup _) rfl) rfl rfl ?_
    refine WO.q (.r fun _ => rfl) rfl rfl ?_
    refine WO.q (.r fun _ => rfl) rfl rfl ?_
    refine WO.q (.as (v := .sl _ _ _ _ _ _) rfl) rfl rfl ?_
    refine WO.q (.as (v := .int _ _) rfl) rfl rfl ?_
    refine WO.nil ?_
    refine WX.seq ?_
    refine WX.reg ?_
    refine WO.q (.mv (v := .sl _ _ _ _ _ _) rfl) rfl rfl ?_
    refine WO.q (.mv (v := .int _ _) rfl) rfl rfl ?_
    refine WO.q (.ia (ia41_0 _ _)) rfl rfl ?_
    refine WO.q (.ldS (i := 1) rfl rfl rfl ti3 rfl) rfl rfl ?_
    refine WO.q (.ia (ia41_1 _ _)) rfl rfl ?_
    refine WO.q (.ldS (i := 1) rfl rfl rfl ti3 rfl) rfl rfl ?_
    obtain ⟨y101, hy101, h⟩ := Option.bind_eq_some_iff.1 h
    refine WO.c1 rfl rfl (gabionref15_Fill_ok h92 hy101) rfl rfl rfl ?_
    rintro _ B _ hK ⟨v102, b103, n104, c105, rfl, rfl, h106⟩
    obtain ⟨_, _, _, _, _, rfl⟩ := h106.isl
    replace h91 := h91.up hK
    replace h92 := h92.up hK
    replace h93 := h93.up hK
    replace h100 := h100.up hK
    replace h94 := h94.up hK
    replace h95 := h95.up hK
    replace hB := hB.trans hK
    refine WO.q (.mv (v := .tup _) rfl) rfl rfl ?_
    refine WO.q (.r fun _ => rfl) rfl rfl ?_
    refine WO.q (.r fun _ => rfl) rfl rfl ?_
    refine WO.q (.as (v := .sl _ _ _ _ _ _) rfl) rfl rfl ?_
    refine WO.q (.as (v := .int _ _) rfl) rfl rfl ?_
    refine WO.nil ?_
    refine WX.seq ?_
    refine WX.reg ?_
    refine WO.q (.mv (v := .int _ _) rfl) rfl rfl ?_
    refine WO.q (.mv (v := .int _ _) rfl) rfl rfl ?_
    refine WO.q (.r fun _ => rfl) rfl rfl ?_
    refine WO.q (.mv (v := .bool _) rfl) rfl rfl ?_
    rcases bsp (decide (y98.2 ≠ y101.2)) with k107 | k107
    · have q_k107 := of_decide_eq_true k107
      replace h := (if_pos q_k107).symm.trans h
      refine WO.sd (wg rfl rfl (gfn k107)) rfl ?_
      refine WO.sd (wg rfl rfl (gfn k107)) rfl ?_
      refine WO.sd (wg rfl rfl (gfn k107)) rfl ?_
      refine WO.sd (wg rfl rfl (gfn k107)) rfl ?_
      refine WO.q (.ptv (v := .bool _) rfl k107 rfl) rfl rfl ?_
      refine WO.nil ?_
      refine WX.keep [2, 4, 9, 10, 12, 13, 31, 32, 33, 60, 61, 62, 107, 108, 109, 138] (WX.pk [1, 2, 3, 4, 5] (by decide) ?_) rfl
      exact gabionlaw15_ExtGrows_j27_ok h hn hx0 hr hE _ _ _ ⟨hB, _, _, _, _, _, _, _, _, n94, _, _, _, false, _, h91, h92, h93, h94, h95, rfl, rfl⟩
    · have q_k107 := of_decide_eq_false k107
      replace h := (if_neg q_k107).symm.trans h
      refine WO.q (.mv (v := .sl _ _ _ _ _ _) rfl) (wg rfl rfl (gf k107)) rfl ?_
      refine WO.q (.mv (v := .sl _ _ _ _ _ _) rfl) (wg rfl rfl (gf k107)) rfl ?_
      obtain ⟨y117, hy117, h⟩ := Option.bind_eq_some_iff.1 h
      refine WO.cS rfl rfl (lendC (j := 0) h106 rfl fun _ K119 g118 => gabionlaw15_same_ok (h100.up K119) g118 hy117) rfl (wg rfl rfl (gf k107)) rfl ?_
      rintro _ rfl
      refine WO.q (.r fun _ => rfl) (wg rfl rfl (gf k107)) rfl ?_
      refine WO.q (.pfv (v := .bool _) rfl k107 rfl) rfl rfl ?_
      refine WO.nil ?_
      refine WX.keep [2, 4, 9, 10, 12, 13, 31, 32, 33, 60, 61, 62, 107, 108, 109, 138] (WX.pk [1, 2, 3, 4, 5] (by decide) ?_) rfl
      exact gabionlaw15_ExtGrows_j27_ok h hn hx0 hr hE _ _ _ ⟨hB, _, _, _, _, _, _, _, _, n94, _, _, _, false, _, h91, h92, h93, h94, h95, rfl, rfl⟩
  · have q_k96 := of_decide_eq_false k96
    replace h := (if_neg q_k96).symm.trans h
    refine WX.condF rfl k96 ?_
    refine WX.exit rfl ?_
    refine WX.pop ?_
    refine WX.keep [2, 4, 9, 10, 31, 32, 33, 60, 61, 62] (WX.pk [0, 3] (by decide) ?_) rfl
    obtain rfl := Option.some.inj h
    exact hx0 _ hE _ _ _ ⟨hB, _, _, _, _, _, _, n94, _, h91, h92, h93, h94, rfl, rfl⟩
theorem gabionlaw15_ExtGrows_l2_ok {B0 : Kn} {L : Own} {n0 : Nat} {x2 : Int} {x9 : List (Int × Int)} {x10 : List (Int × Int)} {x31 : List (List (Int × Int))} {x60 : List (Int × Int)} {x107 : List Int} {zb4 : Int × Int} {zb12 : Int × Int} {zb13 : Int × Int} {x33 : Int} {x62 : Int} {x109 : Int} {Q : AV → St → Prop} {d : Nat} {e : Bool ⊕ (Int × Int)} (h : iter (fun (s : Int × Int × Int) => gabionlaw15_ExtGrows_l2 x2 x9 x10 x31 x60 x107 zb4 zb12 zb13 s.1 s.2.1 s.2.2) d (x33, x62, x109) = some e) (g0 : ∀ r, e = (.inl r) → ∀ v st, gabionlaw15_ExtGrows_P B0 L r v st → Q v st) (g1 : ∀ s, e = (.inr s) → WXI Try.prog 187 n0 (Fin Try.prog Try.f5.results.toList n0 Q) [.code (ct [1, 0, 1, 0, 0, 1, 1, 0, 0, 1, 1, 1, 0, 1, 0, 0, 1, 1, 1] (bodyOf Try.f5)), .lp (ct [1, 0, 1, 0, 0, 1, 1, 0, 0, 1, 1, 1, 0, 1, 0, 0] (bodyOf Try.f5)), .blk 2, .code (ct [1, 0, 1, 0, 0, 1, 1, 0, 0, 1, 1, 1, 1] (bodyOf Try.f5)), .blk 1, .code (ct [1, 0, 1, 0, 0, 1, 1, 1] (bodyOf Try.f5)), .lp (ct [1, 0, 1, 0, 0] (bodyOf Try.f5)), .blk 0, .code (ct [1, 1] (bodyOf Try.f5))] (gabionlaw15_ExtGrows_l2_X0 B0 x2 x9 x10 x31 s.1 x60 s.2 zb4) L) : WXI Try.prog 187 n0 (Fin Try.prog Try.f5.results.toList n0 Q) [.code (ct [1, 0, 1, 0, 0, 1, 1, 0, 0, 1, 1, 1, 0, 1, 0, 0, 1, 1, 0, 0, 1, 1, 1, 1, 1, 1, 1, 0, 0] (bodyOf Try.f5)), .lp (ct [1, 0, 1, 0, 0, 1, 1, 0, 0, 1, 1, 1, 0, 1, 0, 0, 1, 1, 0, 0, 1, 1, 1, 1, 1, 1, 1, 0, 0] (bodyOf Try.f5)), .blk 4, .blk 3, .code (ct [1, 0, 1, 0, 0, 1, 1, 0, 0, 1, 1, 1, 0, 1, 0, 0, 1, 1, 1] (bodyOf Try.f5)), .lp (ct [1, 0, 1, 0, 0, 1, 1, 0, 0, 1, 1, 1, 0, 1, 0, 0] (bodyOf Try.f5)), .blk 2, .code (ct [1, 0, 1, 0, 0, 1, 1, 0, 0, 1, 1, 1, 1] (bodyOf Try.f5)), .blk 1, .code (ct [1, 0, 1, 0, 0, 1, 1, 1] (bodyOf Try.f5)), .lp (ct [1, 0, 1, 0, 0] (bodyOf Try.f5)), .blk 0, .code (ct [1, 1] (bodyOf Try.f5))] (gabionlaw15_ExtGrows_l2_I B0 x2 x9 x10 x31 x60 x107 zb4 zb12 zb13 x33 x62 x109) L :=
  iter_ok (I := fun s => gabionlaw15_ExtGrows_l2_I B0 x2 x9 x10 x31 x60 x107 zb4 zb12 zb13 s.1 s.2.1 s.2.2) (D := fun e => (∀ r, e = (.inl r) → ∀ v st, gabionlaw15_ExtGrows_P B0 L r v st → Q v st) ∧ (∀ s, e = (.inr s) → WXI Try.prog 187 n0 (Fin Try.prog Try.f5.results.toList n0 Q) [.code (ct [1, 0, 1, 0, 0, 1, 1, 0, 0, 1, 1, 1, 0, 1, 0, 0, 1, 1, 1] (bodyOf Try.f5)), .lp (ct [1, 0, 1, 0, 0, 1, 1, 0, 0, 1, 1, 1, 0, 1, 0, 0] (bodyOf Try.f5)), .blk 2, .code (ct [1, 0, 1, 0, 0, 1, 1, 0, 0, 1, 1, 1, 1] (bodyOf Try.f5)), .blk 1, .code (ct [1, 0, 1, 0, 0, 1, 1, 1] (bodyOf Try.f5)), .lp (ct [1, 0, 1, 0, 0] (bodyOf Try.f5)), .blk 0, .code (ct [1, 1] (bodyOf Try.f5))] (gabionlaw15_ExtGrows_l2_X0 B0 x2 x9 x10 x31 s.1 x60 s.2 zb4) L)) (fun E hn hx s o ho hE => gabionlaw15_ExtGrows_l2_s ho hn (fun s hs => (hx _ hs).2 _ rfl) (fun r hs => (hx _ hs).1 _ rfl) hE) h ⟨g0, g1⟩
theorem gabionlaw15_ExtGrows_j19_ok {B0 : Kn} {L : Own} {n0 : Nat} {x2 : Int} {x9 : List (Int × Int)} {x10 : List (Int × Int)} {x31 : List (List (Int × Int))} {x33 : Int} {x60 : List (Int × Int)} {x62 : Int} {x102 : Bool} {zb4 : Int × Int} {zb12 : Int × Int} {zb13 : Int × Int} {Q : AV → St → Prop} {E : (Int × Int) ⊕ (Bool ⊕ Int) → Prop} {o : (Int × Int) ⊕ (Bool ⊕ Int)} (h : gabionlaw15_ExtGrows_j19 x2 x9 x10 x31 x33 x60 x62 x102 zb4 zb12 zb13 = some o) (hn : ∀ s, E (.inl s) → WXI Try.prog 187 n0 (Fin Try.prog Try.f5.results.toList n0 Q) [.lp (ct [1, 0, 1, 0, 0, 1, 1, 0, 0, 1, 1, 1, 0, 1, 0, 0] (bodyOf Try.f5)), .blk 2, .code (ct [1, 0, 1, 0, 0, 1, 1, 0, 0, 1, 1, 1, 1] (bodyOf Try.f5)), .blk 1, .code (ct [1, 0, 1, 0, 0, 1, 1, 1] (bodyOf Try.f5)), .lp (ct [1, 0, 1, 0, 0] (bodyOf Try.f5)), .blk 0, .code (ct [1, 1] (bodyOf Try.f5))] (gabionlaw15_ExtGrows_l1_I B0 x2 x9 x10 x31 x60 zb4 s.1 s.2) L) (hx0 : ∀ s, E (.inr (.inr s)) → WXI Try.prog 187 n0 (Fin Try.prog Try.f5.results.toList n0 Q) [.code (ct [1, 0, 1, 0, 0, 1, 1, 0, 0, 1, 1, 1, 1] (bodyOf Try.f5)), .blk 1, .code (ct [1, 0, 1, 0, 0, 1, 1, 1] (bodyOf Try.f5)), .lp (ct [1, 0, 1, 0, 0] (bodyOf Try.f5)), .blk 0, .code (ct [1, 1] (bodyOf Try.f5))] (gabionlaw15_ExtGrows_l1_X0 B0 x2 x9 x10 x31 s zb4) L) (hr : ∀ r, E (.inr (.inl r)) → ∀ v st, gabionlaw15_ExtGrows_P B0 L r v st → Q v st) (hE : E o) : WXI Try.prog 187 n0 (Fin Try.prog Try.f5.results.toList n0 Q) [.code (ct [1, 0, 1, 0, 0, 1, 1, 0, 0, 1, 1, 1, 0, 1, 0, 0, 1, 1, 0, 0, 1, 1, 1, 1, 1, 0, 1] (bodyOf Try.f5)), .code (ct [1, 0, 1, 0, 0, 1, 1, 0, 0, 1, 1, 1, 0, 1, 0, 0, 1, 1, 0, 0, 1, 1, 1, 1, 1, 1] (bodyOf Try.f5)), .blk 3, .code (ct [1, 0, 1, 0, 0, 1, 1, 0, 0, 1, 1, 1, 0, 1, 0, 0, 1, 1, 1] (bodyOf Try.f5)), .lp (ct [1, 0, 1, 0, 0, 1, 1, 0, 0, 1, 1, 1, 0, 1, 0, 0] (bodyOf Try.f5)), .blk 2, .code (ct [1, 0, 1, 0, 0, 1, 1, 0, 0, 1, 1, 1, 1] (bodyOf Try.f5)), .blk 1, .code (ct [1, 0, 1, 0, 0, 1, 1, 1] (bodyOf Try.f5)), .lp (ct [1, 0, 1, 0, 0] (bodyOf Try.f5)), .blk 0, .code (ct [1, 1] (bodyOf Try.f5))] (gabionlaw15_ExtGrows_j19_I B0 x2 x9 x10 x31 x33 x60 x62 x102 zb4 zb12 zb13) L := by
  unfold gabionlaw15_ExtGrows_j19 at h
  rintro _ B _ ⟨hB, b76, b77, b78, v79, v80, v81, v82, b82, n82, c82, h79, h80, h81, h82, rfl, rfl⟩
  obtain ⟨_, _, _, _, _, rfl⟩ := h79.isl
  obtain ⟨_, _, _, _, _, rfl⟩ := h80.isl
  obtain ⟨_, _, _, _, _, rfl⟩ := h81.isl
  obtain ⟨_, _, _, _, _, rfl⟩ := h82.isl
  rcases bsp x102 with k83 | k83
  · replace h := (if_pos k83).symm.trans h
    refine WX.condT rfl k83 ?_
    refine WX.seq ?_
    refine WX.reg ?_
    refine WO.q (.as (v := .bool _) rfl) rfl rfl ?_
    refine WO.nil ?_
    obtain rfl := Option.some.inj h
    exact WX.ret (rs_ (rs_tmp rfl rs_nil)) fun st hp => hr _ hE _ _ ⟨(hp.pk [] (by decide)).le hB, rfl⟩
  · replace h := (if_neg (bnt k83)).symm.trans h
    refine WX.condF rfl k83 ?_
    refine WX.skip ?_
    refine WX.seq ?_
    refine WX.reg ?_
    refine WO.q (.mv (v := .int _ _) rfl) rfl rfl ?_
    refine WO.q (.mv (v := .int _ _) rfl) rfl rfl ?_
    refine WO.q (.r fun _ => rfl) rfl rfl ?_
    refine WO.q (.r fun _ => rfl) rfl rfl ?_
    refine WO.md (MOp.bs (l := ([x2, (Int.tmod (mx 0 x2) 40)] : List Int)) sl22 (RL.cons Ri (RL.cons Ri RL.nil)) (lb rfl) rfl rfl) rfl rfl ?_
    rintro v86 _ ⟨b84, o85, rfl⟩
    obtain ⟨_, _, _, _, _, rfl⟩ := o85.isl
    refine WO.q (.len rfl rfl rfl (sl22.len o85.isl)) rfl rfl ?_
    refine WO.q (.mv (v := .int _ _) rfl) rfl rfl ?_
    refine WO.nil ?_
    refine WX.block ?_
    refine WX.loop ?_
    obtain ⟨e125, he125, h⟩ := Option.bind_eq_some_iff.1 h
    refine WX.keep [2, 4, 9, 10, 12, 13, 31, 32, 33, 60, 61, 62, 107, 108, 109] (WX.pk [1, 2, 3, 4, 0] (by decide) ?_) rfl
    refine gabionlaw15_ExtGrows_l2_ok he125 ?_ ?_ _ _ _ ⟨hB, _, _, _, _, _, _, _, _, n82, _, _, _, false, _, h79, h80, h81, h82, o85, rfl, rfl⟩
    · intro r127 he_
      subst he_
      replace h := (on_l h)
      obtain rfl := Option.some.inj h
      exact hr _ hE
    · intro x128 he_
      subst he_
      replace h := (on_r h)
      rintro _ B _ ⟨hB, b129, v130, v131, v132, v133, b133, n133, c133, h130, h131, h132, h133, rfl, rfl⟩
      obtain ⟨_, _, _, _, _, rfl⟩ := h130.isl
      obtain ⟨_, _, _, _, _, rfl⟩ := h131.isl
      obtain ⟨_, _, _, _, _, rfl⟩ := h132.isl
      obtain ⟨_, _, _, _, _, rfl⟩ := h133.isl
      refine WX.keep [2, 4, 9, 10, 31, 32, 33, 60, 61, 62] (WX.pk [0, 1] (by decide) ?_) rfl
      exact gabionlaw15_ExtGrows_j14_ok h hn hx0 hr hE _ _ _ ⟨hB, _, _, _, _, _, _, n133, _, h130, h131, h132, h133, rfl, rfl⟩
theorem gabionlaw15_ExtGrows_j13_ok {B0 : Kn} {L : Own} {n0 : Nat} {x2 : Int} {x9 : List (Int × Int)} {x10 : List (Int × Int)} {x31 : List (List (Int × Int))} {x33 : Int} {x60 : List (Int × Int)} {x62 : Int} {x73 : Bool} {zb4 : Int × Int} {zb12 : Int × Int} {Q : AV → St → Prop} {E : (Int × Int) ⊕ (Bool ⊕ Int) → Prop} {o : (Int × Int) ⊕ (Bool ⊕ Int)} (h : gabionlaw15_ExtGrows_j13 x2 x9 x10 x31 x33 x60 x62 x73 zb4 zb12 = some o) (hn : ∀ s, E (.inl s) → WXI Try.prog 187 n0 (Fin Try.prog Try.f5.results.toList n0 Q) [.lp (ct [1, 0, 1, 0, 0, 1, 1, 0, 0, 1, 1, 1, 0, 1, 0, 0] (bodyOf Try.f5)), .blk 2, .code (ct [1, 0, 1, 0, 0, 1, 1, 0, 0, 1, 1, 1, 1] (bodyOf Try.f5)), .blk 1, .code (ct [1, 0, 1, 0, 0, 1, 1, 1] (bodyOf Try.f5)), .lp (ct [1, 0, 1, 0, 0] (bodyOf Try.f5)), .blk 0, .code (ct [1, 1] (bodyOf Try.f5))] (gabionlaw15_ExtGrows_l1_I B0 x2 x9 x10 x31 x60 zb4 s.1 s.2) L) (hx0 : ∀ s, E (.inr (.inr s)) → WXI Try.prog 187 n0 (Fin Try.prog Try.f5.results.toList n0 Q) [.code (ct [1, 0, 1, 0, 0, 1, 1, 0, 0, 1, 1, 1, 1] (bodyOf Try.f5)), .blk 1, .code (ct [1, 0, 1, 0, 0, 1, 1, 1] (bodyOf Try.f5)), .lp (ct [1, 0, 1, 0, 0] (bodyOf Try.f5)), .blk 0, .code (ct [1, 1] (bodyOf Try.f5))] (gabionlaw15_ExtGrows_l1_X0 B0 x2 x9 x10 x31 s zb4) L) (hr : ∀ r, E (.inr (.inl r)) → ∀ v st, gabionlaw15_ExtGrows_P B0 L r v st → Q v st) (hE : E o) : WXI Try.prog 187 n0 (Fin Try.prog Try.f5.results.toList n0 Q) [.code (ct [1, 0, 1, 0, 0, 1, 1, 0, 0, 1, 1, 1, 0, 1, 0, 0, 1, 1, 0, 0, 1, 0, 1] (bodyOf Try.f5)), .code (ct [1, 0, 1, 0, 0, 1, 1, 0, 0, 1, 1, 1, 0, 1, 0, 0, 1, 1, 0, 0, 1, 1] (bodyOf Try.f5)), .blk 3, .code (ct [1, 0, 1, 0, 0, 1, 1, 0, 0, 1, 1, 1, 0, 1, 0, 0, 1, 1, 1] (bodyOf Try.f5)), .lp (ct [1, 0, 1, 0, 0, 1, 1, 0, 0, 1, 1, 1, 0, 1, 0, 0] (bodyOf Try.f5)), .blk 2, .code (ct [1, 0, 1, 0, 0, 1, 1, 0, 0, 1, 1, 1, 1] (bodyOf Try.f5)), .blk 1, .code (ct [1, 0, 1, 0, 0, 1, 1, 1] (bodyOf Try.f5)), .lp (ct [1, 0, 1, 0, 0] (bodyOf Try.f5)), .blk 0, .code (ct [1, 1] (bodyOf Try.f5))] (gabionlaw15_ExtGrows_j13_I B0 x2 x9 x10 x31 x33 x60 x62 x73 zb4 zb12) L := by
  unfold gabionlaw15_ExtGrows_j13 at h
  rintro _ B _ ⟨hB, b53, b54, v55, v56, v57, v58, b58, n58, c58, h55, h56, h57, h58, rfl, rfl⟩
  obtain ⟨_, _, _, _, _, rfl⟩ := h55.isl
  obtain ⟨_, _, _, _, _, rfl⟩ := h56.isl
  obtain ⟨_, _, _, _, _, rfl⟩ := h57.isl
  obtain ⟨_, _, _, _, _, rfl⟩ := h58.isl
  rcases bsp x73 with k59 | k59
  · replace h := (if_pos k59).symm.trans h
    refine WX.condT rfl k59 ?_
    refine WX.exit rfl ?_
    refine WX.keep [2, 4, 9, 10, 31, 32, 33, 60, 61, 62] (WX.pk [0, 2] (by decide) ?_) rfl
    exact gabionlaw15_ExtGrows_j14_ok h hn hx0 hr hE _ _ _ ⟨hB, _, _, _, _, _, _, n58, _, h55, h56, h57, h58, rfl, rfl⟩
  · replace h := (if_neg (bnt k59)).symm.trans h
    refine WX.condF rfl k59 ?_
    refine WX.skip ?_
    refine WX.seq ?_
    refine WX.reg ?_
    refine WO.q (.ia (ia41_0 _ _)) rfl rfl ?_
    refine WO.q (.ldS (i := 1) rfl rfl rfl ti3 rfl) rfl rfl ?_
    refine WO.q (.ia (ia41_1 _ _)) rfl rfl ?_
    refine WO.q (.ldS (i := 1) rfl rfl rfl ti3 rfl) rfl rfl ?_
    refine WO.q (.bd (bd35_0_1 (cI rfl) (cI rfl))) rfl rfl ?_
    refine WO.md (MOp.alloc ti35 rfl) rfl rfl ?_
    rintro _ _ ⟨b65, rfl, rfl⟩
    refine WO.mn (MOp.storeW rfl (cA rfl) .h ti35 rfl rfl rfl) rfl ?_
    rintro _ _ rfl
    refine WO.nil ?_
    refine WX.seq ?_
    refine WX.reg ?_
    refine WO.q (.mv (v := .sl _ _ _ _ _ _) rfl) rfl rfl ?_
    refine WO.q (.ldA (i := 0) rfl rfl rfl ti35 rfl) rfl rfl ?_
    obtain ⟨y66, hy66, h⟩ := Option.bind_eq_some_iff.1 h
    refine WO.c0 rfl rfl (ext_List_Append_ok h55 hy66) rfl rfl rfl ?_
    rintro _ B hK ⟨v67, rfl, h68⟩
    obtain ⟨_, _, _, _, _, rfl⟩ := h68.isl
    replace h55 := h55.up hK
    replace h56 := h56.up hK
    replace h57 := h57.up hK
    replace h58 := h58.up hK
    replace hB := hB.trans hK
    refine WO.q (.mv (v := .tup _) rfl) rfl rfl ?_
    refine WO.q (.r fun _ => rfl) rfl rfl ?_
    refine WO.q (.r fun _ => rfl) rfl rfl ?_
    refine WO.q (.as (v := .sl _ _ _ _ _ _) rfl) rfl rfl ?_
    refine WO.q (.as (v := .int _ _) rfl) rfl rfl ?_
    refine WO.nil ?_
    refine WX.seq ?_
    refine WX.reg ?_
    refine WO.q (.mv (v := .sl _ _ _ _ _ _) rfl) rfl rfl ?_
    refine WO.q (.ia (ia41_0 _ _)) rfl rfl ?_
    refine WO.q (.ldS (i := 2) rfl rfl rfl ti3 rfl) rfl rfl ?_
    refine WO.q (.ia (ia41_1 _ _)) rfl rfl ?_
    refine WO.q (.ldS (i := 2) rfl rfl rfl ti3 rfl) rfl rfl ?_
    obtain ⟨y69, hy69, h⟩ := Option.bind_eq_some_iff.1 h
    refine WO.c1 rfl rfl (gabionref15_Append_ok h56 hy69) rfl rfl rfl ?_
    rintro _ B _ hK ⟨v70, b71, n72, c73, rfl, rfl, h74⟩
    obtain ⟨_, _, _, _, _, rfl⟩ := h74.isl
    replace h55 := h55.up hK
    replace h56 := h56.up hK
    replace h57 := h57.up hK
    replace h68 := h68.up hK
    replace h58 := h58.up hK
    replace hB := hB.trans hK
    refine WO.q (.mv (v := .tup _) rfl) rfl rfl ?_
    refine WO.q (.r fun _ => rfl) rfl rfl ?_
    refine WO.q (.r fun _ => rfl) rfl rfl ?_
    refine WO.q (.as (v := .sl _ _ _ _ _ _) rfl) rfl rfl ?_
    refine WO.q (.as (v := .int _ _) rfl) rfl rfl ?_
    refine WO.nil ?_
    refine WX.seq ?_
    refine WX.seq ?_
    refine WX.reg ?_
    refine WO.q (.mv (v := .int _ _) rfl) rfl rfl ?_
    refine WO.q (.mv (v := .int _ _) rfl) rfl rfl ?_
    refine WO.q (.r fun _ => rfl) rfl rfl ?_
    refine WO.q (.mv (v := .bool _) rfl) rfl rfl ?_
    rcases bsp (decide (y66.2 ≠ y69.2)) with k75 | k75
    · have q_k75 := of_decide_eq_true k75
      replace h := (if_pos q_k75).symm.trans h
      refine WO.sd (wg rfl rfl (gfn k75)) rfl ?_
      refine WO.sd (wg rfl rfl (gfn k75)) rfl ?_
      refine WO.sd (wg rfl rfl (gfn k75)) rfl ?_
      refine WO.sd (wg rfl rfl (gfn k75)) rfl ?_
      refine WO.q (.ptv (v := .bool _) rfl k75 rfl) rfl rfl ?_
      refine WO.nil ?_
      refine WX.keep [2, 4, 9, 10, 12, 13, 31, 32, 33, 60, 61, 62, 102] (WX.pk [2, 3, 1, 4] (by decide) ?_) rfl
      exact gabionlaw15_ExtGrows_j19_ok h hn hx0 hr hE _ _ _ ⟨hB, _, _, _, _, _, _, _, _, n58, _, h55, h56, h57, h58, rfl, rfl⟩
    · have q_k75 := of_decide_eq_false k75
      replace h := (if_neg q_k75).symm.trans h
      refine WO.q (.mv (v := .sl _ _ _ _ _ _) rfl) (wg rfl rfl (gf k75)) rfl ?_
      refine WO.q (.mv (v := .sl _ _ _ _ _ _) rfl) (wg rfl rfl (gf k75)) rfl ?_
      obtain ⟨y134, hy134, h⟩ := Option.bind_eq_some_iff.1 h
      refine WO.cS rfl rfl (lendC (j := 0) h74 rfl fun _ K136 g135 => gabionlaw15_same_ok (h68.up K136) g135 hy134) rfl (wg rfl rfl (gf k75)) rfl ?_
      rintro _ rfl
      refine WO.q (.r fun _ => rfl) (wg rfl rfl (gf k75)) rfl ?_
      refine WO.q (.pfv (v := .bool _) rfl k75 rfl) rfl rfl ?_
      refine WO.nil ?_
      refine WX.keep [2, 4, 9, 10, 12, 13, 31, 32, 33, 60, 61, 62, 102] (WX.pk [2, 3, 1, 4] (by decide) ?_) rfl
      exact gabionlaw15_ExtGrows_j19_ok h hn hx0 hr hE _ _ _ ⟨hB, _, _, _, _, _, _, _, _, n58, _, h55, h56, h57, h58, rfl, rfl⟩
theorem gabionlaw15_ExtGrows_l1_s {B0 : Kn} {L : Own} {n0 : Nat} {x2 : Int} {x9 : List (Int × Int)} {x10 : List (Int × Int)} {x31 : List (List (Int × Int))} {x60 : List (Int × Int)} {zb4 : Int × Int} {x33 : Int} {x62 : Int} {Q : AV → St → Prop} {E : (Int × Int) ⊕ (Bool ⊕ Int) → Prop} {o : (Int × Int) ⊕ (Bool ⊕ Int)} (h : gabionlaw15_ExtGrows_l1 x2 x9 x10 x31 x60 zb4 x33 x62 = some o) (hn : ∀ s, E (.inl s) → WXI Try.prog 187 n0 (Fin Try.prog Try.f5.results.toList n0 Q) [.lp (ct [1, 0, 1, 0, 0, 1, 1, 0, 0, 1, 1, 1, 0, 1, 0, 0] (bodyOf Try.f5)), .blk 2, .code (ct [1, 0, 1, 0, 0, 1, 1, 0, 0, 1, 1, 1, 1] (bodyOf Try.f5)), .blk 1, .code (ct [1, 0, 1, 0, 0, 1, 1, 1] (bodyOf Try.f5)), .lp (ct [1, 0, 1, 0, 0] (bodyOf Try.f5)), .blk 0, .code (ct [1, 1] (bodyOf Try.f5))] (gabionlaw15_ExtGrows_l1_I B0 x2 x9 x10 x31 x60 zb4 s.1 s.2) L) (hx0 : ∀ s, E (.inr (.inr s)) → WXI Try.prog 187 n0 (Fin Try.prog Try.f5.results.toList n0 Q) [.code (ct [1, 0, 1, 0, 0, 1, 1, 0, 0, 1, 1, 1, 1] (bodyOf Try.f5)), .blk 1, .code (ct [1, 0, 1, 0, 0, 1, 1, 1] (bodyOf Try.f5)), .lp (ct [1, 0, 1, 0, 0] (bodyOf Try.f5)), .blk 0, .code (ct [1, 1] (bodyOf Try.f5))] (gabionlaw15_ExtGrows_l1_X0 B0 x2 x9 x10 x31 s zb4) L) (hr : ∀ r, E (.inr (.inl r)) → ∀ v st, gabionlaw15_ExtGrows_P B0 L r v st → Q v st) (hE : E o) : WXI Try.prog 187 n0 (Fin Try.prog Try.f5.results.toList n0 Q) [.code (ct [1, 0, 1, 0, 0, 1, 1, 0, 0, 1, 1, 1, 0, 1, 0, 0] (bodyOf Try.f5)), .lp (ct [1, 0, 1, 0, 0, 1, 1, 0, 0, 1, 1, 1, 0, 1, 0, 0] (bodyOf Try.f5)), .blk 2, .code (ct [1, 0, 1, 0, 0, 1, 1, 0, 0, 1, 1, 1, 1] (bodyOf Try.f5)), .blk 1, .code (ct [1, 0, 1, 0, 0, 1, 1, 1] (bodyOf Try.f5)), .lp (ct [1, 0, 1, 0, 0] (bodyOf Try.f5)), .blk 0, .code (ct [1, 1] (bodyOf Try.f5))] (gabionlaw15_ExtGrows_l1_I B0 x2 x9 x10 x31 x60 zb4 x33 x62) L := by
  unfold gabionlaw15_ExtGrows_l1 at h
  rintro _ B _ ⟨hB, b44, v45, v46, v47, v48, b48, n48, c48, h45, h46, h47, h48, rfl, rfl⟩
  obtain ⟨_, _, _, _, _, rfl⟩ := h45.isl
  obtain ⟨_, _, _, _, _, rfl⟩ := h46.isl
  obtain ⟨_, _, _, _, _, rfl⟩ := h47.isl
  obtain ⟨_, _, _, _, _, rfl⟩ := h48.isl
  refine WX.seq ?_
  refine WX.reg ?_
  refine WO.q (.r fun _ => rfl) rfl rfl ?_
  refine WO.nil ?_
  refine WX.seq ?_
  rcases bsp (decide (x62 < (x60.length : Int))) with k49 | k49
  · have q_k49 := of_decide_eq_true k49
    replace h := (if_pos q_k49).symm.trans h
    refine WX.condT rfl k49 ?_
    refine WX.skip ?_
    refine WX.seq ?_
    refine WX.block ?_
    refine WX.seq ?_
    refine WX.reg ?_
    obtain ⟨y50, hy50, h⟩ := Option.bind_eq_some_iff.1 h
    obtain rfl := h48.nonnil hy50
    obtain ⟨_, i_y50, l_y50, r_y50⟩ := h48.at sl40 hy50 .i64
    obtain ⟨_, _, rfl, rfl, rfl⟩ := r_y50
    refine WO.q (.ia i_y50) rfl rfl ?_
    refine WO.q (.leA (i := 1) rfl rfl l_y50 ti41 rfl rfl) rfl rfl ?_
    refine WO.md (MOp.alloc ti41 rfl) rfl rfl ?_
    rintro _ _ ⟨b51, rfl, rfl⟩
    refine WO.mn (MOp.storeW rfl (cA rfl) .h ti41 rfl rfl rfl) rfl ?_
    rintro _ _ rfl
    refine WO.nil ?_
    refine WX.seq ?_
    refine WX.seq ?_
    refine WX.reg ?_
    refine WO.q (.ia (ia41_1 _ _)) rfl rfl ?_
    refine WO.q (.ldS (i := 0) rfl rfl rfl ti3 rfl) rfl rfl ?_
    refine WO.q (.r fun _ => rfl) rfl rfl ?_
    refine WO.q (.mv (v := .bool _) rfl) rfl rfl ?_
    rcases bsp (decide (3000 < y50.2)) with k52 | k52
    · have q_k52 := of_decide_eq_true k52
      replace h := (if_pos q_k52).symm.trans h
      refine WO.q (.ia (ia41_1 _ _)) (wg rfl rfl (gt k52)) rfl ?_
      refine WO.q (.ldS (i := 0) rfl rfl rfl ti3 rfl) (wg rfl rfl (gt k52)) rfl ?_
      refine WO.q (.r fun _ => rfl) (wg rfl rfl (gt k52)) rfl ?_
      refine WO.q (.ptv (v := .bool _) rfl k52 rfl) rfl rfl ?_
      refine WO.nil ?_
      refine WX.keep [2, 4, 9, 10, 12, 31, 32, 33, 60, 61, 62, 73] (WX.pk [1, 0, 2] (by decide) ?_) rfl
      exact gabionlaw15_ExtGrows_j13_ok h hn hx0 hr hE _ _ _ ⟨hB, _, _, _, _, _, _, _, false, _, h45, h46, h47, h48, rfl, rfl⟩
    · have q_k52 := of_decide_eq_false k52
      replace h := (if_neg q_k52).symm.trans h
      refine WO.sd (wg rfl rfl (gtn k52)) rfl ?_
      refine WO.sd (wg rfl rfl (gtn k52)) rfl ?_
      refine WO.sd (wg rfl rfl (gtn k52)) rfl ?_
      refine WO.q (.pfv (v := .bool _) rfl k52 rfl) rfl rfl ?_
      refine WO.nil ?_
      refine WX.keep [2, 4, 9, 10, 12, 31, 32, 33, 60, 61, 62, 73] (WX.pk [1, 0, 2] (by decide) ?_) rfl
      exact gabionlaw15_ExtGrows_j13_ok h hn hx0 hr hE _ _ _ ⟨hB, _, _, _, _, _, _, _, false, _, h45, h46, h47, h48, rfl, rfl⟩
  · have q_k49 := of_decide_eq_false k49
    replace h := (if_neg q_k49).symm.trans h
    refine WX.condF rfl k49 ?_
    refine WX.exit rfl ?_
    refine WX.keep [2, 4, 9, 10, 31, 32, 33] (WX.pk [0] (by decide) ?_) rfl
    obtain rfl := Option.some.inj h
    exact hx0 _ hE _ _ _ ⟨hB, _, _, _, _, h45, h46, h47, rfl, rfl⟩
theorem gabionlaw15_ExtGrows_l1_ok {B0 : Kn} {L : Own} {n0 : Nat} {x2 : Int} {x9 : List (Int × Int)} {x10 : List (Int × Int)} {x31 : List (List (Int × Int))} {x60 : List (Int × Int)} {zb4 : Int × Int} {x33 : Int} {x62 : Int} {Q : AV → St → Prop} {d : Nat} {e : Bool ⊕ Int} (h : iter (fun (s : Int × Int) => gabionlaw15_ExtGrows_l1 x2 x9 x10 x31 x60 zb4 s.1 s.2) d (x33, x62) = some e) (g0 : ∀ r, e = (.inl r) → ∀ v st, gabionlaw15_ExtGrows_P B0 L r v st → Q v st) (g1 : ∀ s, e = (.inr s) → WXI Try.prog 187 n0 (Fin Try.prog Try.f5.results.toList n0 Q) [.code (ct [1, 0, 1, 0, 0, 1, 1, 0, 0, 1, 1, 1, 1] (bodyOf Try.f5)), .blk 1, .code (ct [1, 0, 1, 0, 0, 1, 1, 1] (bodyOf Try.f5)), .lp (ct [1, 0, 1, 0, 0] (bodyOf Try.f5)), .blk 0, .code (ct [1, 1] (bodyOf Try.f5))] (gabionlaw15_ExtGrows_l1_X0 B0 x2 x9 x10 x31 s zb4) L) : WXI Try.prog 187 n0 (Fin Try.prog Try.f5.results.toList n0 Q) [.code (ct [1, 0, 1, 0, 0, 1, 1, 0, 0, 1, 1, 1, 0, 1, 0, 0] (bodyOf Try.f5)), .lp (ct [1, 0, 1, 0, 0, 1, 1, 0, 0, 1, 1, 1, 0, 1, 0, 0] (bodyOf Try.f5)), .blk 2, .code (ct [1, 0, 1, 0, 0, 1, 1, 0, 0, 1, 1, 1, 1] (bodyOf Try.f5)), .blk 1, .code (ct [1, 0, 1, 0, 0, 1, 1, 1] (bodyOf Try.f5)), .lp (ct [1, 0, 1, 0, 0] (bodyOf Try.f5)), .blk 0, .code (ct [1, 1] (bodyOf Try.f5))] (gabionlaw15_ExtGrows_l1_I B0 x2 x9 x10 x31 x60 zb4 x33 x62) L :=
  iter_ok (I := fun s => gabionlaw15_ExtGrows_l1_I B0 x2 x9 x10 x31 x60 zb4 s.1 s.2) (D := fun e => (∀ r, e = (.inl r) → ∀ v st, gabionlaw15_ExtGrows_P B0 L r v st → Q v st) ∧ (∀ s, e = (.inr s) → WXI Try.prog 187 n0 (Fin Try.prog Try.f5.results.toList n0 Q) [.code (ct [1, 0, 1, 0, 0, 1, 1, 0, 0, 1, 1, 1, 1] (bodyOf Try.f5)), .blk 1, .code (ct [1, 0, 1, 0, 0, 1, 1, 1] (bodyOf Try.f5)), .lp (ct [1, 0, 1, 0, 0] (bodyOf Try.f5)), .blk 0, .code (ct [1, 1] (bodyOf Try.f5))] (gabionlaw15_ExtGrows_l1_X0 B0 x2 x9 x10 x31 s zb4) L)) (fun E hn hx s o ho hE => gabionlaw15_ExtGrows_l1_s ho hn (fun s hs => (hx _ hs).2 _ rfl) (fun r hs => (hx _ hs).1 _ rfl) hE) h ⟨g0, g1⟩
theorem gabionlaw15_ExtGrows_j36_ok {B0 : Kn} {L : Own} {n0 : Nat} {x2 : Int} {x9 : List (Int × Int)} {x10 : List (Int × Int)} {x31 : List (List (Int × Int))} {x33 : Int} {x145 : List Int} {x147 : Int} {x179 : Bool} {zb4 : Int × Int} {Q : AV → St → Prop} {E : (Int × Int) ⊕ (Bool ⊕ Int) → Prop} {o : (Int × Int) ⊕ (Bool ⊕ Int)} (h : gabionlaw15_ExtGrows_j36 x2 x9 x10 x31 x33 x145 x147 x179 zb4 = some o) (hn : ∀ s, E (.inl s) → WXI Try.prog 187 n0 (Fin Try.prog Try.f5.results.toList n0 Q) [.lp (ct [1, 0, 1, 0, 0, 1, 1, 0, 0, 1, 1, 1, 1, 0, 1, 0, 0] (bodyOf Try.f5)), .blk 6, .code (ct [1, 0, 1, 0, 0, 1, 1, 0, 0, 1, 1, 1, 1, 1] (bodyOf Try.f5)), .blk 1, .code (ct [1, 0, 1, 0, 0, 1, 1, 1] (bodyOf Try.f5)), .lp (ct [1, 0, 1, 0, 0] (bodyOf Try.f5)), .blk 0, .code (ct [1, 1] (bodyOf Try.f5))] (gabionlaw15_ExtGrows_l3_I B0 x2 x9 x10 x31 x145 zb4 s.1 s.2) L) (hx0 : ∀ s, E (.inr (.inr s)) → WXI Try.prog 187 n0 (Fin Try.prog Try.f5.results.toList n0 Q) [.code (ct [1, 0, 1, 0, 0, 1, 1, 0, 0, 1, 1, 1, 1, 1] (bodyOf Try.f5)), .blk 1, .code (ct [1, 0, 1, 0, 0, 1, 1, 1] (bodyOf Try.f5)), .lp (ct [1, 0, 1, 0, 0] (bodyOf Try.f5)), .blk 0, .code (ct [1, 1] (bodyOf Try.f5))] (gabionlaw15_ExtGrows_l3_X0 B0 x2 x9 x10 x31 s zb4) L) (hr : ∀ r, E (.inr (.inl r)) → ∀ v st, gabionlaw15_ExtGrows_P B0 L r v st → Q v st) (hE : E o) : WXI Try.prog 187 n0 (Fin Try.prog Try.f5.results.toList n0 Q) [.code (ct [1, 0, 1, 0, 0, 1, 1, 0, 0, 1, 1, 1, 1, 0, 1, 0, 0, 1, 1, 0, 0, 1, 1, 1, 1] (bodyOf Try.f5)), .blk 7, .code (ct [1, 0, 1, 0, 0, 1, 1, 0, 0, 1, 1, 1, 1, 0, 1, 0, 0, 1, 1, 1] (bodyOf Try.f5)), .lp (ct [1, 0, 1, 0, 0, 1, 1, 0, 0, 1, 1, 1, 1, 0, 1, 0, 0] (bodyOf Try.f5)), .blk 6, .code (ct [1, 0, 1, 0, 0, 1, 1, 0, 0, 1, 1, 1, 1, 1] (bodyOf Try.f5)), .blk 1, .code (ct [1, 0, 1, 0, 0, 1, 1, 1] (bodyOf Try.f5)), .lp (ct [1, 0, 1, 0, 0] (bodyOf Try.f5)), .blk 0, .code (ct [1, 1] (bodyOf Try.f5))] (gabionlaw15_ExtGrows_j36_I B0 x2 x9 x10 x31 x33 x145 x147 x179 zb4) L := by
  unfold gabionlaw15_ExtGrows_j36 at h
  rintro _ B _ ⟨hB, b180, v181, v182, v183, v184, b184, n184, c184, h181, h182, h183, h184, rfl, rfl⟩
  obtain ⟨_, _, _, _, _, rfl⟩ := h181.isl
  obtain ⟨_, _, _, _, _, rfl⟩ := h182.isl
  obtain ⟨_, _, _, _, _, rfl⟩ := h183.isl
  obtain ⟨_, _, _, _, _, rfl⟩ := h184.isl
  rcases bsp x179 with k185 | k185
  · replace h := (if_pos k185).symm.trans h
    refine WX.condT rfl k185 ?_
    refine WX.seq ?_
    refine WX.reg ?_
    refine WO.q (.as (v := .bool _) rfl) rfl rfl ?_
    refine WO.nil ?_
    obtain rfl := Option.some.inj h
    exact WX.ret (rs_ (rs_tmp rfl rs_nil)) fun st hp => hr _ hE _ _ ⟨(hp.pk [] (by decide)).le hB, rfl⟩
  · replace h := (if_neg (bnt k185)).symm.trans h
    refine WX.condF rfl k185 ?_
    refine WX.skip ?_
    refine WX.pop ?_
    refine WX.reg ?_
    refine WO.q (.r fun _ => rfl) rfl rfl ?_
    refine WO.q (.mv (v := .int _ _) rfl) rfl rfl ?_
    refine WO.nil ?_
    refine WX.keepL [2, 4, 9, 10, 31, 32, 33, 145, 146, 147] (WX.pk [0, 1] (by decide) ?_) rfl
    obtain rfl := Option.some.inj h
    exact hn _ hE _ _ _ ⟨hB, _, _, _, _, _, _, n184, _, h181, h182, h183, h184, rfl, rfl⟩
theorem gabionlaw15_ExtGrows_l3_s {B0 : Kn} {L : Own} {n0 : Nat} {x2 : Int} {x9 : List (Int × Int)} {x10 : List (Int × Int)} {x31 : List (List (Int × Int))} {x145 : List Int} {zb4 : Int × Int} {x33 : Int} {x147 : Int} {Q : AV → St → Prop} {E : (Int × Int) ⊕ (Bool ⊕ Int) → Prop} {o : (Int × Int) ⊕ (Bool ⊕ Int)} (h : gabionlaw15_ExtGrows_l3 x2 x9 x10 x31 x145 zb4 x33 x147 = some o) (hn : ∀ s, E (.inl s) → WXI Try.prog 187 n0 (Fin Try.prog Try.f5.results.toList n0 Q) [.lp (ct [1, 0, 1, 0, 0, 1, 1, 0, 0, 1, 1, 1, 1, 0, 1, 0, 0] (bodyOf Try.f5)), .blk 6, .code (ct [1, 0, 1, 0, 0, 1, 1, 0, 0, 1, 1, 1, 1, 1] (bodyOf Try.f5)), .blk 1, .code (ct [1, 0, 1, 0, 0, 1, 1, 1] (bodyOf Try.f5)), .lp (ct [1, 0, 1, 0, 0] (bodyOf Try.f5)), .blk 0, .code (ct [1, 1] (bodyOf Try.f5))] (gabionlaw15_ExtGrows_l3_I B0 x2 x9 x10 x31 x145 zb4 s.1 s.2) L) (hx0 : ∀ s, E (.inr (.inr s)) → WXI Try.prog 187 n0 (Fin Try.prog Try.f5.results.toList n0 Q) [.code (ct [1, 0, 1, 0, 0, 1, 1, 0, 0, 1, 1, 1, 1, 1] (bodyOf Try.f5)), .blk 1, .code (ct [1, 0, 1, 0, 0, 1, 1, 1] (bodyOf Try.f5)), .lp (ct [1, 0, 1, 0, 0] (bodyOf Try.f5)), .blk 0, .code (ct [1, 1] (bodyOf Try.f5))] (gabionlaw15_ExtGrows_l3_X0 B0 x2 x9 x10 x31 s zb4) L) (hr : ∀ r, E (.inr (.inl r)) → ∀ v st, gabionlaw15_ExtGrows_P B0 L r v st → Q v st) (hE : E o) : WXI Try.prog 187 n0 (Fin Try.prog Try.f5.results.toList n0 Q) [.code (ct [1, 0, 1, 0, 0, 1, 1, 0, 0, 1, 1, 1, 1, 0, 1, 0, 0] (bodyOf Try.f5)), .lp (ct [1, 0, 1, 0, 0, 1, 1, 0, 0, 1, 1, 1, 1, 0, 1, 0, 0] (bodyOf Try.f5)), .blk 6, .code (ct [1, 0, 1, 0, 0, 1, 1, 0, 0, 1, 1, 1, 1, 1] (bodyOf Try.f5)), .blk 1, .code (ct [1, 0, 1, 0, 0, 1, 1, 1] (bodyOf Try.f5)), .lp (ct [1, 0, 1, 0, 0] (bodyOf Try.f5)), .blk 0, .code (ct [1, 1] (bodyOf Try.f5))] (gabionlaw15_ExtGrows_l3_I B0 x2 x9 x10 x31 x145 zb4 x33 x147) L := by
  unfold gabionlaw15_ExtGrows_l3 at h
  rintro _ B _ ⟨hB, b153, v154, v155, v156, v157, b157, n157, c157, h154, h155, h156, h157, rfl, rfl⟩
  obtain ⟨_, _, _, _, _, rfl⟩ := h154.isl
  obtain ⟨_, _, _, _, _, rfl⟩ := h155.isl
  obtain ⟨_, _, _, _, _, rfl⟩ := h156.isl
  obtain ⟨_, _, _, _, _, rfl⟩ := h157.isl
  refine WX.seq ?_
  refine WX.reg ?_
  refine WO.q (.r fun _ => rfl) rfl rfl ?_
  refine WO.nil ?_
  refine WX.seq ?_
  rcases bsp (decide (x147 < (x145.length : Int))) with k158 | k158
  · have q_k158 := of_decide_eq_true k158
    replace h := (if_pos q_k158).symm.trans h
    refine WX.condT rfl k158 ?_
    refine WX.skip ?_
    refine WX.seq ?_
    refine WX.block ?_
    refine WX.seq ?_
    refine WX.reg ?_
    obtain ⟨y159, hy159, h⟩ := Option.bind_eq_some_iff.1 h
    obtain rfl := h157.nonnil hy159
    obtain ⟨_, i_y159, l_y159, r_y159⟩ := h157.at sl22 hy159 .i64
    obtain rfl := r_y159
    refine WO.q (.ia i_y159) rfl rfl ?_
    refine WO.q (.ldS (i := 1) rfl rfl (l_y159.g0 rfl) ti3 rfl) rfl rfl ?_
    refine WO.q (.as (v := .int _ _) rfl) rfl rfl ?_
    refine WO.nil ?_
    refine WX.seq ?_
    refine WX.reg ?_
    refine WO.q (.mv (v := .sl _ _ _ _ _ _) rfl) rfl rfl ?_
    refine WO.q (.mv (v := .int _ _) rfl) rfl rfl ?_
    obtain ⟨y160, hy160, h⟩ := Option.bind_eq_some_iff.1 h
    refine WO.c1 rfl rfl (ext_List_Cut_ok h154 hy160) rfl rfl rfl ?_
    rintro _ B _ hK ⟨v166, v161, b162, n163, c164, rfl, h167, rfl, h165⟩
    obtain ⟨_, _, _, _, _, rfl⟩ := h167.isl
    obtain ⟨_, _, _, _, _, rfl⟩ := h165.isl
    replace h154 := h154.up hK
    replace h155 := h155.up hK
    replace h156 := h156.up hK
    replace h157 := h157.up hK
    replace hB := hB.trans hK
    refine WO.q (.mv (v := .tup _) rfl) rfl rfl ?_
    refine WO.q (.r fun _ => rfl) rfl rfl ?_
    refine WO.q (.r fun _ => rfl) rfl rfl ?_
    refine WO.q (.r fun _ => rfl) rfl rfl ?_
    refine WO.q (.as (v := .sl _ _ _ _ _ _) rfl) rfl rfl ?_
    refine WO.q (.as (v := .sl _ _ _ _ _ _) rfl) rfl rfl ?_
    refine WO.q (.as (v := .int _ _) rfl) rfl rfl ?_
    refine WO.nil ?_
    refine WX.seq ?_
    refine WX.reg ?_
    refine WO.q (.mv (v := .sl _ _ _ _ _ _) rfl) rfl rfl ?_
    refine WO.q (.mv (v := .int _ _) rfl) rfl rfl ?_
    obtain ⟨y168, hy168, h⟩ := Option.bind_eq_some_iff.1 h
    refine WO.c2 rfl rfl (gabionref15_Cut_ok h155 hy168) rfl rfl rfl ?_
    rintro _ B _ _ hK ⟨v169, b170, n171, c172, v174, b175, n176, c177, rfl, rfl, h173, rfl, h178⟩
    obtain ⟨_, _, _, _, _, rfl⟩ := h173.isl
    obtain ⟨_, _, _, _, _, rfl⟩ := h178.isl
    replace h154 := h154.up hK
    replace h155 := h155.up hK
    replace h156 := h156.up hK
    replace h167 := h167.up hK
    replace h157 := h157.up hK
    replace h165 := h165.up hK
    replace hB := hB.trans hK
    refine WO.q (.mv (v := .tup _) rfl) rfl rfl ?_
    refine WO.q (.r fun _ => rfl) rfl rfl ?_
    refine WO.q (.r fun _ => rfl) rfl rfl ?_
    refine WO.q (.r fun _ => rfl) rfl rfl ?_
    refine WO.q (.as (v := .sl _ _ _ _ _ _) rfl) rfl rfl ?_
    refine WO.q (.as (v := .sl _ _ _ _ _ _) rfl) rfl rfl ?_
    refine WO.q (.as (v := .int _ _) rfl) rfl rfl ?_
    refine WO.nil ?_
    refine WX.seq ?_
    refine WX.reg ?_
    refine WO.q (.mv (v := .int _ _) rfl) rfl rfl ?_
    refine WO.q (.mv (v := .int _ _) rfl) rfl rfl ?_
    refine WO.q (.r fun _ => rfl) rfl rfl ?_
    refine WO.q (.mv (v := .bool _) rfl) rfl rfl ?_
    rcases bsp (decide (y160.2.2 ≠ y168.2.2)) with k179 | k179
    · have q_k179 := of_decide_eq_true k179
      replace h := (if_pos q_k179).symm.trans h
      refine WO.sd (wg rfl rfl (gfn k179)) rfl ?_
      refine WO.sd (wg rfl rfl (gfn k179)) rfl ?_
      refine WO.sd (wg rfl rfl (gfn k179)) rfl ?_
      refine WO.sd (wg rfl rfl (gfn k179)) rfl ?_
      refine WO.q (.ptv (v := .bool _) rfl k179 rfl) rfl rfl ?_
      refine WO.q (.mv (v := .bool _) rfl) rfl rfl ?_
      refine WO.sd (wg rfl rfl (gfn rfl)) rfl ?_
      refine WO.sd (wg rfl rfl (gfn rfl)) rfl ?_
      refine WO.sd (wg rfl rfl (gfn rfl)) rfl ?_
      refine WO.sd (wg rfl rfl (gfn rfl)) rfl ?_
      refine WO.q (.ptv (v := .bool _) rfl rfl rfl) rfl rfl ?_
      refine WO.nil ?_
      refine WX.keep [2, 4, 9, 10, 31, 32, 33, 145, 146, 147, 179] (WX.pk [3, 4] (by decide) ?_) rfl
      exact gabionlaw15_ExtGrows_j36_ok h hn hx0 hr hE _ _ _ ⟨hB, _, _, _, _, _, _, false, _, h154, h155, h156, h157, rfl, rfl⟩
    · have q_k179 := of_decide_eq_false k179
      replace h := (if_neg q_k179).symm.trans h
      refine WO.q (.mv (v := .sl _ _ _ _ _ _) rfl) (wg rfl rfl (gf k179)) rfl ?_
      refine WO.q (.mv (v := .sl _ _ _ _ _ _) rfl) (wg rfl rfl (gf k179)) rfl ?_
      obtain ⟨y186, hy186, h⟩ := Option.bind_eq_some_iff.1 h
      refine WO.cS rfl rfl (lendC (j := 2) h165 rfl fun _ K188 g187 => lendC (j := 0) (h173.up K188) rfl fun _ K190 g189 => gabionlaw15_same_ok (g187.up K190) g189 hy186) rfl (wg rfl rfl (gf k179)) rfl ?_
      rintro _ rfl
      refine WO.q (.r fun _ => rfl) (wg rfl rfl (gf k179)) rfl ?_
      refine WO.q (.pfv (v := .bool _) rfl k179 rfl) rfl rfl ?_
      refine WO.q (.mv (v := .bool _) rfl) rfl rfl ?_
      rcases bsp y186 with k191 | k191
      · replace h := (if_pos k191).symm.trans h
        refine WO.q (.mv (v := .sl _ _ _ _ _ _) rfl) (wg rfl rfl (gf (f_not k191))) rfl ?_
        refine WO.q (.mv (v := .sl _ _ _ _ _ _) rfl) (wg rfl rfl (gf (f_not k191))) rfl ?_
        obtain ⟨y192, hy192, h⟩ := Option.bind_eq_some_iff.1 h
        refine WO.cS rfl rfl (lendC (j := 1) h178 rfl fun _ K194 g193 => gabionlaw15_same_ok (h167.up K194) g193 hy192) rfl (wg rfl rfl (gf (f_not k191))) rfl ?_
        rintro _ rfl
        refine WO.q (.r fun _ => rfl) (wg rfl rfl (gf (f_not k191))) rfl ?_
        refine WO.q (.pfv (v := .bool _) rfl (f_not k191) rfl) rfl rfl ?_
        refine WO.nil ?_
        refine WX.keep [2, 4, 9, 10, 31, 32, 33, 145, 146, 147, 179] (WX.pk [3, 4] (by decide) ?_) rfl
        exact gabionlaw15_ExtGrows_j36_ok h hn hx0 hr hE _ _ _ ⟨hB, _, _, _, _, _, _, false, _, h154, h155, h156, h157, rfl, rfl⟩
      · replace h := (if_neg (bnt k191)).symm.trans h
        refine WO.sd (wg rfl rfl (gfn (t_not k191))) rfl ?_
        refine WO.sd (wg rfl rfl (gfn (t_not k191))) rfl ?_
        refine WO.sd (wg rfl rfl (gfn (t_not k191))) rfl ?_
        refine WO.sd (wg rfl rfl (gfn (t_not k191))) rfl ?_
        refine WO.q (.ptv (v := .bool _) rfl (t_not k191) rfl) rfl rfl ?_
        refine WO.nil ?_
        refine WX.keep [2, 4, 9, 10, 31, 32, 33, 145, 146, 147, 179] (WX.pk [3, 4] (by decide) ?_) rfl
        exact gabionlaw15_ExtGrows_j36_ok h hn hx0 hr hE _ _ _ ⟨hB, _, _, _, _, _, _, false, _, h154, h155, h156, h157, rfl, rfl⟩
  · have q_k158 := of_decide_eq_false k158
    replace h := (if_neg q_k158).symm.trans h
    refine WX.condF rfl k158 ?_
    refine WX.exit rfl ?_
    refine WX.keep [2, 4, 9, 10, 31, 32, 33] (WX.pk [0] (by decide) ?_) rfl
    obtain rfl := Option.some.inj h
    exact hx0 _ hE _ _ _ ⟨hB, _, _, _, _, h154, h155, h156, rfl, rfl⟩
theorem gabionlaw15_ExtGrows_l3_ok {B0 : Kn} {L : Own} {n0 : Nat} {x2 : Int} {x9 : List (Int × Int)} {x10 : List (Int × Int)} {x31 : List (List (Int × Int))} {x145 : List Int} {zb4 : Int × Int} {x33 : Int} {x147 : Int} {Q : AV → St → Prop} {d : Nat} {e : Bool ⊕ Int} (h : iter (fun (s : Int × Int) => gabionlaw15_ExtGrows_l3 x2 x9 x10 x31 x145 zb4 s.1 s.2) d (x33, x147) = some e) (g0 : ∀ r, e = (.inl r) → ∀ v st, gabionlaw15_ExtGrows_P B0 L r v st → Q v st) (g1 : ∀ s, e = (.inr s) → WXI Try.prog 187 n0 (Fin Try.prog Try.f5.results.toList n0 Q) [.code (ct [1, 0, 1, 0, 0, 1, 1, 0, 0, 1, 1, 1, 1, 1] (bodyOf Try.f5)), .blk 1, .code (ct [1, 0, 1, 0, 0, 1, 1, 1] (bodyOf Try.f5)), .lp (ct [1, 0, 1, 0, 0] (bodyOf Try.f5)), .blk 0, .code (ct [1, 1] (bodyOf Try.f5))] (gabionlaw15_ExtGrows_l3_X0 B0 x2 x9 x10 x31 s zb4) L) : WXI Try.prog 187 n0 (Fin Try.prog Try.f5.results.toList n0 Q) [.code (ct [1, 0, 1, 0, 0, 1, 1, 0, 0, 1, 1, 1, 1, 0, 1, 0, 0] (bodyOf Try.f5)), .lp (ct [1, 0, 1, 0, 0, 1, 1, 0, 0, 1, 1, 1, 1, 0, 1, 0, 0] (bodyOf Try.f5)), .blk 6, .code (ct [1, 0, 1, 0, 0, 1, 1, 0, 0, 1, 1, 1, 1, 1] (bodyOf Try.f5)), .blk 1, .code (ct [1, 0, 1, 0, 0, 1, 1, 1] (bodyOf Try.f5)), .lp (ct [1, 0, 1, 0, 0] (bodyOf Try.f5)), .blk 0, .code (ct [1, 1] (bodyOf Try.f5))] (gabionlaw15_ExtGrows_l3_I B0 x2 x9 x10 x31 x145 zb4 x33 x147) L :=
  iter_ok (I := fun s => gabionlaw15_ExtGrows_l3_I B0 x2 x9 x10 x31 x145 zb4 s.1 s.2) (D := fun e => (∀ r, e = (.inl r) → ∀ v st, gabionlaw15_ExtGrows_P B0 L r v st → Q v st) ∧ (∀ s, e = (.inr s) → WXI Try.prog 187 n0 (Fin Try.prog Try.f5.results.toList n0 Q) [.code (ct [1, 0, 1, 0, 0, 1, 1, 0, 0, 1, 1, 1, 1, 1] (bodyOf Try.f5)), .blk 1, .code (ct [1, 0, 1, 0, 0, 1, 1, 1] (bodyOf Try.f5)), .lp (ct [1, 0, 1, 0, 0] (bodyOf Try.f5)), .blk 0, .code (ct [1, 1] (bodyOf Try.f5))] (gabionlaw15_ExtGrows_l3_X0 B0 x2 x9 x10 x31 s zb4) L)) (fun E hn hx s o ho hE => gabionlaw15_ExtGrows_l3_s ho hn (fun s hs => (hx _ hs).2 _ rfl) (fun r hs => (hx _ hs).1 _ rfl) hE) h ⟨g0, g1⟩
theorem gabionlaw15_ExtGrows_j6_ok {B0 : Kn} {L : Own} {n0 : Nat} {x2 : Int} {x9 : List (Int × Int)} {x10 : List (Int × Int)} {x31 : List (List (Int × Int))} {x33 : Int} {x48 : Bool} {zb4 : Int × Int} {Q : AV → St → Prop} {E : Int ⊕ (Bool ⊕ Unit) → Prop} {o : Int ⊕ (Bool ⊕ Unit)} (h : gabionlaw15_ExtGrows_j6 x2 x9 x10 x31 x33 x48 zb4 = some o) (hn : ∀ s, E (.inl s) → WXI Try.prog 187 n0 (Fin Try.prog Try.f5.results.toList n0 Q) [.lp (ct [1, 0, 1, 0, 0] (bodyOf Try.f5)), .blk 0, .code (ct [1, 1] (bodyOf Try.f5))] (gabionlaw15_ExtGrows_l0_I B0 x2 x31 zb4 s) L) (hx0 : ∀ s, E (.inr (.inr s)) → WXI Try.prog 187 n0 (Fin Try.prog Try.f5.results.toList n0 Q) [.code (ct [1, 1] (bodyOf Try.f5))] (gabionlaw15_ExtGrows_l0_X0 B0) L) (hr : ∀ r, E (.inr (.inl r)) → ∀ v st, gabionlaw15_ExtGrows_P B0 L r v st → Q v st) (hE : E o) : WXI Try.prog 187 n0 (Fin Try.prog Try.f5.results.toList n0 Q) [.code (ct [1, 0, 1, 0, 0, 1, 1, 0, 0, 1, 1, 0, 1] (bodyOf Try.f5)), .code (ct [1, 0, 1, 0, 0, 1, 1, 0, 0, 1, 1, 1] (bodyOf Try.f5)), .blk 1, .code (ct [1, 0, 1, 0, 0, 1, 1, 1] (bodyOf Try.f5)), .lp (ct [1, 0, 1, 0, 0] (bodyOf Try.f5)), .blk 0, .code (ct [1, 1] (bodyOf Try.f5))] (gabionlaw15_ExtGrows_j6_I B0 x2 x9 x10 x31 x33 x48 zb4) L := by
  unfold gabionlaw15_ExtGrows_j6 at h
  rintro _ B _ ⟨hB, b32, v33, b33, n33, c33, v34, v35, h33, h34, h35, rfl, rfl⟩
  obtain ⟨_, _, _, _, _, rfl⟩ := h33.isl
  obtain ⟨_, _, _, _, _, rfl⟩ := h34.isl
  obtain ⟨_, _, _, _, _, rfl⟩ := h35.isl
  rcases bsp x48 with k36 | k36
  · replace h := (if_pos k36).symm.trans h
    refine WX.condT rfl k36 ?_
    refine WX.exit rfl ?_
    refine WX.keep [2, 4, 31, 32, 33] (WX.pk [0] (by decide) ?_) rfl
    exact gabionlaw15_ExtGrows_j7_ok h hn hx0 hr hE _ _ _ ⟨hB, _, _, h35, rfl, rfl⟩
  · replace h := (if_neg (bnt k36)).symm.trans h
    refine WX.condF rfl k36 ?_
    refine WX.skip ?_
    refine WX.seq ?_
    refine WX.seq ?_
    refine WX.reg ?_
    refine WO.q (.ldA (i := 0) rfl rfl rfl ti41 rfl) rfl rfl ?_
    refine WO.q (.ia (ia41_0 _ _)) rfl rfl ?_
    refine WO.q (.ldS (i := 0) rfl rfl rfl ti3 rfl) rfl rfl ?_
    refine WO.q (.r fun _ => rfl) rfl rfl ?_
    refine WO.q (.r fun _ => rfl) rfl rfl ?_
    refine WO.q (.ia (ia41_1 _ _)) rfl rfl ?_
    refine WO.q (.ldS (i := 0) rfl rfl rfl ti3 rfl) rfl rfl ?_
    refine WO.q (.r fun _ => rfl) rfl rfl ?_
    refine WO.q (.r fun _ => rfl) rfl rfl ?_
    refine WO.q (.r fun _ => rfl) rfl rfl ?_
    refine WO.q (.bd (bd41_0_1 (cI rfl) (cI rfl))) rfl rfl ?_
    refine WO.md (MOp.bs (l := ([zb4, ((Int.tmod (mx (-1) zb4.1) 300), (wi64 (1 + (Int.tmod (mx 0 zb4.2) 5))))] : List (Int × Int))) sl40 (RL.cons (Rp Ri Ri) (RL.cons (Rp Ri Ri) RL.nil)) (lb rfl) rfl rfl) rfl rfl ?_
    rintro v41 _ ⟨b39, o40, rfl⟩
    obtain ⟨_, _, _, _, _, rfl⟩ := o40.isl
    refine WO.q (.len rfl rfl rfl (sl40.len o40.isl)) rfl rfl ?_
    refine WO.q (.mv (v := .int _ _) rfl) rfl rfl ?_
    refine WO.nil ?_
    refine WX.block ?_
    refine WX.loop ?_
    obtain ⟨e141, he141, h⟩ := Option.bind_eq_some_iff.1 h
    refine WX.fz (j := 2) h33 rfl ?_
    intro B hK g43
    replace h34 := h34.up hK
    replace h35 := h35.up hK
    replace o40 := o40.up hK
    replace hB := hB.trans hK
    refine WX.keep [2, 4, 9, 10, 31, 32, 33, 60, 61, 62] (WX.pk [1, 0] (by decide) ?_) rfl
    refine gabionlaw15_ExtGrows_l1_ok he141 ?_ ?_ _ _ _ ⟨hB, _, _, _, _, _, _, false, _, g43, h34, h35, o40, rfl, rfl⟩
    · intro r143 he_
      subst he_
      replace h := (on_l h)
      obtain rfl := Option.some.inj h
      exact hr _ hE
    · intro x144 he_
      subst he_
      replace h := (on_r h)
      rintro _ B _ ⟨hB, b145, v146, v147, v148, h146, h147, h148, rfl, rfl⟩
      obtain ⟨_, _, _, _, _, rfl⟩ := h146.isl
      obtain ⟨_, _, _, _, _, rfl⟩ := h147.isl
      obtain ⟨_, _, _, _, _, rfl⟩ := h148.isl
      refine WX.seq ?_
      refine WX.seq ?_
      refine WX.reg ?_
      refine WO.q (.mv (v := .int _ _) rfl) rfl rfl ?_
      refine WO.q (.mv (v := .int _ _) rfl) rfl rfl ?_
      refine WO.q (.r fun _ => rfl) rfl rfl ?_
      refine WO.q (.r fun _ => rfl) rfl rfl ?_
      refine WO.md (MOp.bs (l := ([x2, (Int.tmod (mx 0 x2) 60)] : List Int)) sl22 (RL.cons Ri (RL.cons Ri RL.nil)) (lb rfl) rfl rfl) rfl rfl ?_
      rintro v151 _ ⟨b149, o150, rfl⟩
      obtain ⟨_, _, _, _, _, rfl⟩ := o150.isl
      refine WO.q (.len rfl rfl rfl (sl22.len o150.isl)) rfl rfl ?_
      refine WO.q (.mv (v := .int _ _) rfl) rfl rfl ?_
      refine WO.nil ?_
      refine WX.block ?_
      refine WX.loop ?_
      obtain ⟨e199, he199, h⟩ := Option.bind_eq_some_iff.1 h
      refine WX.keep [2, 4, 9, 10, 31, 32, 33, 145, 146, 147] (WX.pk [1, 0] (by decide) ?_) rfl
      refine gabionlaw15_ExtGrows_l3_ok he199 ?_ ?_ _ _ _ ⟨hB, _, _, _, _, _, _, false, _, h146, h147, h148, o150, rfl, rfl⟩
      · intro r201 he_
        subst he_
        replace h := (on_l h)
        obtain rfl := Option.some.inj h
        exact hr _ hE
      · intro x202 he_
        subst he_
        replace h := (on_r h)
        rintro _ B _ ⟨hB, b203, v204, v205, v206, h204, h205, h206, rfl, rfl⟩
        obtain ⟨_, _, _, _, _, rfl⟩ := h204.isl
        obtain ⟨_, _, _, _, _, rfl⟩ := h205.isl
        obtain ⟨_, _, _, _, _, rfl⟩ := h206.isl
        refine WX.seq ?_
        refine WX.reg ?_
        refine WO.q (.mv (v := .sl _ _ _ _ _ _) rfl) rfl rfl ?_
        refine WO.q (.mv (v := .sl _ _ _ _ _ _) rfl) rfl rfl ?_
        obtain ⟨y207, hy207, h⟩ := Option.bind_eq_some_iff.1 h
        refine WO.cS rfl rfl (gabionlaw15_same_ok h204 h205 hy207) rfl rfl rfl ?_
        rintro _ rfl
        refine WO.q (.r fun _ => rfl) rfl rfl ?_
        refine WO.nil ?_
        rcases bsp y207 with k208 | k208
        · replace h := (if_pos k208).symm.trans h
          refine WX.condF rfl (f_not k208) ?_
          refine WX.skip ?_
          refine WX.pop ?_
          refine WX.keep [2, 4, 31, 32, 33] (WX.pk [0] (by decide) ?_) rfl
          exact gabionlaw15_ExtGrows_j7_ok h hn hx0 hr hE _ _ _ ⟨hB, _, _, h206, rfl, rfl⟩
        · replace h := (if_neg (bnt k208)).symm.trans h
          refine WX.condT rfl (t_not k208) ?_
          refine WX.seq ?_
          refine WX.reg ?_
          refine WO.q (.as (v := .bool _) rfl) rfl rfl ?_
          refine WO.nil ?_
          obtain rfl := Option.some.inj h
          exact WX.ret (rs_ (rs_tmp rfl rs_nil)) fun st hp => hr _ hE _ _ ⟨(hp.pk [] (by decide)).le hB, rfl⟩
theorem gabionlaw15_ExtGrows_l0_s {B0 : Kn} {L : Own} {n0 : Nat} {x2 : Int} {x31 : List (List (Int × Int))} {zb4 : Int × Int} {x33 : Int} {Q : AV → St → Prop} {E : Int ⊕ (Bool ⊕ Unit) → Prop} {o : Int ⊕ (Bool ⊕ Unit)} (h : gabionlaw15_ExtGrows_l0 x2 x31 zb4 x33 = some o) (hn : ∀ s, E (.inl s) → WXI Try.prog 187 n0 (Fin Try.prog Try.f5.results.toList n0 Q) [.lp (ct [1, 0, 1, 0, 0] (bodyOf Try.f5)), .blk 0, .code (ct [1, 1] (bodyOf Try.f5))] (gabionlaw15_ExtGrows_l0_I B0 x2 x31 zb4 s) L) (hx0 : ∀ s, E (.inr (.inr s)) → WXI Try.prog 187 n0 (Fin Try.prog Try.f5.results.toList n0 Q) [.code (ct [1, 1] (bodyOf Try.f5))] (gabionlaw15_ExtGrows_l0_X0 B0) L) (hr : ∀ r, E (.inr (.inl r)) → ∀ v st, gabionlaw15_ExtGrows_P B0 L r v st → Q v st) (hE : E o) : WXI Try.prog 187 n0 (Fin Try.prog Try.f5.results.toList n0 Q) [.code (ct [1, 0, 1, 0, 0] (bodyOf Try.f5)), .lp (ct [1, 0, 1, 0, 0] (bodyOf Try.f5)), .blk 0, .code (ct [1, 1] (bodyOf Try.f5))] (gabionlaw15_ExtGrows_l0_I B0 x2 x31 zb4 x33) L := by
  unfold gabionlaw15_ExtGrows_l0 at h
  rintro _ B _ ⟨hB, b14, v15, h15, rfl, rfl⟩
  obtain ⟨_, _, _, _, _, rfl⟩ := h15.isl
  refine WX.seq ?_
  refine WX.reg ?_
  refine WO.q (.r fun _ => rfl) rfl rfl ?_
  refine WO.nil ?_
  refine WX.seq ?_
  rcases bsp (decide (x33 < (x31.length : Int))) with k16 | k16
  · have q_k16 := of_decide_eq_true k16
    replace h := (if_pos q_k16).symm.trans h
    refine WX.condT rfl k16 ?_
    refine WX.skip ?_
    refine WX.seq ?_
    refine WX.block ?_
    refine WX.seq ?_
    refine WX.reg ?_
    obtain ⟨y17, hy17, h⟩ := Option.bind_eq_some_iff.1 h
    obtain ⟨b_y17, o_y17, _, i_y17, p_y17, r_y17⟩ := h15.at sl43 hy17 .i64
    obtain ⟨w18, rfl, hw18⟩ := r_y17
    obtain ⟨_, _, _, _, _, rfl⟩ := hw18.isl
    refine WO.q (.ia i_y17) rfl rfl ?_
    refine WO.q (.lp0 rfl p_y17 rfl ti40 rfl) rfl rfl ?_
    refine WO.q (.as (v := .sl _ _ _ _ _ _) rfl) rfl rfl ?_
    refine WO.nil ?_
    refine WX.seq ?_
    refine WX.reg ?_
    refine WO.q (.mv (v := .sl _ _ _ _ _ _) rfl) rfl rfl ?_
    obtain ⟨y19, hy19, h⟩ := Option.bind_eq_some_iff.1 h
    refine WO.c1 rfl rfl (gabionlaw15_list_ok hw18 hy19) rfl rfl rfl ?_
    rintro _ B _ hK ⟨v25, v20, b21, n22, c23, rfl, h26, rfl, h24⟩
    obtain ⟨_, _, _, _, _, rfl⟩ := h26.isl
    obtain ⟨_, _, _, _, _, rfl⟩ := h24.isl
    replace h15 := h15.up hK
    replace hw18 := hw18.up hK
    replace hB := hB.trans hK
    refine WO.q (.mv (v := .tup _) rfl) rfl rfl ?_
    refine WO.q (.r fun _ => rfl) rfl rfl ?_
    refine WO.q (.r fun _ => rfl) rfl rfl ?_
    refine WO.q (.as (v := .sl _ _ _ _ _ _) rfl) rfl rfl ?_
    refine WO.q (.as (v := .sl _ _ _ _ _ _) rfl) rfl rfl ?_
    refine WO.nil ?_
    refine WX.seq ?_
    refine WX.seq ?_
    refine WX.reg ?_
    refine WO.q (.mv (v := .sl _ _ _ _ _ _) rfl) rfl rfl ?_
    obtain ⟨y27, hy27, h⟩ := Option.bind_eq_some_iff.1 h
    refine WO.cS rfl rfl (gabionref15_Right_ok h26 hy27) rfl rfl rfl ?_
    rintro _ rfl
    refine WO.q (.mv (v := .bool _) rfl) rfl rfl ?_
    rcases bsp y27 with k28 | k28
    · replace h := (if_pos k28).symm.trans h
      refine WO.q (.mv (v := .sl _ _ _ _ _ _) rfl) (wg rfl rfl (gt k28)) rfl ?_
      obtain ⟨y29, hy29, h⟩ := Option.bind_eq_some_iff.1 h
      refine WO.cS rfl rfl (lendC (j := 0) h24 rfl fun _ K31 g30 => ext_List_Blocks_ok g30 hy29) rfl (wg rfl rfl (gt k28)) rfl ?_
      rintro _ rfl
      refine WO.q (.r fun _ => rfl) (wg rfl rfl (gt k28)) rfl ?_
      refine WO.q (.ptv (v := .bool _) rfl k28 rfl) rfl rfl ?_
      refine WO.nil ?_
      refine WX.keep [2, 4, 9, 10, 31, 32, 33, 48] (WX.pk [1, 0] (by decide) ?_) rfl
      exact gabionlaw15_ExtGrows_j6_ok h hn hx0 hr hE _ _ _ ⟨hB, _, _, _, n22, _, _, _, h24, h26, h15, rfl, rfl⟩
    · replace h := (if_neg (bnt k28)).symm.trans h
      refine WO.sd (wg rfl rfl (gtn k28)) rfl ?_
      refine WO.sd (wg rfl rfl (gtn k28)) rfl ?_
      refine WO.sd (wg rfl rfl (gtn k28)) rfl ?_
      refine WO.q (.pfv (v := .bool _) rfl k28 rfl) rfl rfl ?_
      refine WO.nil ?_
      refine WX.keep [2, 4, 9, 10, 31, 32, 33, 48] (WX.pk [1, 0] (by decide) ?_) rfl
      exact gabionlaw15_ExtGrows_j6_ok h hn hx0 hr hE _ _ _ ⟨hB, _, _, _, n22, _, _, _, h24, h26, h15, rfl, rfl⟩
  · have q_k16 := of_decide_eq_false k16
    replace h := (if_neg q_k16).symm.trans h
    refine WX.condF rfl k16 ?_
    refine WX.exit rfl ?_
    refine WX.keep [] (WX.pk [] (by decide) ?_) rfl
    obtain rfl := Option.some.inj h
    exact hx0 _ hE _ _ _ ⟨hB, rfl, rfl⟩
theorem gabionlaw15_ExtGrows_l0_ok {B0 : Kn} {L : Own} {n0 : Nat} {x2 : Int} {x31 : List (List (Int × Int))} {zb4 : Int × Int} {x33 : Int} {Q : AV → St → Prop} {d : Nat} {e : Bool ⊕ Unit} (h : iter (fun (s : Int) => gabionlaw15_ExtGrows_l0 x2 x31 zb4 s) d x33 = some e) (g0 : ∀ r, e = (.inl r) → ∀ v st, gabionlaw15_ExtGrows_P B0 L r v st → Q v st) (g1 : ∀ s, e = (.inr s) → WXI Try.prog 187 n0 (Fin Try.prog Try.f5.results.toList n0 Q) [.code (ct [1, 1] (bodyOf Try.f5))] (gabionlaw15_ExtGrows_l0_X0 B0) L) : WXI Try.prog 187 n0 (Fin Try.prog Try.f5.results.toList n0 Q) [.code (ct [1, 0, 1, 0, 0] (bodyOf Try.f5)), .lp (ct [1, 0, 1, 0, 0] (bodyOf Try.f5)), .blk 0, .code (ct [1, 1] (bodyOf Try.f5))] (gabionlaw15_ExtGrows_l0_I B0 x2 x31 zb4 x33) L :=
  iter_ok (I := fun s => gabionlaw15_ExtGrows_l0_I B0 x2 x31 zb4 s) (D := fun e => (∀ r, e = (.inl r) → ∀ v st, gabionlaw15_ExtGrows_P B0 L r v st → Q v st) ∧ (∀ s, e = (.inr s) → WXI Try.prog 187 n0 (Fin Try.prog Try.f5.results.toList n0 Q) [.code (ct [1, 1] (bodyOf Try.f5))] (gabionlaw15_ExtGrows_l0_X0 B0) L)) (fun E hn hx s o ho hE => gabionlaw15_ExtGrows_l0_s ho hn (fun s hs => (hx _ hs).2 _ rfl) (fun r hs => (hx _ hs).1 _ rfl) hE) h ⟨g0, g1⟩
theorem gabionlaw15_ExtGrows_ok {B0 : Kn} {L : Own} {a0 : List (Int × Int)} {a1 : Int × Int} {a2 : Int} {v0_0 : AV} {r : Bool} (g0_0 : RSl EPIi64Ii64Q B0 v0_0 a0) (h : gabionlaw15_ExtGrows a0 a1 a2 = some r) : ∀ st, Hp B0 L st → ASpec Try.prog 5 [v0_0, .agg [.int .i64 a1.1, .int .i64 a1.2], .int .i64 a2] st (gabionlaw15_ExtGrows_P B0 L r) := by
  unfold gabionlaw15_ExtGrows at h
  refine bodyA (A := []) Try.func5 rfl (c := bodyOf Try.f5) rfl Try.ntmps5 (lb rfl) fun n0 => ?_
  have hB := KLe.refl B0
  obtain ⟨_, _, _, _, _, rfl⟩ := g0_0.isl
  refine WX.seq ?_
  refine WX.reg ?_
  refine WO.md (MOp.box (cA rfl)) rfl rfl ?_
  rintro _ _ ⟨b1, rfl, rfl⟩
  refine WO.q (.as (v := .bool _) rfl) rfl rfl ?_
  refine WO.nil ?_
  refine WX.seq ?_
  refine WX.seq ?_
  refine WX.reg ?_
  refine WO.q (.mv (v := .sl _ _ _ _ _ _) rfl) rfl rfl ?_
  refine WO.q (.mv (v := .sl _ _ _ _ _ _) rfl) rfl rfl ?_
  obtain ⟨y2, hy2, h⟩ := Option.bind_eq_some_iff.1 h
  refine WO.c1 rfl rfl (gabionlaw15_tame_ok g0_0 hy2) rfl rfl rfl ?_
  rintro _ B _ hK ⟨v3, b4, n5, c6, rfl, rfl, h7⟩
  obtain ⟨_, _, _, _, _, rfl⟩ := h7.isl
  replace g0_0 := g0_0.up hK
  replace hB := hB.trans hK
  refine WO.fz (j := 0) h7 rfl ?_
  intro B hK g8
  replace g0_0 := g0_0.up hK
  replace hB := hB.trans hK
  refine WO.md (MOp.bs (l := ([a0, y2] : List (List (Int × Int)))) sl43 (RL.cons (Rl g0_0) (RL.cons (Rl g8) RL.nil)) (lb rfl) rfl rfl) rfl rfl ?_
  rintro v11 _ ⟨b9, o10, rfl⟩
  obtain ⟨_, _, _, _, _, rfl⟩ := o10.isl
  refine WO.q (.len rfl rfl rfl (sl43.len o10.isl)) rfl rfl ?_
  refine WO.q (.mv (v := .int _ _) rfl) rfl rfl ?_
  refine WO.nil ?_
  refine WX.block ?_
  refine WX.loop ?_
  obtain ⟨e209, he209, h⟩ := Option.bind_eq_some_iff.1 h
  refine WX.fz (j := 0) o10 rfl ?_
  intro B hK g13
  replace hB := hB.trans hK
  refine WX.keep [2, 4, 31, 32, 33] (WX.pk [0] (by decide) ?_) rfl
  refine gabionlaw15_ExtGrows_l0_ok he209 ?_ ?_ _ _ _ ⟨hB, _, _, g13, rfl, rfl⟩
  · intro r211 he_
    subst he_
    replace h := (on_l h)
    obtain rfl := Option.some.inj h
    exact fun v st hp => hp
  · intro x212 he_
    subst he_
    replace h := (on_r h)
    rintro _ B _ ⟨hB, rfl, rfl⟩
    refine WX.seq ?_
    refine WX.reg ?_
    obtain ⟨y213, hy213, h⟩ := Option.bind_eq_some_iff.1 h
    refine WO.cS rfl rfl (gabionlaw15_wakes_ok hy213) rfl rfl rfl ?_
    rintro _ rfl
    refine WO.q (.as (v := .bool _) rfl) rfl rfl ?_
    refine WO.nil ?_
    obtain rfl := Option.some.inj h
    exact WX.ret (rs_ (rs_tmp rfl rs_nil)) fun st hp => ⟨(hp.pk [] (by decide)).le hB, rfl⟩
end Gab
