/- The Go code comes to what the Lean functions say. Written by a program (gp.py). -/
import Derived.Test.YtdkldojcpncnhaaFd
import Derived.Test.YtdkldojcpncnhaaTy
import Derived.Test.YtdkldojcpncnhaaFpAlloc0
import Derived.Test.YtdkldojcpncnhaaFpAlloc1
import Derived.Test.YtdkldojcpncnhaaFpAlloc2
import Derived.Test.YtdkldojcpncnhaaFpAlloc3
import Derived.Test.YtdkldojcpncnhaaFpLaw140
import Derived.Test.YtdkldojcpncnhaaFpLaw141
import Derived.Test.YtdkldojcpncnhaaFpRef140
import Derived.Test.YtdkldojcpncnhaaFpRef141
set_option linter.unusedSimpArgs false
set_option linter.unusedVariables false
set_option maxHeartbeats 4000000
set_option maxRecDepth 100000
namespace Gab
open Go Go.Proofs
def gabionlaw14_AllocPlays_P (B : Kn) (L : Own) (r : Bool) : AV → St → Prop := CS B L fun v => v = .bool r
def gabionlaw14_AllocPlays_l0_I (B0 : Kn) (x1 : List (Int × Int × Int)) (x6 : Int) (zb5 : Int × (List (Int × Int))) (x7 : List Bool) (x30 : Int) (x31 : Int) : Fr → Kn → Own → Prop := fun fr B A => KLe B0 B ∧ ∃ b12 v13 b13 n13 c13 v14 v15 b15 n15 c15, OSl EPIi64Ii64Q B v13 b13 n13 c13 zb5.2 ∧ RSl EPIi64Ii64Ii64Q B v14 x1 ∧ OSl Ty.bool B v15 b15 n15 c15 x7 ∧ fr = [(1, v14), (5, .ptr b12 0), (6, .int .i64 x6), (7, v15), (30, .int .i64 x30), (31, .int .i64 x31)] ∧ A = [(b12, some [.int .i64 zb5.1, v13]), oe b13 n13 c13, oe b15 n15 c15]
def gabionlaw14_AllocPlays_l0_X0 (B0 : Kn) (x1 : List (Int × Int × Int)) (x6 : Int) (x7 : List Bool) (zb5 : Int × (List (Int × Int))) : Fr → Kn → Own → Prop := fun fr B A => KLe B0 B ∧ ∃ b181 v182 b182 n182 c182 v183 v184 b184 n184 c184, OSl EPIi64Ii64Q B v182 b182 n182 c182 zb5.2 ∧ RSl EPIi64Ii64Ii64Q B v183 x1 ∧ OSl Ty.bool B v184 b184 n184 c184 x7 ∧ fr = [(1, v183), (5, .ptr b181 0), (6, .int .i64 x6), (7, v184)] ∧ A = [(b181, some [.int .i64 zb5.1, v182]), oe b182 n182 c182, oe b184 n184 c184]
def gabionlaw14_AllocPlays_j28_I (B0 : Kn) (x7 : List Bool) (x54 : List (Int × Int × Int)) (x56 : Int) (zb5 : Int × (List (Int × Int))) : Fr → Kn → Own → Prop := fun fr B A => KLe B0 B ∧ ∃ b81 v82 v83 v84, RSl EPIi64Ii64Q B v82 zb5.2 ∧ RSl Ty.bool B v83 x7 ∧ RSl EPIi64Ii64Ii64Q B v84 x54 ∧ fr = [(5, .ptr b81 0), (7, v83), (54, v84), (55, .int .i64 (x54.length : Int)), (56, .int .i64 x56)] ∧ A = [(b81, some [.int .i64 zb5.1, v82])]
def gabionlaw14_AllocPlays_j25_I (B0 : Kn) (x7 : List Bool) (x14 : List Bool) (x15 : Int) (x54 : List (Int × Int × Int)) (x56 : Int) (x188 : Bool) (zb5 : Int × (List (Int × Int))) (zb12 : Int × (List (Int × Int))) : Fr → Kn → Own → Prop := fun fr B A => KLe B0 B ∧ ∃ b72 v73 b74 v75 v76 v77 v78, RSl EPIi64Ii64Q B v73 zb5.2 ∧ RSl EPIi64Ii64Q B v75 zb12.2 ∧ RSl Ty.bool B v76 x7 ∧ RSl Ty.bool B v77 x14 ∧ RSl EPIi64Ii64Ii64Q B v78 x54 ∧ fr = [(5, .ptr b72 0), (7, v76), (12, .ptr b74 0), (14, v77), (15, .int .i64 x15), (54, v78), (55, .int .i64 (x54.length : Int)), (56, .int .i64 x56), (188, .bool x188)] ∧ A = [(b72, some [.int .i64 zb5.1, v73]), (b74, some [.int .i64 zb12.1, v75])]
def gabionlaw14_AllocPlays_j24_I (B0 : Kn) (x7 : List Bool) (x13 : Int) (x14 : List Bool) (x15 : Int) (x54 : List (Int × Int × Int)) (x56 : Int) (zb5 : Int × (List (Int × Int))) (zb12 : Int × (List (Int × Int))) : Fr → Kn → Own → Prop := fun fr B A => KLe B0 B ∧ ∃ b64 v65 b66 v67 v68 v69 v70, RSl EPIi64Ii64Q B v65 zb5.2 ∧ RSl EPIi64Ii64Q B v67 zb12.2 ∧ RSl Ty.bool B v68 x7 ∧ RSl Ty.bool B v69 x14 ∧ RSl EPIi64Ii64Ii64Q B v70 x54 ∧ fr = [(5, .ptr b64 0), (7, v68), (12, .ptr b66 0), (13, .int .i64 x13), (14, v69), (15, .int .i64 x15), (54, v70), (55, .int .i64 (x54.length : Int)), (56, .int .i64 x56)] ∧ A = [(b64, some [.int .i64 zb5.1, v65]), (b66, some [.int .i64 zb12.1, v67])]
def gabionlaw14_AllocPlays_j42_I (B0 : Kn) (x7 : List Bool) (x13 : Int) (x14 : List Bool) (x15 : Int) (x16 : List (Int × Int)) (x17 : List (Int × Int)) (x54 : List (Int × Int × Int)) (x56 : Int) (x128 : Int) (x154 : Bool) (zb5 : Int × (List (Int × Int))) (zb12 : Int × (List (Int × Int))) : Fr → Kn → Own → Prop := fun fr B A => KLe B0 B ∧ ∃ b141 v142 b143 v144 v145 v146 v147 v148 b148 n148 c148 v149, RSl EPIi64Ii64Q B v142 zb5.2 ∧ RSl EPIi64Ii64Q B v144 zb12.2 ∧ RSl Ty.bool B v145 x7 ∧ RSl Ty.bool B v146 x14 ∧ RSl EPIi64Ii64Q B v147 x16 ∧ OSl EPIi64Ii64Q B v148 b148 n148 c148 x17 ∧ RSl EPIi64Ii64Ii64Q B v149 x54 ∧ fr = [(5, .ptr b141 0), (7, v145), (12, .ptr b143 0), (13, .int .i64 x13), (14, v146), (15, .int .i64 x15), (16, v147), (17, v148), (54, v149), (55, .int .i64 (x54.length : Int)), (56, .int .i64 x56), (127, .int .i64 (x16.length : Int)), (128, .int .i64 x128), (154, .bool x154)] ∧ A = [(b141, some [.int .i64 zb5.1, v142]), (b143, some [.int .i64 zb12.1, v144]), oe b148 n148 c148]
def gabionlaw14_AllocPlays_l2_I (B0 : Kn) (x7 : List Bool) (x13 : Int) (x14 : List Bool) (x15 : Int) (x16 : List (Int × Int)) (x17 : List (Int × Int)) (x54 : List (Int × Int × Int)) (zb5 : Int × (List (Int × Int))) (zb12 : Int × (List (Int × Int))) (x56 : Int) (x128 : Int) : Fr → Kn → Own → Prop := fun fr B A => KLe B0 B ∧ ∃ b128 v129 b130 v131 v132 v133 v134 v135 b135 n135 c135 v136, RSl EPIi64Ii64Q B v129 zb5.2 ∧ RSl EPIi64Ii64Q B v131 zb12.2 ∧ RSl Ty.bool B v132 x7 ∧ RSl Ty.bool B v133 x14 ∧ RSl EPIi64Ii64Q B v134 x16 ∧ OSl EPIi64Ii64Q B v135 b135 n135 c135 x17 ∧ RSl EPIi64Ii64Ii64Q B v136 x54 ∧ fr = [(5, .ptr b128 0), (7, v132), (12, .ptr b130 0), (13, .int .i64 x13), (14, v133), (15, .int .i64 x15), (16, v134), (17, v135), (54, v136), (55, .int .i64 (x54.length : Int)), (56, .int .i64 x56), (127, .int .i64 (x16.length : Int)), (128, .int .i64 x128)] ∧ A = [(b128, some [.int .i64 zb5.1, v129]), (b130, some [.int .i64 zb12.1, v131]), oe b135 n135 c135]
def gabionlaw14_AllocPlays_l2_X0 (B0 : Kn) (x7 : List Bool) (x13 : Int) (x14 : List Bool) (x15 : Int) (x54 : List (Int × Int × Int)) (x56 : Int) (zb5 : Int × (List (Int × Int))) (zb12 : Int × (List (Int × Int))) : Fr → Kn → Own → Prop := fun fr B A => KLe B0 B ∧ ∃ b185 v186 b187 v188 v189 v190 v191, RSl EPIi64Ii64Q B v186 zb5.2 ∧ RSl EPIi64Ii64Q B v188 zb12.2 ∧ RSl Ty.bool B v189 x7 ∧ RSl Ty.bool B v190 x14 ∧ RSl EPIi64Ii64Ii64Q B v191 x54 ∧ fr = [(5, .ptr b185 0), (7, v189), (12, .ptr b187 0), (13, .int .i64 x13), (14, v190), (15, .int .i64 x15), (54, v191), (55, .int .i64 (x54.length : Int)), (56, .int .i64 x56)] ∧ A = [(b185, some [.int .i64 zb5.1, v186]), (b187, some [.int .i64 zb12.1, v188])]
def gabionlaw14_AllocPlays_l1_I (B0 : Kn) (x54 : List (Int × Int × Int)) (x7 : List Bool) (x56 : Int) (zb5 : Int × (List (Int × Int))) : Fr → Kn → Own → Prop := fun fr B A => KLe B0 B ∧ ∃ b40 v41 v42 v43, RSl EPIi64Ii64Q B v41 zb5.2 ∧ RSl Ty.bool B v42 x7 ∧ RSl EPIi64Ii64Ii64Q B v43 x54 ∧ fr = [(5, .ptr b40 0), (7, v42), (54, v43), (55, .int .i64 (x54.length : Int)), (56, .int .i64 x56)] ∧ A = [(b40, some [.int .i64 zb5.1, v41])]
def gabionlaw14_AllocPlays_l1_X0 (B0 : Kn) : Fr → Kn → Own → Prop := fun fr B A => KLe B0 B ∧ fr = [] ∧ A = []
def gabionlaw14_AllocPlays_j10_I (B0 : Kn) (x1 : List (Int × Int × Int)) (x7 : List Bool) (x49 : Bool) (zb5 : Int × (List (Int × Int))) : Fr → Kn → Own → Prop := fun fr B A => KLe B0 B ∧ ∃ b32 v33 b33 n33 c33 v34 v35 b35 n35 c35, OSl EPIi64Ii64Q B v33 b33 n33 c33 zb5.2 ∧ RSl EPIi64Ii64Ii64Q B v34 x1 ∧ OSl Ty.bool B v35 b35 n35 c35 x7 ∧ fr = [(1, v34), (5, .ptr b32 0), (7, v35), (49, .bool x49)] ∧ A = [(b32, some [.int .i64 zb5.1, v33]), oe b33 n33 c33, oe b35 n35 c35]
theorem gabionlaw14_AllocPlays_l0_s {B0 : Kn} {L : Own} {n0 : Nat} {x1 : List (Int × Int × Int)} {x6 : Int} {zb5 : Int × (List (Int × Int))} {x7 : List Bool} {x30 : Int} {x31 : Int} {Q : AV → St → Prop} {E : ((List Bool) × Int × Int) ⊕ (List Bool) → Prop} {o : ((List Bool) × Int × Int) ⊕ (List Bool)} (h : gabionlaw14_AllocPlays_l0 x1 x6 zb5 x7 x30 x31 = some o) (hn : ∀ s, E (.inl s) → WXI Try.prog 194 n0 (Fin Try.prog Try.f8.results.toList n0 Q) [.lp (ct [1, 1, 1, 1, 0, 1, 0, 0] (bodyOf Try.f8)), .blk 0, .code (ct [1, 1, 1, 1, 1] (bodyOf Try.f8))] (gabionlaw14_AllocPlays_l0_I B0 x1 x6 zb5 s.1 s.2.1 s.2.2) L) (hx0 : ∀ s, E (.inr s) → WXI Try.prog 194 n0 (Fin Try.prog Try.f8.results.toList n0 Q) [.code (ct [1, 1, 1, 1, 1] (bodyOf Try.f8))] (gabionlaw14_AllocPlays_l0_X0 B0 x1 x6 s zb5) L) (hE : E o) : WXI Try.prog 194 n0 (Fin Try.prog Try.f8.results.toList n0 Q) [.code (ct [1, 1, 1, 1, 0, 1, 0, 0] (bodyOf Try.f8)), .lp (ct [1, 1, 1, 1, 0, 1, 0, 0] (bodyOf Try.f8)), .blk 0, .code (ct [1, 1, 1, 1, 1] (bodyOf Try.f8))] (gabionlaw14_AllocPlays_l0_I B0 x1 x6 zb5 x7 x30 x31) L := by
  unfold gabionlaw14_AllocPlays_l0 at h
  rintro _ B _ ⟨hB, b12, v13, b13, n13, c13, v14, v15, b15, n15, c15, h13, h14, h15, rfl, rfl⟩
  obtain ⟨_, _, _, _, _, rfl⟩ := h13.isl
  obtain ⟨_, _, _, _, _, rfl⟩ := h14.isl
  obtain ⟨_, _, _, _, _, rfl⟩ := h15.isl
  refine WX.seq ?_
  refine WX.reg ?_
  refine WO.q (.r fun _ => rfl) rfl rfl ?_
  refine WO.nil ?_
  refine WX.seq ?_
  rcases bsp (decide (x31 < x30)) with k16 | k16
  · have q_k16 := of_decide_eq_true k16
    replace h := (if_pos q_k16).symm.trans h
    refine WX.condT rfl k16 ?_
    refine WX.skip ?_
    refine WX.seq ?_
    refine WX.block ?_
    refine WX.seq ?_
    refine WX.reg ?_
    refine WO.q (.mv (v := .int _ _) rfl) rfl rfl ?_
    refine WO.q (.as (v := .int _ _) rfl) rfl rfl ?_
    refine WO.nil ?_
    refine WX.reg ?_
    refine WO.q (.mv (v := .sl _ _ _ _ _ _) rfl) rfl rfl ?_
    refine WO.q (.mv (v := .int _ _) rfl) rfl rfl ?_
    obtain ⟨y17, hy17, h⟩ := Option.bind_eq_some_iff.1 h
    obtain rfl := h15.nonnil hy17
    obtain ⟨_, i_y17, l_y17, r_y17⟩ := h15.at sl66 hy17 .i64
    obtain rfl := r_y17
    refine WO.q (.ia i_y17) rfl rfl ?_
    refine WO.mn (MOp.ostW (x' := true) rfl (cB rfl) (fun _ => (.t (.t .h))) ti4 rfl rfl h15 hy17 Rb) rfl ?_
    rintro _ _ ⟨c19, o18, rfl⟩
    refine WO.nil ?_
    refine WX.pop ?_
    refine WX.reg ?_
    refine WO.q (.r fun _ => rfl) rfl rfl ?_
    refine WO.q (.mv (v := .int _ _) rfl) rfl rfl ?_
    refine WO.nil ?_
    refine WX.keepL [1, 5, 6, 7, 30, 31] (WX.pk [0, 1, 2] (by decide) ?_) rfl
    obtain rfl := Option.some.inj h
    exact hn _ hE _ _ _ ⟨hB, _, _, _, n13, _, _, _, _, false, _, h13, h14, o18, rfl, rfl⟩
  · have q_k16 := of_decide_eq_false k16
    replace h := (if_neg q_k16).symm.trans h
    refine WX.condF rfl k16 ?_
    refine WX.exit rfl ?_
    refine WX.keep [1, 5, 6, 7] (WX.pk [0, 1, 2] (by decide) ?_) rfl
    obtain rfl := Option.some.inj h
    exact hx0 _ hE _ _ _ ⟨hB, _, _, _, n13, _, _, _, _, n15, _, h13, h14, h15, rfl, rfl⟩
theorem gabionlaw14_AllocPlays_l0_ok {B0 : Kn} {L : Own} {n0 : Nat} {x1 : List (Int × Int × Int)} {x6 : Int} {zb5 : Int × (List (Int × Int))} {x7 : List Bool} {x30 : Int} {x31 : Int} {Q : AV → St → Prop} {d : Nat} {e : (List Bool)} (h : iter (fun (s : (List Bool) × Int × Int) => gabionlaw14_AllocPlays_l0 x1 x6 zb5 s.1 s.2.1 s.2.2) d (x7, x30, x31) = some e) (g0 : ∀ s, e = s → WXI Try.prog 194 n0 (Fin Try.prog Try.f8.results.toList n0 Q) [.code (ct [1, 1, 1, 1, 1] (bodyOf Try.f8))] (gabionlaw14_AllocPlays_l0_X0 B0 x1 x6 s zb5) L) : WXI Try.prog 194 n0 (Fin Try.prog Try.f8.results.toList n0 Q) [.code (ct [1, 1, 1, 1, 0, 1, 0, 0] (bodyOf Try.f8)), .lp (ct [1, 1, 1, 1, 0, 1, 0, 0] (bodyOf Try.f8)), .blk 0, .code (ct [1, 1, 1, 1, 1] (bodyOf Try.f8))] (gabionlaw14_AllocPlays_l0_I B0 x1 x6 zb5 x7 x30 x31) L :=
  iter_ok (I := fun s => gabionlaw14_AllocPlays_l0_I B0 x1 x6 zb5 s.1 s.2.1 s.2.2) (D := fun e => (∀ s, e = s → WXI Try.prog 194 n0 (Fin Try.prog Try.f8.results.toList n0 Q) [.code (ct [1, 1, 1, 1, 1] (bodyOf Try.f8))] (gabionlaw14_AllocPlays_l0_X0 B0 x1 x6 s zb5) L)) (fun E hn hx s o ho hE => gabionlaw14_AllocPlays_l0_s ho hn (fun s hs => (hx _ hs) _ rfl)  hE) h g0
theorem gabionlaw14_AllocPlays_j28_ok {B0 : Kn} {L : Own} {n0 : Nat} {x7 : List Bool} {x54 : List (Int × Int × Int)} {x56 : Int} {zb5 : Int × (List (Int × Int))} {Q : AV → St → Prop} {E : ((List Bool) × Int × (Int × (List (Int × Int)))) ⊕ (Bool ⊕ Unit) → Prop} {o : ((List Bool) × Int × (Int × (List (Int × Int)))) ⊕ (Bool ⊕ Unit)} (h : gabionlaw14_AllocPlays_j28 x7 x54 x56 zb5 = some o) (hn : ∀ s, E (.inl s) → WXI Try.prog 194 n0 (Fin Try.prog Try.f8.results.toList n0 Q) [.lp (ct [1, 1, 1, 1, 1, 1, 0, 1, 0, 0] (bodyOf Try.f8)), .blk 2, .code (ct [1, 1, 1, 1, 1, 1, 1] (bodyOf Try.f8))] (gabionlaw14_AllocPlays_l1_I B0 x54 s.1 s.2.1 s.2.2) L) (hx0 : ∀ s, E (.inr (.inr s)) → WXI Try.prog 194 n0 (Fin Try.prog Try.f8.results.toList n0 Q) [.code (ct [1, 1, 1, 1, 1, 1, 1] (bodyOf Try.f8))] (gabionlaw14_AllocPlays_l1_X0 B0) L) (hr : ∀ r, E (.inr (.inl r)) → ∀ v st, gabionlaw14_AllocPlays_P B0 L r v st → Q v st) (hE : E o) : WXI Try.prog 194 n0 (Fin Try.prog Try.f8.results.toList n0 Q) [.code (ct [1, 1, 1, 1, 1, 1, 0, 1, 0, 0, 1, 1, 1] (bodyOf Try.f8)), .lp (ct [1, 1, 1, 1, 1, 1, 0, 1, 0, 0] (bodyOf Try.f8)), .blk 2, .code (ct [1, 1, 1, 1, 1, 1, 1] (bodyOf Try.f8))] (gabionlaw14_AllocPlays_j28_I B0 x7 x54 x56 zb5) L := by
  unfold gabionlaw14_AllocPlays_j28 at h
  rintro _ B _ ⟨hB, b81, v82, v83, v84, h82, h83, h84, rfl, rfl⟩
  obtain ⟨_, _, _, _, _, rfl⟩ := h82.isl
  obtain ⟨_, _, _, _, _, rfl⟩ := h83.isl
  obtain ⟨_, _, _, _, _, rfl⟩ := h84.isl
  refine WX.reg ?_
  refine WO.q (.r fun _ => rfl) rfl rfl ?_
  refine WO.q (.mv (v := .int _ _) rfl) rfl rfl ?_
  refine WO.nil ?_
  refine WX.keepL [5, 7, 54, 55, 56] (WX.pk [0] (by decide) ?_) rfl
  obtain rfl := Option.some.inj h
  exact hn _ hE _ _ _ ⟨hB, _, _, _, _, h82, h83, h84, rfl, rfl⟩
theorem gabionlaw14_AllocPlays_j25_ok {B0 : Kn} {L : Own} {n0 : Nat} {x7 : List Bool} {x14 : List Bool} {x15 : Int} {x54 : List (Int × Int × Int)} {x56 : Int} {x188 : Bool} {zb5 : Int × (List (Int × Int))} {zb12 : Int × (List (Int × Int))} {Q : AV → St → Prop} {E : ((List Bool) × Int × (Int × (List (Int × Int)))) ⊕ (Bool ⊕ Unit) → Prop} {o : ((List Bool) × Int × (Int × (List (Int × Int)))) ⊕ (Bool ⊕ Unit)} (h : gabionlaw14_AllocPlays_j25 x7 x14 x15 x54 x56 x188 zb5 zb12 = some o) (hn : ∀ s, E (.inl s) → WXI Try.prog 194 n0 (Fin Try.prog Try.f8.results.toList n0 Q) [.lp (ct [1, 1, 1, 1, 1, 1, 0, 1, 0, 0] (bodyOf Try.f8)), .blk 2, .code (ct [1, 1, 1, 1, 1, 1, 1] (bodyOf Try.f8))] (gabionlaw14_AllocPlays_l1_I B0 x54 s.1 s.2.1 s.2.2) L) (hx0 : ∀ s, E (.inr (.inr s)) → WXI Try.prog 194 n0 (Fin Try.prog Try.f8.results.toList n0 Q) [.code (ct [1, 1, 1, 1, 1, 1, 1] (bodyOf Try.f8))] (gabionlaw14_AllocPlays_l1_X0 B0) L) (hr : ∀ r, E (.inr (.inl r)) → ∀ v st, gabionlaw14_AllocPlays_P B0 L r v st → Q v st) (hE : E o) : WXI Try.prog 194 n0 (Fin Try.prog Try.f8.results.toList n0 Q) [.code (ct [1, 1, 1, 1, 1, 1, 0, 1, 0, 0, 1, 1, 0, 0, 1, 1, 1, 1, 1, 1, 1, 0, 1] (bodyOf Try.f8)), .code (ct [1, 1, 1, 1, 1, 1, 0, 1, 0, 0, 1, 1, 0, 0, 1, 1, 1, 1, 1, 1, 1, 1] (bodyOf Try.f8)), .blk 3, .code (ct [1, 1, 1, 1, 1, 1, 0, 1, 0, 0, 1, 1, 1] (bodyOf Try.f8)), .lp (ct [1, 1, 1, 1, 1, 1, 0, 1, 0, 0] (bodyOf Try.f8)), .blk 2, .code (ct [1, 1, 1, 1, 1, 1, 1] (bodyOf Try.f8))] (gabionlaw14_AllocPlays_j25_I B0 x7 x14 x15 x54 x56 x188 zb5 zb12) L := by
  unfold gabionlaw14_AllocPlays_j25 at h
  rintro _ B _ ⟨hB, b72, v73, b74, v75, v76, v77, v78, h73, h75, h76, h77, h78, rfl, rfl⟩
  obtain ⟨_, _, _, _, _, rfl⟩ := h73.isl
  obtain ⟨_, _, _, _, _, rfl⟩ := h75.isl
  obtain ⟨_, _, _, _, _, rfl⟩ := h76.isl
  obtain ⟨_, _, _, _, _, rfl⟩ := h77.isl
  obtain ⟨_, _, _, _, _, rfl⟩ := h78.isl
  rcases bsp x188 with k79 | k79
  · replace h := (if_pos k79).symm.trans h
    refine WX.condT rfl k79 ?_
    refine WX.seq ?_
    refine WX.reg ?_
    refine WO.q (.as (v := .bool _) rfl) rfl rfl ?_
    refine WO.nil ?_
    obtain rfl := Option.some.inj h
    exact WX.ret (rs_ (rs_tmp rfl rs_nil)) fun st hp => hr _ hE _ _ ⟨(hp.pk [] (by decide)).le hB, rfl⟩
  · replace h := (if_neg (bnt k79)).symm.trans h
    refine WX.condF rfl k79 ?_
    refine WX.skip ?_
    refine WX.seq ?_
    refine WX.reg ?_
    refine WO.q (.mv (v := .int _ _) rfl) rfl rfl ?_
    refine WO.q (.r fun _ => rfl) rfl rfl ?_
    refine WO.nil ?_
    rcases bsp (decide (x15 = 0)) with k80 | k80
    · have q_k80 := of_decide_eq_true k80
      replace h := (if_pos q_k80).symm.trans h
      refine WX.condT rfl k80 ?_
      refine WX.reg ?_
      refine WO.q (.ldA (i := 1) rfl rfl rfl ti25 rfl) rfl rfl ?_
      refine WO.q (.mv (v := .sl _ _ _ _ _ _) rfl) rfl rfl ?_
      refine WO.mn (MOp.storeW rfl (cA rfl) .h ti25 rfl rfl rfl) rfl ?_
      rintro _ _ rfl
      refine WO.q (.as (v := .sl _ _ _ _ _ _) rfl) rfl rfl ?_
      refine WO.nil ?_
      refine WX.pop ?_
      refine WX.keep [5, 7, 54, 55, 56] (WX.pk [0] (by decide) ?_) rfl
      exact gabionlaw14_AllocPlays_j28_ok h hn hx0 hr hE _ _ _ ⟨hB, _, _, _, _, h75, h77, h78, rfl, rfl⟩
    · have q_k80 := of_decide_eq_false k80
      replace h := (if_neg q_k80).symm.trans h
      refine WX.condF rfl k80 ?_
      refine WX.skip ?_
      refine WX.pop ?_
      refine WX.keep [5, 7, 54, 55, 56] (WX.pk [0] (by decide) ?_) rfl
      exact gabionlaw14_AllocPlays_j28_ok h hn hx0 hr hE _ _ _ ⟨hB, _, _, _, _, h73, h76, h78, rfl, rfl⟩
theorem gabionlaw14_AllocPlays_j24_ok {B0 : Kn} {L : Own} {n0 : Nat} {x7 : List Bool} {x13 : Int} {x14 : List Bool} {x15 : Int} {x54 : List (Int × Int × Int)} {x56 : Int} {zb5 : Int × (List (Int × Int))} {zb12 : Int × (List (Int × Int))} {Q : AV → St → Prop} {E : ((List Bool) × Int × (Int × (List (Int × Int)))) ⊕ (Bool ⊕ Unit) → Prop} {o : ((List Bool) × Int × (Int × (List (Int × Int)))) ⊕ (Bool ⊕ Unit)} (h : gabionlaw14_AllocPlays_j24 x7 x13 x14 x15 x54 x56 zb5 zb12 = some o) (hn : ∀ s, E (.inl s) → WXI Try.prog 194 n0 (Fin Try.prog Try.f8.results.toList n0 Q) [.lp (ct [1, 1, 1, 1, 1, 1, 0, 1, 0, 0] (bodyOf Try.f8)), .blk 2, .code (ct [1, 1, 1, 1, 1, 1, 1] (bodyOf Try.f8))] (gabionlaw14_AllocPlays_l1_I B0 x54 s.1 s.2.1 s.2.2) L) (hx0 : ∀ s, E (.inr (.inr s)) → WXI Try.prog 194 n0 (Fin Try.prog Try.f8.results.toList n0 Q) [.code (ct [1, 1, 1, 1, 1, 1, 1] (bodyOf Try.f8))] (gabionlaw14_AllocPlays_l1_X0 B0) L) (hr : ∀ r, E (.inr (.inl r)) → ∀ v st, gabionlaw14_AllocPlays_P B0 L r v st → Q v st) (hE : E o) : WXI Try.prog 194 n0 (Fin Try.prog Try.f8.results.toList n0 Q) [.code (ct [1, 1, 1, 1, 1, 1, 0, 1, 0, 0, 1, 1, 0, 0, 1, 1, 1, 1, 1, 1, 1] (bodyOf Try.f8)), .blk 3, .code (ct [1, 1, 1, 1, 1, 1, 0, 1, 0, 0, 1, 1, 1] (bodyOf Try.f8)), .lp (ct [1, 1, 1, 1, 1, 1, 0, 1, 0, 0] (bodyOf Try.f8)), .blk 2, .code (ct [1, 1, 1, 1, 1, 1, 1] (bodyOf Try.f8))] (gabionlaw14_AllocPlays_j24_I B0 x7 x13 x14 x15 x54 x56 zb5 zb12) L := by
  unfold gabionlaw14_AllocPlays_j24 at h
  rintro _ B _ ⟨hB, b64, v65, b66, v67, v68, v69, v70, h65, h67, h68, h69, h70, rfl, rfl⟩
  obtain ⟨_, _, _, _, _, rfl⟩ := h65.isl
  obtain ⟨_, _, _, _, _, rfl⟩ := h67.isl
  obtain ⟨_, _, _, _, _, rfl⟩ := h68.isl
  obtain ⟨_, _, _, _, _, rfl⟩ := h69.isl
  obtain ⟨_, _, _, _, _, rfl⟩ := h70.isl
  refine WX.seq ?_
  refine WX.seq ?_
  refine WX.reg ?_
  refine WO.q (.mv (v := .int _ _) rfl) rfl rfl ?_
  refine WO.q (.mv (v := .int _ _) rfl) rfl rfl ?_
  refine WO.q (.r fun _ => rfl) rfl rfl ?_
  refine WO.q (.mv (v := .bool _) rfl) rfl rfl ?_
  rcases bsp (decide (x13 ≠ x15)) with k71 | k71
  · have q_k71 := of_decide_eq_true k71
    replace h := (if_pos q_k71).symm.trans h
    refine WO.sd (wg rfl rfl (gfn k71)) rfl ?_
    refine WO.sd (wg rfl rfl (gfn k71)) rfl ?_
    refine WO.sd (wg rfl rfl (gfn k71)) rfl ?_
    refine WO.sd (wg rfl rfl (gfn k71)) rfl ?_
    refine WO.q (.ptv (v := .bool _) rfl k71 rfl) rfl rfl ?_
    refine WO.q (.mv (v := .bool _) rfl) rfl rfl ?_
    refine WO.sd (wg rfl rfl (gfn rfl)) rfl ?_
    refine WO.sd (wg rfl rfl (gfn rfl)) rfl ?_
    refine WO.sd (wg rfl rfl (gfn rfl)) rfl ?_
    refine WO.sd (wgu rfl rfl) rfl ?_
    refine WO.sd (wgu rfl rfl) rfl ?_
    refine WO.sd (wgu rfl rfl) rfl ?_
    refine WO.sd (wgu rfl rfl) rfl ?_
    refine WO.sd (wg rfl rfl (gfn rfl)) rfl ?_
    refine WO.q (.ptv (v := .bool _) rfl rfl rfl) rfl rfl ?_
    refine WO.q (.mv (v := .bool _) rfl) rfl rfl ?_
    refine WO.sd (wg rfl rfl (gfn rfl)) rfl ?_
    refine WO.sd (wg rfl rfl (gfn rfl)) rfl ?_
    refine WO.sd (wg rfl rfl (gfn rfl)) rfl ?_
    refine WO.sd (wgu rfl rfl) rfl ?_
    refine WO.sd (wgu rfl rfl) rfl ?_
    refine WO.sd (wgu rfl rfl) rfl ?_
    refine WO.sd (wgu rfl rfl) rfl ?_
    refine WO.sd (wgu rfl rfl) rfl ?_
    refine WO.sd (wgu rfl rfl) rfl ?_
    refine WO.sd (wgu rfl rfl) rfl ?_
    refine WO.sd (wgu rfl rfl) rfl ?_
    refine WO.sd (wg rfl rfl (gfn rfl)) rfl ?_
    refine WO.q (.ptv (v := .bool _) rfl rfl rfl) rfl rfl ?_
    refine WO.nil ?_
    refine WX.keep [5, 7, 12, 14, 15, 54, 55, 56, 188] (WX.pk [0, 1] (by decide) ?_) rfl
    exact gabionlaw14_AllocPlays_j25_ok h hn hx0 hr hE _ _ _ ⟨hB, _, _, _, _, _, _, _, h65, h67, h68, h69, h70, rfl, rfl⟩
  · have q_k71 := of_decide_eq_false k71
    replace h := (if_neg q_k71).symm.trans h
    refine WO.q (.ldA (i := 0) rfl rfl rfl ti25 rfl) (wg rfl rfl (gf k71)) rfl ?_
    refine WO.q (.mv (v := .sl _ _ _ _ _ _) rfl) (wg rfl rfl (gf k71)) rfl ?_
    obtain ⟨y85, hy85, h⟩ := Option.bind_eq_some_iff.1 h
    refine WO.cS rfl rfl (gabionlaw14_same_ok h65 h68 hy85) rfl (wg rfl rfl (gf k71)) rfl ?_
    rintro _ rfl
    refine WO.q (.r fun _ => rfl) (wg rfl rfl (gf k71)) rfl ?_
    refine WO.q (.pfv (v := .bool _) rfl k71 rfl) rfl rfl ?_
    refine WO.q (.mv (v := .bool _) rfl) rfl rfl ?_
    rcases bsp y85 with k86 | k86
    · replace h := (if_pos k86).symm.trans h
      refine WO.q (.mv (v := .int _ _) rfl) (wg rfl rfl (gf (f_not k86))) rfl ?_
      refine WO.q (.r fun _ => rfl) (wg rfl rfl (gf (f_not k86))) rfl ?_
      refine WO.q (.mv (v := .bool _) rfl) (wg rfl rfl (gf (f_not k86))) rfl ?_
      rcases bsp (decide (x15 = 0)) with k87 | k87
      · have q_k87 := of_decide_eq_true k87
        replace h := (if_pos q_k87).symm.trans h
        refine WO.q (.ldA (i := 1) rfl rfl rfl ti25 rfl) (wg rfl rfl (gt k87)) rfl ?_
        refine WO.q (.mv (v := .sl _ _ _ _ _ _) rfl) (wg rfl rfl (gt k87)) rfl ?_
        obtain ⟨y88, hy88, h⟩ := Option.bind_eq_some_iff.1 h
        refine WO.cS rfl rfl (gabionlaw14_same_ok h67 h69 hy88) rfl (wg rfl rfl (gt k87)) rfl ?_
        rintro _ rfl
        refine WO.q (.r fun _ => rfl) (wg rfl rfl (gt k87)) rfl ?_
        refine WO.q (.ptv (v := .bool _) rfl k87 rfl) (wg rfl rfl (gf (f_not k86))) rfl ?_
        refine WO.q (.pfv (v := .bool _) rfl (f_not k86) rfl) rfl rfl ?_
        refine WO.q (.mv (v := .bool _) rfl) rfl rfl ?_
        rcases bsp y88 with k89 | k89
        · replace h := (if_pos k89).symm.trans h
          refine WO.q (.mv (v := .int _ _) rfl) (wg rfl rfl (gf (f_not k89))) rfl ?_
          refine WO.q (.r fun _ => rfl) (wg rfl rfl (gf (f_not k89))) rfl ?_
          refine WO.q (.mv (v := .bool _) rfl) (wg rfl rfl (gf (f_not k89))) rfl ?_
          rcases bsp (decide (x15 ≠ 0)) with k90 | k90
          · have q_k90 := of_decide_eq_true k90
            replace h := (if_pos q_k90).symm.trans h
            refine WO.q (.ldA (i := 1) rfl rfl rfl ti25 rfl) (wg rfl rfl (gt k90)) rfl ?_
            obtain ⟨y91, hy91, h⟩ := Option.bind_eq_some_iff.1 h
            refine WO.cS rfl rfl (alloc_Set_Size_ok h67 hy91) rfl (wg rfl rfl (gt k90)) rfl ?_
            rintro _ rfl
            refine WO.q (.r fun _ => rfl) (wg rfl rfl (gt k90)) rfl ?_
            refine WO.q (.mv (v := .bool _) rfl) (wg rfl rfl (gt k90)) rfl ?_
            rcases bsp (decide (y91 ≠ 0)) with k92 | k92
            · have q_k92 := of_decide_eq_true k92
              replace h := (if_pos q_k92).symm.trans h
              refine WO.sd (wg rfl rfl (gfn k92)) rfl ?_
              refine WO.sd (wg rfl rfl (gfn k92)) rfl ?_
              refine WO.sd (wg rfl rfl (gfn k92)) rfl ?_
              refine WO.q (.ptv (v := .bool _) rfl k92 rfl) (wg rfl rfl (gt k90)) rfl ?_
              refine WO.q (.ptv (v := .bool _) rfl k90 rfl) (wg rfl rfl (gf (f_not k89))) rfl ?_
              refine WO.q (.pfv (v := .bool _) rfl (f_not k89) rfl) rfl rfl ?_
              refine WO.nil ?_
              refine WX.keep [5, 7, 12, 14, 15, 54, 55, 56, 188] (WX.pk [0, 1] (by decide) ?_) rfl
              exact gabionlaw14_AllocPlays_j25_ok h hn hx0 hr hE _ _ _ ⟨hB, _, _, _, _, _, _, _, h65, h67, h68, h69, h70, rfl, rfl⟩
            · have q_k92 := of_decide_eq_false k92
              replace h := (if_neg q_k92).symm.trans h
              refine WO.q (.ldA (i := 1) rfl rfl rfl ti25 rfl) (wg rfl rfl (gf k92)) rfl ?_
              obtain ⟨y93, hy93, h⟩ := Option.bind_eq_some_iff.1 h
              refine WO.cS rfl rfl (alloc_Set_Free_ok h67 hy93) rfl (wg rfl rfl (gf k92)) rfl ?_
              rintro _ rfl
              refine WO.q (.r fun _ => rfl) (wg rfl rfl (gf k92)) rfl ?_
              refine WO.q (.pfv (v := .bool _) rfl k92 rfl) (wg rfl rfl (gt k90)) rfl ?_
              refine WO.q (.ptv (v := .bool _) rfl k90 rfl) (wg rfl rfl (gf (f_not k89))) rfl ?_
              refine WO.q (.pfv (v := .bool _) rfl (f_not k89) rfl) rfl rfl ?_
              refine WO.nil ?_
              refine WX.keep [5, 7, 12, 14, 15, 54, 55, 56, 188] (WX.pk [0, 1] (by decide) ?_) rfl
              exact gabionlaw14_AllocPlays_j25_ok h hn hx0 hr hE _ _ _ ⟨hB, _, _, _, _, _, _, _, h65, h67, h68, h69, h70, rfl, rfl⟩
          · have q_k90 := of_decide_eq_false k90
            replace h := (if_neg q_k90).symm.trans h
            refine WO.sd (wg rfl rfl (gtn k90)) rfl ?_
            refine WO.sd (wg rfl rfl (gtn k90)) rfl ?_
            refine WO.sd (wg rfl rfl (gtn k90)) rfl ?_
            refine WO.sd (wg rfl rfl (gtn k90)) rfl ?_
            refine WO.sd (wgu rfl rfl) rfl ?_
            refine WO.sd (wgu rfl rfl) rfl ?_
            refine WO.sd (wgu rfl rfl) rfl ?_
            refine WO.sd (wg rfl rfl (gtn k90)) rfl ?_
            refine WO.q (.pfv (v := .bool _) rfl k90 rfl) (wg rfl rfl (gf (f_not k89))) rfl ?_
            refine WO.q (.pfv (v := .bool _) rfl (f_not k89) rfl) rfl rfl ?_
            refine WO.nil ?_
            refine WX.keep [5, 7, 12, 14, 15, 54, 55, 56, 188] (WX.pk [0, 1] (by decide) ?_) rfl
            exact gabionlaw14_AllocPlays_j25_ok h hn hx0 hr hE _ _ _ ⟨hB, _, _, _, _, _, _, _, h65, h67, h68, h69, h70, rfl, rfl⟩
        · replace h := (if_neg (bnt k89)).symm.trans h
          refine WO.sd (wg rfl rfl (gfn (t_not k89))) rfl ?_
          refine WO.sd (wg rfl rfl (gfn (t_not k89))) rfl ?_
          refine WO.sd (wg rfl rfl (gfn (t_not k89))) rfl ?_
          refine WO.sd (wgu rfl rfl) rfl ?_
          refine WO.sd (wgu rfl rfl) rfl ?_
          refine WO.sd (wgu rfl rfl) rfl ?_
          refine WO.sd (wgu rfl rfl) rfl ?_
          refine WO.sd (wgu rfl rfl) rfl ?_
          refine WO.sd (wgu rfl rfl) rfl ?_
          refine WO.sd (wgu rfl rfl) rfl ?_
          refine WO.sd (wgu rfl rfl) rfl ?_
          refine WO.sd (wg rfl rfl (gfn (t_not k89))) rfl ?_
          refine WO.q (.ptv (v := .bool _) rfl (t_not k89) rfl) rfl rfl ?_
          refine WO.nil ?_
          refine WX.keep [5, 7, 12, 14, 15, 54, 55, 56, 188] (WX.pk [0, 1] (by decide) ?_) rfl
          exact gabionlaw14_AllocPlays_j25_ok h hn hx0 hr hE _ _ _ ⟨hB, _, _, _, _, _, _, _, h65, h67, h68, h69, h70, rfl, rfl⟩
      · have q_k87 := of_decide_eq_false k87
        replace h := (if_neg q_k87).symm.trans h
        refine WO.sd (wg rfl rfl (gtn k87)) rfl ?_
        refine WO.sd (wg rfl rfl (gtn k87)) rfl ?_
        refine WO.sd (wg rfl rfl (gtn k87)) rfl ?_
        refine WO.sd (wg rfl rfl (gtn k87)) rfl ?_
        refine WO.q (.pfv (v := .bool _) rfl k87 rfl) (wg rfl rfl (gf (f_not k86))) rfl ?_
        refine WO.q (.pfv (v := .bool _) rfl (f_not k86) rfl) rfl rfl ?_
        refine WO.q (.mv (v := .bool _) rfl) rfl rfl ?_
        refine WO.q (.mv (v := .int _ _) rfl) (wg rfl rfl (gf rfl)) rfl ?_
        refine WO.q (.r fun _ => rfl) (wg rfl rfl (gf rfl)) rfl ?_
        refine WO.q (.mv (v := .bool _) rfl) (wg rfl rfl (gf rfl)) rfl ?_
        rcases bsp (decide (x15 ≠ 0)) with k94 | k94
        · have q_k94 := of_decide_eq_true k94
          replace h := (if_pos q_k94).symm.trans h
          refine WO.q (.ldA (i := 1) rfl rfl rfl ti25 rfl) (wg rfl rfl (gt k94)) rfl ?_
          obtain ⟨y95, hy95, h⟩ := Option.bind_eq_some_iff.1 h
          refine WO.cS rfl rfl (alloc_Set_Size_ok h67 hy95) rfl (wg rfl rfl (gt k94)) rfl ?_
          rintro _ rfl
          refine WO.q (.r fun _ => rfl) (wg rfl rfl (gt k94)) rfl ?_
          refine WO.q (.mv (v := .bool _) rfl) (wg rfl rfl (gt k94)) rfl ?_
          rcases bsp (decide (y95 ≠ 0)) with k96 | k96
          · have q_k96 := of_decide_eq_true k96
            replace h := (if_pos q_k96).symm.trans h
            refine WO.sd (wg rfl rfl (gfn k96)) rfl ?_
            refine WO.sd (wg rfl rfl (gfn k96)) rfl ?_
            refine WO.sd (wg rfl rfl (gfn k96)) rfl ?_
            refine WO.q (.ptv (v := .bool _) rfl k96 rfl) (wg rfl rfl (gt k94)) rfl ?_
            refine WO.q (.ptv (v := .bool _) rfl k94 rfl) (wg rfl rfl (gf rfl)) rfl ?_
            refine WO.q (.pfv (v := .bool _) rfl rfl rfl) rfl rfl ?_
            refine WO.nil ?_
            refine WX.keep [5, 7, 12, 14, 15, 54, 55, 56, 188] (WX.pk [0, 1] (by decide) ?_) rfl
            exact gabionlaw14_AllocPlays_j25_ok h hn hx0 hr hE _ _ _ ⟨hB, _, _, _, _, _, _, _, h65, h67, h68, h69, h70, rfl, rfl⟩
          · have q_k96 := of_decide_eq_false k96
            replace h := (if_neg q_k96).symm.trans h
            refine WO.q (.ldA (i := 1) rfl rfl rfl ti25 rfl) (wg rfl rfl (gf k96)) rfl ?_
            obtain ⟨y97, hy97, h⟩ := Option.bind_eq_some_iff.1 h
            refine WO.cS rfl rfl (alloc_Set_Free_ok h67 hy97) rfl (wg rfl rfl (gf k96)) rfl ?_
            rintro _ rfl
            refine WO.q (.r fun _ => rfl) (wg rfl rfl (gf k96)) rfl ?_
            refine WO.q (.pfv (v := .bool _) rfl k96 rfl) (wg rfl rfl (gt k94)) rfl ?_
            refine WO.q (.ptv (v := .bool _) rfl k94 rfl) (wg rfl rfl (gf rfl)) rfl ?_
            refine WO.q (.pfv (v := .bool _) rfl rfl rfl) rfl rfl ?_
            refine WO.nil ?_
            refine WX.keep [5, 7, 12, 14, 15, 54, 55, 56, 188] (WX.pk [0, 1] (by decide) ?_) rfl
            exact gabionlaw14_AllocPlays_j25_ok h hn hx0 hr hE _ _ _ ⟨hB, _, _, _, _, _, _, _, h65, h67, h68, h69, h70, rfl, rfl⟩
        · have q_k94 := of_decide_eq_false k94
          replace h := (if_neg q_k94).symm.trans h
          refine WO.sd (wg rfl rfl (gtn k94)) rfl ?_
          refine WO.sd (wg rfl rfl (gtn k94)) rfl ?_
          refine WO.sd (wg rfl rfl (gtn k94)) rfl ?_
          refine WO.sd (wg rfl rfl (gtn k94)) rfl ?_
          refine WO.sd (wgu rfl rfl) rfl ?_
          refine WO.sd (wgu rfl rfl) rfl ?_
          refine WO.sd (wgu rfl rfl) rfl ?_
          refine WO.sd (wg rfl rfl (gtn k94)) rfl ?_
          refine WO.q (.pfv (v := .bool _) rfl k94 rfl) (wg rfl rfl (gf rfl)) rfl ?_
          refine WO.q (.pfv (v := .bool _) rfl rfl rfl) rfl rfl ?_
          refine WO.nil ?_
          refine WX.keep [5, 7, 12, 14, 15, 54, 55, 56, 188] (WX.pk [0, 1] (by decide) ?_) rfl
          exact gabionlaw14_AllocPlays_j25_ok h hn hx0 hr hE _ _ _ ⟨hB, _, _, _, _, _, _, _, h65, h67, h68, h69, h70, rfl, rfl⟩
    · replace h := (if_neg (bnt k86)).symm.trans h
      refine WO.sd (wg rfl rfl (gfn (t_not k86))) rfl ?_
      refine WO.sd (wg rfl rfl (gfn (t_not k86))) rfl ?_
      refine WO.sd (wg rfl rfl (gfn (t_not k86))) rfl ?_
      refine WO.sd (wgu rfl rfl) rfl ?_
      refine WO.sd (wgu rfl rfl) rfl ?_
      refine WO.sd (wgu rfl rfl) rfl ?_
      refine WO.sd (wgu rfl rfl) rfl ?_
      refine WO.sd (wg rfl rfl (gfn (t_not k86))) rfl ?_
      refine WO.q (.ptv (v := .bool _) rfl (t_not k86) rfl) rfl rfl ?_
      refine WO.q (.mv (v := .bool _) rfl) rfl rfl ?_
      refine WO.sd (wg rfl rfl (gfn rfl)) rfl ?_
      refine WO.sd (wg rfl rfl (gfn rfl)) rfl ?_
      refine WO.sd (wg rfl rfl (gfn rfl)) rfl ?_
      refine WO.sd (wgu rfl rfl) rfl ?_
      refine WO.sd (wgu rfl rfl) rfl ?_
      refine WO.sd (wgu rfl rfl) rfl ?_
      refine WO.sd (wgu rfl rfl) rfl ?_
      refine WO.sd (wgu rfl rfl) rfl ?_
      refine WO.sd (wgu rfl rfl) rfl ?_
      refine WO.sd (wgu rfl rfl) rfl ?_
      refine WO.sd (wgu rfl rfl) rfl ?_
      refine WO.sd (wg rfl rfl (gfn rfl)) rfl ?_
      refine WO.q (.ptv (v := .bool _) rfl rfl rfl) rfl rfl ?_
      refine WO.nil ?_
      refine WX.keep [5, 7, 12, 14, 15, 54, 55, 56, 188] (WX.pk [0, 1] (by decide) ?_) rfl
      exact gabionlaw14_AllocPlays_j25_ok h hn hx0 hr hE _ _ _ ⟨hB, _, _, _, _, _, _, _, h65, h67, h68, h69, h70, rfl, rfl⟩
theorem gabionlaw14_AllocPlays_j42_ok {B0 : Kn} {L : Own} {n0 : Nat} {x7 : List Bool} {x13 : Int} {x14 : List Bool} {x15 : Int} {x16 : List (Int × Int)} {x17 : List (Int × Int)} {x54 : List (Int × Int × Int)} {x56 : Int} {x128 : Int} {x154 : Bool} {zb5 : Int × (List (Int × Int))} {zb12 : Int × (List (Int × Int))} {Q : AV → St → Prop} {E : (Int × Int) ⊕ (Bool ⊕ Int) → Prop} {o : (Int × Int) ⊕ (Bool ⊕ Int)} (h : gabionlaw14_AllocPlays_j42 x7 x13 x14 x15 x16 x17 x54 x56 x128 x154 zb5 zb12 = some o) (hn : ∀ s, E (.inl s) → WXI Try.prog 194 n0 (Fin Try.prog Try.f8.results.toList n0 Q) [.lp (ct [1, 1, 1, 1, 1, 1, 0, 1, 0, 0, 1, 1, 0, 0, 1, 1, 1, 1, 1, 1, 0, 1, 0, 1, 1, 1, 1, 1, 0, 1, 1, 1, 1, 1, 1, 0, 0] (bodyOf Try.f8)), .blk 5, .blk 4, .code (ct [1, 1, 1, 1, 1, 1, 0, 1, 0, 0, 1, 1, 0, 0, 1, 1, 1, 1, 1, 1, 1] (bodyOf Try.f8)), .blk 3, .code (ct [1, 1, 1, 1, 1, 1, 0, 1, 0, 0, 1, 1, 1] (bodyOf Try.f8)), .lp (ct [1, 1, 1, 1, 1, 1, 0, 1, 0, 0] (bodyOf Try.f8)), .blk 2, .code (ct [1, 1, 1, 1, 1, 1, 1] (bodyOf Try.f8))] (gabionlaw14_AllocPlays_l2_I B0 x7 x13 x14 x15 x16 x17 x54 zb5 zb12 s.1 s.2) L) (hx0 : ∀ s, E (.inr (.inr s)) → WXI Try.prog 194 n0 (Fin Try.prog Try.f8.results.toList n0 Q) [.code (ct [1, 1, 1, 1, 1, 1, 0, 1, 0, 0, 1, 1, 0, 0, 1, 1, 1, 1, 1, 1, 1] (bodyOf Try.f8)), .blk 3, .code (ct [1, 1, 1, 1, 1, 1, 0, 1, 0, 0, 1, 1, 1] (bodyOf Try.f8)), .lp (ct [1, 1, 1, 1, 1, 1, 0, 1, 0, 0] (bodyOf Try.f8)), .blk 2, .code (ct [1, 1, 1, 1, 1, 1, 1] (bodyOf Try.f8))] (gabionlaw14_AllocPlays_l2_X0 B0 x7 x13 x14 x15 x54 s zb5 zb12) L) (hr : ∀ r, E (.inr (.inl r)) → ∀ v st, gabionlaw14_AllocPlays_P B0 L r v st → Q v st) (hE : E o) : WXI Try.prog 194 n0 (Fin Try.prog Try.f8.results.toList n0 Q) [.code (ct [1, 1, 1, 1, 1, 1, 0, 1, 0, 0, 1, 1, 0, 0, 1, 1, 1, 1, 1, 1, 0, 1, 0, 1, 1, 1, 1, 1, 0, 1, 1, 1, 1, 1, 1, 0, 0, 1, 1, 0, 0, 1, 1] (bodyOf Try.f8)), .blk 6, .code (ct [1, 1, 1, 1, 1, 1, 0, 1, 0, 0, 1, 1, 0, 0, 1, 1, 1, 1, 1, 1, 0, 1, 0, 1, 1, 1, 1, 1, 0, 1, 1, 1, 1, 1, 1, 0, 0, 1, 1, 1] (bodyOf Try.f8)), .lp (ct [1, 1, 1, 1, 1, 1, 0, 1, 0, 0, 1, 1, 0, 0, 1, 1, 1, 1, 1, 1, 0, 1, 0, 1, 1, 1, 1, 1, 0, 1, 1, 1, 1, 1, 1, 0, 0] (bodyOf Try.f8)), .blk 5, .blk 4, .code (ct [1, 1, 1, 1, 1, 1, 0, 1, 0, 0, 1, 1, 0, 0, 1, 1, 1, 1, 1, 1, 1] (bodyOf Try.f8)), .blk 3, .code (ct [1, 1, 1, 1, 1, 1, 0, 1, 0, 0, 1, 1, 1] (bodyOf Try.f8)), .lp (ct [1, 1, 1, 1, 1, 1, 0, 1, 0, 0] (bodyOf Try.f8)), .blk 2, .code (ct [1, 1, 1, 1, 1, 1, 1] (bodyOf Try.f8))] (gabionlaw14_AllocPlays_j42_I B0 x7 x13 x14 x15 x16 x17 x54 x56 x128 x154 zb5 zb12) L := by
  unfold gabionlaw14_AllocPlays_j42 at h
  rintro _ B _ ⟨hB, b141, v142, b143, v144, v145, v146, v147, v148, b148, n148, c148, v149, h142, h144, h145, h146, h147, h148, h149, rfl, rfl⟩
  obtain ⟨_, _, _, _, _, rfl⟩ := h142.isl
  obtain ⟨_, _, _, _, _, rfl⟩ := h144.isl
  obtain ⟨_, _, _, _, _, rfl⟩ := h145.isl
  obtain ⟨_, _, _, _, _, rfl⟩ := h146.isl
  obtain ⟨_, _, _, _, _, rfl⟩ := h147.isl
  obtain ⟨_, _, _, _, _, rfl⟩ := h148.isl
  obtain ⟨_, _, _, _, _, rfl⟩ := h149.isl
  rcases bsp x154 with k150 | k150
  · replace h := (if_pos k150).symm.trans h
    refine WX.condT rfl k150 ?_
    refine WX.seq ?_
    refine WX.reg ?_
    refine WO.q (.as (v := .bool _) rfl) rfl rfl ?_
    refine WO.nil ?_
    obtain rfl := Option.some.inj h
    exact WX.ret (rs_ (rs_tmp rfl rs_nil)) fun st hp => hr _ hE _ _ ⟨(hp.pk [] (by decide)).le hB, rfl⟩
  · replace h := (if_neg (bnt k150)).symm.trans h
    refine WX.condF rfl k150 ?_
    refine WX.skip ?_
    refine WX.pop ?_
    refine WX.reg ?_
    refine WO.q (.r fun _ => rfl) rfl rfl ?_
    refine WO.q (.mv (v := .int _ _) rfl) rfl rfl ?_
    refine WO.nil ?_
    refine WX.keepL [5, 7, 12, 13, 14, 15, 16, 17, 54, 55, 56, 127, 128] (WX.pk [0, 1, 2] (by decide) ?_) rfl
    obtain rfl := Option.some.inj h
    exact hn _ hE _ _ _ ⟨hB, _, _, _, _, _, _, _, _, _, n148, _, _, h142, h144, h145, h146, h147, h148, h149, rfl, rfl⟩
theorem gabionlaw14_AllocPlays_l2_s {B0 : Kn} {L : Own} {n0 : Nat} {x7 : List Bool} {x13 : Int} {x14 : List Bool} {x15 : Int} {x16 : List (Int × Int)} {x17 : List (Int × Int)} {x54 : List (Int × Int × Int)} {zb5 : Int × (List (Int × Int))} {zb12 : Int × (List (Int × Int))} {x56 : Int} {x128 : Int} {Q : AV → St → Prop} {E : (Int × Int) ⊕ (Bool ⊕ Int) → Prop} {o : (Int × Int) ⊕ (Bool ⊕ Int)} (h : gabionlaw14_AllocPlays_l2 x7 x13 x14 x15 x16 x17 x54 zb5 zb12 x56 x128 = some o) (hn : ∀ s, E (.inl s) → WXI Try.prog 194 n0 (Fin Try.prog Try.f8.results.toList n0 Q) [.lp (ct [1, 1, 1, 1, 1, 1, 0, 1, 0, 0, 1, 1, 0, 0, 1, 1, 1, 1, 1, 1, 0, 1, 0, 1, 1, 1, 1, 1, 0, 1, 1, 1, 1, 1, 1, 0, 0] (bodyOf Try.f8)), .blk 5, .blk 4, .code (ct [1, 1, 1, 1, 1, 1, 0, 1, 0, 0, 1, 1, 0, 0, 1, 1, 1, 1, 1, 1, 1] (bodyOf Try.f8)), .blk 3, .code (ct [1, 1, 1, 1, 1, 1, 0, 1, 0, 0, 1, 1, 1] (bodyOf Try.f8)), .lp (ct [1, 1, 1, 1, 1, 1, 0, 1, 0, 0] (bodyOf Try.f8)), .blk 2, .code (ct [1, 1, 1, 1, 1, 1, 1] (bodyOf Try.f8))] (gabionlaw14_AllocPlays_l2_I B0 x7 x13 x14 x15 x16 x17 x54 zb5 zb12 s.1 s.2) L) (hx0 : ∀ s, E (.inr (.inr s)) → WXI Try.prog 194 n0 (Fin Try.prog Try.f8.results.toList n0 Q) [.code (ct [1, 1, 1, 1, 1, 1, 0, 1, 0, 0, 1, 1, 0, 0, 1, 1, 1, 1, 1, 1, 1] (bodyOf Try.f8)), .blk 3, .code (ct [1, 1, 1, 1, 1, 1, 0, 1, 0, 0, 1, 1, 1] (bodyOf Try.f8)), .lp (ct [1, 1, 1, 1, 1, 1, 0, 1, 0, 0] (bodyOf Try.f8)), .blk 2, .code (ct [1, 1, 1, 1, 1, 1, 1] (bodyOf Try.f8))] (gabionlaw14_AllocPlays_l2_X0 B0 x7 x13 x14 x15 x54 s zb5 zb12) L) (hr : ∀ r, E (.inr (.inl r)) → ∀ v st, gabionlaw14_AllocPlays_P B0 L r v st → Q v st) (hE : E o) : WXI Try.prog 194 n0 (Fin Try.prog Try.f8.results.toList n0 Q) [.code (ct [1, 1, 1, 1, 1, 1, 0, 1, 0, 0, 1, 1, 0, 0, 1, 1, 1, 1, 1, 1, 0, 1, 0, 1, 1, 1, 1, 1, 0, 1, 1, 1, 1, 1, 1, 0, 0] (bodyOf Try.f8)), .lp (ct [1, 1, 1, 1, 1, 1, 0, 1, 0, 0, 1, 1, 0, 0, 1, 1, 1, 1, 1, 1, 0, 1, 0, 1, 1, 1, 1, 1, 0, 1, 1, 1, 1, 1, 1, 0, 0] (bodyOf Try.f8)), .blk 5, .blk 4, .code (ct [1, 1, 1, 1, 1, 1, 0, 1, 0, 0, 1, 1, 0, 0, 1, 1, 1, 1, 1, 1, 1] (bodyOf Try.f8)), .blk 3, .code (ct [1, 1, 1, 1, 1, 1, 0, 1, 0, 0, 1, 1, 1] (bodyOf Try.f8)), .lp (ct [1, 1, 1, 1, 1, 1, 0, 1, 0, 0] (bodyOf Try.f8)), .blk 2, .code (ct [1, 1, 1, 1, 1, 1, 1] (bodyOf Try.f8))] (gabionlaw14_AllocPlays_l2_I B0 x7 x13 x14 x15 x16 x17 x54 zb5 zb12 x56 x128) L := by
  unfold gabionlaw14_AllocPlays_l2 at h
  rintro _ B _ ⟨hB, b128, v129, b130, v131, v132, v133, v134, v135, b135, n135, c135, v136, h129, h131, h132, h133, h134, h135, h136, rfl, rfl⟩
  obtain ⟨_, _, _, _, _, rfl⟩ := h129.isl
  obtain ⟨_, _, _, _, _, rfl⟩ := h131.isl
  obtain ⟨_, _, _, _, _, rfl⟩ := h132.isl
  obtain ⟨_, _, _, _, _, rfl⟩ := h133.isl
  obtain ⟨_, _, _, _, _, rfl⟩ := h134.isl
  obtain ⟨_, _, _, _, _, rfl⟩ := h135.isl
  obtain ⟨_, _, _, _, _, rfl⟩ := h136.isl
  refine WX.seq ?_
  refine WX.reg ?_
  refine WO.q (.r fun _ => rfl) rfl rfl ?_
  refine WO.nil ?_
  refine WX.seq ?_
  rcases bsp (decide (x128 < (x16.length : Int))) with k137 | k137
  · have q_k137 := of_decide_eq_true k137
    replace h := (if_pos q_k137).symm.trans h
    refine WX.condT rfl k137 ?_
    refine WX.skip ?_
    refine WX.seq ?_
    refine WX.block ?_
    refine WX.seq ?_
    refine WX.reg ?_
    refine WO.q (.mv (v := .int _ _) rfl) rfl rfl ?_
    refine WO.q (.as (v := .int _ _) rfl) rfl rfl ?_
    refine WO.nil ?_
    refine WX.seq ?_
    refine WX.drw [0, 1, 2, 3, 4, 5, 6, 7, 8, 9, 10, 11, 12, 13, 14, 15, 16, 17, 18, 19, 20, 21, 22, 23] _ mixed (by kernel_rfl) rfl (pk_sub [0, 1, 2]) ?_
    refine WP.q (i := 0) rfl (.mv (v := .sl _ _ _ _ _ _) rfl) rfl rfl rfl ?_
    refine WP.q (i := 1) rfl (.mv (v := .int _ _) rfl) rfl rfl rfl ?_
    obtain ⟨y138, hy138, h⟩ := Option.bind_eq_some_iff.1 h
    obtain ⟨b_y138, o_y138, _, i_y138, p_y138, r_y138⟩ := h134.at sl23 hy138 .i64
    obtain ⟨_, _, rfl, rfl, rfl⟩ := r_y138
    refine WP.q (i := 2) rfl (.ia i_y138) rfl rfl rfl ?_
    refine WP.q (i := 3) rfl (.fa (fa35_0 _ _)) rfl rfl rfl ?_
    refine WP.q (i := 4) rfl (.lpS rfl p_y138 rfl ti3 rfl) rfl rfl rfl ?_
    refine WP.q (i := 5) rfl (.mv (v := .sl _ _ _ _ _ _) rfl) rfl rfl rfl ?_
    refine WP.q (i := 6) rfl (.mv (v := .int _ _) rfl) rfl rfl rfl ?_
    obtain ⟨y139, hy139, h⟩ := Option.bind_eq_some_iff.1 h
    obtain rfl := h135.nonnil hy139
    obtain ⟨_, i_y139, l_y139, r_y139⟩ := h135.at sl40 hy139 .i64
    obtain ⟨_, _, rfl, rfl, rfl⟩ := r_y139
    refine WP.q (i := 7) rfl (.ia i_y139) rfl rfl rfl ?_
    refine WP.q (i := 8) rfl (.ia (ia41_0 _ _)) rfl rfl rfl ?_
    refine WP.q (i := 9) rfl (.ldS (i := 2) rfl rfl (l_y139.g rfl) ti3 rfl) rfl rfl rfl ?_
    refine WP.q (i := 10) rfl (.r fun _ => rfl) rfl rfl rfl ?_
    refine WP.q (i := 11) rfl (.mv (v := .bool _) rfl) rfl rfl rfl ?_
    rcases bsp (decide (y138.1 ≠ y139.1)) with k140 | k140
    · have q_k140 := of_decide_eq_true k140
      replace h := (if_pos q_k140).symm.trans h
      refine WP.sk (i := 12) rfl rfl (wg rfl rfl (gfn k140)) rfl ?_
      refine WP.sk (i := 13) rfl rfl (wg rfl rfl (gfn k140)) rfl ?_
      refine WP.sk (i := 14) rfl rfl (wg rfl rfl (gfn k140)) rfl ?_
      refine WP.sk (i := 15) rfl rfl (wg rfl rfl (gfn k140)) rfl ?_
      refine WP.sk (i := 16) rfl rfl (wg rfl rfl (gfn k140)) rfl ?_
      refine WP.sk (i := 17) rfl rfl (wg rfl rfl (gfn k140)) rfl ?_
      refine WP.sk (i := 18) rfl rfl (wg rfl rfl (gfn k140)) rfl ?_
      refine WP.sk (i := 19) rfl rfl (wg rfl rfl (gfn k140)) rfl ?_
      refine WP.sk (i := 20) rfl rfl (wg rfl rfl (gfn k140)) rfl ?_
      refine WP.sk (i := 21) rfl rfl (wg rfl rfl (gfn k140)) rfl ?_
      refine WP.sk (i := 22) rfl rfl (wg rfl rfl (gfn k140)) rfl ?_
      refine WP.q (i := 23) rfl (.ptv (v := .bool _) rfl k140 rfl) rfl rfl rfl ?_
      refine WP.nil ?_
      refine WX.keep [5, 7, 12, 13, 14, 15, 16, 17, 54, 55, 56, 127, 128, 154] (WX.pk [0, 1, 2] (by decide) ?_) rfl
      exact gabionlaw14_AllocPlays_j42_ok h hn hx0 hr hE _ _ _ ⟨hB, _, _, _, _, _, _, _, _, _, false, _, _, h129, h131, h132, h133, h134, h135, h136, rfl, rfl⟩
    · have q_k140 := of_decide_eq_false k140
      replace h := (if_neg q_k140).symm.trans h
      refine WP.q (i := 12) rfl (.mv (v := .sl _ _ _ _ _ _) rfl) rfl (wg rfl rfl (gf k140)) rfl ?_
      refine WP.q (i := 13) rfl (.mv (v := .int _ _) rfl) rfl (wg rfl rfl (gf k140)) rfl ?_
      obtain ⟨y151, hy151, h⟩ := Option.bind_eq_some_iff.1 h
      obtain ⟨b_y151, o_y151, _, i_y151, p_y151, r_y151⟩ := h134.at sl23 hy151 .i64
      obtain ⟨_, _, rfl, rfl, rfl⟩ := r_y151
      refine WP.q (i := 14) rfl (.ia i_y151) rfl (wg rfl rfl (gf k140)) rfl ?_
      refine WP.q (i := 15) rfl (.fa (fa35_1 _ _)) rfl (wg rfl rfl (gf k140)) rfl ?_
      refine WP.q (i := 16) rfl (.lpS rfl p_y151 rfl ti3 rfl) rfl (wg rfl rfl (gf k140)) rfl ?_
      refine WP.q (i := 17) rfl (.mv (v := .sl _ _ _ _ _ _) rfl) rfl (wg rfl rfl (gf k140)) rfl ?_
      refine WP.q (i := 18) rfl (.mv (v := .int _ _) rfl) rfl (wg rfl rfl (gf k140)) rfl ?_
      obtain ⟨y152, hy152, h⟩ := Option.bind_eq_some_iff.1 h
      obtain ⟨_, i_y152, l_y152, r_y152⟩ := h135.at sl40 hy152 .i64
      obtain ⟨_, _, rfl, rfl, rfl⟩ := r_y152
      refine WP.q (i := 19) rfl (.ia i_y152) rfl (wg rfl rfl (gf k140)) rfl ?_
      refine WP.q (i := 20) rfl (.ia (ia41_1 _ _)) rfl (wg rfl rfl (gf k140)) rfl ?_
      refine WP.q (i := 21) rfl (.ldS (i := 2) rfl rfl (l_y152.g rfl) ti3 rfl) rfl (wg rfl rfl (gf k140)) rfl ?_
      refine WP.q (i := 22) rfl (.r fun _ => rfl) rfl (wg rfl rfl (gf k140)) rfl ?_
      refine WP.q (i := 23) rfl (.pfv (v := .bool _) rfl k140 rfl) rfl rfl rfl ?_
      refine WP.nil ?_
      refine WX.keep [5, 7, 12, 13, 14, 15, 16, 17, 54, 55, 56, 127, 128, 154] (WX.pk [0, 1, 2] (by decide) ?_) rfl
      exact gabionlaw14_AllocPlays_j42_ok h hn hx0 hr hE _ _ _ ⟨hB, _, _, _, _, _, _, _, _, _, false, _, _, h129, h131, h132, h133, h134, h135, h136, rfl, rfl⟩
  · have q_k137 := of_decide_eq_false k137
    replace h := (if_neg q_k137).symm.trans h
    refine WX.condF rfl k137 ?_
    refine WX.exit rfl ?_
    refine WX.pop ?_
    refine WX.keep [5, 7, 12, 13, 14, 15, 54, 55, 56] (WX.pk [0, 1] (by decide) ?_) rfl
    obtain rfl := Option.some.inj h
    exact hx0 _ hE _ _ _ ⟨hB, _, _, _, _, _, _, _, h129, h131, h132, h133, h136, rfl, rfl⟩
theorem gabionlaw14_AllocPlays_l2_ok {B0 : Kn} {L : Own} {n0 : Nat} {x7 : List Bool} {x13 : Int} {x14 : List Bool} {x15 : Int} {x16 : List (Int × Int)} {x17 : List (Int × Int)} {x54 : List (Int × Int × Int)} {zb5 : Int × (List (Int × Int))} {zb12 : Int × (List (Int × Int))} {x56 : Int} {x128 : Int} {Q : AV → St → Prop} {d : Nat} {e : Bool ⊕ Int} (h : iter (fun (s : Int × Int) => gabionlaw14_AllocPlays_l2 x7 x13 x14 x15 x16 x17 x54 zb5 zb12 s.1 s.2) d (x56, x128) = some e) (g0 : ∀ r, e = (.inl r) → ∀ v st, gabionlaw14_AllocPlays_P B0 L r v st → Q v st) (g1 : ∀ s, e = (.inr s) → WXI Try.prog 194 n0 (Fin Try.prog Try.f8.results.toList n0 Q) [.code (ct [1, 1, 1, 1, 1, 1, 0, 1, 0, 0, 1, 1, 0, 0, 1, 1, 1, 1, 1, 1, 1] (bodyOf Try.f8)), .blk 3, .code (ct [1, 1, 1, 1, 1, 1, 0, 1, 0, 0, 1, 1, 1] (bodyOf Try.f8)), .lp (ct [1, 1, 1, 1, 1, 1, 0, 1, 0, 0] (bodyOf Try.f8)), .blk 2, .code (ct [1, 1, 1, 1, 1, 1, 1] (bodyOf Try.f8))] (gabionlaw14_AllocPlays_l2_X0 B0 x7 x13 x14 x15 x54 s zb5 zb12) L) : WXI Try.prog 194 n0 (Fin Try.prog Try.f8.results.toList n0 Q) [.code (ct [1, 1, 1, 1, 1, 1, 0, 1, 0, 0, 1, 1, 0, 0, 1, 1, 1, 1, 1, 1, 0, 1, 0, 1, 1, 1, 1, 1, 0, 1, 1, 1, 1, 1, 1, 0, 0] (bodyOf Try.f8)), .lp (ct [1, 1, 1, 1, 1, 1, 0, 1, 0, 0, 1, 1, 0, 0, 1, 1, 1, 1, 1, 1, 0, 1, 0, 1, 1, 1, 1, 1, 0, 1, 1, 1, 1, 1, 1, 0, 0] (bodyOf Try.f8)), .blk 5, .blk 4, .code (ct [1, 1, 1, 1, 1, 1, 0, 1, 0, 0, 1, 1, 0, 0, 1, 1, 1, 1, 1, 1, 1] (bodyOf Try.f8)), .blk 3, .code (ct [1, 1, 1, 1, 1, 1, 0, 1, 0, 0, 1, 1, 1] (bodyOf Try.f8)), .lp (ct [1, 1, 1, 1, 1, 1, 0, 1, 0, 0] (bodyOf Try.f8)), .blk 2, .code (ct [1, 1, 1, 1, 1, 1, 1] (bodyOf Try.f8))] (gabionlaw14_AllocPlays_l2_I B0 x7 x13 x14 x15 x16 x17 x54 zb5 zb12 x56 x128) L :=
  iter_ok (I := fun s => gabionlaw14_AllocPlays_l2_I B0 x7 x13 x14 x15 x16 x17 x54 zb5 zb12 s.1 s.2) (D := fun e => (∀ r, e = (.inl r) → ∀ v st, gabionlaw14_AllocPlays_P B0 L r v st → Q v st) ∧ (∀ s, e = (.inr s) → WXI Try.prog 194 n0 (Fin Try.prog Try.f8.results.toList n0 Q) [.code (ct [1, 1, 1, 1, 1, 1, 0, 1, 0, 0, 1, 1, 0, 0, 1, 1, 1, 1, 1, 1, 1] (bodyOf Try.f8)), .blk 3, .code (ct [1, 1, 1, 1, 1, 1, 0, 1, 0, 0, 1, 1, 1] (bodyOf Try.f8)), .lp (ct [1, 1, 1, 1, 1, 1, 0, 1, 0, 0] (bodyOf Try.f8)), .blk 2, .code (ct [1, 1, 1, 1, 1, 1, 1] (bodyOf Try.f8))] (gabionlaw14_AllocPlays_l2_X0 B0 x7 x13 x14 x15 x54 s zb5 zb12) L)) (fun E hn hx s o ho hE => gabionlaw14_AllocPlays_l2_s ho hn (fun s hs => (hx _ hs).2 _ rfl) (fun r hs => (hx _ hs).1 _ rfl) hE) h ⟨g0, g1⟩
theorem gabionlaw14_AllocPlays_l1_s {B0 : Kn} {L : Own} {n0 : Nat} {x54 : List (Int × Int × Int)} {x7 : List Bool} {x56 : Int} {zb5 : Int × (List (Int × Int))} {Q : AV → St → Prop} {E : ((List Bool) × Int × (Int × (List (Int × Int)))) ⊕ (Bool ⊕ Unit) → Prop} {o : ((List Bool) × Int × (Int × (List (Int × Int)))) ⊕ (Bool ⊕ Unit)} (h : gabionlaw14_AllocPlays_l1 x54 x7 x56 zb5 = some o) (hn : ∀ s, E (.inl s) → WXI Try.prog 194 n0 (Fin Try.prog Try.f8.results.toList n0 Q) [.lp (ct [1, 1, 1, 1, 1, 1, 0, 1, 0, 0] (bodyOf Try.f8)), .blk 2, .code (ct [1, 1, 1, 1, 1, 1, 1] (bodyOf Try.f8))] (gabionlaw14_AllocPlays_l1_I B0 x54 s.1 s.2.1 s.2.2) L) (hx0 : ∀ s, E (.inr (.inr s)) → WXI Try.prog 194 n0 (Fin Try.prog Try.f8.results.toList n0 Q) [.code (ct [1, 1, 1, 1, 1, 1, 1] (bodyOf Try.f8))] (gabionlaw14_AllocPlays_l1_X0 B0) L) (hr : ∀ r, E (.inr (.inl r)) → ∀ v st, gabionlaw14_AllocPlays_P B0 L r v st → Q v st) (hE : E o) : WXI Try.prog 194 n0 (Fin Try.prog Try.f8.results.toList n0 Q) [.code (ct [1, 1, 1, 1, 1, 1, 0, 1, 0, 0] (bodyOf Try.f8)), .lp (ct [1, 1, 1, 1, 1, 1, 0, 1, 0, 0] (bodyOf Try.f8)), .blk 2, .code (ct [1, 1, 1, 1, 1, 1, 1] (bodyOf Try.f8))] (gabionlaw14_AllocPlays_l1_I B0 x54 x7 x56 zb5) L := by
  unfold gabionlaw14_AllocPlays_l1 at h
  rintro _ B _ ⟨hB, b40, v41, v42, v43, h41, h42, h43, rfl, rfl⟩
  obtain ⟨_, _, _, _, _, rfl⟩ := h41.isl
  obtain ⟨_, _, _, _, _, rfl⟩ := h42.isl
  obtain ⟨_, _, _, _, _, rfl⟩ := h43.isl
  refine WX.seq ?_
  refine WX.reg ?_
  refine WO.q (.r fun _ => rfl) rfl rfl ?_
  refine WO.nil ?_
  refine WX.seq ?_
  rcases bsp (decide (x56 < (x54.length : Int))) with k44 | k44
  · have q_k44 := of_decide_eq_true k44
    replace h := (if_pos q_k44).symm.trans h
    refine WX.condT rfl k44 ?_
    refine WX.skip ?_
    refine WX.seq ?_
    refine WX.block ?_
    refine WX.seq ?_
    refine WX.reg ?_
    obtain ⟨y45, hy45, h⟩ := Option.bind_eq_some_iff.1 h
    obtain ⟨b_y45, o_y45, _, i_y45, p_y45, r_y45⟩ := h43.at sl65 hy45 .i64
    obtain ⟨_, _, rfl, rfl, ⟨_, _, rfl, rfl, rfl⟩⟩ := r_y45
    refine WO.q (.ia i_y45) rfl rfl ?_
    refine WO.q (.lpA rfl p_y45 ti69 rfl rfl) rfl rfl ?_
    refine WO.md (MOp.alloc ti69 rfl) rfl rfl ?_
    rintro _ _ ⟨b46, rfl, rfl⟩
    refine WO.mn (MOp.storeW rfl (cA rfl) .h ti69 rfl rfl rfl) rfl ?_
    rintro _ _ rfl
    refine WO.nil ?_
    refine WX.seq ?_
    refine WX.reg ?_
    refine WO.q (.fa (fa69_1 _ _)) rfl rfl ?_
    refine WO.q (.ldS (i := 0) rfl rfl rfl ti3 rfl) rfl rfl ?_
    refine WO.q (.fa (fa69_2 _ _)) rfl rfl ?_
    refine WO.q (.ldS (i := 0) rfl rfl rfl ti3 rfl) rfl rfl ?_
    refine WO.q (.bd (bd35_0_1 (cI rfl) (cI rfl))) rfl rfl ?_
    refine WO.md (MOp.alloc ti35 rfl) rfl rfl ?_
    rintro _ _ ⟨b47, rfl, rfl⟩
    refine WO.mn (MOp.storeW rfl (cA rfl) .h ti35 rfl rfl rfl) rfl ?_
    rintro _ _ rfl
    refine WO.nil ?_
    refine WX.seq ?_
    refine WX.reg ?_
    refine WO.md (MOp.alloc ti25 rfl) rfl rfl ?_
    rintro _ _ ⟨b48, rfl, rfl⟩
    refine WO.nil ?_
    refine WX.seq ?_
    refine WX.reg ?_
    refine WO.q (.as (v := .int _ _) rfl) rfl rfl ?_
    refine WO.nil ?_
    refine WX.seq ?_
    refine WX.reg ?_
    refine WO.q (.as (v := .sl _ _ _ _ _ _) rfl) rfl rfl ?_
    refine WO.nil ?_
    refine WX.seq ?_
    refine WX.reg ?_
    refine WO.q (.as (v := .int _ _) rfl) rfl rfl ?_
    refine WO.nil ?_
    refine WX.seq ?_
    refine WX.seq ?_
    refine WX.reg ?_
    refine WO.q (.fa (fa69_0 _ _)) rfl rfl ?_
    refine WO.q (.ldS (i := 2) rfl rfl rfl ti3 rfl) rfl rfl ?_
    refine WO.q (.r fun _ => rfl) rfl rfl ?_
    refine WO.q (.r fun _ => rfl) rfl rfl ?_
    refine WO.nil ?_
    refine WX.block ?_
    refine WX.seq ?_
    refine WX.reg ?_
    refine WO.q (.r fun _ => rfl) rfl rfl ?_
    refine WO.q (.as (v := .bool _) rfl) rfl rfl ?_
    refine WO.nil ?_
    rcases bsp (decide ((Int.tmod (mx 0 y45.1) 3) = 0)) with k49 | k49
    · have q_k49 := of_decide_eq_true k49
      replace h := (if_pos q_k49).symm.trans h
      refine WX.condT rfl k49 ?_
      refine WX.seq ?_
      refine WX.reg ?_
      refine WO.q (.ldA (i := 3) rfl rfl rfl ti25 rfl) rfl rfl ?_
      refine WO.q (.ldA (i := 1) rfl rfl rfl ti35 rfl) rfl rfl ?_
      obtain ⟨y50, hy50, h⟩ := Option.bind_eq_some_iff.1 h
      refine WO.c1 rfl rfl (alloc_Set_Use_ok h41 hy50) rfl rfl rfl ?_
      rintro _ B _ hK ⟨v51, b52, n53, c54, rfl, rfl, h55⟩
      obtain ⟨_, _, _, _, _, rfl⟩ := h55.isl
      replace h42 := h42.up hK
      replace h43 := h43.up hK
      replace h41 := h41.up hK
      replace hB := hB.trans hK
      refine WO.q (.mv (v := .tup _) rfl) rfl rfl ?_
      refine WO.q (.r fun _ => rfl) rfl rfl ?_
      refine WO.q (.r fun _ => rfl) rfl rfl ?_
      refine WO.mn (MOp.storeW rfl (cA rfl) (.t .h) ti25 rfl rfl rfl) rfl ?_
      rintro _ _ rfl
      refine WO.q (.as (v := .int _ _) rfl) rfl rfl ?_
      refine WO.nil ?_
      refine WX.reg ?_
      refine WO.q (.mv (v := .sl _ _ _ _ _ _) rfl) rfl rfl ?_
      refine WO.q (.fa (fa69_1 _ _)) rfl rfl ?_
      refine WO.q (.ldS (i := 3) rfl rfl rfl ti3 rfl) rfl rfl ?_
      refine WO.q (.fa (fa69_2 _ _)) rfl rfl ?_
      refine WO.q (.ldS (i := 3) rfl rfl rfl ti3 rfl) rfl rfl ?_
      obtain ⟨y56, hy56, h⟩ := Option.bind_eq_some_iff.1 h
      refine WO.c1 rfl rfl (gabionref14_Set_ok h42 hy56) rfl rfl rfl ?_
      rintro _ B _ hK ⟨v57, b58, n59, c60, rfl, rfl, h61⟩
      obtain ⟨_, _, _, _, _, rfl⟩ := h61.isl
      replace h42 := h42.up hK
      replace h43 := h43.up hK
      replace h41 := h41.up hK
      replace h55 := h55.up hK
      replace hB := hB.trans hK
      refine WO.q (.mv (v := .tup _) rfl) rfl rfl ?_
      refine WO.q (.r fun _ => rfl) rfl rfl ?_
      refine WO.q (.r fun _ => rfl) rfl rfl ?_
      refine WO.q (.as (v := .sl _ _ _ _ _ _) rfl) rfl rfl ?_
      refine WO.q (.as (v := .int _ _) rfl) rfl rfl ?_
      refine WO.nil ?_
      refine WX.pop ?_
      refine WX.fz (j := 0) h61 rfl ?_
      intro B hK g62
      replace h42 := h42.up hK
      replace h43 := h43.up hK
      replace h41 := h41.up hK
      replace h55 := h55.up hK
      replace hB := hB.trans hK
      refine WX.fz (j := 0) h55 rfl ?_
      intro B hK g63
      replace h42 := h42.up hK
      replace h43 := h43.up hK
      replace g62 := g62.up hK
      replace h41 := h41.up hK
      replace hB := hB.trans hK
      refine WX.keep [5, 7, 12, 13, 14, 15, 54, 55, 56] (WX.pk [3, 0] (by decide) ?_) rfl
      exact gabionlaw14_AllocPlays_j24_ok h hn hx0 hr hE _ _ _ ⟨hB, _, _, _, _, _, _, _, h41, g63, h42, g62, h43, rfl, rfl⟩
    · have q_k49 := of_decide_eq_false k49
      replace h := (if_neg q_k49).symm.trans h
      refine WX.condF rfl k49 ?_
      refine WX.seq ?_
      refine WX.reg ?_
      refine WO.q (.r fun _ => rfl) rfl rfl ?_
      refine WO.q (.as (v := .bool _) rfl) rfl rfl ?_
      refine WO.nil ?_
      rcases bsp (decide ((Int.tmod (mx 0 y45.1) 3) = 1)) with k98 | k98
      · have q_k98 := of_decide_eq_true k98
        replace h := (if_pos q_k98).symm.trans h
        refine WX.condT rfl k98 ?_
        refine WX.seq ?_
        refine WX.reg ?_
        refine WO.q (.ldA (i := 3) rfl rfl rfl ti25 rfl) rfl rfl ?_
        refine WO.q (.ldA (i := 1) rfl rfl rfl ti35 rfl) rfl rfl ?_
        obtain ⟨y99, hy99, h⟩ := Option.bind_eq_some_iff.1 h
        refine WO.c1 rfl rfl (alloc_Set_Give_ok h41 hy99) rfl rfl rfl ?_
        rintro _ B _ hK ⟨v100, b101, n102, c103, rfl, rfl, h104⟩
        obtain ⟨_, _, _, _, _, rfl⟩ := h104.isl
        replace h42 := h42.up hK
        replace h43 := h43.up hK
        replace h41 := h41.up hK
        replace hB := hB.trans hK
        refine WO.q (.mv (v := .tup _) rfl) rfl rfl ?_
        refine WO.q (.r fun _ => rfl) rfl rfl ?_
        refine WO.q (.r fun _ => rfl) rfl rfl ?_
        refine WO.mn (MOp.storeW rfl (cA rfl) (.t .h) ti25 rfl rfl rfl) rfl ?_
        rintro _ _ rfl
        refine WO.q (.as (v := .int _ _) rfl) rfl rfl ?_
        refine WO.nil ?_
        refine WX.reg ?_
        refine WO.q (.mv (v := .sl _ _ _ _ _ _) rfl) rfl rfl ?_
        refine WO.q (.fa (fa69_1 _ _)) rfl rfl ?_
        refine WO.q (.ldS (i := 3) rfl rfl rfl ti3 rfl) rfl rfl ?_
        refine WO.q (.fa (fa69_2 _ _)) rfl rfl ?_
        refine WO.q (.ldS (i := 3) rfl rfl rfl ti3 rfl) rfl rfl ?_
        obtain ⟨y105, hy105, h⟩ := Option.bind_eq_some_iff.1 h
        refine WO.c1 rfl rfl (gabionref14_Set_ok h42 hy105) rfl rfl rfl ?_
        rintro _ B _ hK ⟨v106, b107, n108, c109, rfl, rfl, h110⟩
        obtain ⟨_, _, _, _, _, rfl⟩ := h110.isl
        replace h42 := h42.up hK
        replace h43 := h43.up hK
        replace h41 := h41.up hK
        replace h104 := h104.up hK
        replace hB := hB.trans hK
        refine WO.q (.mv (v := .tup _) rfl) rfl rfl ?_
        refine WO.q (.r fun _ => rfl) rfl rfl ?_
        refine WO.q (.r fun _ => rfl) rfl rfl ?_
        refine WO.q (.as (v := .sl _ _ _ _ _ _) rfl) rfl rfl ?_
        refine WO.q (.as (v := .int _ _) rfl) rfl rfl ?_
        refine WO.nil ?_
        refine WX.pop ?_
        refine WX.fz (j := 0) h110 rfl ?_
        intro B hK g111
        replace h42 := h42.up hK
        replace h43 := h43.up hK
        replace h41 := h41.up hK
        replace h104 := h104.up hK
        replace hB := hB.trans hK
        refine WX.fz (j := 0) h104 rfl ?_
        intro B hK g112
        replace h42 := h42.up hK
        replace h43 := h43.up hK
        replace g111 := g111.up hK
        replace h41 := h41.up hK
        replace hB := hB.trans hK
        refine WX.keep [5, 7, 12, 13, 14, 15, 54, 55, 56] (WX.pk [3, 0] (by decide) ?_) rfl
        exact gabionlaw14_AllocPlays_j24_ok h hn hx0 hr hE _ _ _ ⟨hB, _, _, _, _, _, _, _, h41, g112, h42, g111, h43, rfl, rfl⟩
      · have q_k98 := of_decide_eq_false k98
        replace h := (if_neg q_k98).symm.trans h
        refine WX.condF rfl k98 ?_
        refine WX.seq ?_
        refine WX.reg ?_
        refine WO.q (.r fun _ => rfl) rfl rfl ?_
        refine WO.q (.as (v := .bool _) rfl) rfl rfl ?_
        refine WO.nil ?_
        rcases bsp (decide ((Int.tmod (mx 0 y45.1) 3) = 2)) with k113 | k113
        · have q_k113 := of_decide_eq_true k113
          replace h := (if_pos q_k113).symm.trans h
          refine WX.condT rfl k113 ?_
          refine WX.seq ?_
          refine WX.reg ?_
          refine WO.q (.as (v := .sl _ _ _ _ _ _) rfl) rfl rfl ?_
          refine WO.nil ?_
          refine WX.seq ?_
          refine WX.reg ?_
          refine WO.q (.as (v := .sl _ _ _ _ _ _) rfl) rfl rfl ?_
          refine WO.nil ?_
          refine WX.seq ?_
          refine WX.reg ?_
          refine WO.q (.ldA (i := 3) rfl rfl rfl ti25 rfl) rfl rfl ?_
          refine WO.q (.fa (fa69_2 _ _)) rfl rfl ?_
          refine WO.q (.ldS (i := 2) rfl rfl rfl ti3 rfl) rfl rfl ?_
          obtain ⟨y114, hy114, h⟩ := Option.bind_eq_some_iff.1 h
          refine WO.c0 rfl rfl (alloc_Set_Take_ok h41 hy114) rfl rfl rfl ?_
          rintro _ B hK ⟨v115, v117, rfl, h116, h118⟩
          obtain ⟨_, _, _, _, _, rfl⟩ := h116.isl
          obtain ⟨_, _, _, _, _, rfl⟩ := h118.isl
          replace h42 := h42.up hK
          replace h43 := h43.up hK
          replace h41 := h41.up hK
          replace hB := hB.trans hK
          refine WO.q (.mv (v := .tup _) rfl) rfl rfl ?_
          refine WO.q (.r fun _ => rfl) rfl rfl ?_
          refine WO.q (.r fun _ => rfl) rfl rfl ?_
          refine WO.q (.r fun _ => rfl) rfl rfl ?_
          refine WO.mn (MOp.storeW rfl (cA rfl) .h ti25 rfl rfl rfl) rfl ?_
          rintro _ _ rfl
          refine WO.q (.as (v := .sl _ _ _ _ _ _) rfl) rfl rfl ?_
          refine WO.q (.as (v := .int _ _) rfl) rfl rfl ?_
          refine WO.nil ?_
          refine WX.seq ?_
          refine WX.reg ?_
          refine WO.q (.mv (v := .sl _ _ _ _ _ _) rfl) rfl rfl ?_
          refine WO.q (.fa (fa69_2 _ _)) rfl rfl ?_
          refine WO.q (.ldS (i := 2) rfl rfl rfl ti3 rfl) rfl rfl ?_
          obtain ⟨y119, hy119, h⟩ := Option.bind_eq_some_iff.1 h
          refine WO.c1 rfl rfl (gabionref14_Take_ok h42 hy119) rfl rfl rfl ?_
          rintro _ B _ hK ⟨v120, v122, b123, n124, c125, rfl, h121, rfl, h126⟩
          obtain ⟨_, _, _, _, _, rfl⟩ := h121.isl
          obtain ⟨_, _, _, _, _, rfl⟩ := h126.isl
          replace h42 := h42.up hK
          replace h43 := h43.up hK
          replace h118 := h118.up hK
          replace h41 := h41.up hK
          replace h116 := h116.up hK
          replace hB := hB.trans hK
          refine WO.q (.mv (v := .tup _) rfl) rfl rfl ?_
          refine WO.q (.r fun _ => rfl) rfl rfl ?_
          refine WO.q (.r fun _ => rfl) rfl rfl ?_
          refine WO.q (.r fun _ => rfl) rfl rfl ?_
          refine WO.q (.as (v := .sl _ _ _ _ _ _) rfl) rfl rfl ?_
          refine WO.q (.as (v := .sl _ _ _ _ _ _) rfl) rfl rfl ?_
          refine WO.q (.as (v := .int _ _) rfl) rfl rfl ?_
          refine WO.nil ?_
          refine WX.seq ?_
          refine WX.seq ?_
          refine WX.reg ?_
          refine WO.q (.mv (v := .sl _ _ _ _ _ _) rfl) rfl rfl ?_
          refine WO.q (.len rfl rfl rfl (sl23.len h118.isl)) rfl rfl ?_
          refine WO.q (.mv (v := .sl _ _ _ _ _ _) rfl) rfl rfl ?_
          refine WO.q (.len rfl rfl rfl (sl40.len h126.isl)) rfl rfl ?_
          refine WO.q (.r fun _ => rfl) rfl rfl ?_
          refine WO.nil ?_
          rcases bsp (decide ((y114.2.1.length : Int) ≠ (y119.2.1.length : Int))) with k127 | k127
          · have q_k127 := of_decide_eq_true k127
            replace h := (if_pos q_k127).symm.trans h
            refine WX.condT rfl k127 ?_
            refine WX.seq ?_
            refine WX.reg ?_
            refine WO.q (.as (v := .bool _) rfl) rfl rfl ?_
            refine WO.nil ?_
            obtain rfl := Option.some.inj h
            exact WX.ret (rs_ (rs_tmp rfl rs_nil)) fun st hp => hr _ hE _ _ ⟨(hp.pk [] (by decide)).le hB, rfl⟩
          · have q_k127 := of_decide_eq_false k127
            replace h := (if_neg q_k127).symm.trans h
            refine WX.condF rfl k127 ?_
            refine WX.skip ?_
            refine WX.seq ?_
            refine WX.reg ?_
            refine WO.q (.mv (v := .sl _ _ _ _ _ _) rfl) rfl rfl ?_
            refine WO.q (.len rfl rfl rfl (sl23.len h118.isl)) rfl rfl ?_
            refine WO.q (.mv (v := .int _ _) rfl) rfl rfl ?_
            refine WO.nil ?_
            refine WX.block ?_
            refine WX.loop ?_
            obtain ⟨e160, he160, h⟩ := Option.bind_eq_some_iff.1 h
            refine WX.keep [5, 7, 12, 13, 14, 15, 16, 17, 54, 55, 56, 127, 128] (WX.pk [4, 1, 0] (by decide) ?_) rfl
            refine gabionlaw14_AllocPlays_l2_ok he160 ?_ ?_ _ _ _ ⟨hB, _, _, _, _, _, _, _, _, _, n124, _, _, h41, h116, h42, h121, h118, h126, h43, rfl, rfl⟩
            · intro r162 he_
              subst he_
              replace h := (on_l h)
              obtain rfl := Option.some.inj h
              exact hr _ hE
            · intro x163 he_
              subst he_
              replace h := (on_r h)
              rintro _ B _ ⟨hB, b164, v165, b166, v167, v168, v169, v170, h165, h167, h168, h169, h170, rfl, rfl⟩
              obtain ⟨_, _, _, _, _, rfl⟩ := h165.isl
              obtain ⟨_, _, _, _, _, rfl⟩ := h167.isl
              obtain ⟨_, _, _, _, _, rfl⟩ := h168.isl
              obtain ⟨_, _, _, _, _, rfl⟩ := h169.isl
              obtain ⟨_, _, _, _, _, rfl⟩ := h170.isl
              refine WX.keep [5, 7, 12, 13, 14, 15, 54, 55, 56] (WX.pk [0, 1] (by decide) ?_) rfl
              exact gabionlaw14_AllocPlays_j24_ok h hn hx0 hr hE _ _ _ ⟨hB, _, _, _, _, _, _, _, h165, h167, h168, h169, h170, rfl, rfl⟩
        · have q_k113 := of_decide_eq_false k113
          replace h := (if_neg q_k113).symm.trans h
          refine WX.condF rfl k113 ?_
          refine WX.skip ?_
          refine WX.pop ?_
          refine WX.keep [5, 7, 12, 13, 14, 15, 54, 55, 56] (WX.pk [3, 0] (by decide) ?_) rfl
          exact gabionlaw14_AllocPlays_j24_ok h hn hx0 hr hE _ _ _ ⟨hB, _, _, _, _, _, _, _, h41, RSl.nil _ _, h42, RSl.nil _ _, h43, rfl, rfl⟩
  · have q_k44 := of_decide_eq_false k44
    replace h := (if_neg q_k44).symm.trans h
    refine WX.condF rfl k44 ?_
    refine WX.exit rfl ?_
    refine WX.keep [] (WX.pk [] (by decide) ?_) rfl
    obtain rfl := Option.some.inj h
    exact hx0 _ hE _ _ _ ⟨hB, rfl, rfl⟩
theorem gabionlaw14_AllocPlays_l1_ok {B0 : Kn} {L : Own} {n0 : Nat} {x54 : List (Int × Int × Int)} {x7 : List Bool} {x56 : Int} {zb5 : Int × (List (Int × Int))} {Q : AV → St → Prop} {d : Nat} {e : Bool ⊕ Unit} (h : iter (fun (s : (List Bool) × Int × (Int × (List (Int × Int)))) => gabionlaw14_AllocPlays_l1 x54 s.1 s.2.1 s.2.2) d (x7, x56, zb5) = some e) (g0 : ∀ r, e = (.inl r) → ∀ v st, gabionlaw14_AllocPlays_P B0 L r v st → Q v st) (g1 : ∀ s, e = (.inr s) → WXI Try.prog 194 n0 (Fin Try.prog Try.f8.results.toList n0 Q) [.code (ct [1, 1, 1, 1, 1, 1, 1] (bodyOf Try.f8))] (gabionlaw14_AllocPlays_l1_X0 B0) L) : WXI Try.prog 194 n0 (Fin Try.prog Try.f8.results.toList n0 Q) [.code (ct [1, 1, 1, 1, 1, 1, 0, 1, 0, 0] (bodyOf Try.f8)), .lp (ct [1, 1, 1, 1, 1, 1, 0, 1, 0, 0] (bodyOf Try.f8)), .blk 2, .code (ct [1, 1, 1, 1, 1, 1, 1] (bodyOf Try.f8))] (gabionlaw14_AllocPlays_l1_I B0 x54 x7 x56 zb5) L :=
  iter_ok (I := fun s => gabionlaw14_AllocPlays_l1_I B0 x54 s.1 s.2.1 s.2.2) (D := fun e => (∀ r, e = (.inl r) → ∀ v st, gabionlaw14_AllocPlays_P B0 L r v st → Q v st) ∧ (∀ s, e = (.inr s) → WXI Try.prog 194 n0 (Fin Try.prog Try.f8.results.toList n0 Q) [.code (ct [1, 1, 1, 1, 1, 1, 1] (bodyOf Try.f8))] (gabionlaw14_AllocPlays_l1_X0 B0) L)) (fun E hn hx s o ho hE => gabionlaw14_AllocPlays_l1_s ho hn (fun s hs => (hx _ hs).2 _ rfl) (fun r hs => (hx _ hs).1 _ rfl) hE) h ⟨g0, g1⟩
theorem gabionlaw14_AllocPlays_j10_ok {B0 : Kn} {L : Own} {n0 : Nat} {x1 : List (Int × Int × Int)} {x7 : List Bool} {x49 : Bool} {zb5 : Int × (List (Int × Int))} {r : Bool} (h : gabionlaw14_AllocPlays_j10 x1 x7 x49 zb5 = some r) : WXI Try.prog 194 n0 (Fin Try.prog Try.f8.results.toList n0 (gabionlaw14_AllocPlays_P B0 L r)) [.code (ct [1, 1, 1, 1, 1, 0, 1] (bodyOf Try.f8)), .code (ct [1, 1, 1, 1, 1, 1] (bodyOf Try.f8))] (gabionlaw14_AllocPlays_j10_I B0 x1 x7 x49 zb5) L := by
  unfold gabionlaw14_AllocPlays_j10 at h
  rintro _ B _ ⟨hB, b32, v33, b33, n33, c33, v34, v35, b35, n35, c35, h33, h34, h35, rfl, rfl⟩
  obtain ⟨_, _, _, _, _, rfl⟩ := h33.isl
  obtain ⟨_, _, _, _, _, rfl⟩ := h34.isl
  obtain ⟨_, _, _, _, _, rfl⟩ := h35.isl
  rcases bsp x49 with k36 | k36
  · replace h := (if_pos k36).symm.trans h
    refine WX.condT rfl k36 ?_
    refine WX.seq ?_
    refine WX.reg ?_
    refine WO.q (.as (v := .bool _) rfl) rfl rfl ?_
    refine WO.nil ?_
    obtain rfl := Option.some.inj h
    exact WX.ret (rs_ (rs_tmp rfl rs_nil)) fun st hp => ⟨(hp.pk [] (by decide)).le hB, rfl⟩
  · replace h := (if_neg (bnt k36)).symm.trans h
    refine WX.condF rfl k36 ?_
    refine WX.skip ?_
    refine WX.seq ?_
    refine WX.seq ?_
    refine WX.reg ?_
    refine WO.q (.mv (v := .sl _ _ _ _ _ _) rfl) rfl rfl ?_
    refine WO.q (.mv (v := .sl _ _ _ _ _ _) rfl) rfl rfl ?_
    refine WO.q (.len rfl rfl rfl (sl65.len h34.isl)) rfl rfl ?_
    refine WO.q (.r fun _ => rfl) rfl rfl ?_
    obtain ⟨y37, hy37, h⟩ := Option.bind_eq_some_iff.1 h
    obtain ⟨v_y37, e_y37, g_y37⟩ := h34.cut sl65 hy37 (lo := none) (hi := some (.int .i64 (mn (x1.length : Int) 50))) bnd_none (bnd_int (Int.le_trans (cutL_some hy37).1.1 (cutL_some hy37).1.2.1))
    obtain ⟨_, _, _, _, _, rfl⟩ := g_y37.isl
    refine WO.q (.sl e_y37) rfl rfl ?_
    refine WO.q (.len rfl rfl rfl (sl65.len g_y37.isl)) rfl rfl ?_
    refine WO.q (.mv (v := .int _ _) rfl) rfl rfl ?_
    refine WO.nil ?_
    refine WX.block ?_
    refine WX.loop ?_
    obtain ⟨e171, he171, h⟩ := Option.bind_eq_some_iff.1 h
    refine WX.fz (j := 2) h35 rfl ?_
    intro B hK g38
    replace g_y37 := g_y37.up hK
    replace h33 := h33.up hK
    replace hB := hB.trans hK
    refine WX.fz (j := 1) h33 rfl ?_
    intro B hK g39
    replace g38 := g38.up hK
    replace g_y37 := g_y37.up hK
    replace hB := hB.trans hK
    refine WX.keep [5, 7, 54, 55, 56] (WX.pk [0] (by decide) ?_) rfl
    refine gabionlaw14_AllocPlays_l1_ok he171 ?_ ?_ _ _ _ ⟨hB, _, _, _, _, g39, g38, g_y37, rfl, rfl⟩
    · intro r173 he_
      subst he_
      replace h := (on_l h)
      obtain rfl := Option.some.inj h
      exact fun v st hp => hp
    · intro x174 he_
      subst he_
      replace h := (on_r h)
      rintro _ B _ ⟨hB, rfl, rfl⟩
      refine WX.seq ?_
      refine WX.reg ?_
      refine WO.q (.as (v := .bool _) rfl) rfl rfl ?_
      refine WO.nil ?_
      obtain rfl := Option.some.inj h
      exact WX.ret (rs_ (rs_tmp rfl rs_nil)) fun st hp => ⟨(hp.pk [] (by decide)).le hB, rfl⟩
theorem gabionlaw14_AllocPlays_ok {B0 : Kn} {L : Own} {a0 : Int} {a1 : List (Int × Int × Int)} {v1_0 : AV} {r : Bool} (g1_0 : RSl EPIi64Ii64Ii64Q B0 v1_0 a1) (h : gabionlaw14_AllocPlays a0 a1 = some r) : ∀ st, Hp B0 L st → ASpec Try.prog 8 [.int .i64 a0, v1_0] st (gabionlaw14_AllocPlays_P B0 L r) := by
  unfold gabionlaw14_AllocPlays at h
  refine bodyA (A := []) Try.func8 rfl (c := bodyOf Try.f8) rfl Try.ntmps8 (lb rfl) fun n0 => ?_
  have hB := KLe.refl B0
  obtain ⟨_, _, _, _, _, rfl⟩ := g1_0.isl
  refine WX.seq ?_
  refine WX.reg ?_
  refine WO.q (.as (v := .bool _) rfl) rfl rfl ?_
  refine WO.nil ?_
  refine WX.seq ?_
  refine WX.reg ?_
  refine WO.q (.mv (v := .int _ _) rfl) rfl rfl ?_
  refine WO.q (.r fun _ => rfl) rfl rfl ?_
  refine WO.q (.r fun _ => rfl) rfl rfl ?_
  refine WO.q (.as (v := .int _ _) rfl) rfl rfl ?_
  refine WO.nil ?_
  refine WX.seq ?_
  refine WX.reg ?_
  refine WO.q (.mv (v := .int _ _) rfl) rfl rfl ?_
  obtain ⟨y1, hy1, h⟩ := Option.bind_eq_some_iff.1 h
  refine WO.c1 rfl rfl (alloc_New_ok hy1) rfl rfl rfl ?_
  rintro _ B _ hK ⟨v2, b3, n4, c5, rfl, rfl, h6⟩
  obtain ⟨_, _, _, _, _, rfl⟩ := h6.isl
  replace g1_0 := g1_0.up hK
  replace hB := hB.trans hK
  refine WO.q (.mv (v := .tup _) rfl) rfl rfl ?_
  refine WO.q (.r fun _ => rfl) rfl rfl ?_
  refine WO.q (.r fun _ => rfl) rfl rfl ?_
  refine WO.md (MOp.alloc ti25 rfl) rfl rfl ?_
  rintro _ _ ⟨b7, rfl, rfl⟩
  refine WO.mn (MOp.storeW rfl (cA rfl) .h ti25 rfl rfl rfl) rfl ?_
  rintro _ _ rfl
  refine WO.q (.as (v := .int _ _) rfl) rfl rfl ?_
  refine WO.nil ?_
  refine WX.seq ?_
  refine WX.reg ?_
  refine WO.q (.mv (v := .int _ _) rfl) rfl rfl ?_
  obtain ⟨hk11, h⟩ := ifS_some h
  refine WO.md (MOp.mk sl66 rfl rfl hk11.1 hk11.2.1 hk11.2.2 Rb) rfl rfl ?_
  rintro v10 _ ⟨b8, o9, rfl⟩
  obtain ⟨_, _, _, _, _, rfl⟩ := o9.isl
  refine WO.q (.as (v := .sl _ _ _ _ _ _) rfl) rfl rfl ?_
  refine WO.nil ?_
  refine WX.seq ?_
  refine WX.seq ?_
  refine WX.reg ?_
  refine WO.q (.mv (v := .sl _ _ _ _ _ _) rfl) rfl rfl ?_
  refine WO.q (.len rfl rfl rfl (sl66.len o9.isl)) rfl rfl ?_
  refine WO.q (.mv (v := .int _ _) rfl) rfl rfl ?_
  refine WO.nil ?_
  refine WX.block ?_
  refine WX.loop ?_
  obtain ⟨e24, he24, h⟩ := Option.bind_eq_some_iff.1 h
  refine WX.keep [1, 5, 6, 7, 30, 31] (WX.pk [1, 2, 0] (by decide) ?_) rfl
  refine gabionlaw14_AllocPlays_l0_ok he24 ?_ _ _ _ ⟨hB, _, _, _, n4, _, _, _, _, false, _, h6, g1_0, o9, rfl, rfl⟩
  · intro s180 he_
    subst he_
    replace h := h
    rintro _ B _ ⟨hB, b25, v26, b26, n26, c26, v27, v28, b28, n28, c28, h26, h27, h28, rfl, rfl⟩
    obtain ⟨_, _, _, _, _, rfl⟩ := h26.isl
    obtain ⟨_, _, _, _, _, rfl⟩ := h27.isl
    obtain ⟨_, _, _, _, _, rfl⟩ := h28.isl
    refine WX.seq ?_
    refine WX.seq ?_
    refine WX.reg ?_
    obtain ⟨y29, hy29, h⟩ := Option.bind_eq_some_iff.1 h
    refine WO.cS rfl rfl (gabionlaw14_wakes_ok hy29) rfl rfl rfl ?_
    rintro _ rfl
    refine WO.q (.r fun _ => rfl) rfl rfl ?_
    refine WO.q (.mv (v := .bool _) rfl) rfl rfl ?_
    rcases bsp y29 with k30 | k30
    · replace h := (if_pos k30).symm.trans h
      refine WO.q (.mv (v := .int _ _) rfl) (wg rfl rfl (gf (f_not k30))) rfl ?_
      refine WO.q (.r fun _ => rfl) (wg rfl rfl (gf (f_not k30))) rfl ?_
      refine WO.q (.pfv (v := .bool _) rfl (f_not k30) rfl) rfl rfl ?_
      refine WO.q (.mv (v := .bool _) rfl) rfl rfl ?_
      rcases bsp (decide (y1.2 ≠ 0)) with k31 | k31
      · have q_k31 := of_decide_eq_true k31
        replace h := (if_pos q_k31).symm.trans h
        refine WO.sd (wg rfl rfl (gfn k31)) rfl ?_
        refine WO.sd (wg rfl rfl (gfn k31)) rfl ?_
        refine WO.sd (wg rfl rfl (gfn k31)) rfl ?_
        refine WO.sd (wg rfl rfl (gfn k31)) rfl ?_
        refine WO.q (.ptv (v := .bool _) rfl k31 rfl) rfl rfl ?_
        refine WO.nil ?_
        refine WX.keep [1, 5, 7, 49] (WX.pk [0, 1, 2] (by decide) ?_) rfl
        exact gabionlaw14_AllocPlays_j10_ok h _ _ _ ⟨hB, _, _, _, n26, _, _, _, _, n28, _, h26, h27, h28, rfl, rfl⟩
      · have q_k31 := of_decide_eq_false k31
        replace h := (if_neg q_k31).symm.trans h
        refine WO.q (.ldA (i := 0) rfl rfl rfl ti25 rfl) (wg rfl rfl (gf k31)) rfl ?_
        refine WO.q (.mv (v := .sl _ _ _ _ _ _) rfl) (wg rfl rfl (gf k31)) rfl ?_
        obtain ⟨y175, hy175, h⟩ := Option.bind_eq_some_iff.1 h
        refine WO.cS rfl rfl (lendC (j := 1) h26 rfl fun _ K177 g176 => lendC (j := 1) (h28.up K177) rfl fun _ K179 g178 => gabionlaw14_same_ok (g176.up K179) g178 hy175) rfl (wg rfl rfl (gf k31)) rfl ?_
        rintro _ rfl
        refine WO.q (.r fun _ => rfl) (wg rfl rfl (gf k31)) rfl ?_
        refine WO.q (.pfv (v := .bool _) rfl k31 rfl) rfl rfl ?_
        refine WO.nil ?_
        refine WX.keep [1, 5, 7, 49] (WX.pk [0, 1, 2] (by decide) ?_) rfl
        exact gabionlaw14_AllocPlays_j10_ok h _ _ _ ⟨hB, _, _, _, n26, _, _, _, _, n28, _, h26, h27, h28, rfl, rfl⟩
    · replace h := (if_neg (bnt k30)).symm.trans h
      refine WO.sd (wg rfl rfl (gfn (t_not k30))) rfl ?_
      refine WO.sd (wg rfl rfl (gfn (t_not k30))) rfl ?_
      refine WO.q (.ptv (v := .bool _) rfl (t_not k30) rfl) rfl rfl ?_
      refine WO.q (.mv (v := .bool _) rfl) rfl rfl ?_
      refine WO.sd (wg rfl rfl (gfn rfl)) rfl ?_
      refine WO.sd (wg rfl rfl (gfn rfl)) rfl ?_
      refine WO.sd (wg rfl rfl (gfn rfl)) rfl ?_
      refine WO.sd (wg rfl rfl (gfn rfl)) rfl ?_
      refine WO.q (.ptv (v := .bool _) rfl rfl rfl) rfl rfl ?_
      refine WO.nil ?_
      refine WX.keep [1, 5, 7, 49] (WX.pk [0, 1, 2] (by decide) ?_) rfl
      exact gabionlaw14_AllocPlays_j10_ok h _ _ _ ⟨hB, _, _, _, n26, _, _, _, _, n28, _, h26, h27, h28, rfl, rfl⟩
end Gab
