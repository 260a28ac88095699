/- The Go code comes to what the Lean functions say. Written by a program (gp.py). -/
import Derived.Test.YtdkldojcpncnhaaFd
import Derived.Test.YtdkldojcpncnhaaFp16
set_option linter.unusedSimpArgs false
set_option linter.unusedVariables false
set_option maxHeartbeats 4000000
set_option maxRecDepth 100000
namespace Gab
open Go Go.Proofs
def gabionlaw14_AllocBack_P (B : Kn) (L : Own) (r : Bool) : AV → St → Prop := CS B L fun v => v = .bool r
def gabionlaw14_AllocBack_j10_I (B0 : Kn) (x1 : Int) (x38 : List Int) (x40 : Int) (zb5 : Int × (List (Int × Int))) : Fr → Kn → Own → Prop := fun fr B A => KLe B0 B ∧ ∃ b30 v31 v32, RSl EPIi64Ii64Q B v31 zb5.2 ∧ RSl (Ty.int .u8) B v32 x38 ∧ fr = [(1, .int .u8 x1), (5, .ptr b30 0), (38, v32), (39, .int .i64 (x38.length : Int)), (40, .int .i64 x40)] ∧ A = [(b30, some [.int .i64 zb5.1, v31])]
def gabionlaw14_AllocBack_l0_I (B0 : Kn) (x1 : Int) (x38 : List Int) (x40 : Int) (zb5 : Int × (List (Int × Int))) : Fr → Kn → Own → Prop := fun fr B A => KLe B0 B ∧ ∃ b16 v17 v18, RSl EPIi64Ii64Q B v17 zb5.2 ∧ RSl (Ty.int .u8) B v18 x38 ∧ fr = [(1, .int .u8 x1), (5, .ptr b16 0), (38, v18), (39, .int .i64 (x38.length : Int)), (40, .int .i64 x40)] ∧ A = [(b16, some [.int .i64 zb5.1, v17])]
def gabionlaw14_AllocBack_l0_X0 (B0 : Kn) (x1 : Int) (zb5 : Int × (List (Int × Int))) : Fr → Kn → Own → Prop := fun fr B A => KLe B0 B ∧ ∃ b172 v173, RSl EPIi64Ii64Q B v173 zb5.2 ∧ fr = [(1, .int .u8 x1), (5, .ptr b172 0)] ∧ A = [(b172, some [.int .i64 zb5.1, v173])]
def gabionlaw14_AllocBack_j27_I (B0 : Kn) (x11 : Int) (x13 : List (Int × Int)) (x15 : Int) (x18 : Int) (x90 : List (Int × Int)) (x92 : Int) (x123 : Bool) (zb5 : Int × (List (Int × Int))) (zb12 : Int × (List (Int × Int))) (zb17 : Int × Int) : Fr → Kn → Own → Prop := fun fr B A => KLe B0 B ∧ ∃ b79 v80 b81 v82 b83 v84 v85, RSl EPIi64Ii64Q B v80 zb5.2 ∧ RSl EPIi64Ii64Q B v82 zb12.2 ∧ RSl EPIi64Ii64Q B v84 x13 ∧ RSl EPIi64Ii64Q B v85 x90 ∧ fr = [(5, .ptr b79 0), (11, .int .i64 x11), (12, .ptr b81 0), (13, v84), (15, .int .i64 x15), (17, .ptr b83 0), (18, .int .i64 x18), (90, v85), (91, .int .i64 (x90.length : Int)), (92, .int .i64 x92), (123, .bool x123)] ∧ A = [(b79, some [.int .i64 zb5.1, v80]), (b81, some [.int .i64 zb12.1, v82]), (b83, some [.int .i64 zb17.1, .int .i64 zb17.2])]
def gabionlaw14_AllocBack_j25_I (B0 : Kn) (x11 : Int) (x13 : List (Int × Int)) (x15 : Int) (x18 : Int) (x90 : List (Int × Int)) (x92 : Int) (x112 : Bool) (zb5 : Int × (List (Int × Int))) (zb12 : Int × (List (Int × Int))) (zb17 : Int × Int) : Fr → Kn → Own → Prop := fun fr B A => KLe B0 B ∧ ∃ b68 v69 b70 v71 b72 v73 v74, RSl EPIi64Ii64Q B v69 zb5.2 ∧ RSl EPIi64Ii64Q B v71 zb12.2 ∧ RSl EPIi64Ii64Q B v73 x13 ∧ RSl EPIi64Ii64Q B v74 x90 ∧ fr = [(5, .ptr b68 0), (11, .int .i64 x11), (12, .ptr b70 0), (13, v73), (15, .int .i64 x15), (17, .ptr b72 0), (18, .int .i64 x18), (90, v74), (91, .int .i64 (x90.length : Int)), (92, .int .i64 x92), (112, .bool x112)] ∧ A = [(b68, some [.int .i64 zb5.1, v69]), (b70, some [.int .i64 zb12.1, v71]), (b72, some [.int .i64 zb17.1, .int .i64 zb17.2])]
def gabionlaw14_AllocBack_l2_I (B0 : Kn) (x11 : Int) (x13 : List (Int × Int)) (x15 : Int) (x90 : List (Int × Int)) (zb5 : Int × (List (Int × Int))) (zb12 : Int × (List (Int × Int))) (zb17 : Int × Int) (x18 : Int) (x92 : Int) : Fr → Kn → Own → Prop := fun fr B A => KLe B0 B ∧ ∃ b60 v61 b62 v63 b64 v65 v66, RSl EPIi64Ii64Q B v61 zb5.2 ∧ RSl EPIi64Ii64Q B v63 zb12.2 ∧ RSl EPIi64Ii64Q B v65 x13 ∧ RSl EPIi64Ii64Q B v66 x90 ∧ fr = [(5, .ptr b60 0), (11, .int .i64 x11), (12, .ptr b62 0), (13, v65), (15, .int .i64 x15), (17, .ptr b64 0), (18, .int .i64 x18), (90, v66), (91, .int .i64 (x90.length : Int)), (92, .int .i64 x92)] ∧ A = [(b60, some [.int .i64 zb5.1, v61]), (b62, some [.int .i64 zb12.1, v63]), (b64, some [.int .i64 zb17.1, .int .i64 zb17.2])]
def gabionlaw14_AllocBack_l2_X0 (B0 : Kn) (x11 : Int) (x13 : List (Int × Int)) (x15 : Int) (x90 : List (Int × Int)) (x92 : Int) (zb5 : Int × (List (Int × Int))) (zb12 : Int × (List (Int × Int))) : Fr → Kn → Own → Prop := fun fr B A => KLe B0 B ∧ ∃ b174 v175 b176 v177 v178 v179, RSl EPIi64Ii64Q B v175 zb5.2 ∧ RSl EPIi64Ii64Q B v177 zb12.2 ∧ RSl EPIi64Ii64Q B v178 x13 ∧ RSl EPIi64Ii64Q B v179 x90 ∧ fr = [(5, .ptr b174 0), (11, .int .i64 x11), (12, .ptr b176 0), (13, v178), (15, .int .i64 x15), (90, v179), (91, .int .i64 (x90.length : Int)), (92, .int .i64 x92)] ∧ A = [(b174, some [.int .i64 zb5.1, v175]), (b176, some [.int .i64 zb12.1, v177])]
def gabionlaw14_AllocBack_l1_I (B0 : Kn) (x11 : Int) (x13 : List (Int × Int)) (x90 : List (Int × Int)) (zb5 : Int × (List (Int × Int))) (zb12 : Int × (List (Int × Int))) (x15 : Int) (x92 : Int) : Fr → Kn → Own → Prop := fun fr B A => KLe B0 B ∧ ∃ b51 v52 b53 v54 v55 v56, RSl EPIi64Ii64Q B v52 zb5.2 ∧ RSl EPIi64Ii64Q B v54 zb12.2 ∧ RSl EPIi64Ii64Q B v55 x13 ∧ RSl EPIi64Ii64Q B v56 x90 ∧ fr = [(5, .ptr b51 0), (11, .int .i64 x11), (12, .ptr b53 0), (13, v55), (15, .int .i64 x15), (90, v56), (91, .int .i64 (x90.length : Int)), (92, .int .i64 x92)] ∧ A = [(b51, some [.int .i64 zb5.1, v52]), (b53, some [.int .i64 zb12.1, v54])]
def gabionlaw14_AllocBack_l1_X0 (B0 : Kn) (x11 : Int) (x13 : List (Int × Int)) (x15 : Int) (zb5 : Int × (List (Int × Int))) (zb12 : Int × (List (Int × Int))) : Fr → Kn → Own → Prop := fun fr B A => KLe B0 B ∧ ∃ b180 v181 b182 v183 v184, RSl EPIi64Ii64Q B v181 zb5.2 ∧ RSl EPIi64Ii64Q B v183 zb12.2 ∧ RSl EPIi64Ii64Q B v184 x13 ∧ fr = [(5, .ptr b180 0), (11, .int .i64 x11), (12, .ptr b182 0), (13, v184), (15, .int .i64 x15)] ∧ A = [(b180, some [.int .i64 zb5.1, v181]), (b182, some [.int .i64 zb12.1, v183])]
def gabionlaw14_AllocBack_l3_I (B0 : Kn) (x11 : Int) (x15 : Int) (x125 : List (Int × Int)) (zb5 : Int × (List (Int × Int))) (x127 : Int) (zb12 : Int × (List (Int × Int))) : Fr → Kn → Own → Prop := fun fr B A => KLe B0 B ∧ ∃ b117 v118 b119 v120 v121, RSl EPIi64Ii64Q B v118 zb5.2 ∧ RSl EPIi64Ii64Q B v120 zb12.2 ∧ RSl EPIi64Ii64Q B v121 x125 ∧ fr = [(5, .ptr b117 0), (11, .int .i64 x11), (12, .ptr b119 0), (15, .int .i64 x15), (125, v121), (126, .int .i64 (x125.length : Int)), (127, .int .i64 x127)] ∧ A = [(b117, some [.int .i64 zb5.1, v118]), (b119, some [.int .i64 zb12.1, v120])]
def gabionlaw14_AllocBack_l3_X0 (B0 : Kn) (x11 : Int) (x15 : Int) (zb5 : Int × (List (Int × Int))) (zb12 : Int × (List (Int × Int))) : Fr → Kn → Own → Prop := fun fr B A => KLe B0 B ∧ ∃ b185 v186 b187 v188, RSl EPIi64Ii64Q B v186 zb5.2 ∧ RSl EPIi64Ii64Q B v188 zb12.2 ∧ fr = [(5, .ptr b185 0), (11, .int .i64 x11), (12, .ptr b187 0), (15, .int .i64 x15)] ∧ A = [(b185, some [.int .i64 zb5.1, v186]), (b187, some [.int .i64 zb12.1, v188])]
def gabionlaw14_AllocBack_l4_I (B0 : Kn) (x21 : List (Int × Int)) (x22 : List (Int × Int)) (x156 : Int) : Fr → Kn → Own → Prop := fun fr B A => KLe B0 B ∧ ∃ v161 b161 n161 c161 v162 b162 n162 c162, OSl EPIi64Ii64Q B v161 b161 n161 c161 x21 ∧ OSl EPIi64Ii64Q B v162 b162 n162 c162 x22 ∧ fr = [(21, v161), (22, v162), (155, .int .i64 (x21.length : Int)), (156, .int .i64 x156)] ∧ A = [oe b161 n161 c161, oe b162 n162 c162]
def gabionlaw14_AllocBack_l4_X0 (B0 : Kn) : Fr → Kn → Own → Prop := fun fr B A => KLe B0 B ∧ fr = [] ∧ A = []
def gabionlaw14_AllocBack_j40_I (B0 : Kn) (x21 : List (Int × Int)) (x22 : List (Int × Int)) (x153 : Bool) : Fr → Kn → Own → Prop := fun fr B A => KLe B0 B ∧ ∃ v158 b158 n158 c158 v159 b159 n159 c159, OSl EPIi64Ii64Q B v158 b158 n158 c158 x21 ∧ OSl EPIi64Ii64Q B v159 b159 n159 c159 x22 ∧ fr = [(21, v158), (22, v159), (153, .bool x153)] ∧ A = [oe b158 n158 c158, oe b159 n159 c159]
def gabionlaw14_AllocBack_j2_I (B0 : Kn) (x0 : List Int) (x1 : Int) (x33 : Bool) (zb5 : Int × (List (Int × Int))) : Fr → Kn → Own → Prop := fun fr B A => KLe B0 B ∧ ∃ b10 v11 b11 n11 c11 v12, OSl EPIi64Ii64Q B v11 b11 n11 c11 zb5.2 ∧ RSl (Ty.int .u8) B v12 x0 ∧ fr = [(0, v12), (1, .int .u8 x1), (5, .ptr b10 0), (33, .bool x33)] ∧ A = [(b10, some [.int .i64 zb5.1, v11]), oe b11 n11 c11]
theorem gabionlaw14_AllocBack_j10_ok {B0 : Kn} {L : Own} {n0 : Nat} {x1 : Int} {x38 : List Int} {x40 : Int} {zb5 : Int × (List (Int × Int))} {Q : AV → St → Prop} {E : (Int × (Int × (List (Int × Int)))) ⊕ (Int × (List (Int × Int))) → Prop} {o : (Int × (Int × (List (Int × Int)))) ⊕ (Int × (List (Int × Int)))} (h : gabionlaw14_AllocBack_j10 x1 x38 x40 zb5 = some o) (hn : ∀ s, E (.inl s) → WXI Try.prog 169 n0 (Fin Try.prog Try.f7.results.toList n0 Q) [.lp (ct [1, 1, 1, 0, 1, 0, 0] (bodyOf Try.f7)), .blk 0, .code (ct [1, 1, 1, 1] (bodyOf Try.f7))] (gabionlaw14_AllocBack_l0_I B0 x1 x38 s.1 s.2) L) (hx0 : ∀ s, E (.inr s) → WXI Try.prog 169 n0 (Fin Try.prog Try.f7.results.toList n0 Q) [.code (ct [1, 1, 1, 1] (bodyOf Try.f7))] (gabionlaw14_AllocBack_l0_X0 B0 x1 s) L) (hE : E o) : WXI Try.prog 169 n0 (Fin Try.prog Try.f7.results.toList n0 Q) [.code (ct [1, 1, 1, 0, 1, 0, 0, 1, 1, 1] (bodyOf Try.f7)), .lp (ct [1, 1, 1, 0, 1, 0, 0] (bodyOf Try.f7)), .blk 0, .code (ct [1, 1, 1, 1] (bodyOf Try.f7))] (gabionlaw14_AllocBack_j10_I B0 x1 x38 x40 zb5) L := by
  unfold gabionlaw14_AllocBack_j10 at h
  rintro _ B _ ⟨hB, b30, v31, v32, h31, h32, rfl, rfl⟩
  obtain ⟨_, _, _, _, _, rfl⟩ := h31.isl
  obtain ⟨_, _, _, _, _, rfl⟩ := h32.isl
  refine WX.reg ?_
  refine WO.q (.r fun _ => rfl) rfl rfl ?_
  refine WO.q (.mv (v := .int _ _) rfl) rfl rfl ?_
  refine WO.nil ?_
  refine WX.keepL [1, 5, 38, 39, 40] (WX.pk [0] (by decide) ?_) rfl
  obtain rfl := Option.some.inj h
  exact hn _ hE _ _ _ ⟨hB, _, _, _, h31, h32, rfl, rfl⟩
theorem gabionlaw14_AllocBack_l0_s {B0 : Kn} {L : Own} {n0 : Nat} {x1 : Int} {x38 : List Int} {x40 : Int} {zb5 : Int × (List (Int × Int))} {Q : AV → St → Prop} {E : (Int × (Int × (List (Int × Int)))) ⊕ (Int × (List (Int × Int))) → Prop} {o : (Int × (Int × (List (Int × Int)))) ⊕ (Int × (List (Int × Int)))} (h : gabionlaw14_AllocBack_l0 x1 x38 x40 zb5 = some o) (hn : ∀ s, E (.inl s) → WXI Try.prog 169 n0 (Fin Try.prog Try.f7.results.toList n0 Q) [.lp (ct [1, 1, 1, 0, 1, 0, 0] (bodyOf Try.f7)), .blk 0, .code (ct [1, 1, 1, 1] (bodyOf Try.f7))] (gabionlaw14_AllocBack_l0_I B0 x1 x38 s.1 s.2) L) (hx0 : ∀ s, E (.inr s) → WXI Try.prog 169 n0 (Fin Try.prog Try.f7.results.toList n0 Q) [.code (ct [1, 1, 1, 1] (bodyOf Try.f7))] (gabionlaw14_AllocBack_l0_X0 B0 x1 s) L) (hE : E o) : WXI Try.prog 169 n0 (Fin Try.prog Try.f7.results.toList n0 Q) [.code (ct [1, 1, 1, 0, 1, 0, 0] (bodyOf Try.f7)), .lp (ct [1, 1, 1, 0, 1, 0, 0] (bodyOf Try.f7)), .blk 0, .code (ct [1, 1, 1, 1] (bodyOf Try.f7))] (gabionlaw14_AllocBack_l0_I B0 x1 x38 x40 zb5) L := by
  unfold gabionlaw14_AllocBack_l0 at h
  rintro _ B _ ⟨hB, b16, v17, v18, h17, h18, rfl, rfl⟩
  obtain ⟨_, _, _, _, _, rfl⟩ := h17.isl
  obtain ⟨_, _, _, _, _, rfl⟩ := h18.isl
  refine WX.seq ?_
  refine WX.reg ?_
  refine WO.q (.r fun _ => rfl) rfl rfl ?_
  refine WO.nil ?_
  refine WX.seq ?_
  rcases bsp (decide (x40 < (x38.length : Int))) with k19 | k19
  · have q_k19 := of_decide_eq_true k19
    replace h := (if_pos q_k19).symm.trans h
    refine WX.condT rfl k19 ?_
    refine WX.skip ?_
    refine WX.seq ?_
    refine WX.block ?_
    refine WX.seq ?_
    refine WX.reg ?_
    obtain ⟨y20, hy20, h⟩ := Option.bind_eq_some_iff.1 h
    obtain ⟨b_y20, o_y20, _, i_y20, p_y20, r_y20⟩ := h18.at sl32 hy20 .i64
    obtain rfl := r_y20
    refine WO.q (.ia i_y20) rfl rfl ?_
    refine WO.q (.lp0 rfl p_y20 rfl ti5 rfl) rfl rfl ?_
    refine WO.q (.as (v := .int _ _) rfl) rfl rfl ?_
    refine WO.nil ?_
    refine WX.seq ?_
    refine WX.reg ?_
    refine WO.q (.ldA (i := 0) rfl rfl rfl ti25 rfl) rfl rfl ?_
    refine WO.q (.mv (v := .int _ _) rfl) rfl rfl ?_
    refine WO.q (.r fun _ => rfl) rfl rfl ?_
    refine WO.q (cvI ti5 ti3 rfl rfl) rfl rfl ?_
    refine WO.q (.bd (bd35_0_1 (cI rfl) (cI rfl))) rfl rfl ?_
    obtain ⟨y21, hy21, h⟩ := Option.bind_eq_some_iff.1 h
    refine WO.c1 rfl rfl (alloc_Set_Use_ok h17 hy21) rfl rfl rfl ?_
    rintro _ B _ hK ⟨v22, b23, n24, c25, rfl, rfl, h26⟩
    obtain ⟨_, _, _, _, _, rfl⟩ := h26.isl
    replace h18 := h18.up hK
    replace h17 := h17.up hK
    replace hB := hB.trans hK
    refine WO.q (.mv (v := .tup _) rfl) rfl rfl ?_
    refine WO.q (.r fun _ => rfl) rfl rfl ?_
    refine WO.q (.r fun _ => rfl) rfl rfl ?_
    refine WO.md (MOp.alloc ti25 rfl) rfl rfl ?_
    rintro _ _ ⟨b27, rfl, rfl⟩
    refine WO.mn (MOp.storeW rfl (cA rfl) .h ti25 rfl rfl rfl) rfl ?_
    rintro _ _ rfl
    refine WO.q (.as (v := .int _ _) rfl) rfl rfl ?_
    refine WO.nil ?_
    refine WX.seq ?_
    refine WX.reg ?_
    refine WO.q (.mv (v := .int _ _) rfl) rfl rfl ?_
    refine WO.q (.r fun _ => rfl) rfl rfl ?_
    refine WO.nil ?_
    rcases bsp (decide (y21.2 = 0)) with k28 | k28
    · have q_k28 := of_decide_eq_true k28
      replace h := (if_pos q_k28).symm.trans h
      refine WX.condT rfl k28 ?_
      refine WX.reg ?_
      refine WO.q (.ldA (i := 0) rfl rfl rfl ti25 rfl) rfl rfl ?_
      refine WO.mn (MOp.storeW rfl (cA rfl) (.t (.t .h)) ti25 rfl rfl rfl) rfl ?_
      rintro _ _ rfl
      refine WO.nil ?_
      refine WX.pop ?_
      refine WX.fz (j := 1) h26 rfl ?_
      intro B hK g29
      replace h18 := h18.up hK
      replace hB := hB.trans hK
      refine WX.keep [1, 5, 38, 39, 40] (WX.pk [1] (by decide) ?_) rfl
      exact gabionlaw14_AllocBack_j10_ok h hn hx0 hE _ _ _ ⟨hB, _, _, _, g29, h18, rfl, rfl⟩
    · have q_k28 := of_decide_eq_false k28
      replace h := (if_neg q_k28).symm.trans h
      refine WX.condF rfl k28 ?_
      refine WX.skip ?_
      refine WX.pop ?_
      refine WX.keep [1, 5, 38, 39, 40] (WX.pk [2] (by decide) ?_) rfl
      exact gabionlaw14_AllocBack_j10_ok h hn hx0 hE _ _ _ ⟨hB, _, _, _, h17, h18, rfl, rfl⟩
  · have q_k19 := of_decide_eq_false k19
    replace h := (if_neg q_k19).symm.trans h
    refine WX.condF rfl k19 ?_
    refine WX.exit rfl ?_
    refine WX.keep [1, 5] (WX.pk [0] (by decide) ?_) rfl
    obtain rfl := Option.some.inj h
    exact hx0 _ hE _ _ _ ⟨hB, _, _, h17, rfl, rfl⟩
theorem gabionlaw14_AllocBack_l0_ok {B0 : Kn} {L : Own} {n0 : Nat} {x1 : Int} {x38 : List Int} {x40 : Int} {zb5 : Int × (List (Int × Int))} {Q : AV → St → Prop} {d : Nat} {e : (Int × (List (Int × Int)))} (h : iter (fun (s : Int × (Int × (List (Int × Int)))) => gabionlaw14_AllocBack_l0 x1 x38 s.1 s.2) d (x40, zb5) = some e) (g0 : ∀ s, e = s → WXI Try.prog 169 n0 (Fin Try.prog Try.f7.results.toList n0 Q) [.code (ct [1, 1, 1, 1] (bodyOf Try.f7))] (gabionlaw14_AllocBack_l0_X0 B0 x1 s) L) : WXI Try.prog 169 n0 (Fin Try.prog Try.f7.results.toList n0 Q) [.code (ct [1, 1, 1, 0, 1, 0, 0] (bodyOf Try.f7)), .lp (ct [1, 1, 1, 0, 1, 0, 0] (bodyOf Try.f7)), .blk 0, .code (ct [1, 1, 1, 1] (bodyOf Try.f7))] (gabionlaw14_AllocBack_l0_I B0 x1 x38 x40 zb5) L :=
  iter_ok (I := fun s => gabionlaw14_AllocBack_l0_I B0 x1 x38 s.1 s.2) (D := fun e => (∀ s, e = s → WXI Try.prog 169 n0 (Fin Try.prog Try.f7.results.toList n0 Q) [.code (ct [1, 1, 1, 1] (bodyOf Try.f7))] (gabionlaw14_AllocBack_l0_X0 B0 x1 s) L)) (fun E hn hx s o ho hE => gabionlaw14_AllocBack_l0_s ho hn (fun s hs => (hx _ hs) _ rfl)  hE) h g0
theorem gabionlaw14_AllocBack_j27_ok {B0 : Kn} {L : Own} {n0 : Nat} {x11 : Int} {x13 : List (Int × Int)} {x15 : Int} {x18 : Int} {x90 : List (Int × Int)} {x92 : Int} {x123 : Bool} {zb5 : Int × (List (Int × Int))} {zb12 : Int × (List (Int × Int))} {zb17 : Int × Int} {Q : AV → St → Prop} {E : (Int × Int) ⊕ (Bool ⊕ Int) → Prop} {o : (Int × Int) ⊕ (Bool ⊕ Int)} (h : gabionlaw14_AllocBack_j27 x11 x13 x15 x18 x90 x92 x123 zb5 zb12 zb17 = some o) (hn : ∀ s, E (.inl s) → WXI Try.prog 169 n0 (Fin Try.prog Try.f7.results.toList n0 Q) [.lp (ct [1, 1, 1, 1, 1, 1, 1, 1, 1, 0, 1, 0, 0, 1, 1, 0, 0, 1, 1, 1, 0, 0] (bodyOf Try.f7)), .blk 4, .blk 3, .code (ct [1, 1, 1, 1, 1, 1, 1, 1, 1, 0, 1, 0, 0, 1, 1, 1] (bodyOf Try.f7)), .lp (ct [1, 1, 1, 1, 1, 1, 1, 1, 1, 0, 1, 0, 0] (bodyOf Try.f7)), .blk 2, .code (ct [1, 1, 1, 1, 1, 1, 1, 1, 1, 1] (bodyOf Try.f7))] (gabionlaw14_AllocBack_l2_I B0 x11 x13 x15 x90 zb5 zb12 zb17 s.1 s.2) L) (hx0 : ∀ s, E (.inr (.inr s)) → WXI Try.prog 169 n0 (Fin Try.prog Try.f7.results.toList n0 Q) [.code (ct [1, 1, 1, 1, 1, 1, 1, 1, 1, 0, 1, 0, 0, 1, 1, 1] (bodyOf Try.f7)), .lp (ct [1, 1, 1, 1, 1, 1, 1, 1, 1, 0, 1, 0, 0] (bodyOf Try.f7)), .blk 2, .code (ct [1, 1, 1, 1, 1, 1, 1, 1, 1, 1] (bodyOf Try.f7))] (gabionlaw14_AllocBack_l2_X0 B0 x11 x13 x15 x90 s zb5 zb12) L) (hr : ∀ r, E (.inr (.inl r)) → ∀ v st, gabionlaw14_AllocBack_P B0 L r v st → Q v st) (hE : E o) : WXI Try.prog 169 n0 (Fin Try.prog Try.f7.results.toList n0 Q) [.code (ct [1, 1, 1, 1, 1, 1, 1, 1, 1, 0, 1, 0, 0, 1, 1, 0, 0, 1, 1, 1, 0, 0, 1, 0, 0, 1] (bodyOf Try.f7)), .blk 5, .code (ct [1, 1, 1, 1, 1, 1, 1, 1, 1, 0, 1, 0, 0, 1, 1, 0, 0, 1, 1, 1, 0, 0, 1, 1] (bodyOf Try.f7)), .lp (ct [1, 1, 1, 1, 1, 1, 1, 1, 1, 0, 1, 0, 0, 1, 1, 0, 0, 1, 1, 1, 0, 0] (bodyOf Try.f7)), .blk 4, .blk 3, .code (ct [1, 1, 1, 1, 1, 1, 1, 1, 1, 0, 1, 0, 0, 1, 1, 1] (bodyOf Try.f7)), .lp (ct [1, 1, 1, 1, 1, 1, 1, 1, 1, 0, 1, 0, 0] (bodyOf Try.f7)), .blk 2, .code (ct [1, 1, 1, 1, 1, 1, 1, 1, 1, 1] (bodyOf Try.f7))] (gabionlaw14_AllocBack_j27_I B0 x11 x13 x15 x18 x90 x92 x123 zb5 zb12 zb17) L := by
  unfold gabionlaw14_AllocBack_j27 at h
  rintro _ B _ ⟨hB, b79, v80, b81, v82, b83, v84, v85, h80, h82, h84, h85, rfl, rfl⟩
  obtain ⟨_, _, _, _, _, rfl⟩ := h80.isl
  obtain ⟨_, _, _, _, _, rfl⟩ := h82.isl
  obtain ⟨_, _, _, _, _, rfl⟩ := h84.isl
  obtain ⟨_, _, _, _, _, rfl⟩ := h85.isl
  rcases bsp x123 with k86 | k86
  · replace h := (if_pos k86).symm.trans h
    refine WX.condT rfl k86 ?_
    refine WX.seq ?_
    refine WX.reg ?_
    refine WO.q (.as (v := .bool _) rfl) rfl rfl ?_
    refine WO.nil ?_
    obtain rfl := Option.some.inj h
    exact WX.ret (rs_ (rs_tmp rfl rs_nil)) fun st hp => hr _ hE _ _ ⟨(hp.pk [] (by decide)).le hB, rfl⟩
  · replace h := (if_neg (bnt k86)).symm.trans h
    refine WX.condF rfl k86 ?_
    refine WX.skip ?_
    refine WX.pop ?_
    refine WX.reg ?_
    refine WO.q (.mv (v := .int _ _) rfl) rfl rfl ?_
    refine WO.q (.r fun _ => rfl) rfl rfl ?_
    refine WO.q (.as (v := .int _ _) rfl) rfl rfl ?_
    refine WO.nil ?_
    refine WX.keepL [5, 11, 12, 13, 15, 17, 18, 90, 91, 92] (WX.pk [0, 1, 2] (by decide) ?_) rfl
    obtain rfl := Option.some.inj h
    exact hn _ hE _ _ _ ⟨hB, _, _, _, _, _, _, _, h80, h82, h84, h85, rfl, rfl⟩
theorem gabionlaw14_AllocBack_j25_ok {B0 : Kn} {L : Own} {n0 : Nat} {x11 : Int} {x13 : List (Int × Int)} {x15 : Int} {x18 : Int} {x90 : List (Int × Int)} {x92 : Int} {x112 : Bool} {zb5 : Int × (List (Int × Int))} {zb12 : Int × (List (Int × Int))} {zb17 : Int × Int} {Q : AV → St → Prop} {E : (Int × Int) ⊕ (Bool ⊕ Int) → Prop} {o : (Int × Int) ⊕ (Bool ⊕ Int)} (h : gabionlaw14_AllocBack_j25 x11 x13 x15 x18 x90 x92 x112 zb5 zb12 zb17 = some o) (hn : ∀ s, E (.inl s) → WXI Try.prog 169 n0 (Fin Try.prog Try.f7.results.toList n0 Q) [.lp (ct [1, 1, 1, 1, 1, 1, 1, 1, 1, 0, 1, 0, 0, 1, 1, 0, 0, 1, 1, 1, 0, 0] (bodyOf Try.f7)), .blk 4, .blk 3, .code (ct [1, 1, 1, 1, 1, 1, 1, 1, 1, 0, 1, 0, 0, 1, 1, 1] (bodyOf Try.f7)), .lp (ct [1, 1, 1, 1, 1, 1, 1, 1, 1, 0, 1, 0, 0] (bodyOf Try.f7)), .blk 2, .code (ct [1, 1, 1, 1, 1, 1, 1, 1, 1, 1] (bodyOf Try.f7))] (gabionlaw14_AllocBack_l2_I B0 x11 x13 x15 x90 zb5 zb12 zb17 s.1 s.2) L) (hx0 : ∀ s, E (.inr (.inr s)) → WXI Try.prog 169 n0 (Fin Try.prog Try.f7.results.toList n0 Q) [.code (ct [1, 1, 1, 1, 1, 1, 1, 1, 1, 0, 1, 0, 0, 1, 1, 1] (bodyOf Try.f7)), .lp (ct [1, 1, 1, 1, 1, 1, 1, 1, 1, 0, 1, 0, 0] (bodyOf Try.f7)), .blk 2, .code (ct [1, 1, 1, 1, 1, 1, 1, 1, 1, 1] (bodyOf Try.f7))] (gabionlaw14_AllocBack_l2_X0 B0 x11 x13 x15 x90 s zb5 zb12) L) (hr : ∀ r, E (.inr (.inl r)) → ∀ v st, gabionlaw14_AllocBack_P B0 L r v st → Q v st) (hE : E o) : WXI Try.prog 169 n0 (Fin Try.prog Try.f7.results.toList n0 Q) [.code (ct [1, 1, 1, 1, 1, 1, 1, 1, 1, 0, 1, 0, 0, 1, 1, 0, 0, 1, 1, 1, 0, 0, 0, 1] (bodyOf Try.f7)), .code (ct [1, 1, 1, 1, 1, 1, 1, 1, 1, 0, 1, 0, 0, 1, 1, 0, 0, 1, 1, 1, 0, 0, 1] (bodyOf Try.f7)), .lp (ct [1, 1, 1, 1, 1, 1, 1, 1, 1, 0, 1, 0, 0, 1, 1, 0, 0, 1, 1, 1, 0, 0] (bodyOf Try.f7)), .blk 4, .blk 3, .code (ct [1, 1, 1, 1, 1, 1, 1, 1, 1, 0, 1, 0, 0, 1, 1, 1] (bodyOf Try.f7)), .lp (ct [1, 1, 1, 1, 1, 1, 1, 1, 1, 0, 1, 0, 0] (bodyOf Try.f7)), .blk 2, .code (ct [1, 1, 1, 1, 1, 1, 1, 1, 1, 1] (bodyOf Try.f7))] (gabionlaw14_AllocBack_j25_I B0 x11 x13 x15 x18 x90 x92 x112 zb5 zb12 zb17) L := by
  unfold gabionlaw14_AllocBack_j25 at h
  rintro _ B _ ⟨hB, b68, v69, b70, v71, b72, v73, v74, h69, h71, h73, h74, rfl, rfl⟩
  obtain ⟨_, _, _, _, _, rfl⟩ := h69.isl
  obtain ⟨_, _, _, _, _, rfl⟩ := h71.isl
  obtain ⟨_, _, _, _, _, rfl⟩ := h73.isl
  obtain ⟨_, _, _, _, _, rfl⟩ := h74.isl
  rcases bsp x112 with k75 | k75
  · replace h := (if_pos k75).symm.trans h
    refine WX.condT rfl k75 ?_
    refine WX.skip ?_
    refine WX.seq ?_
    refine WX.block ?_
    refine WX.seq ?_
    refine WX.reg ?_
    refine WO.q (.ldA (i := 0) rfl rfl rfl ti25 rfl) rfl rfl ?_
    refine WO.q (.mv (v := .int _ _) rfl) rfl rfl ?_
    obtain ⟨y76, hy76, h⟩ := Option.bind_eq_some_iff.1 h
    refine WO.cS rfl rfl (alloc_Set_Has_ok h69 hy76) rfl rfl rfl ?_
    rintro _ rfl
    refine WO.q (.r fun _ => rfl) rfl rfl ?_
    refine WO.q (.mv (v := .bool _) rfl) rfl rfl ?_
    rcases bsp y76 with k77 | k77
    · replace h := (if_pos k77).symm.trans h
      refine WO.q (.ldA (i := 1) rfl rfl rfl ti25 rfl) (wg rfl rfl (gf (f_not k77))) rfl ?_
      refine WO.q (.mv (v := .int _ _) rfl) (wg rfl rfl (gf (f_not k77))) rfl ?_
      obtain ⟨y78, hy78, h⟩ := Option.bind_eq_some_iff.1 h
      refine WO.cS rfl rfl (alloc_Set_Has_ok h71 hy78) rfl (wg rfl rfl (gf (f_not k77))) rfl ?_
      rintro _ rfl
      refine WO.q (.pfv (v := .bool _) rfl (f_not k77) rfl) rfl rfl ?_
      refine WO.nil ?_
      refine WX.keep [5, 11, 12, 13, 15, 17, 18, 90, 91, 92, 123] (WX.pk [0, 1, 2] (by decide) ?_) rfl
      exact gabionlaw14_AllocBack_j27_ok h hn hx0 hr hE _ _ _ ⟨hB, _, _, _, _, _, _, _, h69, h71, h73, h74, rfl, rfl⟩
    · replace h := (if_neg (bnt k77)).symm.trans h
      refine WO.sd (wg rfl rfl (gfn (t_not k77))) rfl ?_
      refine WO.sd (wg rfl rfl (gfn (t_not k77))) rfl ?_
      refine WO.sd (wg rfl rfl (gfn (t_not k77))) rfl ?_
      refine WO.q (.ptv (v := .bool _) rfl (t_not k77) rfl) rfl rfl ?_
      refine WO.nil ?_
      refine WX.keep [5, 11, 12, 13, 15, 17, 18, 90, 91, 92, 123] (WX.pk [0, 1, 2] (by decide) ?_) rfl
      exact gabionlaw14_AllocBack_j27_ok h hn hx0 hr hE _ _ _ ⟨hB, _, _, _, _, _, _, _, h69, h71, h73, h74, rfl, rfl⟩
  · replace h := (if_neg (bnt k75)).symm.trans h
    refine WX.condF rfl k75 ?_
    refine WX.exit rfl ?_
    refine WX.pop ?_
    refine WX.keep [5, 11, 12, 13, 15, 90, 91, 92] (WX.pk [0, 1] (by decide) ?_) rfl
    obtain rfl := Option.some.inj h
    exact hx0 _ hE _ _ _ ⟨hB, _, _, _, _, _, _, h69, h71, h73, h74, rfl, rfl⟩
theorem gabionlaw14_AllocBack_l2_s {B0 : Kn} {L : Own} {n0 : Nat} {x11 : Int} {x13 : List (Int × Int)} {x15 : Int} {x90 : List (Int × Int)} {zb5 : Int × (List (Int × Int))} {zb12 : Int × (List (Int × Int))} {zb17 : Int × Int} {x18 : Int} {x92 : Int} {Q : AV → St → Prop} {E : (Int × Int) ⊕ (Bool ⊕ Int) → Prop} {o : (Int × Int) ⊕ (Bool ⊕ Int)} (h : gabionlaw14_AllocBack_l2 x11 x13 x15 x90 zb5 zb12 zb17 x18 x92 = some o) (hn : ∀ s, E (.inl s) → WXI Try.prog 169 n0 (Fin Try.prog Try.f7.results.toList n0 Q) [.lp (ct [1, 1, 1, 1, 1, 1, 1, 1, 1, 0, 1, 0, 0, 1, 1, 0, 0, 1, 1, 1, 0, 0] (bodyOf Try.f7)), .blk 4, .blk 3, .code (ct [1, 1, 1, 1, 1, 1, 1, 1, 1, 0, 1, 0, 0, 1, 1, 1] (bodyOf Try.f7)), .lp (ct [1, 1, 1, 1, 1, 1, 1, 1, 1, 0, 1, 0, 0] (bodyOf Try.f7)), .blk 2, .code (ct [1, 1, 1, 1, 1, 1, 1, 1, 1, 1] (bodyOf Try.f7))] (gabionlaw14_AllocBack_l2_I B0 x11 x13 x15 x90 zb5 zb12 zb17 s.1 s.2) L) (hx0 : ∀ s, E (.inr (.inr s)) → WXI Try.prog 169 n0 (Fin Try.prog Try.f7.results.toList n0 Q) [.code (ct [1, 1, 1, 1, 1, 1, 1, 1, 1, 0, 1, 0, 0, 1, 1, 1] (bodyOf Try.f7)), .lp (ct [1, 1, 1, 1, 1, 1, 1, 1, 1, 0, 1, 0, 0] (bodyOf Try.f7)), .blk 2, .code (ct [1, 1, 1, 1, 1, 1, 1, 1, 1, 1] (bodyOf Try.f7))] (gabionlaw14_AllocBack_l2_X0 B0 x11 x13 x15 x90 s zb5 zb12) L) (hr : ∀ r, E (.inr (.inl r)) → ∀ v st, gabionlaw14_AllocBack_P B0 L r v st → Q v st) (hE : E o) : WXI Try.prog 169 n0 (Fin Try.prog Try.f7.results.toList n0 Q) [.code (ct [1, 1, 1, 1, 1, 1, 1, 1, 1, 0, 1, 0, 0, 1, 1, 0, 0, 1, 1, 1, 0, 0] (bodyOf Try.f7)), .lp (ct [1, 1, 1, 1, 1, 1, 1, 1, 1, 0, 1, 0, 0, 1, 1, 0, 0, 1, 1, 1, 0, 0] (bodyOf Try.f7)), .blk 4, .blk 3, .code (ct [1, 1, 1, 1, 1, 1, 1, 1, 1, 0, 1, 0, 0, 1, 1, 1] (bodyOf Try.f7)), .lp (ct [1, 1, 1, 1, 1, 1, 1, 1, 1, 0, 1, 0, 0] (bodyOf Try.f7)), .blk 2, .code (ct [1, 1, 1, 1, 1, 1, 1, 1, 1, 1] (bodyOf Try.f7))] (gabionlaw14_AllocBack_l2_I B0 x11 x13 x15 x90 zb5 zb12 zb17 x18 x92) L := by
  unfold gabionlaw14_AllocBack_l2 at h
  rintro _ B _ ⟨hB, b60, v61, b62, v63, b64, v65, v66, h61, h63, h65, h66, rfl, rfl⟩
  obtain ⟨_, _, _, _, _, rfl⟩ := h61.isl
  obtain ⟨_, _, _, _, _, rfl⟩ := h63.isl
  obtain ⟨_, _, _, _, _, rfl⟩ := h65.isl
  obtain ⟨_, _, _, _, _, rfl⟩ := h66.isl
  refine WX.seq ?_
  refine WX.seq ?_
  refine WX.reg ?_
  refine WO.q (.mv (v := .int _ _) rfl) rfl rfl ?_
  refine WO.q (.fa (fa35_0 _ _)) rfl rfl ?_
  refine WO.q (.ldS (i := 2) rfl rfl rfl ti3 rfl) rfl rfl ?_
  refine WO.q (.fa (fa35_1 _ _)) rfl rfl ?_
  refine WO.q (.ldS (i := 2) rfl rfl rfl ti3 rfl) rfl rfl ?_
  refine WO.q (.r fun _ => rfl) rfl rfl ?_
  refine WO.q (.r fun _ => rfl) rfl rfl ?_
  refine WO.q (.mv (v := .bool _) rfl) rfl rfl ?_
  rcases bsp (decide (x18 < (wi64 (zb17.1 + zb17.2)))) with k67 | k67
  · have q_k67 := of_decide_eq_true k67
    replace h := (if_pos q_k67).symm.trans h
    refine WO.q (.mv (v := .int _ _) rfl) (wg rfl rfl (gt k67)) rfl ?_
    refine WO.q (.r fun _ => rfl) (wg rfl rfl (gt k67)) rfl ?_
    refine WO.q (.ptv (v := .bool _) rfl k67 rfl) rfl rfl ?_
    refine WO.nil ?_
    refine WX.keep [5, 11, 12, 13, 15, 17, 18, 90, 91, 92, 112] (WX.pk [0, 1, 2] (by decide) ?_) rfl
    exact gabionlaw14_AllocBack_j25_ok h hn hx0 hr hE _ _ _ ⟨hB, _, _, _, _, _, _, _, h61, h63, h65, h66, rfl, rfl⟩
  · have q_k67 := of_decide_eq_false k67
    replace h := (if_neg q_k67).symm.trans h
    refine WO.sd (wg rfl rfl (gtn k67)) rfl ?_
    refine WO.sd (wg rfl rfl (gtn k67)) rfl ?_
    refine WO.q (.pfv (v := .bool _) rfl k67 rfl) rfl rfl ?_
    refine WO.nil ?_
    refine WX.keep [5, 11, 12, 13, 15, 17, 18, 90, 91, 92, 112] (WX.pk [0, 1, 2] (by decide) ?_) rfl
    exact gabionlaw14_AllocBack_j25_ok h hn hx0 hr hE _ _ _ ⟨hB, _, _, _, _, _, _, _, h61, h63, h65, h66, rfl, rfl⟩
theorem gabionlaw14_AllocBack_l2_ok {B0 : Kn} {L : Own} {n0 : Nat} {x11 : Int} {x13 : List (Int × Int)} {x15 : Int} {x90 : List (Int × Int)} {zb5 : Int × (List (Int × Int))} {zb12 : Int × (List (Int × Int))} {zb17 : Int × Int} {x18 : Int} {x92 : Int} {Q : AV → St → Prop} {d : Nat} {e : Bool ⊕ Int} (h : iter (fun (s : Int × Int) => gabionlaw14_AllocBack_l2 x11 x13 x15 x90 zb5 zb12 zb17 s.1 s.2) d (x18, x92) = some e) (g0 : ∀ r, e = (.inl r) → ∀ v st, gabionlaw14_AllocBack_P B0 L r v st → Q v st) (g1 : ∀ s, e = (.inr s) → WXI Try.prog 169 n0 (Fin Try.prog Try.f7.results.toList n0 Q) [.code (ct [1, 1, 1, 1, 1, 1, 1, 1, 1, 0, 1, 0, 0, 1, 1, 1] (bodyOf Try.f7)), .lp (ct [1, 1, 1, 1, 1, 1, 1, 1, 1, 0, 1, 0, 0] (bodyOf Try.f7)), .blk 2, .code (ct [1, 1, 1, 1, 1, 1, 1, 1, 1, 1] (bodyOf Try.f7))] (gabionlaw14_AllocBack_l2_X0 B0 x11 x13 x15 x90 s zb5 zb12) L) : WXI Try.prog 169 n0 (Fin Try.prog Try.f7.results.toList n0 Q) [.code (ct [1, 1, 1, 1, 1, 1, 1, 1, 1, 0, 1, 0, 0, 1, 1, 0, 0, 1, 1, 1, 0, 0] (bodyOf Try.f7)), .lp (ct [1, 1, 1, 1, 1, 1, 1, 1, 1, 0, 1, 0, 0, 1, 1, 0, 0, 1, 1, 1, 0, 0] (bodyOf Try.f7)), .blk 4, .blk 3, .code (ct [1, 1, 1, 1, 1, 1, 1, 1, 1, 0, 1, 0, 0, 1, 1, 1] (bodyOf Try.f7)), .lp (ct [1, 1, 1, 1, 1, 1, 1, 1, 1, 0, 1, 0, 0] (bodyOf Try.f7)), .blk 2, .code (ct [1, 1, 1, 1, 1, 1, 1, 1, 1, 1] (bodyOf Try.f7))] (gabionlaw14_AllocBack_l2_I B0 x11 x13 x15 x90 zb5 zb12 zb17 x18 x92) L :=
  iter_ok (I := fun s => gabionlaw14_AllocBack_l2_I B0 x11 x13 x15 x90 zb5 zb12 zb17 s.1 s.2) (D := fun e => (∀ r, e = (.inl r) → ∀ v st, gabionlaw14_AllocBack_P B0 L r v st → Q v st) ∧ (∀ s, e = (.inr s) → WXI Try.prog 169 n0 (Fin Try.prog Try.f7.results.toList n0 Q) [.code (ct [1, 1, 1, 1, 1, 1, 1, 1, 1, 0, 1, 0, 0, 1, 1, 1] (bodyOf Try.f7)), .lp (ct [1, 1, 1, 1, 1, 1, 1, 1, 1, 0, 1, 0, 0] (bodyOf Try.f7)), .blk 2, .code (ct [1, 1, 1, 1, 1, 1, 1, 1, 1, 1] (bodyOf Try.f7))] (gabionlaw14_AllocBack_l2_X0 B0 x11 x13 x15 x90 s zb5 zb12) L)) (fun E hn hx s o ho hE => gabionlaw14_AllocBack_l2_s ho hn (fun s hs => (hx _ hs).2 _ rfl) (fun r hs => (hx _ hs).1 _ rfl) hE) h ⟨g0, g1⟩
theorem gabionlaw14_AllocBack_l1_s {B0 : Kn} {L : Own} {n0 : Nat} {x11 : Int} {x13 : List (Int × Int)} {x90 : List (Int × Int)} {zb5 : Int × (List (Int × Int))} {zb12 : Int × (List (Int × Int))} {x15 : Int} {x92 : Int} {Q : AV → St → Prop} {E : (Int × Int) ⊕ (Bool ⊕ Int) → Prop} {o : (Int × Int) ⊕ (Bool ⊕ Int)} (h : gabionlaw14_AllocBack_l1 x11 x13 x90 zb5 zb12 x15 x92 = some o) (hn : ∀ s, E (.inl s) → WXI Try.prog 169 n0 (Fin Try.prog Try.f7.results.toList n0 Q) [.lp (ct [1, 1, 1, 1, 1, 1, 1, 1, 1, 0, 1, 0, 0] (bodyOf Try.f7)), .blk 2, .code (ct [1, 1, 1, 1, 1, 1, 1, 1, 1, 1] (bodyOf Try.f7))] (gabionlaw14_AllocBack_l1_I B0 x11 x13 x90 zb5 zb12 s.1 s.2) L) (hx0 : ∀ s, E (.inr (.inr s)) → WXI Try.prog 169 n0 (Fin Try.prog Try.f7.results.toList n0 Q) [.code (ct [1, 1, 1, 1, 1, 1, 1, 1, 1, 1] (bodyOf Try.f7))] (gabionlaw14_AllocBack_l1_X0 B0 x11 x13 s zb5 zb12) L) (hr : ∀ r, E (.inr (.inl r)) → ∀ v st, gabionlaw14_AllocBack_P B0 L r v st → Q v st) (hE : E o) : WXI Try.prog 169 n0 (Fin Try.prog Try.f7.results.toList n0 Q) [.code (ct [1, 1, 1, 1, 1, 1, 1, 1, 1, 0, 1, 0, 0] (bodyOf Try.f7)), .lp (ct [1, 1, 1, 1, 1, 1, 1, 1, 1, 0, 1, 0, 0] (bodyOf Try.f7)), .blk 2, .code (ct [1, 1, 1, 1, 1, 1, 1, 1, 1, 1] (bodyOf Try.f7))] (gabionlaw14_AllocBack_l1_I B0 x11 x13 x90 zb5 zb12 x15 x92) L := by
  unfold gabionlaw14_AllocBack_l1 at h
  rintro _ B _ ⟨hB, b51, v52, b53, v54, v55, v56, h52, h54, h55, h56, rfl, rfl⟩
  obtain ⟨_, _, _, _, _, rfl⟩ := h52.isl
  obtain ⟨_, _, _, _, _, rfl⟩ := h54.isl
  obtain ⟨_, _, _, _, _, rfl⟩ := h55.isl
  obtain ⟨_, _, _, _, _, rfl⟩ := h56.isl
  refine WX.seq ?_
  refine WX.reg ?_
  refine WO.q (.r fun _ => rfl) rfl rfl ?_
  refine WO.nil ?_
  refine WX.seq ?_
  rcases bsp (decide (x92 < (x90.length : Int))) with k57 | k57
  · have q_k57 := of_decide_eq_true k57
    replace h := (if_pos q_k57).symm.trans h
    refine WX.condT rfl k57 ?_
    refine WX.skip ?_
    refine WX.seq ?_
    refine WX.block ?_
    refine WX.seq ?_
    refine WX.reg ?_
    obtain ⟨y58, hy58, h⟩ := Option.bind_eq_some_iff.1 h
    obtain ⟨b_y58, o_y58, _, i_y58, p_y58, r_y58⟩ := h56.at sl23 hy58 .i64
    obtain ⟨_, _, rfl, rfl, rfl⟩ := r_y58
    refine WO.q (.ia i_y58) rfl rfl ?_
    refine WO.q (.lpA rfl p_y58 ti35 rfl rfl) rfl rfl ?_
    refine WO.md (MOp.alloc ti35 rfl) rfl rfl ?_
    rintro _ _ ⟨b59, rfl, rfl⟩
    refine WO.mn (MOp.storeW rfl (cA rfl) .h ti35 rfl rfl rfl) rfl ?_
    rintro _ _ rfl
    refine WO.nil ?_
    refine WX.seq ?_
    refine WX.reg ?_
    refine WO.q (.mv (v := .int _ _) rfl) rfl rfl ?_
    refine WO.q (.fa (fa35_1 _ _)) rfl rfl ?_
    refine WO.q (.ldS (i := 0) rfl rfl rfl ti3 rfl) rfl rfl ?_
    refine WO.q (.r fun _ => rfl) rfl rfl ?_
    refine WO.q (.as (v := .int _ _) rfl) rfl rfl ?_
    refine WO.nil ?_
    refine WX.seq ?_
    refine WX.reg ?_
    refine WO.q (.fa (fa35_0 _ _)) rfl rfl ?_
    refine WO.q (.ldS (i := 0) rfl rfl rfl ti3 rfl) rfl rfl ?_
    refine WO.q (.as (v := .int _ _) rfl) rfl rfl ?_
    refine WO.nil ?_
    refine WX.block ?_
    refine WX.loop ?_
    obtain ⟨e93, he93, h⟩ := Option.bind_eq_some_iff.1 h
    refine WX.keep [5, 11, 12, 13, 15, 17, 18, 90, 91, 92] (WX.pk [1, 2, 0] (by decide) ?_) rfl
    refine gabionlaw14_AllocBack_l2_ok he93 ?_ ?_ _ _ _ ⟨hB, _, _, _, _, _, _, _, h52, h54, h55, h56, rfl, rfl⟩
    · intro r95 he_
      subst he_
      replace h := (on_l h)
      obtain rfl := Option.some.inj h
      exact hr _ hE
    · intro x96 he_
      subst he_
      replace h := (on_r h)
      rintro _ B _ ⟨hB, b97, v98, b99, v100, v101, v102, h98, h100, h101, h102, rfl, rfl⟩
      obtain ⟨_, _, _, _, _, rfl⟩ := h98.isl
      obtain ⟨_, _, _, _, _, rfl⟩ := h100.isl
      obtain ⟨_, _, _, _, _, rfl⟩ := h101.isl
      obtain ⟨_, _, _, _, _, rfl⟩ := h102.isl
      refine WX.reg ?_
      refine WO.q (.r fun _ => rfl) rfl rfl ?_
      refine WO.q (.mv (v := .int _ _) rfl) rfl rfl ?_
      refine WO.nil ?_
      refine WX.keepL [5, 11, 12, 13, 15, 90, 91, 92] (WX.pk [0, 1] (by decide) ?_) rfl
      obtain rfl := Option.some.inj h
      exact hn _ hE _ _ _ ⟨hB, _, _, _, _, _, _, h98, h100, h101, h102, rfl, rfl⟩
  · have q_k57 := of_decide_eq_false k57
    replace h := (if_neg q_k57).symm.trans h
    refine WX.condF rfl k57 ?_
    refine WX.exit rfl ?_
    refine WX.keep [5, 11, 12, 13, 15] (WX.pk [0, 1] (by decide) ?_) rfl
    obtain rfl := Option.some.inj h
    exact hx0 _ hE _ _ _ ⟨hB, _, _, _, _, _, h52, h54, h55, rfl, rfl⟩
theorem gabionlaw14_AllocBack_l1_ok {B0 : Kn} {L : Own} {n0 : Nat} {x11 : Int} {x13 : List (Int × Int)} {x90 : List (Int × Int)} {zb5 : Int × (List (Int × Int))} {zb12 : Int × (List (Int × Int))} {x15 : Int} {x92 : Int} {Q : AV → St → Prop} {d : Nat} {e : Bool ⊕ Int} (h : iter (fun (s : Int × Int) => gabionlaw14_AllocBack_l1 x11 x13 x90 zb5 zb12 s.1 s.2) d (x15, x92) = some e) (g0 : ∀ r, e = (.inl r) → ∀ v st, gabionlaw14_AllocBack_P B0 L r v st → Q v st) (g1 : ∀ s, e = (.inr s) → WXI Try.prog 169 n0 (Fin Try.prog Try.f7.results.toList n0 Q) [.code (ct [1, 1, 1, 1, 1, 1, 1, 1, 1, 1] (bodyOf Try.f7))] (gabionlaw14_AllocBack_l1_X0 B0 x11 x13 s zb5 zb12) L) : WXI Try.prog 169 n0 (Fin Try.prog Try.f7.results.toList n0 Q) [.code (ct [1, 1, 1, 1, 1, 1, 1, 1, 1, 0, 1, 0, 0] (bodyOf Try.f7)), .lp (ct [1, 1, 1, 1, 1, 1, 1, 1, 1, 0, 1, 0, 0] (bodyOf Try.f7)), .blk 2, .code (ct [1, 1, 1, 1, 1, 1, 1, 1, 1, 1] (bodyOf Try.f7))] (gabionlaw14_AllocBack_l1_I B0 x11 x13 x90 zb5 zb12 x15 x92) L :=
  iter_ok (I := fun s => gabionlaw14_AllocBack_l1_I B0 x11 x13 x90 zb5 zb12 s.1 s.2) (D := fun e => (∀ r, e = (.inl r) → ∀ v st, gabionlaw14_AllocBack_P B0 L r v st → Q v st) ∧ (∀ s, e = (.inr s) → WXI Try.prog 169 n0 (Fin Try.prog Try.f7.results.toList n0 Q) [.code (ct [1, 1, 1, 1, 1, 1, 1, 1, 1, 1] (bodyOf Try.f7))] (gabionlaw14_AllocBack_l1_X0 B0 x11 x13 s zb5 zb12) L)) (fun E hn hx s o ho hE => gabionlaw14_AllocBack_l1_s ho hn (fun s hs => (hx _ hs).2 _ rfl) (fun r hs => (hx _ hs).1 _ rfl) hE) h ⟨g0, g1⟩
theorem gabionlaw14_AllocBack_l3_s {B0 : Kn} {L : Own} {n0 : Nat} {x11 : Int} {x15 : Int} {x125 : List (Int × Int)} {zb5 : Int × (List (Int × Int))} {x127 : Int} {zb12 : Int × (List (Int × Int))} {Q : AV → St → Prop} {E : (Int × (Int × (List (Int × Int)))) ⊕ (Bool ⊕ (Int × (Int × (List (Int × Int))))) → Prop} {o : (Int × (Int × (List (Int × Int)))) ⊕ (Bool ⊕ (Int × (Int × (List (Int × Int)))))} (h : gabionlaw14_AllocBack_l3 x11 x15 x125 zb5 x127 zb12 = some o) (hn : ∀ s, E (.inl s) → WXI Try.prog 169 n0 (Fin Try.prog Try.f7.results.toList n0 Q) [.lp (ct [1, 1, 1, 1, 1, 1, 1, 1, 1, 1, 0, 1, 0, 0] (bodyOf Try.f7)), .blk 6, .code (ct [1, 1, 1, 1, 1, 1, 1, 1, 1, 1, 1] (bodyOf Try.f7))] (gabionlaw14_AllocBack_l3_I B0 x11 x15 x125 zb5 s.1 s.2) L) (hx0 : ∀ s, E (.inr (.inr s)) → WXI Try.prog 169 n0 (Fin Try.prog Try.f7.results.toList n0 Q) [.code (ct [1, 1, 1, 1, 1, 1, 1, 1, 1, 1, 1] (bodyOf Try.f7))] (gabionlaw14_AllocBack_l3_X0 B0 x11 s.1 zb5 s.2) L) (hr : ∀ r, E (.inr (.inl r)) → ∀ v st, gabionlaw14_AllocBack_P B0 L r v st → Q v st) (hE : E o) : WXI Try.prog 169 n0 (Fin Try.prog Try.f7.results.toList n0 Q) [.code (ct [1, 1, 1, 1, 1, 1, 1, 1, 1, 1, 0, 1, 0, 0] (bodyOf Try.f7)), .lp (ct [1, 1, 1, 1, 1, 1, 1, 1, 1, 1, 0, 1, 0, 0] (bodyOf Try.f7)), .blk 6, .code (ct [1, 1, 1, 1, 1, 1, 1, 1, 1, 1, 1] (bodyOf Try.f7))] (gabionlaw14_AllocBack_l3_I B0 x11 x15 x125 zb5 x127 zb12) L := by
  unfold gabionlaw14_AllocBack_l3 at h
  rintro _ B _ ⟨hB, b117, v118, b119, v120, v121, h118, h120, h121, rfl, rfl⟩
  obtain ⟨_, _, _, _, _, rfl⟩ := h118.isl
  obtain ⟨_, _, _, _, _, rfl⟩ := h120.isl
  obtain ⟨_, _, _, _, _, rfl⟩ := h121.isl
  refine WX.seq ?_
  refine WX.reg ?_
  refine WO.q (.r fun _ => rfl) rfl rfl ?_
  refine WO.nil ?_
  refine WX.seq ?_
  rcases bsp (decide (x127 < (x125.length : Int))) with k122 | k122
  · have q_k122 := of_decide_eq_true k122
    replace h := (if_pos q_k122).symm.trans h
    refine WX.condT rfl k122 ?_
    refine WX.skip ?_
    refine WX.seq ?_
    refine WX.block ?_
    refine WX.seq ?_
    refine WX.reg ?_
    obtain ⟨y123, hy123, h⟩ := Option.bind_eq_some_iff.1 h
    obtain ⟨b_y123, o_y123, _, i_y123, p_y123, r_y123⟩ := h121.at sl23 hy123 .i64
    obtain ⟨_, _, rfl, rfl, rfl⟩ := r_y123
    refine WO.q (.ia i_y123) rfl rfl ?_
    refine WO.q (.lpA rfl p_y123 ti35 rfl rfl) rfl rfl ?_
    refine WO.md (MOp.alloc ti35 rfl) rfl rfl ?_
    rintro _ _ ⟨b124, rfl, rfl⟩
    refine WO.mn (MOp.storeW rfl (cA rfl) .h ti35 rfl rfl rfl) rfl ?_
    rintro _ _ rfl
    refine WO.nil ?_
    refine WX.seq ?_
    refine WX.reg ?_
    refine WO.q (.ldA (i := 2) rfl rfl rfl ti25 rfl) rfl rfl ?_
    refine WO.q (.ldA (i := 0) rfl rfl rfl ti35 rfl) rfl rfl ?_
    obtain ⟨y125, hy125, h⟩ := Option.bind_eq_some_iff.1 h
    refine WO.c1 rfl rfl (alloc_Set_Give_ok h120 hy125) rfl rfl rfl ?_
    rintro _ B _ hK ⟨v126, b127, n128, c129, rfl, rfl, h130⟩
    obtain ⟨_, _, _, _, _, rfl⟩ := h130.isl
    replace h121 := h121.up hK
    replace h120 := h120.up hK
    replace h118 := h118.up hK
    replace hB := hB.trans hK
    refine WO.q (.mv (v := .tup _) rfl) rfl rfl ?_
    refine WO.q (.r fun _ => rfl) rfl rfl ?_
    refine WO.q (.r fun _ => rfl) rfl rfl ?_
    refine WO.mn (MOp.storeW rfl (cA rfl) (.t (.t (.t .h))) ti25 rfl rfl rfl) rfl ?_
    rintro _ _ rfl
    refine WO.q (.as (v := .int _ _) rfl) rfl rfl ?_
    refine WO.nil ?_
    refine WX.seq ?_
    refine WX.reg ?_
    refine WO.q (.mv (v := .int _ _) rfl) rfl rfl ?_
    refine WO.q (.r fun _ => rfl) rfl rfl ?_
    refine WO.nil ?_
    rcases bsp (decide (y125.2 ≠ 0)) with k131 | k131
    · have q_k131 := of_decide_eq_true k131
      replace h := (if_pos q_k131).symm.trans h
      refine WX.condT rfl k131 ?_
      refine WX.seq ?_
      refine WX.reg ?_
      refine WO.q (.as (v := .bool _) rfl) rfl rfl ?_
      refine WO.nil ?_
      obtain rfl := Option.some.inj h
      exact WX.ret (rs_ (rs_tmp rfl rs_nil)) fun st hp => hr _ hE _ _ ⟨(hp.pk [] (by decide)).le hB, rfl⟩
    · have q_k131 := of_decide_eq_false k131
      replace h := (if_neg q_k131).symm.trans h
      refine WX.condF rfl k131 ?_
      refine WX.skip ?_
      refine WX.pop ?_
      refine WX.reg ?_
      refine WO.q (.r fun _ => rfl) rfl rfl ?_
      refine WO.q (.mv (v := .int _ _) rfl) rfl rfl ?_
      refine WO.nil ?_
      refine WX.fz (j := 0) h130 rfl ?_
      intro B hK g132
      replace h121 := h121.up hK
      replace h118 := h118.up hK
      replace hB := hB.trans hK
      refine WX.keepL [5, 11, 12, 15, 125, 126, 127] (WX.pk [1, 2] (by decide) ?_) rfl
      obtain rfl := Option.some.inj h
      exact hn _ hE _ _ _ ⟨hB, _, _, _, _, _, h118, g132, h121, rfl, rfl⟩
  · have q_k122 := of_decide_eq_false k122
    replace h := (if_neg q_k122).symm.trans h
    refine WX.condF rfl k122 ?_
    refine WX.exit rfl ?_
    refine WX.keep [5, 11, 12, 15] (WX.pk [0, 1] (by decide) ?_) rfl
    obtain rfl := Option.some.inj h
    exact hx0 _ hE _ _ _ ⟨hB, _, _, _, _, h118, h120, rfl, rfl⟩
theorem gabionlaw14_AllocBack_l3_ok {B0 : Kn} {L : Own} {n0 : Nat} {x11 : Int} {x15 : Int} {x125 : List (Int × Int)} {zb5 : Int × (List (Int × Int))} {x127 : Int} {zb12 : Int × (List (Int × Int))} {Q : AV → St → Prop} {d : Nat} {e : Bool ⊕ (Int × (Int × (List (Int × Int))))} (h : iter (fun (s : Int × (Int × (List (Int × Int)))) => gabionlaw14_AllocBack_l3 x11 x15 x125 zb5 s.1 s.2) d (x127, zb12) = some e) (g0 : ∀ r, e = (.inl r) → ∀ v st, gabionlaw14_AllocBack_P B0 L r v st → Q v st) (g1 : ∀ s, e = (.inr s) → WXI Try.prog 169 n0 (Fin Try.prog Try.f7.results.toList n0 Q) [.code (ct [1, 1, 1, 1, 1, 1, 1, 1, 1, 1, 1] (bodyOf Try.f7))] (gabionlaw14_AllocBack_l3_X0 B0 x11 s.1 zb5 s.2) L) : WXI Try.prog 169 n0 (Fin Try.prog Try.f7.results.toList n0 Q) [.code (ct [1, 1, 1, 1, 1, 1, 1, 1, 1, 1, 0, 1, 0, 0] (bodyOf Try.f7)), .lp (ct [1, 1, 1, 1, 1, 1, 1, 1, 1, 1, 0, 1, 0, 0] (bodyOf Try.f7)), .blk 6, .code (ct [1, 1, 1, 1, 1, 1, 1, 1, 1, 1, 1] (bodyOf Try.f7))] (gabionlaw14_AllocBack_l3_I B0 x11 x15 x125 zb5 x127 zb12) L :=
  iter_ok (I := fun s => gabionlaw14_AllocBack_l3_I B0 x11 x15 x125 zb5 s.1 s.2) (D := fun e => (∀ r, e = (.inl r) → ∀ v st, gabionlaw14_AllocBack_P B0 L r v st → Q v st) ∧ (∀ s, e = (.inr s) → WXI Try.prog 169 n0 (Fin Try.prog Try.f7.results.toList n0 Q) [.code (ct [1, 1, 1, 1, 1, 1, 1, 1, 1, 1, 1] (bodyOf Try.f7))] (gabionlaw14_AllocBack_l3_X0 B0 x11 s.1 zb5 s.2) L)) (fun E hn hx s o ho hE => gabionlaw14_AllocBack_l3_s ho hn (fun s hs => (hx _ hs).2 _ rfl) (fun r hs => (hx _ hs).1 _ rfl) hE) h ⟨g0, g1⟩
theorem gabionlaw14_AllocBack_l4_s {B0 : Kn} {L : Own} {n0 : Nat} {x21 : List (Int × Int)} {x22 : List (Int × Int)} {x156 : Int} {Q : AV → St → Prop} {E : Int ⊕ (Bool ⊕ Unit) → Prop} {o : Int ⊕ (Bool ⊕ Unit)} (h : gabionlaw14_AllocBack_l4 x21 x22 x156 = some o) (hn : ∀ s, E (.inl s) → WXI Try.prog 169 n0 (Fin Try.prog Try.f7.results.toList n0 Q) [.lp (ct [1, 1, 1, 1, 1, 1, 1, 1, 1, 1, 1, 1, 1, 0, 1, 0, 0] (bodyOf Try.f7)), .blk 8, .code (ct [1, 1, 1, 1, 1, 1, 1, 1, 1, 1, 1, 1, 1, 1] (bodyOf Try.f7))] (gabionlaw14_AllocBack_l4_I B0 x21 x22 s) L) (hx0 : ∀ s, E (.inr (.inr s)) → WXI Try.prog 169 n0 (Fin Try.prog Try.f7.results.toList n0 Q) [.code (ct [1, 1, 1, 1, 1, 1, 1, 1, 1, 1, 1, 1, 1, 1] (bodyOf Try.f7))] (gabionlaw14_AllocBack_l4_X0 B0) L) (hr : ∀ r, E (.inr (.inl r)) → ∀ v st, gabionlaw14_AllocBack_P B0 L r v st → Q v st) (hE : E o) : WXI Try.prog 169 n0 (Fin Try.prog Try.f7.results.toList n0 Q) [.code (ct [1, 1, 1, 1, 1, 1, 1, 1, 1, 1, 1, 1, 1, 0, 1, 0, 0] (bodyOf Try.f7)), .lp (ct [1, 1, 1, 1, 1, 1, 1, 1, 1, 1, 1, 1, 1, 0, 1, 0, 0] (bodyOf Try.f7)), .blk 8, .code (ct [1, 1, 1, 1, 1, 1, 1, 1, 1, 1, 1, 1, 1, 1] (bodyOf Try.f7))] (gabionlaw14_AllocBack_l4_I B0 x21 x22 x156) L := by
  unfold gabionlaw14_AllocBack_l4 at h
  rintro _ B _ ⟨hB, v161, b161, n161, c161, v162, b162, n162, c162, h161, h162, rfl, rfl⟩
  obtain ⟨_, _, _, _, _, rfl⟩ := h161.isl
  obtain ⟨_, _, _, _, _, rfl⟩ := h162.isl
  refine WX.seq ?_
  refine WX.reg ?_
  refine WO.q (.r fun _ => rfl) rfl rfl ?_
  refine WO.nil ?_
  refine WX.seq ?_
  rcases bsp (decide (x156 < (x21.length : Int))) with k163 | k163
  · have q_k163 := of_decide_eq_true k163
    replace h := (if_pos q_k163).symm.trans h
    refine WX.condT rfl k163 ?_
    refine WX.skip ?_
    refine WX.seq ?_
    refine WX.block ?_
    refine WX.seq ?_
    refine WX.reg ?_
    refine WO.q (.mv (v := .int _ _) rfl) rfl rfl ?_
    refine WO.q (.as (v := .int _ _) rfl) rfl rfl ?_
    refine WO.nil ?_
    refine WX.seq ?_
    refine WX.drw [0, 1, 2, 3, 4, 5, 6, 7, 8] _ mixed (by kernel_rfl) rfl (pk_sub [0, 1]) ?_
    refine WP.q (i := 0) rfl (.mv (v := .sl _ _ _ _ _ _) rfl) rfl rfl rfl ?_
    refine WP.q (i := 1) rfl (.mv (v := .int _ _) rfl) rfl rfl rfl ?_
    obtain ⟨y164, hy164, h⟩ := Option.bind_eq_some_iff.1 h
    obtain rfl := h161.nonnil hy164
    obtain ⟨_, i_y164, l_y164, r_y164⟩ := h161.at sl23 hy164 .i64
    obtain ⟨_, _, rfl, rfl, rfl⟩ := r_y164
    refine WP.q (i := 2) rfl (.ia i_y164) rfl rfl rfl ?_
    refine WP.q (i := 3) rfl (.leA (i := 0) rfl rfl l_y164 ti35 rfl rfl) rfl rfl rfl ?_
    refine WP.q (i := 4) rfl (.mv (v := .sl _ _ _ _ _ _) rfl) rfl rfl rfl ?_
    refine WP.q (i := 5) rfl (.mv (v := .int _ _) rfl) rfl rfl rfl ?_
    obtain ⟨y165, hy165, h⟩ := Option.bind_eq_some_iff.1 h
    obtain rfl := h162.nonnil hy165
    obtain ⟨_, i_y165, l_y165, r_y165⟩ := h162.at sl23 hy165 .i64
    obtain ⟨_, _, rfl, rfl, rfl⟩ := r_y165
    refine WP.q (i := 6) rfl (.ia i_y165) rfl rfl rfl ?_
    refine WP.q (i := 7) rfl (.leA (i := 1) rfl rfl l_y165 ti35 rfl rfl) rfl rfl rfl ?_
    refine WP.q (i := 8) rfl (.bin (neq35 _ _ _ _)) rfl rfl rfl ?_
    refine WP.nil ?_
    rcases bsp (decide (y164.1 = y165.1) && (decide (y164.2 = y165.2) && true)) with k166 | k166
    · replace h := (if_pos k166).symm.trans h
      refine WX.condF rfl (f_not k166) ?_
      refine WX.skip ?_
      refine WX.pop ?_
      refine WX.reg ?_
      refine WO.q (.r fun _ => rfl) rfl rfl ?_
      refine WO.q (.mv (v := .int _ _) rfl) rfl rfl ?_
      refine WO.nil ?_
      refine WX.keepL [21, 22, 155, 156] (WX.pk [0, 1] (by decide) ?_) rfl
      obtain rfl := Option.some.inj h
      exact hn _ hE _ _ _ ⟨hB, _, _, false, _, _, _, false, _, h161, h162, rfl, rfl⟩
    · replace h := (if_neg (bnt k166)).symm.trans h
      refine WX.condT rfl (t_not k166) ?_
      refine WX.seq ?_
      refine WX.reg ?_
      refine WO.q (.as (v := .bool _) rfl) rfl rfl ?_
      refine WO.nil ?_
      obtain rfl := Option.some.inj h
      exact WX.ret (rs_ (rs_tmp rfl rs_nil)) fun st hp => hr _ hE _ _ ⟨(hp.pk [] (by decide)).le hB, rfl⟩
  · have q_k163 := of_decide_eq_false k163
    replace h := (if_neg q_k163).symm.trans h
    refine WX.condF rfl k163 ?_
    refine WX.exit rfl ?_
    refine WX.keep [] (WX.pk [] (by decide) ?_) rfl
    obtain rfl := Option.some.inj h
    exact hx0 _ hE _ _ _ ⟨hB, rfl, rfl⟩
theorem gabionlaw14_AllocBack_l4_ok {B0 : Kn} {L : Own} {n0 : Nat} {x21 : List (Int × Int)} {x22 : List (Int × Int)} {x156 : Int} {Q : AV → St → Prop} {d : Nat} {e : Bool ⊕ Unit} (h : iter (fun (s : Int) => gabionlaw14_AllocBack_l4 x21 x22 s) d x156 = some e) (g0 : ∀ r, e = (.inl r) → ∀ v st, gabionlaw14_AllocBack_P B0 L r v st → Q v st) (g1 : ∀ s, e = (.inr s) → WXI Try.prog 169 n0 (Fin Try.prog Try.f7.results.toList n0 Q) [.code (ct [1, 1, 1, 1, 1, 1, 1, 1, 1, 1, 1, 1, 1, 1] (bodyOf Try.f7))] (gabionlaw14_AllocBack_l4_X0 B0) L) : WXI Try.prog 169 n0 (Fin Try.prog Try.f7.results.toList n0 Q) [.code (ct [1, 1, 1, 1, 1, 1, 1, 1, 1, 1, 1, 1, 1, 0, 1, 0, 0] (bodyOf Try.f7)), .lp (ct [1, 1, 1, 1, 1, 1, 1, 1, 1, 1, 1, 1, 1, 0, 1, 0, 0] (bodyOf Try.f7)), .blk 8, .code (ct [1, 1, 1, 1, 1, 1, 1, 1, 1, 1, 1, 1, 1, 1] (bodyOf Try.f7))] (gabionlaw14_AllocBack_l4_I B0 x21 x22 x156) L :=
  iter_ok (I := fun s => gabionlaw14_AllocBack_l4_I B0 x21 x22 s) (D := fun e => (∀ r, e = (.inl r) → ∀ v st, gabionlaw14_AllocBack_P B0 L r v st → Q v st) ∧ (∀ s, e = (.inr s) → WXI Try.prog 169 n0 (Fin Try.prog Try.f7.results.toList n0 Q) [.code (ct [1, 1, 1, 1, 1, 1, 1, 1, 1, 1, 1, 1, 1, 1] (bodyOf Try.f7))] (gabionlaw14_AllocBack_l4_X0 B0) L)) (fun E hn hx s o ho hE => gabionlaw14_AllocBack_l4_s ho hn (fun s hs => (hx _ hs).2 _ rfl) (fun r hs => (hx _ hs).1 _ rfl) hE) h ⟨g0, g1⟩
theorem gabionlaw14_AllocBack_j40_ok {B0 : Kn} {L : Own} {n0 : Nat} {x21 : List (Int × Int)} {x22 : List (Int × Int)} {x153 : Bool} {r : Bool} (h : gabionlaw14_AllocBack_j40 x21 x22 x153 = some r) : WXI Try.prog 169 n0 (Fin Try.prog Try.f7.results.toList n0 (gabionlaw14_AllocBack_P B0 L r)) [.code (ct [1, 1, 1, 1, 1, 1, 1, 1, 1, 1, 1, 1, 0, 1] (bodyOf Try.f7)), .code (ct [1, 1, 1, 1, 1, 1, 1, 1, 1, 1, 1, 1, 1] (bodyOf Try.f7))] (gabionlaw14_AllocBack_j40_I B0 x21 x22 x153) L := by
  unfold gabionlaw14_AllocBack_j40 at h
  rintro _ B _ ⟨hB, v158, b158, n158, c158, v159, b159, n159, c159, h158, h159, rfl, rfl⟩
  obtain ⟨_, _, _, _, _, rfl⟩ := h158.isl
  obtain ⟨_, _, _, _, _, rfl⟩ := h159.isl
  rcases bsp x153 with k160 | k160
  · replace h := (if_pos k160).symm.trans h
    refine WX.condT rfl k160 ?_
    refine WX.seq ?_
    refine WX.reg ?_
    refine WO.q (.as (v := .bool _) rfl) rfl rfl ?_
    refine WO.nil ?_
    obtain rfl := Option.some.inj h
    exact WX.ret (rs_ (rs_tmp rfl rs_nil)) fun st hp => ⟨(hp.pk [] (by decide)).le hB, rfl⟩
  · replace h := (if_neg (bnt k160)).symm.trans h
    refine WX.condF rfl k160 ?_
    refine WX.skip ?_
    refine WX.seq ?_
    refine WX.seq ?_
    refine WX.reg ?_
    refine WO.q (.mv (v := .sl _ _ _ _ _ _) rfl) rfl rfl ?_
    refine WO.q (.len rfl rfl rfl (sl23.len h158.isl)) rfl rfl ?_
    refine WO.q (.mv (v := .int _ _) rfl) rfl rfl ?_
    refine WO.nil ?_
    refine WX.block ?_
    refine WX.loop ?_
    obtain ⟨e167, he167, h⟩ := Option.bind_eq_some_iff.1 h
    refine WX.keep [21, 22, 155, 156] (WX.pk [0, 1] (by decide) ?_) rfl
    refine gabionlaw14_AllocBack_l4_ok he167 ?_ ?_ _ _ _ ⟨hB, _, _, n158, _, _, _, n159, _, h158, h159, rfl, rfl⟩
    · intro r169 he_
      subst he_
      replace h := (on_l h)
      obtain rfl := Option.some.inj h
      exact fun v st hp => hp
    · intro x170 he_
      subst he_
      replace h := (on_r h)
      rintro _ B _ ⟨hB, rfl, rfl⟩
      refine WX.seq ?_
      refine WX.reg ?_
      refine WO.q (.as (v := .bool _) rfl) rfl rfl ?_
      refine WO.nil ?_
      obtain rfl := Option.some.inj h
      exact WX.ret (rs_ (rs_tmp rfl rs_nil)) fun st hp => ⟨(hp.pk [] (by decide)).le hB, rfl⟩
theorem gabionlaw14_AllocBack_j2_ok {B0 : Kn} {L : Own} {n0 : Nat} {x0 : List Int} {x1 : Int} {x33 : Bool} {zb5 : Int × (List (Int × Int))} {r : Bool} (h : gabionlaw14_AllocBack_j2 x0 x1 x33 zb5 = some r) : WXI Try.prog 169 n0 (Fin Try.prog Try.f7.results.toList n0 (gabionlaw14_AllocBack_P B0 L r)) [.code (ct [1, 1, 0, 1] (bodyOf Try.f7)), .code (ct [1, 1, 1] (bodyOf Try.f7))] (gabionlaw14_AllocBack_j2_I B0 x0 x1 x33 zb5) L := by
  unfold gabionlaw14_AllocBack_j2 at h
  rintro _ B _ ⟨hB, b10, v11, b11, n11, c11, v12, h11, h12, rfl, rfl⟩
  obtain ⟨_, _, _, _, _, rfl⟩ := h11.isl
  obtain ⟨_, _, _, _, _, rfl⟩ := h12.isl
  rcases bsp x33 with k13 | k13
  · replace h := (if_pos k13).symm.trans h
    refine WX.condT rfl k13 ?_
    refine WX.seq ?_
    refine WX.reg ?_
    refine WO.q (.as (v := .bool _) rfl) rfl rfl ?_
    refine WO.nil ?_
    obtain rfl := Option.some.inj h
    exact WX.ret (rs_ (rs_tmp rfl rs_nil)) fun st hp => ⟨(hp.pk [] (by decide)).le hB, rfl⟩
  · replace h := (if_neg (bnt k13)).symm.trans h
    refine WX.condF rfl k13 ?_
    refine WX.skip ?_
    refine WX.seq ?_
    refine WX.seq ?_
    refine WX.reg ?_
    refine WO.q (.mv (v := .sl _ _ _ _ _ _) rfl) rfl rfl ?_
    refine WO.q (.mv (v := .sl _ _ _ _ _ _) rfl) rfl rfl ?_
    refine WO.q (.len rfl rfl rfl (sl32.len h12.isl)) rfl rfl ?_
    refine WO.q (.r fun _ => rfl) rfl rfl ?_
    obtain ⟨y14, hy14, h⟩ := Option.bind_eq_some_iff.1 h
    obtain ⟨v_y14, e_y14, g_y14⟩ := h12.cut sl32 hy14 (lo := none) (hi := some (.int .i64 (mn (x0.length : Int) 30))) bnd_none (bnd_int (Int.le_trans (cutL_some hy14).1.1 (cutL_some hy14).1.2.1))
    obtain ⟨_, _, _, _, _, rfl⟩ := g_y14.isl
    refine WO.q (.sl e_y14) rfl rfl ?_
    refine WO.q (.len rfl rfl rfl (sl32.len g_y14.isl)) rfl rfl ?_
    refine WO.q (.mv (v := .int _ _) rfl) rfl rfl ?_
    refine WO.nil ?_
    refine WX.block ?_
    refine WX.loop ?_
    obtain ⟨e35, he35, h⟩ := Option.bind_eq_some_iff.1 h
    refine WX.fz (j := 1) h11 rfl ?_
    intro B hK g15
    replace g_y14 := g_y14.up hK
    replace hB := hB.trans hK
    refine WX.keep [1, 5, 38, 39, 40] (WX.pk [0] (by decide) ?_) rfl
    refine gabionlaw14_AllocBack_l0_ok he35 ?_ _ _ _ ⟨hB, _, _, _, g15, g_y14, rfl, rfl⟩
    · intro s171 he_
      subst he_
      replace h := h
      rintro _ B _ ⟨hB, b36, v37, h37, rfl, rfl⟩
      obtain ⟨_, _, _, _, _, rfl⟩ := h37.isl
      refine WX.seq ?_
      refine WX.reg ?_
      refine WO.q (.mv (v := .int _ _) rfl) rfl rfl ?_
      refine WO.q (.r fun _ => rfl) rfl rfl ?_
      refine WO.q (cvI ti5 ti3 rfl rfl) rfl rfl ?_
      refine WO.q (.r fun _ => rfl) rfl rfl ?_
      refine WO.q (.as (v := .int _ _) rfl) rfl rfl ?_
      refine WO.nil ?_
      refine WX.seq ?_
      refine WX.reg ?_
      refine WO.q (.ldA (i := 0) rfl rfl rfl ti25 rfl) rfl rfl ?_
      refine WO.q (.mv (v := .int _ _) rfl) rfl rfl ?_
      obtain ⟨y38, hy38, h⟩ := Option.bind_eq_some_iff.1 h
      refine WO.c0 rfl rfl (alloc_Set_Take_ok h37 hy38) rfl rfl rfl ?_
      rintro _ B hK ⟨v39, v41, rfl, h40, h42⟩
      obtain ⟨_, _, _, _, _, rfl⟩ := h40.isl
      obtain ⟨_, _, _, _, _, rfl⟩ := h42.isl
      replace h37 := h37.up hK
      replace hB := hB.trans hK
      refine WO.q (.mv (v := .tup _) rfl) rfl rfl ?_
      refine WO.q (.r fun _ => rfl) rfl rfl ?_
      refine WO.q (.r fun _ => rfl) rfl rfl ?_
      refine WO.q (.r fun _ => rfl) rfl rfl ?_
      refine WO.md (MOp.alloc ti25 rfl) rfl rfl ?_
      rintro _ _ ⟨b43, rfl, rfl⟩
      refine WO.mn (MOp.storeW rfl (cA rfl) .h ti25 rfl rfl rfl) rfl ?_
      rintro _ _ rfl
      refine WO.q (.as (v := .sl _ _ _ _ _ _) rfl) rfl rfl ?_
      refine WO.q (.as (v := .int _ _) rfl) rfl rfl ?_
      refine WO.nil ?_
      refine WX.seq ?_
      refine WX.seq ?_
      refine WX.reg ?_
      refine WO.q (.mv (v := .int _ _) rfl) rfl rfl ?_
      refine WO.q (.r fun _ => rfl) rfl rfl ?_
      refine WO.nil ?_
      rcases bsp (decide (y38.2.2 ≠ 0)) with k44 | k44
      · have q_k44 := of_decide_eq_true k44
        replace h := (if_pos q_k44).symm.trans h
        refine WX.condT rfl k44 ?_
        refine WX.seq ?_
        refine WX.reg ?_
        refine WO.q (.mv (v := .int _ _) rfl) rfl rfl ?_
        refine WO.q (.r fun _ => rfl) rfl rfl ?_
        refine WO.q (.mv (v := .bool _) rfl) rfl rfl ?_
        rcases bsp (decide (y38.2.2 = 12)) with k45 | k45
        · have q_k45 := of_decide_eq_true k45
          replace h := (if_pos q_k45).symm.trans h
          refine WO.q (.ldA (i := 1) rfl rfl rfl ti25 rfl) (wg rfl rfl (gt k45)) rfl ?_
          obtain ⟨y46, hy46, h⟩ := Option.bind_eq_some_iff.1 h
          refine WO.cS rfl rfl (alloc_Set_Free_ok h37 hy46) rfl (wg rfl rfl (gt k45)) rfl ?_
          rintro _ rfl
          refine WO.q (.mv (v := .int _ _) rfl) (wg rfl rfl (gt k45)) rfl ?_
          refine WO.q (.r fun _ => rfl) (wg rfl rfl (gt k45)) rfl ?_
          refine WO.q (.ptv (v := .bool _) rfl k45 rfl) rfl rfl ?_
          refine WO.q (.mv (v := .bool _) rfl) rfl rfl ?_
          rcases bsp (decide (y46 < (wi64 (1 + (wi64 (Int.tmod x1 40)))))) with k47 | k47
          · have q_k47 := of_decide_eq_true k47
            replace h := (if_pos q_k47).symm.trans h
            refine WO.q (.mv (v := .sl _ _ _ _ _ _) rfl) (wg rfl rfl (gt k47)) rfl ?_
            refine WO.q (.len rfl rfl rfl (sl23.len h42.isl)) (wg rfl rfl (gt k47)) rfl ?_
            refine WO.q (.r fun _ => rfl) (wg rfl rfl (gt k47)) rfl ?_
            refine WO.q (.ptv (v := .bool _) rfl k47 rfl) rfl rfl ?_
            refine WO.q (.as (v := .bool _) rfl) rfl rfl ?_
            refine WO.nil ?_
            obtain rfl := Option.some.inj h
            exact WX.ret (rs_ (rs_tmp rfl rs_nil)) fun st hp => ⟨(hp.pk [] (by decide)).le hB, rfl⟩
          · have q_k47 := of_decide_eq_false k47
            replace h := (if_neg q_k47).symm.trans h
            refine WO.sd (wg rfl rfl (gtn k47)) rfl ?_
            refine WO.sd (wg rfl rfl (gtn k47)) rfl ?_
            refine WO.sd (wg rfl rfl (gtn k47)) rfl ?_
            refine WO.q (.pfv (v := .bool _) rfl k47 rfl) rfl rfl ?_
            refine WO.q (.as (v := .bool _) rfl) rfl rfl ?_
            refine WO.nil ?_
            obtain rfl := Option.some.inj h
            exact WX.ret (rs_ (rs_tmp rfl rs_nil)) fun st hp => ⟨(hp.pk [] (by decide)).le hB, rfl⟩
        · have q_k45 := of_decide_eq_false k45
          replace h := (if_neg q_k45).symm.trans h
          refine WO.sd (wg rfl rfl (gtn k45)) rfl ?_
          refine WO.sd (wg rfl rfl (gtn k45)) rfl ?_
          refine WO.sd (wg rfl rfl (gtn k45)) rfl ?_
          refine WO.sd (wg rfl rfl (gtn k45)) rfl ?_
          refine WO.q (.pfv (v := .bool _) rfl k45 rfl) rfl rfl ?_
          refine WO.q (.mv (v := .bool _) rfl) rfl rfl ?_
          refine WO.sd (wg rfl rfl (gtn rfl)) rfl ?_
          refine WO.sd (wg rfl rfl (gtn rfl)) rfl ?_
          refine WO.sd (wg rfl rfl (gtn rfl)) rfl ?_
          refine WO.q (.pfv (v := .bool _) rfl rfl rfl) rfl rfl ?_
          refine WO.q (.as (v := .bool _) rfl) rfl rfl ?_
          refine WO.nil ?_
          obtain rfl := Option.some.inj h
          exact WX.ret (rs_ (rs_tmp rfl rs_nil)) fun st hp => ⟨(hp.pk [] (by decide)).le hB, rfl⟩
      · have q_k44 := of_decide_eq_false k44
        replace h := (if_neg q_k44).symm.trans h
        refine WX.condF rfl k44 ?_
        refine WX.skip ?_
        refine WX.seq ?_
        refine WX.seq ?_
        refine WX.drw [0, 2, 4, 1, 3, 5, 6] _ mixed (by kernel_rfl) rfl (pk_sub [0, 1]) ?_
        refine WP.q (i := 0) rfl (.ldA (i := 0) rfl rfl rfl ti25 rfl) rfl rfl rfl ?_
        refine WP.q (i := 2) rfl (.ldA (i := 1) rfl rfl rfl ti25 rfl) rfl rfl rfl ?_
        refine WP.q (i := 4) rfl (.mv (v := .int _ _) rfl) rfl rfl rfl ?_
        obtain ⟨y48, hy48, h⟩ := Option.bind_eq_some_iff.1 h
        refine WP.cS (i := 1) rfl rfl rfl (alloc_Set_Free_ok h40 hy48) rfl rfl rfl ?_
        rintro _ rfl
        obtain ⟨y49, hy49, h⟩ := Option.bind_eq_some_iff.1 h
        refine WP.cS (i := 3) rfl rfl rfl (alloc_Set_Free_ok h37 hy49) rfl rfl rfl ?_
        rintro _ rfl
        refine WP.q (i := 5) rfl (.r fun _ => rfl) rfl rfl rfl ?_
        refine WP.q (i := 6) rfl (.r fun _ => rfl) rfl rfl rfl ?_
        refine WP.nil ?_
        rcases bsp (decide (y48 ≠ (wi64 (y49 - (wi64 (1 + (wi64 (Int.tmod x1 40)))))))) with k50 | k50
        · have q_k50 := of_decide_eq_true k50
          replace h := (if_pos q_k50).symm.trans h
          refine WX.condT rfl k50 ?_
          refine WX.seq ?_
          refine WX.reg ?_
          refine WO.q (.as (v := .bool _) rfl) rfl rfl ?_
          refine WO.nil ?_
          obtain rfl := Option.some.inj h
          exact WX.ret (rs_ (rs_tmp rfl rs_nil)) fun st hp => ⟨(hp.pk [] (by decide)).le hB, rfl⟩
        · have q_k50 := of_decide_eq_false k50
          replace h := (if_neg q_k50).symm.trans h
          refine WX.condF rfl k50 ?_
          refine WX.skip ?_
          refine WX.seq ?_
          refine WX.reg ?_
          refine WO.q (.as (v := .int _ _) rfl) rfl rfl ?_
          refine WO.nil ?_
          refine WX.seq ?_
          refine WX.seq ?_
          refine WX.reg ?_
          refine WO.q (.mv (v := .sl _ _ _ _ _ _) rfl) rfl rfl ?_
          refine WO.q (.len rfl rfl rfl (sl23.len h42.isl)) rfl rfl ?_
          refine WO.q (.mv (v := .int _ _) rfl) rfl rfl ?_
          refine WO.nil ?_
          refine WX.block ?_
          refine WX.loop ?_
          obtain ⟨e108, he108, h⟩ := Option.bind_eq_some_iff.1 h
          refine WX.keep [5, 11, 12, 13, 15, 90, 91, 92] (WX.pk [1, 0] (by decide) ?_) rfl
          refine gabionlaw14_AllocBack_l1_ok he108 ?_ ?_ _ _ _ ⟨hB, _, _, _, _, _, _, h37, h40, h42, h42, rfl, rfl⟩
          · intro r110 he_
            subst he_
            replace h := (on_l h)
            obtain rfl := Option.some.inj h
            exact fun v st hp => hp
          · intro x111 he_
            subst he_
            replace h := (on_r h)
            rintro _ B _ ⟨hB, b112, v113, b114, v115, v116, h113, h115, h116, rfl, rfl⟩
            obtain ⟨_, _, _, _, _, rfl⟩ := h113.isl
            obtain ⟨_, _, _, _, _, rfl⟩ := h115.isl
            obtain ⟨_, _, _, _, _, rfl⟩ := h116.isl
            refine WX.seq ?_
            refine WX.seq ?_
            refine WX.reg ?_
            refine WO.q (.mv (v := .sl _ _ _ _ _ _) rfl) rfl rfl ?_
            refine WO.q (.len rfl rfl rfl (sl23.len h116.isl)) rfl rfl ?_
            refine WO.q (.mv (v := .int _ _) rfl) rfl rfl ?_
            refine WO.nil ?_
            refine WX.block ?_
            refine WX.loop ?_
            obtain ⟨e137, he137, h⟩ := Option.bind_eq_some_iff.1 h
            refine WX.keep [5, 11, 12, 15, 125, 126, 127] (WX.pk [0, 1] (by decide) ?_) rfl
            refine gabionlaw14_AllocBack_l3_ok he137 ?_ ?_ _ _ _ ⟨hB, _, _, _, _, _, h113, h115, h116, rfl, rfl⟩
            · intro r139 he_
              subst he_
              replace h := (on_l h)
              obtain rfl := Option.some.inj h
              exact fun v st hp => hp
            · intro x140 he_
              subst he_
              replace h := (on_r h)
              rintro _ B _ ⟨hB, b141, v142, b143, v144, h142, h144, rfl, rfl⟩
              obtain ⟨_, _, _, _, _, rfl⟩ := h142.isl
              obtain ⟨_, _, _, _, _, rfl⟩ := h144.isl
              refine WX.seq ?_
              refine WX.drw [0, 2, 1, 3, 4, 5] _ mixed (by kernel_rfl) rfl (pk_sub [0, 1]) ?_
              refine WP.q (i := 0) rfl (.ldA (i := 0) rfl rfl rfl ti25 rfl) rfl rfl rfl ?_
              refine WP.q (i := 2) rfl (.ldA (i := 1) rfl rfl rfl ti25 rfl) rfl rfl rfl ?_
              obtain ⟨y145, hy145, h⟩ := Option.bind_eq_some_iff.1 h
              refine WP.c1 (i := 1) rfl rfl rfl (alloc_Set_List_ok h142 hy145) rfl rfl rfl ?_
              rintro _ B _ hK ⟨v146, b147, n148, c149, rfl, rfl, h150⟩
              obtain ⟨_, _, _, _, _, rfl⟩ := h150.isl
              replace h142 := h142.up hK
              replace h144 := h144.up hK
              replace hB := hB.trans hK
              obtain ⟨y151, hy151, h⟩ := Option.bind_eq_some_iff.1 h
              refine WP.c1 (i := 3) rfl rfl rfl (alloc_Set_List_ok h144 hy151) rfl rfl rfl ?_
              rintro _ B _ hK ⟨v152, b153, n154, c155, rfl, rfl, h156⟩
              obtain ⟨_, _, _, _, _, rfl⟩ := h156.isl
              replace h142 := h142.up hK
              replace h144 := h144.up hK
              replace h150 := h150.up hK
              replace hB := hB.trans hK
              refine WP.q (i := 4) rfl (.as (v := .sl _ _ _ _ _ _) rfl) rfl rfl rfl ?_
              refine WP.q (i := 5) rfl (.as (v := .sl _ _ _ _ _ _) rfl) rfl rfl rfl ?_
              refine WP.nil ?_
              refine WX.seq ?_
              refine WX.seq ?_
              refine WX.reg ?_
              refine WO.q (.mv (v := .int _ _) rfl) rfl rfl ?_
              refine WO.q (.mv (v := .int _ _) rfl) rfl rfl ?_
              refine WO.q (.r fun _ => rfl) rfl rfl ?_
              refine WO.q (.mv (v := .bool _) rfl) rfl rfl ?_
              rcases bsp (decide (x140.1 ≠ (wi64 (1 + (wi64 (Int.tmod x1 40)))))) with k157 | k157
              · have q_k157 := of_decide_eq_true k157
                replace h := (if_pos q_k157).symm.trans h
                refine WO.sd (wg rfl rfl (gfn k157)) rfl ?_
                refine WO.sd (wg rfl rfl (gfn k157)) rfl ?_
                refine WO.sd (wg rfl rfl (gfn k157)) rfl ?_
                refine WO.sd (wg rfl rfl (gfn k157)) rfl ?_
                refine WO.sd (wg rfl rfl (gfn k157)) rfl ?_
                refine WO.q (.ptv (v := .bool _) rfl k157 rfl) rfl rfl ?_
                refine WO.nil ?_
                refine WX.keep [21, 22, 153] (WX.pk [1, 0] (by decide) ?_) rfl
                exact gabionlaw14_AllocBack_j40_ok h _ _ _ ⟨hB, _, _, n148, _, _, _, n154, _, h150, h156, rfl, rfl⟩
              · have q_k157 := of_decide_eq_false k157
                replace h := (if_neg q_k157).symm.trans h
                refine WO.q (.mv (v := .sl _ _ _ _ _ _) rfl) (wg rfl rfl (gf k157)) rfl ?_
                refine WO.q (.len rfl rfl rfl (sl23.len h150.isl)) (wg rfl rfl (gf k157)) rfl ?_
                refine WO.q (.mv (v := .sl _ _ _ _ _ _) rfl) (wg rfl rfl (gf k157)) rfl ?_
                refine WO.q (.len rfl rfl rfl (sl23.len h156.isl)) (wg rfl rfl (gf k157)) rfl ?_
                refine WO.q (.r fun _ => rfl) (wg rfl rfl (gf k157)) rfl ?_
                refine WO.q (.pfv (v := .bool _) rfl k157 rfl) rfl rfl ?_
                refine WO.nil ?_
                refine WX.keep [21, 22, 153] (WX.pk [1, 0] (by decide) ?_) rfl
                exact gabionlaw14_AllocBack_j40_ok h _ _ _ ⟨hB, _, _, n148, _, _, _, n154, _, h150, h156, rfl, rfl⟩
theorem gabionlaw14_AllocBack_ok {B0 : Kn} {L : Own} {a0 : List Int} {a1 : Int} {v0_0 : AV} {r : Bool} (g0_0 : RSl (Ty.int .u8) B0 v0_0 a0) (h : gabionlaw14_AllocBack a0 a1 = some r) : ∀ st, Hp B0 L st → ASpec Try.prog 7 [v0_0, .int .u8 a1] st (gabionlaw14_AllocBack_P B0 L r) := by
  unfold gabionlaw14_AllocBack at h
  refine bodyA (A := []) Try.func7 rfl (c := bodyOf Try.f7) rfl Try.ntmps7 (lb rfl) fun n0 => ?_
  have hB := KLe.refl B0
  obtain ⟨_, _, _, _, _, rfl⟩ := g0_0.isl
  refine WX.seq ?_
  refine WX.reg ?_
  refine WO.q (.as (v := .bool _) rfl) rfl rfl ?_
  refine WO.nil ?_
  refine WX.seq ?_
  refine WX.reg ?_
  obtain ⟨y1, hy1, h⟩ := Option.bind_eq_some_iff.1 h
  refine WO.c1 rfl rfl (alloc_New_ok hy1) rfl rfl rfl ?_
  rintro _ B _ hK ⟨v2, b3, n4, c5, rfl, rfl, h6⟩
  obtain ⟨_, _, _, _, _, rfl⟩ := h6.isl
  replace g0_0 := g0_0.up hK
  replace hB := hB.trans hK
  refine WO.q (.mv (v := .tup _) rfl) rfl rfl ?_
  refine WO.q (.r fun _ => rfl) rfl rfl ?_
  refine WO.q (.r fun _ => rfl) rfl rfl ?_
  refine WO.md (MOp.alloc ti25 rfl) rfl rfl ?_
  rintro _ _ ⟨b7, rfl, rfl⟩
  refine WO.mn (MOp.storeW rfl (cA rfl) .h ti25 rfl rfl rfl) rfl ?_
  rintro _ _ rfl
  refine WO.q (.as (v := .int _ _) rfl) rfl rfl ?_
  refine WO.nil ?_
  refine WX.seq ?_
  refine WX.seq ?_
  refine WX.reg ?_
  obtain ⟨y8, hy8, h⟩ := Option.bind_eq_some_iff.1 h
  refine WO.cS rfl rfl (gabionlaw14_wakes_ok hy8) rfl rfl rfl ?_
  rintro _ rfl
  refine WO.q (.r fun _ => rfl) rfl rfl ?_
  refine WO.q (.mv (v := .bool _) rfl) rfl rfl ?_
  rcases bsp y8 with k9 | k9
  · replace h := (if_pos k9).symm.trans h
    refine WO.q (.mv (v := .int _ _) rfl) (wg rfl rfl (gf (f_not k9))) rfl ?_
    refine WO.q (.r fun _ => rfl) (wg rfl rfl (gf (f_not k9))) rfl ?_
    refine WO.q (.pfv (v := .bool _) rfl (f_not k9) rfl) rfl rfl ?_
    refine WO.nil ?_
    refine WX.keep [0, 1, 5, 33] (WX.pk [0, 1] (by decide) ?_) rfl
    exact gabionlaw14_AllocBack_j2_ok h _ _ _ ⟨hB, _, _, _, n4, _, _, h6, g0_0, rfl, rfl⟩
  · replace h := (if_neg (bnt k9)).symm.trans h
    refine WO.sd (wg rfl rfl (gfn (t_not k9))) rfl ?_
    refine WO.sd (wg rfl rfl (gfn (t_not k9))) rfl ?_
    refine WO.q (.ptv (v := .bool _) rfl (t_not k9) rfl) rfl rfl ?_
    refine WO.nil ?_
    refine WX.keep [0, 1, 5, 33] (WX.pk [0, 1] (by decide) ?_) rfl
    exact gabionlaw14_AllocBack_j2_ok h _ _ _ ⟨hB, _, _, _, n4, _, _, h6, g0_0, rfl, rfl⟩
end Gab
