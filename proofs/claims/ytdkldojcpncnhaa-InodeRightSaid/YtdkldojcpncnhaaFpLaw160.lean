/- The Go code comes to what the Lean functions say. Written by a program (gp.py). -/
import Derived.Test.YtdkldojcpncnhaaFd
import Derived.Test.YtdkldojcpncnhaaTy
import Derived.Test.YtdkldojcpncnhaaFpInode0
import Derived.Test.YtdkldojcpncnhaaFpRef150
set_option linter.unusedSimpArgs false
set_option linter.unusedVariables false
set_option maxHeartbeats 4000000
set_option maxRecDepth 100000
namespace Gab
open Go Go.Proofs
def gabionlaw16_cut_P (B : Kn) (L : Own) (r : (Int × Int × Int × (List (Int × Int)) × (List UInt8))) : AV → St → Prop := C0 B L fun B' v => ∃ w0, v = .agg [.int .u8 r.1, .int .i64 r.2.1, .int .i64 r.2.2.1, w0, .str r.2.2.2.2] ∧ RSl EPIi64Ii64Q B' w0 r.2.2.2.1
theorem gabionlaw16_cut_ok {B0 : Kn} {L : Own} {a0 : Int × Int × Int × (List (Int × Int)) × (List UInt8)} {v0_0 : AV} {r : (Int × Int × Int × (List (Int × Int)) × (List UInt8))} (g0_0 : RSl EPIi64Ii64Q B0 v0_0 a0.2.2.2.1) (h : gabionlaw16_cut a0 = some r) : ∀ st, Hp B0 L st → ASpec Try.prog 46 [.agg [.int .u8 a0.1, .int .i64 a0.2.1, .int .i64 a0.2.2.1, v0_0, .str a0.2.2.2.2]] st (gabionlaw16_cut_P B0 L r) := by
  unfold gabionlaw16_cut at h
  refine bodyA (A := []) Try.func46 rfl (c := bodyOf Try.f46) rfl Try.ntmps46 (lb rfl) fun n0 => ?_
  have hB := KLe.refl B0
  obtain ⟨_, _, _, _, _, rfl⟩ := g0_0.isl
  refine WX.seq ?_
  refine WX.reg ?_
  refine WO.md (MOp.box (cA rfl)) rfl rfl ?_
  rintro _ _ ⟨b1, rfl, rfl⟩
  refine WO.md (MOp.alloc ti81 rfl) rfl rfl ?_
  rintro _ _ ⟨b2, rfl, rfl⟩
  refine WO.nil ?_
  refine WX.seq ?_
  refine WX.drw (Plan.of [0, 1, 2, 3, 4, 5, 6, 7, 8, 9, 10, 11, 12, 13, 14, 15, 16, 17] .nil) _ mixed (by kernel_rfl) rfl (pk_sub [0, 1]) ?_
  refine WP.q (i := 0) rfl (.fa (fa81_3 _ _)) rfl rfl rfl ?_
  refine WP.q (i := 1) rfl (.ldS (i := 1) rfl rfl rfl ti40 rfl) rfl rfl rfl ?_
  refine WP.q (i := 2) rfl (.fa (fa81_3 _ _)) rfl rfl rfl ?_
  refine WP.q (i := 3) rfl (.ldS (i := 1) rfl rfl rfl ti40 rfl) rfl rfl rfl ?_
  refine WP.q (i := 4) rfl (.len rfl rfl rfl (sl40.len g0_0.isl)) rfl rfl rfl ?_
  refine WP.q (i := 5) rfl (.r fun _ => rfl) rfl rfl rfl ?_
  obtain ⟨y3, hy3, h⟩ := Option.bind_eq_some_iff.1 h
  obtain ⟨v_y3, e_y3, g_y3⟩ := g0_0.cut sl40 hy3 (lo := none) (hi := some (.int .i64 (mn (a0.2.2.2.1.length : Int) 70))) bnd_none (bnd_int (Int.le_trans (cutL_some hy3).1.1 (cutL_some hy3).1.2.1))
  obtain ⟨_, _, _, _, _, rfl⟩ := g_y3.isl
  refine WP.q (i := 6) rfl (.sl e_y3) rfl rfl rfl ?_
  refine WP.q (i := 7) rfl (.fa (fa81_4 _ _)) rfl rfl rfl ?_
  refine WP.q (i := 8) rfl (.ldS (i := 1) rfl rfl rfl ti9 rfl) rfl rfl rfl ?_
  refine WP.q (i := 9) rfl (.fa (fa81_4 _ _)) rfl rfl rfl ?_
  refine WP.q (i := 10) rfl (.ldS (i := 1) rfl rfl rfl ti9 rfl) rfl rfl rfl ?_
  refine WP.q (i := 11) rfl (.len rfl rfl rfl (evslen ti9 rfl _)) rfl rfl rfl ?_
  refine WP.q (i := 12) rfl (.r fun _ => rfl) rfl rfl rfl ?_
  obtain ⟨y4, hy4, h⟩ := Option.bind_eq_some_iff.1 h
  refine WP.q (i := 13) rfl (.sl (evscut ti9 rfl hy4 bnd_none (bnd_int (Int.le_trans (cutL_some hy4).1.1 (cutL_some hy4).1.2.1)))) rfl rfl rfl ?_
  refine WP.q (i := 14) rfl (.fa (fa81_3 _ _)) rfl rfl rfl ?_
  refine WP.msn (i := 15) rfl (MOp.store (cs' := [.int .u8 a0.1, .int .i64 a0.2.1, .int .i64 a0.2.2.1, _, .str a0.2.2.2.2]) rfl (cL rfl) (.t .h) ti40 rfl rfl (lb rfl) rfl) rfl (by kernel_rfl) rfl ?_
  rintro _ _ rfl
  refine WS.q (i := 16) rfl (.fa (fa81_4 _ _)) rfl rfl rfl rfl ?_
  refine WS.msn (i := 17) rfl (MOp.store (cs' := [.int .u8 a0.1, .int .i64 a0.2.1, .int .i64 a0.2.2.1, _, .str y4]) rfl (cS rfl) (.t .h) ti9 rfl rfl (lb rfl) rfl) rfl (by kernel_rfl) rfl ?_
  rintro _ _ rfl
  refine WS.nil ?_
  refine WX.seq ?_
  refine WX.reg ?_
  refine WO.q (.ldA (i := 1) rfl rfl rfl ti81 rfl) rfl rfl ?_
  refine WO.mn (MOp.storeW rfl (cA rfl) .h ti81 rfl rfl rfl) rfl ?_
  rintro _ _ rfl
  refine WO.nil ?_
  obtain rfl := Option.some.inj h
  exact WX.ret (rs_ (rs_cell (.ldA (i := 0) rfl rfl rfl ti81 rfl) rs_nil)) fun st hp => ⟨_, hB, (hp.pk [] (by decide)), _, rfl, g_y3⟩
def gabionlaw16_tame_P (B : Kn) (L : Own) (r : (Int × Int × Int × (List (Int × Int)) × (List UInt8))) : AV → St → Prop := C1 B L fun B' v e0 => ∃ w0 b0 n0 c0, v = .agg [.int .u8 r.1, .int .i64 r.2.1, .int .i64 r.2.2.1, w0, .str r.2.2.2.2] ∧ e0 = oe b0 n0 c0 ∧ OSl EPIi64Ii64Q B' w0 b0 n0 c0 r.2.2.2.1
def gabionlaw16_tame_j16_I (B0 : Kn) (x4 : List Int) (x7 : Int) (x31 : List (Int × Int)) (x33 : Int) (x45 : Int) (x46 : Int) (zb1 : Int × Int × Int × (List (Int × Int)) × (List UInt8)) (zb2 : Int × Int × Int × (List (Int × Int)) × (List UInt8)) (zb3 : Int × Int × Int × (List (Int × Int)) × (List UInt8)) : Fr → Kn → Own → Prop := fun fr B A => KLe B0 B ∧ ∃ b39 v40 b41 v42 b42 n42 c42 b43 v44 b44 n44 c44 v45 b45 n45 c45 v46, RSl EPIi64Ii64Q B v40 zb1.2.2.2.1 ∧ OSl EPIi64Ii64Q B v42 b42 n42 c42 zb2.2.2.2.1 ∧ OSl EPIi64Ii64Q B v44 b44 n44 c44 zb3.2.2.2.1 ∧ OSl (Ty.int .i64) B v45 b45 n45 c45 x4 ∧ RSl EPIi64Ii64Q B v46 x31 ∧ fr = [(1, .ptr b39 0), (2, .ptr b41 0), (3, .ptr b43 0), (4, v45), (7, .int .i64 x7), (31, v46), (32, .int .i64 (x31.length : Int)), (33, .int .i64 x33), (45, .int .i64 x45), (46, .int .i64 x46)] ∧ A = [(b39, some [.int .u8 zb1.1, .int .i64 zb1.2.1, .int .i64 zb1.2.2.1, v40, .str zb1.2.2.2.2]), (b41, some [.int .u8 zb2.1, .int .i64 zb2.2.1, .int .i64 zb2.2.2.1, v42, .str zb2.2.2.2.2]), (b43, some [.int .u8 zb3.1, .int .i64 zb3.2.1, .int .i64 zb3.2.2.1, v44, .str zb3.2.2.2.2]), oe b42 n42 c42, oe b44 n44 c44, oe b45 n45 c45]
def gabionlaw16_tame_l1_I (B0 : Kn) (x7 : Int) (x31 : List (Int × Int)) (x45 : Int) (zb1 : Int × Int × Int × (List (Int × Int)) × (List UInt8)) (zb2 : Int × Int × Int × (List (Int × Int)) × (List UInt8)) (zb3 : Int × Int × Int × (List (Int × Int)) × (List UInt8)) (x4 : List Int) (x33 : Int) (x46 : Int) : Fr → Kn → Own → Prop := fun fr B A => KLe B0 B ∧ ∃ b20 v21 b22 v23 b23 n23 c23 b24 v25 b25 n25 c25 v26 b26 n26 c26 v27, RSl EPIi64Ii64Q B v21 zb1.2.2.2.1 ∧ OSl EPIi64Ii64Q B v23 b23 n23 c23 zb2.2.2.2.1 ∧ OSl EPIi64Ii64Q B v25 b25 n25 c25 zb3.2.2.2.1 ∧ OSl (Ty.int .i64) B v26 b26 n26 c26 x4 ∧ RSl EPIi64Ii64Q B v27 x31 ∧ fr = [(1, .ptr b20 0), (2, .ptr b22 0), (3, .ptr b24 0), (4, v26), (7, .int .i64 x7), (31, v27), (32, .int .i64 (x31.length : Int)), (33, .int .i64 x33), (45, .int .i64 x45), (46, .int .i64 x46)] ∧ A = [(b20, some [.int .u8 zb1.1, .int .i64 zb1.2.1, .int .i64 zb1.2.2.1, v21, .str zb1.2.2.2.2]), (b22, some [.int .u8 zb2.1, .int .i64 zb2.2.1, .int .i64 zb2.2.2.1, v23, .str zb2.2.2.2.2]), (b24, some [.int .u8 zb3.1, .int .i64 zb3.2.1, .int .i64 zb3.2.2.1, v25, .str zb3.2.2.2.2]), oe b23 n23 c23, oe b25 n25 c25, oe b26 n26 c26]
def gabionlaw16_tame_l1_X0 (B0 : Kn) (x4 : List Int) (x31 : List (Int × Int)) (x33 : Int) (zb1 : Int × Int × Int × (List (Int × Int)) × (List UInt8)) (zb2 : Int × Int × Int × (List (Int × Int)) × (List UInt8)) (zb3 : Int × Int × Int × (List (Int × Int)) × (List UInt8)) : Fr → Kn → Own → Prop := fun fr B A => KLe B0 B ∧ ∃ b124 v125 b126 v127 b127 n127 c127 b128 v129 b129 n129 c129 v130 b130 n130 c130 v131, RSl EPIi64Ii64Q B v125 zb1.2.2.2.1 ∧ OSl EPIi64Ii64Q B v127 b127 n127 c127 zb2.2.2.2.1 ∧ OSl EPIi64Ii64Q B v129 b129 n129 c129 zb3.2.2.2.1 ∧ OSl (Ty.int .i64) B v130 b130 n130 c130 x4 ∧ RSl EPIi64Ii64Q B v131 x31 ∧ fr = [(1, .ptr b124 0), (2, .ptr b126 0), (3, .ptr b128 0), (4, v130), (31, v131), (32, .int .i64 (x31.length : Int)), (33, .int .i64 x33)] ∧ A = [(b124, some [.int .u8 zb1.1, .int .i64 zb1.2.1, .int .i64 zb1.2.2.1, v125, .str zb1.2.2.2.2]), (b126, some [.int .u8 zb2.1, .int .i64 zb2.2.1, .int .i64 zb2.2.2.1, v127, .str zb2.2.2.2.2]), (b128, some [.int .u8 zb3.1, .int .i64 zb3.2.1, .int .i64 zb3.2.2.1, v129, .str zb3.2.2.2.2]), oe b127 n127 c127, oe b129 n129 c129, oe b130 n130 c130]
def gabionlaw16_tame_l0_I (B0 : Kn) (x31 : List (Int × Int)) (zb1 : Int × Int × Int × (List (Int × Int)) × (List UInt8)) (zb2 : Int × Int × Int × (List (Int × Int)) × (List UInt8)) (zb3 : Int × Int × Int × (List (Int × Int)) × (List UInt8)) (x4 : List Int) (x33 : Int) : Fr → Kn → Own → Prop := fun fr B A => KLe B0 B ∧ ∃ b9 v10 b11 v12 b12 n12 c12 b13 v14 b14 n14 c14 v15 b15 n15 c15 v16, RSl EPIi64Ii64Q B v10 zb1.2.2.2.1 ∧ OSl EPIi64Ii64Q B v12 b12 n12 c12 zb2.2.2.2.1 ∧ OSl EPIi64Ii64Q B v14 b14 n14 c14 zb3.2.2.2.1 ∧ OSl (Ty.int .i64) B v15 b15 n15 c15 x4 ∧ RSl EPIi64Ii64Q B v16 x31 ∧ fr = [(1, .ptr b9 0), (2, .ptr b11 0), (3, .ptr b13 0), (4, v15), (31, v16), (32, .int .i64 (x31.length : Int)), (33, .int .i64 x33)] ∧ A = [(b9, some [.int .u8 zb1.1, .int .i64 zb1.2.1, .int .i64 zb1.2.2.1, v10, .str zb1.2.2.2.2]), (b11, some [.int .u8 zb2.1, .int .i64 zb2.2.1, .int .i64 zb2.2.2.1, v12, .str zb2.2.2.2.2]), (b13, some [.int .u8 zb3.1, .int .i64 zb3.2.1, .int .i64 zb3.2.2.1, v14, .str zb3.2.2.2.2]), oe b12 n12 c12, oe b14 n14 c14, oe b15 n15 c15]
def gabionlaw16_tame_l0_X0 (B0 : Kn) (x4 : List Int) (zb1 : Int × Int × Int × (List (Int × Int)) × (List UInt8)) (zb2 : Int × Int × Int × (List (Int × Int)) × (List UInt8)) (zb3 : Int × Int × Int × (List (Int × Int)) × (List UInt8)) : Fr → Kn → Own → Prop := fun fr B A => KLe B0 B ∧ ∃ b132 v133 b134 v135 b135 n135 c135 b136 v137 b137 n137 c137 v138 b138 n138 c138, RSl EPIi64Ii64Q B v133 zb1.2.2.2.1 ∧ OSl EPIi64Ii64Q B v135 b135 n135 c135 zb2.2.2.2.1 ∧ OSl EPIi64Ii64Q B v137 b137 n137 c137 zb3.2.2.2.1 ∧ OSl (Ty.int .i64) B v138 b138 n138 c138 x4 ∧ fr = [(1, .ptr b132 0), (2, .ptr b134 0), (3, .ptr b136 0), (4, v138)] ∧ A = [(b132, some [.int .u8 zb1.1, .int .i64 zb1.2.1, .int .i64 zb1.2.2.1, v133, .str zb1.2.2.2.2]), (b134, some [.int .u8 zb2.1, .int .i64 zb2.2.1, .int .i64 zb2.2.2.1, v135, .str zb2.2.2.2.2]), (b136, some [.int .u8 zb3.1, .int .i64 zb3.2.1, .int .i64 zb3.2.2.1, v137, .str zb3.2.2.2.2]), oe b135 n135 c135, oe b137 n137 c137, oe b138 n138 c138]
def gabionlaw16_tame_l2_I (B0 : Kn) (x81 : Int) (zb1 : Int × Int × Int × (List (Int × Int)) × (List UInt8)) (zb2 : Int × Int × Int × (List (Int × Int)) × (List UInt8)) (x82 : Int) (zb3 : Int × Int × Int × (List (Int × Int)) × (List UInt8)) : Fr → Kn → Own → Prop := fun fr B A => KLe B0 B ∧ ∃ b99 v100 b101 v102 b102 n102 c102 b103 v104 b104 n104 c104, RSl EPIi64Ii64Q B v100 zb1.2.2.2.1 ∧ OSl EPIi64Ii64Q B v102 b102 n102 c102 zb2.2.2.2.1 ∧ OSl EPIi64Ii64Q B v104 b104 n104 c104 zb3.2.2.2.1 ∧ fr = [(1, .ptr b99 0), (2, .ptr b101 0), (3, .ptr b103 0), (81, .int .i64 x81), (82, .int .i64 x82)] ∧ A = [(b99, some [.int .u8 zb1.1, .int .i64 zb1.2.1, .int .i64 zb1.2.2.1, v100, .str zb1.2.2.2.2]), (b101, some [.int .u8 zb2.1, .int .i64 zb2.2.1, .int .i64 zb2.2.2.1, v102, .str zb2.2.2.2.2]), (b103, some [.int .u8 zb3.1, .int .i64 zb3.2.1, .int .i64 zb3.2.2.1, v104, .str zb3.2.2.2.2]), oe b102 n102 c102, oe b104 n104 c104]
def gabionlaw16_tame_l2_X0 (B0 : Kn) (zb2 : Int × Int × Int × (List (Int × Int)) × (List UInt8)) (zb3 : Int × Int × Int × (List (Int × Int)) × (List UInt8)) : Fr → Kn → Own → Prop := fun fr B A => KLe B0 B ∧ ∃ b139 v140 b140 n140 c140 b141 v142 b142 n142 c142, OSl EPIi64Ii64Q B v140 b140 n140 c140 zb2.2.2.2.1 ∧ OSl EPIi64Ii64Q B v142 b142 n142 c142 zb3.2.2.2.1 ∧ fr = [(2, .ptr b139 0), (3, .ptr b141 0)] ∧ A = [(b139, some [.int .u8 zb2.1, .int .i64 zb2.2.1, .int .i64 zb2.2.2.1, v140, .str zb2.2.2.2.2]), (b141, some [.int .u8 zb3.1, .int .i64 zb3.2.1, .int .i64 zb3.2.2.1, v142, .str zb3.2.2.2.2]), oe b140 n140 c140, oe b142 n142 c142]
theorem gabionlaw16_tame_j16_ok {B0 : Kn} {L : Own} {n0 : Nat} {x4 : List Int} {x7 : Int} {x31 : List (Int × Int)} {x33 : Int} {x45 : Int} {x46 : Int} {zb1 : Int × Int × Int × (List (Int × Int)) × (List UInt8)} {zb2 : Int × Int × Int × (List (Int × Int)) × (List UInt8)} {zb3 : Int × Int × Int × (List (Int × Int)) × (List UInt8)} {Q : AV → St → Prop} {E : ((List Int) × Int × Int) ⊕ ((List Int) × Int) → Prop} {o : ((List Int) × Int × Int) ⊕ ((List Int) × Int)} (h : gabionlaw16_tame_j16 x4 x7 x31 x33 x45 x46 zb1 zb2 zb3 = some o) (hn : ∀ s, E (.inl s) → WXI Try.prog 113 n0 (Fin Try.prog Try.f47.results.toList n0 Q) [.lp (ct [1, 1, 1, 0, 1, 0, 1, 0, 1, 0, 1, 0, 0, 1, 1, 0, 0, 1, 1, 1, 0, 0] (bodyOf Try.f47)), .blk 3, .blk 2, .code (ct [1, 1, 1, 0, 1, 0, 1, 0, 1, 0, 1, 0, 0, 1, 1, 1] (bodyOf Try.f47)), .lp (ct [1, 1, 1, 0, 1, 0, 1, 0, 1, 0, 1, 0, 0] (bodyOf Try.f47)), .blk 1, .code (ct [1, 1, 1, 0, 1, 0, 1, 0, 1, 1] (bodyOf Try.f47)), .blk 0, .code (ct [1, 1, 1, 1] (bodyOf Try.f47))] (gabionlaw16_tame_l1_I B0 x7 x31 x45 zb1 zb2 zb3 s.1 s.2.1 s.2.2) L) (hx0 : ∀ s, E (.inr s) → WXI Try.prog 113 n0 (Fin Try.prog Try.f47.results.toList n0 Q) [.code (ct [1, 1, 1, 0, 1, 0, 1, 0, 1, 0, 1, 0, 0, 1, 1, 1] (bodyOf Try.f47)), .lp (ct [1, 1, 1, 0, 1, 0, 1, 0, 1, 0, 1, 0, 0] (bodyOf Try.f47)), .blk 1, .code (ct [1, 1, 1, 0, 1, 0, 1, 0, 1, 1] (bodyOf Try.f47)), .blk 0, .code (ct [1, 1, 1, 1] (bodyOf Try.f47))] (gabionlaw16_tame_l1_X0 B0 s.1 x31 s.2 zb1 zb2 zb3) L) (hE : E o) : WXI Try.prog 113 n0 (Fin Try.prog Try.f47.results.toList n0 Q) [.code (ct [1, 1, 1, 0, 1, 0, 1, 0, 1, 0, 1, 0, 0, 1, 1, 0, 0, 1, 1, 1, 0, 0, 1, 1, 1] (bodyOf Try.f47)), .lp (ct [1, 1, 1, 0, 1, 0, 1, 0, 1, 0, 1, 0, 0, 1, 1, 0, 0, 1, 1, 1, 0, 0] (bodyOf Try.f47)), .blk 3, .blk 2, .code (ct [1, 1, 1, 0, 1, 0, 1, 0, 1, 0, 1, 0, 0, 1, 1, 1] (bodyOf Try.f47)), .lp (ct [1, 1, 1, 0, 1, 0, 1, 0, 1, 0, 1, 0, 0] (bodyOf Try.f47)), .blk 1, .code (ct [1, 1, 1, 0, 1, 0, 1, 0, 1, 1] (bodyOf Try.f47)), .blk 0, .code (ct [1, 1, 1, 1] (bodyOf Try.f47))] (gabionlaw16_tame_j16_I B0 x4 x7 x31 x33 x45 x46 zb1 zb2 zb3) L := by
  unfold gabionlaw16_tame_j16 at h
  rintro _ B _ ⟨hB, b39, v40, b41, v42, b42, n42, c42, b43, v44, b44, n44, c44, v45, b45, n45, c45, v46, h40, h42, h44, h45, h46, rfl, rfl⟩
  obtain ⟨_, _, _, _, _, rfl⟩ := h40.isl
  obtain ⟨_, _, _, _, _, rfl⟩ := h42.isl
  obtain ⟨_, _, _, _, _, rfl⟩ := h44.isl
  obtain ⟨_, _, _, _, _, rfl⟩ := h45.isl
  obtain ⟨_, _, _, _, _, rfl⟩ := h46.isl
  refine WX.reg ?_
  refine WO.q (.r fun _ => rfl) rfl rfl ?_
  refine WO.q (.mv (v := .int _ _) rfl) rfl rfl ?_
  refine WO.nil ?_
  refine WX.keepL [1, 2, 3, 4, 7, 31, 32, 33, 45, 46] (WX.pk [0, 1, 2, 3, 4, 5] (by decide) ?_) rfl
  obtain rfl := Option.some.inj h
  exact hn _ hE _ _ _ ⟨hB, _, _, _, _, _, n42, _, _, _, _, n44, _, _, _, n45, _, _, h40, h42, h44, h45, h46, rfl, rfl⟩
theorem gabionlaw16_tame_l1_s {B0 : Kn} {L : Own} {n0 : Nat} {x7 : Int} {x31 : List (Int × Int)} {x45 : Int} {zb1 : Int × Int × Int × (List (Int × Int)) × (List UInt8)} {zb2 : Int × Int × Int × (List (Int × Int)) × (List UInt8)} {zb3 : Int × Int × Int × (List (Int × Int)) × (List UInt8)} {x4 : List Int} {x33 : Int} {x46 : Int} {Q : AV → St → Prop} {E : ((List Int) × Int × Int) ⊕ ((List Int) × Int) → Prop} {o : ((List Int) × Int × Int) ⊕ ((List Int) × Int)} (h : gabionlaw16_tame_l1 x7 x31 x45 zb1 zb2 zb3 x4 x33 x46 = some o) (hn : ∀ s, E (.inl s) → WXI Try.prog 113 n0 (Fin Try.prog Try.f47.results.toList n0 Q) [.lp (ct [1, 1, 1, 0, 1, 0, 1, 0, 1, 0, 1, 0, 0, 1, 1, 0, 0, 1, 1, 1, 0, 0] (bodyOf Try.f47)), .blk 3, .blk 2, .code (ct [1, 1, 1, 0, 1, 0, 1, 0, 1, 0, 1, 0, 0, 1, 1, 1] (bodyOf Try.f47)), .lp (ct [1, 1, 1, 0, 1, 0, 1, 0, 1, 0, 1, 0, 0] (bodyOf Try.f47)), .blk 1, .code (ct [1, 1, 1, 0, 1, 0, 1, 0, 1, 1] (bodyOf Try.f47)), .blk 0, .code (ct [1, 1, 1, 1] (bodyOf Try.f47))] (gabionlaw16_tame_l1_I B0 x7 x31 x45 zb1 zb2 zb3 s.1 s.2.1 s.2.2) L) (hx0 : ∀ s, E (.inr s) → WXI Try.prog 113 n0 (Fin Try.prog Try.f47.results.toList n0 Q) [.code (ct [1, 1, 1, 0, 1, 0, 1, 0, 1, 0, 1, 0, 0, 1, 1, 1] (bodyOf Try.f47)), .lp (ct [1, 1, 1, 0, 1, 0, 1, 0, 1, 0, 1, 0, 0] (bodyOf Try.f47)), .blk 1, .code (ct [1, 1, 1, 0, 1, 0, 1, 0, 1, 1] (bodyOf Try.f47)), .blk 0, .code (ct [1, 1, 1, 1] (bodyOf Try.f47))] (gabionlaw16_tame_l1_X0 B0 s.1 x31 s.2 zb1 zb2 zb3) L) (hE : E o) : WXI Try.prog 113 n0 (Fin Try.prog Try.f47.results.toList n0 Q) [.code (ct [1, 1, 1, 0, 1, 0, 1, 0, 1, 0, 1, 0, 0, 1, 1, 0, 0, 1, 1, 1, 0, 0] (bodyOf Try.f47)), .lp (ct [1, 1, 1, 0, 1, 0, 1, 0, 1, 0, 1, 0, 0, 1, 1, 0, 0, 1, 1, 1, 0, 0] (bodyOf Try.f47)), .blk 3, .blk 2, .code (ct [1, 1, 1, 0, 1, 0, 1, 0, 1, 0, 1, 0, 0, 1, 1, 1] (bodyOf Try.f47)), .lp (ct [1, 1, 1, 0, 1, 0, 1, 0, 1, 0, 1, 0, 0] (bodyOf Try.f47)), .blk 1, .code (ct [1, 1, 1, 0, 1, 0, 1, 0, 1, 1] (bodyOf Try.f47)), .blk 0, .code (ct [1, 1, 1, 1] (bodyOf Try.f47))] (gabionlaw16_tame_l1_I B0 x7 x31 x45 zb1 zb2 zb3 x4 x33 x46) L := by
  unfold gabionlaw16_tame_l1 at h
  rintro _ B _ ⟨hB, b20, v21, b22, v23, b23, n23, c23, b24, v25, b25, n25, c25, v26, b26, n26, c26, v27, h21, h23, h25, h26, h27, rfl, rfl⟩
  obtain ⟨_, _, _, _, _, rfl⟩ := h21.isl
  obtain ⟨_, _, _, _, _, rfl⟩ := h23.isl
  obtain ⟨_, _, _, _, _, rfl⟩ := h25.isl
  obtain ⟨_, _, _, _, _, rfl⟩ := h26.isl
  obtain ⟨_, _, _, _, _, rfl⟩ := h27.isl
  refine WX.seq ?_
  refine WX.reg ?_
  refine WO.q (.r fun _ => rfl) rfl rfl ?_
  refine WO.nil ?_
  refine WX.seq ?_
  rcases bsp (decide (x46 < x45)) with k28 | k28
  · have q_k28 := of_decide_eq_true k28
    replace h := (if_pos q_k28).symm.trans h
    refine WX.condT rfl k28 ?_
    refine WX.skip ?_
    refine WX.seq ?_
    refine WX.block ?_
    refine WX.seq ?_
    refine WX.reg ?_
    refine WO.q (.mv (v := .int _ _) rfl) rfl rfl ?_
    refine WO.q (.as (v := .int _ _) rfl) rfl rfl ?_
    refine WO.nil ?_
    refine WX.seq ?_
    refine WX.reg ?_
    refine WO.q (.mv (v := .int _ _) rfl) rfl rfl ?_
    refine WO.q (.r fun _ => rfl) rfl rfl ?_
    refine WO.nil ?_
    rcases bsp (decide (x7 < 0)) with k29 | k29
    · have q_k29 := of_decide_eq_true k29
      replace h := (if_pos q_k29).symm.trans h
      refine WX.condT rfl k29 ?_
      refine WX.reg ?_
      refine WO.q (.mv (v := .sl _ _ _ _ _ _) rfl) rfl rfl ?_
      refine WO.md (MOp.bs (l := ([(-1)] : List Int)) sl22 (RL.cons Ri RL.nil) (lb rfl) rfl rfl) rfl rfl ?_
      rintro v32 _ ⟨b30, o31, rfl⟩
      obtain ⟨_, _, _, _, _, rfl⟩ := o31.isl
      obtain ⟨y34, hy34, h⟩ := Option.bind_eq_some_iff.1 h
      refine WO.md (MOp.app rfl rfl rfl sl22 h26 (Src.o (i := 0) sl22 o31 rfl) hy34 rfl rfl (fun _ => (.t (.t (.t (.t (.t (.t .h)))))))) rfl rfl ?_
      rintro v38 _ ⟨b35, n36, o37, rfl⟩
      obtain ⟨_, _, _, _, _, rfl⟩ := o37.isl
      refine WO.q (.as (v := .sl _ _ _ _ _ _) rfl) rfl rfl ?_
      refine WO.nil ?_
      refine WX.pop ?_
      refine WX.keep [1, 2, 3, 4, 7, 31, 32, 33, 45, 46] (WX.pk [1, 2, 3, 4, 5, 6] (by decide) ?_) rfl
      exact gabionlaw16_tame_j16_ok h hn hx0 hE _ _ _ ⟨hB, _, _, _, _, _, n23, _, _, _, _, n25, _, _, _, n36, _, _, h21, h23, h25, o37, h27, rfl, rfl⟩
    · have q_k29 := of_decide_eq_false k29
      replace h := (if_neg q_k29).symm.trans h
      refine WX.condF rfl k29 ?_
      refine WX.reg ?_
      refine WO.q (.mv (v := .sl _ _ _ _ _ _) rfl) rfl rfl ?_
      refine WO.q (.mv (v := .int _ _) rfl) rfl rfl ?_
      refine WO.q (.mv (v := .int _ _) rfl) rfl rfl ?_
      refine WO.q (.r fun _ => rfl) rfl rfl ?_
      refine WO.md (MOp.bs (l := ([(wi64 (x7 + x46))] : List Int)) sl22 (RL.cons Ri RL.nil) (lb rfl) rfl rfl) rfl rfl ?_
      rintro v49 _ ⟨b47, o48, rfl⟩
      obtain ⟨_, _, _, _, _, rfl⟩ := o48.isl
      obtain ⟨y51, hy51, h⟩ := Option.bind_eq_some_iff.1 h
      refine WO.md (MOp.app rfl rfl rfl sl22 h26 (Src.o (i := 0) sl22 o48 rfl) hy51 rfl rfl (fun _ => (.t (.t (.t (.t (.t (.t .h)))))))) rfl rfl ?_
      rintro v55 _ ⟨b52, n53, o54, rfl⟩
      obtain ⟨_, _, _, _, _, rfl⟩ := o54.isl
      refine WO.q (.as (v := .sl _ _ _ _ _ _) rfl) rfl rfl ?_
      refine WO.nil ?_
      refine WX.pop ?_
      refine WX.keep [1, 2, 3, 4, 7, 31, 32, 33, 45, 46] (WX.pk [1, 2, 3, 4, 5, 6] (by decide) ?_) rfl
      exact gabionlaw16_tame_j16_ok h hn hx0 hE _ _ _ ⟨hB, _, _, _, _, _, n23, _, _, _, _, n25, _, _, _, n53, _, _, h21, h23, h25, o54, h27, rfl, rfl⟩
  · have q_k28 := of_decide_eq_false k28
    replace h := (if_neg q_k28).symm.trans h
    refine WX.condF rfl k28 ?_
    refine WX.exit rfl ?_
    refine WX.pop ?_
    refine WX.keep [1, 2, 3, 4, 31, 32, 33] (WX.pk [0, 1, 2, 3, 4, 5] (by decide) ?_) rfl
    obtain rfl := Option.some.inj h
    exact hx0 _ hE _ _ _ ⟨hB, _, _, _, _, _, n23, _, _, _, _, n25, _, _, _, n26, _, _, h21, h23, h25, h26, h27, rfl, rfl⟩
theorem gabionlaw16_tame_l1_ok {B0 : Kn} {L : Own} {n0 : Nat} {x7 : Int} {x31 : List (Int × Int)} {x45 : Int} {zb1 : Int × Int × Int × (List (Int × Int)) × (List UInt8)} {zb2 : Int × Int × Int × (List (Int × Int)) × (List UInt8)} {zb3 : Int × Int × Int × (List (Int × Int)) × (List UInt8)} {x4 : List Int} {x33 : Int} {x46 : Int} {Q : AV → St → Prop} {d : Nat} {e : ((List Int) × Int)} (h : iter (fun (s : (List Int) × Int × Int) => gabionlaw16_tame_l1 x7 x31 x45 zb1 zb2 zb3 s.1 s.2.1 s.2.2) d (x4, x33, x46) = some e) (g0 : ∀ s, e = s → WXI Try.prog 113 n0 (Fin Try.prog Try.f47.results.toList n0 Q) [.code (ct [1, 1, 1, 0, 1, 0, 1, 0, 1, 0, 1, 0, 0, 1, 1, 1] (bodyOf Try.f47)), .lp (ct [1, 1, 1, 0, 1, 0, 1, 0, 1, 0, 1, 0, 0] (bodyOf Try.f47)), .blk 1, .code (ct [1, 1, 1, 0, 1, 0, 1, 0, 1, 1] (bodyOf Try.f47)), .blk 0, .code (ct [1, 1, 1, 1] (bodyOf Try.f47))] (gabionlaw16_tame_l1_X0 B0 s.1 x31 s.2 zb1 zb2 zb3) L) : WXI Try.prog 113 n0 (Fin Try.prog Try.f47.results.toList n0 Q) [.code (ct [1, 1, 1, 0, 1, 0, 1, 0, 1, 0, 1, 0, 0, 1, 1, 0, 0, 1, 1, 1, 0, 0] (bodyOf Try.f47)), .lp (ct [1, 1, 1, 0, 1, 0, 1, 0, 1, 0, 1, 0, 0, 1, 1, 0, 0, 1, 1, 1, 0, 0] (bodyOf Try.f47)), .blk 3, .blk 2, .code (ct [1, 1, 1, 0, 1, 0, 1, 0, 1, 0, 1, 0, 0, 1, 1, 1] (bodyOf Try.f47)), .lp (ct [1, 1, 1, 0, 1, 0, 1, 0, 1, 0, 1, 0, 0] (bodyOf Try.f47)), .blk 1, .code (ct [1, 1, 1, 0, 1, 0, 1, 0, 1, 1] (bodyOf Try.f47)), .blk 0, .code (ct [1, 1, 1, 1] (bodyOf Try.f47))] (gabionlaw16_tame_l1_I B0 x7 x31 x45 zb1 zb2 zb3 x4 x33 x46) L :=
  iter_ok (I := fun s => gabionlaw16_tame_l1_I B0 x7 x31 x45 zb1 zb2 zb3 s.1 s.2.1 s.2.2) (D := fun e => (∀ s, e = s → WXI Try.prog 113 n0 (Fin Try.prog Try.f47.results.toList n0 Q) [.code (ct [1, 1, 1, 0, 1, 0, 1, 0, 1, 0, 1, 0, 0, 1, 1, 1] (bodyOf Try.f47)), .lp (ct [1, 1, 1, 0, 1, 0, 1, 0, 1, 0, 1, 0, 0] (bodyOf Try.f47)), .blk 1, .code (ct [1, 1, 1, 0, 1, 0, 1, 0, 1, 1] (bodyOf Try.f47)), .blk 0, .code (ct [1, 1, 1, 1] (bodyOf Try.f47))] (gabionlaw16_tame_l1_X0 B0 s.1 x31 s.2 zb1 zb2 zb3) L)) (fun E hn hx s o ho hE => gabionlaw16_tame_l1_s ho hn (fun s hs => (hx _ hs) _ rfl)  hE) h g0
theorem gabionlaw16_tame_l0_s {B0 : Kn} {L : Own} {n0 : Nat} {x31 : List (Int × Int)} {zb1 : Int × Int × Int × (List (Int × Int)) × (List UInt8)} {zb2 : Int × Int × Int × (List (Int × Int)) × (List UInt8)} {zb3 : Int × Int × Int × (List (Int × Int)) × (List UInt8)} {x4 : List Int} {x33 : Int} {Q : AV → St → Prop} {E : ((List Int) × Int) ⊕ (List Int) → Prop} {o : ((List Int) × Int) ⊕ (List Int)} (h : gabionlaw16_tame_l0 x31 zb1 zb2 zb3 x4 x33 = some o) (hn : ∀ s, E (.inl s) → WXI Try.prog 113 n0 (Fin Try.prog Try.f47.results.toList n0 Q) [.lp (ct [1, 1, 1, 0, 1, 0, 1, 0, 1, 0, 1, 0, 0] (bodyOf Try.f47)), .blk 1, .code (ct [1, 1, 1, 0, 1, 0, 1, 0, 1, 1] (bodyOf Try.f47)), .blk 0, .code (ct [1, 1, 1, 1] (bodyOf Try.f47))] (gabionlaw16_tame_l0_I B0 x31 zb1 zb2 zb3 s.1 s.2) L) (hx0 : ∀ s, E (.inr s) → WXI Try.prog 113 n0 (Fin Try.prog Try.f47.results.toList n0 Q) [.code (ct [1, 1, 1, 0, 1, 0, 1, 0, 1, 1] (bodyOf Try.f47)), .blk 0, .code (ct [1, 1, 1, 1] (bodyOf Try.f47))] (gabionlaw16_tame_l0_X0 B0 s zb1 zb2 zb3) L) (hE : E o) : WXI Try.prog 113 n0 (Fin Try.prog Try.f47.results.toList n0 Q) [.code (ct [1, 1, 1, 0, 1, 0, 1, 0, 1, 0, 1, 0, 0] (bodyOf Try.f47)), .lp (ct [1, 1, 1, 0, 1, 0, 1, 0, 1, 0, 1, 0, 0] (bodyOf Try.f47)), .blk 1, .code (ct [1, 1, 1, 0, 1, 0, 1, 0, 1, 1] (bodyOf Try.f47)), .blk 0, .code (ct [1, 1, 1, 1] (bodyOf Try.f47))] (gabionlaw16_tame_l0_I B0 x31 zb1 zb2 zb3 x4 x33) L := by
  unfold gabionlaw16_tame_l0 at h
  rintro _ B _ ⟨hB, b9, v10, b11, v12, b12, n12, c12, b13, v14, b14, n14, c14, v15, b15, n15, c15, v16, h10, h12, h14, h15, h16, rfl, rfl⟩
  obtain ⟨_, _, _, _, _, rfl⟩ := h10.isl
  obtain ⟨_, _, _, _, _, rfl⟩ := h12.isl
  obtain ⟨_, _, _, _, _, rfl⟩ := h14.isl
  obtain ⟨_, _, _, _, _, rfl⟩ := h15.isl
  obtain ⟨_, _, _, _, _, rfl⟩ := h16.isl
  refine WX.seq ?_
  refine WX.reg ?_
  refine WO.q (.r fun _ => rfl) rfl rfl ?_
  refine WO.nil ?_
  refine WX.seq ?_
  rcases bsp (decide (x33 < (x31.length : Int))) with k17 | k17
  · have q_k17 := of_decide_eq_true k17
    replace h := (if_pos q_k17).symm.trans h
    refine WX.condT rfl k17 ?_
    refine WX.skip ?_
    refine WX.seq ?_
    refine WX.block ?_
    refine WX.seq ?_
    refine WX.reg ?_
    obtain ⟨y18, hy18, h⟩ := Option.bind_eq_some_iff.1 h
    obtain ⟨b_y18, o_y18, _, i_y18, p_y18, r_y18⟩ := h16.at sl40 hy18 .i64
    obtain ⟨_, _, rfl, rfl, rfl⟩ := r_y18
    refine WO.q (.ia i_y18) rfl rfl ?_
    refine WO.q (.lpA rfl p_y18 ti41 rfl rfl) rfl rfl ?_
    refine WO.md (MOp.alloc ti41 rfl) rfl rfl ?_
    rintro _ _ ⟨b19, rfl, rfl⟩
    refine WO.mn (MOp.storeW rfl (cA rfl) .h ti41 rfl rfl rfl) rfl ?_
    rintro _ _ rfl
    refine WO.nil ?_
    refine WX.seq ?_
    refine WX.reg ?_
    refine WO.q (.ia (ia41_0 _ _)) rfl rfl ?_
    refine WO.q (.ldS (i := 0) rfl rfl rfl ti3 rfl) rfl rfl ?_
    refine WO.q (.r fun _ => rfl) rfl rfl ?_
    refine WO.q (.r fun _ => rfl) rfl rfl ?_
    refine WO.q (.as (v := .int _ _) rfl) rfl rfl ?_
    refine WO.nil ?_
    refine WX.seq ?_
    refine WX.reg ?_
    refine WO.q (.ia (ia41_1 _ _)) rfl rfl ?_
    refine WO.q (.ldS (i := 0) rfl rfl rfl ti3 rfl) rfl rfl ?_
    refine WO.q (.r fun _ => rfl) rfl rfl ?_
    refine WO.q (.r fun _ => rfl) rfl rfl ?_
    refine WO.q (.r fun _ => rfl) rfl rfl ?_
    refine WO.q (.mv (v := .int _ _) rfl) rfl rfl ?_
    refine WO.nil ?_
    refine WX.block ?_
    refine WX.loop ?_
    obtain ⟨e64, he64, h⟩ := Option.bind_eq_some_iff.1 h
    refine WX.keep [1, 2, 3, 4, 7, 31, 32, 33, 45, 46] (WX.pk [1, 2, 3, 4, 5, 6] (by decide) ?_) rfl
    refine gabionlaw16_tame_l1_ok he64 ?_ _ _ _ ⟨hB, _, _, _, _, _, n12, _, _, _, _, n14, _, _, _, n15, _, _, h10, h12, h14, h15, h16, rfl, rfl⟩
    · intro s73 he_
      subst he_
      replace h := h
      rintro _ B _ ⟨hB, b65, v66, b67, v68, b68, n68, c68, b69, v70, b70, n70, c70, v71, b71, n71, c71, v72, h66, h68, h70, h71, h72, rfl, rfl⟩
      obtain ⟨_, _, _, _, _, rfl⟩ := h66.isl
      obtain ⟨_, _, _, _, _, rfl⟩ := h68.isl
      obtain ⟨_, _, _, _, _, rfl⟩ := h70.isl
      obtain ⟨_, _, _, _, _, rfl⟩ := h71.isl
      obtain ⟨_, _, _, _, _, rfl⟩ := h72.isl
      refine WX.reg ?_
      refine WO.q (.r fun _ => rfl) rfl rfl ?_
      refine WO.q (.mv (v := .int _ _) rfl) rfl rfl ?_
      refine WO.nil ?_
      refine WX.keepL [1, 2, 3, 4, 31, 32, 33] (WX.pk [0, 1, 2, 3, 4, 5] (by decide) ?_) rfl
      obtain rfl := Option.some.inj h
      exact hn _ hE _ _ _ ⟨hB, _, _, _, _, _, n68, _, _, _, _, n70, _, _, _, n71, _, _, h66, h68, h70, h71, h72, rfl, rfl⟩
  · have q_k17 := of_decide_eq_false k17
    replace h := (if_neg q_k17).symm.trans h
    refine WX.condF rfl k17 ?_
    refine WX.exit rfl ?_
    refine WX.keep [1, 2, 3, 4] (WX.pk [0, 1, 2, 3, 4, 5] (by decide) ?_) rfl
    obtain rfl := Option.some.inj h
    exact hx0 _ hE _ _ _ ⟨hB, _, _, _, _, _, n12, _, _, _, _, n14, _, _, _, n15, _, h10, h12, h14, h15, rfl, rfl⟩
theorem gabionlaw16_tame_l0_ok {B0 : Kn} {L : Own} {n0 : Nat} {x31 : List (Int × Int)} {zb1 : Int × Int × Int × (List (Int × Int)) × (List UInt8)} {zb2 : Int × Int × Int × (List (Int × Int)) × (List UInt8)} {zb3 : Int × Int × Int × (List (Int × Int)) × (List UInt8)} {x4 : List Int} {x33 : Int} {Q : AV → St → Prop} {d : Nat} {e : (List Int)} (h : iter (fun (s : (List Int) × Int) => gabionlaw16_tame_l0 x31 zb1 zb2 zb3 s.1 s.2) d (x4, x33) = some e) (g0 : ∀ s, e = s → WXI Try.prog 113 n0 (Fin Try.prog Try.f47.results.toList n0 Q) [.code (ct [1, 1, 1, 0, 1, 0, 1, 0, 1, 1] (bodyOf Try.f47)), .blk 0, .code (ct [1, 1, 1, 1] (bodyOf Try.f47))] (gabionlaw16_tame_l0_X0 B0 s zb1 zb2 zb3) L) : WXI Try.prog 113 n0 (Fin Try.prog Try.f47.results.toList n0 Q) [.code (ct [1, 1, 1, 0, 1, 0, 1, 0, 1, 0, 1, 0, 0] (bodyOf Try.f47)), .lp (ct [1, 1, 1, 0, 1, 0, 1, 0, 1, 0, 1, 0, 0] (bodyOf Try.f47)), .blk 1, .code (ct [1, 1, 1, 0, 1, 0, 1, 0, 1, 1] (bodyOf Try.f47)), .blk 0, .code (ct [1, 1, 1, 1] (bodyOf Try.f47))] (gabionlaw16_tame_l0_I B0 x31 zb1 zb2 zb3 x4 x33) L :=
  iter_ok (I := fun s => gabionlaw16_tame_l0_I B0 x31 zb1 zb2 zb3 s.1 s.2) (D := fun e => (∀ s, e = s → WXI Try.prog 113 n0 (Fin Try.prog Try.f47.results.toList n0 Q) [.code (ct [1, 1, 1, 0, 1, 0, 1, 0, 1, 1] (bodyOf Try.f47)), .blk 0, .code (ct [1, 1, 1, 1] (bodyOf Try.f47))] (gabionlaw16_tame_l0_X0 B0 s zb1 zb2 zb3) L)) (fun E hn hx s o ho hE => gabionlaw16_tame_l0_s ho hn (fun s hs => (hx _ hs) _ rfl)  hE) h g0
theorem gabionlaw16_tame_l2_s {B0 : Kn} {L : Own} {n0 : Nat} {x81 : Int} {zb1 : Int × Int × Int × (List (Int × Int)) × (List UInt8)} {zb2 : Int × Int × Int × (List (Int × Int)) × (List UInt8)} {x82 : Int} {zb3 : Int × Int × Int × (List (Int × Int)) × (List UInt8)} {Q : AV → St → Prop} {E : (Int × (Int × Int × Int × (List (Int × Int)) × (List UInt8))) ⊕ (Int × Int × Int × (List (Int × Int)) × (List UInt8)) → Prop} {o : (Int × (Int × Int × Int × (List (Int × Int)) × (List UInt8))) ⊕ (Int × Int × Int × (List (Int × Int)) × (List UInt8))} (h : gabionlaw16_tame_l2 x81 zb1 zb2 x82 zb3 = some o) (hn : ∀ s, E (.inl s) → WXI Try.prog 113 n0 (Fin Try.prog Try.f47.results.toList n0 Q) [.lp (ct [1, 1, 1, 0, 1, 0, 1, 1, 1, 0, 0, 1, 0, 0] (bodyOf Try.f47)), .blk 5, .code (ct [1, 1, 1, 0, 1, 0, 1, 1, 1, 0, 1] (bodyOf Try.f47)), .blk 0, .code (ct [1, 1, 1, 1] (bodyOf Try.f47))] (gabionlaw16_tame_l2_I B0 x81 zb1 zb2 s.1 s.2) L) (hx0 : ∀ s, E (.inr s) → WXI Try.prog 113 n0 (Fin Try.prog Try.f47.results.toList n0 Q) [.code (ct [1, 1, 1, 0, 1, 0, 1, 1, 1, 0, 1] (bodyOf Try.f47)), .blk 0, .code (ct [1, 1, 1, 1] (bodyOf Try.f47))] (gabionlaw16_tame_l2_X0 B0 zb2 s) L) (hE : E o) : WXI Try.prog 113 n0 (Fin Try.prog Try.f47.results.toList n0 Q) [.code (ct [1, 1, 1, 0, 1, 0, 1, 1, 1, 0, 0, 1, 0, 0] (bodyOf Try.f47)), .lp (ct [1, 1, 1, 0, 1, 0, 1, 1, 1, 0, 0, 1, 0, 0] (bodyOf Try.f47)), .blk 5, .code (ct [1, 1, 1, 0, 1, 0, 1, 1, 1, 0, 1] (bodyOf Try.f47)), .blk 0, .code (ct [1, 1, 1, 1] (bodyOf Try.f47))] (gabionlaw16_tame_l2_I B0 x81 zb1 zb2 x82 zb3) L := by
  unfold gabionlaw16_tame_l2 at h
  rintro _ B _ ⟨hB, b99, v100, b101, v102, b102, n102, c102, b103, v104, b104, n104, c104, h100, h102, h104, rfl, rfl⟩
  obtain ⟨_, _, _, _, _, rfl⟩ := h100.isl
  obtain ⟨_, _, _, _, _, rfl⟩ := h102.isl
  obtain ⟨_, _, _, _, _, rfl⟩ := h104.isl
  refine WX.seq ?_
  refine WX.reg ?_
  refine WO.q (.r fun _ => rfl) rfl rfl ?_
  refine WO.nil ?_
  refine WX.seq ?_
  rcases bsp (decide (x82 < x81)) with k105 | k105
  · have q_k105 := of_decide_eq_true k105
    replace h := (if_pos q_k105).symm.trans h
    refine WX.condT rfl k105 ?_
    refine WX.skip ?_
    refine WX.seq ?_
    refine WX.block ?_
    refine WX.seq ?_
    refine WX.reg ?_
    refine WO.q (.mv (v := .int _ _) rfl) rfl rfl ?_
    refine WO.q (.as (v := .int _ _) rfl) rfl rfl ?_
    refine WO.nil ?_
    refine WX.drw (Plan.of [0, 1, 2, 3, 4, 5, 6, 7, 8, 9, 10, 11, 12] .nil) _ mixed (by kernel_rfl) rfl (pk_sub [0, 1, 2, 3, 4]) ?_
    refine WP.q (i := 0) rfl (.fa (fa81_4 _ _)) rfl rfl rfl ?_
    refine WP.q (i := 1) rfl (.ldS (i := 2) rfl rfl rfl ti9 rfl) rfl rfl rfl ?_
    refine WP.q (i := 2) rfl (.fa (fa81_4 _ _)) rfl rfl rfl ?_
    refine WP.q (i := 3) rfl (.ldS (i := 0) rfl rfl rfl ti9 rfl) rfl rfl rfl ?_
    refine WP.q (i := 4) rfl (.mv (v := .int _ _) rfl) rfl rfl rfl ?_
    obtain ⟨y106, hy106, h⟩ := Option.bind_eq_some_iff.1 h
    refine WP.q (i := 5) rfl (.ix (evsix ti9 rfl hy106 _)) rfl rfl rfl ?_
    refine WP.q (i := 6) rfl (.r fun _ => rfl) rfl rfl rfl ?_
    refine WP.q (i := 7) rfl (.r fun _ => rfl) rfl rfl rfl ?_
    refine WP.md (i := 8) rfl (MOp.bs (l := ([(wu8 (1 + (Int.tmod (y106.toNat : Int) 255)))] : List Int)) sl32 (RL.cons Ri RL.nil) (lb rfl) rfl rfl) rfl rfl rfl ?_
    rintro v109 _ ⟨b107, o108, rfl⟩
    obtain ⟨_, _, _, _, _, rfl⟩ := o108.isl
    refine ⟨fun e he _ => pk_in (jx := [1, 2, 3, 4, 5]) rfl e he, ?_⟩
    refine WP.md (i := 9) rfl (MOp.ofQ (v := .str _) (cvBo (j := 0) ⟨_, _, _, ti32, rfl, ti5, rfl⟩ ti9 rfl o108 rfl rfl)) rfl rfl rfl ?_
    rintro _ _ ⟨rfl, rfl⟩
    refine ⟨fun e he _ => pk_in (jx := [1, 2, 3, 4, 5]) rfl e he, ?_⟩
    obtain ⟨y111, hy111, h⟩ := Option.bind_eq_some_iff.1 h
    refine WP.q (i := 10) rfl (.bin (evcat hy111)) rfl rfl rfl ?_
    refine WP.q (i := 11) rfl (.fa (fa81_4 _ _)) rfl rfl rfl ?_
    refine WP.msn (i := 12) rfl (MOp.store (cs' := [.int .u8 zb3.1, .int .i64 zb3.2.1, .int .i64 zb3.2.2.1, _, .str y111]) rfl (cS rfl) (.t (.t (.t .h))) ti9 rfl rfl (lb rfl) rfl) rfl (by kernel_rfl) rfl ?_
    rintro _ _ rfl
    refine WS.nil ?_
    refine WX.pop ?_
    refine WX.reg ?_
    refine WO.q (.r fun _ => rfl) rfl rfl ?_
    refine WO.q (.mv (v := .int _ _) rfl) rfl rfl ?_
    refine WO.nil ?_
    refine WX.keepL [1, 2, 3, 81, 82] (WX.pk [1, 2, 3, 4, 5] (by decide) ?_) rfl
    obtain rfl := Option.some.inj h
    exact hn _ hE _ _ _ ⟨hB, _, _, _, _, _, n102, _, _, _, _, n104, _, h100, h102, h104, rfl, rfl⟩
  · have q_k105 := of_decide_eq_false k105
    replace h := (if_neg q_k105).symm.trans h
    refine WX.condF rfl k105 ?_
    refine WX.exit rfl ?_
    refine WX.keep [2, 3] (WX.pk [1, 2, 3, 4] (by decide) ?_) rfl
    obtain rfl := Option.some.inj h
    exact hx0 _ hE _ _ _ ⟨hB, _, _, _, n102, _, _, _, _, n104, _, h102, h104, rfl, rfl⟩
theorem gabionlaw16_tame_l2_ok {B0 : Kn} {L : Own} {n0 : Nat} {x81 : Int} {zb1 : Int × Int × Int × (List (Int × Int)) × (List UInt8)} {zb2 : Int × Int × Int × (List (Int × Int)) × (List UInt8)} {x82 : Int} {zb3 : Int × Int × Int × (List (Int × Int)) × (List UInt8)} {Q : AV → St → Prop} {d : Nat} {e : (Int × Int × Int × (List (Int × Int)) × (List UInt8))} (h : iter (fun (s : Int × (Int × Int × Int × (List (Int × Int)) × (List UInt8))) => gabionlaw16_tame_l2 x81 zb1 zb2 s.1 s.2) d (x82, zb3) = some e) (g0 : ∀ s, e = s → WXI Try.prog 113 n0 (Fin Try.prog Try.f47.results.toList n0 Q) [.code (ct [1, 1, 1, 0, 1, 0, 1, 1, 1, 0, 1] (bodyOf Try.f47)), .blk 0, .code (ct [1, 1, 1, 1] (bodyOf Try.f47))] (gabionlaw16_tame_l2_X0 B0 zb2 s) L) : WXI Try.prog 113 n0 (Fin Try.prog Try.f47.results.toList n0 Q) [.code (ct [1, 1, 1, 0, 1, 0, 1, 1, 1, 0, 0, 1, 0, 0] (bodyOf Try.f47)), .lp (ct [1, 1, 1, 0, 1, 0, 1, 1, 1, 0, 0, 1, 0, 0] (bodyOf Try.f47)), .blk 5, .code (ct [1, 1, 1, 0, 1, 0, 1, 1, 1, 0, 1] (bodyOf Try.f47)), .blk 0, .code (ct [1, 1, 1, 1] (bodyOf Try.f47))] (gabionlaw16_tame_l2_I B0 x81 zb1 zb2 x82 zb3) L :=
  iter_ok (I := fun s => gabionlaw16_tame_l2_I B0 x81 zb1 zb2 s.1 s.2) (D := fun e => (∀ s, e = s → WXI Try.prog 113 n0 (Fin Try.prog Try.f47.results.toList n0 Q) [.code (ct [1, 1, 1, 0, 1, 0, 1, 1, 1, 0, 1] (bodyOf Try.f47)), .blk 0, .code (ct [1, 1, 1, 1] (bodyOf Try.f47))] (gabionlaw16_tame_l2_X0 B0 zb2 s) L)) (fun E hn hx s o ho hE => gabionlaw16_tame_l2_s ho hn (fun s hs => (hx _ hs) _ rfl)  hE) h g0
theorem gabionlaw16_tame_ok {B0 : Kn} {L : Own} {a0 : Int × Int × Int × (List (Int × Int)) × (List UInt8)} {v0_0 : AV} {r : (Int × Int × Int × (List (Int × Int)) × (List UInt8))} (g0_0 : RSl EPIi64Ii64Q B0 v0_0 a0.2.2.2.1) (h : gabionlaw16_tame a0 = some r) : ∀ st, Hp B0 L st → ASpec Try.prog 47 [.agg [.int .u8 a0.1, .int .i64 a0.2.1, .int .i64 a0.2.2.1, v0_0, .str a0.2.2.2.2]] st (gabionlaw16_tame_P B0 L r) := by
  unfold gabionlaw16_tame at h
  refine bodyA (A := []) Try.func47 rfl (c := bodyOf Try.f47) rfl Try.ntmps47 (lb rfl) fun n0 => ?_
  have hB := KLe.refl B0
  obtain ⟨_, _, _, _, _, rfl⟩ := g0_0.isl
  refine WX.seq ?_
  refine WX.reg ?_
  refine WO.md (MOp.box (cA rfl)) rfl rfl ?_
  rintro _ _ ⟨b1, rfl, rfl⟩
  refine WO.md (MOp.alloc ti81 rfl) rfl rfl ?_
  rintro _ _ ⟨b2, rfl, rfl⟩
  refine WO.nil ?_
  refine WX.seq ?_
  refine WX.reg ?_
  refine WO.q (.ldA (i := 1) rfl rfl rfl ti81 rfl) rfl rfl ?_
  obtain ⟨y3, hy3, h⟩ := Option.bind_eq_some_iff.1 h
  refine WO.c0 rfl rfl (gabionlaw16_cut_ok g0_0 hy3) rfl rfl rfl ?_
  rintro _ B hK ⟨v4, rfl, h5⟩
  obtain ⟨_, _, _, _, _, rfl⟩ := h5.isl
  replace g0_0 := g0_0.up hK
  replace hB := hB.trans hK
  refine WO.mn (MOp.storeW rfl (cA rfl) (.t .h) ti81 rfl rfl rfl) rfl ?_
  rintro _ _ rfl
  refine WO.nil ?_
  refine WX.seq ?_
  refine WX.reg ?_
  refine WO.q (.fa (fa81_0 _ _)) rfl rfl ?_
  refine WO.q (.ldS (i := 1) rfl rfl rfl ti5 rfl) rfl rfl ?_
  refine WO.q (.r fun _ => rfl) rfl rfl ?_
  refine WO.q (.r fun _ => rfl) rfl rfl ?_
  refine WO.q (.fa (fa81_1 _ _)) rfl rfl ?_
  refine WO.q (.ldS (i := 1) rfl rfl rfl ti3 rfl) rfl rfl ?_
  refine WO.q (.r fun _ => rfl) rfl rfl ?_
  refine WO.q (.r fun _ => rfl) rfl rfl ?_
  refine WO.q (.bd (bd81_0_1 (cI rfl) (cI rfl))) rfl rfl ?_
  refine WO.md (MOp.alloc ti81 rfl) rfl rfl ?_
  rintro _ _ ⟨b6, rfl, rfl⟩
  refine WO.mn (MOp.storeW rfl (cA rfl) .h ti81 rfl rfl rfl) rfl ?_
  rintro _ _ rfl
  refine WO.nil ?_
  refine WX.seq ?_
  refine WX.seq ?_
  refine WX.reg ?_
  refine WO.q (.fa (fa81_0 _ _)) rfl rfl ?_
  refine WO.q (.ldS (i := 0) rfl rfl rfl ti5 rfl) rfl rfl ?_
  refine WO.nil ?_
  refine WX.block ?_
  refine WX.seq ?_
  refine WX.reg ?_
  refine WO.q (.r fun _ => rfl) rfl rfl ?_
  refine WO.q (.as (v := .bool _) rfl) rfl rfl ?_
  refine WO.nil ?_
  rcases bsp (decide ((wu8 (1 + (Int.tmod y3.1 3))) = 1)) with k7 | k7
  · have q_k7 := of_decide_eq_true k7
    replace h := (if_pos q_k7).symm.trans h
    refine WX.condT rfl k7 ?_
    refine WX.seq ?_
    refine WX.reg ?_
    refine WO.q (.as (v := .sl _ _ _ _ _ _) rfl) rfl rfl ?_
    refine WO.nil ?_
    refine WX.seq ?_
    refine WX.seq ?_
    refine WX.reg ?_
    refine WO.q (.fa (fa81_3 _ _)) rfl rfl ?_
    refine WO.q (.ldS (i := 2) rfl rfl rfl ti40 rfl) rfl rfl ?_
    refine WO.q (.fa (fa81_3 _ _)) rfl rfl ?_
    refine WO.q (.ldS (i := 2) rfl rfl rfl ti40 rfl) rfl rfl ?_
    refine WO.q (.len rfl rfl rfl (sl40.len h5.isl)) rfl rfl ?_
    refine WO.q (.r fun _ => rfl) rfl rfl ?_
    obtain ⟨y8, hy8, h⟩ := Option.bind_eq_some_iff.1 h
    obtain ⟨v_y8, e_y8, g_y8⟩ := h5.cut sl40 hy8 (lo := none) (hi := some (.int .i64 (mn (y3.2.2.2.1.length : Int) 10))) bnd_none (bnd_int (Int.le_trans (cutL_some hy8).1.1 (cutL_some hy8).1.2.1))
    obtain ⟨_, _, _, _, _, rfl⟩ := g_y8.isl
    refine WO.q (.sl e_y8) rfl rfl ?_
    refine WO.q (.len rfl rfl rfl (sl40.len g_y8.isl)) rfl rfl ?_
    refine WO.q (.mv (v := .int _ _) rfl) rfl rfl ?_
    refine WO.nil ?_
    refine WX.block ?_
    refine WX.loop ?_
    obtain ⟨e81, he81, h⟩ := Option.bind_eq_some_iff.1 h
    refine WX.keep [1, 2, 3, 4, 31, 32, 33] (WX.pk [2, 1, 0] (by decide) (WX.addn [3, 4, 5] ?_)) rfl
    refine gabionlaw16_tame_l0_ok he81 ?_ _ _ _ ⟨hB, _, _, _, _, 0, true, [], _, _, 0, true, [], _, 0, true, [], _, h5, OSl.none _ _, OSl.none _ _, OSl.none _ _, g_y8, rfl, rfl⟩
    · intro s97 he_
      subst he_
      replace h := h
      rintro _ B _ ⟨hB, b82, v83, b84, v85, b85, n85, c85, b86, v87, b87, n87, c87, v88, b88, n88, c88, h83, h85, h87, h88, rfl, rfl⟩
      obtain ⟨_, _, _, _, _, rfl⟩ := h83.isl
      obtain ⟨_, _, _, _, _, rfl⟩ := h85.isl
      obtain ⟨_, _, _, _, _, rfl⟩ := h87.isl
      obtain ⟨_, _, _, _, _, rfl⟩ := h88.isl
      refine WX.seq ?_
      refine WX.reg ?_
      refine WO.q (.mv (v := .sl _ _ _ _ _ _) rfl) rfl rfl ?_
      refine WO.fz (j := 5) h88 rfl ?_
      intro B hK g89
      replace h83 := h83.up hK
      replace h85 := h85.up hK
      replace h87 := h87.up hK
      replace hB := hB.trans hK
      obtain ⟨y90, hy90, h⟩ := Option.bind_eq_some_iff.1 h
      refine WO.c1 rfl rfl (gabionref15_Runs_ok g89 hy90) rfl rfl rfl ?_
      rintro _ B _ hK ⟨v91, b92, n93, c94, rfl, rfl, h95⟩
      obtain ⟨_, _, _, _, _, rfl⟩ := h95.isl
      replace g89 := g89.up hK
      replace h83 := h83.up hK
      replace h85 := h85.up hK
      replace h87 := h87.up hK
      replace hB := hB.trans hK
      refine WO.q (.fa (fa81_3 _ _)) rfl rfl ?_
      refine WO.mn (MOp.store (cs' := [.int .u8 ((((wu8 (1 + (Int.tmod y3.1 3))), (Int.tmod (mx 0 y3.2.1) 1001), 0, [], ([] : List UInt8)) : Int × Int × Int × (List (Int × Int)) × (List UInt8)).1), .int .i64 ((((wu8 (1 + (Int.tmod y3.1 3))), (Int.tmod (mx 0 y3.2.1) 1001), 0, [], ([] : List UInt8)) : Int × Int × Int × (List (Int × Int)) × (List UInt8)).2.1), .int .i64 ((((wu8 (1 + (Int.tmod y3.1 3))), (Int.tmod (mx 0 y3.2.1) 1001), 0, [], ([] : List UInt8)) : Int × Int × Int × (List (Int × Int)) × (List UInt8)).2.2.1), _, .str ((((wu8 (1 + (Int.tmod y3.1 3))), (Int.tmod (mx 0 y3.2.1) 1001), 0, [], ([] : List UInt8)) : Int × Int × Int × (List (Int × Int)) × (List UInt8)).2.2.2.2)]) rfl (cL rfl) (.t (.t (.t .h))) ti40 rfl rfl (lb rfl) rfl) rfl ?_
      rintro _ _ rfl
      refine WO.nil ?_
      refine WX.seq ?_
      refine WX.reg ?_
      refine WO.q (.mv (v := .sl _ _ _ _ _ _) rfl) rfl rfl ?_
      refine WO.q (.len rfl rfl rfl (sl22.len g89.isl)) rfl rfl ?_
      refine WO.q (.r fun _ => rfl) rfl rfl ?_
      refine WO.nil ?_
      rcases bsp (decide (0 < (e81.length : Int))) with k96 | k96
      · have q_k96 := of_decide_eq_true k96
        replace h := (if_pos q_k96).symm.trans h
        refine WX.condT rfl k96 ?_
        refine WX.reg ?_
        refine WO.q (.mv (v := .sl _ _ _ _ _ _) rfl) rfl rfl ?_
        refine WO.q (.len rfl rfl rfl (sl22.len g89.isl)) rfl rfl ?_
        refine WO.q (.r fun _ => rfl) rfl rfl ?_
        refine WO.q (.fa (fa81_2 _ _)) rfl rfl ?_
        refine WO.q (.ldS (i := 1) rfl rfl rfl ti3 rfl) rfl rfl ?_
        refine WO.q (.r fun _ => rfl) rfl rfl ?_
        refine WO.q (.r fun _ => rfl) rfl rfl ?_
        refine WO.q (.r fun _ => rfl) rfl rfl ?_
        refine WO.q (.fa (fa81_2 _ _)) rfl rfl ?_
        refine WO.mn (MOp.store (cs' := [.int .u8 ((((wu8 (1 + (Int.tmod y3.1 3))), (Int.tmod (mx 0 y3.2.1) 1001), 0, [], ([] : List UInt8)) : Int × Int × Int × (List (Int × Int)) × (List UInt8)).1), .int .i64 ((((wu8 (1 + (Int.tmod y3.1 3))), (Int.tmod (mx 0 y3.2.1) 1001), 0, [], ([] : List UInt8)) : Int × Int × Int × (List (Int × Int)) × (List UInt8)).2.1), .int .i64 (wi64 ((wi64 (64 * (e81.length : Int))) - (Int.tmod (mx 0 y3.2.2.1) 64))), _, .str ((((wu8 (1 + (Int.tmod y3.1 3))), (Int.tmod (mx 0 y3.2.1) 1001), 0, [], ([] : List UInt8)) : Int × Int × Int × (List (Int × Int)) × (List UInt8)).2.2.2.2)]) rfl (cI rfl) (.t (.t (.t .h))) ti3 rfl rfl (lb rfl) rfl) rfl ?_
        rintro _ _ rfl
        refine WO.nil ?_
        refine WX.pop ?_
        refine WX.seq ?_
        refine WX.reg ?_
        refine WO.q (.ldA (i := 3) rfl rfl rfl ti81 rfl) rfl rfl ?_
        refine WO.mn (MOp.storeW rfl (cA rfl) (.t (.t .h)) ti81 rfl rfl rfl) rfl ?_
        rintro _ _ rfl
        refine WO.nil ?_
        obtain rfl := Option.some.inj h
        exact WX.ret (rs_ (rs_cell (.ldA (i := 2) rfl rfl rfl ti81 rfl) rs_nil)) fun st hp => ⟨_, _, hB, (hp.pk [0] (by decide)), _, _, n93, _, rfl, rfl, h95⟩
      · have q_k96 := of_decide_eq_false k96
        replace h := (if_neg q_k96).symm.trans h
        refine WX.condF rfl k96 ?_
        refine WX.skip ?_
        refine WX.pop ?_
        refine WX.seq ?_
        refine WX.reg ?_
        refine WO.q (.ldA (i := 3) rfl rfl rfl ti81 rfl) rfl rfl ?_
        refine WO.mn (MOp.storeW rfl (cA rfl) (.t (.t .h)) ti81 rfl rfl rfl) rfl ?_
        rintro _ _ rfl
        refine WO.nil ?_
        obtain rfl := Option.some.inj h
        exact WX.ret (rs_ (rs_cell (.ldA (i := 2) rfl rfl rfl ti81 rfl) rs_nil)) fun st hp => ⟨_, _, hB, (hp.pk [0] (by decide)), _, _, n93, _, rfl, rfl, h95⟩
  · have q_k7 := of_decide_eq_false k7
    replace h := (if_neg q_k7).symm.trans h
    refine WX.condF rfl k7 ?_
    refine WX.seq ?_
    refine WX.reg ?_
    refine WO.q (.r fun _ => rfl) rfl rfl ?_
    refine WO.q (.as (v := .bool _) rfl) rfl rfl ?_
    refine WO.nil ?_
    rcases bsp (decide ((wu8 (1 + (Int.tmod y3.1 3))) = 3)) with k98 | k98
    · have q_k98 := of_decide_eq_true k98
      replace h := (if_pos q_k98).symm.trans h
      refine WX.condT rfl k98 ?_
      refine WX.seq ?_
      refine WX.seq ?_
      refine WX.reg ?_
      refine WO.q (.fa (fa81_4 _ _)) rfl rfl ?_
      refine WO.q (.ldS (i := 2) rfl rfl rfl ti9 rfl) rfl rfl ?_
      refine WO.q (.len rfl rfl rfl (evslen ti9 rfl _)) rfl rfl ?_
      refine WO.q (.mv (v := .int _ _) rfl) rfl rfl ?_
      refine WO.nil ?_
      refine WX.block ?_
      refine WX.loop ?_
      obtain ⟨e116, he116, h⟩ := Option.bind_eq_some_iff.1 h
      refine WX.keep [1, 2, 3, 81, 82] (WX.pk [2, 1, 0] (by decide) (WX.addn [3, 4] ?_)) rfl
      refine gabionlaw16_tame_l2_ok he116 ?_ _ _ _ ⟨hB, _, _, _, _, 0, true, [], _, _, 0, true, [], h5, OSl.none _ _, OSl.none _ _, rfl, rfl⟩
      · intro s123 he_
        subst he_
        replace h := h
        rintro _ B _ ⟨hB, b117, v118, b118, n118, c118, b119, v120, b120, n120, c120, h118, h120, rfl, rfl⟩
        obtain ⟨_, _, _, _, _, rfl⟩ := h118.isl
        obtain ⟨_, _, _, _, _, rfl⟩ := h120.isl
        refine WX.seq ?_
        refine WX.reg ?_
        refine WO.q (.fa (fa81_4 _ _)) rfl rfl ?_
        refine WO.q (.ldS (i := 1) rfl rfl rfl ti9 rfl) rfl rfl ?_
        obtain ⟨y121, hy121, h⟩ := Option.bind_eq_some_iff.1 h
        refine WO.q (.bin (evcat hy121)) rfl rfl ?_
        refine WO.q (.fa (fa81_4 _ _)) rfl rfl ?_
        refine WO.q (.ldS (i := 1) rfl rfl rfl ti9 rfl) rfl rfl ?_
        refine WO.q (.len rfl rfl rfl (evslen ti9 rfl _)) rfl rfl ?_
        refine WO.q (.r fun _ => rfl) rfl rfl ?_
        refine WO.q (.r fun _ => rfl) rfl rfl ?_
        obtain ⟨y122, hy122, h⟩ := Option.bind_eq_some_iff.1 h
        refine WO.q (.sl (evscut ti9 rfl hy122 bnd_none (bnd_int (Int.le_trans (cutL_some hy122).1.1 (cutL_some hy122).1.2.1)))) rfl rfl ?_
        refine WO.q (.fa (fa81_4 _ _)) rfl rfl ?_
        refine WO.mn (MOp.store (cs' := [.int .u8 e116.1, .int .i64 e116.2.1, .int .i64 e116.2.2.1, _, .str y122]) rfl (cS rfl) (.t .h) ti9 rfl rfl (lb rfl) rfl) rfl ?_
        rintro _ _ rfl
        refine WO.nil ?_
        refine WX.reg ?_
        refine WO.q (.fa (fa81_4 _ _)) rfl rfl ?_
        refine WO.q (.ldS (i := 1) rfl rfl rfl ti9 rfl) rfl rfl ?_
        refine WO.q (.len rfl rfl rfl (evslen ti9 rfl _)) rfl rfl ?_
        refine WO.q (.fa (fa81_2 _ _)) rfl rfl ?_
        refine WO.mn (MOp.store (cs' := [.int .u8 e116.1, .int .i64 e116.2.1, .int .i64 (y122.length : Int), _, .str y122]) rfl (cI rfl) (.t .h) ti3 rfl rfl (lb rfl) rfl) rfl ?_
        rintro _ _ rfl
        refine WO.nil ?_
        refine WX.pop ?_
        refine WX.seq ?_
        refine WX.reg ?_
        refine WO.q (.ldA (i := 1) rfl rfl rfl ti81 rfl) rfl rfl ?_
        refine WO.mn (MOp.storeW rfl (cA rfl) .h ti81 rfl rfl rfl) rfl ?_
        rintro _ _ rfl
        refine WO.nil ?_
        obtain rfl := Option.some.inj h
        exact WX.ret (rs_ (rs_cell (.ldA (i := 0) rfl rfl rfl ti81 rfl) rs_nil)) fun st hp => ⟨_, _, hB, (hp.pk [3] (by decide)), _, _, n120, _, rfl, rfl, h120⟩
    · have q_k98 := of_decide_eq_false k98
      replace h := (if_neg q_k98).symm.trans h
      refine WX.condF rfl k98 ?_
      refine WX.skip ?_
      refine WX.pop ?_
      refine WX.seq ?_
      refine WX.reg ?_
      refine WO.q (.ldA (i := 0) rfl rfl rfl ti81 rfl) rfl rfl ?_
      refine WO.mn (MOp.storeW rfl (cA rfl) (.t .h) ti81 rfl rfl rfl) rfl ?_
      rintro _ _ rfl
      refine WO.nil ?_
      obtain rfl := Option.some.inj h
      exact WX.ret (rs_ (rs_cell (.ldA (i := 1) rfl rfl rfl ti81 rfl) rs_nil)) fun st hp => ⟨_, _, hB, ((hp.pk [] (by decide)).skip 0), _, 0, true, [], rfl, rfl, OSl.none _ _⟩
def gabionlaw16_of_P (B : Kn) (L : Own) (r : (Int × Int × Int × (List (Int × Int)) × (List UInt8))) : AV → St → Prop := C1 B L fun B' v e0 => ∃ w0 b0 n0 c0, v = .agg [.int .u8 r.1, .int .i64 r.2.1, .int .i64 r.2.2.1, w0, .str r.2.2.2.2] ∧ e0 = oe b0 n0 c0 ∧ OSl EPIi64Ii64Q B' w0 b0 n0 c0 r.2.2.2.1
def gabionlaw16_of_l0_I (B0 : Kn) (x16 : List (Int × Int)) (zb2 : Int × Int × Int × (List (Int × Int)) × (List UInt8)) (x18 : Int) (zb3 : Int × Int × Int × (List (Int × Int)) × (List UInt8)) : Fr → Kn → Own → Prop := fun fr B A => KLe B0 B ∧ ∃ b4 v5 b5 n5 c5 b6 v7 b7 n7 c7 v8, OSl EPIi64Ii64Q B v5 b5 n5 c5 zb2.2.2.2.1 ∧ OSl EPIi64Ii64Q B v7 b7 n7 c7 zb3.2.2.2.1 ∧ RSl EPIi64Ii64Q B v8 x16 ∧ fr = [(2, .ptr b4 0), (3, .ptr b6 0), (16, v8), (17, .int .i64 (x16.length : Int)), (18, .int .i64 x18)] ∧ A = [(b4, some [.int .u8 zb2.1, .int .i64 zb2.2.1, .int .i64 zb2.2.2.1, v5, .str zb2.2.2.2.2]), (b6, some [.int .u8 zb3.1, .int .i64 zb3.2.1, .int .i64 zb3.2.2.1, v7, .str zb3.2.2.2.2]), oe b5 n5 c5, oe b7 n7 c7]
def gabionlaw16_of_l0_X0 (B0 : Kn) (zb2 : Int × Int × Int × (List (Int × Int)) × (List UInt8)) (zb3 : Int × Int × Int × (List (Int × Int)) × (List UInt8)) : Fr → Kn → Own → Prop := fun fr B A => KLe B0 B ∧ ∃ b31 v32 b32 n32 c32 b33 v34 b34 n34 c34, OSl EPIi64Ii64Q B v32 b32 n32 c32 zb2.2.2.2.1 ∧ OSl EPIi64Ii64Q B v34 b34 n34 c34 zb3.2.2.2.1 ∧ fr = [(2, .ptr b31 0), (3, .ptr b33 0)] ∧ A = [(b31, some [.int .u8 zb2.1, .int .i64 zb2.2.1, .int .i64 zb2.2.2.1, v32, .str zb2.2.2.2.2]), (b33, some [.int .u8 zb3.1, .int .i64 zb3.2.1, .int .i64 zb3.2.2.1, v34, .str zb3.2.2.2.2]), oe b32 n32 c32, oe b34 n34 c34]
theorem gabionlaw16_of_l0_s {B0 : Kn} {L : Own} {n0 : Nat} {x16 : List (Int × Int)} {zb2 : Int × Int × Int × (List (Int × Int)) × (List UInt8)} {x18 : Int} {zb3 : Int × Int × Int × (List (Int × Int)) × (List UInt8)} {Q : AV → St → Prop} {E : (Int × (Int × Int × Int × (List (Int × Int)) × (List UInt8))) ⊕ (Int × Int × Int × (List (Int × Int)) × (List UInt8)) → Prop} {o : (Int × (Int × Int × Int × (List (Int × Int)) × (List UInt8))) ⊕ (Int × Int × Int × (List (Int × Int)) × (List UInt8))} (h : gabionlaw16_of_l0 x16 zb2 x18 zb3 = some o) (hn : ∀ s, E (.inl s) → WXI Try.prog 34 n0 (Fin Try.prog Try.f48.results.toList n0 Q) [.lp (ct [1, 1, 0, 1, 0, 0] (bodyOf Try.f48)), .blk 0, .code (ct [1, 1, 1] (bodyOf Try.f48))] (gabionlaw16_of_l0_I B0 x16 zb2 s.1 s.2) L) (hx0 : ∀ s, E (.inr s) → WXI Try.prog 34 n0 (Fin Try.prog Try.f48.results.toList n0 Q) [.code (ct [1, 1, 1] (bodyOf Try.f48))] (gabionlaw16_of_l0_X0 B0 zb2 s) L) (hE : E o) : WXI Try.prog 34 n0 (Fin Try.prog Try.f48.results.toList n0 Q) [.code (ct [1, 1, 0, 1, 0, 0] (bodyOf Try.f48)), .lp (ct [1, 1, 0, 1, 0, 0] (bodyOf Try.f48)), .blk 0, .code (ct [1, 1, 1] (bodyOf Try.f48))] (gabionlaw16_of_l0_I B0 x16 zb2 x18 zb3) L := by
  unfold gabionlaw16_of_l0 at h
  rintro _ B _ ⟨hB, b4, v5, b5, n5, c5, b6, v7, b7, n7, c7, v8, h5, h7, h8, rfl, rfl⟩
  obtain ⟨_, _, _, _, _, rfl⟩ := h5.isl
  obtain ⟨_, _, _, _, _, rfl⟩ := h7.isl
  obtain ⟨_, _, _, _, _, rfl⟩ := h8.isl
  refine WX.seq ?_
  refine WX.reg ?_
  refine WO.q (.r fun _ => rfl) rfl rfl ?_
  refine WO.nil ?_
  refine WX.seq ?_
  rcases bsp (decide (x18 < (x16.length : Int))) with k9 | k9
  · have q_k9 := of_decide_eq_true k9
    replace h := (if_pos q_k9).symm.trans h
    refine WX.condT rfl k9 ?_
    refine WX.skip ?_
    refine WX.seq ?_
    refine WX.block ?_
    refine WX.seq ?_
    refine WX.reg ?_
    obtain ⟨y10, hy10, h⟩ := Option.bind_eq_some_iff.1 h
    obtain ⟨b_y10, o_y10, _, i_y10, p_y10, r_y10⟩ := h8.at sl40 hy10 .i64
    obtain ⟨_, _, rfl, rfl, rfl⟩ := r_y10
    refine WO.q (.ia i_y10) rfl rfl ?_
    refine WO.q (.lpA rfl p_y10 ti41 rfl rfl) rfl rfl ?_
    refine WO.md (MOp.alloc ti41 rfl) rfl rfl ?_
    rintro _ _ ⟨b11, rfl, rfl⟩
    refine WO.mn (MOp.storeW rfl (cA rfl) .h ti41 rfl rfl rfl) rfl ?_
    rintro _ _ rfl
    refine WO.nil ?_
    refine WX.reg ?_
    refine WO.q (.fa (fa86_3 _ _)) rfl rfl ?_
    refine WO.q (.ldS (i := 2) rfl rfl rfl ti44 rfl) rfl rfl ?_
    refine WO.q (.ia (ia41_0 _ _)) rfl rfl ?_
    refine WO.q (.ldS (i := 0) rfl rfl rfl ti3 rfl) rfl rfl ?_
    refine WO.q (.ia (ia41_1 _ _)) rfl rfl ?_
    refine WO.q (.ldS (i := 0) rfl rfl rfl ti3 rfl) rfl rfl ?_
    refine WO.q (.bd (bd35_0_1 (cI rfl) (cI rfl))) rfl rfl ?_
    refine WO.md (MOp.bs (l := ([y10] : List (Int × Int))) sl44 (RL.cons (Rp Ri Ri) RL.nil) (lb rfl) rfl rfl) rfl rfl ?_
    rintro v14 _ ⟨b12, o13, rfl⟩
    obtain ⟨_, _, _, _, _, rfl⟩ := o13.isl
    obtain ⟨y16, hy16, h⟩ := Option.bind_eq_some_iff.1 h
    refine WO.md (MOp.app rfl rfl rfl sl44 h7 (Src.o (i := 0) sl44 o13 rfl) hy16 rfl rfl (fun _ => (.t (.t (.t (.t (.t .h))))))) rfl rfl ?_
    rintro v20 _ ⟨b17, n18, o19, rfl⟩
    obtain ⟨_, _, _, _, _, rfl⟩ := o19.isl
    refine WO.q (.fa (fa86_3 _ _)) rfl rfl ?_
    refine WO.mn (MOp.store (cs' := [.int .u8 zb3.1, .int .i64 zb3.2.1, .int .i64 zb3.2.2.1, _, .str zb3.2.2.2.2]) rfl (cL rfl) (.t (.t (.t .h))) ti44 rfl rfl (lb rfl) rfl) rfl ?_
    rintro _ _ rfl
    refine WO.nil ?_
    refine WX.pop ?_
    refine WX.reg ?_
    refine WO.q (.r fun _ => rfl) rfl rfl ?_
    refine WO.q (.mv (v := .int _ _) rfl) rfl rfl ?_
    refine WO.nil ?_
    refine WX.keepL [2, 3, 16, 17, 18] (WX.pk [2, 3, 4, 5] (by decide) ?_) rfl
    obtain rfl := Option.some.inj h
    exact hn _ hE _ _ _ ⟨hB, _, _, _, n5, _, _, _, _, n18, _, _, h5, o19, h8, rfl, rfl⟩
  · have q_k9 := of_decide_eq_false k9
    replace h := (if_neg q_k9).symm.trans h
    refine WX.condF rfl k9 ?_
    refine WX.exit rfl ?_
    refine WX.keep [2, 3] (WX.pk [0, 1, 2, 3] (by decide) ?_) rfl
    obtain rfl := Option.some.inj h
    exact hx0 _ hE _ _ _ ⟨hB, _, _, _, n5, _, _, _, _, n7, _, h5, h7, rfl, rfl⟩
theorem gabionlaw16_of_l0_ok {B0 : Kn} {L : Own} {n0 : Nat} {x16 : List (Int × Int)} {zb2 : Int × Int × Int × (List (Int × Int)) × (List UInt8)} {x18 : Int} {zb3 : Int × Int × Int × (List (Int × Int)) × (List UInt8)} {Q : AV → St → Prop} {d : Nat} {e : (Int × Int × Int × (List (Int × Int)) × (List UInt8))} (h : iter (fun (s : Int × (Int × Int × Int × (List (Int × Int)) × (List UInt8))) => gabionlaw16_of_l0 x16 zb2 s.1 s.2) d (x18, zb3) = some e) (g0 : ∀ s, e = s → WXI Try.prog 34 n0 (Fin Try.prog Try.f48.results.toList n0 Q) [.code (ct [1, 1, 1] (bodyOf Try.f48))] (gabionlaw16_of_l0_X0 B0 zb2 s) L) : WXI Try.prog 34 n0 (Fin Try.prog Try.f48.results.toList n0 Q) [.code (ct [1, 1, 0, 1, 0, 0] (bodyOf Try.f48)), .lp (ct [1, 1, 0, 1, 0, 0] (bodyOf Try.f48)), .blk 0, .code (ct [1, 1, 1] (bodyOf Try.f48))] (gabionlaw16_of_l0_I B0 x16 zb2 x18 zb3) L :=
  iter_ok (I := fun s => gabionlaw16_of_l0_I B0 x16 zb2 s.1 s.2) (D := fun e => (∀ s, e = s → WXI Try.prog 34 n0 (Fin Try.prog Try.f48.results.toList n0 Q) [.code (ct [1, 1, 1] (bodyOf Try.f48))] (gabionlaw16_of_l0_X0 B0 zb2 s) L)) (fun E hn hx s o ho hE => gabionlaw16_of_l0_s ho hn (fun s hs => (hx _ hs) _ rfl)  hE) h g0
theorem gabionlaw16_of_ok {B0 : Kn} {L : Own} {a0 : Int × Int × Int × (List (Int × Int)) × (List UInt8)} {v0_0 : AV} {r : (Int × Int × Int × (List (Int × Int)) × (List UInt8))} (g0_0 : RSl EPIi64Ii64Q B0 v0_0 a0.2.2.2.1) (h : gabionlaw16_of a0 = some r) : ∀ st, Hp B0 L st → ASpec Try.prog 48 [.agg [.int .u8 a0.1, .int .i64 a0.2.1, .int .i64 a0.2.2.1, v0_0, .str a0.2.2.2.2]] st (gabionlaw16_of_P B0 L r) := by
  unfold gabionlaw16_of at h
  refine bodyA (A := []) Try.func48 rfl (c := bodyOf Try.f48) rfl Try.ntmps48 (lb rfl) fun n0 => ?_
  have hB := KLe.refl B0
  obtain ⟨_, _, _, _, _, rfl⟩ := g0_0.isl
  refine WX.seq ?_
  refine WX.reg ?_
  refine WO.md (MOp.box (cA rfl)) rfl rfl ?_
  rintro _ _ ⟨b1, rfl, rfl⟩
  refine WO.md (MOp.alloc ti86 rfl) rfl rfl ?_
  rintro _ _ ⟨b2, rfl, rfl⟩
  refine WO.nil ?_
  refine WX.seq ?_
  refine WX.reg ?_
  refine WO.q (.fa (fa81_0 _ _)) rfl rfl ?_
  refine WO.q (.ldS (i := 1) rfl rfl rfl ti5 rfl) rfl rfl ?_
  refine WO.q (.fa (fa81_1 _ _)) rfl rfl ?_
  refine WO.q (.ldS (i := 1) rfl rfl rfl ti3 rfl) rfl rfl ?_
  refine WO.q (.fa (fa81_2 _ _)) rfl rfl ?_
  refine WO.q (.ldS (i := 1) rfl rfl rfl ti3 rfl) rfl rfl ?_
  refine WO.q (.fa (fa81_4 _ _)) rfl rfl ?_
  refine WO.q (.ldS (i := 1) rfl rfl rfl ti9 rfl) rfl rfl ?_
  refine WO.q (.bd (bd86_0_1_2_4 (cI rfl) (cI rfl) (cI rfl) (cS rfl))) rfl rfl ?_
  refine WO.md (MOp.alloc ti86 rfl) rfl rfl ?_
  rintro _ _ ⟨b3, rfl, rfl⟩
  refine WO.mn (MOp.storeW rfl (cA rfl) .h ti86 rfl rfl rfl) rfl ?_
  rintro _ _ rfl
  refine WO.nil ?_
  refine WX.seq ?_
  refine WX.seq ?_
  refine WX.reg ?_
  refine WO.q (.fa (fa81_3 _ _)) rfl rfl ?_
  refine WO.q (.ldS (i := 2) rfl rfl rfl ti40 rfl) rfl rfl ?_
  refine WO.q (.len rfl rfl rfl (sl40.len g0_0.isl)) rfl rfl ?_
  refine WO.q (.mv (v := .int _ _) rfl) rfl rfl ?_
  refine WO.nil ?_
  refine WX.block ?_
  refine WX.loop ?_
  obtain ⟨e25, he25, h⟩ := Option.bind_eq_some_iff.1 h
  refine WX.keep [2, 3, 16, 17, 18] (WX.pk [1, 0] (by decide) (WX.addn [2, 3] ?_)) rfl
  refine gabionlaw16_of_l0_ok he25 ?_ _ _ _ ⟨hB, _, _, 0, true, [], _, _, 0, true, [], _, OSl.none _ _, OSl.none _ _, g0_0, rfl, rfl⟩
  · intro s30 he_
    subst he_
    replace h := h
    rintro _ B _ ⟨hB, b26, v27, b27, n27, c27, b28, v29, b29, n29, c29, h27, h29, rfl, rfl⟩
    obtain ⟨_, _, _, _, _, rfl⟩ := h27.isl
    obtain ⟨_, _, _, _, _, rfl⟩ := h29.isl
    refine WX.seq ?_
    refine WX.reg ?_
    refine WO.q (.ldA (i := 1) rfl rfl rfl ti86 rfl) rfl rfl ?_
    refine WO.mn (MOp.storeW rfl (cA rfl) .h ti86 rfl rfl rfl) rfl ?_
    rintro _ _ rfl
    refine WO.nil ?_
    obtain rfl := Option.some.inj h
    exact WX.ret (rs_ (rs_cell (.ldA (i := 0) rfl rfl rfl ti86 rfl) rs_nil)) fun st hp => ⟨_, _, hB, (hp.pk [3] (by decide)), _, _, n29, _, rfl, rfl, h29⟩
def gabionlaw16_wakes_P (B : Kn) (L : Own) (r : Bool) : AV → St → Prop := CS B L fun v => v = .bool r
theorem gabionlaw16_wakes_ok {B0 : Kn} {L : Own} {r : Bool} (h : gabionlaw16_wakes = some r) : ∀ st, Hp B0 L st → ASpec Try.prog 53 [] st (gabionlaw16_wakes_P B0 L r) := by
  unfold gabionlaw16_wakes at h
  refine bodyA (A := []) Try.func53 rfl (c := bodyOf Try.f53) rfl Try.ntmps53 (lb rfl) fun n0 => ?_
  have hB := KLe.refl B0
  refine WX.seq ?_
  refine WX.reg ?_
  refine WO.q (.as (v := .bool _) rfl) rfl rfl ?_
  refine WO.nil ?_
  refine WX.seq ?_
  refine WX.reg ?_
  refine WO.q (.bd (bd86_0_1 (cI rfl) (cI rfl))) rfl rfl ?_
  refine WO.md (MOp.alloc ti86 rfl) rfl rfl ?_
  rintro _ _ ⟨b1, rfl, rfl⟩
  refine WO.mn (MOp.storeW rfl (cA rfl) .h ti86 rfl rfl rfl) rfl ?_
  rintro _ _ rfl
  refine WO.nil ?_
  refine WX.seq ?_
  refine WX.reg ?_
  obtain ⟨y2, hy2, h⟩ := Option.bind_eq_some_iff.1 h
  refine WO.c1 rfl rfl (inode_Parse_ok hy2) rfl rfl rfl ?_
  rintro _ B _ hK ⟨v3, b4, n5, c6, rfl, rfl, h7⟩
  obtain ⟨_, _, _, _, _, rfl⟩ := h7.isl
  replace hB := hB.trans hK
  refine WO.q (.mv (v := .tup _) rfl) rfl rfl ?_
  refine WO.q (.r fun _ => rfl) rfl rfl ?_
  refine WO.q (.r fun _ => rfl) rfl rfl ?_
  refine WO.q (.r fun _ => rfl) rfl rfl ?_
  refine WO.md (MOp.alloc ti86 rfl) rfl rfl ?_
  rintro _ _ ⟨b8, rfl, rfl⟩
  refine WO.q (.as (v := .int _ _) rfl) rfl rfl ?_
  refine WO.mn (MOp.storeW rfl (cA rfl) .h ti86 rfl rfl rfl) rfl ?_
  rintro _ _ rfl
  refine WO.q (.as (v := .int _ _) rfl) rfl rfl ?_
  refine WO.nil ?_
  refine WX.seq ?_
  refine WX.reg ?_
  refine WO.q (.bd (bd35_0_1 (cI rfl) (cI rfl))) rfl rfl ?_
  refine WO.md (MOp.bs (l := ([((3, 2) : Int × Int)] : List (Int × Int))) sl44 (RL.cons (Rp Ri Ri) RL.nil) (lb rfl) rfl rfl) rfl rfl ?_
  rintro v11 _ ⟨b9, o10, rfl⟩
  obtain ⟨_, _, _, _, _, rfl⟩ := o10.isl
  refine WO.q (.bd (bd86_0_2_3 (cI rfl) (cI rfl) (cL rfl))) rfl rfl ?_
  refine WO.md (MOp.alloc ti86 rfl) rfl rfl ?_
  rintro _ _ ⟨b13, rfl, rfl⟩
  refine WO.mn (MOp.storeW rfl (cA rfl) .h ti86 rfl rfl rfl) rfl ?_
  rintro _ _ rfl
  refine WO.nil ?_
  refine WX.seq ?_
  refine WX.reg ?_
  refine WO.q (.ldA (i := 4) rfl rfl rfl ti86 rfl) rfl rfl ?_
  obtain ⟨y14, hy14, h⟩ := Option.bind_eq_some_iff.1 h
  refine WO.cS rfl rfl (inode_Inode_Right_ok (a0 := ((2, 2, 0, [], ([] : List UInt8)) : Int × Int × Int × (List (Int × Int)) × (List UInt8))) (RSl.nil _ _) hy14) rfl rfl rfl ?_
  rintro _ rfl
  refine WO.q (.mv (v := .bool _) rfl) rfl rfl ?_
  rcases bsp y14 with k15 | k15
  · replace h := (if_pos k15).symm.trans h
    refine WO.q (.ldA (i := 4) rfl rfl rfl ti86 rfl) (wg rfl rfl (gt k15)) rfl ?_
    obtain ⟨y16, hy16, h⟩ := Option.bind_eq_some_iff.1 h
    refine WO.cS rfl rfl (inode_Inode_Text_ok (a0 := ((2, 2, 0, [], ([] : List UInt8)) : Int × Int × Int × (List (Int × Int)) × (List UInt8))) (RSl.nil _ _) hy16) rfl (wg rfl rfl (gt k15)) rfl ?_
    rintro _ rfl
    refine WO.q (.r fun _ => rfl) (wg rfl rfl (gt k15)) rfl ?_
    refine WO.q (.ptv (v := .bool _) rfl k15 rfl) rfl rfl ?_
    refine WO.q (.mv (v := .bool _) rfl) rfl rfl ?_
    rcases bsp (decide (y16 = ([1, 0, 2, 2, 0, 0, 0, 0, 0] : List UInt8))) with k17 | k17
    · have q_k17 := of_decide_eq_true k17
      replace h := (if_pos q_k17).symm.trans h
      refine WO.q (.mv (v := .int _ _) rfl) (wg rfl rfl (gt k17)) rfl ?_
      refine WO.q (.r fun _ => rfl) (wg rfl rfl (gt k17)) rfl ?_
      refine WO.q (.ptv (v := .bool _) rfl k17 rfl) rfl rfl ?_
      refine WO.q (.mv (v := .bool _) rfl) rfl rfl ?_
      rcases bsp (decide (y2.2.2 = 0)) with k18 | k18
      · have q_k18 := of_decide_eq_true k18
        replace h := (if_pos q_k18).symm.trans h
        refine WO.q (.mv (v := .int _ _) rfl) (wg rfl rfl (gt k18)) rfl ?_
        refine WO.q (.r fun _ => rfl) (wg rfl rfl (gt k18)) rfl ?_
        refine WO.q (.ptv (v := .bool _) rfl k18 rfl) rfl rfl ?_
        refine WO.q (.mv (v := .bool _) rfl) rfl rfl ?_
        rcases bsp (decide (y2.1 = 1)) with k19 | k19
        · have q_k19 := of_decide_eq_true k19
          replace h := (if_pos q_k19).symm.trans h
          refine WO.q (.ldA (i := 2) rfl rfl rfl ti86 rfl) (wg rfl rfl (gt k19)) rfl ?_
          refine WO.q (.ldA (i := 4) rfl rfl rfl ti86 rfl) (wg rfl rfl (gt k19)) rfl ?_
          obtain ⟨y20, hy20, h⟩ := Option.bind_eq_some_iff.1 h
          refine WO.cS rfl rfl (lendC (j := 3) h7 rfl fun _ K22 g21 => inode_Equal_ok (a1 := ((2, 2, 0, [], ([] : List UInt8)) : Int × Int × Int × (List (Int × Int)) × (List UInt8))) g21 (RSl.nil _ _) hy20) rfl (wg rfl rfl (gt k19)) rfl ?_
          rintro _ rfl
          refine WO.q (.ptv (v := .bool _) rfl k19 rfl) rfl rfl ?_
          refine WO.q (.mv (v := .bool _) rfl) rfl rfl ?_
          rcases bsp y20 with k23 | k23
          · replace h := (if_pos k23).symm.trans h
            refine WO.q (.ldA (i := 0) rfl rfl rfl ti86 rfl) (wg rfl rfl (gt k23)) rfl ?_
            obtain ⟨y24, hy24, h⟩ := Option.bind_eq_some_iff.1 h
            refine WO.cS rfl rfl (lendC (j := 1) o10 rfl fun _ K26 g25 => inode_Inode_Right_ok (a0 := ((1, 0, 65, [((3, 2) : Int × Int)], ([] : List UInt8)) : Int × Int × Int × (List (Int × Int)) × (List UInt8))) g25 hy24) rfl (wg rfl rfl (gt k23)) rfl ?_
            rintro _ rfl
            refine WO.q (.ptv (v := .bool _) rfl k23 rfl) rfl rfl ?_
            refine WO.q (.mv (v := .bool _) rfl) rfl rfl ?_
            rcases bsp y24 with k27 | k27
            · replace h := (if_pos k27).symm.trans h
              obtain ⟨y28, hy28, h⟩ := Option.bind_eq_some_iff.1 h
              refine WO.cS rfl rfl (inode_Need_ok hy28) rfl (wg rfl rfl (gt k27)) rfl ?_
              rintro _ rfl
              refine WO.q (.r fun _ => rfl) (wg rfl rfl (gt k27)) rfl ?_
              refine WO.q (.ptv (v := .bool _) rfl k27 rfl) rfl rfl ?_
              refine WO.q (.as (v := .bool _) rfl) rfl rfl ?_
              refine WO.nil ?_
              obtain rfl := Option.some.inj h
              exact WX.ret (rs_ (rs_tmp rfl rs_nil)) fun st hp => ⟨(hp.pk [] (by decide)).le hB, rfl⟩
            · replace h := (if_neg (bnt k27)).symm.trans h
              refine WO.sd (wg rfl rfl (gtn k27)) rfl ?_
              refine WO.sd (wg rfl rfl (gtn k27)) rfl ?_
              refine WO.q (.pfv (v := .bool _) rfl k27 rfl) rfl rfl ?_
              refine WO.q (.as (v := .bool _) rfl) rfl rfl ?_
              refine WO.nil ?_
              obtain rfl := Option.some.inj h
              exact WX.ret (rs_ (rs_tmp rfl rs_nil)) fun st hp => ⟨(hp.pk [] (by decide)).le hB, rfl⟩
          · replace h := (if_neg (bnt k23)).symm.trans h
            refine WO.sd (wg rfl rfl (gtn k23)) rfl ?_
            refine WO.sd (wg rfl rfl (gtn k23)) rfl ?_
            refine WO.q (.pfv (v := .bool _) rfl k23 rfl) rfl rfl ?_
            refine WO.q (.mv (v := .bool _) rfl) rfl rfl ?_
            refine WO.sd (wg rfl rfl (gtn rfl)) rfl ?_
            refine WO.sd (wg rfl rfl (gtn rfl)) rfl ?_
            refine WO.q (.pfv (v := .bool _) rfl rfl rfl) rfl rfl ?_
            refine WO.q (.as (v := .bool _) rfl) rfl rfl ?_
            refine WO.nil ?_
            obtain rfl := Option.some.inj h
            exact WX.ret (rs_ (rs_tmp rfl rs_nil)) fun st hp => ⟨(hp.pk [] (by decide)).le hB, rfl⟩
        · have q_k19 := of_decide_eq_false k19
          replace h := (if_neg q_k19).symm.trans h
          refine WO.sd (wg rfl rfl (gtn k19)) rfl ?_
          refine WO.sd (wg rfl rfl (gtn k19)) rfl ?_
          refine WO.sd (wg rfl rfl (gtn k19)) rfl ?_
          refine WO.q (.pfv (v := .bool _) rfl k19 rfl) rfl rfl ?_
          refine WO.q (.mv (v := .bool _) rfl) rfl rfl ?_
          refine WO.sd (wg rfl rfl (gtn rfl)) rfl ?_
          refine WO.sd (wg rfl rfl (gtn rfl)) rfl ?_
          refine WO.q (.pfv (v := .bool _) rfl rfl rfl) rfl rfl ?_
          refine WO.q (.mv (v := .bool _) rfl) rfl rfl ?_
          refine WO.sd (wg rfl rfl (gtn rfl)) rfl ?_
          refine WO.sd (wg rfl rfl (gtn rfl)) rfl ?_
          refine WO.q (.pfv (v := .bool _) rfl rfl rfl) rfl rfl ?_
          refine WO.q (.as (v := .bool _) rfl) rfl rfl ?_
          refine WO.nil ?_
          obtain rfl := Option.some.inj h
          exact WX.ret (rs_ (rs_tmp rfl rs_nil)) fun st hp => ⟨(hp.pk [] (by decide)).le hB, rfl⟩
      · have q_k18 := of_decide_eq_false k18
        replace h := (if_neg q_k18).symm.trans h
        refine WO.sd (wg rfl rfl (gtn k18)) rfl ?_
        refine WO.sd (wg rfl rfl (gtn k18)) rfl ?_
        refine WO.q (.pfv (v := .bool _) rfl k18 rfl) rfl rfl ?_
        refine WO.q (.mv (v := .bool _) rfl) rfl rfl ?_
        refine WO.sd (wg rfl rfl (gtn rfl)) rfl ?_
        refine WO.sd (wg rfl rfl (gtn rfl)) rfl ?_
        refine WO.sd (wg rfl rfl (gtn rfl)) rfl ?_
        refine WO.q (.pfv (v := .bool _) rfl rfl rfl) rfl rfl ?_
        refine WO.q (.mv (v := .bool _) rfl) rfl rfl ?_
        refine WO.sd (wg rfl rfl (gtn rfl)) rfl ?_
        refine WO.sd (wg rfl rfl (gtn rfl)) rfl ?_
        refine WO.q (.pfv (v := .bool _) rfl rfl rfl) rfl rfl ?_
        refine WO.q (.mv (v := .bool _) rfl) rfl rfl ?_
        refine WO.sd (wg rfl rfl (gtn rfl)) rfl ?_
        refine WO.sd (wg rfl rfl (gtn rfl)) rfl ?_
        refine WO.q (.pfv (v := .bool _) rfl rfl rfl) rfl rfl ?_
        refine WO.q (.as (v := .bool _) rfl) rfl rfl ?_
        refine WO.nil ?_
        obtain rfl := Option.some.inj h
        exact WX.ret (rs_ (rs_tmp rfl rs_nil)) fun st hp => ⟨(hp.pk [] (by decide)).le hB, rfl⟩
    · have q_k17 := of_decide_eq_false k17
      replace h := (if_neg q_k17).symm.trans h
      refine WO.sd (wg rfl rfl (gtn k17)) rfl ?_
      refine WO.sd (wg rfl rfl (gtn k17)) rfl ?_
      refine WO.q (.pfv (v := .bool _) rfl k17 rfl) rfl rfl ?_
      refine WO.q (.mv (v := .bool _) rfl) rfl rfl ?_
      refine WO.sd (wg rfl rfl (gtn rfl)) rfl ?_
      refine WO.sd (wg rfl rfl (gtn rfl)) rfl ?_
      refine WO.q (.pfv (v := .bool _) rfl rfl rfl) rfl rfl ?_
      refine WO.q (.mv (v := .bool _) rfl) rfl rfl ?_
      refine WO.sd (wg rfl rfl (gtn rfl)) rfl ?_
      refine WO.sd (wg rfl rfl (gtn rfl)) rfl ?_
      refine WO.sd (wg rfl rfl (gtn rfl)) rfl ?_
      refine WO.q (.pfv (v := .bool _) rfl rfl rfl) rfl rfl ?_
      refine WO.q (.mv (v := .bool _) rfl) rfl rfl ?_
      refine WO.sd (wg rfl rfl (gtn rfl)) rfl ?_
      refine WO.sd (wg rfl rfl (gtn rfl)) rfl ?_
      refine WO.q (.pfv (v := .bool _) rfl rfl rfl) rfl rfl ?_
      refine WO.q (.mv (v := .bool _) rfl) rfl rfl ?_
      refine WO.sd (wg rfl rfl (gtn rfl)) rfl ?_
      refine WO.sd (wg rfl rfl (gtn rfl)) rfl ?_
      refine WO.q (.pfv (v := .bool _) rfl rfl rfl) rfl rfl ?_
      refine WO.q (.as (v := .bool _) rfl) rfl rfl ?_
      refine WO.nil ?_
      obtain rfl := Option.some.inj h
      exact WX.ret (rs_ (rs_tmp rfl rs_nil)) fun st hp => ⟨(hp.pk [] (by decide)).le hB, rfl⟩
  · replace h := (if_neg (bnt k15)).symm.trans h
    refine WO.sd (wg rfl rfl (gtn k15)) rfl ?_
    refine WO.sd (wg rfl rfl (gtn k15)) rfl ?_
    refine WO.sd (wg rfl rfl (gtn k15)) rfl ?_
    refine WO.q (.pfv (v := .bool _) rfl k15 rfl) rfl rfl ?_
    refine WO.q (.mv (v := .bool _) rfl) rfl rfl ?_
    refine WO.sd (wg rfl rfl (gtn rfl)) rfl ?_
    refine WO.sd (wg rfl rfl (gtn rfl)) rfl ?_
    refine WO.q (.pfv (v := .bool _) rfl rfl rfl) rfl rfl ?_
    refine WO.q (.mv (v := .bool _) rfl) rfl rfl ?_
    refine WO.sd (wg rfl rfl (gtn rfl)) rfl ?_
    refine WO.sd (wg rfl rfl (gtn rfl)) rfl ?_
    refine WO.q (.pfv (v := .bool _) rfl rfl rfl) rfl rfl ?_
    refine WO.q (.mv (v := .bool _) rfl) rfl rfl ?_
    refine WO.sd (wg rfl rfl (gtn rfl)) rfl ?_
    refine WO.sd (wg rfl rfl (gtn rfl)) rfl ?_
    refine WO.sd (wg rfl rfl (gtn rfl)) rfl ?_
    refine WO.q (.pfv (v := .bool _) rfl rfl rfl) rfl rfl ?_
    refine WO.q (.mv (v := .bool _) rfl) rfl rfl ?_
    refine WO.sd (wg rfl rfl (gtn rfl)) rfl ?_
    refine WO.sd (wg rfl rfl (gtn rfl)) rfl ?_
    refine WO.q (.pfv (v := .bool _) rfl rfl rfl) rfl rfl ?_
    refine WO.q (.mv (v := .bool _) rfl) rfl rfl ?_
    refine WO.sd (wg rfl rfl (gtn rfl)) rfl ?_
    refine WO.sd (wg rfl rfl (gtn rfl)) rfl ?_
    refine WO.q (.pfv (v := .bool _) rfl rfl rfl) rfl rfl ?_
    refine WO.q (.as (v := .bool _) rfl) rfl rfl ?_
    refine WO.nil ?_
    obtain rfl := Option.some.inj h
    exact WX.ret (rs_ (rs_tmp rfl rs_nil)) fun st hp => ⟨(hp.pk [] (by decide)).le hB, rfl⟩
end Gab
