/- The Go code comes to what the Lean functions say. Written by a program (gp.py). -/
import Derived.Test.YtdkldojcpncnhaaFd
import Derived.Test.YtdkldojcpncnhaaTy
import Derived.Test.YtdkldojcpncnhaaFpAlloc0
import Derived.Test.YtdkldojcpncnhaaFpAlloc1
import Derived.Test.YtdkldojcpncnhaaFpAlloc2
set_option linter.unusedSimpArgs false
set_option linter.unusedVariables false
set_option maxHeartbeats 4000000
set_option maxRecDepth 100000
namespace Gab
open Go Go.Proofs
def alloc_Set_Give_1_P (B : Kn) (L : Own) (r : Int) : AV → St → Prop := CS B L fun v => v = .int .i64 r
theorem alloc_Set_Give_1_ok {B0 : Kn} {L : Own} {a0 : Int × Int} {a1 : Int} {r : Int} (h : alloc_Set_Give_1 a0 a1 = some r) : ∀ st, Hp B0 L st → ASpec Try.prog 76 [.agg [.int .i64 a0.1, .int .i64 a0.2], .int .i64 a1] st (alloc_Set_Give_1_P B0 L r) := by
  unfold alloc_Set_Give_1 at h
  refine bodyA (A := []) Try.func76 rfl (c := bodyOf Try.f76) rfl Try.ntmps76 (lb rfl) fun n0 => ?_
  have hB := KLe.refl B0
  refine WX.seq ?_
  refine WX.reg ?_
  refine WO.md (MOp.box (cA rfl)) rfl rfl ?_
  rintro _ _ ⟨b1, rfl, rfl⟩
  refine WO.q (.as (v := .int _ _) rfl) rfl rfl ?_
  refine WO.nil ?_
  refine WX.seq ?_
  refine WX.reg ?_
  refine WO.q (.fa (fa35_0 _ _)) rfl rfl ?_
  refine WO.q (.ldS (i := 0) rfl rfl rfl ti3 rfl) rfl rfl ?_
  refine WO.q (.mv (v := .int _ _) rfl) rfl rfl ?_
  refine WO.q (.r fun _ => rfl) rfl rfl ?_
  refine WO.q (.as (v := .int _ _) rfl) rfl rfl ?_
  refine WO.nil ?_
  obtain rfl := Option.some.inj h
  exact WX.ret (rs_ (rs_tmp rfl rs_nil)) fun st hp => ⟨(hp.pk [] (by decide)).le hB, rfl⟩
def alloc_Set_Give_P (B : Kn) (L : Own) (r : (Int × (List (Int × Int))) × Int) : AV → St → Prop := C1 B L fun B' v e0 => ∃ w0 b0 n0 c0, v = .tup [.agg [.int .i64 r.1.1, w0], .int .i64 r.2] ∧ e0 = oe b0 n0 c0 ∧ OSl EPIi64Ii64Q B' w0 b0 n0 c0 r.1.2
def alloc_Set_Give_j10_I (B0 : Kn) (x8 : List (Int × Int)) (x9 : List (Int × Int)) (zb2 : Int × (List (Int × Int))) (zb3 : Int × Int) (zb4 : Int × (List (Int × Int))) : Fr → Kn → Own → Prop := fun fr B A => KLe B0 B ∧ ∃ b55 v56 b57 b58 v59 b59 n59 c59 v60 v61, RSl EPIi64Ii64Q B v56 zb2.2 ∧ OSl EPIi64Ii64Q B v59 b59 n59 c59 zb4.2 ∧ RSl EPIi64Ii64Q B v60 x8 ∧ RSl EPIi64Ii64Q B v61 x9 ∧ fr = [(2, .ptr b55 0), (3, .ptr b57 0), (4, .ptr b58 0), (8, v60), (9, v61)] ∧ A = [(b55, some [.int .i64 zb2.1, v56]), (b57, some [.int .i64 zb3.1, .int .i64 zb3.2]), (b58, some [.int .i64 zb4.1, v59]), oe b59 n59 c59]
def alloc_Set_Give_j9_I (B0 : Kn) (x8 : List (Int × Int)) (x9 : List (Int × Int)) (x103 : Bool) (zb2 : Int × (List (Int × Int))) (zb3 : Int × Int) (zb4 : Int × (List (Int × Int))) : Fr → Kn → Own → Prop := fun fr B A => KLe B0 B ∧ ∃ b45 v46 b47 b48 v49 b49 n49 c49 v50 v51, RSl EPIi64Ii64Q B v46 zb2.2 ∧ OSl EPIi64Ii64Q B v49 b49 n49 c49 zb4.2 ∧ RSl EPIi64Ii64Q B v50 x8 ∧ RSl EPIi64Ii64Q B v51 x9 ∧ fr = [(2, .ptr b45 0), (3, .ptr b47 0), (4, .ptr b48 0), (8, v50), (9, v51), (103, .bool x103)] ∧ A = [(b45, some [.int .i64 zb2.1, v46]), (b47, some [.int .i64 zb3.1, .int .i64 zb3.2]), (b48, some [.int .i64 zb4.1, v49]), oe b49 n49 c49]
def alloc_Set_Give_j8_I (B0 : Kn) (x8 : List (Int × Int)) (x9 : List (Int × Int)) (zb2 : Int × (List (Int × Int))) (zb3 : Int × Int) (zb4 : Int × (List (Int × Int))) : Fr → Kn → Own → Prop := fun fr B A => KLe B0 B ∧ ∃ b35 v36 b37 b38 v39 b39 n39 c39 v40 v41, RSl EPIi64Ii64Q B v36 zb2.2 ∧ OSl EPIi64Ii64Q B v39 b39 n39 c39 zb4.2 ∧ RSl EPIi64Ii64Q B v40 x8 ∧ RSl EPIi64Ii64Q B v41 x9 ∧ fr = [(2, .ptr b35 0), (3, .ptr b37 0), (4, .ptr b38 0), (8, v40), (9, v41)] ∧ A = [(b35, some [.int .i64 zb2.1, v36]), (b37, some [.int .i64 zb3.1, .int .i64 zb3.2]), (b38, some [.int .i64 zb4.1, v39]), oe b39 n39 c39]
def alloc_Set_Give_j7_I (B0 : Kn) (x6 : Int) (x8 : List (Int × Int)) (x9 : List (Int × Int)) (x71 : Bool) (zb2 : Int × (List (Int × Int))) (zb3 : Int × Int) (zb4 : Int × (List (Int × Int))) : Fr → Kn → Own → Prop := fun fr B A => KLe B0 B ∧ ∃ b24 v25 b26 b27 v28 b28 n28 c28 v29 v30, RSl EPIi64Ii64Q B v25 zb2.2 ∧ OSl EPIi64Ii64Q B v28 b28 n28 c28 zb4.2 ∧ RSl EPIi64Ii64Q B v29 x8 ∧ RSl EPIi64Ii64Q B v30 x9 ∧ fr = [(2, .ptr b24 0), (3, .ptr b26 0), (4, .ptr b27 0), (6, .int .i64 x6), (8, v29), (9, v30), (71, .bool x71)] ∧ A = [(b24, some [.int .i64 zb2.1, v25]), (b26, some [.int .i64 zb3.1, .int .i64 zb3.2]), (b27, some [.int .i64 zb4.1, v28]), oe b28 n28 c28]
def alloc_Set_Give_j5_I (B0 : Kn) (x6 : Int) (x8 : List (Int × Int)) (x9 : List (Int × Int)) (x57 : Bool) (zb2 : Int × (List (Int × Int))) (zb3 : Int × Int) (zb4 : Int × (List (Int × Int))) : Fr → Kn → Own → Prop := fun fr B A => KLe B0 B ∧ ∃ b13 v14 b15 b16 v17 b17 n17 c17 v18 v19, RSl EPIi64Ii64Q B v14 zb2.2 ∧ OSl EPIi64Ii64Q B v17 b17 n17 c17 zb4.2 ∧ RSl EPIi64Ii64Q B v18 x8 ∧ RSl EPIi64Ii64Q B v19 x9 ∧ fr = [(2, .ptr b13 0), (3, .ptr b15 0), (4, .ptr b16 0), (6, .int .i64 x6), (8, v18), (9, v19), (57, .bool x57)] ∧ A = [(b13, some [.int .i64 zb2.1, v14]), (b15, some [.int .i64 zb3.1, .int .i64 zb3.2]), (b16, some [.int .i64 zb4.1, v17]), oe b17 n17 c17]
theorem alloc_Set_Give_j10_ok {B0 : Kn} {L : Own} {n0 : Nat} {x8 : List (Int × Int)} {x9 : List (Int × Int)} {zb2 : Int × (List (Int × Int))} {zb3 : Int × Int} {zb4 : Int × (List (Int × Int))} {r : (Int × (List (Int × Int))) × Int} (h : alloc_Set_Give_j10 x8 x9 zb2 zb3 zb4 = some r) : WXI Try.prog 125 n0 (Fin Try.prog Try.f38.results.toList n0 (alloc_Set_Give_P B0 L r)) [.code (ct [1, 1, 1, 1, 1, 1, 1] (bodyOf Try.f38))] (alloc_Set_Give_j10_I B0 x8 x9 zb2 zb3 zb4) L := by
  unfold alloc_Set_Give_j10 at h
  rintro _ B _ ⟨hB, b55, v56, b57, b58, v59, b59, n59, c59, v60, v61, h56, h59, h60, h61, rfl, rfl⟩
  obtain ⟨_, _, _, _, _, rfl⟩ := h56.isl
  obtain ⟨_, _, _, _, _, rfl⟩ := h59.isl
  obtain ⟨_, _, _, _, _, rfl⟩ := h60.isl
  obtain ⟨_, _, _, _, _, rfl⟩ := h61.isl
  refine WX.seq ?_
  refine WX.drw [0, 1, 2, 3, 5, 4, 6, 7, 8, 9, 10] _ mixed (by kernel_rfl) rfl (pk_sub [0, 1, 2, 3]) ?_
  refine WP.q (i := 0) rfl (.fa (fa25_0 _ _)) rfl rfl rfl ?_
  refine WP.q (i := 1) rfl (.ldS (i := 0) rfl rfl rfl ti3 rfl) rfl rfl rfl ?_
  refine WP.q (i := 2) rfl (.mv (v := .sl _ _ _ _ _ _) rfl) rfl rfl rfl ?_
  refine WP.q (i := 3) rfl (.ldA (i := 1) rfl rfl rfl ti35 rfl) rfl rfl rfl ?_
  refine WP.q (i := 5) rfl (.mv (v := .sl _ _ _ _ _ _) rfl) rfl rfl rfl ?_
  refine WP.md (i := 4) rfl (MOp.bs (l := ([zb3] : List (Int × Int))) sl23 (RL.cons (Rp Ri Ri) RL.nil) (lb rfl) rfl rfl) rfl rfl rfl ?_
  rintro v64 _ ⟨b62, o63, rfl⟩
  obtain ⟨_, _, _, _, _, rfl⟩ := o63.isl
  refine ⟨fun e he _ => pk_in (jx := [1, 2, 3, 4]) rfl e he, ?_⟩
  refine WP.fz (j := 0) o63 rfl (fun e he => pk_in (jx := [0, 1, 2, 3]) rfl e he) ?_
  intro B hK g66
  replace h60 := h60.up hK
  replace h61 := h61.up hK
  replace h56 := h56.up hK
  replace h59 := h59.up hK
  replace hB := hB.trans hK
  refine WP.md (i := 6) rfl (MOp.bs (l := ([x8, [zb3], x9] : List (List (Int × Int)))) sl122 (RL.cons (Rl h60) (RL.cons (Rl g66) (RL.cons (Rl h61) RL.nil))) (lb rfl) rfl rfl) rfl rfl rfl ?_
  rintro v69 _ ⟨b67, o68, rfl⟩
  obtain ⟨_, _, _, _, _, rfl⟩ := o68.isl
  refine ⟨fun e he _ => pk_in (jx := [1, 2, 3, 4]) rfl e he, ?_⟩
  refine WP.fz (j := 0) o68 rfl (fun e he => pk_in (jx := [0, 1, 2, 3]) rfl e he) ?_
  intro B hK g71
  replace h60 := h60.up hK
  replace h61 := h61.up hK
  replace g66 := g66.up hK
  replace h56 := h56.up hK
  replace h59 := h59.up hK
  replace hB := hB.trans hK
  obtain ⟨y72, hy72, h⟩ := Option.bind_eq_some_iff.1 h
  refine WP.c1 (i := 7) rfl rfl rfl (slices_Concat_alloc_Extent_ok g71 hy72) rfl rfl rfl ?_
  rintro _ B _ hK ⟨v73, b74, n75, c76, rfl, rfl, h77⟩
  obtain ⟨_, _, _, _, _, rfl⟩ := h77.isl
  replace h60 := h60.up hK
  replace h61 := h61.up hK
  replace g66 := g66.up hK
  replace g71 := g71.up hK
  replace h56 := h56.up hK
  replace h59 := h59.up hK
  replace hB := hB.trans hK
  refine WP.q (i := 8) rfl (.bd (bd25_0_1 (cI rfl) (cL rfl))) rfl rfl rfl ?_
  refine WP.msn (i := 9) rfl (MOp.storeW rfl (cA rfl) (.t (.t (.t .h))) ti25 rfl rfl rfl) rfl (by kernel_rfl) rfl ?_
  rintro _ _ rfl
  refine WS.q (i := 10) rfl (.as (v := .int _ _) rfl) rfl rfl rfl rfl ?_
  refine WS.nil ?_
  obtain rfl := Option.some.inj h
  exact WX.ret (rs_ (rs_cell (.ldA (i := 3) rfl rfl rfl ti25 rfl) (rs_tmp rfl rs_nil))) fun st hp => ⟨_, _, hB, (hp.pk [0] (by decide)), _, _, n75, _, rfl, rfl, h77⟩
theorem alloc_Set_Give_j9_ok {B0 : Kn} {L : Own} {n0 : Nat} {x8 : List (Int × Int)} {x9 : List (Int × Int)} {x103 : Bool} {zb2 : Int × (List (Int × Int))} {zb3 : Int × Int} {zb4 : Int × (List (Int × Int))} {r : (Int × (List (Int × Int))) × Int} (h : alloc_Set_Give_j9 x8 x9 x103 zb2 zb3 zb4 = some r) : WXI Try.prog 125 n0 (Fin Try.prog Try.f38.results.toList n0 (alloc_Set_Give_P B0 L r)) [.code (ct [1, 1, 1, 1, 1, 1, 0, 1] (bodyOf Try.f38)), .code (ct [1, 1, 1, 1, 1, 1, 1] (bodyOf Try.f38))] (alloc_Set_Give_j9_I B0 x8 x9 x103 zb2 zb3 zb4) L := by
  unfold alloc_Set_Give_j9 at h
  rintro _ B _ ⟨hB, b45, v46, b47, b48, v49, b49, n49, c49, v50, v51, h46, h49, h50, h51, rfl, rfl⟩
  obtain ⟨_, _, _, _, _, rfl⟩ := h46.isl
  obtain ⟨_, _, _, _, _, rfl⟩ := h49.isl
  obtain ⟨_, _, _, _, _, rfl⟩ := h50.isl
  obtain ⟨_, _, _, _, _, rfl⟩ := h51.isl
  rcases bsp x103 with k52 | k52
  · replace h := (if_pos k52).symm.trans h
    refine WX.condT rfl k52 ?_
    refine WX.drw [0, 1, 2, 3, 4, 5, 6, 7, 8, 9, 10, 11, 12, 13] _ mixed (by kernel_rfl) rfl (pk_sub [0, 1, 2, 3]) ?_
    refine WP.q (i := 0) rfl (.fa (fa35_0 _ _)) rfl rfl rfl ?_
    refine WP.q (i := 1) rfl (.ldS (i := 1) rfl rfl rfl ti3 rfl) rfl rfl rfl ?_
    refine WP.q (i := 2) rfl (.fa (fa35_1 _ _)) rfl rfl rfl ?_
    refine WP.q (i := 3) rfl (.ldS (i := 1) rfl rfl rfl ti3 rfl) rfl rfl rfl ?_
    refine WP.q (i := 4) rfl (.mv (v := .sl _ _ _ _ _ _) rfl) rfl rfl rfl ?_
    obtain ⟨y53, hy53, h⟩ := Option.bind_eq_some_iff.1 h
    obtain ⟨b_y53, o_y53, _, i_y53, p_y53, r_y53⟩ := h51.at sl23 hy53 .i64
    obtain ⟨_, _, rfl, rfl, rfl⟩ := r_y53
    refine WP.q (i := 5) rfl (.ia i_y53) rfl rfl rfl ?_
    refine WP.q (i := 6) rfl (.fa (fa35_1 _ _)) rfl rfl rfl ?_
    refine WP.q (i := 7) rfl (.lpS rfl p_y53 rfl ti3 rfl) rfl rfl rfl ?_
    refine WP.q (i := 8) rfl (.r fun _ => rfl) rfl rfl rfl ?_
    refine WP.q (i := 9) rfl (.bd (bd35_0_1 (cI rfl) (cI rfl))) rfl rfl rfl ?_
    refine WP.q (i := 10) rfl (.mv (v := .sl _ _ _ _ _ _) rfl) rfl rfl rfl ?_
    obtain ⟨y54, hy54, h⟩ := Option.bind_eq_some_iff.1 h
    obtain ⟨v_y54, e_y54, g_y54⟩ := h51.cut sl23 hy54 (lo := some (.int .i64 1)) (hi := none) (bnd_int (cutL_some hy54).1.1) rfl
    obtain ⟨_, _, _, _, _, rfl⟩ := g_y54.isl
    refine WP.q (i := 11) rfl (.sl e_y54) rfl rfl rfl ?_
    refine WP.msn (i := 12) rfl (MOp.storeW rfl (cA rfl) (.t .h) ti35 rfl rfl rfl) rfl (by kernel_rfl) rfl ?_
    rintro _ _ rfl
    refine WS.q (i := 13) rfl (.as (v := .sl _ _ _ _ _ _) rfl) rfl rfl rfl rfl ?_
    refine WS.nil ?_
    refine WX.keep [2, 3, 4, 8, 9] (WX.pk [0, 1, 2, 3] (by decide) ?_) rfl
    exact alloc_Set_Give_j10_ok h _ _ _ ⟨hB, _, _, _, _, _, _, n49, _, _, _, h46, h49, h50, g_y54, rfl, rfl⟩
  · replace h := (if_neg (bnt k52)).symm.trans h
    refine WX.condF rfl k52 ?_
    refine WX.skip ?_
    refine WX.keep [2, 3, 4, 8, 9] (WX.pk [0, 1, 2, 3] (by decide) ?_) rfl
    exact alloc_Set_Give_j10_ok h _ _ _ ⟨hB, _, _, _, _, _, _, n49, _, _, _, h46, h49, h50, h51, rfl, rfl⟩
theorem alloc_Set_Give_j8_ok {B0 : Kn} {L : Own} {n0 : Nat} {x8 : List (Int × Int)} {x9 : List (Int × Int)} {zb2 : Int × (List (Int × Int))} {zb3 : Int × Int} {zb4 : Int × (List (Int × Int))} {r : (Int × (List (Int × Int))) × Int} (h : alloc_Set_Give_j8 x8 x9 zb2 zb3 zb4 = some r) : WXI Try.prog 125 n0 (Fin Try.prog Try.f38.results.toList n0 (alloc_Set_Give_P B0 L r)) [.code (ct [1, 1, 1, 1, 1, 1] (bodyOf Try.f38))] (alloc_Set_Give_j8_I B0 x8 x9 zb2 zb3 zb4) L := by
  unfold alloc_Set_Give_j8 at h
  rintro _ B _ ⟨hB, b35, v36, b37, b38, v39, b39, n39, c39, v40, v41, h36, h39, h40, h41, rfl, rfl⟩
  obtain ⟨_, _, _, _, _, rfl⟩ := h36.isl
  obtain ⟨_, _, _, _, _, rfl⟩ := h39.isl
  obtain ⟨_, _, _, _, _, rfl⟩ := h40.isl
  obtain ⟨_, _, _, _, _, rfl⟩ := h41.isl
  refine WX.seq ?_
  refine WX.seq ?_
  refine WX.drw [0, 1, 2, 3, 4, 5, 6, 7, 8, 9, 10, 11] _ mixed (by kernel_rfl) rfl (pk_sub [0, 1, 2, 3]) ?_
  refine WP.q (i := 0) rfl (.mv (v := .sl _ _ _ _ _ _) rfl) rfl rfl rfl ?_
  refine WP.q (i := 1) rfl (.len rfl rfl rfl (sl23.len h41.isl)) rfl rfl rfl ?_
  refine WP.q (i := 2) rfl (.r fun _ => rfl) rfl rfl rfl ?_
  refine WP.q (i := 3) rfl (.mv (v := .bool _) rfl) rfl rfl rfl ?_
  rcases bsp (decide (0 < (x9.length : Int))) with k42 | k42
  · have q_k42 := of_decide_eq_true k42
    replace h := (if_pos q_k42).symm.trans h
    refine WP.q (i := 4) rfl (.mv (v := .sl _ _ _ _ _ _) rfl) rfl (wg rfl rfl (gt k42)) rfl ?_
    obtain ⟨y43, hy43, h⟩ := Option.bind_eq_some_iff.1 h
    obtain ⟨b_y43, o_y43, _, i_y43, p_y43, r_y43⟩ := h41.at sl23 hy43 .i64
    obtain ⟨_, _, rfl, rfl, rfl⟩ := r_y43
    refine WP.q (i := 5) rfl (.ia i_y43) rfl (wg rfl rfl (gt k42)) rfl ?_
    refine WP.q (i := 6) rfl (.fa (fa35_0 _ _)) rfl (wg rfl rfl (gt k42)) rfl ?_
    refine WP.q (i := 7) rfl (.lpS rfl p_y43 rfl ti3 rfl) rfl (wg rfl rfl (gt k42)) rfl ?_
    refine WP.q (i := 8) rfl (.ldA (i := 1) rfl rfl rfl ti35 rfl) rfl (wg rfl rfl (gt k42)) rfl ?_
    obtain ⟨y44, hy44, h⟩ := Option.bind_eq_some_iff.1 h
    refine WP.cS (i := 9) rfl rfl rfl (alloc_Extent_end_ok hy44) rfl (wg rfl rfl (gt k42)) rfl ?_
    rintro _ rfl
    refine WP.q (i := 10) rfl (.r fun _ => rfl) rfl (wg rfl rfl (gt k42)) rfl ?_
    refine WP.q (i := 11) rfl (.ptv (v := .bool _) rfl k42 rfl) rfl rfl rfl ?_
    refine WP.nil ?_
    refine WX.keep [2, 3, 4, 8, 9, 103] (WX.pk [0, 1, 2, 3] (by decide) ?_) rfl
    exact alloc_Set_Give_j9_ok h _ _ _ ⟨hB, _, _, _, _, _, _, n39, _, _, _, h36, h39, h40, h41, rfl, rfl⟩
  · have q_k42 := of_decide_eq_false k42
    replace h := (if_neg q_k42).symm.trans h
    refine WP.sk (i := 4) rfl rfl (wg rfl rfl (gtn k42)) rfl ?_
    refine WP.sk (i := 5) rfl rfl (wg rfl rfl (gtn k42)) rfl ?_
    refine WP.sk (i := 6) rfl rfl (wg rfl rfl (gtn k42)) rfl ?_
    refine WP.sk (i := 7) rfl rfl (wg rfl rfl (gtn k42)) rfl ?_
    refine WP.sk (i := 8) rfl rfl (wg rfl rfl (gtn k42)) rfl ?_
    refine WP.sd (i := 9) rfl rfl (wg rfl rfl (gtn k42)) rfl ?_
    refine WP.sk (i := 10) rfl rfl (wg rfl rfl (gtn k42)) rfl ?_
    refine WP.q (i := 11) rfl (.pfv (v := .bool _) rfl k42 rfl) rfl rfl rfl ?_
    refine WP.nil ?_
    refine WX.keep [2, 3, 4, 8, 9, 103] (WX.pk [0, 1, 2, 3] (by decide) ?_) rfl
    exact alloc_Set_Give_j9_ok h _ _ _ ⟨hB, _, _, _, _, _, _, n39, _, _, _, h36, h39, h40, h41, rfl, rfl⟩
theorem alloc_Set_Give_j7_ok {B0 : Kn} {L : Own} {n0 : Nat} {x6 : Int} {x8 : List (Int × Int)} {x9 : List (Int × Int)} {x71 : Bool} {zb2 : Int × (List (Int × Int))} {zb3 : Int × Int} {zb4 : Int × (List (Int × Int))} {r : (Int × (List (Int × Int))) × Int} (h : alloc_Set_Give_j7 x6 x8 x9 x71 zb2 zb3 zb4 = some r) : WXI Try.prog 125 n0 (Fin Try.prog Try.f38.results.toList n0 (alloc_Set_Give_P B0 L r)) [.code (ct [1, 1, 1, 1, 1, 0, 1] (bodyOf Try.f38)), .code (ct [1, 1, 1, 1, 1, 1] (bodyOf Try.f38))] (alloc_Set_Give_j7_I B0 x6 x8 x9 x71 zb2 zb3 zb4) L := by
  unfold alloc_Set_Give_j7 at h
  rintro _ B _ ⟨hB, b24, v25, b26, b27, v28, b28, n28, c28, v29, v30, h25, h28, h29, h30, rfl, rfl⟩
  obtain ⟨_, _, _, _, _, rfl⟩ := h25.isl
  obtain ⟨_, _, _, _, _, rfl⟩ := h28.isl
  obtain ⟨_, _, _, _, _, rfl⟩ := h29.isl
  obtain ⟨_, _, _, _, _, rfl⟩ := h30.isl
  rcases bsp x71 with k31 | k31
  · replace h := (if_pos k31).symm.trans h
    refine WX.condT rfl k31 ?_
    refine WX.drw [0, 1, 2, 3, 4, 5, 6, 7, 8, 9, 10, 11, 12, 13, 14, 15, 16, 17, 18, 19, 20, 21] _ mixed (by kernel_rfl) rfl (pk_sub [0, 1, 2, 3]) ?_
    refine WP.q (i := 0) rfl (.mv (v := .sl _ _ _ _ _ _) rfl) rfl rfl rfl ?_
    refine WP.q (i := 1) rfl (.mv (v := .int _ _) rfl) rfl rfl rfl ?_
    refine WP.q (i := 2) rfl (.r fun _ => rfl) rfl rfl rfl ?_
    obtain ⟨y32, hy32, h⟩ := Option.bind_eq_some_iff.1 h
    obtain ⟨b_y32, o_y32, _, i_y32, p_y32, r_y32⟩ := h29.at sl23 hy32 .i64
    obtain ⟨_, _, rfl, rfl, rfl⟩ := r_y32
    refine WP.q (i := 3) rfl (.ia i_y32) rfl rfl rfl ?_
    refine WP.q (i := 4) rfl (.fa (fa35_0 _ _)) rfl rfl rfl ?_
    refine WP.q (i := 5) rfl (.lpS rfl p_y32 rfl ti3 rfl) rfl rfl rfl ?_
    refine WP.q (i := 6) rfl (.mv (v := .sl _ _ _ _ _ _) rfl) rfl rfl rfl ?_
    refine WP.q (i := 7) rfl (.mv (v := .int _ _) rfl) rfl rfl rfl ?_
    refine WP.q (i := 8) rfl (.r fun _ => rfl) rfl rfl rfl ?_
    obtain ⟨y33, hy33, h⟩ := Option.bind_eq_some_iff.1 h
    obtain ⟨b_y33, o_y33, _, i_y33, p_y33, r_y33⟩ := h29.at sl23 hy33 .i64
    obtain ⟨_, _, rfl, rfl, rfl⟩ := r_y33
    refine WP.q (i := 9) rfl (.ia i_y33) rfl rfl rfl ?_
    refine WP.q (i := 10) rfl (.fa (fa35_1 _ _)) rfl rfl rfl ?_
    refine WP.q (i := 11) rfl (.lpS rfl p_y33 rfl ti3 rfl) rfl rfl rfl ?_
    refine WP.q (i := 12) rfl (.fa (fa35_1 _ _)) rfl rfl rfl ?_
    refine WP.q (i := 13) rfl (.ldS (i := 1) rfl rfl rfl ti3 rfl) rfl rfl rfl ?_
    refine WP.q (i := 14) rfl (.r fun _ => rfl) rfl rfl rfl ?_
    refine WP.q (i := 15) rfl (.bd (bd35_0_1 (cI rfl) (cI rfl))) rfl rfl rfl ?_
    refine WP.q (i := 16) rfl (.mv (v := .sl _ _ _ _ _ _) rfl) rfl rfl rfl ?_
    refine WP.q (i := 17) rfl (.mv (v := .int _ _) rfl) rfl rfl rfl ?_
    refine WP.q (i := 18) rfl (.r fun _ => rfl) rfl rfl rfl ?_
    obtain ⟨y34, hy34, h⟩ := Option.bind_eq_some_iff.1 h
    obtain ⟨v_y34, e_y34, g_y34⟩ := h29.cut sl23 hy34 (lo := none) (hi := some (.int .i64 (wi64 (x6 - 1)))) bnd_none (bnd_int (Int.le_trans (cutL_some hy34).1.1 (cutL_some hy34).1.2.1))
    obtain ⟨_, _, _, _, _, rfl⟩ := g_y34.isl
    refine WP.q (i := 19) rfl (.sl e_y34) rfl rfl rfl ?_
    refine WP.msn (i := 20) rfl (MOp.storeW rfl (cA rfl) (.t .h) ti35 rfl rfl rfl) rfl (by kernel_rfl) rfl ?_
    rintro _ _ rfl
    refine WS.q (i := 21) rfl (.as (v := .sl _ _ _ _ _ _) rfl) rfl rfl rfl rfl ?_
    refine WS.nil ?_
    refine WX.keep [2, 3, 4, 8, 9] (WX.pk [0, 1, 2, 3] (by decide) ?_) rfl
    exact alloc_Set_Give_j8_ok h _ _ _ ⟨hB, _, _, _, _, _, _, n28, _, _, _, h25, h28, g_y34, h30, rfl, rfl⟩
  · replace h := (if_neg (bnt k31)).symm.trans h
    refine WX.condF rfl k31 ?_
    refine WX.skip ?_
    refine WX.keep [2, 3, 4, 8, 9] (WX.pk [0, 1, 2, 3] (by decide) ?_) rfl
    exact alloc_Set_Give_j8_ok h _ _ _ ⟨hB, _, _, _, _, _, _, n28, _, _, _, h25, h28, h29, h30, rfl, rfl⟩
theorem alloc_Set_Give_j5_ok {B0 : Kn} {L : Own} {n0 : Nat} {x6 : Int} {x8 : List (Int × Int)} {x9 : List (Int × Int)} {x57 : Bool} {zb2 : Int × (List (Int × Int))} {zb3 : Int × Int} {zb4 : Int × (List (Int × Int))} {r : (Int × (List (Int × Int))) × Int} (h : alloc_Set_Give_j5 x6 x8 x9 x57 zb2 zb3 zb4 = some r) : WXI Try.prog 125 n0 (Fin Try.prog Try.f38.results.toList n0 (alloc_Set_Give_P B0 L r)) [.code (ct [1, 1, 1, 1, 0, 1] (bodyOf Try.f38)), .code (ct [1, 1, 1, 1, 1] (bodyOf Try.f38))] (alloc_Set_Give_j5_I B0 x6 x8 x9 x57 zb2 zb3 zb4) L := by
  unfold alloc_Set_Give_j5 at h
  rintro _ B _ ⟨hB, b13, v14, b15, b16, v17, b17, n17, c17, v18, v19, h14, h17, h18, h19, rfl, rfl⟩
  obtain ⟨_, _, _, _, _, rfl⟩ := h14.isl
  obtain ⟨_, _, _, _, _, rfl⟩ := h17.isl
  obtain ⟨_, _, _, _, _, rfl⟩ := h18.isl
  obtain ⟨_, _, _, _, _, rfl⟩ := h19.isl
  rcases bsp x57 with k20 | k20
  · replace h := (if_pos k20).symm.trans h
    refine WX.condT rfl k20 ?_
    refine WX.seq ?_
    refine WX.reg ?_
    refine WO.q (.bd (bd25_n)) rfl rfl ?_
    refine WO.mn (MOp.storeW rfl (cA rfl) (.t (.t .h)) ti25 rfl rfl rfl) rfl ?_
    rintro _ _ rfl
    refine WO.q (.as (v := .int _ _) rfl) rfl rfl ?_
    refine WO.nil ?_
    obtain rfl := Option.some.inj h
    exact WX.ret (rs_ (rs_cell (.ldA (i := 2) rfl rfl rfl ti25 rfl) (rs_tmp rfl rs_nil))) fun st hp => ⟨_, _, hB, ((hp.pk [] (by decide)).skip 0), _, 0, true, [], rfl, rfl, OSl.none _ _⟩
  · replace h := (if_neg (bnt k20)).symm.trans h
    refine WX.condF rfl k20 ?_
    refine WX.skip ?_
    refine WX.seq ?_
    refine WX.seq ?_
    refine WX.drw [0, 1, 2, 3, 4, 5, 6, 7, 9, 10, 8, 11, 12] _ mixed (by kernel_rfl) rfl (pk_sub [0, 1, 2, 3]) ?_
    refine WP.q (i := 0) rfl (.mv (v := .int _ _) rfl) rfl rfl rfl ?_
    refine WP.q (i := 1) rfl (.r fun _ => rfl) rfl rfl rfl ?_
    refine WP.q (i := 2) rfl (.mv (v := .bool _) rfl) rfl rfl rfl ?_
    rcases bsp (decide (0 < x6)) with k21 | k21
    · have q_k21 := of_decide_eq_true k21
      replace h := (if_pos q_k21).symm.trans h
      refine WP.q (i := 3) rfl (.mv (v := .sl _ _ _ _ _ _) rfl) rfl (wg rfl rfl (gt k21)) rfl ?_
      refine WP.q (i := 4) rfl (.mv (v := .int _ _) rfl) rfl (wg rfl rfl (gt k21)) rfl ?_
      refine WP.q (i := 5) rfl (.r fun _ => rfl) rfl (wg rfl rfl (gt k21)) rfl ?_
      obtain ⟨y22, hy22, h⟩ := Option.bind_eq_some_iff.1 h
      obtain ⟨b_y22, o_y22, _, i_y22, p_y22, r_y22⟩ := h18.at sl23 hy22 .i64
      obtain ⟨_, _, rfl, rfl, rfl⟩ := r_y22
      refine WP.q (i := 6) rfl (.ia i_y22) rfl (wg rfl rfl (gt k21)) rfl ?_
      refine WP.q (i := 7) rfl (.lpA rfl p_y22 ti35 rfl rfl) rfl (wg rfl rfl (gt k21)) rfl ?_
      refine WP.q (i := 9) rfl (.fa (fa35_0 _ _)) rfl (wg rfl rfl (gt k21)) rfl ?_
      refine WP.q (i := 10) rfl (.ldS (i := 1) rfl rfl rfl ti3 rfl) rfl (wg rfl rfl (gt k21)) rfl ?_
      obtain ⟨y23, hy23, h⟩ := Option.bind_eq_some_iff.1 h
      refine WP.cS (i := 8) rfl rfl rfl (alloc_Extent_end_ok hy23) rfl (wg rfl rfl (gt k21)) rfl ?_
      rintro _ rfl
      refine WP.q (i := 11) rfl (.r fun _ => rfl) rfl (wg rfl rfl (gt k21)) rfl ?_
      refine WP.q (i := 12) rfl (.ptv (v := .bool _) rfl k21 rfl) rfl rfl rfl ?_
      refine WP.nil ?_
      refine WX.keep [2, 3, 4, 6, 8, 9, 71] (WX.pk [0, 1, 2, 3] (by decide) ?_) rfl
      exact alloc_Set_Give_j7_ok h _ _ _ ⟨hB, _, _, _, _, _, _, n17, _, _, _, h14, h17, h18, h19, rfl, rfl⟩
    · have q_k21 := of_decide_eq_false k21
      replace h := (if_neg q_k21).symm.trans h
      refine WP.sk (i := 3) rfl rfl (wg rfl rfl (gtn k21)) rfl ?_
      refine WP.sk (i := 4) rfl rfl (wg rfl rfl (gtn k21)) rfl ?_
      refine WP.sk (i := 5) rfl rfl (wg rfl rfl (gtn k21)) rfl ?_
      refine WP.sk (i := 6) rfl rfl (wg rfl rfl (gtn k21)) rfl ?_
      refine WP.sk (i := 7) rfl rfl (wg rfl rfl (gtn k21)) rfl ?_
      refine WP.sk (i := 9) rfl rfl (wg rfl rfl (gtn k21)) rfl ?_
      refine WP.sk (i := 10) rfl rfl (wg rfl rfl (gtn k21)) rfl ?_
      refine WP.sd (i := 8) rfl rfl (wg rfl rfl (gtn k21)) rfl ?_
      refine WP.sk (i := 11) rfl rfl (wg rfl rfl (gtn k21)) rfl ?_
      refine WP.q (i := 12) rfl (.pfv (v := .bool _) rfl k21 rfl) rfl rfl rfl ?_
      refine WP.nil ?_
      refine WX.keep [2, 3, 4, 6, 8, 9, 71] (WX.pk [0, 1, 2, 3] (by decide) ?_) rfl
      exact alloc_Set_Give_j7_ok h _ _ _ ⟨hB, _, _, _, _, _, _, n17, _, _, _, h14, h17, h18, h19, rfl, rfl⟩
theorem alloc_Set_Give_ok {B0 : Kn} {L : Own} {a0 : Int × (List (Int × Int))} {a1 : Int × Int} {v0_0 : AV} {r : (Int × (List (Int × Int))) × Int} (g0_0 : RSl EPIi64Ii64Q B0 v0_0 a0.2) (h : alloc_Set_Give a0 a1 = some r) : ∀ st, Hp B0 L st → ASpec Try.prog 38 [.agg [.int .i64 a0.1, v0_0], .agg [.int .i64 a1.1, .int .i64 a1.2]] st (alloc_Set_Give_P B0 L r) := by
  unfold alloc_Set_Give at h
  refine bodyA (A := []) Try.func38 rfl (c := bodyOf Try.f38) rfl Try.ntmps38 (lb rfl) fun n0 => ?_
  have hB := KLe.refl B0
  obtain ⟨_, _, _, _, _, rfl⟩ := g0_0.isl
  refine WX.seq ?_
  refine WX.reg ?_
  refine WO.md (MOp.box (cA rfl)) rfl rfl ?_
  rintro _ _ ⟨b1, rfl, rfl⟩
  refine WO.md (MOp.box (cA rfl)) rfl rfl ?_
  rintro _ _ ⟨b2, rfl, rfl⟩
  refine WO.md (MOp.alloc ti25 rfl) rfl rfl ?_
  rintro _ _ ⟨b3, rfl, rfl⟩
  refine WO.q (.as (v := .int _ _) rfl) rfl rfl ?_
  refine WO.nil ?_
  refine WX.seq ?_
  refine WX.seq ?_
  refine WX.reg ?_
  refine WO.q (.ldA (i := 2) rfl rfl rfl ti25 rfl) rfl rfl ?_
  refine WO.q (.ldA (i := 1) rfl rfl rfl ti35 rfl) rfl rfl ?_
  obtain ⟨y4, hy4, h⟩ := Option.bind_eq_some_iff.1 h
  refine WO.cS rfl rfl (alloc_Set_may_ok g0_0 hy4) rfl rfl rfl ?_
  rintro _ rfl
  refine WO.q (.r fun _ => rfl) rfl rfl ?_
  refine WO.nil ?_
  rcases bsp y4 with k5 | k5
  · replace h := (if_pos k5).symm.trans h
    refine WX.condF rfl (f_not k5) ?_
    refine WX.skip ?_
    refine WX.seq ?_
    refine WX.reg ?_
    refine WO.q (.fa (fa25_1 _ _)) rfl rfl ?_
    refine WO.q (.ldS (i := 2) rfl rfl rfl ti23 rfl) rfl rfl ?_
    refine WO.q (.fa (fa35_0 _ _)) rfl rfl ?_
    refine WO.q (.ldS (i := 1) rfl rfl rfl ti3 rfl) rfl rfl ?_
    obtain ⟨y6, hy6, h⟩ := Option.bind_eq_some_iff.1 h
    refine WO.cS rfl rfl (slices_BinarySearchFunc_alloc_Extent_int_ok (fun _ _ _ hx _ _ _ => alloc_Set_Give_1_ok hx) g0_0 hy6) rfl rfl rfl ?_
    rintro _ rfl
    refine WO.q (.mv (v := .tup _) rfl) rfl rfl ?_
    refine WO.q (.r fun _ => rfl) rfl rfl ?_
    refine WO.q (.r fun _ => rfl) rfl rfl ?_
    refine WO.q (.as (v := .int _ _) rfl) rfl rfl ?_
    refine WO.q (.as (v := .bool _) rfl) rfl rfl ?_
    refine WO.nil ?_
    refine WX.seq ?_
    refine WX.drw [0, 1, 2, 3, 4, 5, 6, 7, 8, 9] _ mixed (by kernel_rfl) rfl (pk_sub [0, 1, 2]) ?_
    refine WP.q (i := 0) rfl (.fa (fa25_1 _ _)) rfl rfl rfl ?_
    refine WP.q (i := 1) rfl (.ldS (i := 2) rfl rfl rfl ti23 rfl) rfl rfl rfl ?_
    refine WP.q (i := 2) rfl (.mv (v := .int _ _) rfl) rfl rfl rfl ?_
    obtain ⟨y7, hy7, h⟩ := Option.bind_eq_some_iff.1 h
    obtain ⟨v_y7, e_y7, g_y7⟩ := g0_0.cut sl23 hy7 (lo := none) (hi := some (.int .i64 y6.1)) bnd_none (bnd_int (Int.le_trans (cutL_some hy7).1.1 (cutL_some hy7).1.2.1))
    obtain ⟨_, _, _, _, _, rfl⟩ := g_y7.isl
    refine WP.q (i := 3) rfl (.sl e_y7) rfl rfl rfl ?_
    refine WP.q (i := 4) rfl (.fa (fa25_1 _ _)) rfl rfl rfl ?_
    refine WP.q (i := 5) rfl (.ldS (i := 2) rfl rfl rfl ti23 rfl) rfl rfl rfl ?_
    refine WP.q (i := 6) rfl (.mv (v := .int _ _) rfl) rfl rfl rfl ?_
    obtain ⟨y8, hy8, h⟩ := Option.bind_eq_some_iff.1 h
    obtain ⟨v_y8, e_y8, g_y8⟩ := g0_0.cut sl23 hy8 (lo := some (.int .i64 y6.1)) (hi := none) (bnd_int (cutL_some hy8).1.1) rfl
    obtain ⟨_, _, _, _, _, rfl⟩ := g_y8.isl
    refine WP.q (i := 7) rfl (.sl e_y8) rfl rfl rfl ?_
    refine WP.q (i := 8) rfl (.as (v := .sl _ _ _ _ _ _) rfl) rfl rfl rfl ?_
    refine WP.q (i := 9) rfl (.as (v := .sl _ _ _ _ _ _) rfl) rfl rfl rfl ?_
    refine WP.nil ?_
    refine WX.seq ?_
    refine WX.seq ?_
    refine WX.drw [0, 1, 2, 3, 4, 5, 6, 7, 9, 10, 8, 11, 12, 13, 14, 15, 16, 17, 18, 19, 20, 21, 22, 23, 24, 25, 26] _ mixed (by kernel_rfl) rfl (pk_sub [0, 1, 2]) ?_
    refine WP.q (i := 0) rfl (.mv (v := .int _ _) rfl) rfl rfl rfl ?_
    refine WP.q (i := 1) rfl (.r fun _ => rfl) rfl rfl rfl ?_
    refine WP.q (i := 2) rfl (.mv (v := .bool _) rfl) rfl rfl rfl ?_
    rcases bsp (decide (0 < y6.1)) with k9 | k9
    · have q_k9 := of_decide_eq_true k9
      replace h := (if_pos q_k9).symm.trans h
      refine WP.q (i := 3) rfl (.mv (v := .sl _ _ _ _ _ _) rfl) rfl (wg rfl rfl (gt k9)) rfl ?_
      refine WP.q (i := 4) rfl (.mv (v := .int _ _) rfl) rfl (wg rfl rfl (gt k9)) rfl ?_
      refine WP.q (i := 5) rfl (.r fun _ => rfl) rfl (wg rfl rfl (gt k9)) rfl ?_
      obtain ⟨y10, hy10, h⟩ := Option.bind_eq_some_iff.1 h
      obtain ⟨b_y10, o_y10, _, i_y10, p_y10, r_y10⟩ := g_y7.at sl23 hy10 .i64
      obtain ⟨_, _, rfl, rfl, rfl⟩ := r_y10
      refine WP.q (i := 6) rfl (.ia i_y10) rfl (wg rfl rfl (gt k9)) rfl ?_
      refine WP.q (i := 7) rfl (.lpA rfl p_y10 ti35 rfl rfl) rfl (wg rfl rfl (gt k9)) rfl ?_
      refine WP.q (i := 9) rfl (.fa (fa35_0 _ _)) rfl (wg rfl rfl (gt k9)) rfl ?_
      refine WP.q (i := 10) rfl (.ldS (i := 1) rfl rfl rfl ti3 rfl) rfl (wg rfl rfl (gt k9)) rfl ?_
      obtain ⟨y11, hy11, h⟩ := Option.bind_eq_some_iff.1 h
      refine WP.cS (i := 8) rfl rfl rfl (alloc_Extent_end_ok hy11) rfl (wg rfl rfl (gt k9)) rfl ?_
      rintro _ rfl
      refine WP.q (i := 11) rfl (.r fun _ => rfl) rfl (wg rfl rfl (gt k9)) rfl ?_
      refine WP.q (i := 12) rfl (.ptv (v := .bool _) rfl k9 rfl) rfl rfl rfl ?_
      refine WP.q (i := 13) rfl (.mv (v := .bool _) rfl) rfl rfl rfl ?_
      rcases bsp (decide (a1.1 < y11)) with k12 | k12
      · have q_k12 := of_decide_eq_true k12
        replace h := (if_pos q_k12).symm.trans h
        refine WP.sk (i := 14) rfl rfl (wg rfl rfl (gfn k12)) rfl ?_
        refine WP.sk (i := 15) rfl rfl (wg rfl rfl (gfn k12)) rfl ?_
        refine WP.sk (i := 16) rfl rfl (wg rfl rfl (gfn k12)) rfl ?_
        refine WP.sk (i := 17) rfl rfl (wg rfl rfl (gfn k12)) rfl ?_
        refine WP.sk (i := 18) rfl rfl (wgu rfl rfl) rfl ?_
        refine WP.sk (i := 19) rfl rfl (wgu rfl rfl) rfl ?_
        refine WP.sk (i := 20) rfl rfl (wgu rfl rfl) rfl ?_
        refine WP.sk (i := 21) rfl rfl (wgu rfl rfl) rfl ?_
        refine WP.sk (i := 22) rfl rfl (wgu rfl rfl) rfl ?_
        refine WP.sd (i := 23) rfl rfl (wgu rfl rfl) rfl ?_
        refine WP.sk (i := 24) rfl rfl (wgu rfl rfl) rfl ?_
        refine WP.sk (i := 25) rfl rfl (wg rfl rfl (gfn k12)) rfl ?_
        refine WP.q (i := 26) rfl (.ptv (v := .bool _) rfl k12 rfl) rfl rfl rfl ?_
        refine WP.nil ?_
        refine WX.keep [2, 3, 4, 6, 8, 9, 57] (WX.pk [2, 1, 0] (by decide) (WX.addn [3] ?_)) rfl
        exact alloc_Set_Give_j5_ok h _ _ _ ⟨hB, _, _, _, _, _, 0, true, [], _, _, g0_0, OSl.none _ _, g_y7, g_y8, rfl, rfl⟩
      · have q_k12 := of_decide_eq_false k12
        replace h := (if_neg q_k12).symm.trans h
        refine WP.q (i := 14) rfl (.mv (v := .sl _ _ _ _ _ _) rfl) rfl (wg rfl rfl (gf k12)) rfl ?_
        refine WP.q (i := 15) rfl (.len rfl rfl rfl (sl23.len g_y8.isl)) rfl (wg rfl rfl (gf k12)) rfl ?_
        refine WP.q (i := 16) rfl (.r fun _ => rfl) rfl (wg rfl rfl (gf k12)) rfl ?_
        refine WP.q (i := 17) rfl (.mv (v := .bool _) rfl) rfl (wg rfl rfl (gf k12)) rfl ?_
        rcases bsp (decide (0 < (y8.length : Int))) with k78 | k78
        · have q_k78 := of_decide_eq_true k78
          replace h := (if_pos q_k78).symm.trans h
          refine WP.q (i := 18) rfl (.mv (v := .sl _ _ _ _ _ _) rfl) rfl (wg rfl rfl (gt k78)) rfl ?_
          obtain ⟨y79, hy79, h⟩ := Option.bind_eq_some_iff.1 h
          obtain ⟨b_y79, o_y79, _, i_y79, p_y79, r_y79⟩ := g_y8.at sl23 hy79 .i64
          obtain ⟨_, _, rfl, rfl, rfl⟩ := r_y79
          refine WP.q (i := 19) rfl (.ia i_y79) rfl (wg rfl rfl (gt k78)) rfl ?_
          refine WP.q (i := 20) rfl (.fa (fa35_0 _ _)) rfl (wg rfl rfl (gt k78)) rfl ?_
          refine WP.q (i := 21) rfl (.lpS rfl p_y79 rfl ti3 rfl) rfl (wg rfl rfl (gt k78)) rfl ?_
          refine WP.q (i := 22) rfl (.ldA (i := 1) rfl rfl rfl ti35 rfl) rfl (wg rfl rfl (gt k78)) rfl ?_
          obtain ⟨y80, hy80, h⟩ := Option.bind_eq_some_iff.1 h
          refine WP.cS (i := 23) rfl rfl rfl (alloc_Extent_end_ok hy80) rfl (wg rfl rfl (gt k78)) rfl ?_
          rintro _ rfl
          refine WP.q (i := 24) rfl (.r fun _ => rfl) rfl (wg rfl rfl (gt k78)) rfl ?_
          refine WP.q (i := 25) rfl (.ptv (v := .bool _) rfl k78 rfl) rfl (wg rfl rfl (gf k12)) rfl ?_
          refine WP.q (i := 26) rfl (.pfv (v := .bool _) rfl k12 rfl) rfl rfl rfl ?_
          refine WP.nil ?_
          refine WX.keep [2, 3, 4, 6, 8, 9, 57] (WX.pk [2, 1, 0] (by decide) (WX.addn [3] ?_)) rfl
          exact alloc_Set_Give_j5_ok h _ _ _ ⟨hB, _, _, _, _, _, 0, true, [], _, _, g0_0, OSl.none _ _, g_y7, g_y8, rfl, rfl⟩
        · have q_k78 := of_decide_eq_false k78
          replace h := (if_neg q_k78).symm.trans h
          refine WP.sk (i := 18) rfl rfl (wg rfl rfl (gtn k78)) rfl ?_
          refine WP.sk (i := 19) rfl rfl (wg rfl rfl (gtn k78)) rfl ?_
          refine WP.sk (i := 20) rfl rfl (wg rfl rfl (gtn k78)) rfl ?_
          refine WP.sk (i := 21) rfl rfl (wg rfl rfl (gtn k78)) rfl ?_
          refine WP.sk (i := 22) rfl rfl (wg rfl rfl (gtn k78)) rfl ?_
          refine WP.sd (i := 23) rfl rfl (wg rfl rfl (gtn k78)) rfl ?_
          refine WP.sk (i := 24) rfl rfl (wg rfl rfl (gtn k78)) rfl ?_
          refine WP.q (i := 25) rfl (.pfv (v := .bool _) rfl k78 rfl) rfl (wg rfl rfl (gf k12)) rfl ?_
          refine WP.q (i := 26) rfl (.pfv (v := .bool _) rfl k12 rfl) rfl rfl rfl ?_
          refine WP.nil ?_
          refine WX.keep [2, 3, 4, 6, 8, 9, 57] (WX.pk [2, 1, 0] (by decide) (WX.addn [3] ?_)) rfl
          exact alloc_Set_Give_j5_ok h _ _ _ ⟨hB, _, _, _, _, _, 0, true, [], _, _, g0_0, OSl.none _ _, g_y7, g_y8, rfl, rfl⟩
    · have q_k9 := of_decide_eq_false k9
      replace h := (if_neg q_k9).symm.trans h
      refine WP.sk (i := 3) rfl rfl (wg rfl rfl (gtn k9)) rfl ?_
      refine WP.sk (i := 4) rfl rfl (wg rfl rfl (gtn k9)) rfl ?_
      refine WP.sk (i := 5) rfl rfl (wg rfl rfl (gtn k9)) rfl ?_
      refine WP.sk (i := 6) rfl rfl (wg rfl rfl (gtn k9)) rfl ?_
      refine WP.sk (i := 7) rfl rfl (wg rfl rfl (gtn k9)) rfl ?_
      refine WP.sk (i := 9) rfl rfl (wg rfl rfl (gtn k9)) rfl ?_
      refine WP.sk (i := 10) rfl rfl (wg rfl rfl (gtn k9)) rfl ?_
      refine WP.sd (i := 8) rfl rfl (wg rfl rfl (gtn k9)) rfl ?_
      refine WP.sk (i := 11) rfl rfl (wg rfl rfl (gtn k9)) rfl ?_
      refine WP.q (i := 12) rfl (.pfv (v := .bool _) rfl k9 rfl) rfl rfl rfl ?_
      refine WP.q (i := 13) rfl (.mv (v := .bool _) rfl) rfl rfl rfl ?_
      refine WP.q (i := 14) rfl (.mv (v := .sl _ _ _ _ _ _) rfl) rfl (wg rfl rfl (gf rfl)) rfl ?_
      refine WP.q (i := 15) rfl (.len rfl rfl rfl (sl23.len g_y8.isl)) rfl (wg rfl rfl (gf rfl)) rfl ?_
      refine WP.q (i := 16) rfl (.r fun _ => rfl) rfl (wg rfl rfl (gf rfl)) rfl ?_
      refine WP.q (i := 17) rfl (.mv (v := .bool _) rfl) rfl (wg rfl rfl (gf rfl)) rfl ?_
      rcases bsp (decide (0 < (y8.length : Int))) with k81 | k81
      · have q_k81 := of_decide_eq_true k81
        replace h := (if_pos q_k81).symm.trans h
        refine WP.q (i := 18) rfl (.mv (v := .sl _ _ _ _ _ _) rfl) rfl (wg rfl rfl (gt k81)) rfl ?_
        obtain ⟨y82, hy82, h⟩ := Option.bind_eq_some_iff.1 h
        obtain ⟨b_y82, o_y82, _, i_y82, p_y82, r_y82⟩ := g_y8.at sl23 hy82 .i64
        obtain ⟨_, _, rfl, rfl, rfl⟩ := r_y82
        refine WP.q (i := 19) rfl (.ia i_y82) rfl (wg rfl rfl (gt k81)) rfl ?_
        refine WP.q (i := 20) rfl (.fa (fa35_0 _ _)) rfl (wg rfl rfl (gt k81)) rfl ?_
        refine WP.q (i := 21) rfl (.lpS rfl p_y82 rfl ti3 rfl) rfl (wg rfl rfl (gt k81)) rfl ?_
        refine WP.q (i := 22) rfl (.ldA (i := 1) rfl rfl rfl ti35 rfl) rfl (wg rfl rfl (gt k81)) rfl ?_
        obtain ⟨y83, hy83, h⟩ := Option.bind_eq_some_iff.1 h
        refine WP.cS (i := 23) rfl rfl rfl (alloc_Extent_end_ok hy83) rfl (wg rfl rfl (gt k81)) rfl ?_
        rintro _ rfl
        refine WP.q (i := 24) rfl (.r fun _ => rfl) rfl (wg rfl rfl (gt k81)) rfl ?_
        refine WP.q (i := 25) rfl (.ptv (v := .bool _) rfl k81 rfl) rfl (wg rfl rfl (gf rfl)) rfl ?_
        refine WP.q (i := 26) rfl (.pfv (v := .bool _) rfl rfl rfl) rfl rfl rfl ?_
        refine WP.nil ?_
        refine WX.keep [2, 3, 4, 6, 8, 9, 57] (WX.pk [2, 1, 0] (by decide) (WX.addn [3] ?_)) rfl
        exact alloc_Set_Give_j5_ok h _ _ _ ⟨hB, _, _, _, _, _, 0, true, [], _, _, g0_0, OSl.none _ _, g_y7, g_y8, rfl, rfl⟩
      · have q_k81 := of_decide_eq_false k81
        replace h := (if_neg q_k81).symm.trans h
        refine WP.sk (i := 18) rfl rfl (wg rfl rfl (gtn k81)) rfl ?_
        refine WP.sk (i := 19) rfl rfl (wg rfl rfl (gtn k81)) rfl ?_
        refine WP.sk (i := 20) rfl rfl (wg rfl rfl (gtn k81)) rfl ?_
        refine WP.sk (i := 21) rfl rfl (wg rfl rfl (gtn k81)) rfl ?_
        refine WP.sk (i := 22) rfl rfl (wg rfl rfl (gtn k81)) rfl ?_
        refine WP.sd (i := 23) rfl rfl (wg rfl rfl (gtn k81)) rfl ?_
        refine WP.sk (i := 24) rfl rfl (wg rfl rfl (gtn k81)) rfl ?_
        refine WP.q (i := 25) rfl (.pfv (v := .bool _) rfl k81 rfl) rfl (wg rfl rfl (gf rfl)) rfl ?_
        refine WP.q (i := 26) rfl (.pfv (v := .bool _) rfl rfl rfl) rfl rfl rfl ?_
        refine WP.nil ?_
        refine WX.keep [2, 3, 4, 6, 8, 9, 57] (WX.pk [2, 1, 0] (by decide) (WX.addn [3] ?_)) rfl
        exact alloc_Set_Give_j5_ok h _ _ _ ⟨hB, _, _, _, _, _, 0, true, [], _, _, g0_0, OSl.none _ _, g_y7, g_y8, rfl, rfl⟩
  · replace h := (if_neg (bnt k5)).symm.trans h
    refine WX.condT rfl (t_not k5) ?_
    refine WX.seq ?_
    refine WX.reg ?_
    refine WO.q (.bd (bd25_n)) rfl rfl ?_
    refine WO.mn (MOp.storeW rfl (cA rfl) .h ti25 rfl rfl rfl) rfl ?_
    rintro _ _ rfl
    refine WO.q (.as (v := .int _ _) rfl) rfl rfl ?_
    refine WO.nil ?_
    obtain rfl := Option.some.inj h
    exact WX.ret (rs_ (rs_cell (.ldA (i := 0) rfl rfl rfl ti25 rfl) (rs_tmp rfl rs_nil))) fun st hp => ⟨_, _, hB, ((hp.pk [] (by decide)).skip 0), _, 0, true, [], rfl, rfl, OSl.none _ _⟩
end Gab
