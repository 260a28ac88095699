/- Joined out of FpTree2 FpLaw190 FpLTreeNone0 PtNone Lw by a program. -/
import Derived.Test.YthadcldhclallaaGreatDoorPTreeNone3
import Derived.Test.YthadcldhclallaaGreatDoorPTreeNone4
import Derived.Test.YthadcldhclallaaGreatDoorPTreeNone5
import Derived.Test.YthadcldhclallaaGreatDoorPTreeNone2
import Derived.Below
section
set_option linter.unusedSimpArgs false
set_option linter.unusedVariables false
set_option maxHeartbeats 4000000
set_option maxRecDepth 100000
namespace Gab
open Go Go.Proofs
def tree_Tree_Set_P (B : Kn) (L : Own) (r : Heap × Int) : AV → St → Prop := CH B L fun B' X E' v => v = .int .i64 r.2 ∧ X = [] ∧ HR B' r.1 E'
def tree_Tree_Set_j7_I (B0 : Kn) (H : Heap) (x0 : Nat) (x1 : Int) (x9 : Nat) (x37 : Bool) (zb11 : Int × Int × Int × (List (Int × Int)) × (List UInt8)) : Fr → Kn → Own → Own → Prop := fun fr B A E => KLw B0 B ∧ HR B H E ∧ ∃ b20 v21 b21 n21 c21 v22 v23, OSl EPIi64Ii64Q B v21 b21 n21 c21 zb11.2.2.2.1 ∧ HPt B 126 v22 x0 ∧ HPt B 131 v23 x9 ∧ fr = [(0, v22), (1, .int .i64 x1), (9, v23), (11, .ptr b20 0), (37, .bool x37)] ∧ A = [(b20, some (.c [.int .u8 zb11.1, .int .i64 zb11.2.1, .int .i64 zb11.2.2.1, v21, .str zb11.2.2.2.2])), oe b21 n21 c21]
theorem tree_Tree_Set_j7_ok {B0 : Kn} {L : Own} {n0 : Nat} {H : Heap} {x0 : Nat} {x1 : Int} {x9 : Nat} {x37 : Bool} {zb11 : Int × Int × Int × (List (Int × Int)) × (List UInt8)} {r : Heap × Int} (h : tree_Tree_Set_j7 H x0 x1 x9 x37 zb11 = some r) : WXH Tryz.prog 60 n0 (Fin Tryz.prog Tryz.f33.results.toList n0 (tree_Tree_Set_P B0 L r)) [.code (ct [1, 1, 1, 1, 1, 0, 0, 1, 1, 1] (bodyOf Tryz.f33)), .blk 0, .code (ct [1, 1, 1, 1, 1, 1] (bodyOf Tryz.f33))] (tree_Tree_Set_j7_I B0 H x0 x1 x9 x37 zb11) L := by
  unfold tree_Tree_Set_j7 at h
  rintro _ B _ E ⟨hB, hH, b20, v21, b21, n21, c21, v22, v23, h21, h22, h23, rfl, rfl⟩
  obtain ⟨_, _, _, _, _, rfl⟩ := h21.isl
  rcases bsp x37 with k24 | k24
  replace h := (if_pos k24).symm.trans h
  refine WX.condT rfl k24 ?_
  refine WX.seq ?_
  refine WX.reg ?_
  refine WO.q (.as (v := .int _ _) rfl) rfl rfl ?_
  refine WO.nil ?_
  obtain rfl := Option.some.inj h
  exact WX.ret (rs_ (rs_tmp rfl rs_nil)) fun st hp => ⟨_, _, _, hB, (hp.pk [] (by decide)), rfl, rfl, hH⟩
  replace h := (if_neg (bnt k24)).symm.trans h
  refine WX.condF rfl k24 ?_
  refine WX.skip ?_
  refine WX.pop ?_
  refine WX.seq ?_
  refine WX.drw (Plan.of [0, 1, 2, 3, 4, 5, 6, 7, 8, 9, 10, 11, 12] .nil) _ mixed (by kernel_rfl) rfl (subE (pk_sub [0])) ?_
  refine WP.q (i := 0) rfl (.mv (v := v23) rfl) rfl rfl rfl ?_
  refine WP.q (i := 1) rfl (.mv (v := v22) rfl) rfl rfl rfl ?_
  obtain ⟨y25, hy25, h⟩ := Option.bind_eq_some_iff.1 h
  obtain ⟨b_y25, c_y25, e_y25, m_y25, r_y25, u_y25⟩ := hgetS (foc126 hH) h22 hy25
  subst e_y25
  obtain ⟨_, _, rfl, ⟨w26, rfl, hw26⟩, ⟨_, _, rfl, ⟨w27, rfl, hw27⟩, ⟨w28, rfl, hw28⟩⟩⟩ := r_y25
  refine WP.q (i := 2) rfl (.r fun _ => rfl) rfl rfl rfl ?_
  refine WP.q (i := 3) rfl (.fa (fa126_2 _ _)) rfl rfl rfl ?_
  refine WP.q (i := 4) rfl (.ldSm rfl (inM m_y25) rfl ti124 rfl) rfl rfl rfl ?_
  refine WP.q (i := 5) rfl (.mv (v := .int _ _) rfl) rfl rfl rfl ?_
  refine WP.q (i := 6) rfl (.ldA (i := 0) rfl rfl rfl ti53 rfl) rfl rfl rfl ?_
  obtain ⟨y29, hy29, h⟩ := Option.bind_eq_some_iff.1 h
  obtain ⟨b_y29, c_y29, e_y29, m_y29, r_y29, u_y29⟩ := hgetS (foc131 hH) h23 hy29
  subst e_y29
  obtain ⟨_, _, rfl, ⟨_, _, rfl, rfl, ⟨_, _, rfl, rfl, ⟨_, _, rfl, rfl, ⟨_, _, rfl, ⟨w30, rfl, hw30⟩, rfl⟩⟩⟩⟩, ⟨_, _, rfl, ⟨w31, rfl, hw31⟩, ⟨_, _, rfl, rfl, rfl⟩⟩⟩ := r_y29
  obtain ⟨_, _, _, _, _, rfl⟩ := hw30.isl
  refine WP.q (i := 7) rfl (.r fun _ => rfl) rfl rfl rfl ?_
  refine WP.q (i := 8) rfl (.fa (fa131_0 _ _)) rfl rfl rfl ?_
  refine WP.fz (j := 1) h21 rfl (pkE (jx := [0]) rfl) ?_
  intro B hK g32
  replace h22 := h22.up hK
  replace h23 := h23.up hK
  replace hw28 := hw28.up hK
  replace hH := hH.up hK
  replace hB := hB.trans hK.w
  obtain ⟨y33, hy33, h⟩ := Option.bind_eq_some_iff.1 h
  obtain ⟨c_y33, m_y33, r_y33, u_y33⟩ := hgetP (foc131 hH) h23 hy33
  obtain ⟨_, _, rfl, ⟨_, _, rfl, rfl, ⟨_, _, rfl, rfl, ⟨_, _, rfl, rfl, ⟨_, _, rfl, ⟨w34, rfl, hw34⟩, rfl⟩⟩⟩⟩, ⟨_, _, rfl, ⟨w35, rfl, hw35⟩, ⟨_, _, rfl, rfl, rfl⟩⟩⟩ := r_y33
  obtain ⟨_, _, _, _, _, rfl⟩ := hw34.isl
  obtain ⟨H36, e_H36, h⟩ := Option.bind_eq_some_iff.1 h
  obtain ⟨_, z_z37, k_z37⟩ := u_y33 _ (zb11, y33.2.1, y33.2.2.1, y33.2.2.2) (Rp (Rp Ri (Rp Ri (Rp Ri (Rp (Rl g32) Rs)))) (Rp (Rhp hw35) (Rp Ri Ri)))
  refine WP.es (i := 9) rfl (MOpE.st rfl (cA rfl) z_z37 ti53 rfl rfl (lb rfl) rfl) rfl (by kernel_rfl) rfl rfl ?_
  rintro _ _ _ _ ⟨rfl, rfl, rfl⟩
  replace hH := HRe e_H36 k_z37
  obtain ⟨y38, hy38, h⟩ := Option.bind_eq_some_iff.1 h
  obtain ⟨H40, e_H40, h⟩ := Option.bind_eq_some_iff.1 h
  refine WS.e (i := 10) rfl (MOpE.ment mt124 (foc124 hH) hw28 hy38 kI rfl rfl) rfl (by kernel_rfl) rfl rfl ?_
  rintro _ _ _ E ⟨rfl, rfl, hH, _, s39, rfl, q_s39⟩
  replace hH := HRe e_H40 hH
  refine WS.q (i := 11) rfl (.r fun _ => rfl) rfl rfl rfl rfl ?_
  obtain ⟨y41, hy41, h⟩ := Option.bind_eq_some_iff.1 h
  obtain ⟨H42, e_H42, h⟩ := Option.bind_eq_some_iff.1 h
  refine WS.e (i := 12) rfl (MOpE.est mt124 (foc124 hH) hw28 hy41 q_s39 kB rfl rfl rfl) rfl (by kernel_rfl) rfl rfl ?_
  rintro _ _ _ E ⟨rfl, rfl, hH⟩
  replace hH := HRe e_H42 hH
  refine WS.nil ?_
  refine WX.seq ?_
  refine WX.reg ?_
  refine WO.q (.as (v := .int _ _) rfl) rfl rfl ?_
  refine WO.nil ?_
  obtain rfl := Option.some.inj h
  exact WX.ret (rs_ (rs_tmp rfl rs_nil)) fun st hp => ⟨_, _, _, hB, (hp.pk [] (by decide)), rfl, rfl, hH⟩
theorem tree_Tree_Set_ok {B0 : Kn} {L : Own} {H : Heap} {E : Own} (hH : HR B0 H E) {a0 : Nat} {a1 : Int} {a2 : Int} {a3 : List (Int × Int)} {v0_0 : AV} {v3_0 : AV} (g0_0 : HPt B0 126 v0_0 a0) (g3_0 : RSl EPIi64Ii64Q B0 v3_0 a3) {r : Heap × Int} (h : tree_Tree_Set H a0 a1 a2 a3 = some r) : ∀ st, Hp B0 (E ++ L) st → ASpec Tryz.prog 33 [v0_0, .int .i64 a1, .int .i64 a2, v3_0] st (tree_Tree_Set_P B0 L r) := by
  unfold tree_Tree_Set at h
  refine bodyA (A := []) (L := E ++ L) Tryz.func33 rfl (c := bodyOf Tryz.f33) rfl Tryz.ntmps33 (lb rfl) fun n0 => ?_
  have hB := KLw.refl B0
  obtain ⟨_, _, _, _, _, rfl⟩ := g3_0.isl
  refine WX.seq ?_
  refine WX.reg ?_
  refine WO.q (.as (v := .int _ _) rfl) rfl rfl ?_
  refine WO.nil ?_
  refine WX.seq ?_
  refine WX.reg ?_
  refine WO.q (.mv (v := v0_0) rfl) rfl rfl ?_
  refine WO.q (.mv (v := .int _ _) rfl) rfl rfl ?_
  obtain ⟨y1, hy1, h⟩ := Option.bind_eq_some_iff.1 h
  refine WO.c0 rfl rfl (rd0 (tree_Tree_get_ok hH g0_0 hy1)) rfl rfl rfl ?_
  rintro _ B hK ⟨v2, rfl, h3⟩
  replace g0_0 := g0_0.up hK
  replace g3_0 := g3_0.up hK
  replace hH := hH.up hK
  replace hB := hB.trans hK.w
  refine WO.q (.mv (v := .tup _) rfl) rfl rfl ?_
  refine WO.q (.r fun _ => rfl) rfl rfl ?_
  refine WO.q (.r fun _ => rfl) rfl rfl ?_
  refine WO.q (.as (v := v2) rfl) rfl rfl ?_
  refine WO.q (.as (v := .int _ _) rfl) rfl rfl ?_
  refine WO.nil ?_
  refine WX.seq ?_
  refine WX.seq ?_
  refine WX.reg ?_
  refine WO.q (.mv (v := .int _ _) rfl) rfl rfl ?_
  refine WO.q (.r fun _ => rfl) rfl rfl ?_
  refine WO.nil ?_
  rcases bsp (decide (y1.2 ≠ 0)) with k4 | k4
  have q_k4 := of_decide_eq_true k4
  replace h := (if_pos q_k4).symm.trans h
  refine WX.condT rfl k4 ?_
  refine WX.seq ?_
  refine WX.reg ?_
  refine WO.q (.mv (v := .int _ _) rfl) rfl rfl ?_
  refine WO.q (.as (v := .int _ _) rfl) rfl rfl ?_
  refine WO.nil ?_
  obtain rfl := Option.some.inj h
  exact WX.ret (rs_ (rs_tmp rfl rs_nil)) fun st hp => ⟨_, _, _, hB, (hp.pk [] (by decide)), rfl, rfl, hH⟩
  have q_k4 := of_decide_eq_false k4
  replace h := (if_neg q_k4).symm.trans h
  refine WX.condF rfl k4 ?_
  refine WX.skip ?_
  refine WX.seq ?_
  refine WX.reg ?_
  refine WO.q (.mv (v := v2) rfl) rfl rfl ?_
  obtain ⟨y5, hy5, h⟩ := Option.bind_eq_some_iff.1 h
  obtain ⟨b_y5, c_y5, e_y5, m_y5, r_y5, u_y5⟩ := hgetS (foc131 hH) h3 hy5
  subst e_y5
  obtain ⟨_, _, rfl, ⟨_, _, rfl, rfl, ⟨_, _, rfl, rfl, ⟨_, _, rfl, rfl, ⟨_, _, rfl, ⟨w6, rfl, hw6⟩, rfl⟩⟩⟩⟩, ⟨_, _, rfl, ⟨w7, rfl, hw7⟩, ⟨_, _, rfl, rfl, rfl⟩⟩⟩ := r_y5
  obtain ⟨_, _, _, _, _, rfl⟩ := hw6.isl
  refine WO.q (.r fun _ => rfl) rfl rfl ?_
  refine WO.q (.fa (fa131_0 _ _)) rfl rfl ?_
  refine WO.ql (.ldAm rfl (inE m_y5) rfl ti53 rfl) rfl rfl ?_
  refine WO.md (MOp.alloc ti53 rfl) rfl rfl ?_
  rintro _ _ ⟨b8, rfl, rfl⟩
  refine WO.mn (MOp.storeW rfl (cA rfl) .h ti53 rfl rfl rfl) rfl ?_
  rintro _ _ rfl
  refine WO.nil ?_
  refine WX.seq ?_
  refine WX.reg ?_
  refine WO.q (.mv (v := .int _ _) rfl) rfl rfl ?_
  refine WO.q (.mv (v := .sl _ _ _ _ _ _) rfl) rfl rfl ?_
  obtain ⟨y9, hy9, h⟩ := Option.bind_eq_some_iff.1 h
  refine WO.c1 rfl rfl (slices_Clone_ext_List_alloc_Extent_ok g3_0 hy9) rfl rfl rfl ?_
  rintro _ B _ hK ⟨v10, b11, n12, c13, rfl, rfl, h14⟩
  obtain ⟨_, _, _, _, _, rfl⟩ := h14.isl
  replace g0_0 := g0_0.up hK
  replace g3_0 := g3_0.up hK
  replace h3 := h3.up hK
  replace hw6 := hw6.up hK
  replace hH := hH.up hK
  replace hB := hB.trans hK.w
  refine WO.q (.fa (fa53_2 _ _)) rfl rfl ?_
  refine WO.mn (MOp.store (cs' := [.int .u8 y5.1.1, .int .i64 y5.1.2.1, .int .i64 a2, _, .str y5.1.2.2.2.2]) rfl (cI rfl) (.t .h) ti3 rfl rfl (lb rfl) rfl) rfl ?_
  rintro _ _ rfl
  refine WO.q (.fa (fa53_3 _ _)) rfl rfl ?_
  refine WO.mn (MOp.store (cs' := [.int .u8 y5.1.1, .int .i64 y5.1.2.1, .int .i64 a2, _, .str y5.1.2.2.2.2]) rfl (cL rfl) (.t .h) ti51 rfl rfl (lb rfl) rfl) rfl ?_
  rintro _ _ rfl
  refine WO.nil ?_
  refine WX.seq ?_
  refine WX.block ?_
  refine WX.seq ?_
  refine WX.reg ?_
  refine WO.q (.mv (v := .ptr b_y5 0) rfl) rfl rfl ?_
  obtain ⟨y15, hy15, h⟩ := Option.bind_eq_some_iff.1 h
  obtain ⟨c_y15, m_y15, r_y15, u_y15⟩ := hgetP (foc131 hH) h3 hy15
  obtain ⟨_, _, rfl, ⟨_, _, rfl, rfl, ⟨_, _, rfl, rfl, ⟨_, _, rfl, rfl, ⟨_, _, rfl, ⟨w16, rfl, hw16⟩, rfl⟩⟩⟩⟩, ⟨_, _, rfl, ⟨w17, rfl, hw17⟩, ⟨_, _, rfl, rfl, rfl⟩⟩⟩ := r_y15
  obtain ⟨_, _, _, _, _, rfl⟩ := hw16.isl
  refine WO.q (.r fun _ => rfl) rfl rfl ?_
  refine WO.q (.fa (fa131_0 _ _)) rfl rfl ?_
  refine WO.q (.fa (fa53_0 _ _)) rfl rfl ?_
  refine WO.ql (.ldSm rfl (inE m_y15) rfl ti49 rfl) rfl rfl ?_
  refine WO.q (.r fun _ => rfl) rfl rfl ?_
  refine WO.q (.as (v := .bool _) rfl) rfl rfl ?_
  refine WO.nil ?_
  rcases bsp (decide (y15.1.1 = 2)) with k18 | k18
  have q_k18 := of_decide_eq_true k18
  replace h := (if_pos q_k18).symm.trans h
  refine WX.condT rfl k18 ?_
  refine WX.seq ?_
  refine WX.reg ?_
  refine WO.q (.as (v := .int _ _) rfl) rfl rfl ?_
  refine WO.nil ?_
  obtain rfl := Option.some.inj h
  exact WX.ret (rs_ (rs_tmp rfl rs_nil)) fun st hp => ⟨_, _, _, hB, (hp.pk [] (by decide)), rfl, rfl, hH⟩
  have q_k18 := of_decide_eq_false k18
  replace h := (if_neg q_k18).symm.trans h
  refine WX.condF rfl k18 ?_
  refine WX.seq ?_
  refine WX.reg ?_
  refine WO.q (.mv (v := .ptr b_y5 0) rfl) rfl rfl ?_
  refine WO.q (.r fun _ => rfl) rfl rfl ?_
  refine WO.q (.fa (fa131_0 _ _)) rfl rfl ?_
  refine WO.q (.fa (fa53_0 _ _)) rfl rfl ?_
  refine WO.ql (.ldSm rfl (inE m_y15) rfl ti49 rfl) rfl rfl ?_
  refine WO.q (.r fun _ => rfl) rfl rfl ?_
  refine WO.q (.mv (v := .bool _) rfl) rfl rfl ?_
  rcases bsp (decide (y15.1.1 ≠ 1)) with k19 | k19
  have q_k19 := of_decide_eq_true k19
  replace h := (if_pos q_k19).symm.trans h
  refine WO.sd (wg rfl rfl (gfn k19)) rfl ?_
  refine WO.sd (wg rfl rfl (gfn k19)) rfl ?_
  refine WO.sd (wg rfl rfl (gfn k19)) rfl ?_
  refine WO.q (.ptv (v := .bool _) rfl k19 rfl) rfl rfl ?_
  refine WO.q (.as (v := .bool _) rfl) rfl rfl ?_
  refine WO.nil ?_
  refine WX.keep [0, 1, 9, 11, 37] (WX.pk [1, 0] (by decide) ?_) rfl
  exact tree_Tree_Set_j7_ok h _ _ _ _ ⟨hB, hH, _, _, _, n12, _, _, _, h14, g0_0, h3, rfl, rfl⟩
  have q_k19 := of_decide_eq_false k19
  replace h := (if_neg q_k19).symm.trans h
  refine WO.q (.ldA (i := 1) rfl rfl rfl ti53 rfl) (wg rfl rfl (gf k19)) rfl ?_
  obtain ⟨y43, hy43, h⟩ := Option.bind_eq_some_iff.1 h
  refine WO.cS rfl rfl (lendC (j := 0) h14 rfl fun _ K45 g44 => inode_Inode_Right_ok (a0 := (y5.1.1, y5.1.2.1, a2, y9, y5.1.2.2.2.2)) g44 hy43) rfl (wg rfl rfl (gf k19)) rfl ?_
  rintro _ rfl
  refine WO.q (.r fun _ => rfl) (wg rfl rfl (gf k19)) rfl ?_
  refine WO.q (.pfv (v := .bool _) rfl k19 rfl) rfl rfl ?_
  refine WO.q (.as (v := .bool _) rfl) rfl rfl ?_
  refine WO.nil ?_
  refine WX.keep [0, 1, 9, 11, 37] (WX.pk [1, 0] (by decide) ?_) rfl
  exact tree_Tree_Set_j7_ok h _ _ _ _ ⟨hB, hH, _, _, _, n12, _, _, _, h14, g0_0, h3, rfl, rfl⟩
def tree_Tree_Pin_P (B : Kn) (L : Own) (r : Heap × Int) : AV → St → Prop := CH B L fun B' X E' v => v = .int .i64 r.2 ∧ X = [] ∧ HR B' r.1 E'
theorem tree_Tree_Pin_ok {B0 : Kn} {L : Own} {H : Heap} {E : Own} (hH : HR B0 H E) {a0 : Nat} {a1 : Int} {v0_0 : AV} (g0_0 : HPt B0 126 v0_0 a0) {r : Heap × Int} (h : tree_Tree_Pin H a0 a1 = some r) : ∀ st, Hp B0 (E ++ L) st → ASpec Tryz.prog 34 [v0_0, .int .i64 a1] st (tree_Tree_Pin_P B0 L r) := by
  unfold tree_Tree_Pin at h
  refine bodyA (A := []) (L := E ++ L) Tryz.func34 rfl (c := bodyOf Tryz.f34) rfl Tryz.ntmps34 (lb rfl) fun n0 => ?_
  have hB := KLw.refl B0
  refine WX.seq ?_
  refine WX.reg ?_
  refine WO.q (.as (v := .int _ _) rfl) rfl rfl ?_
  refine WO.nil ?_
  refine WX.seq ?_
  refine WX.reg ?_
  refine WO.q (.mv (v := v0_0) rfl) rfl rfl ?_
  refine WO.q (.mv (v := .int _ _) rfl) rfl rfl ?_
  obtain ⟨y1, hy1, h⟩ := Option.bind_eq_some_iff.1 h
  refine WO.c0 rfl rfl (rd0 (tree_Tree_get_ok hH g0_0 hy1)) rfl rfl rfl ?_
  rintro _ B hK ⟨v2, rfl, h3⟩
  replace g0_0 := g0_0.up hK
  replace hH := hH.up hK
  replace hB := hB.trans hK.w
  refine WO.q (.mv (v := .tup _) rfl) rfl rfl ?_
  refine WO.q (.r fun _ => rfl) rfl rfl ?_
  refine WO.q (.r fun _ => rfl) rfl rfl ?_
  refine WO.q (.as (v := v2) rfl) rfl rfl ?_
  refine WO.q (.as (v := .int _ _) rfl) rfl rfl ?_
  refine WO.nil ?_
  refine WX.seq ?_
  refine WX.seq ?_
  refine WX.reg ?_
  refine WO.q (.mv (v := .int _ _) rfl) rfl rfl ?_
  refine WO.q (.r fun _ => rfl) rfl rfl ?_
  refine WO.nil ?_
  rcases bsp (decide (y1.2 = 0)) with k4 | k4
  have q_k4 := of_decide_eq_true k4
  replace h := (if_pos q_k4).symm.trans h
  refine WX.condT rfl k4 ?_
  refine WX.reg ?_
  refine WO.q (.mv (v := v2) rfl) rfl rfl ?_
  obtain ⟨y5, hy5, h⟩ := Option.bind_eq_some_iff.1 h
  obtain ⟨b_y5, c_y5, e_y5, m_y5, r_y5, u_y5⟩ := hgetS (foc131 hH) h3 hy5
  subst e_y5
  obtain ⟨_, _, rfl, ⟨_, _, rfl, rfl, ⟨_, _, rfl, rfl, ⟨_, _, rfl, rfl, ⟨_, _, rfl, ⟨w6, rfl, hw6⟩, rfl⟩⟩⟩⟩, ⟨_, _, rfl, ⟨w7, rfl, hw7⟩, ⟨_, _, rfl, rfl, rfl⟩⟩⟩ := r_y5
  obtain ⟨_, _, _, _, _, rfl⟩ := hw6.isl
  refine WO.q (.r fun _ => rfl) rfl rfl ?_
  refine WO.q (.fa (fa131_3 _ _)) rfl rfl ?_
  refine WO.ql (.ldSm rfl (inE m_y5) rfl ti3 rfl) rfl rfl ?_
  refine WO.q (.r fun _ => rfl) rfl rfl ?_
  refine WO.q (.r fun _ => rfl) rfl rfl ?_
  refine WO.q (.fa (fa131_3 _ _)) rfl rfl ?_
  obtain ⟨H8, e_H8, h⟩ := Option.bind_eq_some_iff.1 h
  obtain ⟨_, z_z9, k_z9⟩ := u_y5 _ (y5.1, y5.2.1, y5.2.2.1, (wi64 (y5.2.2.2 + 1))) (Rp (Rp Ri (Rp Ri (Rp Ri (Rp (Rl hw6) Rs)))) (Rp (Rhp hw7) (Rp Ri Ri)))
  refine WO.en (MOpE.st rfl (cI rfl) z_z9 ti3 rfl rfl (lb rfl) rfl) rfl ?_
  rintro _ _ _ _ ⟨rfl, rfl, rfl⟩
  replace hH := HRe e_H8 k_z9
  refine WO.nil ?_
  refine WX.seq ?_
  refine WX.reg ?_
  refine WO.q (.mv (v := .int _ _) rfl) rfl rfl ?_
  refine WO.q (.as (v := .int _ _) rfl) rfl rfl ?_
  refine WO.nil ?_
  obtain rfl := Option.some.inj h
  exact WX.ret (rs_ (rs_tmp rfl rs_nil)) fun st hp => ⟨_, _, _, hB, (hp.pk [] (by decide)), rfl, rfl, hH⟩
  have q_k4 := of_decide_eq_false k4
  replace h := (if_neg q_k4).symm.trans h
  refine WX.condF rfl k4 ?_
  refine WX.skip ?_
  refine WX.seq ?_
  refine WX.reg ?_
  refine WO.q (.mv (v := .int _ _) rfl) rfl rfl ?_
  refine WO.q (.as (v := .int _ _) rfl) rfl rfl ?_
  refine WO.nil ?_
  obtain rfl := Option.some.inj h
  exact WX.ret (rs_ (rs_tmp rfl rs_nil)) fun st hp => ⟨_, _, _, hB, (hp.pk [] (by decide)), rfl, rfl, hH⟩
def tree_New_P (B : Kn) (L : Own) (r : Heap × Nat) : AV → St → Prop := CH B L fun B' X E' v => ∃ wp0, v = wp0 ∧ X = [] ∧ HR B' r.1 E' ∧ HPt B' 126 wp0 r.2
theorem tree_New_ok {B0 : Kn} {L : Own} {H : Heap} {E : Own} (hH : HR B0 H E) {r : Heap × Nat} (h : tree_New H = some r) : ∀ st, Hp B0 (E ++ L) st → ASpec Tryz.prog 9 [] st (tree_New_P B0 L r) := by
  unfold tree_New at h
  refine bodyA (A := []) (L := E ++ L) Tryz.func9 rfl (c := bodyOf Tryz.f9) rfl Tryz.ntmps9 (lb rfl) fun n0 => ?_
  have hB := KLw.refl B0
  refine WX.seq ?_
  refine WX.reg ?_
  refine WO.q (.as (v := .nilptr) rfl) rfl rfl ?_
  refine WO.nil ?_
  refine WX.seq ?_
  refine WX.reg ?_
  obtain ⟨H3, e_H3, h⟩ := Option.bind_eq_some_iff.1 h
  refine WO.ed (MOpE.mk (t := 122) (foc122 hH)) rfl rfl ?_
  rintro v1 B _ E ⟨hK, rfl, h2, hH⟩
  replace hH := HRe e_H3 hH
  replace hB := hB.trans hK
  obtain ⟨H6, e_H6, h⟩ := Option.bind_eq_some_iff.1 h
  refine WO.ed (MOpE.mk (t := 123) (foc123 hH)) rfl rfl ?_
  rintro v4 B _ E ⟨hK, rfl, h5, hH⟩
  replace hH := HRe e_H6 hH
  replace h2 := h2.upw hK
  replace hB := hB.trans hK
  obtain ⟨H9, e_H9, h⟩ := Option.bind_eq_some_iff.1 h
  refine WO.ed (MOpE.mk (t := 124) (foc124 hH)) rfl rfl ?_
  rintro v7 B _ E ⟨hK, rfl, h8, hH⟩
  replace hH := HRe e_H9 hH
  replace h2 := h2.upw hK
  replace h5 := h5.upw hK
  replace hB := hB.trans hK
  refine WO.q (.bd (bd126_0_1_2 (cHm rfl h2) (cHm rfl h5) (cHm rfl h8))) rfl rfl ?_
  refine WO.md (MOp.box (cA rfl)) rfl rfl ?_
  rintro _ _ ⟨b10, rfl, rfl⟩
  refine WO.q (.as (v := .ptr _ _) rfl) rfl rfl ?_
  refine WO.nil ?_
  refine WX.seq ?_
  refine WX.drw (Plan.of [0, 1, 2, 3, 4, 5, 6, 7, 8] .nil) _ mixed (by kernel_rfl) rfl (subL (pk_sub [0])) ?_
  refine WP.q (i := 0) rfl (.mv (v := .ptr _ _) rfl) rfl rfl rfl ?_
  refine WP.q (i := 1) rfl (.r fun _ => rfl) rfl rfl rfl ?_
  refine WP.q (i := 2) rfl (.fa (fa126_0 _ _)) rfl rfl rfl ?_
  refine WP.q (i := 3) rfl (.ldS (i := 0) rfl rfl rfl ti122 rfl) rfl rfl rfl ?_
  refine WP.q (i := 4) rfl (.bd (bd53_0_1 (cI rfl) (cI rfl))) rfl rfl rfl ?_
  obtain ⟨y11, hy11, h⟩ := Option.bind_eq_some_iff.1 h
  refine WP.ch (i := 5) rfl rfl rfl (dir_New_ok hH hy11) rfl rfl rfl (pk_in (jx := [0]) rfl) ?_
  rintro v12 B _ E hK ⟨_, rfl, rfl, hH, h13⟩
  replace h2 := h2.upw hK
  replace h5 := h5.upw hK
  replace h8 := h8.upw hK
  replace hB := hB.trans hK
  refine WP.q (i := 6) rfl (.bd (bd131_0_1_2 (cA rfl) (cHp rfl h13) (cI rfl))) rfl rfl rfl ?_
  refine WP.md (i := 7) rfl (MOp.box (cA rfl)) rfl rfl rfl ?_
  rintro _ _ ⟨b14, rfl, rfl⟩
  refine ⟨pkL (jx := [1]) rfl, ?_⟩
  obtain ⟨H16, e_H16, h⟩ := Option.bind_eq_some_iff.1 h
  refine WP.abs (j := 0) (x := ((((2, 2, 0, [], ([] : List UInt8)) : Int × Int × Int × (List (Int × Int)) × (List UInt8)), y11.2, 1, 0) : (Int × Int × Int × (List (Int × Int)) × (List UInt8)) × Nat × Int × Int)) (foc131 hH) rfl (Rp (Rp Ri (Rp Ri (Rp Ri (Rp (Rl (RSl.nil _ _)) Rs)))) (Rp (Rhp h13) (Rp Ri Ri))) (pk_in (jx := [0]) rfl) ?_
  intro B E hK g15 hH
  replace hH := HRe e_H16 hH
  replace h2 := h2.upw hK
  replace h13 := h13.upw hK
  replace h5 := h5.upw hK
  replace h8 := h8.upw hK
  replace hB := hB.trans hK
  obtain ⟨y17, hy17, h⟩ := Option.bind_eq_some_iff.1 h
  obtain ⟨H18, e_H18, h⟩ := Option.bind_eq_some_iff.1 h
  refine WP.e (i := 8) rfl (MOpE.put mt122 (foc122 hH) h2 hy17 kI (kHp g15) rfl rfl rfl) rfl rfl rfl (pk_in (jx := [0]) rfl) ?_
  rintro _ _ _ E ⟨rfl, rfl, hH⟩
  refine ⟨KLw.refl _, fun _ h => h, ?_⟩
  replace hH := HRe e_H18 hH
  refine WP.nil ?_
  refine WX.seq ?_
  refine WX.reg ?_
  refine WO.q (.mv (v := .ptr _ _) rfl) rfl rfl ?_
  refine WO.q (.as (v := .ptr _ _) rfl) rfl rfl ?_
  refine WO.nil ?_
  obtain ⟨H20, e_H20, h⟩ := Option.bind_eq_some_iff.1 h
  refine WX.abs (j := 0) (x := ((H.h122.length + 1), (H3.h123.length + 1), (H6.h124.length + 1))) (foc126 hH) rfl (Rp (Rhm h2) (Rp (Rhm h5) (Rhm h8))) ?_
  intro B E hK g19 hH
  replace hH := HRe e_H20 hH
  replace hB := hB.trans hK
  obtain rfl := Option.some.inj h
  exact WX.ret (rs_ (rs_tmp rfl rs_nil)) fun st hp => ⟨_, _, _, hB, (hp.pk [] (by decide)), _, rfl, rfl, hH, g19⟩
def tree_Tree_Len_P (B : Kn) (L : Own) (r : Int) : AV → St → Prop := CS B L fun v => v = .int .i64 r
theorem tree_Tree_Len_ok {B0 : Kn} {L : Own} {H : Heap} {Eh : Own} (hH : HR B0 H Eh) {a0 : Nat} {v0_0 : AV} (g0_0 : HPt B0 126 v0_0 a0) {r : Int} (h : tree_Tree_Len H a0 = some r) : ∀ st, Hp B0 (Eh ++ L) st → ASpec Tryz.prog 35 [v0_0] st (tree_Tree_Len_P B0 (Eh ++ L) r) := by
  unfold tree_Tree_Len at h
  refine bodyA (A := []) (L := Eh ++ L) Tryz.func35 rfl (c := bodyOf Tryz.f35) rfl Tryz.ntmps35 (lb rfl) fun n0 => ?_
  have hB := KLe.refl B0
  have hH0 := hH
  refine WX.seq ?_
  refine WX.reg ?_
  refine WO.q (.as (v := .int _ _) rfl) rfl rfl ?_
  refine WO.nil ?_
  refine WX.seq ?_
  refine WX.seq ?_
  refine WX.reg ?_
  refine WO.q (.mv (v := v0_0) rfl) rfl rfl ?_
  refine WO.q (.bin (eveqlnil g0_0 ti23 rfl)) rfl rfl ?_
  refine WO.nil ?_
  rcases bsp (decide (a0 = 0)) with k1 | k1
  have q_k1 := of_decide_eq_true k1
  replace h := (if_pos q_k1).symm.trans h
  refine WX.condT rfl k1 ?_
  refine WX.seq ?_
  refine WX.reg ?_
  refine WO.q (.as (v := .int _ _) rfl) rfl rfl ?_
  refine WO.nil ?_
  obtain rfl := Option.some.inj h
  exact WX.ret (rs_ (rs_tmp rfl rs_nil)) fun st hp => ⟨(hp.pk [] (by decide)).le hB, rfl⟩
  have q_k1 := of_decide_eq_false k1
  replace h := (if_neg q_k1).symm.trans h
  refine WX.condF rfl k1 ?_
  refine WX.skip ?_
  refine WX.seq ?_
  refine WX.reg ?_
  refine WO.q (.mv (v := v0_0) rfl) rfl rfl ?_
  obtain ⟨y2, hy2, h⟩ := Option.bind_eq_some_iff.1 h
  obtain ⟨b_y2, c_y2, e_y2, m_y2, r_y2, u_y2⟩ := hgetS (foc126 hH) g0_0 hy2
  subst e_y2
  obtain ⟨_, _, rfl, ⟨w3, rfl, hw3⟩, ⟨_, _, rfl, ⟨w4, rfl, hw4⟩, ⟨w5, rfl, hw5⟩⟩⟩ := r_y2
  refine WO.q (.r fun _ => rfl) rfl rfl ?_
  refine WO.q (.fa (fa126_0 _ _)) rfl rfl ?_
  refine WO.ql (.ldSm rfl (inE m_y2) rfl ti122 rfl) rfl rfl ?_
  obtain ⟨y6, hy6, h⟩ := Option.bind_eq_some_iff.1 h
  refine WO.md (MOp.lenM rfl rfl rfl mt122 (foc122 hH) hw3 hy6 rfl) rfl rfl ?_
  rintro _ _ ⟨rfl, rfl⟩
  refine WO.q (.as (v := .int _ _) rfl) rfl rfl ?_
  refine WO.nil ?_
  obtain rfl := Option.some.inj h
  exact WX.ret (rs_ (rs_tmp rfl rs_nil)) fun st hp => ⟨(hp.pk [] (by decide)).le hB, rfl⟩
def tree_Tree_name_P (B : Kn) (L : Own) (r : (Int × Int × (List UInt8))) : AV → St → Prop := CS B L fun v => v = .agg [.int .i64 r.1, .int .i64 r.2.1, .str r.2.2]
theorem tree_Tree_name_ok {B0 : Kn} {L : Own} {H : Heap} {Eh : Own} (hH : HR B0 H Eh) {a0 : Nat} {a1 : Int × (List UInt8)} {v0_0 : AV} (g0_0 : HPt B0 126 v0_0 a0) {r : (Int × Int × (List UInt8))} (h : tree_Tree_name H a0 a1 = some r) : ∀ st, Hp B0 (Eh ++ L) st → ASpec Tryz.prog 81 [v0_0, .agg [.int .i64 a1.1, .str a1.2]] st (tree_Tree_name_P B0 (Eh ++ L) r) := by
  unfold tree_Tree_name at h
  refine bodyA (A := []) (L := Eh ++ L) Tryz.func81 rfl (c := bodyOf Tryz.f81) rfl Tryz.ntmps81 (lb rfl) fun n0 => ?_
  have hB := KLe.refl B0
  have hH0 := hH
  refine WX.seq ?_
  refine WX.reg ?_
  refine WO.md (MOp.box (cA rfl)) rfl rfl ?_
  rintro _ _ ⟨b1, rfl, rfl⟩
  refine WO.md (MOp.alloc ti72 rfl) rfl rfl ?_
  rintro _ _ ⟨b2, rfl, rfl⟩
  refine WO.nil ?_
  refine WX.seq ?_
  refine WX.seq ?_
  refine WX.reg ?_
  refine WO.q (.mv (v := v0_0) rfl) rfl rfl ?_
  refine WO.q (.fa (fa166_0 _ _)) rfl rfl ?_
  refine WO.q (.ldS (i := 1) rfl rfl rfl ti3 rfl) rfl rfl ?_
  refine WO.q (.fa (fa166_1 _ _)) rfl rfl ?_
  refine WO.q (.ldS (i := 1) rfl rfl rfl ti9 rfl) rfl rfl ?_
  obtain ⟨y3, hy3, h⟩ := Option.bind_eq_some_iff.1 h
  refine WO.cS rfl rfl (rdS (tree_Tree_Find_ok hH g0_0 hy3)) rfl rfl rfl ?_
  rintro _ rfl
  refine WO.q (.mv (v := .tup _) rfl) rfl rfl ?_
  refine WO.q (.r fun _ => rfl) rfl rfl ?_
  refine WO.q (.r fun _ => rfl) rfl rfl ?_
  refine WO.q (.as (v := .int _ _) rfl) rfl rfl ?_
  refine WO.q (.as (v := .int _ _) rfl) rfl rfl ?_
  refine WO.nil ?_
  refine WX.seq ?_
  refine WX.reg ?_
  refine WO.q (.mv (v := .int _ _) rfl) rfl rfl ?_
  refine WO.q (.r fun _ => rfl) rfl rfl ?_
  refine WO.nil ?_
  rcases bsp (decide (y3.2 ≠ 0)) with k4 | k4
  have q_k4 := of_decide_eq_true k4
  replace h := (if_pos q_k4).symm.trans h
  refine WX.condT rfl k4 ?_
  refine WX.seq ?_
  refine WX.reg ?_
  refine WO.q (.fa (fa166_0 _ _)) rfl rfl ?_
  refine WO.q (.ldS (i := 1) rfl rfl rfl ti3 rfl) rfl rfl ?_
  refine WO.q (.fa (fa166_1 _ _)) rfl rfl ?_
  refine WO.q (.ldS (i := 1) rfl rfl rfl ti9 rfl) rfl rfl ?_
  refine WO.q (.bd (bd72_0_1_2 (cI rfl) (cI rfl) (cS rfl))) rfl rfl ?_
  refine WO.mn (MOp.storeW rfl (cA rfl) .h ti72 rfl rfl rfl) rfl ?_
  rintro _ _ rfl
  refine WO.nil ?_
  obtain rfl := Option.some.inj h
  exact WX.ret (rs_ (rs_cell (.ldA (i := 0) rfl rfl rfl ti72 rfl) rs_nil)) fun st hp => ⟨(hp.pk [] (by decide)).le hB, rfl⟩
  have q_k4 := of_decide_eq_false k4
  replace h := (if_neg q_k4).symm.trans h
  refine WX.condF rfl k4 ?_
  refine WX.skip ?_
  refine WX.seq ?_
  refine WX.reg ?_
  refine WO.q (.fa (fa166_0 _ _)) rfl rfl ?_
  refine WO.q (.ldS (i := 1) rfl rfl rfl ti3 rfl) rfl rfl ?_
  refine WO.q (.fa (fa166_1 _ _)) rfl rfl ?_
  refine WO.q (.ldS (i := 1) rfl rfl rfl ti9 rfl) rfl rfl ?_
  refine WO.q (.bd (bd72_0_1_2 (cI rfl) (cI rfl) (cS rfl))) rfl rfl ?_
  refine WO.mn (MOp.storeW rfl (cA rfl) .h ti72 rfl rfl rfl) rfl ?_
  rintro _ _ rfl
  refine WO.nil ?_
  obtain rfl := Option.some.inj h
  exact WX.ret (rs_ (rs_cell (.ldA (i := 0) rfl rfl rfl ti72 rfl) rs_nil)) fun st hp => ⟨(hp.pk [] (by decide)).le hB, rfl⟩
def tree_Tree_Deeds_P (B : Kn) (L : Own) (r : Heap × (List (Int × Int × (List UInt8)))) : AV → St → Prop := CH B L fun B' X E' v => ∃ w0 b0 n0 c0, v = w0 ∧ X = [oe b0 n0 c0] ∧ HR B' r.1 E' ∧ OSl EPIi64Ii64StQ B' w0 b0 n0 c0 r.2
def tree_Tree_Deeds_l0_I (B0 : Kn) (H : Heap) (x0 : Nat) (x17 : List (Int × (List UInt8))) (x3 : List (Int × Int × (List UInt8))) (x19 : Int) : Fr → Kn → Own → Own → Prop := fun fr B A E => KLw B0 B ∧ HR B H E ∧ ∃ v14 v15 b15 n15 c15 v16 b16 n16 c16, HPt B 126 v14 x0 ∧ OSl EPIi64Ii64StQ B v15 b15 n15 c15 x3 ∧ OSl EPIi64StQ B v16 b16 n16 c16 x17 ∧ fr = [(0, v14), (3, v15), (17, v16), (18, .int .i64 (x17.length : Int)), (19, .int .i64 x19)] ∧ A = [oe b15 n15 c15, oe b16 n16 c16]
def tree_Tree_Deeds_l0_X0 (B0 : Kn) (H : Heap) (x0 : Nat) (x3 : List (Int × Int × (List UInt8))) : Fr → Kn → Own → Own → Prop := fun fr B A E => KLw B0 B ∧ HR B H E ∧ ∃ v101 v102 b102 n102 c102, HPt B 126 v101 x0 ∧ OSl EPIi64Ii64StQ B v102 b102 n102 c102 x3 ∧ fr = [(0, v101), (3, v102)] ∧ A = [oe b102 n102 c102]
def tree_Tree_Deeds_j16_I (B0 : Kn) (H : Heap) (x0 : Nat) (x3 : List (Int × Int × (List UInt8))) (x35 : List Int) (x37 : Int) : Fr → Kn → Own → Own → Prop := fun fr B A E => KLw B0 B ∧ HR B H E ∧ ∃ v70 v71 b71 n71 c71 v72 b72 n72 c72, HPt B 126 v70 x0 ∧ OSl EPIi64Ii64StQ B v71 b71 n71 c71 x3 ∧ OSl (Ty.int .i64) B v72 b72 n72 c72 x35 ∧ fr = [(0, v70), (3, v71), (35, v72), (36, .int .i64 (x35.length : Int)), (37, .int .i64 x37)] ∧ A = [oe b71 n71 c71, oe b72 n72 c72]
def tree_Tree_Deeds_l1_I (B0 : Kn) (H : Heap) (x0 : Nat) (x35 : List Int) (x3 : List (Int × Int × (List UInt8))) (x37 : Int) : Fr → Kn → Own → Own → Prop := fun fr B A E => KLw B0 B ∧ HR B H E ∧ ∃ v47 v48 b48 n48 c48 v49 b49 n49 c49, HPt B 126 v47 x0 ∧ OSl EPIi64Ii64StQ B v48 b48 n48 c48 x3 ∧ OSl (Ty.int .i64) B v49 b49 n49 c49 x35 ∧ fr = [(0, v47), (3, v48), (35, v49), (36, .int .i64 (x35.length : Int)), (37, .int .i64 x37)] ∧ A = [oe b48 n48 c48, oe b49 n49 c49]
def tree_Tree_Deeds_l1_X0 (B0 : Kn) (H : Heap) (x0 : Nat) (x3 : List (Int × Int × (List UInt8))) : Fr → Kn → Own → Own → Prop := fun fr B A E => KLw B0 B ∧ HR B H E ∧ ∃ v103 v104 b104 n104 c104, HPt B 126 v103 x0 ∧ OSl EPIi64Ii64StQ B v104 b104 n104 c104 x3 ∧ fr = [(0, v103), (3, v104)] ∧ A = [oe b104 n104 c104]
theorem tree_Tree_Deeds_l0_s {B0 : Kn} {L : Own} {n0 : Nat} {H : Heap} {x0 : Nat} {x17 : List (Int × (List UInt8))} {x3 : List (Int × Int × (List UInt8))} {x19 : Int} {Q : AV → St → Prop} {E : ((List (Int × Int × (List UInt8))) × Int) ⊕ (List (Int × Int × (List UInt8))) → Prop} {o : ((List (Int × Int × (List UInt8))) × Int) ⊕ (List (Int × Int × (List UInt8)))} (h : tree_Tree_Deeds_l0 H x0 x17 x3 x19 = some o) (hn : ∀ s, E (.inl s) → WXH Tryz.prog 68 n0 (Fin Tryz.prog Tryz.f23.results.toList n0 Q) [.lp (ct [1, 1, 1, 1, 0, 1, 0, 0] (bodyOf Tryz.f23)), .blk 0, .code (ct [1, 1, 1, 1, 1] (bodyOf Tryz.f23))] (tree_Tree_Deeds_l0_I B0 H x0 x17 s.1 s.2) L) (hx0 : ∀ s, E (.inr s) → WXH Tryz.prog 68 n0 (Fin Tryz.prog Tryz.f23.results.toList n0 Q) [.code (ct [1, 1, 1, 1, 1] (bodyOf Tryz.f23))] (tree_Tree_Deeds_l0_X0 B0 H x0 s) L) (hE : E o) : WXH Tryz.prog 68 n0 (Fin Tryz.prog Tryz.f23.results.toList n0 Q) [.code (ct [1, 1, 1, 1, 0, 1, 0, 0] (bodyOf Tryz.f23)), .lp (ct [1, 1, 1, 1, 0, 1, 0, 0] (bodyOf Tryz.f23)), .blk 0, .code (ct [1, 1, 1, 1, 1] (bodyOf Tryz.f23))] (tree_Tree_Deeds_l0_I B0 H x0 x17 x3 x19) L := by
  unfold tree_Tree_Deeds_l0 at h
  rintro _ B _ E ⟨hB, hH, v14, v15, b15, n15, c15, v16, b16, n16, c16, h14, h15, h16, rfl, rfl⟩
  obtain ⟨_, _, _, _, _, rfl⟩ := h15.isl
  obtain ⟨_, _, _, _, _, rfl⟩ := h16.isl
  refine WX.seq ?_
  refine WX.reg ?_
  refine WO.q (.r fun _ => rfl) rfl rfl ?_
  refine WO.nil ?_
  refine WX.seq ?_
  rcases bsp (decide (x19 < (x17.length : Int))) with k17 | k17
  have q_k17 := of_decide_eq_true k17
  replace h := (if_pos q_k17).symm.trans h
  refine WX.condT rfl k17 ?_
  refine WX.skip ?_
  refine WX.seq ?_
  refine WX.block ?_
  refine WX.seq ?_
  refine WX.reg ?_
  obtain ⟨y18, hy18, h⟩ := Option.bind_eq_some_iff.1 h
  obtain rfl := h16.nonnil hy18
  obtain ⟨_, i_y18, l_y18, r_y18⟩ := h16.at sl171 hy18 .i64
  obtain ⟨_, _, rfl, rfl, rfl⟩ := r_y18
  refine WO.q (.ia i_y18) rfl rfl ?_
  refine WO.q (.leA (i := 1) rfl rfl l_y18 ti166 rfl rfl) rfl rfl ?_
  refine WO.md (MOp.alloc ti166 rfl) rfl rfl ?_
  rintro _ _ ⟨b19, rfl, rfl⟩
  refine WO.mn (MOp.storeW rfl (cA rfl) .h ti166 rfl rfl rfl) rfl ?_
  rintro _ _ rfl
  refine WO.nil ?_
  refine WX.reg ?_
  refine WO.q (.mv (v := .sl _ _ _ _ _ _) rfl) rfl rfl ?_
  refine WO.q (.mv (v := v14) rfl) rfl rfl ?_
  refine WO.q (.ldA (i := 0) rfl rfl rfl ti166 rfl) rfl rfl ?_
  obtain ⟨y20, hy20, h⟩ := Option.bind_eq_some_iff.1 h
  refine WO.cS rfl rfl (rdS (tree_Tree_name_ok hH h14 hy20)) rfl rfl rfl ?_
  rintro _ rfl
  refine WO.md (MOp.bs (l := ([y20] : List (Int × Int × (List UInt8)))) sl63 (RL.cons (Rp Ri (Rp Ri Rs)) RL.nil) (lb rfl) rfl rfl) rfl rfl ?_
  rintro v23 _ ⟨b21, o22, rfl⟩
  obtain ⟨_, _, _, _, _, rfl⟩ := o22.isl
  obtain ⟨y25, hy25, h⟩ := Option.bind_eq_some_iff.1 h
  refine WO.md (MOp.app rfl rfl rfl sl63 h15 (Src.o (i := 0) sl63 o22 rfl) hy25 rfl rfl (fun _ => (.t (.t .h)))) rfl rfl ?_
  rintro v29 _ ⟨b26, n27, o28, rfl⟩
  obtain ⟨_, _, _, _, _, rfl⟩ := o28.isl
  refine WO.q (.as (v := .sl _ _ _ _ _ _) rfl) rfl rfl ?_
  refine WO.nil ?_
  refine WX.pop ?_
  refine WX.reg ?_
  refine WO.q (.r fun _ => rfl) rfl rfl ?_
  refine WO.q (.mv (v := .int _ _) rfl) rfl rfl ?_
  refine WO.nil ?_
  refine WX.keepL [0, 3, 17, 18, 19] (WX.pk [2, 3] (by decide) ?_) rfl
  obtain rfl := Option.some.inj h
  exact hn _ hE _ _ _ _ ⟨hB, hH, _, _, _, n27, _, _, _, false, _, h14, o28, h16, rfl, rfl⟩
  have q_k17 := of_decide_eq_false k17
  replace h := (if_neg q_k17).symm.trans h
  refine WX.condF rfl k17 ?_
  refine WX.exit rfl ?_
  refine WX.keep [0, 3] (WX.pk [0] (by decide) ?_) rfl
  obtain rfl := Option.some.inj h
  exact hx0 _ hE _ _ _ _ ⟨hB, hH, _, _, _, n15, _, h14, h15, rfl, rfl⟩
theorem tree_Tree_Deeds_l0_ok {B0 : Kn} {L : Own} {n0 : Nat} {H : Heap} {x0 : Nat} {x17 : List (Int × (List UInt8))} {x3 : List (Int × Int × (List UInt8))} {x19 : Int} {Q : AV → St → Prop} {d : Nat} {e : (List (Int × Int × (List UInt8)))} (h : iter (fun (s : (List (Int × Int × (List UInt8))) × Int) => tree_Tree_Deeds_l0 H x0 x17 s.1 s.2) d (x3, x19) = some e) (g0 : ∀ s, e = s → WXH Tryz.prog 68 n0 (Fin Tryz.prog Tryz.f23.results.toList n0 Q) [.code (ct [1, 1, 1, 1, 1] (bodyOf Tryz.f23))] (tree_Tree_Deeds_l0_X0 B0 H x0 s) L) : WXH Tryz.prog 68 n0 (Fin Tryz.prog Tryz.f23.results.toList n0 Q) [.code (ct [1, 1, 1, 1, 0, 1, 0, 0] (bodyOf Tryz.f23)), .lp (ct [1, 1, 1, 1, 0, 1, 0, 0] (bodyOf Tryz.f23)), .blk 0, .code (ct [1, 1, 1, 1, 1] (bodyOf Tryz.f23))] (tree_Tree_Deeds_l0_I B0 H x0 x17 x3 x19) L :=
  iter_okH (I := fun s => tree_Tree_Deeds_l0_I B0 H x0 x17 s.1 s.2) (D := fun e => (∀ s, e = s → WXH Tryz.prog 68 n0 (Fin Tryz.prog Tryz.f23.results.toList n0 Q) [.code (ct [1, 1, 1, 1, 1] (bodyOf Tryz.f23))] (tree_Tree_Deeds_l0_X0 B0 H x0 s) L)) (fun E hn hx s o ho hE => tree_Tree_Deeds_l0_s (x3 := s.1) (x19 := s.2) ho hn (fun s hs => (hx _ hs) _ rfl)  hE) h g0
theorem tree_Tree_Deeds_j16_ok {B0 : Kn} {L : Own} {n0 : Nat} {H : Heap} {x0 : Nat} {x3 : List (Int × Int × (List UInt8))} {x35 : List Int} {x37 : Int} {Q : AV → St → Prop} {E : ((List (Int × Int × (List UInt8))) × Int) ⊕ (List (Int × Int × (List UInt8))) → Prop} {o : ((List (Int × Int × (List UInt8))) × Int) ⊕ (List (Int × Int × (List UInt8)))} (h : tree_Tree_Deeds_j16 H x0 x3 x35 x37 = some o) (hn : ∀ s, E (.inl s) → WXH Tryz.prog 68 n0 (Fin Tryz.prog Tryz.f23.results.toList n0 Q) [.lp (ct [1, 1, 1, 1, 1, 0, 1, 0, 0] (bodyOf Tryz.f23)), .blk 2, .code (ct [1, 1, 1, 1, 1, 1] (bodyOf Tryz.f23))] (tree_Tree_Deeds_l1_I B0 H x0 x35 s.1 s.2) L) (hx0 : ∀ s, E (.inr s) → WXH Tryz.prog 68 n0 (Fin Tryz.prog Tryz.f23.results.toList n0 Q) [.code (ct [1, 1, 1, 1, 1, 1] (bodyOf Tryz.f23))] (tree_Tree_Deeds_l1_X0 B0 H x0 s) L) (hE : E o) : WXH Tryz.prog 68 n0 (Fin Tryz.prog Tryz.f23.results.toList n0 Q) [.code (ct [1, 1, 1, 1, 1, 0, 1, 0, 0, 1, 1, 1] (bodyOf Tryz.f23)), .lp (ct [1, 1, 1, 1, 1, 0, 1, 0, 0] (bodyOf Tryz.f23)), .blk 2, .code (ct [1, 1, 1, 1, 1, 1] (bodyOf Tryz.f23))] (tree_Tree_Deeds_j16_I B0 H x0 x3 x35 x37) L := by
  unfold tree_Tree_Deeds_j16 at h
  rintro _ B _ E ⟨hB, hH, v70, v71, b71, n71, c71, v72, b72, n72, c72, h70, h71, h72, rfl, rfl⟩
  obtain ⟨_, _, _, _, _, rfl⟩ := h71.isl
  obtain ⟨_, _, _, _, _, rfl⟩ := h72.isl
  refine WX.reg ?_
  refine WO.q (.r fun _ => rfl) rfl rfl ?_
  refine WO.q (.mv (v := .int _ _) rfl) rfl rfl ?_
  refine WO.nil ?_
  refine WX.keepL [0, 3, 35, 36, 37] (WX.pk [0, 1] (by decide) ?_) rfl
  obtain rfl := Option.some.inj h
  exact hn _ hE _ _ _ _ ⟨hB, hH, _, _, _, n71, _, _, _, n72, _, h70, h71, h72, rfl, rfl⟩
theorem tree_Tree_Deeds_l1_s {B0 : Kn} {L : Own} {n0 : Nat} {H : Heap} {x0 : Nat} {x35 : List Int} {x3 : List (Int × Int × (List UInt8))} {x37 : Int} {Q : AV → St → Prop} {E : ((List (Int × Int × (List UInt8))) × Int) ⊕ (List (Int × Int × (List UInt8))) → Prop} {o : ((List (Int × Int × (List UInt8))) × Int) ⊕ (List (Int × Int × (List UInt8)))} (h : tree_Tree_Deeds_l1 H x0 x35 x3 x37 = some o) (hn : ∀ s, E (.inl s) → WXH Tryz.prog 68 n0 (Fin Tryz.prog Tryz.f23.results.toList n0 Q) [.lp (ct [1, 1, 1, 1, 1, 0, 1, 0, 0] (bodyOf Tryz.f23)), .blk 2, .code (ct [1, 1, 1, 1, 1, 1] (bodyOf Tryz.f23))] (tree_Tree_Deeds_l1_I B0 H x0 x35 s.1 s.2) L) (hx0 : ∀ s, E (.inr s) → WXH Tryz.prog 68 n0 (Fin Tryz.prog Tryz.f23.results.toList n0 Q) [.code (ct [1, 1, 1, 1, 1, 1] (bodyOf Tryz.f23))] (tree_Tree_Deeds_l1_X0 B0 H x0 s) L) (hE : E o) : WXH Tryz.prog 68 n0 (Fin Tryz.prog Tryz.f23.results.toList n0 Q) [.code (ct [1, 1, 1, 1, 1, 0, 1, 0, 0] (bodyOf Tryz.f23)), .lp (ct [1, 1, 1, 1, 1, 0, 1, 0, 0] (bodyOf Tryz.f23)), .blk 2, .code (ct [1, 1, 1, 1, 1, 1] (bodyOf Tryz.f23))] (tree_Tree_Deeds_l1_I B0 H x0 x35 x3 x37) L := by
  unfold tree_Tree_Deeds_l1 at h
  rintro _ B _ E ⟨hB, hH, v47, v48, b48, n48, c48, v49, b49, n49, c49, h47, h48, h49, rfl, rfl⟩
  obtain ⟨_, _, _, _, _, rfl⟩ := h48.isl
  obtain ⟨_, _, _, _, _, rfl⟩ := h49.isl
  refine WX.seq ?_
  refine WX.reg ?_
  refine WO.q (.r fun _ => rfl) rfl rfl ?_
  refine WO.nil ?_
  refine WX.seq ?_
  rcases bsp (decide (x37 < (x35.length : Int))) with k50 | k50
  have q_k50 := of_decide_eq_true k50
  replace h := (if_pos q_k50).symm.trans h
  refine WX.condT rfl k50 ?_
  refine WX.skip ?_
  refine WX.seq ?_
  refine WX.block ?_
  refine WX.seq ?_
  refine WX.reg ?_
  obtain ⟨y51, hy51, h⟩ := Option.bind_eq_some_iff.1 h
  obtain rfl := h49.nonnil hy51
  obtain ⟨_, i_y51, l_y51, r_y51⟩ := h49.at sl40 hy51 .i64
  obtain rfl := r_y51
  refine WO.q (.ia i_y51) rfl rfl ?_
  refine WO.q (.ldS (i := 1) rfl rfl (l_y51.g0 rfl) ti3 rfl) rfl rfl ?_
  refine WO.q (.as (v := .int _ _) rfl) rfl rfl ?_
  refine WO.nil ?_
  refine WX.seq ?_
  refine WX.reg ?_
  refine WO.q (.mv (v := v47) rfl) rfl rfl ?_
  obtain ⟨y52, hy52, h⟩ := Option.bind_eq_some_iff.1 h
  obtain ⟨b_y52, c_y52, e_y52, m_y52, r_y52, u_y52⟩ := hgetS (foc126 hH) h47 hy52
  subst e_y52
  obtain ⟨_, _, rfl, ⟨w53, rfl, hw53⟩, ⟨_, _, rfl, ⟨w54, rfl, hw54⟩, ⟨w55, rfl, hw55⟩⟩⟩ := r_y52
  refine WO.q (.r fun _ => rfl) rfl rfl ?_
  refine WO.q (.fa (fa126_0 _ _)) rfl rfl ?_
  refine WO.ql (.ldSm rfl (inE m_y52) rfl ti122 rfl) rfl rfl ?_
  refine WO.q (.mv (v := .int _ _) rfl) rfl rfl ?_
  obtain ⟨y56, hy56, h⟩ := Option.bind_eq_some_iff.1 h
  refine WO.md (MOp.lookup mt122 (foc122 hH) hw53 hy56 kI rfl rfl) rfl rfl ?_
  rintro c57 _ ⟨rfl, _, r58, rfl⟩
  have hw59 := r58
  refine WO.q (.bin (eveqlnil hw59 ti127 rfl)) rfl rfl ?_
  refine WO.nil ?_
  rcases bsp (decide (((mget y56 y51).getD 0) = 0)) with k60 | k60
  have q_k60 := of_decide_eq_true k60
  replace h := (if_pos q_k60).symm.trans h
  refine WX.condT rfl k60 ?_
  refine WX.reg ?_
  refine WO.q (.mv (v := .sl _ _ _ _ _ _) rfl) rfl rfl ?_
  refine WO.q (.mv (v := .int _ _) rfl) rfl rfl ?_
  refine WO.q (.bd (bd72_0_1 (cI rfl) (cI rfl))) rfl rfl ?_
  refine WO.md (MOp.bs (l := ([((2, y51, ([] : List UInt8)) : Int × Int × (List UInt8))] : List (Int × Int × (List UInt8)))) sl63 (RL.cons (Rp Ri (Rp Ri Rs)) RL.nil) (lb rfl) rfl rfl) rfl rfl ?_
  rintro v63 _ ⟨b61, o62, rfl⟩
  obtain ⟨_, _, _, _, _, rfl⟩ := o62.isl
  obtain ⟨y65, hy65, h⟩ := Option.bind_eq_some_iff.1 h
  refine WO.md (MOp.app rfl rfl rfl sl63 h48 (Src.o (i := 0) sl63 o62 rfl) hy65 rfl rfl (fun _ => (.t .h))) rfl rfl ?_
  rintro v69 _ ⟨b66, n67, o68, rfl⟩
  obtain ⟨_, _, _, _, _, rfl⟩ := o68.isl
  refine WO.q (.as (v := .sl _ _ _ _ _ _) rfl) rfl rfl ?_
  refine WO.nil ?_
  refine WX.pop ?_
  refine WX.keep [0, 3, 35, 36, 37] (WX.pk [1, 2] (by decide) ?_) rfl
  exact tree_Tree_Deeds_j16_ok h hn hx0 hE _ _ _ _ ⟨hB, hH, _, _, _, n67, _, _, _, false, _, h47, o68, h49, rfl, rfl⟩
  have q_k60 := of_decide_eq_false k60
  replace h := (if_neg q_k60).symm.trans h
  refine WX.condF rfl k60 ?_
  refine WX.reg ?_
  refine WO.q (.mv (v := .sl _ _ _ _ _ _) rfl) rfl rfl ?_
  refine WO.q (.mv (v := .int _ _) rfl) rfl rfl ?_
  refine WO.q (.bd (bd72_0_1 (cI rfl) (cI rfl))) rfl rfl ?_
  refine WO.md (MOp.bs (l := ([((1, y51, ([] : List UInt8)) : Int × Int × (List UInt8))] : List (Int × Int × (List UInt8)))) sl63 (RL.cons (Rp Ri (Rp Ri Rs)) RL.nil) (lb rfl) rfl rfl) rfl rfl ?_
  rintro v75 _ ⟨b73, o74, rfl⟩
  obtain ⟨_, _, _, _, _, rfl⟩ := o74.isl
  obtain ⟨y77, hy77, h⟩ := Option.bind_eq_some_iff.1 h
  refine WO.md (MOp.app rfl rfl rfl sl63 h48 (Src.o (i := 0) sl63 o74 rfl) hy77 rfl rfl (fun _ => (.t .h))) rfl rfl ?_
  rintro v81 _ ⟨b78, n79, o80, rfl⟩
  obtain ⟨_, _, _, _, _, rfl⟩ := o80.isl
  refine WO.q (.as (v := .sl _ _ _ _ _ _) rfl) rfl rfl ?_
  refine WO.nil ?_
  refine WX.pop ?_
  refine WX.keep [0, 3, 35, 36, 37] (WX.pk [1, 2] (by decide) ?_) rfl
  exact tree_Tree_Deeds_j16_ok h hn hx0 hE _ _ _ _ ⟨hB, hH, _, _, _, n79, _, _, _, false, _, h47, o80, h49, rfl, rfl⟩
  have q_k50 := of_decide_eq_false k50
  replace h := (if_neg q_k50).symm.trans h
  refine WX.condF rfl k50 ?_
  refine WX.exit rfl ?_
  refine WX.keep [0, 3] (WX.pk [0] (by decide) ?_) rfl
  obtain rfl := Option.some.inj h
  exact hx0 _ hE _ _ _ _ ⟨hB, hH, _, _, _, n48, _, h47, h48, rfl, rfl⟩
theorem tree_Tree_Deeds_l1_ok {B0 : Kn} {L : Own} {n0 : Nat} {H : Heap} {x0 : Nat} {x35 : List Int} {x3 : List (Int × Int × (List UInt8))} {x37 : Int} {Q : AV → St → Prop} {d : Nat} {e : (List (Int × Int × (List UInt8)))} (h : iter (fun (s : (List (Int × Int × (List UInt8))) × Int) => tree_Tree_Deeds_l1 H x0 x35 s.1 s.2) d (x3, x37) = some e) (g0 : ∀ s, e = s → WXH Tryz.prog 68 n0 (Fin Tryz.prog Tryz.f23.results.toList n0 Q) [.code (ct [1, 1, 1, 1, 1, 1] (bodyOf Tryz.f23))] (tree_Tree_Deeds_l1_X0 B0 H x0 s) L) : WXH Tryz.prog 68 n0 (Fin Tryz.prog Tryz.f23.results.toList n0 Q) [.code (ct [1, 1, 1, 1, 1, 0, 1, 0, 0] (bodyOf Tryz.f23)), .lp (ct [1, 1, 1, 1, 1, 0, 1, 0, 0] (bodyOf Tryz.f23)), .blk 2, .code (ct [1, 1, 1, 1, 1, 1] (bodyOf Tryz.f23))] (tree_Tree_Deeds_l1_I B0 H x0 x35 x3 x37) L :=
  iter_okH (I := fun s => tree_Tree_Deeds_l1_I B0 H x0 x35 s.1 s.2) (D := fun e => (∀ s, e = s → WXH Tryz.prog 68 n0 (Fin Tryz.prog Tryz.f23.results.toList n0 Q) [.code (ct [1, 1, 1, 1, 1, 1] (bodyOf Tryz.f23))] (tree_Tree_Deeds_l1_X0 B0 H x0 s) L)) (fun E hn hx s o ho hE => tree_Tree_Deeds_l1_s (x3 := s.1) (x37 := s.2) ho hn (fun s hs => (hx _ hs) _ rfl)  hE) h g0
theorem tree_Tree_Deeds_ok {B0 : Kn} {L : Own} {H : Heap} {E : Own} (hH : HR B0 H E) {a0 : Nat} {v0_0 : AV} (g0_0 : HPt B0 126 v0_0 a0) {r : Heap × (List (Int × Int × (List UInt8)))} (h : tree_Tree_Deeds H a0 = some r) : ∀ st, Hp B0 (E ++ L) st → ASpec Tryz.prog 23 [v0_0] st (tree_Tree_Deeds_P B0 L r) := by
  unfold tree_Tree_Deeds at h
  refine bodyA (A := []) (L := E ++ L) Tryz.func23 rfl (c := bodyOf Tryz.f23) rfl Tryz.ntmps23 (lb rfl) fun n0 => ?_
  have hB := KLw.refl B0
  refine WX.seq ?_
  refine WX.reg ?_
  refine WO.q (.as (v := .sl _ _ _ _ _ _) rfl) rfl rfl ?_
  refine WO.nil ?_
  refine WX.seq ?_
  refine WX.seq ?_
  refine WX.reg ?_
  refine WO.q (.mv (v := v0_0) rfl) rfl rfl ?_
  refine WO.q (.bin (eveqlnil g0_0 ti23 rfl)) rfl rfl ?_
  refine WO.nil ?_
  rcases bsp (decide (a0 = 0)) with k1 | k1
  have q_k1 := of_decide_eq_true k1
  replace h := (if_pos q_k1).symm.trans h
  refine WX.condT rfl k1 ?_
  refine WX.seq ?_
  refine WX.reg ?_
  refine WO.q (.as (v := .sl _ _ _ _ _ _) rfl) rfl rfl ?_
  refine WO.nil ?_
  obtain rfl := Option.some.inj h
  exact WX.ret (rs_ (rs_tmp rfl rs_nil)) fun st hp => ⟨_, _, _, hB, ((hp.pk [] (by decide)).skip 0), _, 0, true, [], rfl, rfl, hH, OSl.none _ _⟩
  have q_k1 := of_decide_eq_false k1
  replace h := (if_neg q_k1).symm.trans h
  refine WX.condF rfl k1 ?_
  refine WX.skip ?_
  refine WX.seq ?_
  refine WX.reg ?_
  refine WO.q (.as (v := .sl _ _ _ _ _ _) rfl) rfl rfl ?_
  refine WO.nil ?_
  refine WX.seq ?_
  refine WX.reg ?_
  refine WO.q (.as (v := .fn _ _ _) rfl) rfl rfl ?_
  refine WO.nil ?_
  refine WX.seq ?_
  refine WX.seq ?_
  refine WX.reg ?_
  refine WO.q (.mv (v := v0_0) rfl) rfl rfl ?_
  obtain ⟨y2, hy2, h⟩ := Option.bind_eq_some_iff.1 h
  obtain ⟨b_y2, c_y2, e_y2, m_y2, r_y2, u_y2⟩ := hgetS (foc126 hH) g0_0 hy2
  subst e_y2
  obtain ⟨_, _, rfl, ⟨w3, rfl, hw3⟩, ⟨_, _, rfl, ⟨w4, rfl, hw4⟩, ⟨w5, rfl, hw5⟩⟩⟩ := r_y2
  refine WO.q (.r fun _ => rfl) rfl rfl ?_
  refine WO.q (.fa (fa126_1 _ _)) rfl rfl ?_
  refine WO.ql (.ldSm rfl (inE m_y2) rfl ti123 rfl) rfl rfl ?_
  refine WO.c1 rfl rfl (keysG_names (cHm rfl hw4)) rfl rfl rfl ?_
  rintro _ B _ hK ⟨b6, rfl, rfl⟩
  replace g0_0 := g0_0.up hK
  replace hw4 := hw4.up hK
  replace hH := hH.up hK
  replace hB := hB.trans hK.w
  refine WO.q (.mv (v := .fn _ _ _) rfl) rfl rfl ?_
  obtain ⟨y7, hy7, h⟩ := Option.bind_eq_some_iff.1 h
  obtain ⟨bm_y7, es_y7, c_y7, ps_y7, e_y7, m_y7, r_y7, q_y7⟩ := hgetR (foc123 hH) hw4 hy7
  subst e_y7
  obtain ⟨hk8, h⟩ := ifS_some h
  refine WO.t1 (j := 0) rfl rfl rfl (sorted_spot1 (by rw [List.length_map, q_y7.length_eq]; exact hk8) (by rw [q_y7.length_eq]; exact hk8) (keysS_names r_y7 (inE m_y7))) rfl rfl rfl ?_
  rintro v9 B _ hK ⟨b10, n11, c12, rfl, h13⟩
  rw [sortP_perm (q_y7.map _)] at h13
  obtain ⟨_, _, _, _, _, rfl⟩ := h13.isl
  replace g0_0 := g0_0.up hK
  replace hw4 := hw4.up hK
  replace hH := hH.up hK
  replace hB := hB.trans hK.w
  refine WO.q (.len rfl rfl rfl (sl171.len h13.isl)) rfl rfl ?_
  refine WO.q (.mv (v := .int _ _) rfl) rfl rfl ?_
  refine WO.nil ?_
  refine WX.block ?_
  refine WX.loop ?_
  obtain ⟨e32, he32, h⟩ := Option.bind_eq_some_iff.1 h
  refine WX.keep [0, 3, 17, 18, 19] (WX.pk [0] (by decide) (WX.addn [0] ?_)) rfl
  refine tree_Tree_Deeds_l0_ok he32 ?_ _ _ _ _ ⟨hB, hH, _, _, 0, true, [], _, _, n11, _, g0_0, OSl.none _ _, h13, rfl, rfl⟩
  intro s100 he_
  subst he_
  replace h := h
  rintro _ B _ E ⟨hB, hH, v33, v34, b34, n34, c34, h33, h34, rfl, rfl⟩
  obtain ⟨_, _, _, _, _, rfl⟩ := h34.isl
  refine WX.seq ?_
  refine WX.seq ?_
  refine WX.reg ?_
  refine WO.q (.mv (v := v33) rfl) rfl rfl ?_
  obtain ⟨y35, hy35, h⟩ := Option.bind_eq_some_iff.1 h
  obtain ⟨b_y35, c_y35, e_y35, m_y35, r_y35, u_y35⟩ := hgetS (foc126 hH) h33 hy35
  subst e_y35
  obtain ⟨_, _, rfl, ⟨w36, rfl, hw36⟩, ⟨_, _, rfl, ⟨w37, rfl, hw37⟩, ⟨w38, rfl, hw38⟩⟩⟩ := r_y35
  refine WO.q (.r fun _ => rfl) rfl rfl ?_
  refine WO.q (.fa (fa126_2 _ _)) rfl rfl ?_
  refine WO.ql (.ldSm rfl (inE m_y35) rfl ti124 rfl) rfl rfl ?_
  refine WO.c1 rfl rfl (keysG_seen (cHm rfl hw38)) rfl rfl rfl ?_
  rintro _ B _ hK ⟨b39, rfl, rfl⟩
  replace h33 := h33.up hK
  replace hw38 := hw38.up hK
  replace h34 := h34.up hK
  replace hH := hH.up hK
  replace hB := hB.trans hK.w
  obtain ⟨y40, hy40, h⟩ := Option.bind_eq_some_iff.1 h
  obtain ⟨bm_y40, es_y40, c_y40, ps_y40, e_y40, m_y40, r_y40, q_y40⟩ := hgetR (foc124 hH) hw38 hy40
  subst e_y40
  obtain ⟨hk41, h⟩ := ifS_some h
  refine WO.t1 (j := 0) rfl rfl rfl (sorted_int1 (by rw [List.length_map, q_y40.length_eq]; exact hk41) (by rw [q_y40.length_eq]; exact hk41) (keysS_seen r_y40 (inE m_y40))) rfl rfl rfl ?_
  rintro v42 B _ hK ⟨b43, n44, c45, rfl, h46⟩
  rw [sortI_perm (q_y40.map _)] at h46
  obtain ⟨_, _, _, _, _, rfl⟩ := h46.isl
  replace h33 := h33.up hK
  replace hw38 := hw38.up hK
  replace h34 := h34.up hK
  replace hH := hH.up hK
  replace hB := hB.trans hK.w
  refine WO.q (.len rfl rfl rfl (sl40.len h46.isl)) rfl rfl ?_
  refine WO.q (.mv (v := .int _ _) rfl) rfl rfl ?_
  refine WO.nil ?_
  refine WX.block ?_
  refine WX.loop ?_
  obtain ⟨e84, he84, h⟩ := Option.bind_eq_some_iff.1 h
  refine WX.keep [0, 3, 35, 36, 37] (WX.pk [1, 0] (by decide) ?_) rfl
  refine tree_Tree_Deeds_l1_ok he84 ?_ _ _ _ _ ⟨hB, hH, _, _, _, n34, _, _, _, n44, _, h33, h34, h46, rfl, rfl⟩
  intro s99 he_
  subst he_
  replace h := h
  rintro _ B _ E ⟨hB, hH, v85, v86, b86, n86, c86, h85, h86, rfl, rfl⟩
  obtain ⟨_, _, _, _, _, rfl⟩ := h86.isl
  refine WX.seq ?_
  refine WX.reg ?_
  refine WO.q (.mv (v := v85) rfl) rfl rfl ?_
  obtain ⟨y87, hy87, h⟩ := Option.bind_eq_some_iff.1 h
  obtain ⟨b_y87, c_y87, e_y87, m_y87, r_y87, u_y87⟩ := hgetS (foc126 hH) h85 hy87
  subst e_y87
  obtain ⟨_, _, rfl, ⟨w88, rfl, hw88⟩, ⟨_, _, rfl, ⟨w89, rfl, hw89⟩, ⟨w90, rfl, hw90⟩⟩⟩ := r_y87
  refine WO.q (.r fun _ => rfl) rfl rfl ?_
  refine WO.q (.fa (fa126_1 _ _)) rfl rfl ?_
  refine WO.ql (.ldSm rfl (inE m_y87) rfl ti123 rfl) rfl rfl ?_
  obtain ⟨y91, hy91, h⟩ := Option.bind_eq_some_iff.1 h
  obtain ⟨H92, e_H92, h⟩ := Option.bind_eq_some_iff.1 h
  refine WO.en (MOpE.clrM rfl rfl rfl mt123 (foc123 hH) hw89 hy91 rfl) rfl ?_
  rintro _ _ _ E ⟨rfl, rfl, rfl, hH⟩
  replace hH := HRe e_H92 hH
  refine WO.nil ?_
  refine WX.seq ?_
  refine WX.reg ?_
  refine WO.q (.mv (v := .ptr b_y87 0) rfl) rfl rfl ?_
  obtain ⟨y93, hy93, h⟩ := Option.bind_eq_some_iff.1 h
  obtain ⟨c_y93, m_y93, r_y93, u_y93⟩ := hgetP (foc126 hH) h85 hy93
  obtain ⟨_, _, rfl, ⟨w94, rfl, hw94⟩, ⟨_, _, rfl, ⟨w95, rfl, hw95⟩, ⟨w96, rfl, hw96⟩⟩⟩ := r_y93
  refine WO.q (.r fun _ => rfl) rfl rfl ?_
  refine WO.q (.fa (fa126_2 _ _)) rfl rfl ?_
  refine WO.ql (.ldSm rfl (inE m_y93) rfl ti124 rfl) rfl rfl ?_
  obtain ⟨y97, hy97, h⟩ := Option.bind_eq_some_iff.1 h
  obtain ⟨H98, e_H98, h⟩ := Option.bind_eq_some_iff.1 h
  refine WO.en (MOpE.clrM rfl rfl rfl mt124 (foc124 hH) hw96 hy97 rfl) rfl ?_
  rintro _ _ _ E ⟨rfl, rfl, rfl, hH⟩
  replace hH := HRe e_H98 hH
  refine WO.nil ?_
  refine WX.seq ?_
  refine WX.reg ?_
  refine WO.q (.mv (v := .sl _ _ _ _ _ _) rfl) rfl rfl ?_
  refine WO.q (.as (v := .sl _ _ _ _ _ _) rfl) rfl rfl ?_
  refine WO.nil ?_
  obtain rfl := Option.some.inj h
  exact WX.ret (rs_ (rs_tmp rfl rs_nil)) fun st hp => ⟨_, _, _, hB, (hp.pk [0] (by decide)), _, _, n86, _, rfl, rfl, hH, h86⟩
def tree_Tree_Copy_P (B : Kn) (L : Own) (r : Heap × Nat) : AV → St → Prop := CH B L fun B' X E' v => ∃ wp0, v = wp0 ∧ X = [] ∧ HR B' r.1 E' ∧ HPt B' 126 wp0 r.2
theorem tree_Tree_Copy_ok {B0 : Kn} {L : Own} {H : Heap} {E : Own} (hH : HR B0 H E) {a0 : Nat} {v0_0 : AV} (g0_0 : HPt B0 126 v0_0 a0) {Z : (Heap × Nat) → Prop} (h : tree_Tree_Copy H a0 Z) : ∀ st, Hp B0 (E ++ L) st → ASpec Tryz.prog 22 [v0_0] st (ndP Z (tree_Tree_Copy_P B0 L)) := by
  unfold tree_Tree_Copy at h
  refine bodyA (A := []) (L := E ++ L) Tryz.func22 rfl (c := bodyOf Tryz.f22) rfl Tryz.ntmps22 (lb rfl) fun n0 => ?_
  have hB := KLw.refl B0
  refine WX.seq ?_
  refine WX.reg ?_
  refine WO.q (.as (v := .nilptr) rfl) rfl rfl ?_
  refine WO.nil ?_
  refine WX.seq ?_
  refine WX.seq ?_
  refine WX.reg ?_
  refine WO.q (.mv (v := v0_0) rfl) rfl rfl ?_
  refine WO.q (.bin (eveqlnil g0_0 ti23 rfl)) rfl rfl ?_
  refine WO.nil ?_
  rcases bsp (decide (a0 = 0)) with k1 | k1
  have q_k1 := of_decide_eq_true k1
  replace h := (if_pos q_k1).mp h
  refine WX.condT rfl k1 ?_
  refine WX.seq ?_
  refine WX.reg ?_
  refine WO.q (.as (v := .nilptr) rfl) rfl rfl ?_
  refine WO.nil ?_
  exact WX.ret (rs_ (rs_tmp rfl rs_nil)) fun st hp => ⟨_, h, ⟨_, _, _, hB, (hp.pk [] (by decide)), _, rfl, rfl, hH, HPt.nil⟩⟩
  have q_k1 := of_decide_eq_false k1
  replace h := (if_neg q_k1).mp h
  refine WX.condF rfl k1 ?_
  refine WX.skip ?_
  refine WX.seq ?_
  refine WX.reg ?_
  obtain ⟨H4, e_H4, h⟩ := h
  refine WO.ed (MOpE.mk (t := 122) (foc122 hH)) rfl rfl ?_
  rintro v2 B _ E ⟨hK, rfl, h3, hH⟩
  replace hH := HRe e_H4 hH
  replace g0_0 := g0_0.upw hK
  replace hB := hB.trans hK
  obtain ⟨H7, e_H7, h⟩ := h
  refine WO.ed (MOpE.mk (t := 123) (foc123 hH)) rfl rfl ?_
  rintro v5 B _ E ⟨hK, rfl, h6, hH⟩
  replace hH := HRe e_H7 hH
  replace g0_0 := g0_0.upw hK
  replace h3 := h3.upw hK
  replace hB := hB.trans hK
  obtain ⟨H10, e_H10, h⟩ := h
  refine WO.ed (MOpE.mk (t := 124) (foc124 hH)) rfl rfl ?_
  rintro v8 B _ E ⟨hK, rfl, h9, hH⟩
  replace hH := HRe e_H10 hH
  replace g0_0 := g0_0.upw hK
  replace h3 := h3.upw hK
  replace h6 := h6.upw hK
  replace hB := hB.trans hK
  refine WO.q (.bd (bd126_0_1_2 (cHm rfl h3) (cHm rfl h6) (cHm rfl h9))) rfl rfl ?_
  refine WO.md (MOp.box (cA rfl)) rfl rfl ?_
  rintro _ _ ⟨b11, rfl, rfl⟩
  refine WO.q (.as (v := .ptr _ _) rfl) rfl rfl ?_
  refine WO.nil ?_
  refine WX.seq ?_
  refine WX.seq ?_
  refine WX.reg ?_
  refine WO.q (.mv (v := v0_0) rfl) rfl rfl ?_
  obtain ⟨y12, hy12, h⟩ := h
  obtain ⟨b_y12, c_y12, e_y12, m_y12, r_y12, u_y12⟩ := hgetS (foc126 hH) g0_0 hy12
  subst e_y12
  obtain ⟨_, _, rfl, ⟨w13, rfl, hw13⟩, ⟨_, _, rfl, ⟨w14, rfl, hw14⟩, ⟨w15, rfl, hw15⟩⟩⟩ := r_y12
  refine WO.q (.r fun _ => rfl) rfl rfl ?_
  refine WO.q (.fa (fa126_0 _ _)) rfl rfl ?_
  refine WO.ql (.ldSm rfl (inE m_y12) rfl ti122 rfl) rfl rfl ?_
  obtain ⟨y16, hy16, h⟩ := h
  obtain ⟨bm_y16, es_y16, c_y16, ps_y16, e_y16, m_y16, r_y16, q_y16⟩ := hgetR (foc122 hH) hw13 hy16
  subst e_y16
  refine WO.md (MOp.range mt122 (inE m_y16) rfl) rfl rfl ?_
  rintro _ _ ⟨bi_y16, rfl, rfl⟩
  refine WO.nil ?_
  refine WX.block ?_
  exact h.elim
def tree_Tree_All_P (B : Kn) (L : Own) (r : (List Int)) : AV → St → Prop := C1 B L fun B' v e0 => ∃ w0 b0 n0 c0, v = w0 ∧ e0 = oe b0 n0 c0 ∧ OSl (Ty.int .i64) B' w0 b0 n0 c0 r
theorem tree_Tree_All_ok {B0 : Kn} {L : Own} {H : Heap} {Eh : Own} (hH : HR B0 H Eh) {a0 : Nat} {v0_0 : AV} (g0_0 : HPt B0 126 v0_0 a0) {r : (List Int)} (h : tree_Tree_All H a0 = some r) : ∀ st, Hp B0 (Eh ++ L) st → ASpec Tryz.prog 17 [v0_0] st (tree_Tree_All_P B0 (Eh ++ L) r) := by
  unfold tree_Tree_All at h
  refine bodyA (A := []) (L := Eh ++ L) Tryz.func17 rfl (c := bodyOf Tryz.f17) rfl Tryz.ntmps17 (lb rfl) fun n0 => ?_
  have hB := KLe.refl B0
  have hH0 := hH
  refine WX.seq ?_
  refine WX.reg ?_
  refine WO.q (.as (v := .sl _ _ _ _ _ _) rfl) rfl rfl ?_
  refine WO.nil ?_
  refine WX.seq ?_
  refine WX.seq ?_
  refine WX.reg ?_
  refine WO.q (.mv (v := v0_0) rfl) rfl rfl ?_
  refine WO.q (.bin (eveqlnil g0_0 ti23 rfl)) rfl rfl ?_
  refine WO.nil ?_
  rcases bsp (decide (a0 = 0)) with k1 | k1
  have q_k1 := of_decide_eq_true k1
  replace h := (if_pos q_k1).symm.trans h
  refine WX.condT rfl k1 ?_
  refine WX.seq ?_
  refine WX.reg ?_
  refine WO.q (.as (v := .sl _ _ _ _ _ _) rfl) rfl rfl ?_
  refine WO.nil ?_
  obtain rfl := Option.some.inj h
  exact WX.ret (rs_ (rs_tmp rfl rs_nil)) fun st hp => ⟨_, _, hB, ((hp.pk [] (by decide)).skip 0), _, 0, true, [], rfl, rfl, OSl.none _ _⟩
  have q_k1 := of_decide_eq_false k1
  replace h := (if_neg q_k1).symm.trans h
  refine WX.condF rfl k1 ?_
  refine WX.skip ?_
  refine WX.seq ?_
  refine WX.reg ?_
  refine WO.q (.mv (v := v0_0) rfl) rfl rfl ?_
  obtain ⟨y2, hy2, h⟩ := Option.bind_eq_some_iff.1 h
  obtain ⟨b_y2, c_y2, e_y2, m_y2, r_y2, u_y2⟩ := hgetS (foc126 hH) g0_0 hy2
  subst e_y2
  obtain ⟨_, _, rfl, ⟨w3, rfl, hw3⟩, ⟨_, _, rfl, ⟨w4, rfl, hw4⟩, ⟨w5, rfl, hw5⟩⟩⟩ := r_y2
  refine WO.q (.r fun _ => rfl) rfl rfl ?_
  refine WO.q (.fa (fa126_0 _ _)) rfl rfl ?_
  refine WO.ql (.ldSm rfl (inE m_y2) rfl ti122 rfl) rfl rfl ?_
  refine WO.c1 rfl rfl (keysG_nodes (cHm rfl hw3)) rfl rfl rfl ?_
  rintro _ B _ hK ⟨b6, rfl, rfl⟩
  replace g0_0 := g0_0.up hK
  replace hw3 := hw3.up hK
  replace hH := hH.up hK
  replace hB := hB.trans hK
  obtain ⟨y7, hy7, h⟩ := Option.bind_eq_some_iff.1 h
  obtain ⟨bm_y7, es_y7, c_y7, ps_y7, e_y7, m_y7, r_y7, q_y7⟩ := hgetR (foc122 hH) hw3 hy7
  subst e_y7
  obtain ⟨hk8, h⟩ := ifS_some h
  refine WO.t1 (j := 0) rfl rfl rfl (sorted_int1 (by rw [List.length_map, q_y7.length_eq]; exact hk8) (by rw [q_y7.length_eq]; exact hk8) (keysS_nodes r_y7 (inE m_y7))) rfl rfl rfl ?_
  rintro v9 B _ hK ⟨b10, n11, c12, rfl, h13⟩
  rw [sortI_perm (q_y7.map _)] at h13
  obtain ⟨_, _, _, _, _, rfl⟩ := h13.isl
  replace g0_0 := g0_0.up hK
  replace hw3 := hw3.up hK
  replace hH := hH.up hK
  replace hB := hB.trans hK
  refine WO.q (.as (v := .sl _ _ _ _ _ _) rfl) rfl rfl ?_
  refine WO.nil ?_
  obtain rfl := Option.some.inj h
  exact WX.ret (rs_ (rs_tmp rfl rs_nil)) fun st hp => ⟨_, _, hB, (hp.pk [0] (by decide)), _, _, n11, _, rfl, rfl, h13⟩
end Gab
end
section
set_option linter.unusedSimpArgs false
set_option linter.unusedVariables false
set_option maxHeartbeats 4000000
set_option maxRecDepth 100000
namespace Gab
open Go Go.Proofs
def gabionlaw19_wakes_P (B : Kn) (L : Own) (r : Heap × Bool) : AV → St → Prop := CH B L fun B' X E' v => v = .bool r.2 ∧ X = [] ∧ HR B' r.1 E'
theorem gabionlaw19_wakes_ok {B0 : Kn} {L : Own} {H : Heap} {E : Own} (hH : HR B0 H E) {r : Heap × Bool} (h : gabionlaw19_wakes H = some r) : ∀ st, Hp B0 (E ++ L) st → ASpec Tryz.prog 11 [] st (gabionlaw19_wakes_P B0 L r) := by
  unfold gabionlaw19_wakes at h
  refine bodyA (A := []) (L := E ++ L) Tryz.func11 rfl (c := bodyOf Tryz.f11) rfl Tryz.ntmps11 (lb rfl) fun n0 => ?_
  have hB := KLw.refl B0
  refine WX.seq ?_
  refine WX.reg ?_
  refine WO.q (.as (v := .bool _) rfl) rfl rfl ?_
  refine WO.nil ?_
  refine WX.seq ?_
  refine WX.reg ?_
  obtain ⟨y1, hy1, h⟩ := Option.bind_eq_some_iff.1 h
  refine WO.ch rfl rfl (tree_New_ok hH hy1) rfl rfl rfl ?_
  rintro v2 B _ E hK ⟨_, rfl, rfl, hH, h3⟩
  replace hB := hB.trans hK
  refine WO.q (.as (v := v2) rfl) rfl rfl ?_
  refine WO.nil ?_
  refine WX.seq ?_
  refine WX.reg ?_
  refine WO.q (.mv (v := v2) rfl) rfl rfl ?_
  refine WO.q (.bd (bd53_0 (cI rfl))) rfl rfl ?_
  obtain ⟨y4, hy4, h⟩ := Option.bind_eq_some_iff.1 h
  refine WO.ch rfl rfl (tree_Tree_Make_ok hH (a3 := ((2, 0, 0, [], ([] : List UInt8)) : Int × Int × Int × (List (Int × Int)) × (List UInt8))) h3 (RSl.nil _ _) hy4) rfl rfl rfl ?_
  rintro _ B _ E hK ⟨rfl, rfl, hH⟩
  replace h3 := h3.upw hK
  replace hB := hB.trans hK
  refine WO.q (.mv (v := .tup _) rfl) rfl rfl ?_
  refine WO.q (.r fun _ => rfl) rfl rfl ?_
  refine WO.q (.r fun _ => rfl) rfl rfl ?_
  refine WO.q (.as (v := .int _ _) rfl) rfl rfl ?_
  refine WO.q (.as (v := .int _ _) rfl) rfl rfl ?_
  refine WO.nil ?_
  refine WX.seq ?_
  refine WX.reg ?_
  refine WO.q (.mv (v := v2) rfl) rfl rfl ?_
  obtain ⟨y5, hy5, h⟩ := Option.bind_eq_some_iff.1 h
  refine WO.c1 rfl rfl (rd1 (tree_Tree_Inode_ok hH h3 hy5)) rfl rfl rfl ?_
  rintro _ B _ hK ⟨v6, b7, n8, c9, rfl, rfl, h10⟩
  obtain ⟨_, _, _, _, _, rfl⟩ := h10.isl
  replace h3 := h3.up hK
  replace hH := hH.up hK
  replace hB := hB.trans hK.w
  refine WO.q (.mv (v := .tup _) rfl) rfl rfl ?_
  refine WO.q (.r fun _ => rfl) rfl rfl ?_
  refine WO.q (.r fun _ => rfl) rfl rfl ?_
  refine WO.md (MOp.alloc ti53 rfl) rfl rfl ?_
  rintro _ _ ⟨b11, rfl, rfl⟩
  refine WO.mn (MOp.storeW rfl (cA rfl) .h ti53 rfl rfl rfl) rfl ?_
  rintro _ _ rfl
  refine WO.q (.as (v := .int _ _) rfl) rfl rfl ?_
  refine WO.nil ?_
  refine WX.seq ?_
  refine WX.reg ?_
  obtain ⟨y12, hy12, h⟩ := Option.bind_eq_some_iff.1 h
  refine WO.c1 rfl rfl (path_Parse_ok hy12) rfl rfl rfl ?_
  rintro _ B _ hK ⟨v13, b14, n15, c16, rfl, rfl, h17⟩
  obtain ⟨_, _, _, _, _, rfl⟩ := h17.isl
  replace h3 := h3.up hK
  replace h10 := h10.up hK
  replace hH := hH.up hK
  replace hB := hB.trans hK.w
  refine WO.q (.mv (v := .tup _) rfl) rfl rfl ?_
  refine WO.q (.r fun _ => rfl) rfl rfl ?_
  refine WO.q (.r fun _ => rfl) rfl rfl ?_
  refine WO.md (MOp.alloc ti33 rfl) rfl rfl ?_
  rintro _ _ ⟨b18, rfl, rfl⟩
  refine WO.mn (MOp.storeW rfl (cA rfl) .h ti33 rfl rfl rfl) rfl ?_
  rintro _ _ rfl
  refine WO.q (.as (v := .int _ _) rfl) rfl rfl ?_
  refine WO.nil ?_
  refine WX.seq ?_
  refine WX.reg ?_
  refine WO.q (.mv (v := v2) rfl) rfl rfl ?_
  refine WO.q (.ldA (i := 0) rfl rfl rfl ti33 rfl) rfl rfl ?_
  refine WO.fz (j := 1) h17 rfl ?_
  intro B hK g19
  replace h3 := h3.up hK
  replace h10 := h10.up hK
  replace hH := hH.up hK
  replace hB := hB.trans hK.w
  obtain ⟨y20, hy20, h⟩ := Option.bind_eq_some_iff.1 h
  refine WO.ch rfl rfl (tree_Tree_Walk_ok hH h3 g19 hy20) rfl rfl rfl ?_
  rintro _ B _ E hK ⟨rfl, rfl, hH⟩
  replace h3 := h3.upw hK
  replace g19 := g19.upw hK
  replace h10 := h10.upw hK
  replace hB := hB.trans hK
  refine WO.q (.mv (v := .tup _) rfl) rfl rfl ?_
  refine WO.q (.r fun _ => rfl) rfl rfl ?_
  refine WO.q (.r fun _ => rfl) rfl rfl ?_
  refine WO.q (.as (v := .int _ _) rfl) rfl rfl ?_
  refine WO.q (.as (v := .int _ _) rfl) rfl rfl ?_
  refine WO.nil ?_
  refine WX.seq ?_
  refine WX.reg ?_
  refine WO.q (.mv (v := .int _ _) rfl) rfl rfl ?_
  refine WO.q (.r fun _ => rfl) rfl rfl ?_
  refine WO.q (.mv (v := .bool _) rfl) rfl rfl ?_
  rcases bsp (decide (y4.2.2 = 0)) with k21 | k21
  have q_k21 := of_decide_eq_true k21
  replace h := (if_pos q_k21).symm.trans h
  refine WO.q (.mv (v := .int _ _) rfl) (wg rfl rfl (gt k21)) rfl ?_
  refine WO.q (.r fun _ => rfl) (wg rfl rfl (gt k21)) rfl ?_
  refine WO.q (.ptv (v := .bool _) rfl k21 rfl) rfl rfl ?_
  refine WO.q (.mv (v := .bool _) rfl) rfl rfl ?_
  rcases bsp (decide (y4.2.1 = 2)) with k22 | k22
  have q_k22 := of_decide_eq_true k22
  replace h := (if_pos q_k22).symm.trans h
  refine WO.q (.mv (v := .int _ _) rfl) (wg rfl rfl (gt k22)) rfl ?_
  refine WO.q (.r fun _ => rfl) (wg rfl rfl (gt k22)) rfl ?_
  refine WO.q (.ptv (v := .bool _) rfl k22 rfl) rfl rfl ?_
  refine WO.q (.mv (v := .bool _) rfl) rfl rfl ?_
  rcases bsp (decide (y5.2 = 0)) with k23 | k23
  have q_k23 := of_decide_eq_true k23
  replace h := (if_pos q_k23).symm.trans h
  refine WO.q (.fa (fa53_1 _ _)) (wg rfl rfl (gt k23)) rfl ?_
  refine WO.q (.ldS (i := 1) rfl rfl rfl ti3 rfl) (wg rfl rfl (gt k23)) rfl ?_
  refine WO.q (.r fun _ => rfl) (wg rfl rfl (gt k23)) rfl ?_
  refine WO.q (.ptv (v := .bool _) rfl k23 rfl) rfl rfl ?_
  refine WO.q (.mv (v := .bool _) rfl) rfl rfl ?_
  rcases bsp (decide (y5.1.2.1 = 3)) with k24 | k24
  have q_k24 := of_decide_eq_true k24
  replace h := (if_pos q_k24).symm.trans h
  refine WO.q (.mv (v := .int _ _) rfl) (wg rfl rfl (gt k24)) rfl ?_
  refine WO.q (.r fun _ => rfl) (wg rfl rfl (gt k24)) rfl ?_
  refine WO.q (.ptv (v := .bool _) rfl k24 rfl) rfl rfl ?_
  refine WO.q (.mv (v := .bool _) rfl) rfl rfl ?_
  rcases bsp (decide (y20.2.2 = 0)) with k25 | k25
  have q_k25 := of_decide_eq_true k25
  replace h := (if_pos q_k25).symm.trans h
  refine WO.q (.mv (v := .int _ _) rfl) (wg rfl rfl (gt k25)) rfl ?_
  refine WO.q (.r fun _ => rfl) (wg rfl rfl (gt k25)) rfl ?_
  refine WO.q (.ptv (v := .bool _) rfl k25 rfl) rfl rfl ?_
  refine WO.q (.mv (v := .bool _) rfl) rfl rfl ?_
  rcases bsp (decide (y20.2.1 = 2)) with k26 | k26
  have q_k26 := of_decide_eq_true k26
  replace h := (if_pos q_k26).symm.trans h
  refine WO.q (.mv (v := v2) rfl) (wg rfl rfl (gt k26)) rfl ?_
  obtain ⟨y27, hy27, h⟩ := Option.bind_eq_some_iff.1 h
  refine WO.cS rfl rfl (rdS (tree_Tree_Len_ok hH h3 hy27)) rfl (wg rfl rfl (gt k26)) rfl ?_
  rintro _ rfl
  refine WO.q (.r fun _ => rfl) (wg rfl rfl (gt k26)) rfl ?_
  refine WO.q (.ptv (v := .bool _) rfl k26 rfl) rfl rfl ?_
  refine WO.q (.mv (v := .bool _) rfl) rfl rfl ?_
  rcases bsp (decide (y27 = 2)) with k28 | k28
  have q_k28 := of_decide_eq_true k28
  replace h := (if_pos q_k28).symm.trans h
  refine WO.q (.mv (v := v2) rfl) (wg rfl rfl (gt k28)) rfl ?_
  obtain ⟨y29, hy29, h⟩ := Option.bind_eq_some_iff.1 h
  refine WO.ch rfl rfl (tree_Tree_Deeds_ok hH h3 hy29) rfl (wg rfl rfl (gt k28)) rfl ?_
  rintro _ B _ E hK ⟨v30, b31, n32, c33, rfl, rfl, hH, h34⟩
  obtain ⟨_, _, _, _, _, rfl⟩ := h34.isl
  replace h3 := h3.upw hK
  replace h10 := h10.upw hK
  replace g19 := g19.upw hK
  replace hB := hB.trans hK
  refine WO.q (.len rfl rfl rfl (sl63.len h34.isl)) (wg rfl rfl (gt k28)) rfl ?_
  refine WO.q (.r fun _ => rfl) (wg rfl rfl (gt k28)) rfl ?_
  refine WO.q (.ptv (v := .bool _) rfl k28 rfl) rfl rfl ?_
  refine WO.q (.as (v := .bool _) rfl) rfl rfl ?_
  refine WO.nil ?_
  obtain rfl := Option.some.inj h
  exact WX.ret (rs_ (rs_tmp rfl rs_nil)) fun st hp => ⟨_, _, _, hB, (hp.pk [] (by decide)), rfl, rfl, hH⟩
  have q_k28 := of_decide_eq_false k28
  replace h := (if_neg q_k28).symm.trans h
  refine WO.sd (wg rfl rfl (gtn k28)) rfl ?_
  refine WO.sd (wg rfl rfl (gtn k28)) rfl ?_
  refine WO.sd (wg rfl rfl (gtn k28)) rfl ?_
  refine WO.sd (wg rfl rfl (gtn k28)) rfl ?_
  refine WO.q (.pfv (v := .bool _) rfl k28 rfl) rfl rfl ?_
  refine WO.q (.as (v := .bool _) rfl) rfl rfl ?_
  refine WO.nil ?_
  obtain rfl := Option.some.inj h
  exact WX.ret (rs_ (rs_tmp rfl rs_nil)) fun st hp => ⟨_, _, _, hB, (hp.pk [] (by decide)), rfl, rfl, hH⟩
  have q_k26 := of_decide_eq_false k26
  replace h := (if_neg q_k26).symm.trans h
  refine WO.sd (wg rfl rfl (gtn k26)) rfl ?_
  refine WO.sd (wg rfl rfl (gtn k26)) rfl ?_
  refine WO.sd (wg rfl rfl (gtn k26)) rfl ?_
  refine WO.q (.pfv (v := .bool _) rfl k26 rfl) rfl rfl ?_
  refine WO.q (.mv (v := .bool _) rfl) rfl rfl ?_
  refine WO.sd (wg rfl rfl (gtn rfl)) rfl ?_
  refine WO.sd (wg rfl rfl (gtn rfl)) rfl ?_
  refine WO.sd (wg rfl rfl (gtn rfl)) rfl ?_
  refine WO.sd (wg rfl rfl (gtn rfl)) rfl ?_
  refine WO.q (.pfv (v := .bool _) rfl rfl rfl) rfl rfl ?_
  refine WO.q (.as (v := .bool _) rfl) rfl rfl ?_
  refine WO.nil ?_
  obtain rfl := Option.some.inj h
  exact WX.ret (rs_ (rs_tmp rfl rs_nil)) fun st hp => ⟨_, _, _, hB, (hp.pk [] (by decide)), rfl, rfl, hH⟩
  have q_k25 := of_decide_eq_false k25
  replace h := (if_neg q_k25).symm.trans h
  refine WO.sd (wg rfl rfl (gtn k25)) rfl ?_
  refine WO.sd (wg rfl rfl (gtn k25)) rfl ?_
  refine WO.q (.pfv (v := .bool _) rfl k25 rfl) rfl rfl ?_
  refine WO.q (.mv (v := .bool _) rfl) rfl rfl ?_
  refine WO.sd (wg rfl rfl (gtn rfl)) rfl ?_
  refine WO.sd (wg rfl rfl (gtn rfl)) rfl ?_
  refine WO.sd (wg rfl rfl (gtn rfl)) rfl ?_
  refine WO.q (.pfv (v := .bool _) rfl rfl rfl) rfl rfl ?_
  refine WO.q (.mv (v := .bool _) rfl) rfl rfl ?_
  refine WO.sd (wg rfl rfl (gtn rfl)) rfl ?_
  refine WO.sd (wg rfl rfl (gtn rfl)) rfl ?_
  refine WO.sd (wg rfl rfl (gtn rfl)) rfl ?_
  refine WO.sd (wg rfl rfl (gtn rfl)) rfl ?_
  refine WO.q (.pfv (v := .bool _) rfl rfl rfl) rfl rfl ?_
  refine WO.q (.as (v := .bool _) rfl) rfl rfl ?_
  refine WO.nil ?_
  obtain rfl := Option.some.inj h
  exact WX.ret (rs_ (rs_tmp rfl rs_nil)) fun st hp => ⟨_, _, _, hB, (hp.pk [] (by decide)), rfl, rfl, hH⟩
  have q_k24 := of_decide_eq_false k24
  replace h := (if_neg q_k24).symm.trans h
  refine WO.sd (wg rfl rfl (gtn k24)) rfl ?_
  refine WO.sd (wg rfl rfl (gtn k24)) rfl ?_
  refine WO.q (.pfv (v := .bool _) rfl k24 rfl) rfl rfl ?_
  refine WO.q (.mv (v := .bool _) rfl) rfl rfl ?_
  refine WO.sd (wg rfl rfl (gtn rfl)) rfl ?_
  refine WO.sd (wg rfl rfl (gtn rfl)) rfl ?_
  refine WO.q (.pfv (v := .bool _) rfl rfl rfl) rfl rfl ?_
  refine WO.q (.mv (v := .bool _) rfl) rfl rfl ?_
  refine WO.sd (wg rfl rfl (gtn rfl)) rfl ?_
  refine WO.sd (wg rfl rfl (gtn rfl)) rfl ?_
  refine WO.sd (wg rfl rfl (gtn rfl)) rfl ?_
  refine WO.q (.pfv (v := .bool _) rfl rfl rfl) rfl rfl ?_
  refine WO.q (.mv (v := .bool _) rfl) rfl rfl ?_
  refine WO.sd (wg rfl rfl (gtn rfl)) rfl ?_
  refine WO.sd (wg rfl rfl (gtn rfl)) rfl ?_
  refine WO.sd (wg rfl rfl (gtn rfl)) rfl ?_
  refine WO.sd (wg rfl rfl (gtn rfl)) rfl ?_
  refine WO.q (.pfv (v := .bool _) rfl rfl rfl) rfl rfl ?_
  refine WO.q (.as (v := .bool _) rfl) rfl rfl ?_
  refine WO.nil ?_
  obtain rfl := Option.some.inj h
  exact WX.ret (rs_ (rs_tmp rfl rs_nil)) fun st hp => ⟨_, _, _, hB, (hp.pk [] (by decide)), rfl, rfl, hH⟩
  have q_k23 := of_decide_eq_false k23
  replace h := (if_neg q_k23).symm.trans h
  refine WO.sd (wg rfl rfl (gtn k23)) rfl ?_
  refine WO.sd (wg rfl rfl (gtn k23)) rfl ?_
  refine WO.sd (wg rfl rfl (gtn k23)) rfl ?_
  refine WO.q (.pfv (v := .bool _) rfl k23 rfl) rfl rfl ?_
  refine WO.q (.mv (v := .bool _) rfl) rfl rfl ?_
  refine WO.sd (wg rfl rfl (gtn rfl)) rfl ?_
  refine WO.sd (wg rfl rfl (gtn rfl)) rfl ?_
  refine WO.q (.pfv (v := .bool _) rfl rfl rfl) rfl rfl ?_
  refine WO.q (.mv (v := .bool _) rfl) rfl rfl ?_
  refine WO.sd (wg rfl rfl (gtn rfl)) rfl ?_
  refine WO.sd (wg rfl rfl (gtn rfl)) rfl ?_
  refine WO.q (.pfv (v := .bool _) rfl rfl rfl) rfl rfl ?_
  refine WO.q (.mv (v := .bool _) rfl) rfl rfl ?_
  refine WO.sd (wg rfl rfl (gtn rfl)) rfl ?_
  refine WO.sd (wg rfl rfl (gtn rfl)) rfl ?_
  refine WO.sd (wg rfl rfl (gtn rfl)) rfl ?_
  refine WO.q (.pfv (v := .bool _) rfl rfl rfl) rfl rfl ?_
  refine WO.q (.mv (v := .bool _) rfl) rfl rfl ?_
  refine WO.sd (wg rfl rfl (gtn rfl)) rfl ?_
  refine WO.sd (wg rfl rfl (gtn rfl)) rfl ?_
  refine WO.sd (wg rfl rfl (gtn rfl)) rfl ?_
  refine WO.sd (wg rfl rfl (gtn rfl)) rfl ?_
  refine WO.q (.pfv (v := .bool _) rfl rfl rfl) rfl rfl ?_
  refine WO.q (.as (v := .bool _) rfl) rfl rfl ?_
  refine WO.nil ?_
  obtain rfl := Option.some.inj h
  exact WX.ret (rs_ (rs_tmp rfl rs_nil)) fun st hp => ⟨_, _, _, hB, (hp.pk [] (by decide)), rfl, rfl, hH⟩
  have q_k22 := of_decide_eq_false k22
  replace h := (if_neg q_k22).symm.trans h
  refine WO.sd (wg rfl rfl (gtn k22)) rfl ?_
  refine WO.sd (wg rfl rfl (gtn k22)) rfl ?_
  refine WO.q (.pfv (v := .bool _) rfl k22 rfl) rfl rfl ?_
  refine WO.q (.mv (v := .bool _) rfl) rfl rfl ?_
  refine WO.sd (wg rfl rfl (gtn rfl)) rfl ?_
  refine WO.sd (wg rfl rfl (gtn rfl)) rfl ?_
  refine WO.sd (wg rfl rfl (gtn rfl)) rfl ?_
  refine WO.q (.pfv (v := .bool _) rfl rfl rfl) rfl rfl ?_
  refine WO.q (.mv (v := .bool _) rfl) rfl rfl ?_
  refine WO.sd (wg rfl rfl (gtn rfl)) rfl ?_
  refine WO.sd (wg rfl rfl (gtn rfl)) rfl ?_
  refine WO.q (.pfv (v := .bool _) rfl rfl rfl) rfl rfl ?_
  refine WO.q (.mv (v := .bool _) rfl) rfl rfl ?_
  refine WO.sd (wg rfl rfl (gtn rfl)) rfl ?_
  refine WO.sd (wg rfl rfl (gtn rfl)) rfl ?_
  refine WO.q (.pfv (v := .bool _) rfl rfl rfl) rfl rfl ?_
  refine WO.q (.mv (v := .bool _) rfl) rfl rfl ?_
  refine WO.sd (wg rfl rfl (gtn rfl)) rfl ?_
  refine WO.sd (wg rfl rfl (gtn rfl)) rfl ?_
  refine WO.sd (wg rfl rfl (gtn rfl)) rfl ?_
  refine WO.q (.pfv (v := .bool _) rfl rfl rfl) rfl rfl ?_
  refine WO.q (.mv (v := .bool _) rfl) rfl rfl ?_
  refine WO.sd (wg rfl rfl (gtn rfl)) rfl ?_
  refine WO.sd (wg rfl rfl (gtn rfl)) rfl ?_
  refine WO.sd (wg rfl rfl (gtn rfl)) rfl ?_
  refine WO.sd (wg rfl rfl (gtn rfl)) rfl ?_
  refine WO.q (.pfv (v := .bool _) rfl rfl rfl) rfl rfl ?_
  refine WO.q (.as (v := .bool _) rfl) rfl rfl ?_
  refine WO.nil ?_
  obtain rfl := Option.some.inj h
  exact WX.ret (rs_ (rs_tmp rfl rs_nil)) fun st hp => ⟨_, _, _, hB, (hp.pk [] (by decide)), rfl, rfl, hH⟩
  have q_k21 := of_decide_eq_false k21
  replace h := (if_neg q_k21).symm.trans h
  refine WO.sd (wg rfl rfl (gtn k21)) rfl ?_
  refine WO.sd (wg rfl rfl (gtn k21)) rfl ?_
  refine WO.q (.pfv (v := .bool _) rfl k21 rfl) rfl rfl ?_
  refine WO.q (.mv (v := .bool _) rfl) rfl rfl ?_
  refine WO.sd (wg rfl rfl (gtn rfl)) rfl ?_
  refine WO.sd (wg rfl rfl (gtn rfl)) rfl ?_
  refine WO.q (.pfv (v := .bool _) rfl rfl rfl) rfl rfl ?_
  refine WO.q (.mv (v := .bool _) rfl) rfl rfl ?_
  refine WO.sd (wg rfl rfl (gtn rfl)) rfl ?_
  refine WO.sd (wg rfl rfl (gtn rfl)) rfl ?_
  refine WO.sd (wg rfl rfl (gtn rfl)) rfl ?_
  refine WO.q (.pfv (v := .bool _) rfl rfl rfl) rfl rfl ?_
  refine WO.q (.mv (v := .bool _) rfl) rfl rfl ?_
  refine WO.sd (wg rfl rfl (gtn rfl)) rfl ?_
  refine WO.sd (wg rfl rfl (gtn rfl)) rfl ?_
  refine WO.q (.pfv (v := .bool _) rfl rfl rfl) rfl rfl ?_
  refine WO.q (.mv (v := .bool _) rfl) rfl rfl ?_
  refine WO.sd (wg rfl rfl (gtn rfl)) rfl ?_
  refine WO.sd (wg rfl rfl (gtn rfl)) rfl ?_
  refine WO.q (.pfv (v := .bool _) rfl rfl rfl) rfl rfl ?_
  refine WO.q (.mv (v := .bool _) rfl) rfl rfl ?_
  refine WO.sd (wg rfl rfl (gtn rfl)) rfl ?_
  refine WO.sd (wg rfl rfl (gtn rfl)) rfl ?_
  refine WO.sd (wg rfl rfl (gtn rfl)) rfl ?_
  refine WO.q (.pfv (v := .bool _) rfl rfl rfl) rfl rfl ?_
  refine WO.q (.mv (v := .bool _) rfl) rfl rfl ?_
  refine WO.sd (wg rfl rfl (gtn rfl)) rfl ?_
  refine WO.sd (wg rfl rfl (gtn rfl)) rfl ?_
  refine WO.sd (wg rfl rfl (gtn rfl)) rfl ?_
  refine WO.sd (wg rfl rfl (gtn rfl)) rfl ?_
  refine WO.q (.pfv (v := .bool _) rfl rfl rfl) rfl rfl ?_
  refine WO.q (.as (v := .bool _) rfl) rfl rfl ?_
  refine WO.nil ?_
  obtain rfl := Option.some.inj h
  exact WX.ret (rs_ (rs_tmp rfl rs_nil)) fun st hp => ⟨_, _, _, hB, (hp.pk [] (by decide)), rfl, rfl, hH⟩
end Gab
end
section
set_option linter.unusedSimpArgs false
set_option linter.unusedVariables false
set_option maxHeartbeats 4000000
set_option maxRecDepth 100000
namespace Gab
open Go Go.Proofs
def gabionlaw19_TreeNone_P (B : Kn) (L : Own) (r : Heap × Bool) : AV → St → Prop := CH B L fun B' X E' v => v = .bool r.2 ∧ X = [] ∧ HR B' r.1 E'
def gabionlaw19_TreeNone_l0_I (B0 : Kn) (H : Heap) (x0 : Int) (x1 : List UInt8) (x5 : Nat) (x113 : List Int) (x115 : Int) : Fr → Kn → Own → Own → Prop := fun fr B A E => KLw B0 B ∧ HR B H E ∧ ∃ v35 v36 b36 n36 c36, HPt B 126 v35 x5 ∧ OSl (Ty.int .i64) B v36 b36 n36 c36 x113 ∧ fr = [(0, .int .i64 x0), (1, .str x1), (5, v35), (113, v36), (114, .int .i64 (x113.length : Int)), (115, .int .i64 x115)] ∧ A = [oe b36 n36 c36]
def gabionlaw19_TreeNone_l0_X0 (B0 : Kn) (H : Heap) (x0 : Int) (x1 : List UInt8) (x5 : Nat) : Fr → Kn → Own → Own → Prop := fun fr B A E => KLw B0 B ∧ HR B H E ∧ ∃ v98, HPt B 126 v98 x5 ∧ fr = [(0, .int .i64 x0), (1, .str x1), (5, v98)] ∧ A = []
def gabionlaw19_TreeNone_j20_I (B0 : Kn) (H : Heap) (x0 : Int) (x1 : List UInt8) (x5 : Nat) (x26 : Nat) : Fr → Kn → Own → Own → Prop := fun fr B A E => KLw B0 B ∧ HR B H E ∧ ∃ v50 v51, HPt B 126 v50 x5 ∧ HPt B 126 v51 x26 ∧ fr = [(0, .int .i64 x0), (1, .str x1), (5, v50), (26, v51)] ∧ A = []
theorem gabionlaw19_TreeNone_l0_s {B0 : Kn} {L : Own} {n0 : Nat} {H : Heap} {x0 : Int} {x1 : List UInt8} {x5 : Nat} {x113 : List Int} {x115 : Int} {Q : AV → St → Prop} {E : Int ⊕ ((Heap × Bool) ⊕ Unit) → Prop} {o : Int ⊕ ((Heap × Bool) ⊕ Unit)} (h : gabionlaw19_TreeNone_l0 H x0 x1 x5 x113 x115 = some o) (hn : ∀ s, E (.inl s) → WXH Tryz.prog 193 n0 (Fin Tryz.prog Tryz.f6.results.toList n0 Q) [.lp (ct [1, 1, 1, 1, 1, 1, 1, 1, 1, 1, 1, 0, 1, 0, 0] (bodyOf Tryz.f6)), .blk 0, .code (ct [1, 1, 1, 1, 1, 1, 1, 1, 1, 1, 1, 1] (bodyOf Tryz.f6))] (gabionlaw19_TreeNone_l0_I B0 H x0 x1 x5 x113 s) L) (hx0 : ∀ s, E (.inr (.inr s)) → WXH Tryz.prog 193 n0 (Fin Tryz.prog Tryz.f6.results.toList n0 Q) [.code (ct [1, 1, 1, 1, 1, 1, 1, 1, 1, 1, 1, 1] (bodyOf Tryz.f6))] (gabionlaw19_TreeNone_l0_X0 B0 H x0 x1 x5) L) (hr : ∀ r, E (.inr (.inl r)) → ∀ v st, gabionlaw19_TreeNone_P B0 L r v st → Q v st) (hE : E o) : WXH Tryz.prog 193 n0 (Fin Tryz.prog Tryz.f6.results.toList n0 Q) [.code (ct [1, 1, 1, 1, 1, 1, 1, 1, 1, 1, 1, 0, 1, 0, 0] (bodyOf Tryz.f6)), .lp (ct [1, 1, 1, 1, 1, 1, 1, 1, 1, 1, 1, 0, 1, 0, 0] (bodyOf Tryz.f6)), .blk 0, .code (ct [1, 1, 1, 1, 1, 1, 1, 1, 1, 1, 1, 1] (bodyOf Tryz.f6))] (gabionlaw19_TreeNone_l0_I B0 H x0 x1 x5 x113 x115) L := by
  unfold gabionlaw19_TreeNone_l0 at h
  rintro _ B _ E ⟨hB, hH, v35, v36, b36, n36, c36, h35, h36, rfl, rfl⟩
  obtain ⟨_, _, _, _, _, rfl⟩ := h36.isl
  refine WX.seq ?_
  refine WX.reg ?_
  refine WO.q (.r fun _ => rfl) rfl rfl ?_
  refine WO.nil ?_
  refine WX.seq ?_
  rcases bsp (decide (x115 < (x113.length : Int))) with k37 | k37
  have q_k37 := of_decide_eq_true k37
  replace h := (if_pos q_k37).symm.trans h
  refine WX.condT rfl k37 ?_
  refine WX.skip ?_
  refine WX.seq ?_
  refine WX.block ?_
  refine WX.seq ?_
  refine WX.reg ?_
  obtain ⟨y38, hy38, h⟩ := Option.bind_eq_some_iff.1 h
  obtain rfl := h36.nonnil hy38
  obtain ⟨_, i_y38, l_y38, r_y38⟩ := h36.at sl81 hy38 .i64
  obtain rfl := r_y38
  refine WO.q (.ia i_y38) rfl rfl ?_
  refine WO.q (.ldS (i := 0) rfl rfl (l_y38.g0 rfl) ti34 rfl) rfl rfl ?_
  refine WO.q (.as (v := .int _ _) rfl) rfl rfl ?_
  refine WO.nil ?_
  refine WX.seq ?_
  refine WX.reg ?_
  refine WO.q (.mv (v := .int _ _) rfl) rfl rfl ?_
  refine WO.q (.r fun _ => rfl) rfl rfl ?_
  refine WO.nil ?_
  rcases bsp (decide (y38 ≠ 1)) with k39 | k39
  have q_k39 := of_decide_eq_true k39
  replace h := (if_pos q_k39).symm.trans h
  refine WX.condT rfl k39 ?_
  refine WX.seq ?_
  refine WX.reg ?_
  refine WO.q (.as (v := .bool _) rfl) rfl rfl ?_
  refine WO.nil ?_
  obtain rfl := Option.some.inj h
  exact WX.ret (rs_ (rs_tmp rfl rs_nil)) fun st hp => hr _ hE _ _ ⟨_, _, _, hB, (hp.pk [] (by decide)), rfl, rfl, hH⟩
  have q_k39 := of_decide_eq_false k39
  replace h := (if_neg q_k39).symm.trans h
  refine WX.condF rfl k39 ?_
  refine WX.skip ?_
  refine WX.pop ?_
  refine WX.reg ?_
  refine WO.q (.r fun _ => rfl) rfl rfl ?_
  refine WO.q (.mv (v := .int _ _) rfl) rfl rfl ?_
  refine WO.nil ?_
  refine WX.keepL [0, 1, 5, 113, 114, 115] (WX.pk [0] (by decide) ?_) rfl
  obtain rfl := Option.some.inj h
  exact hn _ hE _ _ _ _ ⟨hB, hH, _, _, _, false, _, h35, h36, rfl, rfl⟩
  have q_k37 := of_decide_eq_false k37
  replace h := (if_neg q_k37).symm.trans h
  refine WX.condF rfl k37 ?_
  refine WX.exit rfl ?_
  refine WX.keep [0, 1, 5] (WX.pk [] (by decide) ?_) rfl
  obtain rfl := Option.some.inj h
  exact hx0 _ hE _ _ _ _ ⟨hB, hH, _, h35, rfl, rfl⟩
theorem gabionlaw19_TreeNone_l0_ok {B0 : Kn} {L : Own} {n0 : Nat} {H : Heap} {x0 : Int} {x1 : List UInt8} {x5 : Nat} {x113 : List Int} {x115 : Int} {Q : AV → St → Prop} {d : Nat} {e : (Heap × Bool) ⊕ Unit} (h : iter (fun (s : Int) => gabionlaw19_TreeNone_l0 H x0 x1 x5 x113 s) d x115 = some e) (g0 : ∀ r, e = (.inl r) → ∀ v st, gabionlaw19_TreeNone_P B0 L r v st → Q v st) (g1 : ∀ s, e = (.inr s) → WXH Tryz.prog 193 n0 (Fin Tryz.prog Tryz.f6.results.toList n0 Q) [.code (ct [1, 1, 1, 1, 1, 1, 1, 1, 1, 1, 1, 1] (bodyOf Tryz.f6))] (gabionlaw19_TreeNone_l0_X0 B0 H x0 x1 x5) L) : WXH Tryz.prog 193 n0 (Fin Tryz.prog Tryz.f6.results.toList n0 Q) [.code (ct [1, 1, 1, 1, 1, 1, 1, 1, 1, 1, 1, 0, 1, 0, 0] (bodyOf Tryz.f6)), .lp (ct [1, 1, 1, 1, 1, 1, 1, 1, 1, 1, 1, 0, 1, 0, 0] (bodyOf Tryz.f6)), .blk 0, .code (ct [1, 1, 1, 1, 1, 1, 1, 1, 1, 1, 1, 1] (bodyOf Tryz.f6))] (gabionlaw19_TreeNone_l0_I B0 H x0 x1 x5 x113 x115) L :=
  iter_okH (I := fun s => gabionlaw19_TreeNone_l0_I B0 H x0 x1 x5 x113 s) (D := fun e => (∀ r, e = (.inl r) → ∀ v st, gabionlaw19_TreeNone_P B0 L r v st → Q v st) ∧ (∀ s, e = (.inr s) → WXH Tryz.prog 193 n0 (Fin Tryz.prog Tryz.f6.results.toList n0 Q) [.code (ct [1, 1, 1, 1, 1, 1, 1, 1, 1, 1, 1, 1] (bodyOf Tryz.f6))] (gabionlaw19_TreeNone_l0_X0 B0 H x0 x1 x5) L)) (fun E hn hx s o ho hE => gabionlaw19_TreeNone_l0_s (x115 := s) ho hn (fun s hs => (hx _ hs).2 _ rfl) (fun r hs => (hx _ hs).1 _ rfl) hE) h ⟨g0, g1⟩
theorem gabionlaw19_TreeNone_j20_ok {B0 : Kn} {L : Own} {n0 : Nat} {H : Heap} {x0 : Int} {x1 : List UInt8} {x5 : Nat} {x26 : Nat} {Z : (Heap × Bool) → Prop} (h : gabionlaw19_TreeNone_j20 H x0 x1 x5 x26 Z) : WXH Tryz.prog 193 n0 (Fin Tryz.prog Tryz.f6.results.toList n0 (ndP Z (gabionlaw19_TreeNone_P B0 L))) [.code (ct [1, 1, 1, 1, 1, 1, 1, 1, 1, 1, 1, 1, 1, 1] (bodyOf Tryz.f6))] (gabionlaw19_TreeNone_j20_I B0 H x0 x1 x5 x26) L := by
  unfold gabionlaw19_TreeNone_j20 at h
  rintro _ B _ E ⟨hB, hH, v50, v51, h50, h51, rfl, rfl⟩
  refine WX.seq ?_
  refine WX.reg ?_
  refine WO.q (.mv (v := v51) rfl) rfl rfl ?_
  refine WO.q (.mv (v := .int _ _) rfl) rfl rfl ?_
  obtain ⟨y52, hy52, h⟩ := h
  refine WO.c1 rfl rfl (rd1 (tree_Tree_Inode_ok hH h51 hy52)) rfl rfl rfl ?_
  rintro _ B _ hK ⟨v53, b54, n55, c56, rfl, rfl, h57⟩
  obtain ⟨_, _, _, _, _, rfl⟩ := h57.isl
  replace h50 := h50.up hK
  replace h51 := h51.up hK
  replace hH := hH.up hK
  replace hB := hB.trans hK.w
  refine WO.q (.mv (v := .tup _) rfl) rfl rfl ?_
  refine WO.q (.r fun _ => rfl) rfl rfl ?_
  refine WO.q (.r fun _ => rfl) rfl rfl ?_
  refine WO.q (.as (v := .int _ _) rfl) rfl rfl ?_
  refine WO.nil ?_
  refine WX.seq ?_
  refine WX.reg ?_
  refine WO.q (.mv (v := v51) rfl) rfl rfl ?_
  refine WO.q (.mv (v := .int _ _) rfl) rfl rfl ?_
  obtain ⟨y58, hy58, h⟩ := h
  refine WO.c1 rfl rfl (rd1 (tree_Tree_Names_ok hH h51 hy58)) rfl rfl rfl ?_
  rintro _ B _ hK ⟨v59, b60, n61, c62, rfl, rfl, h63⟩
  obtain ⟨_, _, _, _, _, rfl⟩ := h63.isl
  replace h50 := h50.up hK
  replace h51 := h51.up hK
  replace h57 := h57.up hK
  replace hH := hH.up hK
  replace hB := hB.trans hK.w
  refine WO.q (.mv (v := .tup _) rfl) rfl rfl ?_
  refine WO.q (.r fun _ => rfl) rfl rfl ?_
  refine WO.q (.r fun _ => rfl) rfl rfl ?_
  refine WO.q (.as (v := .int _ _) rfl) rfl rfl ?_
  refine WO.nil ?_
  refine WX.seq ?_
  refine WX.reg ?_
  refine WO.q (.mv (v := v51) rfl) rfl rfl ?_
  refine WO.q (.mv (v := .int _ _) rfl) rfl rfl ?_
  refine WO.q (.mv (v := .str _) rfl) rfl rfl ?_
  refine WO.q (.bd (bd53_0 (cI rfl))) rfl rfl ?_
  obtain ⟨y64, hy64, h⟩ := h
  refine WO.ch rfl rfl (tree_Tree_Make_ok hH (a3 := ((2, 0, 0, [], ([] : List UInt8)) : Int × Int × Int × (List (Int × Int)) × (List UInt8))) h51 (RSl.nil _ _) hy64) rfl rfl rfl ?_
  rintro _ B _ E hK ⟨rfl, rfl, hH⟩
  replace h50 := h50.upw hK
  replace h51 := h51.upw hK
  replace h57 := h57.upw hK
  replace h63 := h63.upw hK
  replace hB := hB.trans hK
  refine WO.q (.mv (v := .tup _) rfl) rfl rfl ?_
  refine WO.q (.r fun _ => rfl) rfl rfl ?_
  refine WO.q (.r fun _ => rfl) rfl rfl ?_
  refine WO.q (.as (v := .int _ _) rfl) rfl rfl ?_
  refine WO.nil ?_
  refine WX.seq ?_
  refine WX.reg ?_
  obtain ⟨y65, hy65, h⟩ := h
  refine WO.ch rfl rfl (gabionlaw19_wakes_ok hH hy65) rfl rfl rfl ?_
  rintro _ B _ E hK ⟨rfl, rfl, hH⟩
  replace h50 := h50.upw hK
  replace h51 := h51.upw hK
  replace h57 := h57.upw hK
  replace h63 := h63.upw hK
  replace hB := hB.trans hK
  refine WO.q (.mv (v := .bool _) rfl) rfl rfl ?_
  rcases bsp y65.2 with k66 | k66
  replace h := (if_pos k66).mp h
  refine WO.q (.mv (v := v50) rfl) (wg rfl rfl (gt k66)) rfl ?_
  refine WO.ch rfl rfl (ndCH (tree_Tree_Copy_ok hH h50 h)) rfl (wg rfl rfl (gt k66)) rfl ?_
  rintro v68 B _ E hK ⟨y67, h, _, rfl, rfl, hH, h69⟩
  replace h50 := h50.upw hK
  replace h51 := h51.upw hK
  replace h57 := h57.upw hK
  replace h63 := h63.upw hK
  replace hB := hB.trans hK
  refine WO.q (.bin (eveqlnil h69 ti23 rfl)) (wg rfl rfl (gt k66)) rfl ?_
  refine WO.q (.ptv (v := .bool _) rfl k66 rfl) rfl rfl ?_
  refine WO.q (.mv (v := .bool _) rfl) rfl rfl ?_
  rcases bsp (decide (y67.2 = 0)) with k70 | k70
  have q_k70 := of_decide_eq_true k70
  replace h := (if_pos q_k70).mp h
  refine WO.q (.mv (v := v50) rfl) (wg rfl rfl (gt k70)) rfl ?_
  obtain ⟨y71, hy71, h⟩ := h
  refine WO.cS rfl rfl (rdS (tree_Tree_Len_ok hH h50 hy71)) rfl (wg rfl rfl (gt k70)) rfl ?_
  rintro _ rfl
  refine WO.q (.mv (v := v50) rfl) (wg rfl rfl (gt k70)) rfl ?_
  obtain ⟨y72, hy72, h⟩ := h
  refine WO.c1 rfl rfl (rd1 (tree_Tree_All_ok hH h50 hy72)) rfl (wg rfl rfl (gt k70)) rfl ?_
  rintro _ B _ hK ⟨v73, b74, n75, c76, rfl, rfl, h77⟩
  obtain ⟨_, _, _, _, _, rfl⟩ := h77.isl
  replace h50 := h50.up hK
  replace h51 := h51.up hK
  replace h69 := h69.up hK
  replace h57 := h57.up hK
  replace h63 := h63.up hK
  replace hH := hH.up hK
  replace hB := hB.trans hK.w
  refine WO.q (.len rfl rfl rfl (sl40.len h77.isl)) (wg rfl rfl (gt k70)) rfl ?_
  refine WO.q (.r fun _ => rfl) (wg rfl rfl (gt k70)) rfl ?_
  refine WO.q (.mv (v := v50) rfl) (wg rfl rfl (gt k70)) rfl ?_
  obtain ⟨y78, hy78, h⟩ := h
  refine WO.ch rfl rfl (tree_Tree_Deeds_ok hH h50 hy78) rfl (wg rfl rfl (gt k70)) rfl ?_
  rintro _ B _ E hK ⟨v79, b80, n81, c82, rfl, rfl, hH, h83⟩
  obtain ⟨_, _, _, _, _, rfl⟩ := h83.isl
  replace h50 := h50.upw hK
  replace h51 := h51.upw hK
  replace h69 := h69.upw hK
  replace h57 := h57.upw hK
  replace h63 := h63.upw hK
  replace h77 := h77.upw hK
  replace hB := hB.trans hK
  refine WO.q (.len rfl rfl rfl (sl63.len h83.isl)) (wg rfl rfl (gt k70)) rfl ?_
  refine WO.q (.r fun _ => rfl) (wg rfl rfl (gt k70)) rfl ?_
  refine WO.q (.r fun _ => rfl) (wg rfl rfl (gt k70)) rfl ?_
  refine WO.q (.ptv (v := .bool _) rfl k70 rfl) rfl rfl ?_
  refine WO.q (.mv (v := .bool _) rfl) rfl rfl ?_
  rcases bsp (decide ((wi64 ((wi64 (y71 + (y72.length : Int))) + (y78.2.length : Int))) = 0)) with k84 | k84
  have q_k84 := of_decide_eq_true k84
  replace h := (if_pos q_k84).mp h
  refine WO.q (.mv (v := .int _ _) rfl) (wg rfl rfl (gt k84)) rfl ?_
  refine WO.q (.r fun _ => rfl) (wg rfl rfl (gt k84)) rfl ?_
  refine WO.q (.ptv (v := .bool _) rfl k84 rfl) rfl rfl ?_
  refine WO.q (.mv (v := .bool _) rfl) rfl rfl ?_
  rcases bsp (decide (y52.2 = 13)) with k85 | k85
  have q_k85 := of_decide_eq_true k85
  replace h := (if_pos q_k85).mp h
  refine WO.q (.mv (v := .int _ _) rfl) (wg rfl rfl (gt k85)) rfl ?_
  refine WO.q (.r fun _ => rfl) (wg rfl rfl (gt k85)) rfl ?_
  refine WO.q (.ptv (v := .bool _) rfl k85 rfl) rfl rfl ?_
  refine WO.q (.mv (v := .bool _) rfl) rfl rfl ?_
  rcases bsp (decide (y58.2 = 13)) with k86 | k86
  have q_k86 := of_decide_eq_true k86
  replace h := (if_pos q_k86).mp h
  refine WO.q (.mv (v := .int _ _) rfl) (wg rfl rfl (gt k86)) rfl ?_
  refine WO.q (.r fun _ => rfl) (wg rfl rfl (gt k86)) rfl ?_
  refine WO.q (.ptv (v := .bool _) rfl k86 rfl) rfl rfl ?_
  refine WO.q (.mv (v := .bool _) rfl) rfl rfl ?_
  rcases bsp (decide (y64.2.2 = 13)) with k87 | k87
  have q_k87 := of_decide_eq_true k87
  replace h := (if_pos q_k87).mp h
  refine WO.q (.mv (v := v51) rfl) (wg rfl rfl (gt k87)) rfl ?_
  refine WO.q (.mv (v := .int _ _) rfl) (wg rfl rfl (gt k87)) rfl ?_
  obtain ⟨y88, hy88, h⟩ := h
  refine WO.ch rfl rfl (tree_Tree_Set_ok hH h51 (RSl.nil _ _) hy88) rfl (wg rfl rfl (gt k87)) rfl ?_
  rintro _ B _ E hK ⟨rfl, rfl, hH⟩
  replace h50 := h50.upw hK
  replace h51 := h51.upw hK
  replace h69 := h69.upw hK
  replace h57 := h57.upw hK
  replace h63 := h63.upw hK
  replace h77 := h77.upw hK
  replace h83 := h83.upw hK
  replace hB := hB.trans hK
  refine WO.q (.r fun _ => rfl) (wg rfl rfl (gt k87)) rfl ?_
  refine WO.q (.ptv (v := .bool _) rfl k87 rfl) rfl rfl ?_
  refine WO.q (.mv (v := .bool _) rfl) rfl rfl ?_
  rcases bsp (decide (y88.2 = 13)) with k89 | k89
  have q_k89 := of_decide_eq_true k89
  replace h := (if_pos q_k89).mp h
  refine WO.q (.mv (v := v51) rfl) (wg rfl rfl (gt k89)) rfl ?_
  obtain ⟨y90, hy90, h⟩ := h
  refine WO.ch rfl rfl (tree_Tree_Deeds_ok hH h51 hy90) rfl (wg rfl rfl (gt k89)) rfl ?_
  rintro _ B _ E hK ⟨v91, b92, n93, c94, rfl, rfl, hH, h95⟩
  obtain ⟨_, _, _, _, _, rfl⟩ := h95.isl
  replace h50 := h50.upw hK
  replace h51 := h51.upw hK
  replace h69 := h69.upw hK
  replace h57 := h57.upw hK
  replace h63 := h63.upw hK
  replace h77 := h77.upw hK
  replace h83 := h83.upw hK
  replace hB := hB.trans hK
  refine WO.q (.len rfl rfl rfl (sl63.len h95.isl)) (wg rfl rfl (gt k89)) rfl ?_
  refine WO.q (.r fun _ => rfl) (wg rfl rfl (gt k89)) rfl ?_
  refine WO.q (.ptv (v := .bool _) rfl k89 rfl) rfl rfl ?_
  refine WO.q (.mv (v := .bool _) rfl) rfl rfl ?_
  rcases bsp (decide ((y90.2.length : Int) = 0)) with k96 | k96
  have q_k96 := of_decide_eq_true k96
  replace h := (if_pos q_k96).mp h
  refine WO.q (.mv (v := v51) rfl) (wg rfl rfl (gt k96)) rfl ?_
  obtain ⟨y97, hy97, h⟩ := h
  refine WO.cS rfl rfl (rdS (tree_Tree_Len_ok hH h51 hy97)) rfl (wg rfl rfl (gt k96)) rfl ?_
  rintro _ rfl
  refine WO.q (.r fun _ => rfl) (wg rfl rfl (gt k96)) rfl ?_
  refine WO.q (.ptv (v := .bool _) rfl k96 rfl) rfl rfl ?_
  refine WO.q (.as (v := .bool _) rfl) rfl rfl ?_
  refine WO.nil ?_
  exact WX.ret (rs_ (rs_tmp rfl rs_nil)) fun st hp => ⟨_, h, ⟨_, _, _, hB, (hp.pk [] (by decide)), rfl, rfl, hH⟩⟩
  have q_k96 := of_decide_eq_false k96
  replace h := (if_neg q_k96).mp h
  refine WO.sd (wg rfl rfl (gtn k96)) rfl ?_
  refine WO.sd (wg rfl rfl (gtn k96)) rfl ?_
  refine WO.sd (wg rfl rfl (gtn k96)) rfl ?_
  refine WO.q (.pfv (v := .bool _) rfl k96 rfl) rfl rfl ?_
  refine WO.q (.as (v := .bool _) rfl) rfl rfl ?_
  refine WO.nil ?_
  exact WX.ret (rs_ (rs_tmp rfl rs_nil)) fun st hp => ⟨_, h, ⟨_, _, _, hB, (hp.pk [] (by decide)), rfl, rfl, hH⟩⟩
  have q_k89 := of_decide_eq_false k89
  replace h := (if_neg q_k89).mp h
  refine WO.sd (wg rfl rfl (gtn k89)) rfl ?_
  refine WO.sd (wg rfl rfl (gtn k89)) rfl ?_
  refine WO.sd (wg rfl rfl (gtn k89)) rfl ?_
  refine WO.sd (wg rfl rfl (gtn k89)) rfl ?_
  refine WO.q (.pfv (v := .bool _) rfl k89 rfl) rfl rfl ?_
  refine WO.q (.mv (v := .bool _) rfl) rfl rfl ?_
  refine WO.sd (wg rfl rfl (gtn rfl)) rfl ?_
  refine WO.sd (wg rfl rfl (gtn rfl)) rfl ?_
  refine WO.sd (wg rfl rfl (gtn rfl)) rfl ?_
  refine WO.q (.pfv (v := .bool _) rfl rfl rfl) rfl rfl ?_
  refine WO.q (.as (v := .bool _) rfl) rfl rfl ?_
  refine WO.nil ?_
  exact WX.ret (rs_ (rs_tmp rfl rs_nil)) fun st hp => ⟨_, h, ⟨_, _, _, hB, (hp.pk [] (by decide)), rfl, rfl, hH⟩⟩
  have q_k87 := of_decide_eq_false k87
  replace h := (if_neg q_k87).mp h
  refine WO.sd (wg rfl rfl (gtn k87)) rfl ?_
  refine WO.sd (wg rfl rfl (gtn k87)) rfl ?_
  refine WO.sd (wg rfl rfl (gtn k87)) rfl ?_
  refine WO.sd (wg rfl rfl (gtn k87)) rfl ?_
  refine WO.q (.pfv (v := .bool _) rfl k87 rfl) rfl rfl ?_
  refine WO.q (.mv (v := .bool _) rfl) rfl rfl ?_
  refine WO.sd (wg rfl rfl (gtn rfl)) rfl ?_
  refine WO.sd (wg rfl rfl (gtn rfl)) rfl ?_
  refine WO.sd (wg rfl rfl (gtn rfl)) rfl ?_
  refine WO.sd (wg rfl rfl (gtn rfl)) rfl ?_
  refine WO.q (.pfv (v := .bool _) rfl rfl rfl) rfl rfl ?_
  refine WO.q (.mv (v := .bool _) rfl) rfl rfl ?_
  refine WO.sd (wg rfl rfl (gtn rfl)) rfl ?_
  refine WO.sd (wg rfl rfl (gtn rfl)) rfl ?_
  refine WO.sd (wg rfl rfl (gtn rfl)) rfl ?_
  refine WO.q (.pfv (v := .bool _) rfl rfl rfl) rfl rfl ?_
  refine WO.q (.as (v := .bool _) rfl) rfl rfl ?_
  refine WO.nil ?_
  exact WX.ret (rs_ (rs_tmp rfl rs_nil)) fun st hp => ⟨_, h, ⟨_, _, _, hB, (hp.pk [] (by decide)), rfl, rfl, hH⟩⟩
  have q_k86 := of_decide_eq_false k86
  replace h := (if_neg q_k86).mp h
  refine WO.sd (wg rfl rfl (gtn k86)) rfl ?_
  refine WO.sd (wg rfl rfl (gtn k86)) rfl ?_
  refine WO.q (.pfv (v := .bool _) rfl k86 rfl) rfl rfl ?_
  refine WO.q (.mv (v := .bool _) rfl) rfl rfl ?_
  refine WO.sd (wg rfl rfl (gtn rfl)) rfl ?_
  refine WO.sd (wg rfl rfl (gtn rfl)) rfl ?_
  refine WO.sd (wg rfl rfl (gtn rfl)) rfl ?_
  refine WO.sd (wg rfl rfl (gtn rfl)) rfl ?_
  refine WO.q (.pfv (v := .bool _) rfl rfl rfl) rfl rfl ?_
  refine WO.q (.mv (v := .bool _) rfl) rfl rfl ?_
  refine WO.sd (wg rfl rfl (gtn rfl)) rfl ?_
  refine WO.sd (wg rfl rfl (gtn rfl)) rfl ?_
  refine WO.sd (wg rfl rfl (gtn rfl)) rfl ?_
  refine WO.sd (wg rfl rfl (gtn rfl)) rfl ?_
  refine WO.q (.pfv (v := .bool _) rfl rfl rfl) rfl rfl ?_
  refine WO.q (.mv (v := .bool _) rfl) rfl rfl ?_
  refine WO.sd (wg rfl rfl (gtn rfl)) rfl ?_
  refine WO.sd (wg rfl rfl (gtn rfl)) rfl ?_
  refine WO.sd (wg rfl rfl (gtn rfl)) rfl ?_
  refine WO.q (.pfv (v := .bool _) rfl rfl rfl) rfl rfl ?_
  refine WO.q (.as (v := .bool _) rfl) rfl rfl ?_
  refine WO.nil ?_
  exact WX.ret (rs_ (rs_tmp rfl rs_nil)) fun st hp => ⟨_, h, ⟨_, _, _, hB, (hp.pk [] (by decide)), rfl, rfl, hH⟩⟩
  have q_k85 := of_decide_eq_false k85
  replace h := (if_neg q_k85).mp h
  refine WO.sd (wg rfl rfl (gtn k85)) rfl ?_
  refine WO.sd (wg rfl rfl (gtn k85)) rfl ?_
  refine WO.q (.pfv (v := .bool _) rfl k85 rfl) rfl rfl ?_
  refine WO.q (.mv (v := .bool _) rfl) rfl rfl ?_
  refine WO.sd (wg rfl rfl (gtn rfl)) rfl ?_
  refine WO.sd (wg rfl rfl (gtn rfl)) rfl ?_
  refine WO.q (.pfv (v := .bool _) rfl rfl rfl) rfl rfl ?_
  refine WO.q (.mv (v := .bool _) rfl) rfl rfl ?_
  refine WO.sd (wg rfl rfl (gtn rfl)) rfl ?_
  refine WO.sd (wg rfl rfl (gtn rfl)) rfl ?_
  refine WO.sd (wg rfl rfl (gtn rfl)) rfl ?_
  refine WO.sd (wg rfl rfl (gtn rfl)) rfl ?_
  refine WO.q (.pfv (v := .bool _) rfl rfl rfl) rfl rfl ?_
  refine WO.q (.mv (v := .bool _) rfl) rfl rfl ?_
  refine WO.sd (wg rfl rfl (gtn rfl)) rfl ?_
  refine WO.sd (wg rfl rfl (gtn rfl)) rfl ?_
  refine WO.sd (wg rfl rfl (gtn rfl)) rfl ?_
  refine WO.sd (wg rfl rfl (gtn rfl)) rfl ?_
  refine WO.q (.pfv (v := .bool _) rfl rfl rfl) rfl rfl ?_
  refine WO.q (.mv (v := .bool _) rfl) rfl rfl ?_
  refine WO.sd (wg rfl rfl (gtn rfl)) rfl ?_
  refine WO.sd (wg rfl rfl (gtn rfl)) rfl ?_
  refine WO.sd (wg rfl rfl (gtn rfl)) rfl ?_
  refine WO.q (.pfv (v := .bool _) rfl rfl rfl) rfl rfl ?_
  refine WO.q (.as (v := .bool _) rfl) rfl rfl ?_
  refine WO.nil ?_
  exact WX.ret (rs_ (rs_tmp rfl rs_nil)) fun st hp => ⟨_, h, ⟨_, _, _, hB, (hp.pk [] (by decide)), rfl, rfl, hH⟩⟩
  have q_k84 := of_decide_eq_false k84
  replace h := (if_neg q_k84).mp h
  refine WO.sd (wg rfl rfl (gtn k84)) rfl ?_
  refine WO.sd (wg rfl rfl (gtn k84)) rfl ?_
  refine WO.q (.pfv (v := .bool _) rfl k84 rfl) rfl rfl ?_
  refine WO.q (.mv (v := .bool _) rfl) rfl rfl ?_
  refine WO.sd (wg rfl rfl (gtn rfl)) rfl ?_
  refine WO.sd (wg rfl rfl (gtn rfl)) rfl ?_
  refine WO.q (.pfv (v := .bool _) rfl rfl rfl) rfl rfl ?_
  refine WO.q (.mv (v := .bool _) rfl) rfl rfl ?_
  refine WO.sd (wg rfl rfl (gtn rfl)) rfl ?_
  refine WO.sd (wg rfl rfl (gtn rfl)) rfl ?_
  refine WO.q (.pfv (v := .bool _) rfl rfl rfl) rfl rfl ?_
  refine WO.q (.mv (v := .bool _) rfl) rfl rfl ?_
  refine WO.sd (wg rfl rfl (gtn rfl)) rfl ?_
  refine WO.sd (wg rfl rfl (gtn rfl)) rfl ?_
  refine WO.sd (wg rfl rfl (gtn rfl)) rfl ?_
  refine WO.sd (wg rfl rfl (gtn rfl)) rfl ?_
  refine WO.q (.pfv (v := .bool _) rfl rfl rfl) rfl rfl ?_
  refine WO.q (.mv (v := .bool _) rfl) rfl rfl ?_
  refine WO.sd (wg rfl rfl (gtn rfl)) rfl ?_
  refine WO.sd (wg rfl rfl (gtn rfl)) rfl ?_
  refine WO.sd (wg rfl rfl (gtn rfl)) rfl ?_
  refine WO.sd (wg rfl rfl (gtn rfl)) rfl ?_
  refine WO.q (.pfv (v := .bool _) rfl rfl rfl) rfl rfl ?_
  refine WO.q (.mv (v := .bool _) rfl) rfl rfl ?_
  refine WO.sd (wg rfl rfl (gtn rfl)) rfl ?_
  refine WO.sd (wg rfl rfl (gtn rfl)) rfl ?_
  refine WO.sd (wg rfl rfl (gtn rfl)) rfl ?_
  refine WO.q (.pfv (v := .bool _) rfl rfl rfl) rfl rfl ?_
  refine WO.q (.as (v := .bool _) rfl) rfl rfl ?_
  refine WO.nil ?_
  exact WX.ret (rs_ (rs_tmp rfl rs_nil)) fun st hp => ⟨_, h, ⟨_, _, _, hB, (hp.pk [] (by decide)), rfl, rfl, hH⟩⟩
  have q_k70 := of_decide_eq_false k70
  replace h := (if_neg q_k70).mp h
  refine WO.sd (wg rfl rfl (gtn k70)) rfl ?_
  refine WO.sd (wg rfl rfl (gtn k70)) rfl ?_
  refine WO.sd (wg rfl rfl (gtn k70)) rfl ?_
  refine WO.sd (wg rfl rfl (gtn k70)) rfl ?_
  refine WO.sd (wg rfl rfl (gtn k70)) rfl ?_
  refine WO.sd (wg rfl rfl (gtn k70)) rfl ?_
  refine WO.sd (wg rfl rfl (gtn k70)) rfl ?_
  refine WO.sd (wg rfl rfl (gtn k70)) rfl ?_
  refine WO.sd (wg rfl rfl (gtn k70)) rfl ?_
  refine WO.sd (wg rfl rfl (gtn k70)) rfl ?_
  refine WO.sd (wg rfl rfl (gtn k70)) rfl ?_
  refine WO.q (.pfv (v := .bool _) rfl k70 rfl) rfl rfl ?_
  refine WO.q (.mv (v := .bool _) rfl) rfl rfl ?_
  refine WO.sd (wg rfl rfl (gtn rfl)) rfl ?_
  refine WO.sd (wg rfl rfl (gtn rfl)) rfl ?_
  refine WO.q (.pfv (v := .bool _) rfl rfl rfl) rfl rfl ?_
  refine WO.q (.mv (v := .bool _) rfl) rfl rfl ?_
  refine WO.sd (wg rfl rfl (gtn rfl)) rfl ?_
  refine WO.sd (wg rfl rfl (gtn rfl)) rfl ?_
  refine WO.q (.pfv (v := .bool _) rfl rfl rfl) rfl rfl ?_
  refine WO.q (.mv (v := .bool _) rfl) rfl rfl ?_
  refine WO.sd (wg rfl rfl (gtn rfl)) rfl ?_
  refine WO.sd (wg rfl rfl (gtn rfl)) rfl ?_
  refine WO.q (.pfv (v := .bool _) rfl rfl rfl) rfl rfl ?_
  refine WO.q (.mv (v := .bool _) rfl) rfl rfl ?_
  refine WO.sd (wg rfl rfl (gtn rfl)) rfl ?_
  refine WO.sd (wg rfl rfl (gtn rfl)) rfl ?_
  refine WO.sd (wg rfl rfl (gtn rfl)) rfl ?_
  refine WO.sd (wg rfl rfl (gtn rfl)) rfl ?_
  refine WO.q (.pfv (v := .bool _) rfl rfl rfl) rfl rfl ?_
  refine WO.q (.mv (v := .bool _) rfl) rfl rfl ?_
  refine WO.sd (wg rfl rfl (gtn rfl)) rfl ?_
  refine WO.sd (wg rfl rfl (gtn rfl)) rfl ?_
  refine WO.sd (wg rfl rfl (gtn rfl)) rfl ?_
  refine WO.sd (wg rfl rfl (gtn rfl)) rfl ?_
  refine WO.q (.pfv (v := .bool _) rfl rfl rfl) rfl rfl ?_
  refine WO.q (.mv (v := .bool _) rfl) rfl rfl ?_
  refine WO.sd (wg rfl rfl (gtn rfl)) rfl ?_
  refine WO.sd (wg rfl rfl (gtn rfl)) rfl ?_
  refine WO.sd (wg rfl rfl (gtn rfl)) rfl ?_
  refine WO.q (.pfv (v := .bool _) rfl rfl rfl) rfl rfl ?_
  refine WO.q (.as (v := .bool _) rfl) rfl rfl ?_
  refine WO.nil ?_
  exact WX.ret (rs_ (rs_tmp rfl rs_nil)) fun st hp => ⟨_, h, ⟨_, _, _, hB, (hp.pk [] (by decide)), rfl, rfl, hH⟩⟩
  replace h := (if_neg (bnt k66)).mp h
  refine WO.sd (wg rfl rfl (gtn k66)) rfl ?_
  refine WO.sd (wg rfl rfl (gtn k66)) rfl ?_
  refine WO.sd (wg rfl rfl (gtn k66)) rfl ?_
  refine WO.q (.pfv (v := .bool _) rfl k66 rfl) rfl rfl ?_
  refine WO.q (.mv (v := .bool _) rfl) rfl rfl ?_
  refine WO.sd (wg rfl rfl (gtn rfl)) rfl ?_
  refine WO.sd (wg rfl rfl (gtn rfl)) rfl ?_
  refine WO.sd (wg rfl rfl (gtn rfl)) rfl ?_
  refine WO.sd (wg rfl rfl (gtn rfl)) rfl ?_
  refine WO.sd (wg rfl rfl (gtn rfl)) rfl ?_
  refine WO.sd (wg rfl rfl (gtn rfl)) rfl ?_
  refine WO.sd (wg rfl rfl (gtn rfl)) rfl ?_
  refine WO.sd (wg rfl rfl (gtn rfl)) rfl ?_
  refine WO.sd (wg rfl rfl (gtn rfl)) rfl ?_
  refine WO.sd (wg rfl rfl (gtn rfl)) rfl ?_
  refine WO.sd (wg rfl rfl (gtn rfl)) rfl ?_
  refine WO.q (.pfv (v := .bool _) rfl rfl rfl) rfl rfl ?_
  refine WO.q (.mv (v := .bool _) rfl) rfl rfl ?_
  refine WO.sd (wg rfl rfl (gtn rfl)) rfl ?_
  refine WO.sd (wg rfl rfl (gtn rfl)) rfl ?_
  refine WO.q (.pfv (v := .bool _) rfl rfl rfl) rfl rfl ?_
  refine WO.q (.mv (v := .bool _) rfl) rfl rfl ?_
  refine WO.sd (wg rfl rfl (gtn rfl)) rfl ?_
  refine WO.sd (wg rfl rfl (gtn rfl)) rfl ?_
  refine WO.q (.pfv (v := .bool _) rfl rfl rfl) rfl rfl ?_
  refine WO.q (.mv (v := .bool _) rfl) rfl rfl ?_
  refine WO.sd (wg rfl rfl (gtn rfl)) rfl ?_
  refine WO.sd (wg rfl rfl (gtn rfl)) rfl ?_
  refine WO.q (.pfv (v := .bool _) rfl rfl rfl) rfl rfl ?_
  refine WO.q (.mv (v := .bool _) rfl) rfl rfl ?_
  refine WO.sd (wg rfl rfl (gtn rfl)) rfl ?_
  refine WO.sd (wg rfl rfl (gtn rfl)) rfl ?_
  refine WO.sd (wg rfl rfl (gtn rfl)) rfl ?_
  refine WO.sd (wg rfl rfl (gtn rfl)) rfl ?_
  refine WO.q (.pfv (v := .bool _) rfl rfl rfl) rfl rfl ?_
  refine WO.q (.mv (v := .bool _) rfl) rfl rfl ?_
  refine WO.sd (wg rfl rfl (gtn rfl)) rfl ?_
  refine WO.sd (wg rfl rfl (gtn rfl)) rfl ?_
  refine WO.sd (wg rfl rfl (gtn rfl)) rfl ?_
  refine WO.sd (wg rfl rfl (gtn rfl)) rfl ?_
  refine WO.q (.pfv (v := .bool _) rfl rfl rfl) rfl rfl ?_
  refine WO.q (.mv (v := .bool _) rfl) rfl rfl ?_
  refine WO.sd (wg rfl rfl (gtn rfl)) rfl ?_
  refine WO.sd (wg rfl rfl (gtn rfl)) rfl ?_
  refine WO.sd (wg rfl rfl (gtn rfl)) rfl ?_
  refine WO.q (.pfv (v := .bool _) rfl rfl rfl) rfl rfl ?_
  refine WO.q (.as (v := .bool _) rfl) rfl rfl ?_
  refine WO.nil ?_
  exact WX.ret (rs_ (rs_tmp rfl rs_nil)) fun st hp => ⟨_, h, ⟨_, _, _, hB, (hp.pk [] (by decide)), rfl, rfl, hH⟩⟩
theorem gabionlaw19_TreeNone_ok {B0 : Kn} {L : Own} {H : Heap} {E : Own} (hH : HR B0 H E) {a0 : Int} {a1 : List UInt8} {Z : (Heap × Bool) → Prop} (h : gabionlaw19_TreeNone H a0 a1 Z) : ∀ st, Hp B0 (E ++ L) st → ASpec Tryz.prog 6 [.int .i64 a0, .str a1] st (ndP Z (gabionlaw19_TreeNone_P B0 L)) := by
  unfold gabionlaw19_TreeNone at h
  refine bodyA (A := []) (L := E ++ L) Tryz.func6 rfl (c := bodyOf Tryz.f6) rfl Tryz.ntmps6 (lb rfl) fun n0 => ?_
  have hB := KLw.refl B0
  refine WX.seq ?_
  refine WX.reg ?_
  refine WO.q (.as (v := .bool _) rfl) rfl rfl ?_
  refine WO.nil ?_
  refine WX.seq ?_
  refine WX.reg ?_
  refine WO.q (.as (v := .nilptr) rfl) rfl rfl ?_
  refine WO.nil ?_
  refine WX.seq ?_
  refine WX.reg ?_
  refine WO.q (.mv (v := .nilptr) rfl) rfl rfl ?_
  refine WO.q (.mv (v := .int _ _) rfl) rfl rfl ?_
  obtain ⟨y1, hy1, h⟩ := h
  refine WO.c1 rfl rfl (rd1 (tree_Tree_Inode_ok hH HPt.nil hy1)) rfl rfl rfl ?_
  rintro _ B _ hK ⟨v2, b3, n4, c5, rfl, rfl, h6⟩
  obtain ⟨_, _, _, _, _, rfl⟩ := h6.isl
  replace hH := hH.up hK
  replace hB := hB.trans hK.w
  refine WO.q (.mv (v := .tup _) rfl) rfl rfl ?_
  refine WO.q (.r fun _ => rfl) rfl rfl ?_
  refine WO.q (.r fun _ => rfl) rfl rfl ?_
  refine WO.md (MOp.alloc ti53 rfl) rfl rfl ?_
  rintro _ _ ⟨b7, rfl, rfl⟩
  refine WO.mn (MOp.storeW rfl (cA rfl) .h ti53 rfl rfl rfl) rfl ?_
  rintro _ _ rfl
  refine WO.q (.as (v := .int _ _) rfl) rfl rfl ?_
  refine WO.nil ?_
  refine WX.seq ?_
  refine WX.reg ?_
  refine WO.q (.mv (v := .nilptr) rfl) rfl rfl ?_
  refine WO.q (.mv (v := .int _ _) rfl) rfl rfl ?_
  obtain ⟨y8, hy8, h⟩ := h
  refine WO.c1 rfl rfl (rd1 (tree_Tree_Names_ok hH HPt.nil hy8)) rfl rfl rfl ?_
  rintro _ B _ hK ⟨v9, b10, n11, c12, rfl, rfl, h13⟩
  obtain ⟨_, _, _, _, _, rfl⟩ := h13.isl
  replace h6 := h6.up hK
  replace hH := hH.up hK
  replace hB := hB.trans hK.w
  refine WO.q (.mv (v := .tup _) rfl) rfl rfl ?_
  refine WO.q (.r fun _ => rfl) rfl rfl ?_
  refine WO.q (.r fun _ => rfl) rfl rfl ?_
  refine WO.q (.as (v := .sl _ _ _ _ _ _) rfl) rfl rfl ?_
  refine WO.q (.as (v := .int _ _) rfl) rfl rfl ?_
  refine WO.nil ?_
  refine WX.seq ?_
  refine WX.reg ?_
  refine WO.q (.mv (v := .nilptr) rfl) rfl rfl ?_
  refine WO.q (.mv (v := .int _ _) rfl) rfl rfl ?_
  refine WO.q (.mv (v := .str _) rfl) rfl rfl ?_
  obtain ⟨y14, hy14, h⟩ := h
  refine WO.cS rfl rfl (rdS (tree_Tree_Find_ok hH HPt.nil hy14)) rfl rfl rfl ?_
  rintro _ rfl
  refine WO.q (.mv (v := .tup _) rfl) rfl rfl ?_
  refine WO.q (.r fun _ => rfl) rfl rfl ?_
  refine WO.q (.r fun _ => rfl) rfl rfl ?_
  refine WO.q (.as (v := .int _ _) rfl) rfl rfl ?_
  refine WO.q (.as (v := .int _ _) rfl) rfl rfl ?_
  refine WO.nil ?_
  refine WX.seq ?_
  refine WX.reg ?_
  refine WO.q (.mv (v := .nilptr) rfl) rfl rfl ?_
  refine WO.q (.mv (v := .int _ _) rfl) rfl rfl ?_
  refine WO.q (.bd (bd33_n)) rfl rfl ?_
  obtain ⟨y15, hy15, h⟩ := h
  refine WO.ch rfl rfl (tree_Tree_Walk_ok hH (a2 := ((false, [], false) : Bool × (List (List UInt8)) × Bool)) HPt.nil (RSl.nil _ _) hy15) rfl rfl rfl ?_
  rintro _ B _ E hK ⟨rfl, rfl, hH⟩
  replace h6 := h6.upw hK
  replace h13 := h13.upw hK
  replace hB := hB.trans hK
  refine WO.q (.mv (v := .tup _) rfl) rfl rfl ?_
  refine WO.q (.r fun _ => rfl) rfl rfl ?_
  refine WO.q (.r fun _ => rfl) rfl rfl ?_
  refine WO.q (.as (v := .int _ _) rfl) rfl rfl ?_
  refine WO.q (.as (v := .int _ _) rfl) rfl rfl ?_
  refine WO.nil ?_
  refine WX.seq ?_
  refine WX.reg ?_
  refine WO.q (.mv (v := .nilptr) rfl) rfl rfl ?_
  refine WO.q (.mv (v := .int _ _) rfl) rfl rfl ?_
  refine WO.q (.mv (v := .str _) rfl) rfl rfl ?_
  refine WO.q (.bd (bd53_n)) rfl rfl ?_
  obtain ⟨y16, hy16, h⟩ := h
  refine WO.ch rfl rfl (tree_Tree_Make_ok hH (a3 := ((0, 0, 0, [], ([] : List UInt8)) : Int × Int × Int × (List (Int × Int)) × (List UInt8))) HPt.nil (RSl.nil _ _) hy16) rfl rfl rfl ?_
  rintro _ B _ E hK ⟨rfl, rfl, hH⟩
  replace h6 := h6.upw hK
  replace h13 := h13.upw hK
  replace hB := hB.trans hK
  refine WO.q (.mv (v := .tup _) rfl) rfl rfl ?_
  refine WO.q (.r fun _ => rfl) rfl rfl ?_
  refine WO.q (.r fun _ => rfl) rfl rfl ?_
  refine WO.q (.as (v := .int _ _) rfl) rfl rfl ?_
  refine WO.q (.as (v := .int _ _) rfl) rfl rfl ?_
  refine WO.nil ?_
  refine WX.seq ?_
  refine WX.reg ?_
  refine WO.q (.mv (v := .nilptr) rfl) rfl rfl ?_
  refine WO.q (.mv (v := .int _ _) rfl) rfl rfl ?_
  refine WO.q (.mv (v := .str _) rfl) rfl rfl ?_
  obtain ⟨y17, hy17, h⟩ := h
  refine WO.ch rfl rfl (tree_Tree_Unlink_ok hH HPt.nil hy17) rfl rfl rfl ?_
  rintro _ B _ E hK ⟨v18, rfl, rfl, hH, h19⟩
  obtain ⟨_, _, _, _, _, rfl⟩ := h19.isl
  replace h6 := h6.upw hK
  replace h13 := h13.upw hK
  replace hB := hB.trans hK
  refine WO.q (.mv (v := .tup _) rfl) rfl rfl ?_
  refine WO.q (.r fun _ => rfl) rfl rfl ?_
  refine WO.q (.r fun _ => rfl) rfl rfl ?_
  refine WO.q (.as (v := .sl _ _ _ _ _ _) rfl) rfl rfl ?_
  refine WO.q (.as (v := .int _ _) rfl) rfl rfl ?_
  refine WO.nil ?_
  refine WX.seq ?_
  refine WX.reg ?_
  refine WO.q (.mv (v := .nilptr) rfl) rfl rfl ?_
  refine WO.q (.mv (v := .int _ _) rfl) rfl rfl ?_
  refine WO.q (.mv (v := .str _) rfl) rfl rfl ?_
  refine WO.q (.mv (v := .int _ _) rfl) rfl rfl ?_
  refine WO.q (.mv (v := .str _) rfl) rfl rfl ?_
  obtain ⟨y20, hy20, h⟩ := h
  refine WO.ch rfl rfl (tree_Tree_Rename_ok hH HPt.nil hy20) rfl rfl rfl ?_
  rintro _ B _ E hK ⟨v21, rfl, rfl, hH, h22⟩
  obtain ⟨_, _, _, _, _, rfl⟩ := h22.isl
  replace h6 := h6.upw hK
  replace h13 := h13.upw hK
  replace hB := hB.trans hK
  refine WO.q (.mv (v := .tup _) rfl) rfl rfl ?_
  refine WO.q (.r fun _ => rfl) rfl rfl ?_
  refine WO.q (.r fun _ => rfl) rfl rfl ?_
  refine WO.q (.as (v := .sl _ _ _ _ _ _) rfl) rfl rfl ?_
  refine WO.q (.as (v := .int _ _) rfl) rfl rfl ?_
  refine WO.nil ?_
  refine WX.seq ?_
  refine WX.reg ?_
  refine WO.q (.mv (v := .nilptr) rfl) rfl rfl ?_
  refine WO.q (.mv (v := .int _ _) rfl) rfl rfl ?_
  obtain ⟨y23, hy23, h⟩ := h
  refine WO.ch rfl rfl (tree_Tree_Unpin_ok hH HPt.nil hy23) rfl rfl rfl ?_
  rintro _ B _ E hK ⟨v24, rfl, rfl, hH, h25⟩
  obtain ⟨_, _, _, _, _, rfl⟩ := h25.isl
  replace h6 := h6.upw hK
  replace h13 := h13.upw hK
  replace hB := hB.trans hK
  refine WO.q (.mv (v := .tup _) rfl) rfl rfl ?_
  refine WO.q (.r fun _ => rfl) rfl rfl ?_
  refine WO.q (.r fun _ => rfl) rfl rfl ?_
  refine WO.q (.as (v := .sl _ _ _ _ _ _) rfl) rfl rfl ?_
  refine WO.q (.as (v := .int _ _) rfl) rfl rfl ?_
  refine WO.nil ?_
  refine WX.seq ?_
  refine WX.reg ?_
  refine WO.q (.mv (v := .nilptr) rfl) rfl rfl ?_
  refine WO.q (.mv (v := .int _ _) rfl) rfl rfl ?_
  obtain ⟨y26, hy26, h⟩ := h
  refine WO.cS rfl rfl (rdS (tree_Tree_Up_ok hH HPt.nil hy26)) rfl rfl rfl ?_
  rintro _ rfl
  refine WO.q (.mv (v := .tup _) rfl) rfl rfl ?_
  refine WO.q (.r fun _ => rfl) rfl rfl ?_
  refine WO.q (.r fun _ => rfl) rfl rfl ?_
  refine WO.q (.as (v := .int _ _) rfl) rfl rfl ?_
  refine WO.q (.as (v := .int _ _) rfl) rfl rfl ?_
  refine WO.nil ?_
  refine WX.seq ?_
  refine WX.seq ?_
  refine WX.reg ?_
  refine WO.q (.mv (v := .int _ _) rfl) rfl rfl ?_
  refine WO.q (.mv (v := .int _ _) rfl) rfl rfl ?_
  refine WO.q (.mv (v := .int _ _) rfl) rfl rfl ?_
  refine WO.q (.mv (v := .int _ _) rfl) rfl rfl ?_
  refine WO.q (.mv (v := .int _ _) rfl) rfl rfl ?_
  refine WO.q (.mv (v := .int _ _) rfl) rfl rfl ?_
  refine WO.q (.mv (v := .int _ _) rfl) rfl rfl ?_
  refine WO.q (.mv (v := .int _ _) rfl) rfl rfl ?_
  refine WO.q (.mv (v := .int _ _) rfl) rfl rfl ?_
  refine WO.q (.mv (v := .nilptr) rfl) rfl rfl ?_
  refine WO.q (.mv (v := .int _ _) rfl) rfl rfl ?_
  refine WO.q (.mv (v := .int _ _) rfl) rfl rfl ?_
  refine WO.q (.mv (v := .str _) rfl) rfl rfl ?_
  obtain ⟨y27, hy27, h⟩ := h
  refine WO.ch rfl rfl (tree_Tree_Link_ok hH HPt.nil hy27) rfl rfl rfl ?_
  rintro _ B _ E hK ⟨rfl, rfl, hH⟩
  replace h6 := h6.upw hK
  replace h13 := h13.upw hK
  replace hB := hB.trans hK
  refine WO.q (.mv (v := .nilptr) rfl) rfl rfl ?_
  refine WO.q (.mv (v := .int _ _) rfl) rfl rfl ?_
  refine WO.q (.mv (v := .str _) rfl) rfl rfl ?_
  obtain ⟨y28, hy28, h⟩ := h
  refine WO.ch rfl rfl (tree_Tree_Rmdir_ok hH HPt.nil hy28) rfl rfl rfl ?_
  rintro _ B _ E hK ⟨rfl, rfl, hH⟩
  replace h6 := h6.upw hK
  replace h13 := h13.upw hK
  replace hB := hB.trans hK
  refine WO.q (.mv (v := .nilptr) rfl) rfl rfl ?_
  refine WO.q (.mv (v := .int _ _) rfl) rfl rfl ?_
  obtain ⟨y29, hy29, h⟩ := h
  refine WO.ch rfl rfl (tree_Tree_Set_ok hH HPt.nil (RSl.nil _ _) hy29) rfl rfl rfl ?_
  rintro _ B _ E hK ⟨rfl, rfl, hH⟩
  replace h6 := h6.upw hK
  replace h13 := h13.upw hK
  replace hB := hB.trans hK
  refine WO.q (.mv (v := .nilptr) rfl) rfl rfl ?_
  refine WO.q (.mv (v := .int _ _) rfl) rfl rfl ?_
  obtain ⟨y30, hy30, h⟩ := h
  refine WO.ch rfl rfl (tree_Tree_Pin_ok hH HPt.nil hy30) rfl rfl rfl ?_
  rintro _ B _ E hK ⟨rfl, rfl, hH⟩
  replace h6 := h6.upw hK
  replace h13 := h13.upw hK
  replace hB := hB.trans hK
  refine WO.md (MOp.bs (l := ([y1.2, y8.2, y14.2, y15.2.2, y16.2.2, y17.2.2, y20.2.2, y23.2.2, y26.2, y27.2, y28.2, y29.2, y30.2] : List Int)) sl81 (RL.cons Ri (RL.cons Ri (RL.cons Ri (RL.cons Ri (RL.cons Ri (RL.cons Ri (RL.cons Ri (RL.cons Ri (RL.cons Ri (RL.cons Ri (RL.cons Ri (RL.cons Ri (RL.cons Ri RL.nil))))))))))))) (lb rfl) rfl rfl) rfl rfl ?_
  rintro v33 _ ⟨b31, o32, rfl⟩
  obtain ⟨_, _, _, _, _, rfl⟩ := o32.isl
  refine WO.q (.len rfl rfl rfl (sl81.len o32.isl)) rfl rfl ?_
  refine WO.q (.mv (v := .int _ _) rfl) rfl rfl ?_
  refine WO.nil ?_
  refine WX.block ?_
  refine WX.loop ?_
  obtain ⟨e41, he41, h⟩ := h
  refine WX.keep [0, 1, 5, 113, 114, 115] (WX.pk [0] (by decide) ?_) rfl
  refine gabionlaw19_TreeNone_l0_ok he41 ?_ ?_ _ _ _ _ ⟨hB, hH, _, _, _, false, _, HPt.nil, o32, rfl, rfl⟩
  intro r43 he_
  subst he_
  replace h := (on_lN h)
  exact fun v st hp => ⟨_, h, hp⟩
  intro x44 he_
  subst he_
  replace h := (on_rN h)
  rintro _ B _ E ⟨hB, hH, v45, h45, rfl, rfl⟩
  refine WX.seq ?_
  refine WX.reg ?_
  obtain ⟨y46, hy46, h⟩ := h
  refine WO.ch rfl rfl (tree_New_ok hH hy46) rfl rfl rfl ?_
  rintro v47 B _ E hK ⟨_, rfl, rfl, hH, h48⟩
  replace h45 := h45.upw hK
  replace hB := hB.trans hK
  refine WO.q (.as (v := v47) rfl) rfl rfl ?_
  refine WO.nil ?_
  refine WX.seq ?_
  refine WX.seq ?_
  refine WX.reg ?_
  refine WO.q (.mv (v := .int _ _) rfl) rfl rfl ?_
  refine WO.q (.r fun _ => rfl) rfl rfl ?_
  refine WO.nil ?_
  rcases bsp (decide (a0 = 1)) with k49 | k49
  have q_k49 := of_decide_eq_true k49
  replace h := (if_pos q_k49).mp h
  refine WX.condT rfl k49 ?_
  refine WX.reg ?_
  refine WO.q (.as (v := .int _ _) rfl) rfl rfl ?_
  refine WO.nil ?_
  refine WX.keep [0, 1, 5, 26] (WX.pk [] (by decide) ?_) rfl
  exact gabionlaw19_TreeNone_j20_ok h _ _ _ _ ⟨hB, hH, _, _, h45, h48, rfl, rfl⟩
  have q_k49 := of_decide_eq_false k49
  replace h := (if_neg q_k49).mp h
  refine WX.condF rfl k49 ?_
  refine WX.skip ?_
  refine WX.keep [0, 1, 5, 26] (WX.pk [] (by decide) ?_) rfl
  exact gabionlaw19_TreeNone_j20_ok h _ _ _ _ ⟨hB, hH, _, _, h45, h48, rfl, rfl⟩
end Gab
end
section
set_option linter.unusedVariables false
set_option linter.unusedSimpArgs false
set_option maxRecDepth 100000
set_option maxHeartbeats 4000000
namespace Gab
open Go
abbrev H00 : Heap := by constructor <;> exact []
def getH {α : Type} (o : Option (Heap × α)) : Heap := (o.map (·.1)).getD H00
theorem getH_of {α : Type} {o : Option (Heap × α)} {y : α} (h : o.map (·.2) = some y) : o = some (getH o, y) := by
  cases o with
  | none => cases h
  | some p =>
    obtain ⟨H, b⟩ := p
    simp only [Option.map_some, Option.some.injEq] at h
    simp [getH, h]
def HN : Heap := getH (tree_New H00)
def HW : Heap := getH (gabionlaw19_wakes HN)
def HD : Heap := getH (tree_Tree_Deeds HW 1)
theorem newN : tree_New H00 = some (HN, 1) := getH_of (by decide +kernel)
theorem wakesW : gabionlaw19_wakes HN = some (HW, true) := getH_of (by decide +kernel)
theorem deedsW : tree_Tree_Deeds HW 1 = some (HD, []) := getH_of (by decide +kernel)
theorem lenD : tree_Tree_Len HD 1 = some 1 := by decide +kernel
theorem n126 : hobj HN.h126 1 = some (1, 1, 1) := by decide +kernel
theorem n122 : hmap HN.h122 1 = some [(1, 1)] := by decide +kernel
theorem w126 : hobj HW.h126 1 = some (1, 1, 1) := by decide +kernel
theorem w122 : hmap HW.h122 1 = some [(1, 1)] := by decide +kernel
theorem no_such {n : Int} (h : n ≠ 1) : mget [((1 : Int), (1 : Nat))] n = none := by
  have : ¬ (1 : Int) = n := fun e => h e.symm
  simp [mget, List.find?, this]
theorem getN {n : Int} (h : n ≠ 1) : tree_Tree_get HN 1 n = some (0, 13) := by simp [tree_Tree_get, n126, n122, no_such h]
theorem getW {n : Int} (h : n ≠ 1) : tree_Tree_get HW 1 n = some (0, 13) := by simp [tree_Tree_get, w126, w122, no_such h]
theorem nil_get (H : Heap) (n : Int) : tree_Tree_get H 0 n = some (0, 1) := by simp [tree_Tree_get]
theorem nil_dir (H : Heap) (n : Int) : tree_Tree_dir H 0 n = some (0, 1) := by simp [tree_Tree_dir, nil_get, tree_Tree_dir_j2]
theorem nil_open (H : Heap) (n : Int) : tree_Tree_open H 0 n = some (0, 1) := by simp [tree_Tree_open, nil_dir, tree_Tree_open_j2]
theorem nil_find (H : Heap) (n : Int) (s : List UInt8) : tree_Tree_Find H 0 n s = some (0, 1) := by simp [tree_Tree_Find, nil_dir]
theorem nil_vacant (H : Heap) (n : Int) (s : List UInt8) : tree_Tree_vacant H 0 n s = some (0, 1) := by simp [tree_Tree_vacant, nil_open]
theorem nil_movable (H : Heap) (n m : Int) (s t : List UInt8) : ∃ k, tree_Tree_movable H 0 n s m t = some (k, 1) := by
  simp [tree_Tree_movable, nil_find, nil_open]
theorem laid13 : ∀ k : Nat, k < 13 → ([1, 1, 1, 1, 1, 1, 1, 1, 1, 1, 1, 1, 1] : List Int)[k]? = some 1 := by decide
theorem loop13 (H : Heap) (x0 : Int) (x1 : List UInt8) (x5 : Nat) : iter (fun (s : Int) => gabionlaw19_TreeNone_l0 H x0 x1 x5 ([1, 1, 1, 1, 1, 1, 1, 1, 1, 1, 1, 1, 1]) s) (([1, 1, 1, 1, 1, 1, 1, 1, 1, 1, 1, 1, 1] : List Int).length + 1) 0 = some (.inr ()) := by
  have h := iter_fold (l := ([1, 1, 1, 1, 1, 1, 1, 1, 1, 1, 1, 1, 1] : List Int)) (step := fun (s : Int) => gabionlaw19_TreeNone_l0 H x0 x1 x5 ([1, 1, 1, 1, 1, 1, 1, 1, 1, 1, 1, 1, 1]) s) (fun i _ => (i : Int)) (.inr ()) (fun i x hx => by
    have hl : i < 13 := by have := (List.getElem?_eq_some_iff.1 hx).1; simpa using this
    have h1 := laid13 i hl
    rw [hx] at h1
    have hw : wi64 ((i : Int) + 1) = ((i + 1 : Nat) : Int) := by rw [w64 (by omega) (by omega)]; omega
    simp only [gabionlaw19_TreeNone_l0]
    rw [if_pos (by simp; omega), rd_ok hx]
    simp only [Option.bind_some, Option.some.inj h1, hw]
    rfl) (by simp [gabionlaw19_TreeNone_l0]) (d := 14) (by decide)
  exact h
theorem nonej {n : Int} (hn : n ≠ 1) (x1 : List UInt8) : gabionlaw19_TreeNone_j20 HN n x1 0 1 fun r => r.2 = true := by
  have hd : tree_Tree_dir HN 1 n = some (0, 13) := by simp [tree_Tree_dir, getN hn, tree_Tree_dir_j2]
  have ho : tree_Tree_open HN 1 n = some (0, 13) := by simp [tree_Tree_open, hd, tree_Tree_open_j2]
  have hv : tree_Tree_vacant HN 1 n x1 = some (0, 13) := by simp [tree_Tree_vacant, ho]
  have hi : tree_Tree_Inode HN 1 n = some (((0, 0, 0, [], ([] : List UInt8)) : Int × Int × Int × (List (Int × Int)) × (List UInt8)), 13) := by simp [tree_Tree_Inode, getN hn]
  have hm : tree_Tree_Make HN 1 n x1 ((2, 0, 0, [], ([] : List UInt8)) : Int × Int × Int × (List (Int × Int)) × (List UInt8)) = some (HN, 0, 13) := by simp [tree_Tree_Make, hv]
  have hN : tree_Tree_Names HN 1 n = some ([], 13) := by simp [tree_Tree_Names, hd]
  have hs : tree_Tree_Set HW 1 n 0 [] = some (HW, 13) := by simp [tree_Tree_Set, getW hn]
  refine ⟨_, hi, _, hN, _, hm, _, wakesW, ?_⟩
  simp [tree_Tree_Copy, tree_Tree_Len, tree_Tree_All, tree_Tree_Deeds]
  refine ⟨by decide, HW, 13, hs, ?_⟩
  simp
  exact ⟨_, _, deedsW, by simpa [tree_Tree_Len] using lenD⟩
theorem TreeNone_pure (a0 : Int) (w0 : (Lit.int .i64 a0).wf = true) (a1 : List UInt8) (z1 : a1.length ≤ 9223372036854775807) : gabionlaw19_TreeNone H00 a0 a1 fun r => r.2 = true := by
  have h1 : tree_Tree_Inode H00 0 a0 = some (((0, 0, 0, [], ([] : List UInt8)) : Int × Int × Int × (List (Int × Int)) × (List UInt8)), 1) := by simp [tree_Tree_Inode, nil_get]
  have h2 : tree_Tree_Names H00 0 a0 = some ([], 1) := by simp [tree_Tree_Names, nil_dir]
  have h4 : tree_Tree_Walk H00 0 a0 ((false, [], false) : Bool × (List (List UInt8)) × Bool) true = some (H00, 0, 1) := by simp [tree_Tree_Walk, nil_get]
  have h5 : tree_Tree_Make H00 0 a0 a1 ((0, 0, 0, [], ([] : List UInt8)) : Int × Int × Int × (List (Int × Int)) × (List UInt8)) = some (H00, 0, 1) := by simp [tree_Tree_Make, nil_vacant]
  have h6 : tree_Tree_Unlink H00 0 a0 a1 = some (H00, [], 1) := by simp [tree_Tree_Unlink, nil_find]
  have h7 : tree_Tree_Rename H00 0 a0 a1 a0 a1 = some (H00, [], 1) := by
    obtain ⟨k, hk⟩ := nil_movable H00 a0 a0 a1 a1
    simp [tree_Tree_Rename, hk]
  have h8 : tree_Tree_Unpin H00 0 a0 = some (H00, [], 1) := by simp [tree_Tree_Unpin, nil_get]
  have h9 : tree_Tree_Up H00 0 a0 = some (0, 1) := by simp [tree_Tree_Up, nil_open]
  have h10 : tree_Tree_Link H00 0 a0 a0 a1 = some (H00, 1) := by simp [tree_Tree_Link, nil_get]
  have h11 : tree_Tree_Rmdir H00 0 a0 a1 = some (H00, 1) := by simp [tree_Tree_Rmdir, nil_find]
  have h12 : tree_Tree_Set H00 0 a0 0 [] = some (H00, 1) := by simp [tree_Tree_Set, nil_get]
  have h13 : tree_Tree_Pin H00 0 a0 = some (H00, 1) := by simp [tree_Tree_Pin, nil_get]
  refine ⟨_, h1, _, h2, _, nil_find _ _ _, _, h4, _, h5, _, h6, _, h7, _, h8, _, h9, _, h10, _, h11, _, h12, _, h13, _, loop13 _ _ _ _, ?_⟩
  show ∃ y46, tree_New H00 = some y46 ∧ _
  refine ⟨_, newN, ?_⟩
  by_cases ha : a0 = 1
  · rw [if_pos ha]; exact nonej (by decide) a1
  · rw [if_neg ha]; exact nonej ha a1
end Gab
end
section
set_option linter.unusedVariables false
namespace Gab
open Go
def kn0 : Kn := ⟨fun _ => none, fun _ => []⟩
def stE : St := ⟨0, fun _ => none⟩
def Laid (w : World) : Prop := ∀ (g : Nat) (cs : Array Value), globT g = some cs → ∃ e fz, w.heap[g]? = some (.cells cs e fz)
theorem rel_nil {w : World} (hg : Laid w) : Rel [] stE w := ⟨⟨rfl, fun b o h => (by cases h), fun b b' l l' o o' _ h => (by cases h)⟩, ⟨hg, fun b o l h => (by cases h)⟩⟩
theorem hp_nil : Hp kn0 [] stE := ⟨⟨fun b o h => (by cases h), fun _ _ h => (by cases h)⟩, fun _ _ h => (by cases h), List.Pairwise.nil⟩
theorem law_callsQ {P : Program} {f : FuncId} {args : List AV} {st : St} {Q : AV → St → Prop} {ρ : Loc.Map} {w : World} {cargs : List Value} (h : ASpec P f args st Q) (hq : ∀ v s, Q v s → v = .bool true) (hro : ∀ b o, st.get b = some o → o.rw = false) (hr : Rel ρ st w) (ha : RVs ρ args cargs) :
    Calls P f ⟨cargs⟩ w fun e w' => e = .returned (.bool true) ∧ Go.RowKit.Below w.heap.size w w' :=
  (h.2 ρ w cargs hr ha).mono fun e w' ⟨c, v, ρ', st', he, hv, hrv, _, hs⟩ => by
    obtain rfl := hq _ _ hv
    have hc : c = .bool true := hrv
    subst hc
    exact ⟨he, hs.below hro⟩
end Gab
end
