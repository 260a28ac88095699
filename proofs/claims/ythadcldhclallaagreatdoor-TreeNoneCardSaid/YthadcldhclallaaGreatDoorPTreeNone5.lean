/- Joined out of FpTree0 FpInode0 FpTree1 by a program. -/
import Derived.Test.YthadcldhclallaaGreatDoorPTreeNone3
import Derived.Test.YthadcldhclallaaGreatDoorPTreeNone4
import Derived.Shelf.SlMaps.Clone
import Derived.Ground.SlmcProg
section
set_option linter.unusedSimpArgs false
set_option linter.unusedVariables false
set_option maxHeartbeats 4000000
set_option maxRecDepth 100000
namespace Gab
open Go Go.Proofs
def tree_Tree_get_P (B : Kn) (L : Own) (r : Nat × Int) : AV → St → Prop := C0 B L fun B' v => ∃ wp0, v = .tup [wp0, .int .i64 r.2] ∧ HPt B' 131 wp0 r.1
theorem tree_Tree_get_ok {B0 : Kn} {L : Own} {H : Heap} {Eh : Own} (hH : HR B0 H Eh) {a0 : Nat} {a1 : Int} {v0_0 : AV} (g0_0 : HPt B0 126 v0_0 a0) {r : Nat × Int} (h : tree_Tree_get H a0 a1 = some r) : ∀ st, Hp B0 (Eh ++ L) st → ASpec Tryz.prog 61 [v0_0, .int .i64 a1] st (tree_Tree_get_P B0 (Eh ++ L) r) := by
  unfold tree_Tree_get at h
  refine bodyA (A := []) (L := Eh ++ L) Tryz.func61 rfl (c := bodyOf Tryz.f61) rfl Tryz.ntmps61 (lb rfl) fun n0 => ?_
  have hB := KLe.refl B0
  have hH0 := hH
  refine WX.seq ?_
  refine WX.reg ?_
  refine WO.q (.as (v := .nilptr) rfl) rfl rfl ?_
  refine WO.q (.as (v := .int _ _) rfl) rfl rfl ?_
  refine WO.nil ?_
  refine WX.seq ?_
  refine WX.seq ?_
  refine WX.reg ?_
  refine WO.q (.mv (v := v0_0) rfl) rfl rfl ?_
  refine WO.q (.bin (eveqlnil g0_0 ti23 rfl)) rfl rfl ?_
  refine WO.nil ?_
  rcases bsp (decide (a0 = 0)) with k1 | k1
  have q_k1 := of_decide_eq_true k1
  replace h := (if_pos q_k1).symm.trans h
  refine WX.condT rfl k1 ?_
  refine WX.seq ?_
  refine WX.reg ?_
  refine WO.q (.as (v := .nilptr) rfl) rfl rfl ?_
  refine WO.q (.as (v := .int _ _) rfl) rfl rfl ?_
  refine WO.nil ?_
  obtain rfl := Option.some.inj h
  exact WX.ret (rs_ (rs_tmp rfl (rs_tmp rfl rs_nil))) fun st hp => ⟨_, hB, (hp.pk [] (by decide)), _, rfl, HPt.nil⟩
  have q_k1 := of_decide_eq_false k1
  replace h := (if_neg q_k1).symm.trans h
  refine WX.condF rfl k1 ?_
  refine WX.skip ?_
  refine WX.seq ?_
  refine WX.reg ?_
  refine WO.q (.mv (v := v0_0) rfl) rfl rfl ?_
  obtain ⟨y2, hy2, h⟩ := Option.bind_eq_some_iff.1 h
  obtain ⟨b_y2, c_y2, e_y2, m_y2, r_y2, u_y2⟩ := hgetS (foc126 hH) g0_0 hy2
  subst e_y2
  obtain ⟨_, _, rfl, ⟨w3, rfl, hw3⟩, ⟨_, _, rfl, ⟨w4, rfl, hw4⟩, ⟨w5, rfl, hw5⟩⟩⟩ := r_y2
  refine WO.q (.r fun _ => rfl) rfl rfl ?_
  refine WO.q (.fa (fa126_0 _ _)) rfl rfl ?_
  refine WO.ql (.ldSm rfl (inE m_y2) rfl ti122 rfl) rfl rfl ?_
  refine WO.q (.mv (v := .int _ _) rfl) rfl rfl ?_
  obtain ⟨y6, hy6, h⟩ := Option.bind_eq_some_iff.1 h
  refine WO.md (MOp.lookup mt122 (foc122 hH) hw3 hy6 kI rfl rfl) rfl rfl ?_
  rintro _ _ ⟨rfl, c7, r8, rfl⟩
  have hw9 := r8
  refine WO.q (.mv (v := .tup _) rfl) rfl rfl ?_
  refine WO.q (.r fun _ => rfl) rfl rfl ?_
  refine WO.q (.r fun _ => rfl) rfl rfl ?_
  refine WO.q (.as (v := c7) rfl) rfl rfl ?_
  refine WO.q (.as (v := .bool _) rfl) rfl rfl ?_
  refine WO.nil ?_
  refine WX.seq ?_
  refine WX.seq ?_
  refine WX.reg ?_
  refine WO.q (.mv (v := .bool _) rfl) rfl rfl ?_
  refine WO.q (.r fun _ => rfl) rfl rfl ?_
  refine WO.nil ?_
  rcases bsp ((mget y6 a1).isSome) with k10 | k10
  replace h := (if_pos k10).symm.trans h
  refine WX.condF rfl (f_not k10) ?_
  refine WX.skip ?_
  refine WX.seq ?_
  refine WX.reg ?_
  refine WO.q (.mv (v := c7) rfl) rfl rfl ?_
  refine WO.q (.as (v := c7) rfl) rfl rfl ?_
  refine WO.q (.as (v := .int _ _) rfl) rfl rfl ?_
  refine WO.nil ?_
  obtain rfl := Option.some.inj h
  exact WX.ret (rs_ (rs_tmp rfl (rs_tmp rfl rs_nil))) fun st hp => ⟨_, hB, (hp.pk [] (by decide)), _, rfl, hw9⟩
  replace h := (if_neg (bnt k10)).symm.trans h
  refine WX.condT rfl (t_not k10) ?_
  refine WX.seq ?_
  refine WX.reg ?_
  refine WO.q (.as (v := .nilptr) rfl) rfl rfl ?_
  refine WO.q (.as (v := .int _ _) rfl) rfl rfl ?_
  refine WO.nil ?_
  obtain rfl := Option.some.inj h
  exact WX.ret (rs_ (rs_tmp rfl (rs_tmp rfl rs_nil))) fun st hp => ⟨_, hB, (hp.pk [] (by decide)), _, rfl, HPt.nil⟩
def tree_Tree_Inode_P (B : Kn) (L : Own) (r : (Int × Int × Int × (List (Int × Int)) × (List UInt8)) × Int) : AV → St → Prop := C1 B L fun B' v e0 => ∃ w0 b0 n0 c0, v = .tup [.agg [.int .u8 r.1.1, .int .i64 r.1.2.1, .int .i64 r.1.2.2.1, w0, .str r.1.2.2.2.2], .int .i64 r.2] ∧ e0 = oe b0 n0 c0 ∧ OSl EPIi64Ii64Q B' w0 b0 n0 c0 r.1.2.2.2.1
theorem tree_Tree_Inode_ok {B0 : Kn} {L : Own} {H : Heap} {Eh : Own} (hH : HR B0 H Eh) {a0 : Nat} {a1 : Int} {v0_0 : AV} (g0_0 : HPt B0 126 v0_0 a0) {r : (Int × Int × Int × (List (Int × Int)) × (List UInt8)) × Int} (h : tree_Tree_Inode H a0 a1 = some r) : ∀ st, Hp B0 (Eh ++ L) st → ASpec Tryz.prog 18 [v0_0, .int .i64 a1] st (tree_Tree_Inode_P B0 (Eh ++ L) r) := by
  unfold tree_Tree_Inode at h
  refine bodyA (A := []) (L := Eh ++ L) Tryz.func18 rfl (c := bodyOf Tryz.f18) rfl Tryz.ntmps18 (lb rfl) fun n0 => ?_
  have hB := KLe.refl B0
  have hH0 := hH
  refine WX.seq ?_
  refine WX.reg ?_
  refine WO.md (MOp.alloc ti53 rfl) rfl rfl ?_
  rintro _ _ ⟨b1, rfl, rfl⟩
  refine WO.q (.as (v := .int _ _) rfl) rfl rfl ?_
  refine WO.nil ?_
  refine WX.seq ?_
  refine WX.reg ?_
  refine WO.q (.mv (v := v0_0) rfl) rfl rfl ?_
  refine WO.q (.mv (v := .int _ _) rfl) rfl rfl ?_
  obtain ⟨y2, hy2, h⟩ := Option.bind_eq_some_iff.1 h
  refine WO.c0 rfl rfl (rd0 (tree_Tree_get_ok hH g0_0 hy2)) rfl rfl rfl ?_
  rintro _ B hK ⟨v3, rfl, h4⟩
  replace g0_0 := g0_0.up hK
  replace hH := hH.up hK
  replace hB := hB.trans hK
  refine WO.q (.mv (v := .tup _) rfl) rfl rfl ?_
  refine WO.q (.r fun _ => rfl) rfl rfl ?_
  refine WO.q (.r fun _ => rfl) rfl rfl ?_
  refine WO.q (.as (v := v3) rfl) rfl rfl ?_
  refine WO.q (.as (v := .int _ _) rfl) rfl rfl ?_
  refine WO.nil ?_
  refine WX.seq ?_
  refine WX.seq ?_
  refine WX.reg ?_
  refine WO.q (.mv (v := .int _ _) rfl) rfl rfl ?_
  refine WO.q (.r fun _ => rfl) rfl rfl ?_
  refine WO.nil ?_
  rcases bsp (decide (y2.2 ≠ 0)) with k5 | k5
  have q_k5 := of_decide_eq_true k5
  replace h := (if_pos q_k5).symm.trans h
  refine WX.condT rfl k5 ?_
  refine WX.seq ?_
  refine WX.reg ?_
  refine WO.q (.bd (bd53_n)) rfl rfl ?_
  refine WO.q (.mv (v := .int _ _) rfl) rfl rfl ?_
  refine WO.mn (MOp.storeW rfl (cA rfl) .h ti53 rfl rfl rfl) rfl ?_
  rintro _ _ rfl
  refine WO.q (.as (v := .int _ _) rfl) rfl rfl ?_
  refine WO.nil ?_
  obtain rfl := Option.some.inj h
  exact WX.ret (rs_ (rs_cell (.ldA (i := 0) rfl rfl rfl ti53 rfl) (rs_tmp rfl rs_nil))) fun st hp => ⟨_, _, hB, ((hp.pk [] (by decide)).skip 0), _, 0, true, [], rfl, rfl, OSl.none _ _⟩
  have q_k5 := of_decide_eq_false k5
  replace h := (if_neg q_k5).symm.trans h
  refine WX.condF rfl k5 ?_
  refine WX.skip ?_
  refine WX.seq ?_
  refine WX.reg ?_
  refine WO.q (.mv (v := v3) rfl) rfl rfl ?_
  obtain ⟨y6, hy6, h⟩ := Option.bind_eq_some_iff.1 h
  obtain ⟨b_y6, c_y6, e_y6, m_y6, r_y6, u_y6⟩ := hgetS (foc131 hH) h4 hy6
  subst e_y6
  obtain ⟨_, _, rfl, ⟨_, _, rfl, rfl, ⟨_, _, rfl, rfl, ⟨_, _, rfl, rfl, ⟨_, _, rfl, ⟨w7, rfl, hw7⟩, rfl⟩⟩⟩⟩, ⟨_, _, rfl, ⟨w8, rfl, hw8⟩, ⟨_, _, rfl, rfl, rfl⟩⟩⟩ := r_y6
  obtain ⟨_, _, _, _, _, rfl⟩ := hw7.isl
  refine WO.q (.r fun _ => rfl) rfl rfl ?_
  refine WO.q (.fa (fa131_0 _ _)) rfl rfl ?_
  refine WO.ql (.ldAm rfl (inE m_y6) rfl ti53 rfl) rfl rfl ?_
  refine WO.md (MOp.alloc ti53 rfl) rfl rfl ?_
  rintro _ _ ⟨b9, rfl, rfl⟩
  refine WO.mn (MOp.storeW rfl (cA rfl) .h ti53 rfl rfl rfl) rfl ?_
  rintro _ _ rfl
  refine WO.nil ?_
  refine WX.seq ?_
  refine WX.reg ?_
  refine WO.q (.fa (fa53_3 _ _)) rfl rfl ?_
  refine WO.q (.ldS (i := 0) rfl rfl rfl ti51 rfl) rfl rfl ?_
  obtain ⟨y10, hy10, h⟩ := Option.bind_eq_some_iff.1 h
  refine WO.c1 rfl rfl (slices_Clone_ext_List_alloc_Extent_ok hw7 hy10) rfl rfl rfl ?_
  rintro _ B _ hK ⟨v11, b12, n13, c14, rfl, rfl, h15⟩
  obtain ⟨_, _, _, _, _, rfl⟩ := h15.isl
  replace hw7 := hw7.up hK
  replace hH := hH.up hK
  replace hB := hB.trans hK
  refine WO.q (.fa (fa53_3 _ _)) rfl rfl ?_
  refine WO.mn (MOp.store (cs' := [.int .u8 y6.1.1, .int .i64 y6.1.2.1, .int .i64 y6.1.2.2.1, _, .str y6.1.2.2.2.2]) rfl (cL rfl) (.t .h) ti51 rfl rfl (lb rfl) rfl) rfl ?_
  rintro _ _ rfl
  refine WO.nil ?_
  refine WX.seq ?_
  refine WX.reg ?_
  refine WO.q (.ldA (i := 1) rfl rfl rfl ti53 rfl) rfl rfl ?_
  refine WO.mn (MOp.storeW rfl (cA rfl) (.t (.t .h)) ti53 rfl rfl rfl) rfl ?_
  rintro _ _ rfl
  refine WO.q (.as (v := .int _ _) rfl) rfl rfl ?_
  refine WO.nil ?_
  obtain rfl := Option.some.inj h
  exact WX.ret (rs_ (rs_cell (.ldA (i := 2) rfl rfl rfl ti53 rfl) (rs_tmp rfl rs_nil))) fun st hp => ⟨_, _, hB, (hp.pk [0] (by decide)), _, _, n13, _, rfl, rfl, h15⟩
def tree_Tree_dir_P (B : Kn) (L : Own) (r : Nat × Int) : AV → St → Prop := C0 B L fun B' v => ∃ wp0, v = .tup [wp0, .int .i64 r.2] ∧ HPt B' 131 wp0 r.1
def tree_Tree_dir_j2_I (B0 : Kn) (x6 : Nat) (x7 : Int) (x23 : Bool) : Fr → Kn → Own → Prop := fun fr B A => KLe B0 B ∧ ∃ v8, HPt B 131 v8 x6 ∧ fr = [(6, v8), (7, .int .i64 x7), (23, .bool x23)] ∧ A = []
theorem tree_Tree_dir_j2_ok {B0 : Kn} {L : Own} {n0 : Nat} {H : Heap} {Eh : Own} {x6 : Nat} {x7 : Int} {x23 : Bool} {r : Nat × Int} (h : tree_Tree_dir_j2 H x6 x7 x23 = some r) (hH0 : HR B0 H Eh) : WXI Tryz.prog 26 n0 (Fin Tryz.prog Tryz.f63.results.toList n0 (tree_Tree_dir_P B0 (Eh ++ L) r)) [.code (ct [1, 1, 0, 1] (bodyOf Tryz.f63)), .code (ct [1, 1, 1] (bodyOf Tryz.f63))] (tree_Tree_dir_j2_I B0 x6 x7 x23) (Eh ++ L) := by
  unfold tree_Tree_dir_j2 at h
  rintro _ B _ ⟨hB, v8, h8, rfl, rfl⟩
  have hH := hH0.up hB
  rcases bsp x23 with k9 | k9
  replace h := (if_pos k9).symm.trans h
  refine WX.condT rfl k9 ?_
  refine WX.seq ?_
  refine WX.reg ?_
  refine WO.q (.as (v := .nilptr) rfl) rfl rfl ?_
  refine WO.q (.as (v := .int _ _) rfl) rfl rfl ?_
  refine WO.nil ?_
  obtain rfl := Option.some.inj h
  exact WX.ret (rs_ (rs_tmp rfl (rs_tmp rfl rs_nil))) fun st hp => ⟨_, hB, (hp.pk [] (by decide)), _, rfl, HPt.nil⟩
  replace h := (if_neg (bnt k9)).symm.trans h
  refine WX.condF rfl k9 ?_
  refine WX.skip ?_
  refine WX.seq ?_
  refine WX.reg ?_
  refine WO.q (.mv (v := v8) rfl) rfl rfl ?_
  refine WO.q (.mv (v := .int _ _) rfl) rfl rfl ?_
  refine WO.q (.as (v := v8) rfl) rfl rfl ?_
  refine WO.q (.as (v := .int _ _) rfl) rfl rfl ?_
  refine WO.nil ?_
  obtain rfl := Option.some.inj h
  exact WX.ret (rs_ (rs_tmp rfl (rs_tmp rfl rs_nil))) fun st hp => ⟨_, hB, (hp.pk [] (by decide)), _, rfl, h8⟩
theorem tree_Tree_dir_ok {B0 : Kn} {L : Own} {H : Heap} {Eh : Own} (hH : HR B0 H Eh) {a0 : Nat} {a1 : Int} {v0_0 : AV} (g0_0 : HPt B0 126 v0_0 a0) {r : Nat × Int} (h : tree_Tree_dir H a0 a1 = some r) : ∀ st, Hp B0 (Eh ++ L) st → ASpec Tryz.prog 63 [v0_0, .int .i64 a1] st (tree_Tree_dir_P B0 (Eh ++ L) r) := by
  unfold tree_Tree_dir at h
  refine bodyA (A := []) (L := Eh ++ L) Tryz.func63 rfl (c := bodyOf Tryz.f63) rfl Tryz.ntmps63 (lb rfl) fun n0 => ?_
  have hB := KLe.refl B0
  have hH0 := hH
  refine WX.seq ?_
  refine WX.reg ?_
  refine WO.q (.as (v := .nilptr) rfl) rfl rfl ?_
  refine WO.q (.as (v := .int _ _) rfl) rfl rfl ?_
  refine WO.nil ?_
  refine WX.seq ?_
  refine WX.reg ?_
  refine WO.q (.mv (v := v0_0) rfl) rfl rfl ?_
  refine WO.q (.mv (v := .int _ _) rfl) rfl rfl ?_
  obtain ⟨y1, hy1, h⟩ := Option.bind_eq_some_iff.1 h
  refine WO.c0 rfl rfl (rd0 (tree_Tree_get_ok hH g0_0 hy1)) rfl rfl rfl ?_
  rintro _ B hK ⟨v2, rfl, h3⟩
  replace g0_0 := g0_0.up hK
  replace hH := hH.up hK
  replace hB := hB.trans hK
  refine WO.q (.mv (v := .tup _) rfl) rfl rfl ?_
  refine WO.q (.r fun _ => rfl) rfl rfl ?_
  refine WO.q (.r fun _ => rfl) rfl rfl ?_
  refine WO.q (.as (v := v2) rfl) rfl rfl ?_
  refine WO.q (.as (v := .int _ _) rfl) rfl rfl ?_
  refine WO.nil ?_
  refine WX.seq ?_
  refine WX.seq ?_
  refine WX.reg ?_
  refine WO.q (.mv (v := .int _ _) rfl) rfl rfl ?_
  refine WO.q (.r fun _ => rfl) rfl rfl ?_
  refine WO.q (.mv (v := .bool _) rfl) rfl rfl ?_
  rcases bsp (decide (y1.2 = 0)) with k4 | k4
  have q_k4 := of_decide_eq_true k4
  replace h := (if_pos q_k4).symm.trans h
  refine WO.q (.mv (v := v2) rfl) (wg rfl rfl (gt k4)) rfl ?_
  obtain ⟨y5, hy5, h⟩ := Option.bind_eq_some_iff.1 h
  obtain ⟨b_y5, c_y5, e_y5, m_y5, r_y5, u_y5⟩ := hgetS (foc131 hH) h3 hy5
  subst e_y5
  obtain ⟨_, _, rfl, ⟨_, _, rfl, rfl, ⟨_, _, rfl, rfl, ⟨_, _, rfl, rfl, ⟨_, _, rfl, ⟨w6, rfl, hw6⟩, rfl⟩⟩⟩⟩, ⟨_, _, rfl, ⟨w7, rfl, hw7⟩, ⟨_, _, rfl, rfl, rfl⟩⟩⟩ := r_y5
  obtain ⟨_, _, _, _, _, rfl⟩ := hw6.isl
  refine WO.q (.r fun _ => rfl) (wg rfl rfl (gt k4)) rfl ?_
  refine WO.q (.fa (fa131_0 _ _)) (wg rfl rfl (gt k4)) rfl ?_
  refine WO.q (.fa (fa53_0 _ _)) (wg rfl rfl (gt k4)) rfl ?_
  refine WO.ql (.ldSm rfl (inE m_y5) rfl ti49 rfl) (wg rfl rfl (gt k4)) rfl ?_
  refine WO.q (.r fun _ => rfl) (wg rfl rfl (gt k4)) rfl ?_
  refine WO.q (.ptv (v := .bool _) rfl k4 rfl) rfl rfl ?_
  refine WO.nil ?_
  refine WX.keep [6, 7, 23] (WX.pk [] (by decide) ?_) rfl
  exact tree_Tree_dir_j2_ok h hH0 _ _ _ ⟨hB, _, h3, rfl, rfl⟩
  have q_k4 := of_decide_eq_false k4
  replace h := (if_neg q_k4).symm.trans h
  refine WO.sd (wg rfl rfl (gtn k4)) rfl ?_
  refine WO.sd (wg rfl rfl (gtn k4)) rfl ?_
  refine WO.sd (wg rfl rfl (gtn k4)) rfl ?_
  refine WO.sd (wg rfl rfl (gtn k4)) rfl ?_
  refine WO.sd (wg rfl rfl (gtn k4)) rfl ?_
  refine WO.sd (wg rfl rfl (gtn k4)) rfl ?_
  refine WO.q (.pfv (v := .bool _) rfl k4 rfl) rfl rfl ?_
  refine WO.nil ?_
  refine WX.keep [6, 7, 23] (WX.pk [] (by decide) ?_) rfl
  exact tree_Tree_dir_j2_ok h hH0 _ _ _ ⟨hB, _, h3, rfl, rfl⟩
def tree_Tree_Names_P (B : Kn) (L : Own) (r : (List ((List UInt8) × Int)) × Int) : AV → St → Prop := C1 B L fun B' v e0 => ∃ w0 b0 n0 c0, v = .tup [w0, .int .i64 r.2] ∧ e0 = oe b0 n0 c0 ∧ OSl EPStIi64Q B' w0 b0 n0 c0 r.1
theorem tree_Tree_Names_ok {B0 : Kn} {L : Own} {H : Heap} {Eh : Own} (hH : HR B0 H Eh) {a0 : Nat} {a1 : Int} {v0_0 : AV} (g0_0 : HPt B0 126 v0_0 a0) {r : (List ((List UInt8) × Int)) × Int} (h : tree_Tree_Names H a0 a1 = some r) : ∀ st, Hp B0 (Eh ++ L) st → ASpec Tryz.prog 19 [v0_0, .int .i64 a1] st (tree_Tree_Names_P B0 (Eh ++ L) r) := by
  unfold tree_Tree_Names at h
  refine bodyA (A := []) (L := Eh ++ L) Tryz.func19 rfl (c := bodyOf Tryz.f19) rfl Tryz.ntmps19 (lb rfl) fun n0 => ?_
  have hB := KLe.refl B0
  have hH0 := hH
  refine WX.seq ?_
  refine WX.reg ?_
  refine WO.q (.as (v := .sl _ _ _ _ _ _) rfl) rfl rfl ?_
  refine WO.q (.as (v := .int _ _) rfl) rfl rfl ?_
  refine WO.nil ?_
  refine WX.seq ?_
  refine WX.reg ?_
  refine WO.q (.mv (v := v0_0) rfl) rfl rfl ?_
  refine WO.q (.mv (v := .int _ _) rfl) rfl rfl ?_
  obtain ⟨y1, hy1, h⟩ := Option.bind_eq_some_iff.1 h
  refine WO.c0 rfl rfl (rd0 (tree_Tree_dir_ok hH g0_0 hy1)) rfl rfl rfl ?_
  rintro _ B hK ⟨v2, rfl, h3⟩
  replace g0_0 := g0_0.up hK
  replace hH := hH.up hK
  replace hB := hB.trans hK
  refine WO.q (.mv (v := .tup _) rfl) rfl rfl ?_
  refine WO.q (.r fun _ => rfl) rfl rfl ?_
  refine WO.q (.r fun _ => rfl) rfl rfl ?_
  refine WO.q (.as (v := v2) rfl) rfl rfl ?_
  refine WO.q (.as (v := .int _ _) rfl) rfl rfl ?_
  refine WO.nil ?_
  refine WX.seq ?_
  refine WX.seq ?_
  refine WX.reg ?_
  refine WO.q (.mv (v := .int _ _) rfl) rfl rfl ?_
  refine WO.q (.r fun _ => rfl) rfl rfl ?_
  refine WO.nil ?_
  rcases bsp (decide (y1.2 ≠ 0)) with k4 | k4
  have q_k4 := of_decide_eq_true k4
  replace h := (if_pos q_k4).symm.trans h
  refine WX.condT rfl k4 ?_
  refine WX.seq ?_
  refine WX.reg ?_
  refine WO.q (.mv (v := .int _ _) rfl) rfl rfl ?_
  refine WO.q (.as (v := .sl _ _ _ _ _ _) rfl) rfl rfl ?_
  refine WO.q (.as (v := .int _ _) rfl) rfl rfl ?_
  refine WO.nil ?_
  obtain rfl := Option.some.inj h
  exact WX.ret (rs_ (rs_tmp rfl (rs_tmp rfl rs_nil))) fun st hp => ⟨_, _, hB, ((hp.pk [] (by decide)).skip 0), _, 0, true, [], rfl, rfl, OSl.none _ _⟩
  have q_k4 := of_decide_eq_false k4
  replace h := (if_neg q_k4).symm.trans h
  refine WX.condF rfl k4 ?_
  refine WX.skip ?_
  refine WX.seq ?_
  refine WX.reg ?_
  refine WO.q (.mv (v := v2) rfl) rfl rfl ?_
  obtain ⟨y5, hy5, h⟩ := Option.bind_eq_some_iff.1 h
  obtain ⟨b_y5, c_y5, e_y5, m_y5, r_y5, u_y5⟩ := hgetS (foc131 hH) h3 hy5
  subst e_y5
  obtain ⟨_, _, rfl, ⟨_, _, rfl, rfl, ⟨_, _, rfl, rfl, ⟨_, _, rfl, rfl, ⟨_, _, rfl, ⟨w6, rfl, hw6⟩, rfl⟩⟩⟩⟩, ⟨_, _, rfl, ⟨w7, rfl, hw7⟩, ⟨_, _, rfl, rfl, rfl⟩⟩⟩ := r_y5
  obtain ⟨_, _, _, _, _, rfl⟩ := hw6.isl
  refine WO.q (.r fun _ => rfl) rfl rfl ?_
  refine WO.q (.fa (fa131_1 _ _)) rfl rfl ?_
  refine WO.ql (.ldSm rfl (inE m_y5) rfl ti128 rfl) rfl rfl ?_
  obtain ⟨y8, hy8, h⟩ := Option.bind_eq_some_iff.1 h
  refine WO.c1 rfl rfl (rd1 (dir_Dir_List_ok hH hw7 hy8)) rfl rfl rfl ?_
  rintro _ B _ hK ⟨v9, b10, n11, c12, rfl, rfl, h13⟩
  obtain ⟨_, _, _, _, _, rfl⟩ := h13.isl
  replace h3 := h3.up hK
  replace hw7 := hw7.up hK
  replace hH := hH.up hK
  replace hB := hB.trans hK
  refine WO.q (.as (v := .sl _ _ _ _ _ _) rfl) rfl rfl ?_
  refine WO.q (.as (v := .int _ _) rfl) rfl rfl ?_
  refine WO.nil ?_
  obtain rfl := Option.some.inj h
  exact WX.ret (rs_ (rs_tmp rfl (rs_tmp rfl rs_nil))) fun st hp => ⟨_, _, hB, (hp.pk [0] (by decide)), _, _, n11, _, rfl, rfl, h13⟩
def tree_Tree_Find_P (B : Kn) (L : Own) (r : Int × Int) : AV → St → Prop := CS B L fun v => v = .tup [.int .i64 r.1, .int .i64 r.2]
theorem tree_Tree_Find_ok {B0 : Kn} {L : Own} {H : Heap} {Eh : Own} (hH : HR B0 H Eh) {a0 : Nat} {a1 : Int} {a2 : List UInt8} {v0_0 : AV} (g0_0 : HPt B0 126 v0_0 a0) {r : Int × Int} (h : tree_Tree_Find H a0 a1 a2 = some r) : ∀ st, Hp B0 (Eh ++ L) st → ASpec Tryz.prog 28 [v0_0, .int .i64 a1, .str a2] st (tree_Tree_Find_P B0 (Eh ++ L) r) := by
  unfold tree_Tree_Find at h
  refine bodyA (A := []) (L := Eh ++ L) Tryz.func28 rfl (c := bodyOf Tryz.f28) rfl Tryz.ntmps28 (lb rfl) fun n0 => ?_
  have hB := KLe.refl B0
  have hH0 := hH
  refine WX.seq ?_
  refine WX.reg ?_
  refine WO.q (.as (v := .int _ _) rfl) rfl rfl ?_
  refine WO.q (.as (v := .int _ _) rfl) rfl rfl ?_
  refine WO.nil ?_
  refine WX.seq ?_
  refine WX.reg ?_
  refine WO.q (.mv (v := v0_0) rfl) rfl rfl ?_
  refine WO.q (.mv (v := .int _ _) rfl) rfl rfl ?_
  obtain ⟨y1, hy1, h⟩ := Option.bind_eq_some_iff.1 h
  refine WO.c0 rfl rfl (rd0 (tree_Tree_dir_ok hH g0_0 hy1)) rfl rfl rfl ?_
  rintro _ B hK ⟨v2, rfl, h3⟩
  replace g0_0 := g0_0.up hK
  replace hH := hH.up hK
  replace hB := hB.trans hK
  refine WO.q (.mv (v := .tup _) rfl) rfl rfl ?_
  refine WO.q (.r fun _ => rfl) rfl rfl ?_
  refine WO.q (.r fun _ => rfl) rfl rfl ?_
  refine WO.q (.as (v := v2) rfl) rfl rfl ?_
  refine WO.q (.as (v := .int _ _) rfl) rfl rfl ?_
  refine WO.nil ?_
  refine WX.seq ?_
  refine WX.seq ?_
  refine WX.reg ?_
  refine WO.q (.mv (v := .int _ _) rfl) rfl rfl ?_
  refine WO.q (.r fun _ => rfl) rfl rfl ?_
  refine WO.nil ?_
  rcases bsp (decide (y1.2 ≠ 0)) with k4 | k4
  have q_k4 := of_decide_eq_true k4
  replace h := (if_pos q_k4).symm.trans h
  refine WX.condT rfl k4 ?_
  refine WX.seq ?_
  refine WX.reg ?_
  refine WO.q (.mv (v := .int _ _) rfl) rfl rfl ?_
  refine WO.q (.as (v := .int _ _) rfl) rfl rfl ?_
  refine WO.q (.as (v := .int _ _) rfl) rfl rfl ?_
  refine WO.nil ?_
  obtain rfl := Option.some.inj h
  exact WX.ret (rs_ (rs_tmp rfl (rs_tmp rfl rs_nil))) fun st hp => ⟨(hp.pk [] (by decide)).le hB, rfl⟩
  have q_k4 := of_decide_eq_false k4
  replace h := (if_neg q_k4).symm.trans h
  refine WX.condF rfl k4 ?_
  refine WX.skip ?_
  refine WX.seq ?_
  refine WX.reg ?_
  refine WO.q (.mv (v := v2) rfl) rfl rfl ?_
  obtain ⟨y5, hy5, h⟩ := Option.bind_eq_some_iff.1 h
  obtain ⟨b_y5, c_y5, e_y5, m_y5, r_y5, u_y5⟩ := hgetS (foc131 hH) h3 hy5
  subst e_y5
  obtain ⟨_, _, rfl, ⟨_, _, rfl, rfl, ⟨_, _, rfl, rfl, ⟨_, _, rfl, rfl, ⟨_, _, rfl, ⟨w6, rfl, hw6⟩, rfl⟩⟩⟩⟩, ⟨_, _, rfl, ⟨w7, rfl, hw7⟩, ⟨_, _, rfl, rfl, rfl⟩⟩⟩ := r_y5
  obtain ⟨_, _, _, _, _, rfl⟩ := hw6.isl
  refine WO.q (.r fun _ => rfl) rfl rfl ?_
  refine WO.q (.fa (fa131_1 _ _)) rfl rfl ?_
  refine WO.ql (.ldSm rfl (inE m_y5) rfl ti128 rfl) rfl rfl ?_
  refine WO.q (.mv (v := .str _) rfl) rfl rfl ?_
  obtain ⟨y8, hy8, h⟩ := Option.bind_eq_some_iff.1 h
  refine WO.cS rfl rfl (rdS (dir_Dir_Get_ok hH hw7 hy8)) rfl rfl rfl ?_
  rintro _ rfl
  refine WO.q (.mv (v := .tup _) rfl) rfl rfl ?_
  refine WO.q (.r fun _ => rfl) rfl rfl ?_
  refine WO.q (.r fun _ => rfl) rfl rfl ?_
  refine WO.q (.as (v := .int _ _) rfl) rfl rfl ?_
  refine WO.q (.as (v := .bool _) rfl) rfl rfl ?_
  refine WO.nil ?_
  refine WX.seq ?_
  refine WX.seq ?_
  refine WX.reg ?_
  refine WO.q (.mv (v := .bool _) rfl) rfl rfl ?_
  refine WO.q (.r fun _ => rfl) rfl rfl ?_
  refine WO.nil ?_
  rcases bsp y8.2 with k9 | k9
  replace h := (if_pos k9).symm.trans h
  refine WX.condF rfl (f_not k9) ?_
  refine WX.skip ?_
  refine WX.seq ?_
  refine WX.reg ?_
  refine WO.q (.mv (v := .int _ _) rfl) rfl rfl ?_
  refine WO.q (.as (v := .int _ _) rfl) rfl rfl ?_
  refine WO.q (.as (v := .int _ _) rfl) rfl rfl ?_
  refine WO.nil ?_
  obtain rfl := Option.some.inj h
  exact WX.ret (rs_ (rs_tmp rfl (rs_tmp rfl rs_nil))) fun st hp => ⟨(hp.pk [] (by decide)).le hB, rfl⟩
  replace h := (if_neg (bnt k9)).symm.trans h
  refine WX.condT rfl (t_not k9) ?_
  refine WX.seq ?_
  refine WX.reg ?_
  refine WO.q (.as (v := .int _ _) rfl) rfl rfl ?_
  refine WO.q (.as (v := .int _ _) rfl) rfl rfl ?_
  refine WO.nil ?_
  obtain rfl := Option.some.inj h
  exact WX.ret (rs_ (rs_tmp rfl (rs_tmp rfl rs_nil))) fun st hp => ⟨(hp.pk [] (by decide)).le hB, rfl⟩
def tree_Tree_open_P (B : Kn) (L : Own) (r : Nat × Int) : AV → St → Prop := C0 B L fun B' v => ∃ wp0, v = .tup [wp0, .int .i64 r.2] ∧ HPt B' 131 wp0 r.1
def tree_Tree_open_j2_I (B0 : Kn) (x6 : Nat) (x7 : Int) (x23 : Bool) : Fr → Kn → Own → Prop := fun fr B A => KLe B0 B ∧ ∃ v8, HPt B 131 v8 x6 ∧ fr = [(6, v8), (7, .int .i64 x7), (23, .bool x23)] ∧ A = []
theorem tree_Tree_open_j2_ok {B0 : Kn} {L : Own} {n0 : Nat} {H : Heap} {Eh : Own} {x6 : Nat} {x7 : Int} {x23 : Bool} {r : Nat × Int} (h : tree_Tree_open_j2 H x6 x7 x23 = some r) (hH0 : HR B0 H Eh) : WXI Tryz.prog 26 n0 (Fin Tryz.prog Tryz.f71.results.toList n0 (tree_Tree_open_P B0 (Eh ++ L) r)) [.code (ct [1, 1, 0, 1] (bodyOf Tryz.f71)), .code (ct [1, 1, 1] (bodyOf Tryz.f71))] (tree_Tree_open_j2_I B0 x6 x7 x23) (Eh ++ L) := by
  unfold tree_Tree_open_j2 at h
  rintro _ B _ ⟨hB, v8, h8, rfl, rfl⟩
  have hH := hH0.up hB
  rcases bsp x23 with k9 | k9
  replace h := (if_pos k9).symm.trans h
  refine WX.condT rfl k9 ?_
  refine WX.seq ?_
  refine WX.reg ?_
  refine WO.q (.as (v := .nilptr) rfl) rfl rfl ?_
  refine WO.q (.as (v := .int _ _) rfl) rfl rfl ?_
  refine WO.nil ?_
  obtain rfl := Option.some.inj h
  exact WX.ret (rs_ (rs_tmp rfl (rs_tmp rfl rs_nil))) fun st hp => ⟨_, hB, (hp.pk [] (by decide)), _, rfl, HPt.nil⟩
  replace h := (if_neg (bnt k9)).symm.trans h
  refine WX.condF rfl k9 ?_
  refine WX.skip ?_
  refine WX.seq ?_
  refine WX.reg ?_
  refine WO.q (.mv (v := v8) rfl) rfl rfl ?_
  refine WO.q (.mv (v := .int _ _) rfl) rfl rfl ?_
  refine WO.q (.as (v := v8) rfl) rfl rfl ?_
  refine WO.q (.as (v := .int _ _) rfl) rfl rfl ?_
  refine WO.nil ?_
  obtain rfl := Option.some.inj h
  exact WX.ret (rs_ (rs_tmp rfl (rs_tmp rfl rs_nil))) fun st hp => ⟨_, hB, (hp.pk [] (by decide)), _, rfl, h8⟩
theorem tree_Tree_open_ok {B0 : Kn} {L : Own} {H : Heap} {Eh : Own} (hH : HR B0 H Eh) {a0 : Nat} {a1 : Int} {v0_0 : AV} (g0_0 : HPt B0 126 v0_0 a0) {r : Nat × Int} (h : tree_Tree_open H a0 a1 = some r) : ∀ st, Hp B0 (Eh ++ L) st → ASpec Tryz.prog 71 [v0_0, .int .i64 a1] st (tree_Tree_open_P B0 (Eh ++ L) r) := by
  unfold tree_Tree_open at h
  refine bodyA (A := []) (L := Eh ++ L) Tryz.func71 rfl (c := bodyOf Tryz.f71) rfl Tryz.ntmps71 (lb rfl) fun n0 => ?_
  have hB := KLe.refl B0
  have hH0 := hH
  refine WX.seq ?_
  refine WX.reg ?_
  refine WO.q (.as (v := .nilptr) rfl) rfl rfl ?_
  refine WO.q (.as (v := .int _ _) rfl) rfl rfl ?_
  refine WO.nil ?_
  refine WX.seq ?_
  refine WX.reg ?_
  refine WO.q (.mv (v := v0_0) rfl) rfl rfl ?_
  refine WO.q (.mv (v := .int _ _) rfl) rfl rfl ?_
  obtain ⟨y1, hy1, h⟩ := Option.bind_eq_some_iff.1 h
  refine WO.c0 rfl rfl (rd0 (tree_Tree_dir_ok hH g0_0 hy1)) rfl rfl rfl ?_
  rintro _ B hK ⟨v2, rfl, h3⟩
  replace g0_0 := g0_0.up hK
  replace hH := hH.up hK
  replace hB := hB.trans hK
  refine WO.q (.mv (v := .tup _) rfl) rfl rfl ?_
  refine WO.q (.r fun _ => rfl) rfl rfl ?_
  refine WO.q (.r fun _ => rfl) rfl rfl ?_
  refine WO.q (.as (v := v2) rfl) rfl rfl ?_
  refine WO.q (.as (v := .int _ _) rfl) rfl rfl ?_
  refine WO.nil ?_
  refine WX.seq ?_
  refine WX.seq ?_
  refine WX.reg ?_
  refine WO.q (.mv (v := .int _ _) rfl) rfl rfl ?_
  refine WO.q (.r fun _ => rfl) rfl rfl ?_
  refine WO.q (.mv (v := .bool _) rfl) rfl rfl ?_
  rcases bsp (decide (y1.2 = 0)) with k4 | k4
  have q_k4 := of_decide_eq_true k4
  replace h := (if_pos q_k4).symm.trans h
  refine WO.q (.mv (v := v2) rfl) (wg rfl rfl (gt k4)) rfl ?_
  obtain ⟨y5, hy5, h⟩ := Option.bind_eq_some_iff.1 h
  obtain ⟨b_y5, c_y5, e_y5, m_y5, r_y5, u_y5⟩ := hgetS (foc131 hH) h3 hy5
  subst e_y5
  obtain ⟨_, _, rfl, ⟨_, _, rfl, rfl, ⟨_, _, rfl, rfl, ⟨_, _, rfl, rfl, ⟨_, _, rfl, ⟨w6, rfl, hw6⟩, rfl⟩⟩⟩⟩, ⟨_, _, rfl, ⟨w7, rfl, hw7⟩, ⟨_, _, rfl, rfl, rfl⟩⟩⟩ := r_y5
  obtain ⟨_, _, _, _, _, rfl⟩ := hw6.isl
  refine WO.q (.r fun _ => rfl) (wg rfl rfl (gt k4)) rfl ?_
  refine WO.q (.fa (fa131_0 _ _)) (wg rfl rfl (gt k4)) rfl ?_
  refine WO.q (.fa (fa53_1 _ _)) (wg rfl rfl (gt k4)) rfl ?_
  refine WO.ql (.ldSm rfl (inE m_y5) rfl ti3 rfl) (wg rfl rfl (gt k4)) rfl ?_
  refine WO.q (.r fun _ => rfl) (wg rfl rfl (gt k4)) rfl ?_
  refine WO.q (.ptv (v := .bool _) rfl k4 rfl) rfl rfl ?_
  refine WO.nil ?_
  refine WX.keep [6, 7, 23] (WX.pk [] (by decide) ?_) rfl
  exact tree_Tree_open_j2_ok h hH0 _ _ _ ⟨hB, _, h3, rfl, rfl⟩
  have q_k4 := of_decide_eq_false k4
  replace h := (if_neg q_k4).symm.trans h
  refine WO.sd (wg rfl rfl (gtn k4)) rfl ?_
  refine WO.sd (wg rfl rfl (gtn k4)) rfl ?_
  refine WO.sd (wg rfl rfl (gtn k4)) rfl ?_
  refine WO.sd (wg rfl rfl (gtn k4)) rfl ?_
  refine WO.sd (wg rfl rfl (gtn k4)) rfl ?_
  refine WO.sd (wg rfl rfl (gtn k4)) rfl ?_
  refine WO.q (.pfv (v := .bool _) rfl k4 rfl) rfl rfl ?_
  refine WO.nil ?_
  refine WX.keep [6, 7, 23] (WX.pk [] (by decide) ?_) rfl
  exact tree_Tree_open_j2_ok h hH0 _ _ _ ⟨hB, _, h3, rfl, rfl⟩
def tree_Tree_Up_P (B : Kn) (L : Own) (r : Int × Int) : AV → St → Prop := CS B L fun v => v = .tup [.int .i64 r.1, .int .i64 r.2]
theorem tree_Tree_Up_ok {B0 : Kn} {L : Own} {H : Heap} {Eh : Own} (hH : HR B0 H Eh) {a0 : Nat} {a1 : Int} {v0_0 : AV} (g0_0 : HPt B0 126 v0_0 a0) {r : Int × Int} (h : tree_Tree_Up H a0 a1 = some r) : ∀ st, Hp B0 (Eh ++ L) st → ASpec Tryz.prog 20 [v0_0, .int .i64 a1] st (tree_Tree_Up_P B0 (Eh ++ L) r) := by
  unfold tree_Tree_Up at h
  refine bodyA (A := []) (L := Eh ++ L) Tryz.func20 rfl (c := bodyOf Tryz.f20) rfl Tryz.ntmps20 (lb rfl) fun n0 => ?_
  have hB := KLe.refl B0
  have hH0 := hH
  refine WX.seq ?_
  refine WX.reg ?_
  refine WO.q (.as (v := .int _ _) rfl) rfl rfl ?_
  refine WO.q (.as (v := .int _ _) rfl) rfl rfl ?_
  refine WO.nil ?_
  refine WX.seq ?_
  refine WX.reg ?_
  refine WO.q (.mv (v := v0_0) rfl) rfl rfl ?_
  refine WO.q (.mv (v := .int _ _) rfl) rfl rfl ?_
  obtain ⟨y1, hy1, h⟩ := Option.bind_eq_some_iff.1 h
  refine WO.c0 rfl rfl (rd0 (tree_Tree_open_ok hH g0_0 hy1)) rfl rfl rfl ?_
  rintro _ B hK ⟨v2, rfl, h3⟩
  replace g0_0 := g0_0.up hK
  replace hH := hH.up hK
  replace hB := hB.trans hK
  refine WO.q (.mv (v := .tup _) rfl) rfl rfl ?_
  refine WO.q (.r fun _ => rfl) rfl rfl ?_
  refine WO.q (.r fun _ => rfl) rfl rfl ?_
  refine WO.q (.as (v := v2) rfl) rfl rfl ?_
  refine WO.q (.as (v := .int _ _) rfl) rfl rfl ?_
  refine WO.nil ?_
  refine WX.seq ?_
  refine WX.seq ?_
  refine WX.reg ?_
  refine WO.q (.mv (v := .int _ _) rfl) rfl rfl ?_
  refine WO.q (.r fun _ => rfl) rfl rfl ?_
  refine WO.nil ?_
  rcases bsp (decide (y1.2 ≠ 0)) with k4 | k4
  have q_k4 := of_decide_eq_true k4
  replace h := (if_pos q_k4).symm.trans h
  refine WX.condT rfl k4 ?_
  refine WX.seq ?_
  refine WX.reg ?_
  refine WO.q (.mv (v := .int _ _) rfl) rfl rfl ?_
  refine WO.q (.as (v := .int _ _) rfl) rfl rfl ?_
  refine WO.q (.as (v := .int _ _) rfl) rfl rfl ?_
  refine WO.nil ?_
  obtain rfl := Option.some.inj h
  exact WX.ret (rs_ (rs_tmp rfl (rs_tmp rfl rs_nil))) fun st hp => ⟨(hp.pk [] (by decide)).le hB, rfl⟩
  have q_k4 := of_decide_eq_false k4
  replace h := (if_neg q_k4).symm.trans h
  refine WX.condF rfl k4 ?_
  refine WX.skip ?_
  refine WX.seq ?_
  refine WX.reg ?_
  refine WO.q (.mv (v := v2) rfl) rfl rfl ?_
  obtain ⟨y5, hy5, h⟩ := Option.bind_eq_some_iff.1 h
  obtain ⟨b_y5, c_y5, e_y5, m_y5, r_y5, u_y5⟩ := hgetS (foc131 hH) h3 hy5
  subst e_y5
  obtain ⟨_, _, rfl, ⟨_, _, rfl, rfl, ⟨_, _, rfl, rfl, ⟨_, _, rfl, rfl, ⟨_, _, rfl, ⟨w6, rfl, hw6⟩, rfl⟩⟩⟩⟩, ⟨_, _, rfl, ⟨w7, rfl, hw7⟩, ⟨_, _, rfl, rfl, rfl⟩⟩⟩ := r_y5
  obtain ⟨_, _, _, _, _, rfl⟩ := hw6.isl
  refine WO.q (.r fun _ => rfl) rfl rfl ?_
  refine WO.q (.fa (fa131_2 _ _)) rfl rfl ?_
  refine WO.ql (.ldSm rfl (inE m_y5) rfl ti3 rfl) rfl rfl ?_
  refine WO.q (.as (v := .int _ _) rfl) rfl rfl ?_
  refine WO.q (.as (v := .int _ _) rfl) rfl rfl ?_
  refine WO.nil ?_
  obtain rfl := Option.some.inj h
  exact WX.ret (rs_ (rs_tmp rfl (rs_tmp rfl rs_nil))) fun st hp => ⟨(hp.pk [] (by decide)).le hB, rfl⟩
def tree_walker_part_P (B : Kn) (L : Own) (r : Heap × Int × Int) : AV → St → Prop := CH B L fun B' X E' v => v = .tup [.int .i64 r.2.1, .int .i64 r.2.2] ∧ X = [] ∧ HR B' r.1 E'
theorem tree_walker_part_ok {B0 : Kn} {L : Own} {H : Heap} {E : Own} (hH : HR B0 H E) {a0 : Nat} {v0_0 : AV} (g0_0 : HPt B0 153 v0_0 a0) {r : Heap × Int × Int} (h : tree_walker_part H a0 = some r) : ∀ st, Hp B0 (E ++ L) st → ASpec Tryz.prog 123 [v0_0] st (tree_walker_part_P B0 L r) := by
  unfold tree_walker_part at h
  refine bodyA (A := []) (L := E ++ L) Tryz.func123 rfl (c := bodyOf Tryz.f123) rfl Tryz.ntmps123 (lb rfl) fun n0 => ?_
  have hB := KLw.refl B0
  refine WX.seq ?_
  refine WX.reg ?_
  refine WO.q (.as (v := .int _ _) rfl) rfl rfl ?_
  refine WO.q (.as (v := .int _ _) rfl) rfl rfl ?_
  refine WO.nil ?_
  refine WX.seq ?_
  refine WX.reg ?_
  refine WO.q (.mv (v := v0_0) rfl) rfl rfl ?_
  obtain ⟨y1, hy1, h⟩ := Option.bind_eq_some_iff.1 h
  obtain ⟨b_y1, c_y1, e_y1, m_y1, r_y1, u_y1⟩ := hgetS (foc153 hH) g0_0 hy1
  subst e_y1
  obtain ⟨_, _, rfl, ⟨w2, rfl, hw2⟩, ⟨_, _, rfl, rfl, ⟨_, _, rfl, ⟨w3, rfl, hw3⟩, ⟨_, _, rfl, rfl, rfl⟩⟩⟩⟩ := r_y1
  obtain ⟨_, _, _, _, _, rfl⟩ := hw3.isl
  refine WO.q (.r fun _ => rfl) rfl rfl ?_
  refine WO.q (.fa (fa153_2 _ _)) rfl rfl ?_
  refine WO.ql (.ldSm rfl (inE m_y1) rfl ti31 rfl) rfl rfl ?_
  obtain ⟨y4, hy4, h⟩ := Option.bind_eq_some_iff.1 h
  obtain ⟨b_y4, o_y4, _, i_y4, p_y4, r_y4⟩ := hw3.at sl31 hy4 .i64
  obtain rfl := r_y4
  refine WO.q (.ia i_y4) rfl rfl ?_
  refine WO.q (.lp0 rfl p_y4 rfl ti9 rfl) rfl rfl ?_
  refine WO.q (.as (v := .str _) rfl) rfl rfl ?_
  refine WO.nil ?_
  refine WX.seq ?_
  refine WX.reg ?_
  refine WO.q (.mv (v := .ptr b_y1 0) rfl) rfl rfl ?_
  refine WO.q (.mv (v := .ptr b_y1 0) rfl) rfl rfl ?_
  refine WO.q (.r fun _ => rfl) rfl rfl ?_
  refine WO.q (.fa (fa153_2 _ _)) rfl rfl ?_
  refine WO.ql (.ldSm rfl (inE m_y1) rfl ti31 rfl) rfl rfl ?_
  obtain ⟨y5, hy5, h⟩ := Option.bind_eq_some_iff.1 h
  obtain ⟨v_y5, e_y5, g_y5⟩ := hw3.cut sl31 hy5 (lo := some (.int .i64 1)) (hi := none) (bnd_int (cutL_some hy5).1.1) rfl
  obtain ⟨_, _, _, _, _, rfl⟩ := g_y5.isl
  refine WO.q (.sl e_y5) rfl rfl ?_
  refine WO.q (.r fun _ => rfl) rfl rfl ?_
  refine WO.q (.fa (fa153_2 _ _)) rfl rfl ?_
  obtain ⟨H6, e_H6, h⟩ := Option.bind_eq_some_iff.1 h
  obtain ⟨_, z_z7, k_z7⟩ := u_y1 _ (y1.1, y1.2.1, y5, y1.2.2.2.1, y1.2.2.2.2) (Rp (Rhp hw2) (Rp Ri (Rp (Rl g_y5) (Rp Rb Ri))))
  refine WO.en (MOpE.st rfl (cL rfl) z_z7 ti31 rfl rfl (lb rfl) rfl) rfl ?_
  rintro _ _ _ _ ⟨rfl, rfl, rfl⟩
  replace hH := HRe e_H6 k_z7
  refine WO.nil ?_
  refine WX.seq ?_
  refine WX.seq ?_
  refine WX.reg ?_
  refine WO.q (.mv (v := .str _) rfl) rfl rfl ?_
  refine WO.q (.r fun _ => rfl) rfl rfl ?_
  refine WO.nil ?_
  rcases bsp (decide (y4 = ([46, 46] : List UInt8))) with k8 | k8
  have q_k8 := of_decide_eq_true k8
  replace h := (if_pos q_k8).symm.trans h
  refine WX.condT rfl k8 ?_
  refine WX.seq ?_
  refine WX.drw (Plan.of [0, 1, 2, 3, 4, 5, 6, 7, 8, 9, 10, 11, 12] .nil) _ mixed (by kernel_rfl) rfl (subE (pk_sub [])) ?_
  refine WP.q (i := 0) rfl (.mv (v := .ptr b_y1 0) rfl) rfl rfl rfl ?_
  obtain ⟨y9, hy9, h⟩ := Option.bind_eq_some_iff.1 h
  obtain ⟨c_y9, m_y9, r_y9, u_y9⟩ := hgetP (foc153 hH) g0_0 hy9
  obtain ⟨_, _, rfl, ⟨w10, rfl, hw10⟩, ⟨_, _, rfl, rfl, ⟨_, _, rfl, ⟨w11, rfl, hw11⟩, ⟨_, _, rfl, rfl, rfl⟩⟩⟩⟩ := r_y9
  obtain ⟨_, _, _, _, _, rfl⟩ := hw11.isl
  refine WP.q (i := 1) rfl (.r fun _ => rfl) rfl rfl rfl ?_
  refine WP.q (i := 2) rfl (.fa (fa153_0 _ _)) rfl rfl rfl ?_
  refine WP.q (i := 3) rfl (.ldSm rfl (inM m_y9) rfl ti23 rfl) rfl rfl rfl ?_
  refine WP.q (i := 4) rfl (.mv (v := .ptr b_y1 0) rfl) rfl rfl rfl ?_
  refine WP.q (i := 5) rfl (.r fun _ => rfl) rfl rfl rfl ?_
  refine WP.q (i := 6) rfl (.fa (fa153_1 _ _)) rfl rfl rfl ?_
  refine WP.q (i := 7) rfl (.ldSm rfl (inM m_y9) rfl ti3 rfl) rfl rfl rfl ?_
  obtain ⟨y12, hy12, h⟩ := Option.bind_eq_some_iff.1 h
  refine WP.cS (i := 8) rfl rfl rfl (rdS (tree_Tree_Up_ok hH hw10 hy12)) rfl rfl rfl ?_
  rintro _ rfl
  refine WP.q (i := 9) rfl (.r fun _ => rfl) rfl rfl rfl ?_
  refine WP.q (i := 10) rfl (.r fun _ => rfl) rfl rfl rfl ?_
  refine WP.q (i := 11) rfl (.as (v := .int _ _) rfl) rfl rfl rfl ?_
  refine WP.q (i := 12) rfl (.as (v := .int _ _) rfl) rfl rfl rfl ?_
  refine WP.nil ?_
  obtain rfl := Option.some.inj h
  exact WX.ret (rs_ (rs_tmp rfl (rs_tmp rfl rs_nil))) fun st hp => ⟨_, _, _, hB, (hp.pk [] (by decide)), rfl, rfl, hH⟩
  have q_k8 := of_decide_eq_false k8
  replace h := (if_neg q_k8).symm.trans h
  refine WX.condF rfl k8 ?_
  refine WX.skip ?_
  refine WX.seq ?_
  refine WX.drw (Plan.of [0, 1, 2, 3, 4, 5, 6, 7, 8, 9, 10, 11, 12, 13] .nil) _ mixed (by kernel_rfl) rfl (subE (pk_sub [])) ?_
  refine WP.q (i := 0) rfl (.mv (v := .ptr b_y1 0) rfl) rfl rfl rfl ?_
  obtain ⟨y13, hy13, h⟩ := Option.bind_eq_some_iff.1 h
  obtain ⟨c_y13, m_y13, r_y13, u_y13⟩ := hgetP (foc153 hH) g0_0 hy13
  obtain ⟨_, _, rfl, ⟨w14, rfl, hw14⟩, ⟨_, _, rfl, rfl, ⟨_, _, rfl, ⟨w15, rfl, hw15⟩, ⟨_, _, rfl, rfl, rfl⟩⟩⟩⟩ := r_y13
  obtain ⟨_, _, _, _, _, rfl⟩ := hw15.isl
  refine WP.q (i := 1) rfl (.r fun _ => rfl) rfl rfl rfl ?_
  refine WP.q (i := 2) rfl (.fa (fa153_0 _ _)) rfl rfl rfl ?_
  refine WP.q (i := 3) rfl (.ldSm rfl (inM m_y13) rfl ti23 rfl) rfl rfl rfl ?_
  refine WP.q (i := 4) rfl (.mv (v := .ptr b_y1 0) rfl) rfl rfl rfl ?_
  refine WP.q (i := 5) rfl (.r fun _ => rfl) rfl rfl rfl ?_
  refine WP.q (i := 6) rfl (.fa (fa153_1 _ _)) rfl rfl rfl ?_
  refine WP.q (i := 7) rfl (.ldSm rfl (inM m_y13) rfl ti3 rfl) rfl rfl rfl ?_
  refine WP.q (i := 8) rfl (.mv (v := .str _) rfl) rfl rfl rfl ?_
  obtain ⟨y16, hy16, h⟩ := Option.bind_eq_some_iff.1 h
  refine WP.cS (i := 9) rfl rfl rfl (rdS (tree_Tree_Find_ok hH hw14 hy16)) rfl rfl rfl ?_
  rintro _ rfl
  refine WP.q (i := 10) rfl (.r fun _ => rfl) rfl rfl rfl ?_
  refine WP.q (i := 11) rfl (.r fun _ => rfl) rfl rfl rfl ?_
  refine WP.q (i := 12) rfl (.as (v := .int _ _) rfl) rfl rfl rfl ?_
  refine WP.q (i := 13) rfl (.as (v := .int _ _) rfl) rfl rfl rfl ?_
  refine WP.nil ?_
  obtain rfl := Option.some.inj h
  exact WX.ret (rs_ (rs_tmp rfl (rs_tmp rfl rs_nil))) fun st hp => ⟨_, _, _, hB, (hp.pk [] (by decide)), rfl, rfl, hH⟩
def tree_walker_link_P (B : Kn) (L : Own) (r : Heap × Int) : AV → St → Prop := CH B L fun B' X E' v => v = .int .i64 r.2 ∧ X = [] ∧ HR B' r.1 E'
def tree_walker_link_j9_I (B0 : Kn) (H : Heap) (x0 : Nat) (zb5 : Bool × (List (List UInt8)) × Bool) : Fr → Kn → Own → Own → Prop := fun fr B A E => KLw B0 B ∧ HR B H E ∧ ∃ b33 v34 b34 n34 c34 v35, OSl Ty.str B v34 b34 n34 c34 zb5.2.1 ∧ HPt B 153 v35 x0 ∧ fr = [(0, v35), (5, .ptr b33 0)] ∧ A = [(b33, some (.c [.bool zb5.1, v34, .bool zb5.2.2])), oe b34 n34 c34]
def tree_walker_link_j8_I (B0 : Kn) (H : Heap) (x0 : Nat) (zb5 : Bool × (List (List UInt8)) × Bool) : Fr → Kn → Own → Own → Prop := fun fr B A E => KLw B0 B ∧ HR B H E ∧ ∃ b24 v25 b25 n25 c25 v26, OSl Ty.str B v25 b25 n25 c25 zb5.2.1 ∧ HPt B 153 v26 x0 ∧ fr = [(0, v26), (5, .ptr b24 0)] ∧ A = [(b24, some (.c [.bool zb5.1, v25, .bool zb5.2.2])), oe b25 n25 c25]
theorem tree_walker_link_j9_ok {B0 : Kn} {L : Own} {n0 : Nat} {H : Heap} {x0 : Nat} {zb5 : Bool × (List (List UInt8)) × Bool} {r : Heap × Int} (h : tree_walker_link_j9 H x0 zb5 = some r) : WXH Tryz.prog 62 n0 (Fin Tryz.prog Tryz.f124.results.toList n0 (tree_walker_link_P B0 L r)) [.code (ct [1, 1, 1, 1, 1, 1] (bodyOf Tryz.f124))] (tree_walker_link_j9_I B0 H x0 zb5) L := by
  unfold tree_walker_link_j9 at h
  rintro _ B _ E ⟨hB, hH, b33, v34, b34, n34, c34, v35, h34, h35, rfl, rfl⟩
  obtain ⟨_, _, _, _, _, rfl⟩ := h34.isl
  refine WX.seq ?_
  refine WX.drw (Plan.of [0, 1, 2, 3, 4, 5, 6, 7, 8, 9, 10, 11] .nil) _ mixed (by kernel_rfl) rfl (subE (pk_sub [0])) ?_
  refine WP.q (i := 0) rfl (.mv (v := v35) rfl) rfl rfl rfl ?_
  refine WP.q (i := 1) rfl (.fa (fa33_1 _ _)) rfl rfl rfl ?_
  refine WP.q (i := 2) rfl (.ldS (i := 0) rfl rfl rfl ti31 rfl) rfl rfl rfl ?_
  refine WP.q (i := 3) rfl (.mv (v := v35) rfl) rfl rfl rfl ?_
  obtain ⟨y36, hy36, h⟩ := Option.bind_eq_some_iff.1 h
  obtain ⟨b_y36, c_y36, e_y36, m_y36, r_y36, u_y36⟩ := hgetS (foc153 hH) h35 hy36
  subst e_y36
  obtain ⟨_, _, rfl, ⟨w37, rfl, hw37⟩, ⟨_, _, rfl, rfl, ⟨_, _, rfl, ⟨w38, rfl, hw38⟩, ⟨_, _, rfl, rfl, rfl⟩⟩⟩⟩ := r_y36
  obtain ⟨_, _, _, _, _, rfl⟩ := hw38.isl
  refine WP.q (i := 4) rfl (.r fun _ => rfl) rfl rfl rfl ?_
  refine WP.q (i := 5) rfl (.fa (fa153_2 _ _)) rfl rfl rfl ?_
  refine WP.q (i := 6) rfl (.ldSm rfl (inM m_y36) rfl ti31 rfl) rfl rfl rfl ?_
  refine WP.fz (j := 1) h34 rfl (pkE (jx := [0]) rfl) ?_
  intro B hK g39
  replace h35 := h35.up hK
  replace hw38 := hw38.up hK
  replace hH := hH.up hK
  replace hB := hB.trans hK.w
  refine WP.md (i := 7) rfl (MOp.bs (l := ([zb5.2.1, y36.2.2.1] : List (List (List UInt8)))) sl260 (RL.cons (Rl g39) (RL.cons (Rl hw38) RL.nil)) (lb rfl) rfl rfl) rfl rfl rfl ?_
  rintro v42 _ ⟨b40, o41, rfl⟩
  obtain ⟨_, _, _, _, _, rfl⟩ := o41.isl
  refine ⟨pkE (jx := [1]) rfl, ?_⟩
  refine WP.fz (j := 0) o41 rfl (pkE (jx := [0]) rfl) ?_
  intro B hK g44
  replace h35 := h35.up hK
  replace g39 := g39.up hK
  replace hw38 := hw38.up hK
  replace hH := hH.up hK
  replace hB := hB.trans hK.w
  obtain ⟨y45, hy45, h⟩ := Option.bind_eq_some_iff.1 h
  refine WP.c1 (i := 8) rfl rfl rfl (slices_Concat_Lstring_string_ok g44 hy45) rfl rfl rfl ?_
  rintro _ B _ hK ⟨v46, b47, n48, c49, rfl, rfl, h50⟩
  obtain ⟨_, _, _, _, _, rfl⟩ := h50.isl
  replace h35 := h35.up hK
  replace g39 := g39.up hK
  replace hw38 := hw38.up hK
  replace g44 := g44.up hK
  replace hH := hH.up hK
  replace hB := hB.trans hK.w
  obtain ⟨y51, hy51, h⟩ := Option.bind_eq_some_iff.1 h
  obtain ⟨c_y51, m_y51, r_y51, u_y51⟩ := hgetP (foc153 hH) h35 hy51
  obtain ⟨_, _, rfl, ⟨w52, rfl, hw52⟩, ⟨_, _, rfl, rfl, ⟨_, _, rfl, ⟨w53, rfl, hw53⟩, ⟨_, _, rfl, rfl, rfl⟩⟩⟩⟩ := r_y51
  obtain ⟨_, _, _, _, _, rfl⟩ := hw53.isl
  refine WP.q (i := 9) rfl (.r fun _ => rfl) rfl rfl rfl ?_
  refine WP.q (i := 10) rfl (.fa (fa153_2 _ _)) rfl rfl rfl ?_
  refine WP.fz (j := 0) h50 rfl (pkE (jx := [0]) rfl) ?_
  intro B hK g54
  replace h35 := h35.up hK
  replace g39 := g39.up hK
  replace hw38 := hw38.up hK
  replace g44 := g44.up hK
  replace hH := hH.up hK
  replace hB := hB.trans hK.w
  obtain ⟨y55, hy55, h⟩ := Option.bind_eq_some_iff.1 h
  obtain ⟨c_y55, m_y55, r_y55, u_y55⟩ := hgetP (foc153 hH) h35 hy55
  obtain ⟨_, _, rfl, ⟨w56, rfl, hw56⟩, ⟨_, _, rfl, rfl, ⟨_, _, rfl, ⟨w57, rfl, hw57⟩, ⟨_, _, rfl, rfl, rfl⟩⟩⟩⟩ := r_y55
  obtain ⟨_, _, _, _, _, rfl⟩ := hw57.isl
  obtain ⟨H58, e_H58, h⟩ := Option.bind_eq_some_iff.1 h
  obtain ⟨_, z_z59, k_z59⟩ := u_y55 _ (y55.1, y55.2.1, y45, y55.2.2.2.1, y55.2.2.2.2) (Rp (Rhp hw56) (Rp Ri (Rp (Rl g54) (Rp Rb Ri))))
  refine WP.es (i := 11) rfl (MOpE.st rfl (cL rfl) z_z59 ti31 rfl rfl (lb rfl) rfl) rfl (by kernel_rfl) rfl rfl ?_
  rintro _ _ _ _ ⟨rfl, rfl, rfl⟩
  replace hH := HRe e_H58 k_z59
  refine WS.nil ?_
  refine WX.seq ?_
  refine WX.reg ?_
  refine WO.q (.as (v := .int _ _) rfl) rfl rfl ?_
  refine WO.nil ?_
  obtain rfl := Option.some.inj h
  exact WX.ret (rs_ (rs_tmp rfl rs_nil)) fun st hp => ⟨_, _, _, hB, (hp.pk [] (by decide)), rfl, rfl, hH⟩
theorem tree_walker_link_j8_ok {B0 : Kn} {L : Own} {n0 : Nat} {H : Heap} {x0 : Nat} {zb5 : Bool × (List (List UInt8)) × Bool} {r : Heap × Int} (h : tree_walker_link_j8 H x0 zb5 = some r) : WXH Tryz.prog 62 n0 (Fin Tryz.prog Tryz.f124.results.toList n0 (tree_walker_link_P B0 L r)) [.code (ct [1, 1, 1, 1, 1] (bodyOf Tryz.f124))] (tree_walker_link_j8_I B0 H x0 zb5) L := by
  unfold tree_walker_link_j8 at h
  rintro _ B _ E ⟨hB, hH, b24, v25, b25, n25, c25, v26, h25, h26, rfl, rfl⟩
  obtain ⟨_, _, _, _, _, rfl⟩ := h25.isl
  refine WX.seq ?_
  refine WX.reg ?_
  refine WO.q (.mv (v := v26) rfl) rfl rfl ?_
  refine WO.q (.mv (v := v26) rfl) rfl rfl ?_
  obtain ⟨y27, hy27, h⟩ := Option.bind_eq_some_iff.1 h
  obtain ⟨b_y27, c_y27, e_y27, m_y27, r_y27, u_y27⟩ := hgetS (foc153 hH) h26 hy27
  subst e_y27
  obtain ⟨_, _, rfl, ⟨w28, rfl, hw28⟩, ⟨_, _, rfl, rfl, ⟨_, _, rfl, ⟨w29, rfl, hw29⟩, ⟨_, _, rfl, rfl, rfl⟩⟩⟩⟩ := r_y27
  obtain ⟨_, _, _, _, _, rfl⟩ := hw29.isl
  refine WO.q (.r fun _ => rfl) rfl rfl ?_
  refine WO.q (.fa (fa153_3 _ _)) rfl rfl ?_
  refine WO.ql (.ldSm rfl (inE m_y27) rfl ti4 rfl) rfl rfl ?_
  refine WO.q (.mv (v := .bool _) rfl) rfl rfl ?_
  rcases bsp y27.2.2.2.1 with k30 | k30
  replace h := (if_pos k30).symm.trans h
  refine WO.sd (wg rfl rfl (gfn k30)) rfl ?_
  refine WO.sd (wg rfl rfl (gfn k30)) rfl ?_
  refine WO.sd (wg rfl rfl (gfn k30)) rfl ?_
  refine WO.sd (wgu rfl rfl) rfl ?_
  refine WO.sd (wgu rfl rfl) rfl ?_
  refine WO.sd (wgu rfl rfl) rfl ?_
  refine WO.sd (wgu rfl rfl) rfl ?_
  refine WO.sd (wgu rfl rfl) rfl ?_
  refine WO.sd (wgu rfl rfl) rfl ?_
  refine WO.sd (wg rfl rfl (gfn k30)) rfl ?_
  refine WO.q (.ptv (v := .bool _) rfl k30 rfl) rfl rfl ?_
  refine WO.q (.r fun _ => rfl) rfl rfl ?_
  refine WO.q (.fa (fa153_3 _ _)) rfl rfl ?_
  obtain ⟨H31, e_H31, h⟩ := Option.bind_eq_some_iff.1 h
  obtain ⟨_, z_z32, k_z32⟩ := u_y27 _ (y27.1, y27.2.1, y27.2.2.1, true, y27.2.2.2.2) (Rp (Rhp hw28) (Rp Ri (Rp (Rl hw29) (Rp Rb Ri))))
  refine WO.en (MOpE.st rfl (cB rfl) z_z32 ti4 rfl rfl (lb rfl) rfl) rfl ?_
  rintro _ _ _ _ ⟨rfl, rfl, rfl⟩
  replace hH := HRe e_H31 k_z32
  refine WO.nil ?_
  refine WX.keep [0, 5] (WX.pk [0, 1] (by decide) ?_) rfl
  exact tree_walker_link_j9_ok h _ _ _ _ ⟨hB, hH, _, _, _, n25, _, _, h25, h26, rfl, rfl⟩
  replace h := (if_neg (bnt k30)).symm.trans h
  refine WO.q (.fa (fa33_2 _ _)) (wg rfl rfl (gf k30)) rfl ?_
  refine WO.q (.ldS (i := 0) rfl rfl rfl ti4 rfl) (wg rfl rfl (gf k30)) rfl ?_
  refine WO.q (.mv (v := .bool _) rfl) (wg rfl rfl (gf k30)) rfl ?_
  rcases bsp zb5.2.2 with k60 | k60
  replace h := (if_pos k60).symm.trans h
  refine WO.q (.mv (v := .ptr b_y27 0) rfl) (wg rfl rfl (gt k60)) rfl ?_
  refine WO.q (.r fun _ => rfl) (wg rfl rfl (gt k60)) rfl ?_
  refine WO.q (.fa (fa153_2 _ _)) (wg rfl rfl (gt k60)) rfl ?_
  refine WO.ql (.ldSm rfl (inE m_y27) rfl ti31 rfl) (wg rfl rfl (gt k60)) rfl ?_
  refine WO.q (.len rfl rfl rfl (sl31.len hw29.isl)) (wg rfl rfl (gt k60)) rfl ?_
  refine WO.q (.r fun _ => rfl) (wg rfl rfl (gt k60)) rfl ?_
  refine WO.q (.ptv (v := .bool _) rfl k60 rfl) (wg rfl rfl (gf k30)) rfl ?_
  refine WO.q (.pfv (v := .bool _) rfl k30 rfl) rfl rfl ?_
  refine WO.q (.r fun _ => rfl) rfl rfl ?_
  refine WO.q (.fa (fa153_3 _ _)) rfl rfl ?_
  obtain ⟨H61, e_H61, h⟩ := Option.bind_eq_some_iff.1 h
  obtain ⟨_, z_z62, k_z62⟩ := u_y27 _ (y27.1, y27.2.1, y27.2.2.1, decide ((y27.2.2.1.length : Int) = 0), y27.2.2.2.2) (Rp (Rhp hw28) (Rp Ri (Rp (Rl hw29) (Rp Rb Ri))))
  refine WO.en (MOpE.st rfl (cB rfl) z_z62 ti4 rfl rfl (lb rfl) rfl) rfl ?_
  rintro _ _ _ _ ⟨rfl, rfl, rfl⟩
  replace hH := HRe e_H61 k_z62
  refine WO.nil ?_
  refine WX.keep [0, 5] (WX.pk [0, 1] (by decide) ?_) rfl
  exact tree_walker_link_j9_ok h _ _ _ _ ⟨hB, hH, _, _, _, n25, _, _, h25, h26, rfl, rfl⟩
  replace h := (if_neg (bnt k60)).symm.trans h
  refine WO.sd (wg rfl rfl (gtn k60)) rfl ?_
  refine WO.sd (wg rfl rfl (gtn k60)) rfl ?_
  refine WO.sd (wg rfl rfl (gtn k60)) rfl ?_
  refine WO.sd (wg rfl rfl (gtn k60)) rfl ?_
  refine WO.sd (wg rfl rfl (gtn k60)) rfl ?_
  refine WO.sd (wg rfl rfl (gtn k60)) rfl ?_
  refine WO.q (.pfv (v := .bool _) rfl k60 rfl) (wg rfl rfl (gf k30)) rfl ?_
  refine WO.q (.pfv (v := .bool _) rfl k30 rfl) rfl rfl ?_
  refine WO.q (.r fun _ => rfl) rfl rfl ?_
  refine WO.q (.fa (fa153_3 _ _)) rfl rfl ?_
  obtain ⟨H63, e_H63, h⟩ := Option.bind_eq_some_iff.1 h
  obtain ⟨_, z_z64, k_z64⟩ := u_y27 _ (y27.1, y27.2.1, y27.2.2.1, false, y27.2.2.2.2) (Rp (Rhp hw28) (Rp Ri (Rp (Rl hw29) (Rp Rb Ri))))
  refine WO.en (MOpE.st rfl (cB rfl) z_z64 ti4 rfl rfl (lb rfl) rfl) rfl ?_
  rintro _ _ _ _ ⟨rfl, rfl, rfl⟩
  replace hH := HRe e_H63 k_z64
  refine WO.nil ?_
  refine WX.keep [0, 5] (WX.pk [0, 1] (by decide) ?_) rfl
  exact tree_walker_link_j9_ok h _ _ _ _ ⟨hB, hH, _, _, _, n25, _, _, h25, h26, rfl, rfl⟩
theorem tree_walker_link_ok {B0 : Kn} {L : Own} {H : Heap} {E : Own} (hH : HR B0 H E) {a0 : Nat} {a1 : List UInt8} {v0_0 : AV} (g0_0 : HPt B0 153 v0_0 a0) {r : Heap × Int} (h : tree_walker_link H a0 a1 = some r) : ∀ st, Hp B0 (E ++ L) st → ASpec Tryz.prog 124 [v0_0, .str a1] st (tree_walker_link_P B0 L r) := by
  unfold tree_walker_link at h
  refine bodyA (A := []) (L := E ++ L) Tryz.func124 rfl (c := bodyOf Tryz.f124) rfl Tryz.ntmps124 (lb rfl) fun n0 => ?_
  have hB := KLw.refl B0
  refine WX.seq ?_
  refine WX.reg ?_
  refine WO.q (.as (v := .int _ _) rfl) rfl rfl ?_
  refine WO.nil ?_
  refine WX.seq ?_
  refine WX.seq ?_
  refine WX.reg ?_
  refine WO.q (.mv (v := v0_0) rfl) rfl rfl ?_
  obtain ⟨y1, hy1, h⟩ := Option.bind_eq_some_iff.1 h
  obtain ⟨b_y1, c_y1, e_y1, m_y1, r_y1, u_y1⟩ := hgetS (foc153 hH) g0_0 hy1
  subst e_y1
  obtain ⟨_, _, rfl, ⟨w2, rfl, hw2⟩, ⟨_, _, rfl, rfl, ⟨_, _, rfl, ⟨w3, rfl, hw3⟩, ⟨_, _, rfl, rfl, rfl⟩⟩⟩⟩ := r_y1
  obtain ⟨_, _, _, _, _, rfl⟩ := hw3.isl
  refine WO.q (.r fun _ => rfl) rfl rfl ?_
  refine WO.q (.fa (fa153_4 _ _)) rfl rfl ?_
  refine WO.ql (.ldSm rfl (inE m_y1) rfl ti3 rfl) rfl rfl ?_
  refine WO.q (.r fun _ => rfl) rfl rfl ?_
  refine WO.q (.r fun _ => rfl) rfl rfl ?_
  refine WO.q (.fa (fa153_4 _ _)) rfl rfl ?_
  obtain ⟨H4, e_H4, h⟩ := Option.bind_eq_some_iff.1 h
  obtain ⟨_, z_z5, k_z5⟩ := u_y1 _ (y1.1, y1.2.1, y1.2.2.1, y1.2.2.2.1, (wi64 (y1.2.2.2.2 + 1))) (Rp (Rhp hw2) (Rp Ri (Rp (Rl hw3) (Rp Rb Ri))))
  refine WO.en (MOpE.st rfl (cI rfl) z_z5 ti3 rfl rfl (lb rfl) rfl) rfl ?_
  rintro _ _ _ _ ⟨rfl, rfl, rfl⟩
  replace hH := HRe e_H4 k_z5
  refine WO.nil ?_
  refine WX.seq ?_
  refine WX.reg ?_
  refine WO.q (.mv (v := .ptr b_y1 0) rfl) rfl rfl ?_
  obtain ⟨y6, hy6, h⟩ := Option.bind_eq_some_iff.1 h
  obtain ⟨c_y6, m_y6, r_y6, u_y6⟩ := hgetP (foc153 hH) g0_0 hy6
  obtain ⟨_, _, rfl, ⟨w7, rfl, hw7⟩, ⟨_, _, rfl, rfl, ⟨_, _, rfl, ⟨w8, rfl, hw8⟩, ⟨_, _, rfl, rfl, rfl⟩⟩⟩⟩ := r_y6
  obtain ⟨_, _, _, _, _, rfl⟩ := hw8.isl
  refine WO.q (.r fun _ => rfl) rfl rfl ?_
  refine WO.q (.fa (fa153_4 _ _)) rfl rfl ?_
  refine WO.ql (.ldSm rfl (inE m_y6) rfl ti3 rfl) rfl rfl ?_
  refine WO.q (.r fun _ => rfl) rfl rfl ?_
  refine WO.nil ?_
  rcases bsp (decide (8 < y6.2.2.2.2)) with k9 | k9
  have q_k9 := of_decide_eq_true k9
  replace h := (if_pos q_k9).symm.trans h
  refine WX.condT rfl k9 ?_
  refine WX.seq ?_
  refine WX.reg ?_
  refine WO.q (.as (v := .int _ _) rfl) rfl rfl ?_
  refine WO.nil ?_
  obtain rfl := Option.some.inj h
  exact WX.ret (rs_ (rs_tmp rfl rs_nil)) fun st hp => ⟨_, _, _, hB, (hp.pk [] (by decide)), rfl, rfl, hH⟩
  have q_k9 := of_decide_eq_false k9
  replace h := (if_neg q_k9).symm.trans h
  refine WX.condF rfl k9 ?_
  refine WX.skip ?_
  refine WX.seq ?_
  refine WX.reg ?_
  refine WO.q (.mv (v := .str _) rfl) rfl rfl ?_
  obtain ⟨y10, hy10, h⟩ := Option.bind_eq_some_iff.1 h
  refine WO.c1 rfl rfl (path_Parse_ok hy10) rfl rfl rfl ?_
  rintro _ B _ hK ⟨v11, b12, n13, c14, rfl, rfl, h15⟩
  obtain ⟨_, _, _, _, _, rfl⟩ := h15.isl
  replace g0_0 := g0_0.up hK
  replace hH := hH.up hK
  replace hB := hB.trans hK.w
  refine WO.q (.mv (v := .tup _) rfl) rfl rfl ?_
  refine WO.q (.r fun _ => rfl) rfl rfl ?_
  refine WO.q (.r fun _ => rfl) rfl rfl ?_
  refine WO.md (MOp.alloc ti33 rfl) rfl rfl ?_
  rintro _ _ ⟨b16, rfl, rfl⟩
  refine WO.mn (MOp.storeW rfl (cA rfl) .h ti33 rfl rfl rfl) rfl ?_
  rintro _ _ rfl
  refine WO.q (.as (v := .int _ _) rfl) rfl rfl ?_
  refine WO.nil ?_
  refine WX.seq ?_
  refine WX.seq ?_
  refine WX.reg ?_
  refine WO.q (.mv (v := .int _ _) rfl) rfl rfl ?_
  refine WO.q (.r fun _ => rfl) rfl rfl ?_
  refine WO.nil ?_
  rcases bsp (decide (y10.2 ≠ 0)) with k17 | k17
  have q_k17 := of_decide_eq_true k17
  replace h := (if_pos q_k17).symm.trans h
  refine WX.condT rfl k17 ?_
  refine WX.seq ?_
  refine WX.reg ?_
  refine WO.q (.mv (v := .int _ _) rfl) rfl rfl ?_
  refine WO.q (.as (v := .int _ _) rfl) rfl rfl ?_
  refine WO.nil ?_
  obtain rfl := Option.some.inj h
  exact WX.ret (rs_ (rs_tmp rfl rs_nil)) fun st hp => ⟨_, _, _, hB, (hp.pk [] (by decide)), rfl, rfl, hH⟩
  have q_k17 := of_decide_eq_false k17
  replace h := (if_neg q_k17).symm.trans h
  refine WX.condF rfl k17 ?_
  refine WX.skip ?_
  refine WX.seq ?_
  refine WX.seq ?_
  refine WX.reg ?_
  refine WO.q (.fa (fa33_0 _ _)) rfl rfl ?_
  refine WO.q (.ldS (i := 0) rfl rfl rfl ti4 rfl) rfl rfl ?_
  refine WO.nil ?_
  rcases bsp y10.1.1 with k18 | k18
  replace h := (if_pos k18).symm.trans h
  refine WX.condT rfl k18 ?_
  refine WX.reg ?_
  refine WO.q (.mv (v := .ptr b_y1 0) rfl) rfl rfl ?_
  obtain ⟨y19, hy19, h⟩ := Option.bind_eq_some_iff.1 h
  obtain ⟨c_y19, m_y19, r_y19, u_y19⟩ := hgetP (foc153 hH) g0_0 hy19
  obtain ⟨_, _, rfl, ⟨w20, rfl, hw20⟩, ⟨_, _, rfl, rfl, ⟨_, _, rfl, ⟨w21, rfl, hw21⟩, ⟨_, _, rfl, rfl, rfl⟩⟩⟩⟩ := r_y19
  obtain ⟨_, _, _, _, _, rfl⟩ := hw21.isl
  refine WO.q (.r fun _ => rfl) rfl rfl ?_
  refine WO.q (.fa (fa153_1 _ _)) rfl rfl ?_
  obtain ⟨H22, e_H22, h⟩ := Option.bind_eq_some_iff.1 h
  obtain ⟨_, z_z23, k_z23⟩ := u_y19 _ ((y19.1, 1, y19.2.2.1, y19.2.2.2.1, y19.2.2.2.2) : Nat × Int × (List (List UInt8)) × Bool × Int) (Rp (Rhp hw20) (Rp Ri (Rp (Rl hw21) (Rp Rb Ri))))
  refine WO.en (MOpE.st rfl (cI rfl) z_z23 ti3 rfl rfl (lb rfl) rfl) rfl ?_
  rintro _ _ _ _ ⟨rfl, rfl, rfl⟩
  replace hH := HRe e_H22 k_z23
  refine WO.nil ?_
  refine WX.keep [0, 5] (WX.pk [0, 1] (by decide) ?_) rfl
  exact tree_walker_link_j8_ok h _ _ _ _ ⟨hB, hH, _, _, _, n13, _, _, h15, g0_0, rfl, rfl⟩
  replace h := (if_neg (bnt k18)).symm.trans h
  refine WX.condF rfl k18 ?_
  refine WX.skip ?_
  refine WX.keep [0, 5] (WX.pk [0, 1] (by decide) ?_) rfl
  exact tree_walker_link_j8_ok h _ _ _ _ ⟨hB, hH, _, _, _, n13, _, _, h15, g0_0, rfl, rfl⟩
def tree_walker_step_P (B : Kn) (L : Own) (r : Heap × Int) : AV → St → Prop := CH B L fun B' X E' v => v = .int .i64 r.2 ∧ X = [] ∧ HR B' r.1 E'
def tree_walker_step_j5_I (B0 : Kn) (H : Heap) (x0 : Nat) (x5 : Int) (x7 : Nat) (x47 : Bool) : Fr → Kn → Own → Own → Prop := fun fr B A E => KLw B0 B ∧ HR B H E ∧ ∃ v19 v20, HPt B 153 v19 x0 ∧ HPt B 131 v20 x7 ∧ fr = [(0, v19), (5, .int .i64 x5), (7, v20), (47, .bool x47)] ∧ A = []
theorem tree_walker_step_j5_ok {B0 : Kn} {L : Own} {n0 : Nat} {H : Heap} {x0 : Nat} {x5 : Int} {x7 : Nat} {x47 : Bool} {r : Heap × Int} (h : tree_walker_step_j5 H x0 x5 x7 x47 = some r) : WXH Tryz.prog 59 n0 (Fin Tryz.prog Tryz.f62.results.toList n0 (tree_walker_step_P B0 L r)) [.code (ct [1, 1, 1, 0, 1, 1] (bodyOf Tryz.f62)), .code (ct [1, 1, 1, 1] (bodyOf Tryz.f62))] (tree_walker_step_j5_I B0 H x0 x5 x7 x47) L := by
  unfold tree_walker_step_j5 at h
  rintro _ B _ E ⟨hB, hH, v19, v20, h19, h20, rfl, rfl⟩
  rcases bsp x47 with k21 | k21
  replace h := (if_pos k21).symm.trans h
  refine WX.condT rfl k21 ?_
  refine WX.seq ?_
  refine WX.reg ?_
  refine WO.q (.mv (v := v19) rfl) rfl rfl ?_
  refine WO.q (.mv (v := v20) rfl) rfl rfl ?_
  obtain ⟨y22, hy22, h⟩ := Option.bind_eq_some_iff.1 h
  obtain ⟨b_y22, c_y22, e_y22, m_y22, r_y22, u_y22⟩ := hgetS (foc131 hH) h20 hy22
  subst e_y22
  obtain ⟨_, _, rfl, ⟨_, _, rfl, rfl, ⟨_, _, rfl, rfl, ⟨_, _, rfl, rfl, ⟨_, _, rfl, ⟨w23, rfl, hw23⟩, rfl⟩⟩⟩⟩, ⟨_, _, rfl, ⟨w24, rfl, hw24⟩, ⟨_, _, rfl, rfl, rfl⟩⟩⟩ := r_y22
  obtain ⟨_, _, _, _, _, rfl⟩ := hw23.isl
  refine WO.q (.r fun _ => rfl) rfl rfl ?_
  refine WO.q (.fa (fa131_0 _ _)) rfl rfl ?_
  refine WO.q (.fa (fa53_4 _ _)) rfl rfl ?_
  refine WO.ql (.ldSm rfl (inE m_y22) rfl ti9 rfl) rfl rfl ?_
  obtain ⟨y25, hy25, h⟩ := Option.bind_eq_some_iff.1 h
  refine WO.ch rfl rfl (tree_walker_link_ok hH h19 hy25) rfl rfl rfl ?_
  rintro _ B _ E hK ⟨rfl, rfl, hH⟩
  replace h19 := h19.upw hK
  replace h20 := h20.upw hK
  replace hB := hB.trans hK
  refine WO.q (.as (v := .int _ _) rfl) rfl rfl ?_
  refine WO.nil ?_
  obtain rfl := Option.some.inj h
  exact WX.ret (rs_ (rs_tmp rfl rs_nil)) fun st hp => ⟨_, _, _, hB, (hp.pk [] (by decide)), rfl, rfl, hH⟩
  replace h := (if_neg (bnt k21)).symm.trans h
  refine WX.condF rfl k21 ?_
  refine WX.skip ?_
  refine WX.seq ?_
  refine WX.reg ?_
  refine WO.q (.mv (v := v19) rfl) rfl rfl ?_
  refine WO.q (.mv (v := .int _ _) rfl) rfl rfl ?_
  obtain ⟨y26, hy26, h⟩ := Option.bind_eq_some_iff.1 h
  obtain ⟨b_y26, c_y26, e_y26, m_y26, r_y26, u_y26⟩ := hgetS (foc153 hH) h19 hy26
  subst e_y26
  obtain ⟨_, _, rfl, ⟨w27, rfl, hw27⟩, ⟨_, _, rfl, rfl, ⟨_, _, rfl, ⟨w28, rfl, hw28⟩, ⟨_, _, rfl, rfl, rfl⟩⟩⟩⟩ := r_y26
  obtain ⟨_, _, _, _, _, rfl⟩ := hw28.isl
  refine WO.q (.r fun _ => rfl) rfl rfl ?_
  refine WO.q (.fa (fa153_1 _ _)) rfl rfl ?_
  obtain ⟨H29, e_H29, h⟩ := Option.bind_eq_some_iff.1 h
  obtain ⟨_, z_z30, k_z30⟩ := u_y26 _ (y26.1, x5, y26.2.2.1, y26.2.2.2.1, y26.2.2.2.2) (Rp (Rhp hw27) (Rp Ri (Rp (Rl hw28) (Rp Rb Ri))))
  refine WO.en (MOpE.st rfl (cI rfl) z_z30 ti3 rfl rfl (lb rfl) rfl) rfl ?_
  rintro _ _ _ _ ⟨rfl, rfl, rfl⟩
  replace hH := HRe e_H29 k_z30
  refine WO.nil ?_
  refine WX.seq ?_
  refine WX.reg ?_
  refine WO.q (.as (v := .int _ _) rfl) rfl rfl ?_
  refine WO.nil ?_
  obtain rfl := Option.some.inj h
  exact WX.ret (rs_ (rs_tmp rfl rs_nil)) fun st hp => ⟨_, _, _, hB, (hp.pk [] (by decide)), rfl, rfl, hH⟩
theorem tree_walker_step_ok {B0 : Kn} {L : Own} {H : Heap} {E : Own} (hH : HR B0 H E) {a0 : Nat} {a1 : Bool} {v0_0 : AV} (g0_0 : HPt B0 153 v0_0 a0) {r : Heap × Int} (h : tree_walker_step H a0 a1 = some r) : ∀ st, Hp B0 (E ++ L) st → ASpec Tryz.prog 62 [v0_0, .bool a1] st (tree_walker_step_P B0 L r) := by
  unfold tree_walker_step at h
  refine bodyA (A := []) (L := E ++ L) Tryz.func62 rfl (c := bodyOf Tryz.f62) rfl Tryz.ntmps62 (lb rfl) fun n0 => ?_
  have hB := KLw.refl B0
  refine WX.seq ?_
  refine WX.reg ?_
  refine WO.q (.as (v := .int _ _) rfl) rfl rfl ?_
  refine WO.nil ?_
  refine WX.seq ?_
  refine WX.reg ?_
  refine WO.q (.mv (v := v0_0) rfl) rfl rfl ?_
  obtain ⟨y1, hy1, h⟩ := Option.bind_eq_some_iff.1 h
  refine WO.ch rfl rfl (tree_walker_part_ok hH g0_0 hy1) rfl rfl rfl ?_
  rintro _ B _ E hK ⟨rfl, rfl, hH⟩
  replace g0_0 := g0_0.upw hK
  replace hB := hB.trans hK
  refine WO.q (.mv (v := .tup _) rfl) rfl rfl ?_
  refine WO.q (.r fun _ => rfl) rfl rfl ?_
  refine WO.q (.r fun _ => rfl) rfl rfl ?_
  refine WO.q (.as (v := .int _ _) rfl) rfl rfl ?_
  refine WO.q (.as (v := .int _ _) rfl) rfl rfl ?_
  refine WO.nil ?_
  refine WX.seq ?_
  refine WX.seq ?_
  refine WX.reg ?_
  refine WO.q (.mv (v := .int _ _) rfl) rfl rfl ?_
  refine WO.q (.r fun _ => rfl) rfl rfl ?_
  refine WO.nil ?_
  rcases bsp (decide (y1.2.2 ≠ 0)) with k2 | k2
  have q_k2 := of_decide_eq_true k2
  replace h := (if_pos q_k2).symm.trans h
  refine WX.condT rfl k2 ?_
  refine WX.seq ?_
  refine WX.reg ?_
  refine WO.q (.mv (v := .int _ _) rfl) rfl rfl ?_
  refine WO.q (.as (v := .int _ _) rfl) rfl rfl ?_
  refine WO.nil ?_
  obtain rfl := Option.some.inj h
  exact WX.ret (rs_ (rs_tmp rfl rs_nil)) fun st hp => ⟨_, _, _, hB, (hp.pk [] (by decide)), rfl, rfl, hH⟩
  have q_k2 := of_decide_eq_false k2
  replace h := (if_neg q_k2).symm.trans h
  refine WX.condF rfl k2 ?_
  refine WX.skip ?_
  refine WX.seq ?_
  refine WX.seq ?_
  refine WX.reg ?_
  refine WO.q (.mv (v := v0_0) rfl) rfl rfl ?_
  obtain ⟨y3, hy3, h⟩ := Option.bind_eq_some_iff.1 h
  obtain ⟨b_y3, c_y3, e_y3, m_y3, r_y3, u_y3⟩ := hgetS (foc153 hH) g0_0 hy3
  subst e_y3
  obtain ⟨_, _, rfl, ⟨w4, rfl, hw4⟩, ⟨_, _, rfl, rfl, ⟨_, _, rfl, ⟨w5, rfl, hw5⟩, ⟨_, _, rfl, rfl, rfl⟩⟩⟩⟩ := r_y3
  obtain ⟨_, _, _, _, _, rfl⟩ := hw5.isl
  refine WO.q (.r fun _ => rfl) rfl rfl ?_
  refine WO.q (.fa (fa153_0 _ _)) rfl rfl ?_
  refine WO.ql (.ldSm rfl (inE m_y3) rfl ti23 rfl) rfl rfl ?_
  obtain ⟨y6, hy6, h⟩ := Option.bind_eq_some_iff.1 h
  obtain ⟨b_y6, c_y6, e_y6, m_y6, r_y6, u_y6⟩ := hgetS (foc126 hH) hw4 hy6
  subst e_y6
  obtain ⟨_, _, rfl, ⟨w7, rfl, hw7⟩, ⟨_, _, rfl, ⟨w8, rfl, hw8⟩, ⟨w9, rfl, hw9⟩⟩⟩ := r_y6
  refine WO.q (.r fun _ => rfl) rfl rfl ?_
  refine WO.q (.fa (fa126_0 _ _)) rfl rfl ?_
  refine WO.ql (.ldSm rfl (inE m_y6) rfl ti122 rfl) rfl rfl ?_
  refine WO.q (.mv (v := .int _ _) rfl) rfl rfl ?_
  obtain ⟨y10, hy10, h⟩ := Option.bind_eq_some_iff.1 h
  refine WO.md (MOp.lookup mt122 (foc122 hH) hw7 hy10 kI rfl rfl) rfl rfl ?_
  rintro c11 _ ⟨rfl, _, r12, rfl⟩
  have hw13 := r12
  refine WO.q (.as (v := c11) rfl) rfl rfl ?_
  refine WO.nil ?_
  refine WX.seq ?_
  refine WX.reg ?_
  refine WO.q (.mv (v := c11) rfl) rfl rfl ?_
  obtain ⟨y14, hy14, h⟩ := Option.bind_eq_some_iff.1 h
  obtain ⟨b_y14, c_y14, e_y14, m_y14, r_y14, u_y14⟩ := hgetS (foc131 hH) hw13 hy14
  subst e_y14
  obtain ⟨_, _, rfl, ⟨_, _, rfl, rfl, ⟨_, _, rfl, rfl, ⟨_, _, rfl, rfl, ⟨_, _, rfl, ⟨w15, rfl, hw15⟩, rfl⟩⟩⟩⟩, ⟨_, _, rfl, ⟨w16, rfl, hw16⟩, ⟨_, _, rfl, rfl, rfl⟩⟩⟩ := r_y14
  obtain ⟨_, _, _, _, _, rfl⟩ := hw15.isl
  refine WO.q (.r fun _ => rfl) rfl rfl ?_
  refine WO.q (.fa (fa131_0 _ _)) rfl rfl ?_
  refine WO.q (.fa (fa53_0 _ _)) rfl rfl ?_
  refine WO.ql (.ldSm rfl (inE m_y14) rfl ti49 rfl) rfl rfl ?_
  refine WO.q (.r fun _ => rfl) rfl rfl ?_
  refine WO.q (.mv (v := .bool _) rfl) rfl rfl ?_
  rcases bsp (decide (y14.1.1 = 3)) with k17 | k17
  have q_k17 := of_decide_eq_true k17
  replace h := (if_pos q_k17).symm.trans h
  refine WO.q (.mv (v := .ptr b_y3 0) rfl) (wg rfl rfl (gt k17)) rfl ?_
  refine WO.q (.r fun _ => rfl) (wg rfl rfl (gt k17)) rfl ?_
  refine WO.q (.fa (fa153_2 _ _)) (wg rfl rfl (gt k17)) rfl ?_
  refine WO.ql (.ldSm rfl (inE m_y3) rfl ti31 rfl) (wg rfl rfl (gt k17)) rfl ?_
  refine WO.q (.len rfl rfl rfl (sl31.len hw5.isl)) (wg rfl rfl (gt k17)) rfl ?_
  refine WO.q (.r fun _ => rfl) (wg rfl rfl (gt k17)) rfl ?_
  refine WO.q (.mv (v := .bool _) rfl) (wg rfl rfl (gt k17)) rfl ?_
  rcases bsp (decide (0 < (y3.2.2.1.length : Int))) with k18 | k18
  have q_k18 := of_decide_eq_true k18
  replace h := (if_pos q_k18).symm.trans h
  refine WO.sd (wg rfl rfl (gfn k18)) rfl ?_
  refine WO.q (.ptv (v := .bool _) rfl k18 rfl) (wg rfl rfl (gt k17)) rfl ?_
  refine WO.q (.mv (v := .bool _) rfl) (wg rfl rfl (gt k17)) rfl ?_
  refine WO.sd (wg rfl rfl (gfn rfl)) rfl ?_
  refine WO.sd (wg rfl rfl (gfn rfl)) rfl ?_
  refine WO.sd (wg rfl rfl (gfn rfl)) rfl ?_
  refine WO.sd (wg rfl rfl (gfn rfl)) rfl ?_
  refine WO.q (.ptv (v := .bool _) rfl rfl rfl) (wg rfl rfl (gt k17)) rfl ?_
  refine WO.q (.ptv (v := .bool _) rfl k17 rfl) rfl rfl ?_
  refine WO.nil ?_
  refine WX.keep [0, 5, 7, 47] (WX.pk [] (by decide) ?_) rfl
  exact tree_walker_step_j5_ok h _ _ _ _ ⟨hB, hH, _, _, g0_0, hw13, rfl, rfl⟩
  have q_k18 := of_decide_eq_false k18
  replace h := (if_neg q_k18).symm.trans h
  refine WO.q (.mv (v := .bool _) rfl) (wg rfl rfl (gf k18)) rfl ?_
  refine WO.q (.pfv (v := .bool _) rfl k18 rfl) (wg rfl rfl (gt k17)) rfl ?_
  refine WO.q (.mv (v := .bool _) rfl) (wg rfl rfl (gt k17)) rfl ?_
  rcases bsp a1 with k31 | k31
  replace h := (if_pos k31).symm.trans h
  refine WO.sd (wg rfl rfl (gfn k31)) rfl ?_
  refine WO.sd (wg rfl rfl (gfn k31)) rfl ?_
  refine WO.sd (wg rfl rfl (gfn k31)) rfl ?_
  refine WO.sd (wg rfl rfl (gfn k31)) rfl ?_
  refine WO.q (.ptv (v := .bool _) rfl k31 rfl) (wg rfl rfl (gt k17)) rfl ?_
  refine WO.q (.ptv (v := .bool _) rfl k17 rfl) rfl rfl ?_
  refine WO.nil ?_
  refine WX.keep [0, 5, 7, 47] (WX.pk [] (by decide) ?_) rfl
  exact tree_walker_step_j5_ok h _ _ _ _ ⟨hB, hH, _, _, g0_0, hw13, rfl, rfl⟩
  replace h := (if_neg (bnt k31)).symm.trans h
  refine WO.q (.mv (v := .ptr b_y3 0) rfl) (wg rfl rfl (gf k31)) rfl ?_
  refine WO.q (.r fun _ => rfl) (wg rfl rfl (gf k31)) rfl ?_
  refine WO.q (.fa (fa153_3 _ _)) (wg rfl rfl (gf k31)) rfl ?_
  refine WO.ql (.ldSm rfl (inE m_y3) rfl ti4 rfl) (wg rfl rfl (gf k31)) rfl ?_
  refine WO.q (.pfv (v := .bool _) rfl k31 rfl) (wg rfl rfl (gt k17)) rfl ?_
  refine WO.q (.ptv (v := .bool _) rfl k17 rfl) rfl rfl ?_
  refine WO.nil ?_
  refine WX.keep [0, 5, 7, 47] (WX.pk [] (by decide) ?_) rfl
  exact tree_walker_step_j5_ok h _ _ _ _ ⟨hB, hH, _, _, g0_0, hw13, rfl, rfl⟩
  have q_k17 := of_decide_eq_false k17
  replace h := (if_neg q_k17).symm.trans h
  refine WO.sd (wg rfl rfl (gtn k17)) rfl ?_
  refine WO.sd (wg rfl rfl (gtn k17)) rfl ?_
  refine WO.sd (wg rfl rfl (gtn k17)) rfl ?_
  refine WO.sd (wg rfl rfl (gtn k17)) rfl ?_
  refine WO.sd (wg rfl rfl (gtn k17)) rfl ?_
  refine WO.sd (wg rfl rfl (gtn k17)) rfl ?_
  refine WO.sd (wg rfl rfl (gtn k17)) rfl ?_
  refine WO.sd (wgu rfl rfl) rfl ?_
  refine WO.sd (wg rfl rfl (gtn k17)) rfl ?_
  refine WO.sd (wg rfl rfl (gtn k17)) rfl ?_
  refine WO.sd (wgu rfl rfl) rfl ?_
  refine WO.sd (wgu rfl rfl) rfl ?_
  refine WO.sd (wgu rfl rfl) rfl ?_
  refine WO.sd (wgu rfl rfl) rfl ?_
  refine WO.sd (wg rfl rfl (gtn k17)) rfl ?_
  refine WO.q (.pfv (v := .bool _) rfl k17 rfl) rfl rfl ?_
  refine WO.nil ?_
  refine WX.keep [0, 5, 7, 47] (WX.pk [] (by decide) ?_) rfl
  exact tree_walker_step_j5_ok h _ _ _ _ ⟨hB, hH, _, _, g0_0, hw13, rfl, rfl⟩
def tree_Tree_Walk_P (B : Kn) (L : Own) (r : Heap × Int × Int) : AV → St → Prop := CH B L fun B' X E' v => v = .tup [.int .i64 r.2.1, .int .i64 r.2.2] ∧ X = [] ∧ HR B' r.1 E'
def tree_Tree_Walk_l0_I (B0 : Kn) (x0 : Nat) (x3 : Bool) (x12 : Nat) (H : Heap) : Fr → Kn → Own → Own → Prop := fun fr B A E => KLw B0 B ∧ HR B H E ∧ ∃ v14 v15, HPt B 126 v14 x0 ∧ HPt B 153 v15 x12 ∧ fr = [(0, v14), (3, .bool x3), (12, v15)] ∧ A = []
def tree_Tree_Walk_l0_X0 (B0 : Kn) (H : Heap) (x0 : Nat) (x12 : Nat) : Fr → Kn → Own → Own → Prop := fun fr B A E => KLw B0 B ∧ HR B H E ∧ ∃ v42 v43, HPt B 126 v42 x0 ∧ HPt B 153 v43 x12 ∧ fr = [(0, v42), (12, v43)] ∧ A = []
def tree_Tree_Walk_j15_I (B0 : Kn) (H : Heap) (x12 : Nat) : Fr → Kn → Own → Own → Prop := fun fr B A E => KLw B0 B ∧ HR B H E ∧ ∃ v38, HPt B 153 v38 x12 ∧ fr = [(12, v38)] ∧ A = []
def tree_Tree_Walk_j6_I (B0 : Kn) (H : Heap) (x0 : Nat) (x3 : Bool) (zb32 : Nat × Int × (List (List UInt8)) × Bool × Int) : Fr → Kn → Own → Own → Prop := fun fr B A E => KLw B0 B ∧ HR B H E ∧ ∃ b8 v9 v10 v11, HPt B 126 v9 zb32.1 ∧ RSl Ty.str B v10 zb32.2.2.1 ∧ HPt B 126 v11 x0 ∧ fr = [(0, v11), (3, .bool x3), (12, .ptr b8 0)] ∧ A = [(b8, some (.c [v9, .int .i64 zb32.2.1, v10, .bool zb32.2.2.2.1, .int .i64 zb32.2.2.2.2]))]
theorem tree_Tree_Walk_l0_s {B0 : Kn} {L : Own} {n0 : Nat} {x0 : Nat} {x3 : Bool} {x12 : Nat} {H : Heap} {Q : AV → St → Prop} {E : Heap ⊕ ((Heap × Int × Int) ⊕ Heap) → Prop} {o : Heap ⊕ ((Heap × Int × Int) ⊕ Heap)} (h : tree_Tree_Walk_l0 x0 x3 x12 H = some o) (hn : ∀ s, E (.inl s) → WXH Tryz.prog 70 n0 (Fin Tryz.prog Tryz.f15.results.toList n0 Q) [.lp (ct [1, 1, 1, 1, 0, 0, 0] (bodyOf Tryz.f15)), .blk 0, .code (ct [1, 1, 1, 1, 1] (bodyOf Tryz.f15))] (tree_Tree_Walk_l0_I B0 x0 x3 x12 s) L) (hx0 : ∀ s, E (.inr (.inr s)) → WXH Tryz.prog 70 n0 (Fin Tryz.prog Tryz.f15.results.toList n0 Q) [.code (ct [1, 1, 1, 1, 1] (bodyOf Tryz.f15))] (tree_Tree_Walk_l0_X0 B0 s x0 x12) L) (hr : ∀ r, E (.inr (.inl r)) → ∀ v st, tree_Tree_Walk_P B0 L r v st → Q v st) (hE : E o) : WXH Tryz.prog 70 n0 (Fin Tryz.prog Tryz.f15.results.toList n0 Q) [.code (ct [1, 1, 1, 1, 0, 0, 0] (bodyOf Tryz.f15)), .lp (ct [1, 1, 1, 1, 0, 0, 0] (bodyOf Tryz.f15)), .blk 0, .code (ct [1, 1, 1, 1, 1] (bodyOf Tryz.f15))] (tree_Tree_Walk_l0_I B0 x0 x3 x12 H) L := by
  unfold tree_Tree_Walk_l0 at h
  rintro _ B _ E ⟨hB, hH, v14, v15, h14, h15, rfl, rfl⟩
  refine WX.seq ?_
  refine WX.seq ?_
  refine WX.reg ?_
  refine WO.q (.mv (v := v15) rfl) rfl rfl ?_
  obtain ⟨y16, hy16, h⟩ := Option.bind_eq_some_iff.1 h
  obtain ⟨b_y16, c_y16, e_y16, m_y16, r_y16, u_y16⟩ := hgetS (foc153 hH) h15 hy16
  subst e_y16
  obtain ⟨_, _, rfl, ⟨w17, rfl, hw17⟩, ⟨_, _, rfl, rfl, ⟨_, _, rfl, ⟨w18, rfl, hw18⟩, ⟨_, _, rfl, rfl, rfl⟩⟩⟩⟩ := r_y16
  obtain ⟨_, _, _, _, _, rfl⟩ := hw18.isl
  refine WO.q (.r fun _ => rfl) rfl rfl ?_
  refine WO.q (.fa (fa153_2 _ _)) rfl rfl ?_
  refine WO.ql (.ldSm rfl (inE m_y16) rfl ti31 rfl) rfl rfl ?_
  refine WO.q (.len rfl rfl rfl (sl31.len hw18.isl)) rfl rfl ?_
  refine WO.q (.r fun _ => rfl) rfl rfl ?_
  refine WO.nil ?_
  rcases bsp (decide (0 < (y16.2.2.1.length : Int))) with k19 | k19
  have q_k19 := of_decide_eq_true k19
  replace h := (if_pos q_k19).symm.trans h
  refine WX.condT rfl k19 ?_
  refine WX.skip ?_
  refine WX.block ?_
  refine WX.seq ?_
  refine WX.reg ?_
  refine WO.q (.mv (v := .ptr b_y16 0) rfl) rfl rfl ?_
  refine WO.q (.mv (v := .bool _) rfl) rfl rfl ?_
  obtain ⟨y20, hy20, h⟩ := Option.bind_eq_some_iff.1 h
  refine WO.ch rfl rfl (tree_walker_step_ok hH h15 hy20) rfl rfl rfl ?_
  rintro _ B _ E hK ⟨rfl, rfl, hH⟩
  replace h14 := h14.upw hK
  replace h15 := h15.upw hK
  replace hB := hB.trans hK
  refine WO.q (.as (v := .int _ _) rfl) rfl rfl ?_
  refine WO.nil ?_
  refine WX.seq ?_
  refine WX.reg ?_
  refine WO.q (.mv (v := .int _ _) rfl) rfl rfl ?_
  refine WO.q (.r fun _ => rfl) rfl rfl ?_
  refine WO.nil ?_
  rcases bsp (decide (y20.2 ≠ 0)) with k21 | k21
  have q_k21 := of_decide_eq_true k21
  replace h := (if_pos q_k21).symm.trans h
  refine WX.condT rfl k21 ?_
  refine WX.seq ?_
  refine WX.reg ?_
  refine WO.q (.mv (v := .int _ _) rfl) rfl rfl ?_
  refine WO.q (.as (v := .int _ _) rfl) rfl rfl ?_
  refine WO.q (.as (v := .int _ _) rfl) rfl rfl ?_
  refine WO.nil ?_
  obtain rfl := Option.some.inj h
  exact WX.ret (rs_ (rs_tmp rfl (rs_tmp rfl rs_nil))) fun st hp => hr _ hE _ _ ⟨_, _, _, hB, (hp.pk [] (by decide)), rfl, rfl, hH⟩
  have q_k21 := of_decide_eq_false k21
  replace h := (if_neg q_k21).symm.trans h
  refine WX.condF rfl k21 ?_
  refine WX.skip ?_
  refine WX.pop ?_
  refine WX.keepL [0, 3, 12] (WX.pk [] (by decide) ?_) rfl
  obtain rfl := Option.some.inj h
  exact hn _ hE _ _ _ _ ⟨hB, hH, _, _, h14, h15, rfl, rfl⟩
  have q_k19 := of_decide_eq_false k19
  replace h := (if_neg q_k19).symm.trans h
  refine WX.condF rfl k19 ?_
  refine WX.exit rfl ?_
  refine WX.keep [0, 12] (WX.pk [] (by decide) ?_) rfl
  obtain rfl := Option.some.inj h
  exact hx0 _ hE _ _ _ _ ⟨hB, hH, _, _, h14, h15, rfl, rfl⟩
theorem tree_Tree_Walk_l0_ok {B0 : Kn} {L : Own} {n0 : Nat} {x0 : Nat} {x3 : Bool} {x12 : Nat} {H : Heap} {Q : AV → St → Prop} {d : Nat} {e : (Heap × Int × Int) ⊕ Heap} (h : iter (fun (s : Heap) => tree_Tree_Walk_l0 x0 x3 x12 s) d H = some e) (g0 : ∀ r, e = (.inl r) → ∀ v st, tree_Tree_Walk_P B0 L r v st → Q v st) (g1 : ∀ s, e = (.inr s) → WXH Tryz.prog 70 n0 (Fin Tryz.prog Tryz.f15.results.toList n0 Q) [.code (ct [1, 1, 1, 1, 1] (bodyOf Tryz.f15))] (tree_Tree_Walk_l0_X0 B0 s x0 x12) L) : WXH Tryz.prog 70 n0 (Fin Tryz.prog Tryz.f15.results.toList n0 Q) [.code (ct [1, 1, 1, 1, 0, 0, 0] (bodyOf Tryz.f15)), .lp (ct [1, 1, 1, 1, 0, 0, 0] (bodyOf Tryz.f15)), .blk 0, .code (ct [1, 1, 1, 1, 1] (bodyOf Tryz.f15))] (tree_Tree_Walk_l0_I B0 x0 x3 x12 H) L :=
  iter_okH (I := fun s => tree_Tree_Walk_l0_I B0 x0 x3 x12 s) (D := fun e => (∀ r, e = (.inl r) → ∀ v st, tree_Tree_Walk_P B0 L r v st → Q v st) ∧ (∀ s, e = (.inr s) → WXH Tryz.prog 70 n0 (Fin Tryz.prog Tryz.f15.results.toList n0 Q) [.code (ct [1, 1, 1, 1, 1] (bodyOf Tryz.f15))] (tree_Tree_Walk_l0_X0 B0 s x0 x12) L)) (fun E hn hx s o ho hE => tree_Tree_Walk_l0_s (H := s) ho hn (fun s hs => (hx _ hs).2 _ rfl) (fun r hs => (hx _ hs).1 _ rfl) hE) h ⟨g0, g1⟩
theorem tree_Tree_Walk_j15_ok {B0 : Kn} {L : Own} {n0 : Nat} {H : Heap} {x12 : Nat} {r : Heap × Int × Int} (h : tree_Tree_Walk_j15 H x12 = some r) : WXH Tryz.prog 70 n0 (Fin Tryz.prog Tryz.f15.results.toList n0 (tree_Tree_Walk_P B0 L r)) [.code (ct [1, 1, 1, 1, 1, 1] (bodyOf Tryz.f15))] (tree_Tree_Walk_j15_I B0 H x12) L := by
  unfold tree_Tree_Walk_j15 at h
  rintro _ B _ E ⟨hB, hH, v38, h38, rfl, rfl⟩
  refine WX.seq ?_
  refine WX.reg ?_
  refine WO.q (.mv (v := v38) rfl) rfl rfl ?_
  obtain ⟨y39, hy39, h⟩ := Option.bind_eq_some_iff.1 h
  obtain ⟨b_y39, c_y39, e_y39, m_y39, r_y39, u_y39⟩ := hgetS (foc153 hH) h38 hy39
  subst e_y39
  obtain ⟨_, _, rfl, ⟨w40, rfl, hw40⟩, ⟨_, _, rfl, rfl, ⟨_, _, rfl, ⟨w41, rfl, hw41⟩, ⟨_, _, rfl, rfl, rfl⟩⟩⟩⟩ := r_y39
  obtain ⟨_, _, _, _, _, rfl⟩ := hw41.isl
  refine WO.q (.r fun _ => rfl) rfl rfl ?_
  refine WO.q (.fa (fa153_1 _ _)) rfl rfl ?_
  refine WO.ql (.ldSm rfl (inE m_y39) rfl ti3 rfl) rfl rfl ?_
  refine WO.q (.as (v := .int _ _) rfl) rfl rfl ?_
  refine WO.q (.as (v := .int _ _) rfl) rfl rfl ?_
  refine WO.nil ?_
  obtain rfl := Option.some.inj h
  exact WX.ret (rs_ (rs_tmp rfl (rs_tmp rfl rs_nil))) fun st hp => ⟨_, _, _, hB, (hp.pk [] (by decide)), rfl, rfl, hH⟩
theorem tree_Tree_Walk_j6_ok {B0 : Kn} {L : Own} {n0 : Nat} {H : Heap} {x0 : Nat} {x3 : Bool} {zb32 : Nat × Int × (List (List UInt8)) × Bool × Int} {r : Heap × Int × Int} (h : tree_Tree_Walk_j6 H x0 x3 zb32 = some r) : WXH Tryz.prog 70 n0 (Fin Tryz.prog Tryz.f15.results.toList n0 (tree_Tree_Walk_P B0 L r)) [.code (ct [1, 1, 1, 1] (bodyOf Tryz.f15))] (tree_Tree_Walk_j6_I B0 H x0 x3 zb32) L := by
  unfold tree_Tree_Walk_j6 at h
  rintro _ B _ E ⟨hB, hH, b8, v9, v10, v11, h9, h10, h11, rfl, rfl⟩
  obtain ⟨_, _, _, _, _, rfl⟩ := h10.isl
  refine WX.seq ?_
  refine WX.block ?_
  obtain ⟨H13, e_H13, h⟩ := Option.bind_eq_some_iff.1 h
  refine WX.abs (j := 0) (x := zb32) (foc153 hH) rfl (Rp (Rhp h9) (Rp Ri (Rp (Rl h10) (Rp Rb Ri)))) ?_
  intro B E hK g12 hH
  replace hH := HRe e_H13 hH
  replace h11 := h11.upw hK
  replace hB := hB.trans hK
  refine WX.loop ?_
  obtain ⟨e24, he24, h⟩ := Option.bind_eq_some_iff.1 h
  refine WX.keep [0, 3, 12] (WX.pk [] (by decide) ?_) rfl
  refine tree_Tree_Walk_l0_ok he24 ?_ ?_ _ _ _ _ ⟨hB, hH, _, _, h11, g12, rfl, rfl⟩
  intro r26 he_
  subst he_
  replace h := (on_l h)
  obtain rfl := Option.some.inj h
  exact fun v st hp => hp
  intro x27 he_
  subst he_
  replace h := (on_r h)
  rintro _ B _ E ⟨hB, hH, v28, v29, h28, h29, rfl, rfl⟩
  refine WX.seq ?_
  refine WX.seq ?_
  refine WX.reg ?_
  refine WO.q (.mv (v := v29) rfl) rfl rfl ?_
  obtain ⟨y30, hy30, h⟩ := Option.bind_eq_some_iff.1 h
  obtain ⟨b_y30, c_y30, e_y30, m_y30, r_y30, u_y30⟩ := hgetS (foc153 hH) h29 hy30
  subst e_y30
  obtain ⟨_, _, rfl, ⟨w31, rfl, hw31⟩, ⟨_, _, rfl, rfl, ⟨_, _, rfl, ⟨w32, rfl, hw32⟩, ⟨_, _, rfl, rfl, rfl⟩⟩⟩⟩ := r_y30
  obtain ⟨_, _, _, _, _, rfl⟩ := hw32.isl
  refine WO.q (.r fun _ => rfl) rfl rfl ?_
  refine WO.q (.fa (fa153_3 _ _)) rfl rfl ?_
  refine WO.ql (.ldSm rfl (inE m_y30) rfl ti4 rfl) rfl rfl ?_
  refine WO.nil ?_
  rcases bsp y30.2.2.2.1 with k33 | k33
  replace h := (if_pos k33).symm.trans h
  refine WX.condT rfl k33 ?_
  refine WX.seq ?_
  refine WX.reg ?_
  refine WO.q (.mv (v := v28) rfl) rfl rfl ?_
  refine WO.q (.mv (v := .ptr b_y30 0) rfl) rfl rfl ?_
  refine WO.q (.r fun _ => rfl) rfl rfl ?_
  refine WO.q (.fa (fa153_1 _ _)) rfl rfl ?_
  refine WO.ql (.ldSm rfl (inE m_y30) rfl ti3 rfl) rfl rfl ?_
  obtain ⟨y34, hy34, h⟩ := Option.bind_eq_some_iff.1 h
  refine WO.c0 rfl rfl (rd0 (tree_Tree_dir_ok hH h28 hy34)) rfl rfl rfl ?_
  rintro _ B hK ⟨v35, rfl, h36⟩
  replace h28 := h28.up hK
  replace h29 := h29.up hK
  replace hH := hH.up hK
  replace hB := hB.trans hK.w
  refine WO.q (.mv (v := .tup _) rfl) rfl rfl ?_
  refine WO.q (.r fun _ => rfl) rfl rfl ?_
  refine WO.q (.r fun _ => rfl) rfl rfl ?_
  refine WO.q (.as (v := v35) rfl) rfl rfl ?_
  refine WO.q (.as (v := .int _ _) rfl) rfl rfl ?_
  refine WO.nil ?_
  refine WX.seq ?_
  refine WX.reg ?_
  refine WO.q (.mv (v := .int _ _) rfl) rfl rfl ?_
  refine WO.q (.r fun _ => rfl) rfl rfl ?_
  refine WO.nil ?_
  rcases bsp (decide (y34.2 ≠ 0)) with k37 | k37
  have q_k37 := of_decide_eq_true k37
  replace h := (if_pos q_k37).symm.trans h
  refine WX.condT rfl k37 ?_
  refine WX.seq ?_
  refine WX.reg ?_
  refine WO.q (.mv (v := .int _ _) rfl) rfl rfl ?_
  refine WO.q (.as (v := .int _ _) rfl) rfl rfl ?_
  refine WO.q (.as (v := .int _ _) rfl) rfl rfl ?_
  refine WO.nil ?_
  obtain rfl := Option.some.inj h
  exact WX.ret (rs_ (rs_tmp rfl (rs_tmp rfl rs_nil))) fun st hp => ⟨_, _, _, hB, (hp.pk [] (by decide)), rfl, rfl, hH⟩
  have q_k37 := of_decide_eq_false k37
  replace h := (if_neg q_k37).symm.trans h
  refine WX.condF rfl k37 ?_
  refine WX.skip ?_
  refine WX.keep [12] (WX.pk [] (by decide) ?_) rfl
  exact tree_Tree_Walk_j15_ok h _ _ _ _ ⟨hB, hH, _, h29, rfl, rfl⟩
  replace h := (if_neg (bnt k33)).symm.trans h
  refine WX.condF rfl k33 ?_
  refine WX.skip ?_
  refine WX.keep [12] (WX.pk [] (by decide) ?_) rfl
  exact tree_Tree_Walk_j15_ok h _ _ _ _ ⟨hB, hH, _, h29, rfl, rfl⟩
theorem tree_Tree_Walk_ok {B0 : Kn} {L : Own} {H : Heap} {E : Own} (hH : HR B0 H E) {a0 : Nat} {a1 : Int} {a2 : Bool × (List (List UInt8)) × Bool} {a3 : Bool} {v0_0 : AV} {v2_0 : AV} (g0_0 : HPt B0 126 v0_0 a0) (g2_0 : RSl Ty.str B0 v2_0 a2.2.1) {r : Heap × Int × Int} (h : tree_Tree_Walk H a0 a1 a2 a3 = some r) : ∀ st, Hp B0 (E ++ L) st → ASpec Tryz.prog 15 [v0_0, .int .i64 a1, .agg [.bool a2.1, v2_0, .bool a2.2.2], .bool a3] st (tree_Tree_Walk_P B0 L r) := by
  unfold tree_Tree_Walk at h
  refine bodyA (A := []) (L := E ++ L) Tryz.func15 rfl (c := bodyOf Tryz.f15) rfl Tryz.ntmps15 (lb rfl) fun n0 => ?_
  have hB := KLw.refl B0
  obtain ⟨_, _, _, _, _, rfl⟩ := g2_0.isl
  refine WX.seq ?_
  refine WX.reg ?_
  refine WO.md (MOp.box (cA rfl)) rfl rfl ?_
  rintro _ _ ⟨b1, rfl, rfl⟩
  refine WO.q (.as (v := .int _ _) rfl) rfl rfl ?_
  refine WO.q (.as (v := .int _ _) rfl) rfl rfl ?_
  refine WO.nil ?_
  refine WX.seq ?_
  refine WX.seq ?_
  refine WX.reg ?_
  refine WO.q (.mv (v := v0_0) rfl) rfl rfl ?_
  refine WO.q (.mv (v := .int _ _) rfl) rfl rfl ?_
  obtain ⟨y2, hy2, h⟩ := Option.bind_eq_some_iff.1 h
  refine WO.c0 rfl rfl (rd0 (tree_Tree_get_ok hH g0_0 hy2)) rfl rfl rfl ?_
  rintro _ B hK ⟨v3, rfl, h4⟩
  replace g0_0 := g0_0.up hK
  replace g2_0 := g2_0.up hK
  replace hH := hH.up hK
  replace hB := hB.trans hK.w
  refine WO.q (.mv (v := .tup _) rfl) rfl rfl ?_
  refine WO.q (.r fun _ => rfl) rfl rfl ?_
  refine WO.q (.r fun _ => rfl) rfl rfl ?_
  refine WO.q (.as (v := v3) rfl) rfl rfl ?_
  refine WO.q (.as (v := .int _ _) rfl) rfl rfl ?_
  refine WO.nil ?_
  refine WX.seq ?_
  refine WX.reg ?_
  refine WO.q (.mv (v := .int _ _) rfl) rfl rfl ?_
  refine WO.q (.r fun _ => rfl) rfl rfl ?_
  refine WO.nil ?_
  rcases bsp (decide (y2.2 ≠ 0)) with k5 | k5
  have q_k5 := of_decide_eq_true k5
  replace h := (if_pos q_k5).symm.trans h
  refine WX.condT rfl k5 ?_
  refine WX.seq ?_
  refine WX.reg ?_
  refine WO.q (.mv (v := .int _ _) rfl) rfl rfl ?_
  refine WO.q (.as (v := .int _ _) rfl) rfl rfl ?_
  refine WO.q (.as (v := .int _ _) rfl) rfl rfl ?_
  refine WO.nil ?_
  obtain rfl := Option.some.inj h
  exact WX.ret (rs_ (rs_tmp rfl (rs_tmp rfl rs_nil))) fun st hp => ⟨_, _, _, hB, (hp.pk [] (by decide)), rfl, rfl, hH⟩
  have q_k5 := of_decide_eq_false k5
  replace h := (if_neg q_k5).symm.trans h
  refine WX.condF rfl k5 ?_
  refine WX.skip ?_
  refine WX.seq ?_
  refine WX.reg ?_
  refine WO.q (.mv (v := v0_0) rfl) rfl rfl ?_
  refine WO.q (.mv (v := .int _ _) rfl) rfl rfl ?_
  refine WO.q (.fa (fa33_1 _ _)) rfl rfl ?_
  refine WO.q (.ldS (i := 0) rfl rfl rfl ti31 rfl) rfl rfl ?_
  refine WO.q (.fa (fa33_2 _ _)) rfl rfl ?_
  refine WO.q (.ldS (i := 0) rfl rfl rfl ti4 rfl) rfl rfl ?_
  refine WO.q (.bd (bd153_0_1_2_3 (cHp rfl g0_0) (cI rfl) (cL rfl) (cB rfl))) rfl rfl ?_
  refine WO.md (MOp.box (cA rfl)) rfl rfl ?_
  rintro _ _ ⟨b6, rfl, rfl⟩
  refine WO.q (.as (v := .ptr _ _) rfl) rfl rfl ?_
  refine WO.nil ?_
  refine WX.seq ?_
  refine WX.seq ?_
  refine WX.reg ?_
  refine WO.q (.fa (fa33_0 _ _)) rfl rfl ?_
  refine WO.q (.ldS (i := 1) rfl rfl rfl ti4 rfl) rfl rfl ?_
  refine WO.nil ?_
  rcases bsp a2.1 with k7 | k7
  replace h := (if_pos k7).symm.trans h
  refine WX.condT rfl k7 ?_
  refine WX.reg ?_
  refine WO.q (.mv (v := .ptr _ _) rfl) rfl rfl ?_
  refine WO.q (.r fun _ => rfl) rfl rfl ?_
  refine WO.q (.fa (fa153_1 _ _)) rfl rfl ?_
  refine WO.mn (MOp.store (cs' := [v0_0, .int .i64 1, _, .bool a2.2.2, .int .i64 0]) rfl (cI rfl) .h ti3 rfl rfl (lb rfl) rfl) rfl ?_
  rintro _ _ rfl
  refine WO.nil ?_
  refine WX.keep [0, 3, 12] (WX.pk [0] (by decide) ?_) rfl
  exact tree_Tree_Walk_j6_ok h _ _ _ _ ⟨hB, hH, _, _, _, _, g0_0, g2_0, g0_0, rfl, rfl⟩
  replace h := (if_neg (bnt k7)).symm.trans h
  refine WX.condF rfl k7 ?_
  refine WX.skip ?_
  refine WX.keep [0, 3, 12] (WX.pk [0] (by decide) ?_) rfl
  exact tree_Tree_Walk_j6_ok h _ _ _ _ ⟨hB, hH, _, _, _, _, g0_0, g2_0, g0_0, rfl, rfl⟩
def tree_Tree_vacant_P (B : Kn) (L : Own) (r : Nat × Int) : AV → St → Prop := C0 B L fun B' v => ∃ wp0, v = .tup [wp0, .int .i64 r.2] ∧ HPt B' 131 wp0 r.1
theorem tree_Tree_vacant_ok {B0 : Kn} {L : Own} {H : Heap} {Eh : Own} (hH : HR B0 H Eh) {a0 : Nat} {a1 : Int} {a2 : List UInt8} {v0_0 : AV} (g0_0 : HPt B0 126 v0_0 a0) {r : Nat × Int} (h : tree_Tree_vacant H a0 a1 a2 = some r) : ∀ st, Hp B0 (Eh ++ L) st → ASpec Tryz.prog 86 [v0_0, .int .i64 a1, .str a2] st (tree_Tree_vacant_P B0 (Eh ++ L) r) := by
  unfold tree_Tree_vacant at h
  refine bodyA (A := []) (L := Eh ++ L) Tryz.func86 rfl (c := bodyOf Tryz.f86) rfl Tryz.ntmps86 (lb rfl) fun n0 => ?_
  have hB := KLe.refl B0
  have hH0 := hH
  refine WX.seq ?_
  refine WX.reg ?_
  refine WO.q (.as (v := .nilptr) rfl) rfl rfl ?_
  refine WO.q (.as (v := .int _ _) rfl) rfl rfl ?_
  refine WO.nil ?_
  refine WX.seq ?_
  refine WX.reg ?_
  refine WO.q (.mv (v := v0_0) rfl) rfl rfl ?_
  refine WO.q (.mv (v := .int _ _) rfl) rfl rfl ?_
  obtain ⟨y1, hy1, h⟩ := Option.bind_eq_some_iff.1 h
  refine WO.c0 rfl rfl (rd0 (tree_Tree_open_ok hH g0_0 hy1)) rfl rfl rfl ?_
  rintro _ B hK ⟨v2, rfl, h3⟩
  replace g0_0 := g0_0.up hK
  replace hH := hH.up hK
  replace hB := hB.trans hK
  refine WO.q (.mv (v := .tup _) rfl) rfl rfl ?_
  refine WO.q (.r fun _ => rfl) rfl rfl ?_
  refine WO.q (.r fun _ => rfl) rfl rfl ?_
  refine WO.q (.as (v := v2) rfl) rfl rfl ?_
  refine WO.q (.as (v := .int _ _) rfl) rfl rfl ?_
  refine WO.nil ?_
  refine WX.seq ?_
  refine WX.seq ?_
  refine WX.reg ?_
  refine WO.q (.mv (v := .int _ _) rfl) rfl rfl ?_
  refine WO.q (.r fun _ => rfl) rfl rfl ?_
  refine WO.nil ?_
  rcases bsp (decide (y1.2 ≠ 0)) with k4 | k4
  have q_k4 := of_decide_eq_true k4
  replace h := (if_pos q_k4).symm.trans h
  refine WX.condT rfl k4 ?_
  refine WX.seq ?_
  refine WX.reg ?_
  refine WO.q (.mv (v := .int _ _) rfl) rfl rfl ?_
  refine WO.q (.as (v := .nilptr) rfl) rfl rfl ?_
  refine WO.q (.as (v := .int _ _) rfl) rfl rfl ?_
  refine WO.nil ?_
  obtain rfl := Option.some.inj h
  exact WX.ret (rs_ (rs_tmp rfl (rs_tmp rfl rs_nil))) fun st hp => ⟨_, hB, (hp.pk [] (by decide)), _, rfl, HPt.nil⟩
  have q_k4 := of_decide_eq_false k4
  replace h := (if_neg q_k4).symm.trans h
  refine WX.condF rfl k4 ?_
  refine WX.skip ?_
  refine WX.seq ?_
  refine WX.seq ?_
  refine WX.reg ?_
  refine WO.q (.mv (v := .str _) rfl) rfl rfl ?_
  obtain ⟨y5, hy5, h⟩ := Option.bind_eq_some_iff.1 h
  refine WO.cS rfl rfl (dir_Name_ok hy5) rfl rfl rfl ?_
  rintro _ rfl
  refine WO.q (.as (v := .int _ _) rfl) rfl rfl ?_
  refine WO.nil ?_
  refine WX.seq ?_
  refine WX.reg ?_
  refine WO.q (.mv (v := .int _ _) rfl) rfl rfl ?_
  refine WO.q (.r fun _ => rfl) rfl rfl ?_
  refine WO.nil ?_
  rcases bsp (decide (y5 ≠ 0)) with k6 | k6
  have q_k6 := of_decide_eq_true k6
  replace h := (if_pos q_k6).symm.trans h
  refine WX.condT rfl k6 ?_
  refine WX.seq ?_
  refine WX.reg ?_
  refine WO.q (.mv (v := .int _ _) rfl) rfl rfl ?_
  refine WO.q (.as (v := .nilptr) rfl) rfl rfl ?_
  refine WO.q (.as (v := .int _ _) rfl) rfl rfl ?_
  refine WO.nil ?_
  obtain rfl := Option.some.inj h
  exact WX.ret (rs_ (rs_tmp rfl (rs_tmp rfl rs_nil))) fun st hp => ⟨_, hB, (hp.pk [] (by decide)), _, rfl, HPt.nil⟩
  have q_k6 := of_decide_eq_false k6
  replace h := (if_neg q_k6).symm.trans h
  refine WX.condF rfl k6 ?_
  refine WX.skip ?_
  refine WX.seq ?_
  refine WX.seq ?_
  refine WX.reg ?_
  refine WO.q (.mv (v := v2) rfl) rfl rfl ?_
  obtain ⟨y7, hy7, h⟩ := Option.bind_eq_some_iff.1 h
  obtain ⟨b_y7, c_y7, e_y7, m_y7, r_y7, u_y7⟩ := hgetS (foc131 hH) h3 hy7
  subst e_y7
  obtain ⟨_, _, rfl, ⟨_, _, rfl, rfl, ⟨_, _, rfl, rfl, ⟨_, _, rfl, rfl, ⟨_, _, rfl, ⟨w8, rfl, hw8⟩, rfl⟩⟩⟩⟩, ⟨_, _, rfl, ⟨w9, rfl, hw9⟩, ⟨_, _, rfl, rfl, rfl⟩⟩⟩ := r_y7
  obtain ⟨_, _, _, _, _, rfl⟩ := hw8.isl
  refine WO.q (.r fun _ => rfl) rfl rfl ?_
  refine WO.q (.fa (fa131_1 _ _)) rfl rfl ?_
  refine WO.ql (.ldSm rfl (inE m_y7) rfl ti128 rfl) rfl rfl ?_
  refine WO.q (.mv (v := .str _) rfl) rfl rfl ?_
  obtain ⟨y10, hy10, h⟩ := Option.bind_eq_some_iff.1 h
  refine WO.cS rfl rfl (rdS (dir_Dir_Get_ok hH hw9 hy10)) rfl rfl rfl ?_
  rintro _ rfl
  refine WO.q (.mv (v := .tup _) rfl) rfl rfl ?_
  refine WO.q (.r fun _ => rfl) rfl rfl ?_
  refine WO.q (.r fun _ => rfl) rfl rfl ?_
  refine WO.q (.as (v := .int _ _) rfl) rfl rfl ?_
  refine WO.q (.as (v := .bool _) rfl) rfl rfl ?_
  refine WO.nil ?_
  refine WX.seq ?_
  refine WX.reg ?_
  refine WO.q (.mv (v := .bool _) rfl) rfl rfl ?_
  refine WO.nil ?_
  rcases bsp y10.2 with k11 | k11
  replace h := (if_pos k11).symm.trans h
  refine WX.condT rfl k11 ?_
  refine WX.seq ?_
  refine WX.reg ?_
  refine WO.q (.as (v := .nilptr) rfl) rfl rfl ?_
  refine WO.q (.as (v := .int _ _) rfl) rfl rfl ?_
  refine WO.nil ?_
  obtain rfl := Option.some.inj h
  exact WX.ret (rs_ (rs_tmp rfl (rs_tmp rfl rs_nil))) fun st hp => ⟨_, hB, (hp.pk [] (by decide)), _, rfl, HPt.nil⟩
  replace h := (if_neg (bnt k11)).symm.trans h
  refine WX.condF rfl k11 ?_
  refine WX.skip ?_
  refine WX.seq ?_
  refine WX.reg ?_
  refine WO.q (.mv (v := .ptr b_y7 0) rfl) rfl rfl ?_
  refine WO.q (.as (v := .ptr b_y7 0) rfl) rfl rfl ?_
  refine WO.q (.as (v := .int _ _) rfl) rfl rfl ?_
  refine WO.nil ?_
  obtain rfl := Option.some.inj h
  exact WX.ret (rs_ (rs_tmp rfl (rs_tmp rfl rs_nil))) fun st hp => ⟨_, hB, (hp.pk [] (by decide)), _, rfl, h3⟩
def tree_Tree_number_P (B : Kn) (L : Own) (r : Int) : AV → St → Prop := CS B L fun v => v = .int .i64 r
def tree_Tree_number_l0_I (B0 : Kn) (x0 : Nat) (x3 : Int) : Fr → Kn → Own → Prop := fun fr B A => KLe B0 B ∧ ∃ v1, HPt B 126 v1 x0 ∧ fr = [(0, v1), (3, .int .i64 x3)] ∧ A = []
def tree_Tree_number_l0_X0 (B0 : Kn) (x3 : Int) : Fr → Kn → Own → Prop := fun fr B A => KLe B0 B ∧ fr = [(3, .int .i64 x3)] ∧ A = []
theorem tree_Tree_number_l0_s {B0 : Kn} {L : Own} {n0 : Nat} {H : Heap} {Eh : Own} {x0 : Nat} {x3 : Int} {Q : AV → St → Prop} {E : Int ⊕ Int → Prop} {o : Int ⊕ Int} (h : tree_Tree_number_l0 H x0 x3 = some o) (hH0 : HR B0 H Eh) (hn : ∀ s, E (.inl s) → WXI Tryz.prog 14 n0 (Fin Tryz.prog Tryz.f87.results.toList n0 Q) [.lp (ct [1, 1, 0, 0, 0] (bodyOf Tryz.f87)), .blk 0, .code (ct [1, 1, 1] (bodyOf Tryz.f87))] (tree_Tree_number_l0_I B0 x0 s) (Eh ++ L)) (hx0 : ∀ s, E (.inr s) → WXI Tryz.prog 14 n0 (Fin Tryz.prog Tryz.f87.results.toList n0 Q) [.code (ct [1, 1, 1] (bodyOf Tryz.f87))] (tree_Tree_number_l0_X0 B0 s) (Eh ++ L)) (hE : E o) : WXI Tryz.prog 14 n0 (Fin Tryz.prog Tryz.f87.results.toList n0 Q) [.code (ct [1, 1, 0, 0, 0] (bodyOf Tryz.f87)), .lp (ct [1, 1, 0, 0, 0] (bodyOf Tryz.f87)), .blk 0, .code (ct [1, 1, 1] (bodyOf Tryz.f87))] (tree_Tree_number_l0_I B0 x0 x3) (Eh ++ L) := by
  unfold tree_Tree_number_l0 at h
  rintro _ B _ ⟨hB, v1, h1, rfl, rfl⟩
  have hH := hH0.up hB
  refine WX.seq ?_
  refine WX.seq ?_
  refine WX.reg ?_
  refine WO.q (.mv (v := v1) rfl) rfl rfl ?_
  obtain ⟨y2, hy2, h⟩ := Option.bind_eq_some_iff.1 h
  obtain ⟨b_y2, c_y2, e_y2, m_y2, r_y2, u_y2⟩ := hgetS (foc126 hH) h1 hy2
  subst e_y2
  obtain ⟨_, _, rfl, ⟨w3, rfl, hw3⟩, ⟨_, _, rfl, ⟨w4, rfl, hw4⟩, ⟨w5, rfl, hw5⟩⟩⟩ := r_y2
  refine WO.q (.r fun _ => rfl) rfl rfl ?_
  refine WO.q (.fa (fa126_0 _ _)) rfl rfl ?_
  refine WO.ql (.ldSm rfl (inE m_y2) rfl ti122 rfl) rfl rfl ?_
  refine WO.q (.mv (v := .int _ _) rfl) rfl rfl ?_
  obtain ⟨y6, hy6, h⟩ := Option.bind_eq_some_iff.1 h
  refine WO.md (MOp.lookup mt122 (foc122 hH) hw3 hy6 kI rfl rfl) rfl rfl ?_
  rintro c7 _ ⟨rfl, _, r8, rfl⟩
  have hw9 := r8
  refine WO.q (.bin (evneqnil hw9 ti127 rfl)) rfl rfl ?_
  refine WO.nil ?_
  rcases bsp (decide (((mget y6 x3).getD 0) = 0)) with k10 | k10
  have q_k10 := of_decide_eq_true k10
  replace h := (if_pos q_k10).symm.trans h
  refine WX.condF rfl (f_not k10) ?_
  refine WX.exit rfl ?_
  refine WX.keep [3] (WX.pk [] (by decide) ?_) rfl
  obtain rfl := Option.some.inj h
  exact hx0 _ hE _ _ _ ⟨hB, rfl, rfl⟩
  have q_k10 := of_decide_eq_false k10
  replace h := (if_neg q_k10).symm.trans h
  refine WX.condT rfl (t_not k10) ?_
  refine WX.skip ?_
  refine WX.block ?_
  refine WX.reg ?_
  refine WO.q (.mv (v := .int _ _) rfl) rfl rfl ?_
  refine WO.q (.r fun _ => rfl) rfl rfl ?_
  refine WO.q (.as (v := .int _ _) rfl) rfl rfl ?_
  refine WO.nil ?_
  refine WX.pop ?_
  refine WX.keepL [0, 3] (WX.pk [] (by decide) ?_) rfl
  obtain rfl := Option.some.inj h
  exact hn _ hE _ _ _ ⟨hB, _, h1, rfl, rfl⟩
theorem tree_Tree_number_l0_ok {B0 : Kn} {L : Own} {n0 : Nat} {H : Heap} {Eh : Own} {x0 : Nat} {x3 : Int} {Q : AV → St → Prop} {d : Nat} {e : Int} (h : iter (fun (s : Int) => tree_Tree_number_l0 H x0 s) d x3 = some e) (hH0 : HR B0 H Eh) (g0 : ∀ s, e = s → WXI Tryz.prog 14 n0 (Fin Tryz.prog Tryz.f87.results.toList n0 Q) [.code (ct [1, 1, 1] (bodyOf Tryz.f87))] (tree_Tree_number_l0_X0 B0 s) (Eh ++ L)) : WXI Tryz.prog 14 n0 (Fin Tryz.prog Tryz.f87.results.toList n0 Q) [.code (ct [1, 1, 0, 0, 0] (bodyOf Tryz.f87)), .lp (ct [1, 1, 0, 0, 0] (bodyOf Tryz.f87)), .blk 0, .code (ct [1, 1, 1] (bodyOf Tryz.f87))] (tree_Tree_number_l0_I B0 x0 x3) (Eh ++ L) :=
  iter_ok (I := fun s => tree_Tree_number_l0_I B0 x0 s) (D := fun e => (∀ s, e = s → WXI Tryz.prog 14 n0 (Fin Tryz.prog Tryz.f87.results.toList n0 Q) [.code (ct [1, 1, 1] (bodyOf Tryz.f87))] (tree_Tree_number_l0_X0 B0 s) (Eh ++ L))) (fun E hn hx s o ho hE => tree_Tree_number_l0_s (x3 := s) ho hH0 hn (fun s hs => (hx _ hs) _ rfl)  hE) h g0
theorem tree_Tree_number_ok {B0 : Kn} {L : Own} {H : Heap} {Eh : Own} (hH : HR B0 H Eh) {a0 : Nat} {v0_0 : AV} (g0_0 : HPt B0 126 v0_0 a0) {r : Int} (h : tree_Tree_number H a0 = some r) : ∀ st, Hp B0 (Eh ++ L) st → ASpec Tryz.prog 87 [v0_0] st (tree_Tree_number_P B0 (Eh ++ L) r) := by
  unfold tree_Tree_number at h
  refine bodyA (A := []) (L := Eh ++ L) Tryz.func87 rfl (c := bodyOf Tryz.f87) rfl Tryz.ntmps87 (lb rfl) fun n0 => ?_
  have hB := KLe.refl B0
  have hH0 := hH
  refine WX.seq ?_
  refine WX.reg ?_
  refine WO.q (.as (v := .int _ _) rfl) rfl rfl ?_
  refine WO.nil ?_
  refine WX.seq ?_
  refine WX.reg ?_
  refine WO.q (.as (v := .int _ _) rfl) rfl rfl ?_
  refine WO.nil ?_
  refine WX.seq ?_
  refine WX.block ?_
  refine WX.loop ?_
  obtain ⟨e11, he11, h⟩ := Option.bind_eq_some_iff.1 h
  refine WX.keep [0, 3] (WX.pk [] (by decide) ?_) rfl
  refine tree_Tree_number_l0_ok he11 hH0 ?_ _ _ _ ⟨hB, _, g0_0, rfl, rfl⟩
  intro s12 he_
  subst he_
  replace h := h
  rintro _ B _ ⟨hB, rfl, rfl⟩
  have hH := hH0.up hB
  refine WX.seq ?_
  refine WX.reg ?_
  refine WO.q (.mv (v := .int _ _) rfl) rfl rfl ?_
  refine WO.q (.as (v := .int _ _) rfl) rfl rfl ?_
  refine WO.nil ?_
  obtain rfl := Option.some.inj h
  exact WX.ret (rs_ (rs_tmp rfl rs_nil)) fun st hp => ⟨(hp.pk [] (by decide)).le hB, rfl⟩
def tree_Tree_reap_P (B : Kn) (L : Own) (r : Heap × (List (Int × Int))) : AV → St → Prop := CH B L fun B' X E' v => ∃ w0, v = w0 ∧ X = [] ∧ HR B' r.1 E' ∧ RSl EPIi64Ii64Q B' w0 r.2
def tree_Tree_reap_j2_I (B0 : Kn) (H : Heap) (x0 : Nat) (x1 : Int) (x5 : Nat) (x27 : Bool) : Fr → Kn → Own → Own → Prop := fun fr B A E => KLw B0 B ∧ HR B H E ∧ ∃ v13 v14, HPt B 126 v13 x0 ∧ HPt B 131 v14 x5 ∧ fr = [(0, v13), (1, .int .i64 x1), (5, v14), (27, .bool x27)] ∧ A = []
theorem tree_Tree_reap_j2_ok {B0 : Kn} {L : Own} {n0 : Nat} {H : Heap} {x0 : Nat} {x1 : Int} {x5 : Nat} {x27 : Bool} {r : Heap × (List (Int × Int))} (h : tree_Tree_reap_j2 H x0 x1 x5 x27 = some r) : WXH Tryz.prog 49 n0 (Fin Tryz.prog Tryz.f92.results.toList n0 (tree_Tree_reap_P B0 L r)) [.code (ct [1, 1, 0, 1] (bodyOf Tryz.f92)), .code (ct [1, 1, 1] (bodyOf Tryz.f92))] (tree_Tree_reap_j2_I B0 H x0 x1 x5 x27) L := by
  unfold tree_Tree_reap_j2 at h
  rintro _ B _ E ⟨hB, hH, v13, v14, h13, h14, rfl, rfl⟩
  rcases bsp x27 with k15 | k15
  replace h := (if_pos k15).symm.trans h
  refine WX.condT rfl k15 ?_
  refine WX.seq ?_
  refine WX.reg ?_
  refine WO.q (.as (v := .sl _ _ _ _ _ _) rfl) rfl rfl ?_
  refine WO.nil ?_
  obtain rfl := Option.some.inj h
  exact WX.ret (rs_ (rs_tmp rfl rs_nil)) fun st hp => ⟨_, _, _, hB, (hp.pk [] (by decide)), .sl 0 0 0 0 0 true, rfl, rfl, hH, (RSl.nil _ _)⟩
  replace h := (if_neg (bnt k15)).symm.trans h
  refine WX.condF rfl k15 ?_
  refine WX.skip ?_
  refine WX.seq ?_
  refine WX.reg ?_
  refine WO.q (.mv (v := v13) rfl) rfl rfl ?_
  obtain ⟨y16, hy16, h⟩ := Option.bind_eq_some_iff.1 h
  obtain ⟨b_y16, c_y16, e_y16, m_y16, r_y16, u_y16⟩ := hgetS (foc126 hH) h13 hy16
  subst e_y16
  obtain ⟨_, _, rfl, ⟨w17, rfl, hw17⟩, ⟨_, _, rfl, ⟨w18, rfl, hw18⟩, ⟨w19, rfl, hw19⟩⟩⟩ := r_y16
  refine WO.q (.r fun _ => rfl) rfl rfl ?_
  refine WO.q (.fa (fa126_0 _ _)) rfl rfl ?_
  refine WO.ql (.ldSm rfl (inE m_y16) rfl ti122 rfl) rfl rfl ?_
  refine WO.q (.mv (v := .int _ _) rfl) rfl rfl ?_
  obtain ⟨y20, hy20, h⟩ := Option.bind_eq_some_iff.1 h
  obtain ⟨H21, e_H21, h⟩ := Option.bind_eq_some_iff.1 h
  refine WO.en (MOpE.del rfl rfl rfl mt122 (foc122 hH) hw17 hy20 kI rfl rfl) rfl ?_
  rintro _ _ _ E ⟨rfl, rfl, rfl, hH⟩
  replace hH := HRe e_H21 hH
  refine WO.nil ?_
  refine WX.seq ?_
  refine WX.reg ?_
  refine WO.q (.mv (v := .ptr b_y16 0) rfl) rfl rfl ?_
  obtain ⟨y22, hy22, h⟩ := Option.bind_eq_some_iff.1 h
  obtain ⟨c_y22, m_y22, r_y22, u_y22⟩ := hgetP (foc126 hH) h13 hy22
  obtain ⟨_, _, rfl, ⟨w23, rfl, hw23⟩, ⟨_, _, rfl, ⟨w24, rfl, hw24⟩, ⟨w25, rfl, hw25⟩⟩⟩ := r_y22
  refine WO.q (.r fun _ => rfl) rfl rfl ?_
  refine WO.q (.fa (fa126_2 _ _)) rfl rfl ?_
  refine WO.ql (.ldSm rfl (inE m_y22) rfl ti124 rfl) rfl rfl ?_
  refine WO.q (.mv (v := .int _ _) rfl) rfl rfl ?_
  obtain ⟨y26, hy26, h⟩ := Option.bind_eq_some_iff.1 h
  obtain ⟨H27, e_H27, h⟩ := Option.bind_eq_some_iff.1 h
  refine WO.en (MOpE.put mt124 (foc124 hH) hw25 hy26 kI kB rfl rfl rfl) rfl ?_
  rintro _ _ _ E ⟨rfl, rfl, hH⟩
  replace hH := HRe e_H27 hH
  refine WO.nil ?_
  refine WX.seq ?_
  refine WX.reg ?_
  refine WO.q (.mv (v := v14) rfl) rfl rfl ?_
  obtain ⟨y28, hy28, h⟩ := Option.bind_eq_some_iff.1 h
  obtain ⟨b_y28, c_y28, e_y28, m_y28, r_y28, u_y28⟩ := hgetS (foc131 hH) h14 hy28
  subst e_y28
  obtain ⟨_, _, rfl, ⟨_, _, rfl, rfl, ⟨_, _, rfl, rfl, ⟨_, _, rfl, rfl, ⟨_, _, rfl, ⟨w29, rfl, hw29⟩, rfl⟩⟩⟩⟩, ⟨_, _, rfl, ⟨w30, rfl, hw30⟩, ⟨_, _, rfl, rfl, rfl⟩⟩⟩ := r_y28
  obtain ⟨_, _, _, _, _, rfl⟩ := hw29.isl
  refine WO.q (.r fun _ => rfl) rfl rfl ?_
  refine WO.q (.fa (fa131_0 _ _)) rfl rfl ?_
  refine WO.q (.fa (fa53_3 _ _)) rfl rfl ?_
  refine WO.ql (.ldSm rfl (inE m_y28) rfl ti51 rfl) rfl rfl ?_
  obtain ⟨y31, hy31, h⟩ := Option.bind_eq_some_iff.1 h
  refine WO.c1 rfl rfl (ext_List_Cut_ok hw29 hy31) rfl rfl rfl ?_
  rintro _ B _ hK ⟨v37, v32, b33, n34, c35, rfl, h38, rfl, h36⟩
  obtain ⟨_, _, _, _, _, rfl⟩ := h38.isl
  obtain ⟨_, _, _, _, _, rfl⟩ := h36.isl
  replace h14 := h14.up hK
  replace hw29 := hw29.up hK
  replace hH := hH.up hK
  replace hB := hB.trans hK.w
  refine WO.q (.mv (v := .tup _) rfl) rfl rfl ?_
  refine WO.q (.r fun _ => rfl) rfl rfl ?_
  refine WO.q (.r fun _ => rfl) rfl rfl ?_
  refine WO.q (.r fun _ => rfl) rfl rfl ?_
  refine WO.q (.as (v := .sl _ _ _ _ _ _) rfl) rfl rfl ?_
  refine WO.q (.as (v := .sl _ _ _ _ _ _) rfl) rfl rfl ?_
  refine WO.q (.as (v := .int _ _) rfl) rfl rfl ?_
  refine WO.nil ?_
  refine WX.seq ?_
  refine WX.reg ?_
  refine WO.q (.mv (v := .sl _ _ _ _ _ _) rfl) rfl rfl ?_
  refine WO.q (.as (v := .sl _ _ _ _ _ _) rfl) rfl rfl ?_
  refine WO.nil ?_
  obtain rfl := Option.some.inj h
  exact WX.ret (rs_ (rs_tmp rfl rs_nil)) fun st hp => ⟨_, _, _, hB, (hp.pk [] (by decide)), _, rfl, rfl, hH, h38⟩
theorem tree_Tree_reap_ok {B0 : Kn} {L : Own} {H : Heap} {E : Own} (hH : HR B0 H E) {a0 : Nat} {a1 : Int} {v0_0 : AV} (g0_0 : HPt B0 126 v0_0 a0) {r : Heap × (List (Int × Int))} (h : tree_Tree_reap H a0 a1 = some r) : ∀ st, Hp B0 (E ++ L) st → ASpec Tryz.prog 92 [v0_0, .int .i64 a1] st (tree_Tree_reap_P B0 L r) := by
  unfold tree_Tree_reap at h
  refine bodyA (A := []) (L := E ++ L) Tryz.func92 rfl (c := bodyOf Tryz.f92) rfl Tryz.ntmps92 (lb rfl) fun n0 => ?_
  have hB := KLw.refl B0
  refine WX.seq ?_
  refine WX.reg ?_
  refine WO.q (.as (v := .sl _ _ _ _ _ _) rfl) rfl rfl ?_
  refine WO.nil ?_
  refine WX.seq ?_
  refine WX.reg ?_
  refine WO.q (.mv (v := v0_0) rfl) rfl rfl ?_
  obtain ⟨y1, hy1, h⟩ := Option.bind_eq_some_iff.1 h
  obtain ⟨b_y1, c_y1, e_y1, m_y1, r_y1, u_y1⟩ := hgetS (foc126 hH) g0_0 hy1
  subst e_y1
  obtain ⟨_, _, rfl, ⟨w2, rfl, hw2⟩, ⟨_, _, rfl, ⟨w3, rfl, hw3⟩, ⟨w4, rfl, hw4⟩⟩⟩ := r_y1
  refine WO.q (.r fun _ => rfl) rfl rfl ?_
  refine WO.q (.fa (fa126_0 _ _)) rfl rfl ?_
  refine WO.ql (.ldSm rfl (inE m_y1) rfl ti122 rfl) rfl rfl ?_
  refine WO.q (.mv (v := .int _ _) rfl) rfl rfl ?_
  obtain ⟨y5, hy5, h⟩ := Option.bind_eq_some_iff.1 h
  refine WO.md (MOp.lookup mt122 (foc122 hH) hw2 hy5 kI rfl rfl) rfl rfl ?_
  rintro c6 _ ⟨rfl, _, r7, rfl⟩
  have hw8 := r7
  refine WO.q (.as (v := c6) rfl) rfl rfl ?_
  refine WO.nil ?_
  refine WX.seq ?_
  refine WX.seq ?_
  refine WX.reg ?_
  refine WO.q (.mv (v := c6) rfl) rfl rfl ?_
  obtain ⟨y9, hy9, h⟩ := Option.bind_eq_some_iff.1 h
  obtain ⟨b_y9, c_y9, e_y9, m_y9, r_y9, u_y9⟩ := hgetS (foc131 hH) hw8 hy9
  subst e_y9
  obtain ⟨_, _, rfl, ⟨_, _, rfl, rfl, ⟨_, _, rfl, rfl, ⟨_, _, rfl, rfl, ⟨_, _, rfl, ⟨w10, rfl, hw10⟩, rfl⟩⟩⟩⟩, ⟨_, _, rfl, ⟨w11, rfl, hw11⟩, ⟨_, _, rfl, rfl, rfl⟩⟩⟩ := r_y9
  obtain ⟨_, _, _, _, _, rfl⟩ := hw10.isl
  refine WO.q (.r fun _ => rfl) rfl rfl ?_
  refine WO.q (.fa (fa131_0 _ _)) rfl rfl ?_
  refine WO.q (.fa (fa53_1 _ _)) rfl rfl ?_
  refine WO.ql (.ldSm rfl (inE m_y9) rfl ti3 rfl) rfl rfl ?_
  refine WO.q (.r fun _ => rfl) rfl rfl ?_
  refine WO.q (.mv (v := .bool _) rfl) rfl rfl ?_
  rcases bsp (decide (0 < y9.1.2.1)) with k12 | k12
  have q_k12 := of_decide_eq_true k12
  replace h := (if_pos q_k12).symm.trans h
  refine WO.sd (wg rfl rfl (gfn k12)) rfl ?_
  refine WO.sd (wg rfl rfl (gfn k12)) rfl ?_
  refine WO.sd (wg rfl rfl (gfn k12)) rfl ?_
  refine WO.sd (wg rfl rfl (gfn k12)) rfl ?_
  refine WO.sd (wg rfl rfl (gfn k12)) rfl ?_
  refine WO.q (.ptv (v := .bool _) rfl k12 rfl) rfl rfl ?_
  refine WO.nil ?_
  refine WX.keep [0, 1, 5, 27] (WX.pk [] (by decide) ?_) rfl
  exact tree_Tree_reap_j2_ok h _ _ _ _ ⟨hB, hH, _, _, g0_0, hw8, rfl, rfl⟩
  have q_k12 := of_decide_eq_false k12
  replace h := (if_neg q_k12).symm.trans h
  refine WO.q (.mv (v := .ptr b_y9 0) rfl) (wg rfl rfl (gf k12)) rfl ?_
  refine WO.q (.r fun _ => rfl) (wg rfl rfl (gf k12)) rfl ?_
  refine WO.q (.fa (fa131_3 _ _)) (wg rfl rfl (gf k12)) rfl ?_
  refine WO.ql (.ldSm rfl (inE m_y9) rfl ti3 rfl) (wg rfl rfl (gf k12)) rfl ?_
  refine WO.q (.r fun _ => rfl) (wg rfl rfl (gf k12)) rfl ?_
  refine WO.q (.pfv (v := .bool _) rfl k12 rfl) rfl rfl ?_
  refine WO.nil ?_
  refine WX.keep [0, 1, 5, 27] (WX.pk [] (by decide) ?_) rfl
  exact tree_Tree_reap_j2_ok h _ _ _ _ ⟨hB, hH, _, _, g0_0, hw8, rfl, rfl⟩
def tree_Tree_links_P (B : Kn) (L : Own) (r : Heap × (List (Int × Int))) : AV → St → Prop := CH B L fun B' X E' v => ∃ w0, v = w0 ∧ X = [] ∧ HR B' r.1 E' ∧ RSl EPIi64Ii64Q B' w0 r.2
theorem tree_Tree_links_ok {B0 : Kn} {L : Own} {H : Heap} {E : Own} (hH : HR B0 H E) {a0 : Nat} {a1 : Int} {a2 : Int} {v0_0 : AV} (g0_0 : HPt B0 126 v0_0 a0) {r : Heap × (List (Int × Int))} (h : tree_Tree_links H a0 a1 a2 = some r) : ∀ st, Hp B0 (E ++ L) st → ASpec Tryz.prog 85 [v0_0, .int .i64 a1, .int .i64 a2] st (tree_Tree_links_P B0 L r) := by
  unfold tree_Tree_links at h
  refine bodyA (A := []) (L := E ++ L) Tryz.func85 rfl (c := bodyOf Tryz.f85) rfl Tryz.ntmps85 (lb rfl) fun n0 => ?_
  have hB := KLw.refl B0
  refine WX.seq ?_
  refine WX.reg ?_
  refine WO.q (.as (v := .sl _ _ _ _ _ _) rfl) rfl rfl ?_
  refine WO.nil ?_
  refine WX.seq ?_
  refine WX.reg ?_
  refine WO.q (.mv (v := v0_0) rfl) rfl rfl ?_
  obtain ⟨y1, hy1, h⟩ := Option.bind_eq_some_iff.1 h
  obtain ⟨b_y1, c_y1, e_y1, m_y1, r_y1, u_y1⟩ := hgetS (foc126 hH) g0_0 hy1
  subst e_y1
  obtain ⟨_, _, rfl, ⟨w2, rfl, hw2⟩, ⟨_, _, rfl, ⟨w3, rfl, hw3⟩, ⟨w4, rfl, hw4⟩⟩⟩ := r_y1
  refine WO.q (.r fun _ => rfl) rfl rfl ?_
  refine WO.q (.fa (fa126_0 _ _)) rfl rfl ?_
  refine WO.ql (.ldSm rfl (inE m_y1) rfl ti122 rfl) rfl rfl ?_
  refine WO.q (.mv (v := .int _ _) rfl) rfl rfl ?_
  obtain ⟨y5, hy5, h⟩ := Option.bind_eq_some_iff.1 h
  refine WO.md (MOp.lookup mt122 (foc122 hH) hw2 hy5 kI rfl rfl) rfl rfl ?_
  rintro c6 _ ⟨rfl, _, r7, rfl⟩
  have hw8 := r7
  obtain ⟨y9, hy9, h⟩ := Option.bind_eq_some_iff.1 h
  obtain ⟨b_y9, c_y9, e_y9, m_y9, r_y9, u_y9⟩ := hgetS (foc131 hH) hw8 hy9
  subst e_y9
  obtain ⟨_, _, rfl, ⟨_, _, rfl, rfl, ⟨_, _, rfl, rfl, ⟨_, _, rfl, rfl, ⟨_, _, rfl, ⟨w10, rfl, hw10⟩, rfl⟩⟩⟩⟩, ⟨_, _, rfl, ⟨w11, rfl, hw11⟩, ⟨_, _, rfl, rfl, rfl⟩⟩⟩ := r_y9
  obtain ⟨_, _, _, _, _, rfl⟩ := hw10.isl
  refine WO.q (.r fun _ => rfl) rfl rfl ?_
  refine WO.q (.fa (fa131_0 _ _)) rfl rfl ?_
  refine WO.q (.fa (fa53_1 _ _)) rfl rfl ?_
  refine WO.ql (.ldSm rfl (inE m_y9) rfl ti3 rfl) rfl rfl ?_
  refine WO.q (.mv (v := .int _ _) rfl) rfl rfl ?_
  refine WO.q (.r fun _ => rfl) rfl rfl ?_
  refine WO.q (.r fun _ => rfl) rfl rfl ?_
  refine WO.q (.fa (fa131_0 _ _)) rfl rfl ?_
  refine WO.q (.fa (fa53_1 _ _)) rfl rfl ?_
  obtain ⟨H12, e_H12, h⟩ := Option.bind_eq_some_iff.1 h
  obtain ⟨_, z_z13, k_z13⟩ := u_y9 _ ((y9.1.1, (wi64 (y9.1.2.1 + a2)), y9.1.2.2.1, y9.1.2.2.2.1, y9.1.2.2.2.2), y9.2.1, y9.2.2.1, y9.2.2.2) (Rp (Rp Ri (Rp Ri (Rp Ri (Rp (Rl hw10) Rs)))) (Rp (Rhp hw11) (Rp Ri Ri)))
  refine WO.en (MOpE.st rfl (cI rfl) z_z13 ti3 rfl rfl (lb rfl) rfl) rfl ?_
  rintro _ _ _ _ ⟨rfl, rfl, rfl⟩
  replace hH := HRe e_H12 k_z13
  refine WO.nil ?_
  refine WX.seq ?_
  refine WX.reg ?_
  refine WO.q (.mv (v := .ptr b_y1 0) rfl) rfl rfl ?_
  obtain ⟨y14, hy14, h⟩ := Option.bind_eq_some_iff.1 h
  obtain ⟨c_y14, m_y14, r_y14, u_y14⟩ := hgetP (foc126 hH) g0_0 hy14
  obtain ⟨_, _, rfl, ⟨w15, rfl, hw15⟩, ⟨_, _, rfl, ⟨w16, rfl, hw16⟩, ⟨w17, rfl, hw17⟩⟩⟩ := r_y14
  refine WO.q (.r fun _ => rfl) rfl rfl ?_
  refine WO.q (.fa (fa126_2 _ _)) rfl rfl ?_
  refine WO.ql (.ldSm rfl (inE m_y14) rfl ti124 rfl) rfl rfl ?_
  refine WO.q (.mv (v := .int _ _) rfl) rfl rfl ?_
  obtain ⟨y18, hy18, h⟩ := Option.bind_eq_some_iff.1 h
  obtain ⟨H19, e_H19, h⟩ := Option.bind_eq_some_iff.1 h
  refine WO.en (MOpE.put mt124 (foc124 hH) hw17 hy18 kI kB rfl rfl rfl) rfl ?_
  rintro _ _ _ E ⟨rfl, rfl, hH⟩
  replace hH := HRe e_H19 hH
  refine WO.nil ?_
  refine WX.seq ?_
  refine WX.reg ?_
  refine WO.q (.mv (v := .ptr b_y1 0) rfl) rfl rfl ?_
  refine WO.q (.mv (v := .int _ _) rfl) rfl rfl ?_
  obtain ⟨y20, hy20, h⟩ := Option.bind_eq_some_iff.1 h
  refine WO.ch rfl rfl (tree_Tree_reap_ok hH g0_0 hy20) rfl rfl rfl ?_
  rintro _ B _ E hK ⟨v21, rfl, rfl, hH, h22⟩
  obtain ⟨_, _, _, _, _, rfl⟩ := h22.isl
  replace g0_0 := g0_0.upw hK
  replace hB := hB.trans hK
  refine WO.q (.as (v := .sl _ _ _ _ _ _) rfl) rfl rfl ?_
  refine WO.nil ?_
  obtain rfl := Option.some.inj h
  exact WX.ret (rs_ (rs_tmp rfl rs_nil)) fun st hp => ⟨_, _, _, hB, (hp.pk [] (by decide)), _, rfl, rfl, hH, h22⟩
def tree_Tree_put_P (B : Kn) (L : Own) (r : Heap) : AV → St → Prop := CH B L fun B' X E' v => v = .tup [] ∧ X = [] ∧ HR B' r E'
theorem tree_Tree_put_ok {B0 : Kn} {L : Own} {H : Heap} {E : Own} (hH : HR B0 H E) {a0 : Nat} {a1 : Int} {a2 : List UInt8} {a3 : Int} {v0_0 : AV} (g0_0 : HPt B0 126 v0_0 a0) {r : Heap} (h : tree_Tree_put H a0 a1 a2 a3 = some r) : ∀ st, Hp B0 (E ++ L) st → ASpec Tryz.prog 88 [v0_0, .int .i64 a1, .str a2, .int .i64 a3] st (tree_Tree_put_P B0 L r) := by
  unfold tree_Tree_put at h
  refine bodyA (A := []) (L := E ++ L) Tryz.func88 rfl (c := bodyOf Tryz.f88) rfl Tryz.ntmps88 (lb rfl) fun n0 => ?_
  have hB := KLw.refl B0
  refine WX.seq ?_
  refine WX.reg ?_
  refine WO.q (.mv (v := v0_0) rfl) rfl rfl ?_
  obtain ⟨y1, hy1, h⟩ := Option.bind_eq_some_iff.1 h
  obtain ⟨b_y1, c_y1, e_y1, m_y1, r_y1, u_y1⟩ := hgetS (foc126 hH) g0_0 hy1
  subst e_y1
  obtain ⟨_, _, rfl, ⟨w2, rfl, hw2⟩, ⟨_, _, rfl, ⟨w3, rfl, hw3⟩, ⟨w4, rfl, hw4⟩⟩⟩ := r_y1
  refine WO.q (.r fun _ => rfl) rfl rfl ?_
  refine WO.q (.fa (fa126_0 _ _)) rfl rfl ?_
  refine WO.ql (.ldSm rfl (inE m_y1) rfl ti122 rfl) rfl rfl ?_
  refine WO.q (.mv (v := .int _ _) rfl) rfl rfl ?_
  obtain ⟨y5, hy5, h⟩ := Option.bind_eq_some_iff.1 h
  refine WO.md (MOp.lookup mt122 (foc122 hH) hw2 hy5 kI rfl rfl) rfl rfl ?_
  rintro c6 _ ⟨rfl, _, r7, rfl⟩
  have hw8 := r7
  obtain ⟨y9, hy9, h⟩ := Option.bind_eq_some_iff.1 h
  obtain ⟨b_y9, c_y9, e_y9, m_y9, r_y9, u_y9⟩ := hgetS (foc131 hH) hw8 hy9
  subst e_y9
  obtain ⟨_, _, rfl, ⟨_, _, rfl, rfl, ⟨_, _, rfl, rfl, ⟨_, _, rfl, rfl, ⟨_, _, rfl, ⟨w10, rfl, hw10⟩, rfl⟩⟩⟩⟩, ⟨_, _, rfl, ⟨w11, rfl, hw11⟩, ⟨_, _, rfl, rfl, rfl⟩⟩⟩ := r_y9
  obtain ⟨_, _, _, _, _, rfl⟩ := hw10.isl
  refine WO.q (.r fun _ => rfl) rfl rfl ?_
  refine WO.q (.fa (fa131_1 _ _)) rfl rfl ?_
  refine WO.ql (.ldSm rfl (inE m_y9) rfl ti128 rfl) rfl rfl ?_
  refine WO.q (.mv (v := .str _) rfl) rfl rfl ?_
  refine WO.q (.mv (v := .int _ _) rfl) rfl rfl ?_
  obtain ⟨y12, hy12, h⟩ := Option.bind_eq_some_iff.1 h
  refine WO.ch rfl rfl (dir_Dir_Put_ok hH hw11 hy12) rfl rfl rfl ?_
  rintro _ B _ E hK ⟨rfl, rfl, hH⟩
  replace g0_0 := g0_0.upw hK
  replace hw2 := hw2.upw hK
  replace hw8 := hw8.upw hK
  replace hw11 := hw11.upw hK
  replace hB := hB.trans hK
  refine WO.nil ?_
  refine WX.reg ?_
  refine WO.q (.mv (v := .ptr b_y1 0) rfl) rfl rfl ?_
  obtain ⟨y13, hy13, h⟩ := Option.bind_eq_some_iff.1 h
  obtain ⟨c_y13, m_y13, r_y13, u_y13⟩ := hgetP (foc126 hH) g0_0 hy13
  obtain ⟨_, _, rfl, ⟨w14, rfl, hw14⟩, ⟨_, _, rfl, ⟨w15, rfl, hw15⟩, ⟨w16, rfl, hw16⟩⟩⟩ := r_y13
  refine WO.q (.r fun _ => rfl) rfl rfl ?_
  refine WO.q (.fa (fa126_1 _ _)) rfl rfl ?_
  refine WO.ql (.ldSm rfl (inE m_y13) rfl ti123 rfl) rfl rfl ?_
  refine WO.q (.mv (v := .int _ _) rfl) rfl rfl ?_
  refine WO.q (.mv (v := .str _) rfl) rfl rfl ?_
  refine WO.q (.bd (bd166_0_1 (cI rfl) (cS rfl))) rfl rfl ?_
  obtain ⟨y17, hy17, h⟩ := Option.bind_eq_some_iff.1 h
  obtain ⟨H18, e_H18, h⟩ := Option.bind_eq_some_iff.1 h
  refine WO.en (MOpE.put mt123 (foc123 hH) hw15 hy17 (kG (Rp Ri Rs)) kB rfl rfl rfl) rfl ?_
  rintro _ _ _ E ⟨rfl, rfl, hH⟩
  replace hH := HRe e_H18 hH
  refine WO.nil ?_
  obtain rfl := Option.some.inj h
  exact WX.fin (rs_ rs_nil) fun st hp => ⟨_, _, _, hB, (hp.pk [] (by decide)), rfl, rfl, hH⟩
end Gab
end
section
set_option linter.unusedSimpArgs false
set_option linter.unusedVariables false
set_option maxHeartbeats 4000000
set_option maxRecDepth 100000
namespace Gab
open Go Go.Proofs
def inode_Need_P (B : Kn) (L : Own) (r : Int) : AV → St → Prop := CS B L fun v => v = .int .i64 r
theorem inode_Need_ok {B0 : Kn} {L : Own} {a0 : Int} {r : Int} (h : inode_Need a0 = some r) : ∀ st, Hp B0 L st → ASpec Tryz.prog 118 [.int .i64 a0] st (inode_Need_P B0 L r) := by
  unfold inode_Need at h
  refine bodyA (A := []) Tryz.func118 rfl (c := bodyOf Tryz.f118) rfl Tryz.ntmps118 (lb rfl) fun n0 => ?_
  have hB := KLe.refl B0
  refine WX.seq ?_
  refine WX.reg ?_
  refine WO.q (.as (v := .int _ _) rfl) rfl rfl ?_
  refine WO.nil ?_
  refine WX.seq ?_
  refine WX.seq ?_
  refine WX.reg ?_
  refine WO.q (.mv (v := .int _ _) rfl) rfl rfl ?_
  refine WO.q (.r fun _ => rfl) rfl rfl ?_
  refine WO.nil ?_
  rcases bsp (decide (a0 < 1)) with k1 | k1
  have q_k1 := of_decide_eq_true k1
  replace h := (if_pos q_k1).symm.trans h
  refine WX.condT rfl k1 ?_
  refine WX.seq ?_
  refine WX.reg ?_
  refine WO.q (.as (v := .int _ _) rfl) rfl rfl ?_
  refine WO.nil ?_
  obtain rfl := Option.some.inj h
  exact WX.ret (rs_ (rs_tmp rfl rs_nil)) fun st hp => ⟨(hp.pk [] (by decide)).le hB, rfl⟩
  have q_k1 := of_decide_eq_false k1
  replace h := (if_neg q_k1).symm.trans h
  refine WX.condF rfl k1 ?_
  refine WX.skip ?_
  refine WX.seq ?_
  refine WX.reg ?_
  refine WO.q (.mv (v := .int _ _) rfl) rfl rfl ?_
  refine WO.q (.r fun _ => rfl) rfl rfl ?_
  refine WO.q (.r fun _ => rfl) rfl rfl ?_
  refine WO.q (.r fun _ => rfl) rfl rfl ?_
  refine WO.q (.as (v := .int _ _) rfl) rfl rfl ?_
  refine WO.nil ?_
  obtain rfl := Option.some.inj h
  exact WX.ret (rs_ (rs_tmp rfl rs_nil)) fun st hp => ⟨(hp.pk [] (by decide)).le hB, rfl⟩
def inode_Inode_file_P (B : Kn) (L : Own) (r : Bool) : AV → St → Prop := CS B L fun v => v = .bool r
theorem inode_Inode_file_ok {B0 : Kn} {L : Own} {a0 : Int × Int × Int × (List (Int × Int)) × (List UInt8)} {v0_0 : AV} (g0_0 : RSl EPIi64Ii64Q B0 v0_0 a0.2.2.2.1) {r : Bool} (h : inode_Inode_file a0 = some r) : ∀ st, Hp B0 L st → ASpec Tryz.prog 72 [.agg [.int .u8 a0.1, .int .i64 a0.2.1, .int .i64 a0.2.2.1, v0_0, .str a0.2.2.2.2]] st (inode_Inode_file_P B0 L r) := by
  unfold inode_Inode_file at h
  refine bodyA (A := []) Tryz.func72 rfl (c := bodyOf Tryz.f72) rfl Tryz.ntmps72 (lb rfl) fun n0 => ?_
  have hB := KLe.refl B0
  obtain ⟨_, _, _, _, _, rfl⟩ := g0_0.isl
  refine WX.seq ?_
  refine WX.reg ?_
  refine WO.md (MOp.box (cA rfl)) rfl rfl ?_
  rintro _ _ ⟨b1, rfl, rfl⟩
  refine WO.q (.as (v := .bool _) rfl) rfl rfl ?_
  refine WO.nil ?_
  refine WX.seq ?_
  refine WX.drw (Plan.of [0, 1, 2, 3, 4, 5, 6, 7, 8, 9, 10, 11, 12, 13, 14, 15, 17, 18, 16, 19, 20, 21, 22, 23, 24, 25, 26, 27] .nil) _ mixed (by kernel_rfl) rfl (subL (pk_sub [0])) ?_
  refine WP.q (i := 0) rfl (.fa (fa53_2 _ _)) rfl rfl rfl ?_
  refine WP.q (i := 1) rfl (.ldS (i := 0) rfl rfl rfl ti3 rfl) rfl rfl rfl ?_
  refine WP.q (i := 2) rfl (.r fun _ => rfl) rfl rfl rfl ?_
  refine WP.q (i := 3) rfl (.mv (v := .bool _) rfl) rfl rfl rfl ?_
  rcases bsp (decide (0 ≤ a0.2.2.1)) with k2 | k2
  have q_k2 := of_decide_eq_true k2
  replace h := (if_pos q_k2).symm.trans h
  refine WP.q (i := 4) rfl (.fa (fa53_2 _ _)) rfl (wg rfl rfl (gt k2)) rfl ?_
  refine WP.q (i := 5) rfl (.ldS (i := 0) rfl rfl rfl ti3 rfl) rfl (wg rfl rfl (gt k2)) rfl ?_
  refine WP.q (i := 6) rfl (.r fun _ => rfl) rfl (wg rfl rfl (gt k2)) rfl ?_
  refine WP.q (i := 7) rfl (.ptv (v := .bool _) rfl k2 rfl) rfl rfl rfl ?_
  refine WP.q (i := 8) rfl (.mv (v := .bool _) rfl) rfl rfl rfl ?_
  rcases bsp (decide (a0.2.2.1 ≤ 4194304)) with k3 | k3
  have q_k3 := of_decide_eq_true k3
  replace h := (if_pos q_k3).symm.trans h
  refine WP.q (i := 9) rfl (.fa (fa53_3 _ _)) rfl (wg rfl rfl (gt k3)) rfl ?_
  refine WP.q (i := 10) rfl (.ldS (i := 0) rfl rfl rfl ti51 rfl) rfl (wg rfl rfl (gt k3)) rfl ?_
  obtain ⟨y4, hy4, h⟩ := Option.bind_eq_some_iff.1 h
  refine WP.cS (i := 11) rfl rfl rfl (ext_List_Right_ok g0_0 hy4) rfl (wg rfl rfl (gt k3)) rfl ?_
  rintro _ rfl
  refine WP.q (i := 12) rfl (.ptv (v := .bool _) rfl k3 rfl) rfl rfl rfl ?_
  refine WP.q (i := 13) rfl (.mv (v := .bool _) rfl) rfl rfl rfl ?_
  rcases bsp y4 with k5 | k5
  replace h := (if_pos k5).symm.trans h
  refine WP.q (i := 14) rfl (.fa (fa53_3 _ _)) rfl (wg rfl rfl (gt k5)) rfl ?_
  refine WP.q (i := 15) rfl (.ldS (i := 0) rfl rfl rfl ti51 rfl) rfl (wg rfl rfl (gt k5)) rfl ?_
  refine WP.q (i := 17) rfl (.fa (fa53_2 _ _)) rfl (wg rfl rfl (gt k5)) rfl ?_
  refine WP.q (i := 18) rfl (.ldS (i := 0) rfl rfl rfl ti3 rfl) rfl (wg rfl rfl (gt k5)) rfl ?_
  obtain ⟨y6, hy6, h⟩ := Option.bind_eq_some_iff.1 h
  refine WP.cS (i := 16) rfl rfl rfl (ext_List_Blocks_ok g0_0 hy6) rfl (wg rfl rfl (gt k5)) rfl ?_
  rintro _ rfl
  obtain ⟨y7, hy7, h⟩ := Option.bind_eq_some_iff.1 h
  refine WP.cS (i := 19) rfl rfl rfl (inode_Need_ok hy7) rfl (wg rfl rfl (gt k5)) rfl ?_
  rintro _ rfl
  refine WP.q (i := 20) rfl (.r fun _ => rfl) rfl (wg rfl rfl (gt k5)) rfl ?_
  refine WP.q (i := 21) rfl (.ptv (v := .bool _) rfl k5 rfl) rfl rfl rfl ?_
  refine WP.q (i := 22) rfl (.mv (v := .bool _) rfl) rfl rfl rfl ?_
  rcases bsp (decide (y6 = y7)) with k8 | k8
  have q_k8 := of_decide_eq_true k8
  replace h := (if_pos q_k8).symm.trans h
  refine WP.q (i := 23) rfl (.fa (fa53_4 _ _)) rfl (wg rfl rfl (gt k8)) rfl ?_
  refine WP.q (i := 24) rfl (.ldS (i := 0) rfl rfl rfl ti9 rfl) rfl (wg rfl rfl (gt k8)) rfl ?_
  refine WP.q (i := 25) rfl (.r fun _ => rfl) rfl (wg rfl rfl (gt k8)) rfl ?_
  refine WP.q (i := 26) rfl (.ptv (v := .bool _) rfl k8 rfl) rfl rfl rfl ?_
  refine WP.q (i := 27) rfl (.as (v := .bool _) rfl) rfl rfl rfl ?_
  refine WP.nil ?_
  obtain rfl := Option.some.inj h
  exact WX.ret (rs_ (rs_tmp rfl rs_nil)) fun st hp => ⟨(hp.pk [] (by decide)).le hB, rfl⟩
  have q_k8 := of_decide_eq_false k8
  replace h := (if_neg q_k8).symm.trans h
  refine WP.sk (i := 23) rfl rfl (wg rfl rfl (gtn k8)) rfl ?_
  refine WP.sk (i := 24) rfl rfl (wg rfl rfl (gtn k8)) rfl ?_
  refine WP.sk (i := 25) rfl rfl (wg rfl rfl (gtn k8)) rfl ?_
  refine WP.q (i := 26) rfl (.pfv (v := .bool _) rfl k8 rfl) rfl rfl rfl ?_
  refine WP.q (i := 27) rfl (.as (v := .bool _) rfl) rfl rfl rfl ?_
  refine WP.nil ?_
  obtain rfl := Option.some.inj h
  exact WX.ret (rs_ (rs_tmp rfl rs_nil)) fun st hp => ⟨(hp.pk [] (by decide)).le hB, rfl⟩
  replace h := (if_neg (bnt k5)).symm.trans h
  refine WP.sk (i := 14) rfl rfl (wg rfl rfl (gtn k5)) rfl ?_
  refine WP.sk (i := 15) rfl rfl (wg rfl rfl (gtn k5)) rfl ?_
  refine WP.sk (i := 17) rfl rfl (wg rfl rfl (gtn k5)) rfl ?_
  refine WP.sk (i := 18) rfl rfl (wg rfl rfl (gtn k5)) rfl ?_
  refine WP.sd (i := 16) rfl rfl (wg rfl rfl (gtn k5)) rfl ?_
  refine WP.sd (i := 19) rfl rfl (wg rfl rfl (gtn k5)) rfl ?_
  refine WP.sk (i := 20) rfl rfl (wg rfl rfl (gtn k5)) rfl ?_
  refine WP.q (i := 21) rfl (.pfv (v := .bool _) rfl k5 rfl) rfl rfl rfl ?_
  refine WP.q (i := 22) rfl (.mv (v := .bool _) rfl) rfl rfl rfl ?_
  refine WP.sk (i := 23) rfl rfl (wg rfl rfl (gtn rfl)) rfl ?_
  refine WP.sk (i := 24) rfl rfl (wg rfl rfl (gtn rfl)) rfl ?_
  refine WP.sk (i := 25) rfl rfl (wg rfl rfl (gtn rfl)) rfl ?_
  refine WP.q (i := 26) rfl (.pfv (v := .bool _) rfl rfl rfl) rfl rfl rfl ?_
  refine WP.q (i := 27) rfl (.as (v := .bool _) rfl) rfl rfl rfl ?_
  refine WP.nil ?_
  obtain rfl := Option.some.inj h
  exact WX.ret (rs_ (rs_tmp rfl rs_nil)) fun st hp => ⟨(hp.pk [] (by decide)).le hB, rfl⟩
  have q_k3 := of_decide_eq_false k3
  replace h := (if_neg q_k3).symm.trans h
  refine WP.sk (i := 9) rfl rfl (wg rfl rfl (gtn k3)) rfl ?_
  refine WP.sk (i := 10) rfl rfl (wg rfl rfl (gtn k3)) rfl ?_
  refine WP.sd (i := 11) rfl rfl (wg rfl rfl (gtn k3)) rfl ?_
  refine WP.q (i := 12) rfl (.pfv (v := .bool _) rfl k3 rfl) rfl rfl rfl ?_
  refine WP.q (i := 13) rfl (.mv (v := .bool _) rfl) rfl rfl rfl ?_
  refine WP.sk (i := 14) rfl rfl (wg rfl rfl (gtn rfl)) rfl ?_
  refine WP.sk (i := 15) rfl rfl (wg rfl rfl (gtn rfl)) rfl ?_
  refine WP.sk (i := 17) rfl rfl (wg rfl rfl (gtn rfl)) rfl ?_
  refine WP.sk (i := 18) rfl rfl (wg rfl rfl (gtn rfl)) rfl ?_
  refine WP.sd (i := 16) rfl rfl (wg rfl rfl (gtn rfl)) rfl ?_
  refine WP.sd (i := 19) rfl rfl (wg rfl rfl (gtn rfl)) rfl ?_
  refine WP.sk (i := 20) rfl rfl (wg rfl rfl (gtn rfl)) rfl ?_
  refine WP.q (i := 21) rfl (.pfv (v := .bool _) rfl rfl rfl) rfl rfl rfl ?_
  refine WP.q (i := 22) rfl (.mv (v := .bool _) rfl) rfl rfl rfl ?_
  refine WP.sk (i := 23) rfl rfl (wg rfl rfl (gtn rfl)) rfl ?_
  refine WP.sk (i := 24) rfl rfl (wg rfl rfl (gtn rfl)) rfl ?_
  refine WP.sk (i := 25) rfl rfl (wg rfl rfl (gtn rfl)) rfl ?_
  refine WP.q (i := 26) rfl (.pfv (v := .bool _) rfl rfl rfl) rfl rfl rfl ?_
  refine WP.q (i := 27) rfl (.as (v := .bool _) rfl) rfl rfl rfl ?_
  refine WP.nil ?_
  obtain rfl := Option.some.inj h
  exact WX.ret (rs_ (rs_tmp rfl rs_nil)) fun st hp => ⟨(hp.pk [] (by decide)).le hB, rfl⟩
  have q_k2 := of_decide_eq_false k2
  replace h := (if_neg q_k2).symm.trans h
  refine WP.sk (i := 4) rfl rfl (wg rfl rfl (gtn k2)) rfl ?_
  refine WP.sk (i := 5) rfl rfl (wg rfl rfl (gtn k2)) rfl ?_
  refine WP.sk (i := 6) rfl rfl (wg rfl rfl (gtn k2)) rfl ?_
  refine WP.q (i := 7) rfl (.pfv (v := .bool _) rfl k2 rfl) rfl rfl rfl ?_
  refine WP.q (i := 8) rfl (.mv (v := .bool _) rfl) rfl rfl rfl ?_
  refine WP.sk (i := 9) rfl rfl (wg rfl rfl (gtn rfl)) rfl ?_
  refine WP.sk (i := 10) rfl rfl (wg rfl rfl (gtn rfl)) rfl ?_
  refine WP.sd (i := 11) rfl rfl (wg rfl rfl (gtn rfl)) rfl ?_
  refine WP.q (i := 12) rfl (.pfv (v := .bool _) rfl rfl rfl) rfl rfl rfl ?_
  refine WP.q (i := 13) rfl (.mv (v := .bool _) rfl) rfl rfl rfl ?_
  refine WP.sk (i := 14) rfl rfl (wg rfl rfl (gtn rfl)) rfl ?_
  refine WP.sk (i := 15) rfl rfl (wg rfl rfl (gtn rfl)) rfl ?_
  refine WP.sk (i := 17) rfl rfl (wg rfl rfl (gtn rfl)) rfl ?_
  refine WP.sk (i := 18) rfl rfl (wg rfl rfl (gtn rfl)) rfl ?_
  refine WP.sd (i := 16) rfl rfl (wg rfl rfl (gtn rfl)) rfl ?_
  refine WP.sd (i := 19) rfl rfl (wg rfl rfl (gtn rfl)) rfl ?_
  refine WP.sk (i := 20) rfl rfl (wg rfl rfl (gtn rfl)) rfl ?_
  refine WP.q (i := 21) rfl (.pfv (v := .bool _) rfl rfl rfl) rfl rfl rfl ?_
  refine WP.q (i := 22) rfl (.mv (v := .bool _) rfl) rfl rfl rfl ?_
  refine WP.sk (i := 23) rfl rfl (wg rfl rfl (gtn rfl)) rfl ?_
  refine WP.sk (i := 24) rfl rfl (wg rfl rfl (gtn rfl)) rfl ?_
  refine WP.sk (i := 25) rfl rfl (wg rfl rfl (gtn rfl)) rfl ?_
  refine WP.q (i := 26) rfl (.pfv (v := .bool _) rfl rfl rfl) rfl rfl rfl ?_
  refine WP.q (i := 27) rfl (.as (v := .bool _) rfl) rfl rfl rfl ?_
  refine WP.nil ?_
  obtain rfl := Option.some.inj h
  exact WX.ret (rs_ (rs_tmp rfl rs_nil)) fun st hp => ⟨(hp.pk [] (by decide)).le hB, rfl⟩
def inode_Inode_link_P (B : Kn) (L : Own) (r : Bool) : AV → St → Prop := CS B L fun v => v = .bool r
theorem inode_Inode_link_ok {B0 : Kn} {L : Own} {a0 : Int × Int × Int × (List (Int × Int)) × (List UInt8)} {v0_0 : AV} (g0_0 : RSl EPIi64Ii64Q B0 v0_0 a0.2.2.2.1) {r : Bool} (h : inode_Inode_link a0 = some r) : ∀ st, Hp B0 L st → ASpec Tryz.prog 73 [.agg [.int .u8 a0.1, .int .i64 a0.2.1, .int .i64 a0.2.2.1, v0_0, .str a0.2.2.2.2]] st (inode_Inode_link_P B0 L r) := by
  unfold inode_Inode_link at h
  refine bodyA (A := []) Tryz.func73 rfl (c := bodyOf Tryz.f73) rfl Tryz.ntmps73 (lb rfl) fun n0 => ?_
  have hB := KLe.refl B0
  obtain ⟨_, _, _, _, _, rfl⟩ := g0_0.isl
  refine WX.seq ?_
  refine WX.reg ?_
  refine WO.md (MOp.box (cA rfl)) rfl rfl ?_
  rintro _ _ ⟨b1, rfl, rfl⟩
  refine WO.q (.as (v := .bool _) rfl) rfl rfl ?_
  refine WO.nil ?_
  refine WX.seq ?_
  refine WX.reg ?_
  refine WO.q (.fa (fa53_4 _ _)) rfl rfl ?_
  refine WO.q (.ldS (i := 0) rfl rfl rfl ti9 rfl) rfl rfl ?_
  refine WO.q (.len rfl rfl rfl (evslen ti9 rfl _)) rfl rfl ?_
  refine WO.q (.as (v := .int _ _) rfl) rfl rfl ?_
  refine WO.nil ?_
  refine WX.seq ?_
  refine WX.reg ?_
  refine WO.q (.mv (v := .int _ _) rfl) rfl rfl ?_
  refine WO.q (.r fun _ => rfl) rfl rfl ?_
  refine WO.q (.mv (v := .bool _) rfl) rfl rfl ?_
  rcases bsp (decide (1 ≤ (a0.2.2.2.2.length : Int))) with k2 | k2
  have q_k2 := of_decide_eq_true k2
  replace h := (if_pos q_k2).symm.trans h
  refine WO.q (.mv (v := .int _ _) rfl) (wg rfl rfl (gt k2)) rfl ?_
  refine WO.q (.r fun _ => rfl) (wg rfl rfl (gt k2)) rfl ?_
  refine WO.q (.ptv (v := .bool _) rfl k2 rfl) rfl rfl ?_
  refine WO.q (.mv (v := .bool _) rfl) rfl rfl ?_
  rcases bsp (decide ((a0.2.2.2.2.length : Int) ≤ 256)) with k3 | k3
  have q_k3 := of_decide_eq_true k3
  replace h := (if_pos q_k3).symm.trans h
  refine WO.q (.fa (fa53_2 _ _)) (wg rfl rfl (gt k3)) rfl ?_
  refine WO.q (.ldS (i := 0) rfl rfl rfl ti3 rfl) (wg rfl rfl (gt k3)) rfl ?_
  refine WO.q (.mv (v := .int _ _) rfl) (wg rfl rfl (gt k3)) rfl ?_
  refine WO.q (.r fun _ => rfl) (wg rfl rfl (gt k3)) rfl ?_
  refine WO.q (.ptv (v := .bool _) rfl k3 rfl) rfl rfl ?_
  refine WO.q (.mv (v := .bool _) rfl) rfl rfl ?_
  rcases bsp (decide (a0.2.2.1 = (a0.2.2.2.2.length : Int))) with k4 | k4
  have q_k4 := of_decide_eq_true k4
  replace h := (if_pos q_k4).symm.trans h
  refine WO.q (.fa (fa53_3 _ _)) (wg rfl rfl (gt k4)) rfl ?_
  refine WO.q (.ldS (i := 0) rfl rfl rfl ti51 rfl) (wg rfl rfl (gt k4)) rfl ?_
  refine WO.q (.len rfl rfl rfl (sl51.len g0_0.isl)) (wg rfl rfl (gt k4)) rfl ?_
  refine WO.q (.r fun _ => rfl) (wg rfl rfl (gt k4)) rfl ?_
  refine WO.q (.ptv (v := .bool _) rfl k4 rfl) rfl rfl ?_
  refine WO.q (.mv (v := .bool _) rfl) rfl rfl ?_
  rcases bsp (decide ((a0.2.2.2.1.length : Int) = 0)) with k5 | k5
  have q_k5 := of_decide_eq_true k5
  replace h := (if_pos q_k5).symm.trans h
  refine WO.q (.fa (fa53_4 _ _)) (wg rfl rfl (gt k5)) rfl ?_
  refine WO.q (.ldS (i := 0) rfl rfl rfl ti9 rfl) (wg rfl rfl (gt k5)) rfl ?_
  obtain ⟨y6, hy6, h⟩ := Option.bind_eq_some_iff.1 h
  refine WO.cS rfl rfl (strings_Contains_ok hy6) rfl (wg rfl rfl (gt k5)) rfl ?_
  rintro _ rfl
  refine WO.q (.r fun _ => rfl) (wg rfl rfl (gt k5)) rfl ?_
  refine WO.q (.ptv (v := .bool _) rfl k5 rfl) rfl rfl ?_
  refine WO.q (.as (v := .bool _) rfl) rfl rfl ?_
  refine WO.nil ?_
  obtain rfl := Option.some.inj h
  exact WX.ret (rs_ (rs_tmp rfl rs_nil)) fun st hp => ⟨(hp.pk [] (by decide)).le hB, rfl⟩
  have q_k5 := of_decide_eq_false k5
  replace h := (if_neg q_k5).symm.trans h
  refine WO.sd (wg rfl rfl (gtn k5)) rfl ?_
  refine WO.sd (wg rfl rfl (gtn k5)) rfl ?_
  refine WO.sd (wg rfl rfl (gtn k5)) rfl ?_
  refine WO.sd (wg rfl rfl (gtn k5)) rfl ?_
  refine WO.q (.pfv (v := .bool _) rfl k5 rfl) rfl rfl ?_
  refine WO.q (.as (v := .bool _) rfl) rfl rfl ?_
  refine WO.nil ?_
  obtain rfl := Option.some.inj h
  exact WX.ret (rs_ (rs_tmp rfl rs_nil)) fun st hp => ⟨(hp.pk [] (by decide)).le hB, rfl⟩
  have q_k4 := of_decide_eq_false k4
  replace h := (if_neg q_k4).symm.trans h
  refine WO.sd (wg rfl rfl (gtn k4)) rfl ?_
  refine WO.sd (wg rfl rfl (gtn k4)) rfl ?_
  refine WO.sd (wg rfl rfl (gtn k4)) rfl ?_
  refine WO.sd (wg rfl rfl (gtn k4)) rfl ?_
  refine WO.q (.pfv (v := .bool _) rfl k4 rfl) rfl rfl ?_
  refine WO.q (.mv (v := .bool _) rfl) rfl rfl ?_
  refine WO.sd (wg rfl rfl (gtn rfl)) rfl ?_
  refine WO.sd (wg rfl rfl (gtn rfl)) rfl ?_
  refine WO.sd (wg rfl rfl (gtn rfl)) rfl ?_
  refine WO.sd (wg rfl rfl (gtn rfl)) rfl ?_
  refine WO.q (.pfv (v := .bool _) rfl rfl rfl) rfl rfl ?_
  refine WO.q (.as (v := .bool _) rfl) rfl rfl ?_
  refine WO.nil ?_
  obtain rfl := Option.some.inj h
  exact WX.ret (rs_ (rs_tmp rfl rs_nil)) fun st hp => ⟨(hp.pk [] (by decide)).le hB, rfl⟩
  have q_k3 := of_decide_eq_false k3
  replace h := (if_neg q_k3).symm.trans h
  refine WO.sd (wg rfl rfl (gtn k3)) rfl ?_
  refine WO.sd (wg rfl rfl (gtn k3)) rfl ?_
  refine WO.sd (wg rfl rfl (gtn k3)) rfl ?_
  refine WO.sd (wg rfl rfl (gtn k3)) rfl ?_
  refine WO.q (.pfv (v := .bool _) rfl k3 rfl) rfl rfl ?_
  refine WO.q (.mv (v := .bool _) rfl) rfl rfl ?_
  refine WO.sd (wg rfl rfl (gtn rfl)) rfl ?_
  refine WO.sd (wg rfl rfl (gtn rfl)) rfl ?_
  refine WO.sd (wg rfl rfl (gtn rfl)) rfl ?_
  refine WO.sd (wg rfl rfl (gtn rfl)) rfl ?_
  refine WO.q (.pfv (v := .bool _) rfl rfl rfl) rfl rfl ?_
  refine WO.q (.mv (v := .bool _) rfl) rfl rfl ?_
  refine WO.sd (wg rfl rfl (gtn rfl)) rfl ?_
  refine WO.sd (wg rfl rfl (gtn rfl)) rfl ?_
  refine WO.sd (wg rfl rfl (gtn rfl)) rfl ?_
  refine WO.sd (wg rfl rfl (gtn rfl)) rfl ?_
  refine WO.q (.pfv (v := .bool _) rfl rfl rfl) rfl rfl ?_
  refine WO.q (.as (v := .bool _) rfl) rfl rfl ?_
  refine WO.nil ?_
  obtain rfl := Option.some.inj h
  exact WX.ret (rs_ (rs_tmp rfl rs_nil)) fun st hp => ⟨(hp.pk [] (by decide)).le hB, rfl⟩
  have q_k2 := of_decide_eq_false k2
  replace h := (if_neg q_k2).symm.trans h
  refine WO.sd (wg rfl rfl (gtn k2)) rfl ?_
  refine WO.sd (wg rfl rfl (gtn k2)) rfl ?_
  refine WO.q (.pfv (v := .bool _) rfl k2 rfl) rfl rfl ?_
  refine WO.q (.mv (v := .bool _) rfl) rfl rfl ?_
  refine WO.sd (wg rfl rfl (gtn rfl)) rfl ?_
  refine WO.sd (wg rfl rfl (gtn rfl)) rfl ?_
  refine WO.sd (wg rfl rfl (gtn rfl)) rfl ?_
  refine WO.sd (wg rfl rfl (gtn rfl)) rfl ?_
  refine WO.q (.pfv (v := .bool _) rfl rfl rfl) rfl rfl ?_
  refine WO.q (.mv (v := .bool _) rfl) rfl rfl ?_
  refine WO.sd (wg rfl rfl (gtn rfl)) rfl ?_
  refine WO.sd (wg rfl rfl (gtn rfl)) rfl ?_
  refine WO.sd (wg rfl rfl (gtn rfl)) rfl ?_
  refine WO.sd (wg rfl rfl (gtn rfl)) rfl ?_
  refine WO.q (.pfv (v := .bool _) rfl rfl rfl) rfl rfl ?_
  refine WO.q (.mv (v := .bool _) rfl) rfl rfl ?_
  refine WO.sd (wg rfl rfl (gtn rfl)) rfl ?_
  refine WO.sd (wg rfl rfl (gtn rfl)) rfl ?_
  refine WO.sd (wg rfl rfl (gtn rfl)) rfl ?_
  refine WO.sd (wg rfl rfl (gtn rfl)) rfl ?_
  refine WO.q (.pfv (v := .bool _) rfl rfl rfl) rfl rfl ?_
  refine WO.q (.as (v := .bool _) rfl) rfl rfl ?_
  refine WO.nil ?_
  obtain rfl := Option.some.inj h
  exact WX.ret (rs_ (rs_tmp rfl rs_nil)) fun st hp => ⟨(hp.pk [] (by decide)).le hB, rfl⟩
def inode_Inode_Right_P (B : Kn) (L : Own) (r : Bool) : AV → St → Prop := CS B L fun v => v = .bool r
def inode_Inode_Right_j1_I (B0 : Kn) (x10 : Bool) (zb1 : Int × Int × Int × (List (Int × Int)) × (List UInt8)) : Fr → Kn → Own → Prop := fun fr B A => KLe B0 B ∧ ∃ b3 v4, RSl EPIi64Ii64Q B v4 zb1.2.2.2.1 ∧ fr = [(1, .ptr b3 0), (10, .bool x10)] ∧ A = [(b3, some (.c [.int .u8 zb1.1, .int .i64 zb1.2.1, .int .i64 zb1.2.2.1, v4, .str zb1.2.2.2.2]))]
theorem inode_Inode_Right_j1_ok {B0 : Kn} {L : Own} {n0 : Nat} {x10 : Bool} {zb1 : Int × Int × Int × (List (Int × Int)) × (List UInt8)} {r : Bool} (h : inode_Inode_Right_j1 x10 zb1 = some r) : WXI Tryz.prog 37 n0 (Fin Tryz.prog Tryz.f21.results.toList n0 (inode_Inode_Right_P B0 L r)) [.code (ct [1, 0, 1] (bodyOf Tryz.f21)), .code (ct [1, 1] (bodyOf Tryz.f21))] (inode_Inode_Right_j1_I B0 x10 zb1) L := by
  unfold inode_Inode_Right_j1 at h
  rintro _ B _ ⟨hB, b3, v4, h4, rfl, rfl⟩
  obtain ⟨_, _, _, _, _, rfl⟩ := h4.isl
  rcases bsp x10 with k5 | k5
  replace h := (if_pos k5).symm.trans h
  refine WX.condT rfl k5 ?_
  refine WX.seq ?_
  refine WX.reg ?_
  refine WO.q (.as (v := .bool _) rfl) rfl rfl ?_
  refine WO.nil ?_
  obtain rfl := Option.some.inj h
  exact WX.ret (rs_ (rs_tmp rfl rs_nil)) fun st hp => ⟨(hp.pk [] (by decide)).le hB, rfl⟩
  replace h := (if_neg (bnt k5)).symm.trans h
  refine WX.condF rfl k5 ?_
  refine WX.skip ?_
  refine WX.seq ?_
  refine WX.seq ?_
  refine WX.reg ?_
  refine WO.q (.fa (fa53_0 _ _)) rfl rfl ?_
  refine WO.q (.ldS (i := 0) rfl rfl rfl ti49 rfl) rfl rfl ?_
  refine WO.nil ?_
  refine WX.block ?_
  refine WX.seq ?_
  refine WX.reg ?_
  refine WO.q (.r fun _ => rfl) rfl rfl ?_
  refine WO.q (.as (v := .bool _) rfl) rfl rfl ?_
  refine WO.nil ?_
  rcases bsp (decide (zb1.1 = 1)) with k6 | k6
  have q_k6 := of_decide_eq_true k6
  replace h := (if_pos q_k6).symm.trans h
  refine WX.condT rfl k6 ?_
  refine WX.seq ?_
  refine WX.reg ?_
  refine WO.q (.ldA (i := 0) rfl rfl rfl ti53 rfl) rfl rfl ?_
  obtain ⟨y7, hy7, h⟩ := Option.bind_eq_some_iff.1 h
  refine WO.cS rfl rfl (inode_Inode_file_ok h4 hy7) rfl rfl rfl ?_
  rintro _ rfl
  refine WO.q (.as (v := .bool _) rfl) rfl rfl ?_
  refine WO.nil ?_
  obtain rfl := Option.some.inj h
  exact WX.ret (rs_ (rs_tmp rfl rs_nil)) fun st hp => ⟨(hp.pk [] (by decide)).le hB, rfl⟩
  have q_k6 := of_decide_eq_false k6
  replace h := (if_neg q_k6).symm.trans h
  refine WX.condF rfl k6 ?_
  refine WX.seq ?_
  refine WX.reg ?_
  refine WO.q (.r fun _ => rfl) rfl rfl ?_
  refine WO.q (.as (v := .bool _) rfl) rfl rfl ?_
  refine WO.nil ?_
  rcases bsp (decide (zb1.1 = 2)) with k8 | k8
  have q_k8 := of_decide_eq_true k8
  replace h := (if_pos q_k8).symm.trans h
  refine WX.condT rfl k8 ?_
  refine WX.seq ?_
  refine WX.reg ?_
  refine WO.q (.fa (fa53_2 _ _)) rfl rfl ?_
  refine WO.q (.ldS (i := 0) rfl rfl rfl ti3 rfl) rfl rfl ?_
  refine WO.q (.r fun _ => rfl) rfl rfl ?_
  refine WO.q (.mv (v := .bool _) rfl) rfl rfl ?_
  rcases bsp (decide (zb1.2.2.1 = 0)) with k9 | k9
  have q_k9 := of_decide_eq_true k9
  replace h := (if_pos q_k9).symm.trans h
  refine WO.q (.fa (fa53_3 _ _)) (wg rfl rfl (gt k9)) rfl ?_
  refine WO.q (.ldS (i := 0) rfl rfl rfl ti51 rfl) (wg rfl rfl (gt k9)) rfl ?_
  refine WO.q (.len rfl rfl rfl (sl51.len h4.isl)) (wg rfl rfl (gt k9)) rfl ?_
  refine WO.q (.r fun _ => rfl) (wg rfl rfl (gt k9)) rfl ?_
  refine WO.q (.ptv (v := .bool _) rfl k9 rfl) rfl rfl ?_
  refine WO.q (.mv (v := .bool _) rfl) rfl rfl ?_
  rcases bsp (decide ((zb1.2.2.2.1.length : Int) = 0)) with k10 | k10
  have q_k10 := of_decide_eq_true k10
  replace h := (if_pos q_k10).symm.trans h
  refine WO.q (.fa (fa53_4 _ _)) (wg rfl rfl (gt k10)) rfl ?_
  refine WO.q (.ldS (i := 0) rfl rfl rfl ti9 rfl) (wg rfl rfl (gt k10)) rfl ?_
  refine WO.q (.r fun _ => rfl) (wg rfl rfl (gt k10)) rfl ?_
  refine WO.q (.ptv (v := .bool _) rfl k10 rfl) rfl rfl ?_
  refine WO.q (.as (v := .bool _) rfl) rfl rfl ?_
  refine WO.nil ?_
  obtain rfl := Option.some.inj h
  exact WX.ret (rs_ (rs_tmp rfl rs_nil)) fun st hp => ⟨(hp.pk [] (by decide)).le hB, rfl⟩
  have q_k10 := of_decide_eq_false k10
  replace h := (if_neg q_k10).symm.trans h
  refine WO.sd (wg rfl rfl (gtn k10)) rfl ?_
  refine WO.sd (wg rfl rfl (gtn k10)) rfl ?_
  refine WO.sd (wg rfl rfl (gtn k10)) rfl ?_
  refine WO.q (.pfv (v := .bool _) rfl k10 rfl) rfl rfl ?_
  refine WO.q (.as (v := .bool _) rfl) rfl rfl ?_
  refine WO.nil ?_
  obtain rfl := Option.some.inj h
  exact WX.ret (rs_ (rs_tmp rfl rs_nil)) fun st hp => ⟨(hp.pk [] (by decide)).le hB, rfl⟩
  have q_k9 := of_decide_eq_false k9
  replace h := (if_neg q_k9).symm.trans h
  refine WO.sd (wg rfl rfl (gtn k9)) rfl ?_
  refine WO.sd (wg rfl rfl (gtn k9)) rfl ?_
  refine WO.sd (wg rfl rfl (gtn k9)) rfl ?_
  refine WO.sd (wg rfl rfl (gtn k9)) rfl ?_
  refine WO.q (.pfv (v := .bool _) rfl k9 rfl) rfl rfl ?_
  refine WO.q (.mv (v := .bool _) rfl) rfl rfl ?_
  refine WO.sd (wg rfl rfl (gtn rfl)) rfl ?_
  refine WO.sd (wg rfl rfl (gtn rfl)) rfl ?_
  refine WO.sd (wg rfl rfl (gtn rfl)) rfl ?_
  refine WO.q (.pfv (v := .bool _) rfl rfl rfl) rfl rfl ?_
  refine WO.q (.as (v := .bool _) rfl) rfl rfl ?_
  refine WO.nil ?_
  obtain rfl := Option.some.inj h
  exact WX.ret (rs_ (rs_tmp rfl rs_nil)) fun st hp => ⟨(hp.pk [] (by decide)).le hB, rfl⟩
  have q_k8 := of_decide_eq_false k8
  replace h := (if_neg q_k8).symm.trans h
  refine WX.condF rfl k8 ?_
  refine WX.seq ?_
  refine WX.reg ?_
  refine WO.q (.r fun _ => rfl) rfl rfl ?_
  refine WO.q (.as (v := .bool _) rfl) rfl rfl ?_
  refine WO.nil ?_
  rcases bsp (decide (zb1.1 = 3)) with k11 | k11
  have q_k11 := of_decide_eq_true k11
  replace h := (if_pos q_k11).symm.trans h
  refine WX.condT rfl k11 ?_
  refine WX.seq ?_
  refine WX.reg ?_
  refine WO.q (.ldA (i := 0) rfl rfl rfl ti53 rfl) rfl rfl ?_
  obtain ⟨y12, hy12, h⟩ := Option.bind_eq_some_iff.1 h
  refine WO.cS rfl rfl (inode_Inode_link_ok h4 hy12) rfl rfl rfl ?_
  rintro _ rfl
  refine WO.q (.as (v := .bool _) rfl) rfl rfl ?_
  refine WO.nil ?_
  obtain rfl := Option.some.inj h
  exact WX.ret (rs_ (rs_tmp rfl rs_nil)) fun st hp => ⟨(hp.pk [] (by decide)).le hB, rfl⟩
  have q_k11 := of_decide_eq_false k11
  replace h := (if_neg q_k11).symm.trans h
  refine WX.condF rfl k11 ?_
  refine WX.skip ?_
  refine WX.pop ?_
  refine WX.seq ?_
  refine WX.reg ?_
  refine WO.q (.as (v := .bool _) rfl) rfl rfl ?_
  refine WO.nil ?_
  obtain rfl := Option.some.inj h
  exact WX.ret (rs_ (rs_tmp rfl rs_nil)) fun st hp => ⟨(hp.pk [] (by decide)).le hB, rfl⟩
theorem inode_Inode_Right_ok {B0 : Kn} {L : Own} {a0 : Int × Int × Int × (List (Int × Int)) × (List UInt8)} {v0_0 : AV} (g0_0 : RSl EPIi64Ii64Q B0 v0_0 a0.2.2.2.1) {r : Bool} (h : inode_Inode_Right a0 = some r) : ∀ st, Hp B0 L st → ASpec Tryz.prog 21 [.agg [.int .u8 a0.1, .int .i64 a0.2.1, .int .i64 a0.2.2.1, v0_0, .str a0.2.2.2.2]] st (inode_Inode_Right_P B0 L r) := by
  unfold inode_Inode_Right at h
  refine bodyA (A := []) Tryz.func21 rfl (c := bodyOf Tryz.f21) rfl Tryz.ntmps21 (lb rfl) fun n0 => ?_
  have hB := KLe.refl B0
  obtain ⟨_, _, _, _, _, rfl⟩ := g0_0.isl
  refine WX.seq ?_
  refine WX.reg ?_
  refine WO.md (MOp.box (cA rfl)) rfl rfl ?_
  rintro _ _ ⟨b1, rfl, rfl⟩
  refine WO.q (.as (v := .bool _) rfl) rfl rfl ?_
  refine WO.nil ?_
  refine WX.seq ?_
  refine WX.seq ?_
  refine WX.reg ?_
  refine WO.q (.fa (fa53_1 _ _)) rfl rfl ?_
  refine WO.q (.ldS (i := 0) rfl rfl rfl ti3 rfl) rfl rfl ?_
  refine WO.q (.r fun _ => rfl) rfl rfl ?_
  refine WO.q (.mv (v := .bool _) rfl) rfl rfl ?_
  rcases bsp (decide (a0.2.1 < 0)) with k2 | k2
  have q_k2 := of_decide_eq_true k2
  replace h := (if_pos q_k2).symm.trans h
  refine WO.sd (wg rfl rfl (gfn k2)) rfl ?_
  refine WO.sd (wg rfl rfl (gfn k2)) rfl ?_
  refine WO.sd (wg rfl rfl (gfn k2)) rfl ?_
  refine WO.q (.ptv (v := .bool _) rfl k2 rfl) rfl rfl ?_
  refine WO.nil ?_
  refine WX.keep [1, 10] (WX.pk [0] (by decide) ?_) rfl
  exact inode_Inode_Right_j1_ok h _ _ _ ⟨hB, _, _, g0_0, rfl, rfl⟩
  have q_k2 := of_decide_eq_false k2
  replace h := (if_neg q_k2).symm.trans h
  refine WO.q (.fa (fa53_1 _ _)) (wg rfl rfl (gf k2)) rfl ?_
  refine WO.q (.ldS (i := 0) rfl rfl rfl ti3 rfl) (wg rfl rfl (gf k2)) rfl ?_
  refine WO.q (.r fun _ => rfl) (wg rfl rfl (gf k2)) rfl ?_
  refine WO.q (.pfv (v := .bool _) rfl k2 rfl) rfl rfl ?_
  refine WO.nil ?_
  refine WX.keep [1, 10] (WX.pk [0] (by decide) ?_) rfl
  exact inode_Inode_Right_j1_ok h _ _ _ ⟨hB, _, _, g0_0, rfl, rfl⟩
end Gab
end
section
set_option linter.unusedSimpArgs false
set_option linter.unusedVariables false
set_option maxHeartbeats 4000000
set_option maxRecDepth 100000
namespace Gab
open Go Go.Proofs
def tree_Tree_Make_P (B : Kn) (L : Own) (r : Heap × Int × Int) : AV → St → Prop := CH B L fun B' X E' v => v = .tup [.int .i64 r.2.1, .int .i64 r.2.2] ∧ X = [] ∧ HR B' r.1 E'
def tree_Tree_Make_j16_I (B0 : Kn) (H : Heap) (x0 : Nat) (x1 : Int) (x2 : List UInt8) (x12 : Int) : Fr → Kn → Own → Own → Prop := fun fr B A E => KLw B0 B ∧ HR B H E ∧ ∃ v66, HPt B 126 v66 x0 ∧ fr = [(0, v66), (1, .int .i64 x1), (2, .str x2), (12, .int .i64 x12)] ∧ A = []
def tree_Tree_Make_j9_I (B0 : Kn) (H : Heap) (x0 : Nat) (x1 : Int) (x2 : List UInt8) (x44 : Bool) (zb7 : Int × Int × Int × (List (Int × Int)) × (List UInt8)) : Fr → Kn → Own → Own → Prop := fun fr B A E => KLw B0 B ∧ HR B H E ∧ ∃ b31 v32 b32 n32 c32 v33, OSl EPIi64Ii64Q B v32 b32 n32 c32 zb7.2.2.2.1 ∧ HPt B 126 v33 x0 ∧ fr = [(0, v33), (1, .int .i64 x1), (2, .str x2), (7, .ptr b31 0), (44, .bool x44)] ∧ A = [(b31, some (.c [.int .u8 zb7.1, .int .i64 zb7.2.1, .int .i64 zb7.2.2.1, v32, .str zb7.2.2.2.2])), oe b32 n32 c32]
def tree_Tree_Make_j6_I (B0 : Kn) (H : Heap) (x0 : Nat) (x1 : Int) (x2 : List UInt8) (x10 : Nat) (zb7 : Int × Int × Int × (List (Int × Int)) × (List UInt8)) : Fr → Kn → Own → Own → Prop := fun fr B A E => KLw B0 B ∧ HR B H E ∧ ∃ b13 v14 b14 n14 c14 v15 v16, OSl EPIi64Ii64Q B v14 b14 n14 c14 zb7.2.2.2.1 ∧ HPt B 126 v15 x0 ∧ HPt B 131 v16 x10 ∧ fr = [(0, v15), (1, .int .i64 x1), (2, .str x2), (7, .ptr b13 0), (10, v16)] ∧ A = [(b13, some (.c [.int .u8 zb7.1, .int .i64 zb7.2.1, .int .i64 zb7.2.2.1, v14, .str zb7.2.2.2.2])), oe b14 n14 c14]
theorem tree_Tree_Make_j16_ok {B0 : Kn} {L : Own} {n0 : Nat} {H : Heap} {x0 : Nat} {x1 : Int} {x2 : List UInt8} {x12 : Int} {r : Heap × Int × Int} (h : tree_Tree_Make_j16 H x0 x1 x2 x12 = some r) : WXH Tryz.prog 93 n0 (Fin Tryz.prog Tryz.f26.results.toList n0 (tree_Tree_Make_P B0 L r)) [.code (ct [1, 1, 1, 1, 1, 1, 1, 1, 1, 1] (bodyOf Tryz.f26))] (tree_Tree_Make_j16_I B0 H x0 x1 x2 x12) L := by
  unfold tree_Tree_Make_j16 at h
  rintro _ B _ E ⟨hB, hH, v66, h66, rfl, rfl⟩
  refine WX.seq ?_
  refine WX.reg ?_
  refine WO.q (.mv (v := v66) rfl) rfl rfl ?_
  refine WO.q (.mv (v := .int _ _) rfl) rfl rfl ?_
  refine WO.q (.mv (v := .str _) rfl) rfl rfl ?_
  refine WO.q (.mv (v := .int _ _) rfl) rfl rfl ?_
  obtain ⟨y67, hy67, h⟩ := Option.bind_eq_some_iff.1 h
  refine WO.ch rfl rfl (tree_Tree_put_ok hH h66 hy67) rfl rfl rfl ?_
  rintro _ B _ E hK ⟨rfl, rfl, hH⟩
  replace h66 := h66.upw hK
  replace hB := hB.trans hK
  refine WO.nil ?_
  refine WX.seq ?_
  refine WX.reg ?_
  refine WO.q (.mv (v := .int _ _) rfl) rfl rfl ?_
  refine WO.q (.as (v := .int _ _) rfl) rfl rfl ?_
  refine WO.q (.as (v := .int _ _) rfl) rfl rfl ?_
  refine WO.nil ?_
  obtain rfl := Option.some.inj h
  exact WX.ret (rs_ (rs_tmp rfl (rs_tmp rfl rs_nil))) fun st hp => ⟨_, _, _, hB, (hp.pk [] (by decide)), rfl, rfl, hH⟩
theorem tree_Tree_Make_j9_ok {B0 : Kn} {L : Own} {n0 : Nat} {H : Heap} {x0 : Nat} {x1 : Int} {x2 : List UInt8} {x44 : Bool} {zb7 : Int × Int × Int × (List (Int × Int)) × (List UInt8)} {r : Heap × Int × Int} (h : tree_Tree_Make_j9 H x0 x1 x2 x44 zb7 = some r) : WXH Tryz.prog 93 n0 (Fin Tryz.prog Tryz.f26.results.toList n0 (tree_Tree_Make_P B0 L r)) [.code (ct [1, 1, 1, 1, 1, 0, 0, 1, 1, 1, 1, 1] (bodyOf Tryz.f26)), .blk 0, .code (ct [1, 1, 1, 1, 1, 1] (bodyOf Tryz.f26))] (tree_Tree_Make_j9_I B0 H x0 x1 x2 x44 zb7) L := by
  unfold tree_Tree_Make_j9 at h
  rintro _ B _ E ⟨hB, hH, b31, v32, b32, n32, c32, v33, h32, h33, rfl, rfl⟩
  obtain ⟨_, _, _, _, _, rfl⟩ := h32.isl
  rcases bsp x44 with k34 | k34
  replace h := (if_pos k34).symm.trans h
  refine WX.condT rfl k34 ?_
  refine WX.seq ?_
  refine WX.reg ?_
  refine WO.q (.as (v := .int _ _) rfl) rfl rfl ?_
  refine WO.q (.as (v := .int _ _) rfl) rfl rfl ?_
  refine WO.nil ?_
  obtain rfl := Option.some.inj h
  exact WX.ret (rs_ (rs_tmp rfl (rs_tmp rfl rs_nil))) fun st hp => ⟨_, _, _, hB, (hp.pk [] (by decide)), rfl, rfl, hH⟩
  replace h := (if_neg (bnt k34)).symm.trans h
  refine WX.condF rfl k34 ?_
  refine WX.skip ?_
  refine WX.pop ?_
  refine WX.seq ?_
  refine WX.reg ?_
  refine WO.q (.mv (v := v33) rfl) rfl rfl ?_
  obtain ⟨y35, hy35, h⟩ := Option.bind_eq_some_iff.1 h
  refine WO.cS rfl rfl (rdS (tree_Tree_number_ok hH h33 hy35)) rfl rfl rfl ?_
  rintro _ rfl
  refine WO.q (.as (v := .int _ _) rfl) rfl rfl ?_
  refine WO.nil ?_
  refine WX.seq ?_
  refine WX.reg ?_
  refine WO.q (.ldA (i := 0) rfl rfl rfl ti53 rfl) rfl rfl ?_
  refine WO.q (.mv (v := .int _ _) rfl) rfl rfl ?_
  refine WO.q (.bd (bd131_0_2 (cA rfl) (cI rfl))) rfl rfl ?_
  refine WO.md (MOp.box (cA rfl)) rfl rfl ?_
  rintro _ _ ⟨b36, rfl, rfl⟩
  refine WO.q (.as (v := .ptr _ _) rfl) rfl rfl ?_
  refine WO.nil ?_
  refine WX.seq ?_
  refine WX.fz (j := 2) h32 rfl ?_
  intro B hK g37
  replace h33 := h33.up hK
  replace hH := hH.up hK
  replace hB := hB.trans hK.w
  obtain ⟨H39, e_H39, h⟩ := Option.bind_eq_some_iff.1 h
  refine WX.abs (j := 0) (x := ((zb7, 0, x1, 0) : (Int × Int × Int × (List (Int × Int)) × (List UInt8)) × Nat × Int × Int)) (foc131 hH) rfl (Rp (Rp Ri (Rp Ri (Rp Ri (Rp (Rl g37) Rs)))) (Rp (Rhp HPt.nil) (Rp Ri Ri))) ?_
  intro B E hK g38 hH
  replace hH := HRe e_H39 hH
  replace h33 := h33.upw hK
  replace g37 := g37.upw hK
  replace hB := hB.trans hK
  refine WX.drw (Plan.of [0, 1, 2, 3, 4, 5, 6, 7, 8, 9, 10, 11, 12, 13, 14, 15, 16] .nil) _ mixed (by kernel_rfl) rfl (subE (pk_sub [0])) ?_
  refine WP.q (i := 0) rfl (.mv (v := v33) rfl) rfl rfl rfl ?_
  obtain ⟨y40, hy40, h⟩ := Option.bind_eq_some_iff.1 h
  obtain ⟨b_y40, c_y40, e_y40, m_y40, r_y40, u_y40⟩ := hgetS (foc126 hH) h33 hy40
  subst e_y40
  obtain ⟨_, _, rfl, ⟨w41, rfl, hw41⟩, ⟨_, _, rfl, ⟨w42, rfl, hw42⟩, ⟨w43, rfl, hw43⟩⟩⟩ := r_y40
  refine WP.q (i := 1) rfl (.r fun _ => rfl) rfl rfl rfl ?_
  refine WP.q (i := 2) rfl (.fa (fa126_0 _ _)) rfl rfl rfl ?_
  refine WP.q (i := 3) rfl (.ldSm rfl (inM m_y40) rfl ti122 rfl) rfl rfl rfl ?_
  refine WP.q (i := 4) rfl (.mv (v := .int _ _) rfl) rfl rfl rfl ?_
  refine WP.q (i := 5) rfl (.mv (v := .ptr b_y40 0) rfl) rfl rfl rfl ?_
  refine WP.q (i := 6) rfl (.r fun _ => rfl) rfl rfl rfl ?_
  refine WP.q (i := 7) rfl (.fa (fa126_2 _ _)) rfl rfl rfl ?_
  refine WP.q (i := 8) rfl (.ldSm rfl (inM m_y40) rfl ti124 rfl) rfl rfl rfl ?_
  refine WP.q (i := 9) rfl (.mv (v := .int _ _) rfl) rfl rfl rfl ?_
  refine WP.q (i := 10) rfl (.mv (v := .ptr b36 0) rfl) rfl rfl rfl ?_
  obtain ⟨y44, hy44, h⟩ := Option.bind_eq_some_iff.1 h
  obtain ⟨H46, e_H46, h⟩ := Option.bind_eq_some_iff.1 h
  refine WP.es (i := 11) rfl (MOpE.ment mt122 (foc122 hH) hw41 hy44 kI rfl rfl) rfl (by kernel_rfl) rfl rfl ?_
  rintro _ _ _ E ⟨rfl, rfl, hH, _, s45, rfl, q_s45⟩
  replace hH := HRe e_H46 hH
  refine WS.q (i := 12) rfl (.r fun _ => rfl) rfl rfl rfl rfl ?_
  obtain ⟨y47, hy47, h⟩ := Option.bind_eq_some_iff.1 h
  obtain ⟨H48, e_H48, h⟩ := Option.bind_eq_some_iff.1 h
  refine WS.e (i := 13) rfl (MOpE.est mt122 (foc122 hH) hw41 hy47 q_s45 (kHp g38) rfl rfl rfl) rfl (by kernel_rfl) rfl rfl ?_
  rintro _ _ _ E ⟨rfl, rfl, hH⟩
  replace hH := HRe e_H48 hH
  obtain ⟨y49, hy49, h⟩ := Option.bind_eq_some_iff.1 h
  obtain ⟨H51, e_H51, h⟩ := Option.bind_eq_some_iff.1 h
  refine WS.e (i := 14) rfl (MOpE.ment mt124 (foc124 hH) hw43 hy49 kI rfl rfl) rfl (by kernel_rfl) rfl rfl ?_
  rintro _ _ _ E ⟨rfl, rfl, hH, _, s50, rfl, q_s50⟩
  replace hH := HRe e_H51 hH
  refine WS.q (i := 15) rfl (.r fun _ => rfl) rfl rfl rfl rfl ?_
  obtain ⟨y52, hy52, h⟩ := Option.bind_eq_some_iff.1 h
  obtain ⟨H53, e_H53, h⟩ := Option.bind_eq_some_iff.1 h
  refine WS.e (i := 16) rfl (MOpE.est mt124 (foc124 hH) hw43 hy52 q_s50 kB rfl rfl rfl) rfl (by kernel_rfl) rfl rfl ?_
  rintro _ _ _ E ⟨rfl, rfl, hH⟩
  replace hH := HRe e_H53 hH
  refine WS.nil ?_
  refine WX.seq ?_
  refine WX.seq ?_
  refine WX.reg ?_
  refine WO.q (.fa (fa53_0 _ _)) rfl rfl ?_
  refine WO.q (.ldS (i := 0) rfl rfl rfl ti49 rfl) rfl rfl ?_
  refine WO.q (.r fun _ => rfl) rfl rfl ?_
  refine WO.nil ?_
  rcases bsp (decide (zb7.1 = 2)) with k54 | k54
  have q_k54 := of_decide_eq_true k54
  replace h := (if_pos q_k54).symm.trans h
  refine WX.condT rfl k54 ?_
  refine WX.seq ?_
  refine WX.reg ?_
  refine WO.q (.mv (v := .ptr b36 0) rfl) rfl rfl ?_
  obtain ⟨y55, hy55, h⟩ := Option.bind_eq_some_iff.1 h
  refine WO.ch rfl rfl (dir_New_ok hH hy55) rfl rfl rfl ?_
  rintro v56 B _ E hK ⟨_, rfl, rfl, hH, h57⟩
  replace h33 := h33.upw hK
  replace g38 := g38.upw hK
  replace g37 := g37.upw hK
  replace hB := hB.trans hK
  obtain ⟨y58, hy58, h⟩ := Option.bind_eq_some_iff.1 h
  obtain ⟨c_y58, m_y58, r_y58, u_y58⟩ := hgetP (foc131 hH) g38 hy58
  obtain ⟨_, _, rfl, ⟨_, _, rfl, rfl, ⟨_, _, rfl, rfl, ⟨_, _, rfl, rfl, ⟨_, _, rfl, ⟨w59, rfl, hw59⟩, rfl⟩⟩⟩⟩, ⟨_, _, rfl, ⟨w60, rfl, hw60⟩, ⟨_, _, rfl, rfl, rfl⟩⟩⟩ := r_y58
  obtain ⟨_, _, _, _, _, rfl⟩ := hw59.isl
  refine WO.q (.r fun _ => rfl) rfl rfl ?_
  refine WO.q (.fa (fa131_1 _ _)) rfl rfl ?_
  obtain ⟨H61, e_H61, h⟩ := Option.bind_eq_some_iff.1 h
  obtain ⟨_, z_z62, k_z62⟩ := u_y58 _ (y58.1, y55.2, y58.2.2.1, y58.2.2.2) (Rp (Rp Ri (Rp Ri (Rp Ri (Rp (Rl hw59) Rs)))) (Rp (Rhp h57) (Rp Ri Ri)))
  refine WO.en (MOpE.st rfl (cHp rfl h57) z_z62 ti128 rfl (oc h57.one rfl) (lb rfl) rfl) rfl ?_
  rintro _ _ _ _ ⟨rfl, rfl, rfl⟩
  replace hH := HRe e_H61 k_z62
  refine WO.nil ?_
  refine WX.reg ?_
  refine WO.q (.mv (v := .ptr b_y40 0) rfl) rfl rfl ?_
  refine WO.q (.mv (v := .int _ _) rfl) rfl rfl ?_
  obtain ⟨y63, hy63, h⟩ := Option.bind_eq_some_iff.1 h
  refine WO.ch rfl rfl (tree_Tree_links_ok hH h33 hy63) rfl rfl rfl ?_
  rintro _ B _ E hK ⟨v64, rfl, rfl, hH, h65⟩
  obtain ⟨_, _, _, _, _, rfl⟩ := h65.isl
  replace h33 := h33.upw hK
  replace g37 := g37.upw hK
  replace hB := hB.trans hK
  refine WO.nil ?_
  refine WX.keep [0, 1, 2, 12] (WX.pk [] (by decide) ?_) rfl
  exact tree_Tree_Make_j16_ok h _ _ _ _ ⟨hB, hH, _, h33, rfl, rfl⟩
  have q_k54 := of_decide_eq_false k54
  replace h := (if_neg q_k54).symm.trans h
  refine WX.condF rfl k54 ?_
  refine WX.skip ?_
  refine WX.keep [0, 1, 2, 12] (WX.pk [] (by decide) ?_) rfl
  exact tree_Tree_Make_j16_ok h _ _ _ _ ⟨hB, hH, _, h33, rfl, rfl⟩
theorem tree_Tree_Make_j6_ok {B0 : Kn} {L : Own} {n0 : Nat} {H : Heap} {x0 : Nat} {x1 : Int} {x2 : List UInt8} {x10 : Nat} {zb7 : Int × Int × Int × (List (Int × Int)) × (List UInt8)} {r : Heap × Int × Int} (h : tree_Tree_Make_j6 H x0 x1 x2 x10 zb7 = some r) : WXH Tryz.prog 93 n0 (Fin Tryz.prog Tryz.f26.results.toList n0 (tree_Tree_Make_P B0 L r)) [.code (ct [1, 1, 1, 1, 1] (bodyOf Tryz.f26))] (tree_Tree_Make_j6_I B0 H x0 x1 x2 x10 zb7) L := by
  unfold tree_Tree_Make_j6 at h
  rintro _ B _ E ⟨hB, hH, b13, v14, b14, n14, c14, v15, v16, h14, h15, h16, rfl, rfl⟩
  obtain ⟨_, _, _, _, _, rfl⟩ := h14.isl
  refine WX.seq ?_
  refine WX.block ?_
  refine WX.seq ?_
  refine WX.reg ?_
  refine WO.q (.ldA (i := 0) rfl rfl rfl ti53 rfl) rfl rfl ?_
  obtain ⟨y17, hy17, h⟩ := Option.bind_eq_some_iff.1 h
  refine WO.cS rfl rfl (lendC (j := 1) h14 rfl fun _ K19 g18 => inode_Inode_Right_ok g18 hy17) rfl rfl rfl ?_
  rintro _ rfl
  refine WO.q (.r fun _ => rfl) rfl rfl ?_
  refine WO.q (.as (v := .bool _) rfl) rfl rfl ?_
  refine WO.nil ?_
  rcases bsp y17 with k20 | k20
  replace h := (if_pos k20).symm.trans h
  refine WX.condF rfl (f_not k20) ?_
  refine WX.seq ?_
  refine WX.reg ?_
  refine WO.q (.mv (v := v15) rfl) rfl rfl ?_
  obtain ⟨y21, hy21, h⟩ := Option.bind_eq_some_iff.1 h
  obtain ⟨b_y21, c_y21, e_y21, m_y21, r_y21, u_y21⟩ := hgetS (foc126 hH) h15 hy21
  subst e_y21
  obtain ⟨_, _, rfl, ⟨w22, rfl, hw22⟩, ⟨_, _, rfl, ⟨w23, rfl, hw23⟩, ⟨w24, rfl, hw24⟩⟩⟩ := r_y21
  refine WO.q (.r fun _ => rfl) rfl rfl ?_
  refine WO.q (.fa (fa126_0 _ _)) rfl rfl ?_
  refine WO.ql (.ldSm rfl (inE m_y21) rfl ti122 rfl) rfl rfl ?_
  obtain ⟨y25, hy25, h⟩ := Option.bind_eq_some_iff.1 h
  refine WO.md (MOp.lenM rfl rfl rfl mt122 (foc122 hH) hw22 hy25 rfl) rfl rfl ?_
  rintro _ _ ⟨rfl, rfl⟩
  refine WO.q (.r fun _ => rfl) rfl rfl ?_
  refine WO.q (.as (v := .bool _) rfl) rfl rfl ?_
  refine WO.nil ?_
  rcases bsp (decide (1024 ≤ (y25.length : Int))) with k26 | k26
  have q_k26 := of_decide_eq_true k26
  replace h := (if_pos q_k26).symm.trans h
  refine WX.condT rfl k26 ?_
  refine WX.seq ?_
  refine WX.reg ?_
  refine WO.q (.as (v := .int _ _) rfl) rfl rfl ?_
  refine WO.q (.as (v := .int _ _) rfl) rfl rfl ?_
  refine WO.nil ?_
  obtain rfl := Option.some.inj h
  exact WX.ret (rs_ (rs_tmp rfl (rs_tmp rfl rs_nil))) fun st hp => ⟨_, _, _, hB, (hp.pk [] (by decide)), rfl, rfl, hH⟩
  have q_k26 := of_decide_eq_false k26
  replace h := (if_neg q_k26).symm.trans h
  refine WX.condF rfl k26 ?_
  refine WX.seq ?_
  refine WX.reg ?_
  refine WO.q (.fa (fa53_0 _ _)) rfl rfl ?_
  refine WO.q (.ldS (i := 0) rfl rfl rfl ti49 rfl) rfl rfl ?_
  refine WO.q (.r fun _ => rfl) rfl rfl ?_
  refine WO.q (.mv (v := .bool _) rfl) rfl rfl ?_
  rcases bsp (decide (zb7.1 = 2)) with k27 | k27
  have q_k27 := of_decide_eq_true k27
  replace h := (if_pos q_k27).symm.trans h
  refine WO.q (.mv (v := v16) rfl) (wg rfl rfl (gt k27)) rfl ?_
  obtain ⟨y28, hy28, h⟩ := Option.bind_eq_some_iff.1 h
  obtain ⟨b_y28, c_y28, e_y28, m_y28, r_y28, u_y28⟩ := hgetS (foc131 hH) h16 hy28
  subst e_y28
  obtain ⟨_, _, rfl, ⟨_, _, rfl, rfl, ⟨_, _, rfl, rfl, ⟨_, _, rfl, rfl, ⟨_, _, rfl, ⟨w29, rfl, hw29⟩, rfl⟩⟩⟩⟩, ⟨_, _, rfl, ⟨w30, rfl, hw30⟩, ⟨_, _, rfl, rfl, rfl⟩⟩⟩ := r_y28
  obtain ⟨_, _, _, _, _, rfl⟩ := hw29.isl
  refine WO.q (.r fun _ => rfl) (wg rfl rfl (gt k27)) rfl ?_
  refine WO.q (.fa (fa131_0 _ _)) (wg rfl rfl (gt k27)) rfl ?_
  refine WO.q (.fa (fa53_1 _ _)) (wg rfl rfl (gt k27)) rfl ?_
  refine WO.ql (.ldSm rfl (inE m_y28) rfl ti3 rfl) (wg rfl rfl (gt k27)) rfl ?_
  refine WO.q (.r fun _ => rfl) (wg rfl rfl (gt k27)) rfl ?_
  refine WO.q (.ptv (v := .bool _) rfl k27 rfl) rfl rfl ?_
  refine WO.q (.as (v := .bool _) rfl) rfl rfl ?_
  refine WO.nil ?_
  refine WX.keep [0, 1, 2, 7, 44] (WX.pk [0, 1] (by decide) ?_) rfl
  exact tree_Tree_Make_j9_ok h _ _ _ _ ⟨hB, hH, _, _, _, n14, _, _, h14, h15, rfl, rfl⟩
  have q_k27 := of_decide_eq_false k27
  replace h := (if_neg q_k27).symm.trans h
  refine WO.sd (wg rfl rfl (gtn k27)) rfl ?_
  refine WO.sd (wg rfl rfl (gtn k27)) rfl ?_
  refine WO.sd (wg rfl rfl (gtn k27)) rfl ?_
  refine WO.sd (wg rfl rfl (gtn k27)) rfl ?_
  refine WO.sd (wg rfl rfl (gtn k27)) rfl ?_
  refine WO.sd (wg rfl rfl (gtn k27)) rfl ?_
  refine WO.q (.pfv (v := .bool _) rfl k27 rfl) rfl rfl ?_
  refine WO.q (.as (v := .bool _) rfl) rfl rfl ?_
  refine WO.nil ?_
  refine WX.keep [0, 1, 2, 7, 44] (WX.pk [0, 1] (by decide) ?_) rfl
  exact tree_Tree_Make_j9_ok h _ _ _ _ ⟨hB, hH, _, _, _, n14, _, _, h14, h15, rfl, rfl⟩
  replace h := (if_neg (bnt k20)).symm.trans h
  refine WX.condT rfl (t_not k20) ?_
  refine WX.seq ?_
  refine WX.reg ?_
  refine WO.q (.as (v := .int _ _) rfl) rfl rfl ?_
  refine WO.q (.as (v := .int _ _) rfl) rfl rfl ?_
  refine WO.nil ?_
  obtain rfl := Option.some.inj h
  exact WX.ret (rs_ (rs_tmp rfl (rs_tmp rfl rs_nil))) fun st hp => ⟨_, _, _, hB, (hp.pk [] (by decide)), rfl, rfl, hH⟩
theorem tree_Tree_Make_ok {B0 : Kn} {L : Own} {H : Heap} {E : Own} (hH : HR B0 H E) {a0 : Nat} {a1 : Int} {a2 : List UInt8} {a3 : Int × Int × Int × (List (Int × Int)) × (List UInt8)} {v0_0 : AV} {v3_0 : AV} (g0_0 : HPt B0 126 v0_0 a0) (g3_0 : RSl EPIi64Ii64Q B0 v3_0 a3.2.2.2.1) {r : Heap × Int × Int} (h : tree_Tree_Make H a0 a1 a2 a3 = some r) : ∀ st, Hp B0 (E ++ L) st → ASpec Tryz.prog 26 [v0_0, .int .i64 a1, .str a2, .agg [.int .u8 a3.1, .int .i64 a3.2.1, .int .i64 a3.2.2.1, v3_0, .str a3.2.2.2.2]] st (tree_Tree_Make_P B0 L r) := by
  unfold tree_Tree_Make at h
  refine bodyA (A := []) (L := E ++ L) Tryz.func26 rfl (c := bodyOf Tryz.f26) rfl Tryz.ntmps26 (lb rfl) fun n0 => ?_
  have hB := KLw.refl B0
  obtain ⟨_, _, _, _, _, rfl⟩ := g3_0.isl
  refine WX.seq ?_
  refine WX.reg ?_
  refine WO.md (MOp.box (cA rfl)) rfl rfl ?_
  rintro _ _ ⟨b1, rfl, rfl⟩
  refine WO.q (.as (v := .int _ _) rfl) rfl rfl ?_
  refine WO.q (.as (v := .int _ _) rfl) rfl rfl ?_
  refine WO.nil ?_
  refine WX.seq ?_
  refine WX.reg ?_
  refine WO.q (.mv (v := v0_0) rfl) rfl rfl ?_
  refine WO.q (.mv (v := .int _ _) rfl) rfl rfl ?_
  refine WO.q (.mv (v := .str _) rfl) rfl rfl ?_
  obtain ⟨y2, hy2, h⟩ := Option.bind_eq_some_iff.1 h
  refine WO.c0 rfl rfl (rd0 (tree_Tree_vacant_ok hH g0_0 hy2)) rfl rfl rfl ?_
  rintro _ B hK ⟨v3, rfl, h4⟩
  replace g0_0 := g0_0.up hK
  replace g3_0 := g3_0.up hK
  replace hH := hH.up hK
  replace hB := hB.trans hK.w
  refine WO.q (.mv (v := .tup _) rfl) rfl rfl ?_
  refine WO.q (.r fun _ => rfl) rfl rfl ?_
  refine WO.q (.r fun _ => rfl) rfl rfl ?_
  refine WO.q (.as (v := v3) rfl) rfl rfl ?_
  refine WO.q (.as (v := .int _ _) rfl) rfl rfl ?_
  refine WO.nil ?_
  refine WX.seq ?_
  refine WX.seq ?_
  refine WX.reg ?_
  refine WO.q (.mv (v := .int _ _) rfl) rfl rfl ?_
  refine WO.q (.r fun _ => rfl) rfl rfl ?_
  refine WO.nil ?_
  rcases bsp (decide (y2.2 ≠ 0)) with k5 | k5
  have q_k5 := of_decide_eq_true k5
  replace h := (if_pos q_k5).symm.trans h
  refine WX.condT rfl k5 ?_
  refine WX.seq ?_
  refine WX.reg ?_
  refine WO.q (.mv (v := .int _ _) rfl) rfl rfl ?_
  refine WO.q (.as (v := .int _ _) rfl) rfl rfl ?_
  refine WO.q (.as (v := .int _ _) rfl) rfl rfl ?_
  refine WO.nil ?_
  obtain rfl := Option.some.inj h
  exact WX.ret (rs_ (rs_tmp rfl (rs_tmp rfl rs_nil))) fun st hp => ⟨_, _, _, hB, (hp.pk [] (by decide)), rfl, rfl, hH⟩
  have q_k5 := of_decide_eq_false k5
  replace h := (if_neg q_k5).symm.trans h
  refine WX.condF rfl k5 ?_
  refine WX.skip ?_
  refine WX.seq ?_
  refine WX.reg ?_
  refine WO.q (.fa (fa53_3 _ _)) rfl rfl ?_
  refine WO.q (.ldS (i := 0) rfl rfl rfl ti51 rfl) rfl rfl ?_
  obtain ⟨y6, hy6, h⟩ := Option.bind_eq_some_iff.1 h
  refine WO.c1 rfl rfl (slices_Clone_ext_List_alloc_Extent_ok g3_0 hy6) rfl rfl rfl ?_
  rintro _ B _ hK ⟨v7, b8, n9, c10, rfl, rfl, h11⟩
  obtain ⟨_, _, _, _, _, rfl⟩ := h11.isl
  replace g0_0 := g0_0.up hK
  replace h4 := h4.up hK
  replace g3_0 := g3_0.up hK
  replace hH := hH.up hK
  replace hB := hB.trans hK.w
  refine WO.q (.fa (fa53_1 _ _)) rfl rfl ?_
  refine WO.mn (MOp.store (cs' := [.int .u8 a3.1, .int .i64 1, .int .i64 a3.2.2.1, _, .str a3.2.2.2.2]) rfl (cI rfl) (.t .h) ti3 rfl rfl (lb rfl) rfl) rfl ?_
  rintro _ _ rfl
  refine WO.q (.fa (fa53_3 _ _)) rfl rfl ?_
  refine WO.mn (MOp.store (cs' := [.int .u8 a3.1, .int .i64 1, .int .i64 a3.2.2.1, _, .str a3.2.2.2.2]) rfl (cL rfl) (.t .h) ti51 rfl rfl (lb rfl) rfl) rfl ?_
  rintro _ _ rfl
  refine WO.nil ?_
  refine WX.seq ?_
  refine WX.seq ?_
  refine WX.reg ?_
  refine WO.q (.fa (fa53_0 _ _)) rfl rfl ?_
  refine WO.q (.ldS (i := 1) rfl rfl rfl ti49 rfl) rfl rfl ?_
  refine WO.q (.r fun _ => rfl) rfl rfl ?_
  refine WO.nil ?_
  rcases bsp (decide (a3.1 = 2)) with k12 | k12
  have q_k12 := of_decide_eq_true k12
  replace h := (if_pos q_k12).symm.trans h
  refine WX.condT rfl k12 ?_
  refine WX.reg ?_
  refine WO.q (.fa (fa53_1 _ _)) rfl rfl ?_
  refine WO.mn (MOp.store (cs' := [.int .u8 a3.1, .int .i64 2, .int .i64 a3.2.2.1, _, .str a3.2.2.2.2]) rfl (cI rfl) (.t .h) ti3 rfl rfl (lb rfl) rfl) rfl ?_
  rintro _ _ rfl
  refine WO.nil ?_
  refine WX.keep [0, 1, 2, 7, 10] (WX.pk [1, 0] (by decide) ?_) rfl
  exact tree_Tree_Make_j6_ok h _ _ _ _ ⟨hB, hH, _, _, _, n9, _, _, _, h11, g0_0, h4, rfl, rfl⟩
  have q_k12 := of_decide_eq_false k12
  replace h := (if_neg q_k12).symm.trans h
  refine WX.condF rfl k12 ?_
  refine WX.skip ?_
  refine WX.keep [0, 1, 2, 7, 10] (WX.pk [1, 0] (by decide) ?_) rfl
  exact tree_Tree_Make_j6_ok h _ _ _ _ ⟨hB, hH, _, _, _, n9, _, _, _, h11, g0_0, h4, rfl, rfl⟩
def tree_Tree_drop_P (B : Kn) (L : Own) (r : Heap) : AV → St → Prop := CH B L fun B' X E' v => v = .tup [] ∧ X = [] ∧ HR B' r E'
theorem tree_Tree_drop_ok {B0 : Kn} {L : Own} {H : Heap} {E : Own} (hH : HR B0 H E) {a0 : Nat} {a1 : Int} {a2 : List UInt8} {v0_0 : AV} (g0_0 : HPt B0 126 v0_0 a0) {r : Heap} (h : tree_Tree_drop H a0 a1 a2 = some r) : ∀ st, Hp B0 (E ++ L) st → ASpec Tryz.prog 84 [v0_0, .int .i64 a1, .str a2] st (tree_Tree_drop_P B0 L r) := by
  unfold tree_Tree_drop at h
  refine bodyA (A := []) (L := E ++ L) Tryz.func84 rfl (c := bodyOf Tryz.f84) rfl Tryz.ntmps84 (lb rfl) fun n0 => ?_
  have hB := KLw.refl B0
  refine WX.seq ?_
  refine WX.reg ?_
  refine WO.q (.mv (v := v0_0) rfl) rfl rfl ?_
  obtain ⟨y1, hy1, h⟩ := Option.bind_eq_some_iff.1 h
  obtain ⟨b_y1, c_y1, e_y1, m_y1, r_y1, u_y1⟩ := hgetS (foc126 hH) g0_0 hy1
  subst e_y1
  obtain ⟨_, _, rfl, ⟨w2, rfl, hw2⟩, ⟨_, _, rfl, ⟨w3, rfl, hw3⟩, ⟨w4, rfl, hw4⟩⟩⟩ := r_y1
  refine WO.q (.r fun _ => rfl) rfl rfl ?_
  refine WO.q (.fa (fa126_0 _ _)) rfl rfl ?_
  refine WO.ql (.ldSm rfl (inE m_y1) rfl ti122 rfl) rfl rfl ?_
  refine WO.q (.mv (v := .int _ _) rfl) rfl rfl ?_
  obtain ⟨y5, hy5, h⟩ := Option.bind_eq_some_iff.1 h
  refine WO.md (MOp.lookup mt122 (foc122 hH) hw2 hy5 kI rfl rfl) rfl rfl ?_
  rintro c6 _ ⟨rfl, _, r7, rfl⟩
  have hw8 := r7
  obtain ⟨y9, hy9, h⟩ := Option.bind_eq_some_iff.1 h
  obtain ⟨b_y9, c_y9, e_y9, m_y9, r_y9, u_y9⟩ := hgetS (foc131 hH) hw8 hy9
  subst e_y9
  obtain ⟨_, _, rfl, ⟨_, _, rfl, rfl, ⟨_, _, rfl, rfl, ⟨_, _, rfl, rfl, ⟨_, _, rfl, ⟨w10, rfl, hw10⟩, rfl⟩⟩⟩⟩, ⟨_, _, rfl, ⟨w11, rfl, hw11⟩, ⟨_, _, rfl, rfl, rfl⟩⟩⟩ := r_y9
  obtain ⟨_, _, _, _, _, rfl⟩ := hw10.isl
  refine WO.q (.r fun _ => rfl) rfl rfl ?_
  refine WO.q (.fa (fa131_1 _ _)) rfl rfl ?_
  refine WO.ql (.ldSm rfl (inE m_y9) rfl ti128 rfl) rfl rfl ?_
  refine WO.q (.mv (v := .str _) rfl) rfl rfl ?_
  obtain ⟨y12, hy12, h⟩ := Option.bind_eq_some_iff.1 h
  refine WO.ch rfl rfl (dir_Dir_Drop_ok hH hw11 hy12) rfl rfl rfl ?_
  rintro _ B _ E hK ⟨rfl, rfl, hH⟩
  replace g0_0 := g0_0.upw hK
  replace hw2 := hw2.upw hK
  replace hw8 := hw8.upw hK
  replace hw11 := hw11.upw hK
  replace hB := hB.trans hK
  refine WO.nil ?_
  refine WX.reg ?_
  refine WO.q (.mv (v := .ptr b_y1 0) rfl) rfl rfl ?_
  obtain ⟨y13, hy13, h⟩ := Option.bind_eq_some_iff.1 h
  obtain ⟨c_y13, m_y13, r_y13, u_y13⟩ := hgetP (foc126 hH) g0_0 hy13
  obtain ⟨_, _, rfl, ⟨w14, rfl, hw14⟩, ⟨_, _, rfl, ⟨w15, rfl, hw15⟩, ⟨w16, rfl, hw16⟩⟩⟩ := r_y13
  refine WO.q (.r fun _ => rfl) rfl rfl ?_
  refine WO.q (.fa (fa126_1 _ _)) rfl rfl ?_
  refine WO.ql (.ldSm rfl (inE m_y13) rfl ti123 rfl) rfl rfl ?_
  refine WO.q (.mv (v := .int _ _) rfl) rfl rfl ?_
  refine WO.q (.mv (v := .str _) rfl) rfl rfl ?_
  refine WO.q (.bd (bd166_0_1 (cI rfl) (cS rfl))) rfl rfl ?_
  obtain ⟨y17, hy17, h⟩ := Option.bind_eq_some_iff.1 h
  obtain ⟨H18, e_H18, h⟩ := Option.bind_eq_some_iff.1 h
  refine WO.en (MOpE.put mt123 (foc123 hH) hw15 hy17 (kG (Rp Ri Rs)) kB rfl rfl rfl) rfl ?_
  rintro _ _ _ E ⟨rfl, rfl, hH⟩
  replace hH := HRe e_H18 hH
  refine WO.nil ?_
  obtain rfl := Option.some.inj h
  exact WX.fin (rs_ rs_nil) fun st hp => ⟨_, _, _, hB, (hp.pk [] (by decide)), rfl, rfl, hH⟩
def tree_Tree_Unlink_P (B : Kn) (L : Own) (r : Heap × (List (Int × Int)) × Int) : AV → St → Prop := CH B L fun B' X E' v => ∃ w0, v = .tup [w0, .int .i64 r.2.2] ∧ X = [] ∧ HR B' r.1 E' ∧ RSl EPIi64Ii64Q B' w0 r.2.1
theorem tree_Tree_Unlink_ok {B0 : Kn} {L : Own} {H : Heap} {E : Own} (hH : HR B0 H E) {a0 : Nat} {a1 : Int} {a2 : List UInt8} {v0_0 : AV} (g0_0 : HPt B0 126 v0_0 a0) {r : Heap × (List (Int × Int)) × Int} (h : tree_Tree_Unlink H a0 a1 a2 = some r) : ∀ st, Hp B0 (E ++ L) st → ASpec Tryz.prog 25 [v0_0, .int .i64 a1, .str a2] st (tree_Tree_Unlink_P B0 L r) := by
  unfold tree_Tree_Unlink at h
  refine bodyA (A := []) (L := E ++ L) Tryz.func25 rfl (c := bodyOf Tryz.f25) rfl Tryz.ntmps25 (lb rfl) fun n0 => ?_
  have hB := KLw.refl B0
  refine WX.seq ?_
  refine WX.reg ?_
  refine WO.q (.as (v := .sl _ _ _ _ _ _) rfl) rfl rfl ?_
  refine WO.q (.as (v := .int _ _) rfl) rfl rfl ?_
  refine WO.nil ?_
  refine WX.seq ?_
  refine WX.reg ?_
  refine WO.q (.mv (v := v0_0) rfl) rfl rfl ?_
  refine WO.q (.mv (v := .int _ _) rfl) rfl rfl ?_
  refine WO.q (.mv (v := .str _) rfl) rfl rfl ?_
  obtain ⟨y1, hy1, h⟩ := Option.bind_eq_some_iff.1 h
  refine WO.cS rfl rfl (rdS (tree_Tree_Find_ok hH g0_0 hy1)) rfl rfl rfl ?_
  rintro _ rfl
  refine WO.q (.mv (v := .tup _) rfl) rfl rfl ?_
  refine WO.q (.r fun _ => rfl) rfl rfl ?_
  refine WO.q (.r fun _ => rfl) rfl rfl ?_
  refine WO.q (.as (v := .int _ _) rfl) rfl rfl ?_
  refine WO.q (.as (v := .int _ _) rfl) rfl rfl ?_
  refine WO.nil ?_
  refine WX.seq ?_
  refine WX.seq ?_
  refine WX.reg ?_
  refine WO.q (.mv (v := .int _ _) rfl) rfl rfl ?_
  refine WO.q (.r fun _ => rfl) rfl rfl ?_
  refine WO.nil ?_
  rcases bsp (decide (y1.2 ≠ 0)) with k2 | k2
  have q_k2 := of_decide_eq_true k2
  replace h := (if_pos q_k2).symm.trans h
  refine WX.condT rfl k2 ?_
  refine WX.seq ?_
  refine WX.reg ?_
  refine WO.q (.mv (v := .int _ _) rfl) rfl rfl ?_
  refine WO.q (.as (v := .sl _ _ _ _ _ _) rfl) rfl rfl ?_
  refine WO.q (.as (v := .int _ _) rfl) rfl rfl ?_
  refine WO.nil ?_
  obtain rfl := Option.some.inj h
  exact WX.ret (rs_ (rs_tmp rfl (rs_tmp rfl rs_nil))) fun st hp => ⟨_, _, _, hB, (hp.pk [] (by decide)), .sl 0 0 0 0 0 true, rfl, rfl, hH, (RSl.nil _ _)⟩
  have q_k2 := of_decide_eq_false k2
  replace h := (if_neg q_k2).symm.trans h
  refine WX.condF rfl k2 ?_
  refine WX.skip ?_
  refine WX.seq ?_
  refine WX.seq ?_
  refine WX.reg ?_
  refine WO.q (.mv (v := v0_0) rfl) rfl rfl ?_
  obtain ⟨y3, hy3, h⟩ := Option.bind_eq_some_iff.1 h
  obtain ⟨b_y3, c_y3, e_y3, m_y3, r_y3, u_y3⟩ := hgetS (foc126 hH) g0_0 hy3
  subst e_y3
  obtain ⟨_, _, rfl, ⟨w4, rfl, hw4⟩, ⟨_, _, rfl, ⟨w5, rfl, hw5⟩, ⟨w6, rfl, hw6⟩⟩⟩ := r_y3
  refine WO.q (.r fun _ => rfl) rfl rfl ?_
  refine WO.q (.fa (fa126_0 _ _)) rfl rfl ?_
  refine WO.ql (.ldSm rfl (inE m_y3) rfl ti122 rfl) rfl rfl ?_
  refine WO.q (.mv (v := .int _ _) rfl) rfl rfl ?_
  obtain ⟨y7, hy7, h⟩ := Option.bind_eq_some_iff.1 h
  refine WO.md (MOp.lookup mt122 (foc122 hH) hw4 hy7 kI rfl rfl) rfl rfl ?_
  rintro c8 _ ⟨rfl, _, r9, rfl⟩
  have hw10 := r9
  obtain ⟨y11, hy11, h⟩ := Option.bind_eq_some_iff.1 h
  obtain ⟨b_y11, c_y11, e_y11, m_y11, r_y11, u_y11⟩ := hgetS (foc131 hH) hw10 hy11
  subst e_y11
  obtain ⟨_, _, rfl, ⟨_, _, rfl, rfl, ⟨_, _, rfl, rfl, ⟨_, _, rfl, rfl, ⟨_, _, rfl, ⟨w12, rfl, hw12⟩, rfl⟩⟩⟩⟩, ⟨_, _, rfl, ⟨w13, rfl, hw13⟩, ⟨_, _, rfl, rfl, rfl⟩⟩⟩ := r_y11
  obtain ⟨_, _, _, _, _, rfl⟩ := hw12.isl
  refine WO.q (.r fun _ => rfl) rfl rfl ?_
  refine WO.q (.fa (fa131_0 _ _)) rfl rfl ?_
  refine WO.q (.fa (fa53_0 _ _)) rfl rfl ?_
  refine WO.ql (.ldSm rfl (inE m_y11) rfl ti49 rfl) rfl rfl ?_
  refine WO.q (.r fun _ => rfl) rfl rfl ?_
  refine WO.nil ?_
  rcases bsp (decide (y11.1.1 = 2)) with k14 | k14
  have q_k14 := of_decide_eq_true k14
  replace h := (if_pos q_k14).symm.trans h
  refine WX.condT rfl k14 ?_
  refine WX.seq ?_
  refine WX.reg ?_
  refine WO.q (.as (v := .sl _ _ _ _ _ _) rfl) rfl rfl ?_
  refine WO.q (.as (v := .int _ _) rfl) rfl rfl ?_
  refine WO.nil ?_
  obtain rfl := Option.some.inj h
  exact WX.ret (rs_ (rs_tmp rfl (rs_tmp rfl rs_nil))) fun st hp => ⟨_, _, _, hB, (hp.pk [] (by decide)), .sl 0 0 0 0 0 true, rfl, rfl, hH, (RSl.nil _ _)⟩
  have q_k14 := of_decide_eq_false k14
  replace h := (if_neg q_k14).symm.trans h
  refine WX.condF rfl k14 ?_
  refine WX.skip ?_
  refine WX.seq ?_
  refine WX.reg ?_
  refine WO.q (.mv (v := .ptr b_y3 0) rfl) rfl rfl ?_
  refine WO.q (.mv (v := .int _ _) rfl) rfl rfl ?_
  refine WO.q (.mv (v := .str _) rfl) rfl rfl ?_
  obtain ⟨y15, hy15, h⟩ := Option.bind_eq_some_iff.1 h
  refine WO.ch rfl rfl (tree_Tree_drop_ok hH g0_0 hy15) rfl rfl rfl ?_
  rintro _ B _ E hK ⟨rfl, rfl, hH⟩
  replace g0_0 := g0_0.upw hK
  replace hB := hB.trans hK
  refine WO.nil ?_
  refine WX.seq ?_
  refine WX.reg ?_
  refine WO.q (.mv (v := .ptr b_y3 0) rfl) rfl rfl ?_
  refine WO.q (.mv (v := .int _ _) rfl) rfl rfl ?_
  obtain ⟨y16, hy16, h⟩ := Option.bind_eq_some_iff.1 h
  refine WO.ch rfl rfl (tree_Tree_links_ok hH g0_0 hy16) rfl rfl rfl ?_
  rintro _ B _ E hK ⟨v17, rfl, rfl, hH, h18⟩
  obtain ⟨_, _, _, _, _, rfl⟩ := h18.isl
  replace g0_0 := g0_0.upw hK
  replace hB := hB.trans hK
  refine WO.q (.as (v := .sl _ _ _ _ _ _) rfl) rfl rfl ?_
  refine WO.q (.as (v := .int _ _) rfl) rfl rfl ?_
  refine WO.nil ?_
  obtain rfl := Option.some.inj h
  exact WX.ret (rs_ (rs_tmp rfl (rs_tmp rfl rs_nil))) fun st hp => ⟨_, _, _, hB, (hp.pk [] (by decide)), _, rfl, rfl, hH, h18⟩
def tree_Tree_within_P (B : Kn) (L : Own) (r : Bool) : AV → St → Prop := CS B L fun v => v = .bool r
def tree_Tree_within_j1_I (B0 : Kn) (x0 : Nat) (x1 : Int) (x2 : Int) (x13 : Bool) : Fr → Kn → Own → Prop := fun fr B A => KLe B0 B ∧ ∃ v3, HPt B 126 v3 x0 ∧ fr = [(0, v3), (1, .int .i64 x1), (2, .int .i64 x2), (13, .bool x13)] ∧ A = []
def tree_Tree_within_l0_I (B0 : Kn) (x0 : Nat) (x2 : Int) (x1 : Int) : Fr → Kn → Own → Prop := fun fr B A => KLe B0 B ∧ ∃ v1, HPt B 126 v1 x0 ∧ fr = [(0, v1), (1, .int .i64 x1), (2, .int .i64 x2)] ∧ A = []
def tree_Tree_within_l0_X0 (B0 : Kn) (x1 : Int) (x2 : Int) : Fr → Kn → Own → Prop := fun fr B A => KLe B0 B ∧ fr = [(1, .int .i64 x1), (2, .int .i64 x2)] ∧ A = []
theorem tree_Tree_within_j1_ok {B0 : Kn} {L : Own} {n0 : Nat} {H : Heap} {Eh : Own} {x0 : Nat} {x1 : Int} {x2 : Int} {x13 : Bool} {Q : AV → St → Prop} {E : Int ⊕ Int → Prop} {o : Int ⊕ Int} (h : tree_Tree_within_j1 H x0 x1 x2 x13 = some o) (hH0 : HR B0 H Eh) (hn : ∀ s, E (.inl s) → WXI Tryz.prog 26 n0 (Fin Tryz.prog Tryz.f141.results.toList n0 Q) [.lp (ct [1, 0, 0, 0] (bodyOf Tryz.f141)), .blk 0, .code (ct [1, 1] (bodyOf Tryz.f141))] (tree_Tree_within_l0_I B0 x0 x2 s) (Eh ++ L)) (hx0 : ∀ s, E (.inr s) → WXI Tryz.prog 26 n0 (Fin Tryz.prog Tryz.f141.results.toList n0 Q) [.code (ct [1, 1] (bodyOf Tryz.f141))] (tree_Tree_within_l0_X0 B0 s x2) (Eh ++ L)) (hE : E o) : WXI Tryz.prog 26 n0 (Fin Tryz.prog Tryz.f141.results.toList n0 Q) [.code (ct [1, 0, 0, 0, 0, 1] (bodyOf Tryz.f141)), .code (ct [1, 0, 0, 0, 1] (bodyOf Tryz.f141)), .lp (ct [1, 0, 0, 0] (bodyOf Tryz.f141)), .blk 0, .code (ct [1, 1] (bodyOf Tryz.f141))] (tree_Tree_within_j1_I B0 x0 x1 x2 x13) (Eh ++ L) := by
  unfold tree_Tree_within_j1 at h
  rintro _ B _ ⟨hB, v3, h3, rfl, rfl⟩
  have hH := hH0.up hB
  rcases bsp x13 with k4 | k4
  replace h := (if_pos k4).symm.trans h
  refine WX.condT rfl k4 ?_
  refine WX.skip ?_
  refine WX.block ?_
  refine WX.reg ?_
  refine WO.q (.mv (v := v3) rfl) rfl rfl ?_
  obtain ⟨y5, hy5, h⟩ := Option.bind_eq_some_iff.1 h
  obtain ⟨b_y5, c_y5, e_y5, m_y5, r_y5, u_y5⟩ := hgetS (foc126 hH) h3 hy5
  subst e_y5
  obtain ⟨_, _, rfl, ⟨w6, rfl, hw6⟩, ⟨_, _, rfl, ⟨w7, rfl, hw7⟩, ⟨w8, rfl, hw8⟩⟩⟩ := r_y5
  refine WO.q (.r fun _ => rfl) rfl rfl ?_
  refine WO.q (.fa (fa126_0 _ _)) rfl rfl ?_
  refine WO.ql (.ldSm rfl (inE m_y5) rfl ti122 rfl) rfl rfl ?_
  refine WO.q (.mv (v := .int _ _) rfl) rfl rfl ?_
  obtain ⟨y9, hy9, h⟩ := Option.bind_eq_some_iff.1 h
  refine WO.md (MOp.lookup mt122 (foc122 hH) hw6 hy9 kI rfl rfl) rfl rfl ?_
  rintro c10 _ ⟨rfl, _, r11, rfl⟩
  have hw12 := r11
  obtain ⟨y13, hy13, h⟩ := Option.bind_eq_some_iff.1 h
  obtain ⟨b_y13, c_y13, e_y13, m_y13, r_y13, u_y13⟩ := hgetS (foc131 hH) hw12 hy13
  subst e_y13
  obtain ⟨_, _, rfl, ⟨_, _, rfl, rfl, ⟨_, _, rfl, rfl, ⟨_, _, rfl, rfl, ⟨_, _, rfl, ⟨w14, rfl, hw14⟩, rfl⟩⟩⟩⟩, ⟨_, _, rfl, ⟨w15, rfl, hw15⟩, ⟨_, _, rfl, rfl, rfl⟩⟩⟩ := r_y13
  obtain ⟨_, _, _, _, _, rfl⟩ := hw14.isl
  refine WO.q (.r fun _ => rfl) rfl rfl ?_
  refine WO.q (.fa (fa131_2 _ _)) rfl rfl ?_
  refine WO.ql (.ldSm rfl (inE m_y13) rfl ti3 rfl) rfl rfl ?_
  refine WO.q (.as (v := .int _ _) rfl) rfl rfl ?_
  refine WO.nil ?_
  refine WX.pop ?_
  refine WX.keepL [0, 1, 2] (WX.pk [] (by decide) ?_) rfl
  obtain rfl := Option.some.inj h
  exact hn _ hE _ _ _ ⟨hB, _, h3, rfl, rfl⟩
  replace h := (if_neg (bnt k4)).symm.trans h
  refine WX.condF rfl k4 ?_
  refine WX.exit rfl ?_
  refine WX.keep [1, 2] (WX.pk [] (by decide) ?_) rfl
  obtain rfl := Option.some.inj h
  exact hx0 _ hE _ _ _ ⟨hB, rfl, rfl⟩
theorem tree_Tree_within_l0_s {B0 : Kn} {L : Own} {n0 : Nat} {H : Heap} {Eh : Own} {x0 : Nat} {x2 : Int} {x1 : Int} {Q : AV → St → Prop} {E : Int ⊕ Int → Prop} {o : Int ⊕ Int} (h : tree_Tree_within_l0 H x0 x2 x1 = some o) (hH0 : HR B0 H Eh) (hn : ∀ s, E (.inl s) → WXI Tryz.prog 26 n0 (Fin Tryz.prog Tryz.f141.results.toList n0 Q) [.lp (ct [1, 0, 0, 0] (bodyOf Tryz.f141)), .blk 0, .code (ct [1, 1] (bodyOf Tryz.f141))] (tree_Tree_within_l0_I B0 x0 x2 s) (Eh ++ L)) (hx0 : ∀ s, E (.inr s) → WXI Tryz.prog 26 n0 (Fin Tryz.prog Tryz.f141.results.toList n0 Q) [.code (ct [1, 1] (bodyOf Tryz.f141))] (tree_Tree_within_l0_X0 B0 s x2) (Eh ++ L)) (hE : E o) : WXI Tryz.prog 26 n0 (Fin Tryz.prog Tryz.f141.results.toList n0 Q) [.code (ct [1, 0, 0, 0] (bodyOf Tryz.f141)), .lp (ct [1, 0, 0, 0] (bodyOf Tryz.f141)), .blk 0, .code (ct [1, 1] (bodyOf Tryz.f141))] (tree_Tree_within_l0_I B0 x0 x2 x1) (Eh ++ L) := by
  unfold tree_Tree_within_l0 at h
  rintro _ B _ ⟨hB, v1, h1, rfl, rfl⟩
  have hH := hH0.up hB
  refine WX.seq ?_
  refine WX.seq ?_
  refine WX.reg ?_
  refine WO.q (.mv (v := .int _ _) rfl) rfl rfl ?_
  refine WO.q (.mv (v := .int _ _) rfl) rfl rfl ?_
  refine WO.q (.r fun _ => rfl) rfl rfl ?_
  refine WO.q (.mv (v := .bool _) rfl) rfl rfl ?_
  rcases bsp (decide (x1 ≠ x2)) with k2 | k2
  have q_k2 := of_decide_eq_true k2
  replace h := (if_pos q_k2).symm.trans h
  refine WO.q (.mv (v := .int _ _) rfl) (wg rfl rfl (gt k2)) rfl ?_
  refine WO.q (.r fun _ => rfl) (wg rfl rfl (gt k2)) rfl ?_
  refine WO.q (.ptv (v := .bool _) rfl k2 rfl) rfl rfl ?_
  refine WO.nil ?_
  refine WX.keep [0, 1, 2, 13] (WX.pk [] (by decide) ?_) rfl
  exact tree_Tree_within_j1_ok h hH0 hn hx0 hE _ _ _ ⟨hB, _, h1, rfl, rfl⟩
  have q_k2 := of_decide_eq_false k2
  replace h := (if_neg q_k2).symm.trans h
  refine WO.sd (wg rfl rfl (gtn k2)) rfl ?_
  refine WO.sd (wg rfl rfl (gtn k2)) rfl ?_
  refine WO.q (.pfv (v := .bool _) rfl k2 rfl) rfl rfl ?_
  refine WO.nil ?_
  refine WX.keep [0, 1, 2, 13] (WX.pk [] (by decide) ?_) rfl
  exact tree_Tree_within_j1_ok h hH0 hn hx0 hE _ _ _ ⟨hB, _, h1, rfl, rfl⟩
theorem tree_Tree_within_l0_ok {B0 : Kn} {L : Own} {n0 : Nat} {H : Heap} {Eh : Own} {x0 : Nat} {x2 : Int} {x1 : Int} {Q : AV → St → Prop} {d : Nat} {e : Int} (h : iter (fun (s : Int) => tree_Tree_within_l0 H x0 x2 s) d x1 = some e) (hH0 : HR B0 H Eh) (g0 : ∀ s, e = s → WXI Tryz.prog 26 n0 (Fin Tryz.prog Tryz.f141.results.toList n0 Q) [.code (ct [1, 1] (bodyOf Tryz.f141))] (tree_Tree_within_l0_X0 B0 s x2) (Eh ++ L)) : WXI Tryz.prog 26 n0 (Fin Tryz.prog Tryz.f141.results.toList n0 Q) [.code (ct [1, 0, 0, 0] (bodyOf Tryz.f141)), .lp (ct [1, 0, 0, 0] (bodyOf Tryz.f141)), .blk 0, .code (ct [1, 1] (bodyOf Tryz.f141))] (tree_Tree_within_l0_I B0 x0 x2 x1) (Eh ++ L) :=
  iter_ok (I := fun s => tree_Tree_within_l0_I B0 x0 x2 s) (D := fun e => (∀ s, e = s → WXI Tryz.prog 26 n0 (Fin Tryz.prog Tryz.f141.results.toList n0 Q) [.code (ct [1, 1] (bodyOf Tryz.f141))] (tree_Tree_within_l0_X0 B0 s x2) (Eh ++ L))) (fun E hn hx s o ho hE => tree_Tree_within_l0_s (x1 := s) ho hH0 hn (fun s hs => (hx _ hs) _ rfl)  hE) h g0
theorem tree_Tree_within_ok {B0 : Kn} {L : Own} {H : Heap} {Eh : Own} (hH : HR B0 H Eh) {a0 : Nat} {a1 : Int} {a2 : Int} {v0_0 : AV} (g0_0 : HPt B0 126 v0_0 a0) {r : Bool} (h : tree_Tree_within H a0 a1 a2 = some r) : ∀ st, Hp B0 (Eh ++ L) st → ASpec Tryz.prog 141 [v0_0, .int .i64 a1, .int .i64 a2] st (tree_Tree_within_P B0 (Eh ++ L) r) := by
  unfold tree_Tree_within at h
  refine bodyA (A := []) (L := Eh ++ L) Tryz.func141 rfl (c := bodyOf Tryz.f141) rfl Tryz.ntmps141 (lb rfl) fun n0 => ?_
  have hB := KLe.refl B0
  have hH0 := hH
  refine WX.seq ?_
  refine WX.reg ?_
  refine WO.q (.as (v := .bool _) rfl) rfl rfl ?_
  refine WO.nil ?_
  refine WX.seq ?_
  refine WX.block ?_
  refine WX.loop ?_
  obtain ⟨e16, he16, h⟩ := Option.bind_eq_some_iff.1 h
  refine WX.keep [0, 1, 2] (WX.pk [] (by decide) ?_) rfl
  refine tree_Tree_within_l0_ok he16 hH0 ?_ _ _ _ ⟨hB, _, g0_0, rfl, rfl⟩
  intro s17 he_
  subst he_
  replace h := h
  rintro _ B _ ⟨hB, rfl, rfl⟩
  have hH := hH0.up hB
  refine WX.seq ?_
  refine WX.reg ?_
  refine WO.q (.mv (v := .int _ _) rfl) rfl rfl ?_
  refine WO.q (.mv (v := .int _ _) rfl) rfl rfl ?_
  refine WO.q (.r fun _ => rfl) rfl rfl ?_
  refine WO.q (.as (v := .bool _) rfl) rfl rfl ?_
  refine WO.nil ?_
  obtain rfl := Option.some.inj h
  exact WX.ret (rs_ (rs_tmp rfl rs_nil)) fun st hp => ⟨(hp.pk [] (by decide)).le hB, rfl⟩
def tree_Tree_movable_P (B : Kn) (L : Own) (r : Int × Int) : AV → St → Prop := CS B L fun v => v = .tup [.int .i64 r.1, .int .i64 r.2]
def tree_Tree_movable_j13_I (B0 : Kn) (x16 : Int) (x68 : Bool) : Fr → Kn → Own → Prop := fun fr B A => KLe B0 B ∧ fr = [(16, .int .i64 x16), (68, .bool x68)] ∧ A = []
theorem tree_Tree_movable_j13_ok {B0 : Kn} {L : Own} {n0 : Nat} {H : Heap} {Eh : Own} {x16 : Int} {x68 : Bool} {r : Int × Int} (h : tree_Tree_movable_j13 H x16 x68 = some r) (hH0 : HR B0 H Eh) : WXI Tryz.prog 70 n0 (Fin Tryz.prog Tryz.f90.results.toList n0 (tree_Tree_movable_P B0 (Eh ++ L) r)) [.code (ct [1, 1, 1, 1, 1, 1, 0, 1] (bodyOf Tryz.f90)), .code (ct [1, 1, 1, 1, 1, 1, 1] (bodyOf Tryz.f90))] (tree_Tree_movable_j13_I B0 x16 x68) (Eh ++ L) := by
  unfold tree_Tree_movable_j13 at h
  rintro _ B _ ⟨hB, rfl, rfl⟩
  have hH := hH0.up hB
  rcases bsp x68 with k26 | k26
  replace h := (if_pos k26).symm.trans h
  refine WX.condT rfl k26 ?_
  refine WX.seq ?_
  refine WX.reg ?_
  refine WO.q (.as (v := .int _ _) rfl) rfl rfl ?_
  refine WO.q (.as (v := .int _ _) rfl) rfl rfl ?_
  refine WO.nil ?_
  obtain rfl := Option.some.inj h
  exact WX.ret (rs_ (rs_tmp rfl (rs_tmp rfl rs_nil))) fun st hp => ⟨(hp.pk [] (by decide)).le hB, rfl⟩
  replace h := (if_neg (bnt k26)).symm.trans h
  refine WX.condF rfl k26 ?_
  refine WX.skip ?_
  refine WX.seq ?_
  refine WX.reg ?_
  refine WO.q (.mv (v := .int _ _) rfl) rfl rfl ?_
  refine WO.q (.as (v := .int _ _) rfl) rfl rfl ?_
  refine WO.q (.as (v := .int _ _) rfl) rfl rfl ?_
  refine WO.nil ?_
  obtain rfl := Option.some.inj h
  exact WX.ret (rs_ (rs_tmp rfl (rs_tmp rfl rs_nil))) fun st hp => ⟨(hp.pk [] (by decide)).le hB, rfl⟩
theorem tree_Tree_movable_ok {B0 : Kn} {L : Own} {H : Heap} {Eh : Own} (hH : HR B0 H Eh) {a0 : Nat} {a1 : Int} {a2 : List UInt8} {a3 : Int} {a4 : List UInt8} {v0_0 : AV} (g0_0 : HPt B0 126 v0_0 a0) {r : Int × Int} (h : tree_Tree_movable H a0 a1 a2 a3 a4 = some r) : ∀ st, Hp B0 (Eh ++ L) st → ASpec Tryz.prog 90 [v0_0, .int .i64 a1, .str a2, .int .i64 a3, .str a4] st (tree_Tree_movable_P B0 (Eh ++ L) r) := by
  unfold tree_Tree_movable at h
  refine bodyA (A := []) (L := Eh ++ L) Tryz.func90 rfl (c := bodyOf Tryz.f90) rfl Tryz.ntmps90 (lb rfl) fun n0 => ?_
  have hB := KLe.refl B0
  have hH0 := hH
  refine WX.seq ?_
  refine WX.reg ?_
  refine WO.q (.as (v := .int _ _) rfl) rfl rfl ?_
  refine WO.q (.as (v := .int _ _) rfl) rfl rfl ?_
  refine WO.nil ?_
  refine WX.seq ?_
  refine WX.seq ?_
  refine WX.reg ?_
  refine WO.q (.mv (v := v0_0) rfl) rfl rfl ?_
  refine WO.q (.mv (v := .int _ _) rfl) rfl rfl ?_
  obtain ⟨y1, hy1, h⟩ := Option.bind_eq_some_iff.1 h
  refine WO.c0 rfl rfl (rd0 (tree_Tree_open_ok hH g0_0 hy1)) rfl rfl rfl ?_
  rintro _ B hK ⟨v2, rfl, h3⟩
  replace g0_0 := g0_0.up hK
  replace hH := hH.up hK
  replace hB := hB.trans hK
  refine WO.q (.mv (v := .tup _) rfl) rfl rfl ?_
  refine WO.q (.r fun _ => rfl) rfl rfl ?_
  refine WO.q (.r fun _ => rfl) rfl rfl ?_
  refine WO.q (.as (v := v2) rfl) rfl rfl ?_
  refine WO.q (.as (v := .int _ _) rfl) rfl rfl ?_
  refine WO.nil ?_
  refine WX.seq ?_
  refine WX.reg ?_
  refine WO.q (.mv (v := .int _ _) rfl) rfl rfl ?_
  refine WO.q (.r fun _ => rfl) rfl rfl ?_
  refine WO.nil ?_
  rcases bsp (decide (y1.2 ≠ 0)) with k4 | k4
  have q_k4 := of_decide_eq_true k4
  replace h := (if_pos q_k4).symm.trans h
  refine WX.condT rfl k4 ?_
  refine WX.seq ?_
  refine WX.reg ?_
  refine WO.q (.mv (v := .int _ _) rfl) rfl rfl ?_
  refine WO.q (.as (v := .int _ _) rfl) rfl rfl ?_
  refine WO.q (.as (v := .int _ _) rfl) rfl rfl ?_
  refine WO.nil ?_
  obtain rfl := Option.some.inj h
  exact WX.ret (rs_ (rs_tmp rfl (rs_tmp rfl rs_nil))) fun st hp => ⟨(hp.pk [] (by decide)).le hB, rfl⟩
  have q_k4 := of_decide_eq_false k4
  replace h := (if_neg q_k4).symm.trans h
  refine WX.condF rfl k4 ?_
  refine WX.skip ?_
  refine WX.seq ?_
  refine WX.seq ?_
  refine WX.reg ?_
  refine WO.q (.mv (v := v0_0) rfl) rfl rfl ?_
  refine WO.q (.mv (v := .int _ _) rfl) rfl rfl ?_
  obtain ⟨y5, hy5, h⟩ := Option.bind_eq_some_iff.1 h
  refine WO.c0 rfl rfl (rd0 (tree_Tree_open_ok hH g0_0 hy5)) rfl rfl rfl ?_
  rintro _ B hK ⟨v6, rfl, h7⟩
  replace g0_0 := g0_0.up hK
  replace hH := hH.up hK
  replace hB := hB.trans hK
  refine WO.q (.mv (v := .tup _) rfl) rfl rfl ?_
  refine WO.q (.r fun _ => rfl) rfl rfl ?_
  refine WO.q (.r fun _ => rfl) rfl rfl ?_
  refine WO.q (.as (v := v6) rfl) rfl rfl ?_
  refine WO.q (.as (v := .int _ _) rfl) rfl rfl ?_
  refine WO.nil ?_
  refine WX.seq ?_
  refine WX.reg ?_
  refine WO.q (.mv (v := .int _ _) rfl) rfl rfl ?_
  refine WO.q (.r fun _ => rfl) rfl rfl ?_
  refine WO.nil ?_
  rcases bsp (decide (y5.2 ≠ 0)) with k8 | k8
  have q_k8 := of_decide_eq_true k8
  replace h := (if_pos q_k8).symm.trans h
  refine WX.condT rfl k8 ?_
  refine WX.seq ?_
  refine WX.reg ?_
  refine WO.q (.mv (v := .int _ _) rfl) rfl rfl ?_
  refine WO.q (.as (v := .int _ _) rfl) rfl rfl ?_
  refine WO.q (.as (v := .int _ _) rfl) rfl rfl ?_
  refine WO.nil ?_
  obtain rfl := Option.some.inj h
  exact WX.ret (rs_ (rs_tmp rfl (rs_tmp rfl rs_nil))) fun st hp => ⟨(hp.pk [] (by decide)).le hB, rfl⟩
  have q_k8 := of_decide_eq_false k8
  replace h := (if_neg q_k8).symm.trans h
  refine WX.condF rfl k8 ?_
  refine WX.skip ?_
  refine WX.seq ?_
  refine WX.reg ?_
  refine WO.q (.mv (v := v0_0) rfl) rfl rfl ?_
  refine WO.q (.mv (v := .int _ _) rfl) rfl rfl ?_
  refine WO.q (.mv (v := .str _) rfl) rfl rfl ?_
  obtain ⟨y9, hy9, h⟩ := Option.bind_eq_some_iff.1 h
  refine WO.cS rfl rfl (rdS (tree_Tree_Find_ok hH g0_0 hy9)) rfl rfl rfl ?_
  rintro _ rfl
  refine WO.q (.mv (v := .tup _) rfl) rfl rfl ?_
  refine WO.q (.r fun _ => rfl) rfl rfl ?_
  refine WO.q (.r fun _ => rfl) rfl rfl ?_
  refine WO.q (.as (v := .int _ _) rfl) rfl rfl ?_
  refine WO.q (.as (v := .int _ _) rfl) rfl rfl ?_
  refine WO.nil ?_
  refine WX.seq ?_
  refine WX.seq ?_
  refine WX.reg ?_
  refine WO.q (.mv (v := .int _ _) rfl) rfl rfl ?_
  refine WO.q (.r fun _ => rfl) rfl rfl ?_
  refine WO.nil ?_
  rcases bsp (decide (y9.2 ≠ 0)) with k10 | k10
  have q_k10 := of_decide_eq_true k10
  replace h := (if_pos q_k10).symm.trans h
  refine WX.condT rfl k10 ?_
  refine WX.seq ?_
  refine WX.reg ?_
  refine WO.q (.mv (v := .int _ _) rfl) rfl rfl ?_
  refine WO.q (.as (v := .int _ _) rfl) rfl rfl ?_
  refine WO.q (.as (v := .int _ _) rfl) rfl rfl ?_
  refine WO.nil ?_
  obtain rfl := Option.some.inj h
  exact WX.ret (rs_ (rs_tmp rfl (rs_tmp rfl rs_nil))) fun st hp => ⟨(hp.pk [] (by decide)).le hB, rfl⟩
  have q_k10 := of_decide_eq_false k10
  replace h := (if_neg q_k10).symm.trans h
  refine WX.condF rfl k10 ?_
  refine WX.skip ?_
  refine WX.seq ?_
  refine WX.seq ?_
  refine WX.reg ?_
  refine WO.q (.mv (v := .str _) rfl) rfl rfl ?_
  obtain ⟨y11, hy11, h⟩ := Option.bind_eq_some_iff.1 h
  refine WO.cS rfl rfl (dir_Name_ok hy11) rfl rfl rfl ?_
  rintro _ rfl
  refine WO.q (.as (v := .int _ _) rfl) rfl rfl ?_
  refine WO.nil ?_
  refine WX.seq ?_
  refine WX.reg ?_
  refine WO.q (.mv (v := .int _ _) rfl) rfl rfl ?_
  refine WO.q (.r fun _ => rfl) rfl rfl ?_
  refine WO.nil ?_
  rcases bsp (decide (y11 ≠ 0)) with k12 | k12
  have q_k12 := of_decide_eq_true k12
  replace h := (if_pos q_k12).symm.trans h
  refine WX.condT rfl k12 ?_
  refine WX.seq ?_
  refine WX.reg ?_
  refine WO.q (.mv (v := .int _ _) rfl) rfl rfl ?_
  refine WO.q (.as (v := .int _ _) rfl) rfl rfl ?_
  refine WO.q (.as (v := .int _ _) rfl) rfl rfl ?_
  refine WO.nil ?_
  obtain rfl := Option.some.inj h
  exact WX.ret (rs_ (rs_tmp rfl (rs_tmp rfl rs_nil))) fun st hp => ⟨(hp.pk [] (by decide)).le hB, rfl⟩
  have q_k12 := of_decide_eq_false k12
  replace h := (if_neg q_k12).symm.trans h
  refine WX.condF rfl k12 ?_
  refine WX.skip ?_
  refine WX.seq ?_
  refine WX.seq ?_
  refine WX.reg ?_
  refine WO.q (.mv (v := v0_0) rfl) rfl rfl ?_
  obtain ⟨y13, hy13, h⟩ := Option.bind_eq_some_iff.1 h
  obtain ⟨b_y13, c_y13, e_y13, m_y13, r_y13, u_y13⟩ := hgetS (foc126 hH) g0_0 hy13
  subst e_y13
  obtain ⟨_, _, rfl, ⟨w14, rfl, hw14⟩, ⟨_, _, rfl, ⟨w15, rfl, hw15⟩, ⟨w16, rfl, hw16⟩⟩⟩ := r_y13
  refine WO.q (.r fun _ => rfl) rfl rfl ?_
  refine WO.q (.fa (fa126_0 _ _)) rfl rfl ?_
  refine WO.ql (.ldSm rfl (inE m_y13) rfl ti122 rfl) rfl rfl ?_
  refine WO.q (.mv (v := .int _ _) rfl) rfl rfl ?_
  obtain ⟨y17, hy17, h⟩ := Option.bind_eq_some_iff.1 h
  refine WO.md (MOp.lookup mt122 (foc122 hH) hw14 hy17 kI rfl rfl) rfl rfl ?_
  rintro c18 _ ⟨rfl, _, r19, rfl⟩
  have hw20 := r19
  obtain ⟨y21, hy21, h⟩ := Option.bind_eq_some_iff.1 h
  obtain ⟨b_y21, c_y21, e_y21, m_y21, r_y21, u_y21⟩ := hgetS (foc131 hH) hw20 hy21
  subst e_y21
  obtain ⟨_, _, rfl, ⟨_, _, rfl, rfl, ⟨_, _, rfl, rfl, ⟨_, _, rfl, rfl, ⟨_, _, rfl, ⟨w22, rfl, hw22⟩, rfl⟩⟩⟩⟩, ⟨_, _, rfl, ⟨w23, rfl, hw23⟩, ⟨_, _, rfl, rfl, rfl⟩⟩⟩ := r_y21
  obtain ⟨_, _, _, _, _, rfl⟩ := hw22.isl
  refine WO.q (.r fun _ => rfl) rfl rfl ?_
  refine WO.q (.fa (fa131_0 _ _)) rfl rfl ?_
  refine WO.q (.fa (fa53_0 _ _)) rfl rfl ?_
  refine WO.ql (.ldSm rfl (inE m_y21) rfl ti49 rfl) rfl rfl ?_
  refine WO.q (.r fun _ => rfl) rfl rfl ?_
  refine WO.q (.mv (v := .bool _) rfl) rfl rfl ?_
  rcases bsp (decide (y21.1.1 = 2)) with k24 | k24
  have q_k24 := of_decide_eq_true k24
  replace h := (if_pos q_k24).symm.trans h
  refine WO.q (.mv (v := .ptr b_y13 0) rfl) (wg rfl rfl (gt k24)) rfl ?_
  refine WO.q (.mv (v := .int _ _) rfl) (wg rfl rfl (gt k24)) rfl ?_
  refine WO.q (.mv (v := .int _ _) rfl) (wg rfl rfl (gt k24)) rfl ?_
  obtain ⟨y25, hy25, h⟩ := Option.bind_eq_some_iff.1 h
  refine WO.cS rfl rfl (rdS (tree_Tree_within_ok hH g0_0 hy25)) rfl (wg rfl rfl (gt k24)) rfl ?_
  rintro _ rfl
  refine WO.q (.ptv (v := .bool _) rfl k24 rfl) rfl rfl ?_
  refine WO.nil ?_
  refine WX.keep [16, 68] (WX.pk [] (by decide) ?_) rfl
  exact tree_Tree_movable_j13_ok h hH0 _ _ _ ⟨hB, rfl, rfl⟩
  have q_k24 := of_decide_eq_false k24
  replace h := (if_neg q_k24).symm.trans h
  refine WO.sd (wg rfl rfl (gtn k24)) rfl ?_
  refine WO.sd (wg rfl rfl (gtn k24)) rfl ?_
  refine WO.sd (wg rfl rfl (gtn k24)) rfl ?_
  refine WO.sd (wg rfl rfl (gtn k24)) rfl ?_
  refine WO.q (.pfv (v := .bool _) rfl k24 rfl) rfl rfl ?_
  refine WO.nil ?_
  refine WX.keep [16, 68] (WX.pk [] (by decide) ?_) rfl
  exact tree_Tree_movable_j13_ok h hH0 _ _ _ ⟨hB, rfl, rfl⟩
def tree_Tree_clash_P (B : Kn) (L : Own) (r : Int) : AV → St → Prop := CS B L fun v => v = .int .i64 r
def tree_Tree_clash_j2_I (B0 : Kn) (x7 : Nat) (x8 : Nat) (x21 : Bool) : Fr → Kn → Own → Prop := fun fr B A => KLe B0 B ∧ ∃ v14010 v14011, HPt B 131 v14010 x7 ∧ HPt B 131 v14011 x8 ∧ fr = [(7, v14010), (8, v14011), (21, .bool x21)] ∧ A = []
def tree_Tree_clash_j1_I (B0 : Kn) (x7 : Nat) (x8 : Nat) : Fr → Kn → Own → Prop := fun fr B A => KLe B0 B ∧ ∃ v14001 v14002, HPt B 131 v14001 x7 ∧ HPt B 131 v14002 x8 ∧ fr = [(7, v14001), (8, v14002)] ∧ A = []
theorem tree_Tree_clash_j2_ok {B0 : Kn} {L : Own} {n0 : Nat} {H : Heap} {Eh : Own} {x7 : Nat} {x8 : Nat} {x21 : Bool} {r : Int} (h : tree_Tree_clash_j2 H x7 x8 x21 = some r) (hH0 : HR B0 H Eh) : WXI Tryz.prog 57 n0 (Fin Tryz.prog Tryz.f91.results.toList n0 (tree_Tree_clash_P B0 (Eh ++ L) r)) [.code (ct [1, 1, 0, 0, 1] (bodyOf Tryz.f91)), .blk 0, .code (ct [1, 1, 1] (bodyOf Tryz.f91))] (tree_Tree_clash_j2_I B0 x7 x8 x21) (Eh ++ L) := by
  unfold tree_Tree_clash_j2 at h
  rintro _ B _ ⟨hB, v14010, v14011, h14010, h14011, rfl, rfl⟩
  have hH := hH0.up hB
  rcases bsp x21 with k14012 | k14012
  replace h := (if_pos k14012).symm.trans h
  refine WX.condT rfl k14012 ?_
  refine WX.seq ?_
  refine WX.reg ?_
  refine WO.q (.as (v := .int _ _) rfl) rfl rfl ?_
  refine WO.nil ?_
  obtain rfl := Option.some.inj h
  exact WX.ret (rs_ (rs_tmp rfl rs_nil)) fun st hp => ⟨(hp.pk [] (by decide)).le hB, rfl⟩
  replace h := (if_neg (bnt k14012)).symm.trans h
  refine WX.condF rfl k14012 ?_
  refine WX.seq ?_
  refine WX.reg ?_
  refine WO.q (.mv (v := v14010) rfl) rfl rfl ?_
  obtain ⟨y14013, hy14013, h⟩ := Option.bind_eq_some_iff.1 h
  obtain ⟨b_y14013, c_y14013, e_y14013, m_y14013, r_y14013, u_y14013⟩ := hgetS (foc131 hH) h14010 hy14013
  subst e_y14013
  obtain ⟨_, _, rfl, ⟨_, _, rfl, rfl, ⟨_, _, rfl, rfl, ⟨_, _, rfl, rfl, ⟨_, _, rfl, ⟨w14014, rfl, hw14014⟩, rfl⟩⟩⟩⟩, ⟨_, _, rfl, ⟨w14015, rfl, hw14015⟩, ⟨_, _, rfl, rfl, rfl⟩⟩⟩ := r_y14013
  obtain ⟨_, _, _, _, _, rfl⟩ := hw14014.isl
  refine WO.q (.r fun _ => rfl) rfl rfl ?_
  refine WO.q (.fa (fa131_0 _ _)) rfl rfl ?_
  refine WO.q (.fa (fa53_0 _ _)) rfl rfl ?_
  refine WO.ql (.ldSm rfl (inE m_y14013) rfl ti49 rfl) rfl rfl ?_
  refine WO.q (.r fun _ => rfl) rfl rfl ?_
  refine WO.q (.as (v := .bool _) rfl) rfl rfl ?_
  refine WO.nil ?_
  rcases bsp (decide (y14013.1.1 ≠ 2)) with k14016 | k14016
  have q_k14016 := of_decide_eq_true k14016
  replace h := (if_pos q_k14016).symm.trans h
  refine WX.condT rfl k14016 ?_
  refine WX.seq ?_
  refine WX.reg ?_
  refine WO.q (.as (v := .int _ _) rfl) rfl rfl ?_
  refine WO.nil ?_
  obtain rfl := Option.some.inj h
  exact WX.ret (rs_ (rs_tmp rfl rs_nil)) fun st hp => ⟨(hp.pk [] (by decide)).le hB, rfl⟩
  have q_k14016 := of_decide_eq_false k14016
  replace h := (if_neg q_k14016).symm.trans h
  refine WX.condF rfl k14016 ?_
  refine WX.seq ?_
  refine WX.reg ?_
  refine WO.q (.mv (v := v14011) rfl) rfl rfl ?_
  obtain ⟨y14017, hy14017, h⟩ := Option.bind_eq_some_iff.1 h
  obtain ⟨b_y14017, c_y14017, e_y14017, m_y14017, r_y14017, u_y14017⟩ := hgetS (foc131 hH) h14011 hy14017
  subst e_y14017
  obtain ⟨_, _, rfl, ⟨_, _, rfl, rfl, ⟨_, _, rfl, rfl, ⟨_, _, rfl, rfl, ⟨_, _, rfl, ⟨w14018, rfl, hw14018⟩, rfl⟩⟩⟩⟩, ⟨_, _, rfl, ⟨w14019, rfl, hw14019⟩, ⟨_, _, rfl, rfl, rfl⟩⟩⟩ := r_y14017
  obtain ⟨_, _, _, _, _, rfl⟩ := hw14018.isl
  refine WO.q (.r fun _ => rfl) rfl rfl ?_
  refine WO.q (.fa (fa131_0 _ _)) rfl rfl ?_
  refine WO.q (.fa (fa53_0 _ _)) rfl rfl ?_
  refine WO.ql (.ldSm rfl (inE m_y14017) rfl ti49 rfl) rfl rfl ?_
  refine WO.q (.r fun _ => rfl) rfl rfl ?_
  refine WO.q (.as (v := .bool _) rfl) rfl rfl ?_
  refine WO.nil ?_
  rcases bsp (decide (y14017.1.1 ≠ 2)) with k14020 | k14020
  have q_k14020 := of_decide_eq_true k14020
  replace h := (if_pos q_k14020).symm.trans h
  refine WX.condT rfl k14020 ?_
  refine WX.seq ?_
  refine WX.reg ?_
  refine WO.q (.as (v := .int _ _) rfl) rfl rfl ?_
  refine WO.nil ?_
  obtain rfl := Option.some.inj h
  exact WX.ret (rs_ (rs_tmp rfl rs_nil)) fun st hp => ⟨(hp.pk [] (by decide)).le hB, rfl⟩
  have q_k14020 := of_decide_eq_false k14020
  replace h := (if_neg q_k14020).symm.trans h
  refine WX.condF rfl k14020 ?_
  refine WX.seq ?_
  refine WX.reg ?_
  refine WO.q (.mv (v := .ptr b_y14017 0) rfl) rfl rfl ?_
  refine WO.q (.r fun _ => rfl) rfl rfl ?_
  refine WO.q (.fa (fa131_1 _ _)) rfl rfl ?_
  refine WO.ql (.ldSm rfl (inE m_y14017) rfl ti128 rfl) rfl rfl ?_
  obtain ⟨y14021, hy14021, h⟩ := Option.bind_eq_some_iff.1 h
  refine WO.cS rfl rfl (rdS (dir_Dir_Len_ok hH hw14019 hy14021)) rfl rfl rfl ?_
  rintro _ rfl
  refine WO.q (.r fun _ => rfl) rfl rfl ?_
  refine WO.q (.as (v := .bool _) rfl) rfl rfl ?_
  refine WO.nil ?_
  rcases bsp (decide (0 < y14021)) with k14022 | k14022
  have q_k14022 := of_decide_eq_true k14022
  replace h := (if_pos q_k14022).symm.trans h
  refine WX.condT rfl k14022 ?_
  refine WX.seq ?_
  refine WX.reg ?_
  refine WO.q (.as (v := .int _ _) rfl) rfl rfl ?_
  refine WO.nil ?_
  obtain rfl := Option.some.inj h
  exact WX.ret (rs_ (rs_tmp rfl rs_nil)) fun st hp => ⟨(hp.pk [] (by decide)).le hB, rfl⟩
  have q_k14022 := of_decide_eq_false k14022
  replace h := (if_neg q_k14022).symm.trans h
  refine WX.condF rfl k14022 ?_
  refine WX.skip ?_
  refine WX.pop ?_
  refine WX.seq ?_
  refine WX.reg ?_
  refine WO.q (.as (v := .int _ _) rfl) rfl rfl ?_
  refine WO.nil ?_
  obtain rfl := Option.some.inj h
  exact WX.ret (rs_ (rs_tmp rfl rs_nil)) fun st hp => ⟨(hp.pk [] (by decide)).le hB, rfl⟩
theorem tree_Tree_clash_j1_ok {B0 : Kn} {L : Own} {n0 : Nat} {H : Heap} {Eh : Own} {x7 : Nat} {x8 : Nat} {r : Int} (h : tree_Tree_clash_j1 H x7 x8 = some r) (hH0 : HR B0 H Eh) : WXI Tryz.prog 57 n0 (Fin Tryz.prog Tryz.f91.results.toList n0 (tree_Tree_clash_P B0 (Eh ++ L) r)) [.code (ct [1, 1] (bodyOf Tryz.f91))] (tree_Tree_clash_j1_I B0 x7 x8) (Eh ++ L) := by
  unfold tree_Tree_clash_j1 at h
  rintro _ B _ ⟨hB, v14001, v14002, h14001, h14002, rfl, rfl⟩
  have hH := hH0.up hB
  refine WX.seq ?_
  refine WX.block ?_
  refine WX.seq ?_
  refine WX.reg ?_
  refine WO.q (.mv (v := v14001) rfl) rfl rfl ?_
  obtain ⟨y14003, hy14003, h⟩ := Option.bind_eq_some_iff.1 h
  obtain ⟨b_y14003, c_y14003, e_y14003, m_y14003, r_y14003, u_y14003⟩ := hgetS (foc131 hH) h14001 hy14003
  subst e_y14003
  obtain ⟨_, _, rfl, ⟨_, _, rfl, rfl, ⟨_, _, rfl, rfl, ⟨_, _, rfl, rfl, ⟨_, _, rfl, ⟨w14004, rfl, hw14004⟩, rfl⟩⟩⟩⟩, ⟨_, _, rfl, ⟨w14005, rfl, hw14005⟩, ⟨_, _, rfl, rfl, rfl⟩⟩⟩ := r_y14003
  obtain ⟨_, _, _, _, _, rfl⟩ := hw14004.isl
  refine WO.q (.r fun _ => rfl) rfl rfl ?_
  refine WO.q (.fa (fa131_0 _ _)) rfl rfl ?_
  refine WO.q (.fa (fa53_0 _ _)) rfl rfl ?_
  refine WO.ql (.ldSm rfl (inE m_y14003) rfl ti49 rfl) rfl rfl ?_
  refine WO.q (.r fun _ => rfl) rfl rfl ?_
  refine WO.q (.mv (v := .bool _) rfl) rfl rfl ?_
  rcases bsp (decide (y14003.1.1 ≠ 2)) with k14006 | k14006
  have q_k14006 := of_decide_eq_true k14006
  replace h := (if_pos q_k14006).symm.trans h
  refine WO.q (.mv (v := v14002) rfl) (wg rfl rfl (gt k14006)) rfl ?_
  obtain ⟨y14007, hy14007, h⟩ := Option.bind_eq_some_iff.1 h
  obtain ⟨b_y14007, c_y14007, e_y14007, m_y14007, r_y14007, u_y14007⟩ := hgetS (foc131 hH) h14002 hy14007
  subst e_y14007
  obtain ⟨_, _, rfl, ⟨_, _, rfl, rfl, ⟨_, _, rfl, rfl, ⟨_, _, rfl, rfl, ⟨_, _, rfl, ⟨w14008, rfl, hw14008⟩, rfl⟩⟩⟩⟩, ⟨_, _, rfl, ⟨w14009, rfl, hw14009⟩, ⟨_, _, rfl, rfl, rfl⟩⟩⟩ := r_y14007
  obtain ⟨_, _, _, _, _, rfl⟩ := hw14008.isl
  refine WO.q (.r fun _ => rfl) (wg rfl rfl (gt k14006)) rfl ?_
  refine WO.q (.fa (fa131_0 _ _)) (wg rfl rfl (gt k14006)) rfl ?_
  refine WO.q (.fa (fa53_0 _ _)) (wg rfl rfl (gt k14006)) rfl ?_
  refine WO.ql (.ldSm rfl (inE m_y14007) rfl ti49 rfl) (wg rfl rfl (gt k14006)) rfl ?_
  refine WO.q (.r fun _ => rfl) (wg rfl rfl (gt k14006)) rfl ?_
  refine WO.q (.ptv (v := .bool _) rfl k14006 rfl) rfl rfl ?_
  refine WO.q (.as (v := .bool _) rfl) rfl rfl ?_
  refine WO.nil ?_
  refine WX.keep [7, 8, 21] (WX.pk [] (by decide) ?_) rfl
  exact tree_Tree_clash_j2_ok h hH0 _ _ _ ⟨hB, _, _, h14001, h14002, rfl, rfl⟩
  have q_k14006 := of_decide_eq_false k14006
  replace h := (if_neg q_k14006).symm.trans h
  refine WO.sd (wg rfl rfl (gtn k14006)) rfl ?_
  refine WO.sd (wg rfl rfl (gtn k14006)) rfl ?_
  refine WO.sd (wg rfl rfl (gtn k14006)) rfl ?_
  refine WO.sd (wg rfl rfl (gtn k14006)) rfl ?_
  refine WO.sd (wg rfl rfl (gtn k14006)) rfl ?_
  refine WO.sd (wg rfl rfl (gtn k14006)) rfl ?_
  refine WO.q (.pfv (v := .bool _) rfl k14006 rfl) rfl rfl ?_
  refine WO.q (.as (v := .bool _) rfl) rfl rfl ?_
  refine WO.nil ?_
  refine WX.keep [7, 8, 21] (WX.pk [] (by decide) ?_) rfl
  exact tree_Tree_clash_j2_ok h hH0 _ _ _ ⟨hB, _, _, h14001, h14002, rfl, rfl⟩
theorem tree_Tree_clash_ok {B0 : Kn} {L : Own} {H : Heap} {Eh : Own} (hH : HR B0 H Eh) {a0 : Nat} {a1 : Int} {a2 : Int} {v0_0 : AV} (g0_0 : HPt B0 126 v0_0 a0) {r : Int} (h : tree_Tree_clash H a0 a1 a2 = some r) : ∀ st, Hp B0 (Eh ++ L) st → ASpec Tryz.prog 91 [v0_0, .int .i64 a1, .int .i64 a2] st (tree_Tree_clash_P B0 (Eh ++ L) r) := by
  unfold tree_Tree_clash at h
  refine bodyA (A := []) (L := Eh ++ L) Tryz.func91 rfl (c := bodyOf Tryz.f91) rfl Tryz.ntmps91 (lb rfl) fun n0 => ?_
  have hB := KLe.refl B0
  have hH0 := hH
  refine WX.seq ?_
  refine WX.reg ?_
  refine WO.q (.as (v := .int _ _) rfl) rfl rfl ?_
  refine WO.nil ?_
  refine WX.seq ?_
  refine WX.drw (Plan.of [0, 1, 2, 3, 4, 6, 7, 8, 9, 10] (.alt (Plan.of [5, 12, 11, 13] .nil) (Plan.of [11, 5, 12, 13] .nil))) _ mixed (by kernel_rfl) rfl (subE (pk_sub [])) ?_
  obtain ⟨y2001, hy2001, h⟩ := Option.bind_eq_some_iff.1 h
  obtain ⟨y6001, hy6001, h⟩ := Option.bind_eq_some_iff.1 h
  obtain ⟨y12001, hy12001, h⟩ := Option.bind_eq_some_iff.1 h
  refine WP.q (i := 0) rfl (.mv (v := v0_0) rfl) rfl rfl rfl ?_
  obtain ⟨b_y2001, c_y2001, e_y2001, m_y2001, r_y2001, u_y2001⟩ := hgetS (foc126 hH) g0_0 hy2001
  subst e_y2001
  obtain ⟨_, _, rfl, ⟨w2002, rfl, hw2002⟩, ⟨_, _, rfl, ⟨w2003, rfl, hw2003⟩, ⟨w2004, rfl, hw2004⟩⟩⟩ := r_y2001
  refine WP.q (i := 1) rfl (.r fun _ => rfl) rfl rfl rfl ?_
  refine WP.q (i := 2) rfl (.fa (fa126_0 _ _)) rfl rfl rfl ?_
  refine WP.q (i := 3) rfl (.ldSm rfl (inM m_y2001) rfl ti122 rfl) rfl rfl rfl ?_
  refine WP.q (i := 4) rfl (.mv (v := .int _ _) rfl) rfl rfl rfl ?_
  refine WP.q (i := 6) rfl (.mv (v := .ptr b_y2001 0) rfl) rfl rfl rfl ?_
  refine WP.q (i := 7) rfl (.r fun _ => rfl) rfl rfl rfl ?_
  refine WP.q (i := 8) rfl (.fa (fa126_0 _ _)) rfl rfl rfl ?_
  refine WP.q (i := 9) rfl (.ldSm rfl (inM m_y2001) rfl ti122 rfl) rfl rfl rfl ?_
  refine WP.q (i := 10) rfl (.mv (v := .int _ _) rfl) rfl rfl rfl ?_
  refine WP.alt ?_ ?_
  refine WP.md (i := 5) rfl (MOp.lookup mt122 (foc122 hH) hw2002 hy6001 kI rfl rfl) rfl rfl rfl ?_
  rintro c6002 _ ⟨rfl, _, r6003, rfl⟩
  have hw6004 := r6003
  refine ⟨pkE (jx := []) rfl, ?_⟩
  refine WP.q (i := 12) rfl (.as (v := c6002) rfl) rfl rfl rfl ?_
  refine WP.md (i := 11) rfl (MOp.lookup mt122 (foc122 hH) hw2002 hy12001 kI rfl rfl) rfl rfl rfl ?_
  rintro c12002 _ ⟨rfl, _, r12003, rfl⟩
  have hw12004 := r12003
  refine ⟨pkE (jx := []) rfl, ?_⟩
  refine WP.q (i := 13) rfl (.as (v := c12002) rfl) rfl rfl rfl ?_
  refine WP.nil ?_
  refine WX.keep [7, 8] (WX.pk [] (by decide) ?_) rfl
  exact tree_Tree_clash_j1_ok h hH0 _ _ _ ⟨hB, _, _, hw6004, hw12004, rfl, rfl⟩
  refine WP.md (i := 11) rfl (MOp.lookup mt122 (foc122 hH) hw2002 hy12001 kI rfl rfl) rfl rfl rfl ?_
  rintro c12002 _ ⟨rfl, _, r12003, rfl⟩
  have hw12004 := r12003
  refine ⟨pkE (jx := []) rfl, ?_⟩
  refine WP.md (i := 5) rfl (MOp.lookup mt122 (foc122 hH) hw2002 hy6001 kI rfl rfl) rfl rfl rfl ?_
  rintro c6002 _ ⟨rfl, _, r6003, rfl⟩
  have hw6004 := r6003
  refine ⟨pkE (jx := []) rfl, ?_⟩
  refine WP.q (i := 12) rfl (.as (v := c6002) rfl) rfl rfl rfl ?_
  refine WP.q (i := 13) rfl (.as (v := c12002) rfl) rfl rfl rfl ?_
  refine WP.nil ?_
  refine WX.keep [7, 8] (WX.pk [] (by decide) ?_) rfl
  exact tree_Tree_clash_j1_ok h hH0 _ _ _ ⟨hB, _, _, hw6004, hw12004, rfl, rfl⟩
def tree_Tree_Rmdir_P (B : Kn) (L : Own) (r : Heap × Int) : AV → St → Prop := CH B L fun B' X E' v => v = .int .i64 r.2 ∧ X = [] ∧ HR B' r.1 E'
theorem tree_Tree_Rmdir_ok {B0 : Kn} {L : Own} {H : Heap} {E : Own} (hH : HR B0 H E) {a0 : Nat} {a1 : Int} {a2 : List UInt8} {v0_0 : AV} (g0_0 : HPt B0 126 v0_0 a0) {r : Heap × Int} (h : tree_Tree_Rmdir H a0 a1 a2 = some r) : ∀ st, Hp B0 (E ++ L) st → ASpec Tryz.prog 32 [v0_0, .int .i64 a1, .str a2] st (tree_Tree_Rmdir_P B0 L r) := by
  unfold tree_Tree_Rmdir at h
  refine bodyA (A := []) (L := E ++ L) Tryz.func32 rfl (c := bodyOf Tryz.f32) rfl Tryz.ntmps32 (lb rfl) fun n0 => ?_
  have hB := KLw.refl B0
  refine WX.seq ?_
  refine WX.reg ?_
  refine WO.q (.as (v := .int _ _) rfl) rfl rfl ?_
  refine WO.nil ?_
  refine WX.seq ?_
  refine WX.reg ?_
  refine WO.q (.mv (v := v0_0) rfl) rfl rfl ?_
  refine WO.q (.mv (v := .int _ _) rfl) rfl rfl ?_
  refine WO.q (.mv (v := .str _) rfl) rfl rfl ?_
  obtain ⟨y1, hy1, h⟩ := Option.bind_eq_some_iff.1 h
  refine WO.cS rfl rfl (rdS (tree_Tree_Find_ok hH g0_0 hy1)) rfl rfl rfl ?_
  rintro _ rfl
  refine WO.q (.mv (v := .tup _) rfl) rfl rfl ?_
  refine WO.q (.r fun _ => rfl) rfl rfl ?_
  refine WO.q (.r fun _ => rfl) rfl rfl ?_
  refine WO.q (.as (v := .int _ _) rfl) rfl rfl ?_
  refine WO.q (.as (v := .int _ _) rfl) rfl rfl ?_
  refine WO.nil ?_
  refine WX.seq ?_
  refine WX.seq ?_
  refine WX.reg ?_
  refine WO.q (.mv (v := .int _ _) rfl) rfl rfl ?_
  refine WO.q (.r fun _ => rfl) rfl rfl ?_
  refine WO.nil ?_
  rcases bsp (decide (y1.2 ≠ 0)) with k2 | k2
  have q_k2 := of_decide_eq_true k2
  replace h := (if_pos q_k2).symm.trans h
  refine WX.condT rfl k2 ?_
  refine WX.seq ?_
  refine WX.reg ?_
  refine WO.q (.mv (v := .int _ _) rfl) rfl rfl ?_
  refine WO.q (.as (v := .int _ _) rfl) rfl rfl ?_
  refine WO.nil ?_
  obtain rfl := Option.some.inj h
  exact WX.ret (rs_ (rs_tmp rfl rs_nil)) fun st hp => ⟨_, _, _, hB, (hp.pk [] (by decide)), rfl, rfl, hH⟩
  have q_k2 := of_decide_eq_false k2
  replace h := (if_neg q_k2).symm.trans h
  refine WX.condF rfl k2 ?_
  refine WX.skip ?_
  refine WX.seq ?_
  refine WX.reg ?_
  refine WO.q (.mv (v := v0_0) rfl) rfl rfl ?_
  obtain ⟨y3, hy3, h⟩ := Option.bind_eq_some_iff.1 h
  obtain ⟨b_y3, c_y3, e_y3, m_y3, r_y3, u_y3⟩ := hgetS (foc126 hH) g0_0 hy3
  subst e_y3
  obtain ⟨_, _, rfl, ⟨w4, rfl, hw4⟩, ⟨_, _, rfl, ⟨w5, rfl, hw5⟩, ⟨w6, rfl, hw6⟩⟩⟩ := r_y3
  refine WO.q (.r fun _ => rfl) rfl rfl ?_
  refine WO.q (.fa (fa126_0 _ _)) rfl rfl ?_
  refine WO.ql (.ldSm rfl (inE m_y3) rfl ti122 rfl) rfl rfl ?_
  refine WO.q (.mv (v := .int _ _) rfl) rfl rfl ?_
  obtain ⟨y7, hy7, h⟩ := Option.bind_eq_some_iff.1 h
  refine WO.md (MOp.lookup mt122 (foc122 hH) hw4 hy7 kI rfl rfl) rfl rfl ?_
  rintro c8 _ ⟨rfl, _, r9, rfl⟩
  have hw10 := r9
  refine WO.q (.as (v := c8) rfl) rfl rfl ?_
  refine WO.nil ?_
  refine WX.seq ?_
  refine WX.block ?_
  refine WX.seq ?_
  refine WX.reg ?_
  refine WO.q (.mv (v := c8) rfl) rfl rfl ?_
  obtain ⟨y11, hy11, h⟩ := Option.bind_eq_some_iff.1 h
  obtain ⟨b_y11, c_y11, e_y11, m_y11, r_y11, u_y11⟩ := hgetS (foc131 hH) hw10 hy11
  subst e_y11
  obtain ⟨_, _, rfl, ⟨_, _, rfl, rfl, ⟨_, _, rfl, rfl, ⟨_, _, rfl, rfl, ⟨_, _, rfl, ⟨w12, rfl, hw12⟩, rfl⟩⟩⟩⟩, ⟨_, _, rfl, ⟨w13, rfl, hw13⟩, ⟨_, _, rfl, rfl, rfl⟩⟩⟩ := r_y11
  obtain ⟨_, _, _, _, _, rfl⟩ := hw12.isl
  refine WO.q (.r fun _ => rfl) rfl rfl ?_
  refine WO.q (.fa (fa131_0 _ _)) rfl rfl ?_
  refine WO.q (.fa (fa53_0 _ _)) rfl rfl ?_
  refine WO.ql (.ldSm rfl (inE m_y11) rfl ti49 rfl) rfl rfl ?_
  refine WO.q (.r fun _ => rfl) rfl rfl ?_
  refine WO.q (.as (v := .bool _) rfl) rfl rfl ?_
  refine WO.nil ?_
  rcases bsp (decide (y11.1.1 ≠ 2)) with k14 | k14
  have q_k14 := of_decide_eq_true k14
  replace h := (if_pos q_k14).symm.trans h
  refine WX.condT rfl k14 ?_
  refine WX.seq ?_
  refine WX.reg ?_
  refine WO.q (.as (v := .int _ _) rfl) rfl rfl ?_
  refine WO.nil ?_
  obtain rfl := Option.some.inj h
  exact WX.ret (rs_ (rs_tmp rfl rs_nil)) fun st hp => ⟨_, _, _, hB, (hp.pk [] (by decide)), rfl, rfl, hH⟩
  have q_k14 := of_decide_eq_false k14
  replace h := (if_neg q_k14).symm.trans h
  refine WX.condF rfl k14 ?_
  refine WX.seq ?_
  refine WX.reg ?_
  refine WO.q (.mv (v := .ptr b_y11 0) rfl) rfl rfl ?_
  refine WO.q (.r fun _ => rfl) rfl rfl ?_
  refine WO.q (.fa (fa131_1 _ _)) rfl rfl ?_
  refine WO.ql (.ldSm rfl (inE m_y11) rfl ti128 rfl) rfl rfl ?_
  obtain ⟨y15, hy15, h⟩ := Option.bind_eq_some_iff.1 h
  refine WO.cS rfl rfl (rdS (dir_Dir_Len_ok hH hw13 hy15)) rfl rfl rfl ?_
  rintro _ rfl
  refine WO.q (.r fun _ => rfl) rfl rfl ?_
  refine WO.q (.as (v := .bool _) rfl) rfl rfl ?_
  refine WO.nil ?_
  rcases bsp (decide (0 < y15)) with k16 | k16
  have q_k16 := of_decide_eq_true k16
  replace h := (if_pos q_k16).symm.trans h
  refine WX.condT rfl k16 ?_
  refine WX.seq ?_
  refine WX.reg ?_
  refine WO.q (.as (v := .int _ _) rfl) rfl rfl ?_
  refine WO.nil ?_
  obtain rfl := Option.some.inj h
  exact WX.ret (rs_ (rs_tmp rfl rs_nil)) fun st hp => ⟨_, _, _, hB, (hp.pk [] (by decide)), rfl, rfl, hH⟩
  have q_k16 := of_decide_eq_false k16
  replace h := (if_neg q_k16).symm.trans h
  refine WX.condF rfl k16 ?_
  refine WX.skip ?_
  refine WX.pop ?_
  refine WX.seq ?_
  refine WX.reg ?_
  refine WO.q (.mv (v := .ptr b_y3 0) rfl) rfl rfl ?_
  refine WO.q (.mv (v := .int _ _) rfl) rfl rfl ?_
  refine WO.q (.mv (v := .str _) rfl) rfl rfl ?_
  obtain ⟨y17, hy17, h⟩ := Option.bind_eq_some_iff.1 h
  refine WO.ch rfl rfl (tree_Tree_drop_ok hH g0_0 hy17) rfl rfl rfl ?_
  rintro _ B _ E hK ⟨rfl, rfl, hH⟩
  replace g0_0 := g0_0.upw hK
  replace hw10 := hw10.upw hK
  replace hB := hB.trans hK
  refine WO.nil ?_
  refine WX.seq ?_
  refine WX.reg ?_
  refine WO.q (.mv (v := .ptr b_y3 0) rfl) rfl rfl ?_
  refine WO.q (.mv (v := .int _ _) rfl) rfl rfl ?_
  obtain ⟨y18, hy18, h⟩ := Option.bind_eq_some_iff.1 h
  refine WO.ch rfl rfl (tree_Tree_links_ok hH g0_0 hy18) rfl rfl rfl ?_
  rintro _ B _ E hK ⟨v19, rfl, rfl, hH, h20⟩
  obtain ⟨_, _, _, _, _, rfl⟩ := h20.isl
  replace g0_0 := g0_0.upw hK
  replace hw10 := hw10.upw hK
  replace hB := hB.trans hK
  refine WO.nil ?_
  refine WX.seq ?_
  refine WX.reg ?_
  refine WO.q (.mv (v := .ptr b_y3 0) rfl) rfl rfl ?_
  refine WO.q (.mv (v := .int _ _) rfl) rfl rfl ?_
  refine WO.q (.mv (v := .ptr b_y11 0) rfl) rfl rfl ?_
  obtain ⟨y21, hy21, h⟩ := Option.bind_eq_some_iff.1 h
  obtain ⟨c_y21, m_y21, r_y21, u_y21⟩ := hgetP (foc131 hH) hw10 hy21
  obtain ⟨_, _, rfl, ⟨_, _, rfl, rfl, ⟨_, _, rfl, rfl, ⟨_, _, rfl, rfl, ⟨_, _, rfl, ⟨w22, rfl, hw22⟩, rfl⟩⟩⟩⟩, ⟨_, _, rfl, ⟨w23, rfl, hw23⟩, ⟨_, _, rfl, rfl, rfl⟩⟩⟩ := r_y21
  obtain ⟨_, _, _, _, _, rfl⟩ := hw22.isl
  refine WO.q (.r fun _ => rfl) rfl rfl ?_
  refine WO.q (.fa (fa131_0 _ _)) rfl rfl ?_
  refine WO.q (.fa (fa53_1 _ _)) rfl rfl ?_
  refine WO.ql (.ldSm rfl (inE m_y21) rfl ti3 rfl) rfl rfl ?_
  refine WO.q (.r fun _ => rfl) rfl rfl ?_
  obtain ⟨y24, hy24, h⟩ := Option.bind_eq_some_iff.1 h
  refine WO.ch rfl rfl (tree_Tree_links_ok hH g0_0 hy24) rfl rfl rfl ?_
  rintro _ B _ E hK ⟨v25, rfl, rfl, hH, h26⟩
  obtain ⟨_, _, _, _, _, rfl⟩ := h26.isl
  replace g0_0 := g0_0.upw hK
  replace hw10 := hw10.upw hK
  replace hB := hB.trans hK
  refine WO.nil ?_
  refine WX.seq ?_
  refine WX.reg ?_
  refine WO.q (.as (v := .int _ _) rfl) rfl rfl ?_
  refine WO.nil ?_
  obtain rfl := Option.some.inj h
  exact WX.ret (rs_ (rs_tmp rfl rs_nil)) fun st hp => ⟨_, _, _, hB, (hp.pk [] (by decide)), rfl, rfl, hH⟩
def tree_Tree_Rename_P (B : Kn) (L : Own) (r : Heap × (List (Int × Int)) × Int) : AV → St → Prop := CH B L fun B' X E' v => ∃ w0, v = .tup [w0, .int .i64 r.2.2] ∧ X = [] ∧ HR B' r.1 E' ∧ RSl EPIi64Ii64Q B' w0 r.2.1
def tree_Tree_Rename_j22_I (B0 : Kn) (H : Heap) (x3 : Int) (x17 : Nat) (x18 : List (Int × Int)) : Fr → Kn → Own → Own → Prop := fun fr B A E => KLw B0 B ∧ HR B H E ∧ ∃ v57 v58, HPt B 131 v57 x17 ∧ RSl EPIi64Ii64Q B v58 x18 ∧ fr = [(3, .int .i64 x3), (17, v57), (18, v58)] ∧ A = []
def tree_Tree_Rename_j20_I (B0 : Kn) (H : Heap) (x0 : Nat) (x1 : Int) (x3 : Int) (x17 : Nat) (x18 : List (Int × Int)) (x128 : Bool) : Fr → Kn → Own → Own → Prop := fun fr B A E => KLw B0 B ∧ HR B H E ∧ ∃ v47 v48 v49, HPt B 126 v47 x0 ∧ HPt B 131 v48 x17 ∧ RSl EPIi64Ii64Q B v49 x18 ∧ fr = [(0, v47), (1, .int .i64 x1), (3, .int .i64 x3), (17, v48), (18, v49), (128, .bool x128)] ∧ A = []
def tree_Tree_Rename_j17_I (B0 : Kn) (H : Heap) (x0 : Nat) (x1 : Int) (x2 : List UInt8) (x3 : Int) (x4 : List UInt8) (x12 : Int) (x17 : Nat) (x18 : List (Int × Int)) : Fr → Kn → Own → Own → Prop := fun fr B A E => KLw B0 B ∧ HR B H E ∧ ∃ v38 v39 v40, HPt B 126 v38 x0 ∧ HPt B 131 v39 x17 ∧ RSl EPIi64Ii64Q B v40 x18 ∧ fr = [(0, v38), (1, .int .i64 x1), (2, .str x2), (3, .int .i64 x3), (4, .str x4), (12, .int .i64 x12), (17, v39), (18, v40)] ∧ A = []
def tree_Tree_Rename_j16_I (B0 : Kn) (H : Heap) (x0 : Nat) (x1 : Int) (x2 : List UInt8) (x3 : Int) (x4 : List UInt8) (x12 : Int) (x15 : Bool) (x17 : Nat) (x18 : List (Int × Int)) (x96 : Bool) : Fr → Kn → Own → Own → Prop := fun fr B A E => KLw B0 B ∧ HR B H E ∧ ∃ v32 v33 v34 b34 n34 c34, HPt B 126 v32 x0 ∧ HPt B 131 v33 x17 ∧ OSl EPIi64Ii64Q B v34 b34 n34 c34 x18 ∧ fr = [(0, v32), (1, .int .i64 x1), (2, .str x2), (3, .int .i64 x3), (4, .str x4), (12, .int .i64 x12), (15, .bool x15), (17, v33), (18, v34), (96, .bool x96)] ∧ A = [oe b34 n34 c34]
def tree_Tree_Rename_j13_I (B0 : Kn) (H : Heap) (x0 : Nat) (x1 : Int) (x2 : List UInt8) (x3 : Int) (x4 : List UInt8) (x12 : Int) (x15 : Bool) (x17 : Nat) (x87 : Bool) : Fr → Kn → Own → Own → Prop := fun fr B A E => KLw B0 B ∧ HR B H E ∧ ∃ v25 v26, HPt B 126 v25 x0 ∧ HPt B 131 v26 x17 ∧ fr = [(0, v25), (1, .int .i64 x1), (2, .str x2), (3, .int .i64 x3), (4, .str x4), (12, .int .i64 x12), (15, .bool x15), (17, v26), (87, .bool x87)] ∧ A = []
def tree_Tree_Rename_j11_I (B0 : Kn) (H : Heap) (x0 : Nat) (x1 : Int) (x2 : List UInt8) (x3 : Int) (x4 : List UInt8) (x12 : Int) (x15 : Bool) : Fr → Kn → Own → Own → Prop := fun fr B A E => KLw B0 B ∧ HR B H E ∧ ∃ v10, HPt B 126 v10 x0 ∧ fr = [(0, v10), (1, .int .i64 x1), (2, .str x2), (3, .int .i64 x3), (4, .str x4), (12, .int .i64 x12), (15, .bool x15)] ∧ A = []
def tree_Tree_Rename_j6_I (B0 : Kn) (H : Heap) (x0 : Nat) (x1 : Int) (x2 : List UInt8) (x3 : Int) (x4 : List UInt8) (x12 : Int) (x14 : Int) (x15 : Bool) (x45 : Bool) : Fr → Kn → Own → Own → Prop := fun fr B A E => KLw B0 B ∧ HR B H E ∧ ∃ v5, HPt B 126 v5 x0 ∧ fr = [(0, v5), (1, .int .i64 x1), (2, .str x2), (3, .int .i64 x3), (4, .str x4), (12, .int .i64 x12), (14, .int .i64 x14), (15, .bool x15), (45, .bool x45)] ∧ A = []
theorem tree_Tree_Rename_j22_ok {B0 : Kn} {L : Own} {n0 : Nat} {H : Heap} {x3 : Int} {x17 : Nat} {x18 : List (Int × Int)} {r : Heap × (List (Int × Int)) × Int} (h : tree_Tree_Rename_j22 H x3 x17 x18 = some r) : WXH Tryz.prog 140 n0 (Fin Tryz.prog Tryz.f29.results.toList n0 (tree_Tree_Rename_P B0 L r)) [.code (ct [1, 1, 1, 1, 1, 1, 1, 1, 1, 1, 1, 1, 1, 1] (bodyOf Tryz.f29))] (tree_Tree_Rename_j22_I B0 H x3 x17 x18) L := by
  unfold tree_Tree_Rename_j22 at h
  rintro _ B _ E ⟨hB, hH, v57, v58, h57, h58, rfl, rfl⟩
  obtain ⟨_, _, _, _, _, rfl⟩ := h58.isl
  refine WX.seq ?_
  refine WX.reg ?_
  refine WO.q (.mv (v := v57) rfl) rfl rfl ?_
  refine WO.q (.mv (v := .int _ _) rfl) rfl rfl ?_
  obtain ⟨y59, hy59, h⟩ := Option.bind_eq_some_iff.1 h
  obtain ⟨b_y59, c_y59, e_y59, m_y59, r_y59, u_y59⟩ := hgetS (foc131 hH) h57 hy59
  subst e_y59
  obtain ⟨_, _, rfl, ⟨_, _, rfl, rfl, ⟨_, _, rfl, rfl, ⟨_, _, rfl, rfl, ⟨_, _, rfl, ⟨w60, rfl, hw60⟩, rfl⟩⟩⟩⟩, ⟨_, _, rfl, ⟨w61, rfl, hw61⟩, ⟨_, _, rfl, rfl, rfl⟩⟩⟩ := r_y59
  obtain ⟨_, _, _, _, _, rfl⟩ := hw60.isl
  refine WO.q (.r fun _ => rfl) rfl rfl ?_
  refine WO.q (.fa (fa131_2 _ _)) rfl rfl ?_
  obtain ⟨H62, e_H62, h⟩ := Option.bind_eq_some_iff.1 h
  obtain ⟨_, z_z63, k_z63⟩ := u_y59 _ (y59.1, y59.2.1, x3, y59.2.2.2) (Rp (Rp Ri (Rp Ri (Rp Ri (Rp (Rl hw60) Rs)))) (Rp (Rhp hw61) (Rp Ri Ri)))
  refine WO.en (MOpE.st rfl (cI rfl) z_z63 ti3 rfl rfl (lb rfl) rfl) rfl ?_
  rintro _ _ _ _ ⟨rfl, rfl, rfl⟩
  replace hH := HRe e_H62 k_z63
  refine WO.nil ?_
  refine WX.seq ?_
  refine WX.reg ?_
  refine WO.q (.mv (v := .sl _ _ _ _ _ _) rfl) rfl rfl ?_
  refine WO.q (.as (v := .sl _ _ _ _ _ _) rfl) rfl rfl ?_
  refine WO.q (.as (v := .int _ _) rfl) rfl rfl ?_
  refine WO.nil ?_
  obtain rfl := Option.some.inj h
  exact WX.ret (rs_ (rs_tmp rfl (rs_tmp rfl rs_nil))) fun st hp => ⟨_, _, _, hB, (hp.pk [] (by decide)), _, rfl, rfl, hH, h58⟩
theorem tree_Tree_Rename_j20_ok {B0 : Kn} {L : Own} {n0 : Nat} {H : Heap} {x0 : Nat} {x1 : Int} {x3 : Int} {x17 : Nat} {x18 : List (Int × Int)} {x128 : Bool} {r : Heap × (List (Int × Int)) × Int} (h : tree_Tree_Rename_j20 H x0 x1 x3 x17 x18 x128 = some r) : WXH Tryz.prog 140 n0 (Fin Tryz.prog Tryz.f29.results.toList n0 (tree_Tree_Rename_P B0 L r)) [.code (ct [1, 1, 1, 1, 1, 1, 1, 1, 1, 1, 1, 1, 1, 0, 1] (bodyOf Tryz.f29)), .code (ct [1, 1, 1, 1, 1, 1, 1, 1, 1, 1, 1, 1, 1, 1] (bodyOf Tryz.f29))] (tree_Tree_Rename_j20_I B0 H x0 x1 x3 x17 x18 x128) L := by
  unfold tree_Tree_Rename_j20 at h
  rintro _ B _ E ⟨hB, hH, v47, v48, v49, h47, h48, h49, rfl, rfl⟩
  obtain ⟨_, _, _, _, _, rfl⟩ := h49.isl
  rcases bsp x128 with k50 | k50
  replace h := (if_pos k50).symm.trans h
  refine WX.condT rfl k50 ?_
  refine WX.seq ?_
  refine WX.reg ?_
  refine WO.q (.mv (v := v47) rfl) rfl rfl ?_
  refine WO.q (.mv (v := .int _ _) rfl) rfl rfl ?_
  obtain ⟨y51, hy51, h⟩ := Option.bind_eq_some_iff.1 h
  refine WO.ch rfl rfl (tree_Tree_links_ok hH h47 hy51) rfl rfl rfl ?_
  rintro _ B _ E hK ⟨v52, rfl, rfl, hH, h53⟩
  obtain ⟨_, _, _, _, _, rfl⟩ := h53.isl
  replace h47 := h47.upw hK
  replace h48 := h48.upw hK
  replace h49 := h49.upw hK
  replace hB := hB.trans hK
  refine WO.nil ?_
  refine WX.reg ?_
  refine WO.q (.mv (v := v47) rfl) rfl rfl ?_
  refine WO.q (.mv (v := .int _ _) rfl) rfl rfl ?_
  obtain ⟨y54, hy54, h⟩ := Option.bind_eq_some_iff.1 h
  refine WO.ch rfl rfl (tree_Tree_links_ok hH h47 hy54) rfl rfl rfl ?_
  rintro _ B _ E hK ⟨v55, rfl, rfl, hH, h56⟩
  obtain ⟨_, _, _, _, _, rfl⟩ := h56.isl
  replace h47 := h47.upw hK
  replace h48 := h48.upw hK
  replace h49 := h49.upw hK
  replace hB := hB.trans hK
  refine WO.nil ?_
  refine WX.keep [3, 17, 18] (WX.pk [] (by decide) ?_) rfl
  exact tree_Tree_Rename_j22_ok h _ _ _ _ ⟨hB, hH, _, _, h48, h49, rfl, rfl⟩
  replace h := (if_neg (bnt k50)).symm.trans h
  refine WX.condF rfl k50 ?_
  refine WX.skip ?_
  refine WX.keep [3, 17, 18] (WX.pk [] (by decide) ?_) rfl
  exact tree_Tree_Rename_j22_ok h _ _ _ _ ⟨hB, hH, _, _, h48, h49, rfl, rfl⟩
theorem tree_Tree_Rename_j17_ok {B0 : Kn} {L : Own} {n0 : Nat} {H : Heap} {x0 : Nat} {x1 : Int} {x2 : List UInt8} {x3 : Int} {x4 : List UInt8} {x12 : Int} {x17 : Nat} {x18 : List (Int × Int)} {r : Heap × (List (Int × Int)) × Int} (h : tree_Tree_Rename_j17 H x0 x1 x2 x3 x4 x12 x17 x18 = some r) : WXH Tryz.prog 140 n0 (Fin Tryz.prog Tryz.f29.results.toList n0 (tree_Tree_Rename_P B0 L r)) [.code (ct [1, 1, 1, 1, 1, 1, 1, 1, 1, 1, 1] (bodyOf Tryz.f29))] (tree_Tree_Rename_j17_I B0 H x0 x1 x2 x3 x4 x12 x17 x18) L := by
  unfold tree_Tree_Rename_j17 at h
  rintro _ B _ E ⟨hB, hH, v38, v39, v40, h38, h39, h40, rfl, rfl⟩
  obtain ⟨_, _, _, _, _, rfl⟩ := h40.isl
  refine WX.seq ?_
  refine WX.reg ?_
  refine WO.q (.mv (v := v38) rfl) rfl rfl ?_
  refine WO.q (.mv (v := .int _ _) rfl) rfl rfl ?_
  refine WO.q (.mv (v := .str _) rfl) rfl rfl ?_
  obtain ⟨y41, hy41, h⟩ := Option.bind_eq_some_iff.1 h
  refine WO.ch rfl rfl (tree_Tree_drop_ok hH h38 hy41) rfl rfl rfl ?_
  rintro _ B _ E hK ⟨rfl, rfl, hH⟩
  replace h38 := h38.upw hK
  replace h39 := h39.upw hK
  replace h40 := h40.upw hK
  replace hB := hB.trans hK
  refine WO.nil ?_
  refine WX.seq ?_
  refine WX.reg ?_
  refine WO.q (.mv (v := v38) rfl) rfl rfl ?_
  refine WO.q (.mv (v := .int _ _) rfl) rfl rfl ?_
  refine WO.q (.mv (v := .str _) rfl) rfl rfl ?_
  refine WO.q (.mv (v := .int _ _) rfl) rfl rfl ?_
  obtain ⟨y42, hy42, h⟩ := Option.bind_eq_some_iff.1 h
  refine WO.ch rfl rfl (tree_Tree_put_ok hH h38 hy42) rfl rfl rfl ?_
  rintro _ B _ E hK ⟨rfl, rfl, hH⟩
  replace h38 := h38.upw hK
  replace h39 := h39.upw hK
  replace h40 := h40.upw hK
  replace hB := hB.trans hK
  refine WO.nil ?_
  refine WX.seq ?_
  refine WX.seq ?_
  refine WX.reg ?_
  refine WO.q (.mv (v := v39) rfl) rfl rfl ?_
  obtain ⟨y43, hy43, h⟩ := Option.bind_eq_some_iff.1 h
  obtain ⟨b_y43, c_y43, e_y43, m_y43, r_y43, u_y43⟩ := hgetS (foc131 hH) h39 hy43
  subst e_y43
  obtain ⟨_, _, rfl, ⟨_, _, rfl, rfl, ⟨_, _, rfl, rfl, ⟨_, _, rfl, rfl, ⟨_, _, rfl, ⟨w44, rfl, hw44⟩, rfl⟩⟩⟩⟩, ⟨_, _, rfl, ⟨w45, rfl, hw45⟩, ⟨_, _, rfl, rfl, rfl⟩⟩⟩ := r_y43
  obtain ⟨_, _, _, _, _, rfl⟩ := hw44.isl
  refine WO.q (.r fun _ => rfl) rfl rfl ?_
  refine WO.q (.fa (fa131_0 _ _)) rfl rfl ?_
  refine WO.q (.fa (fa53_0 _ _)) rfl rfl ?_
  refine WO.ql (.ldSm rfl (inE m_y43) rfl ti49 rfl) rfl rfl ?_
  refine WO.q (.r fun _ => rfl) rfl rfl ?_
  refine WO.q (.mv (v := .bool _) rfl) rfl rfl ?_
  rcases bsp (decide (y43.1.1 = 2)) with k46 | k46
  have q_k46 := of_decide_eq_true k46
  replace h := (if_pos q_k46).symm.trans h
  refine WO.q (.mv (v := .int _ _) rfl) (wg rfl rfl (gt k46)) rfl ?_
  refine WO.q (.mv (v := .int _ _) rfl) (wg rfl rfl (gt k46)) rfl ?_
  refine WO.q (.r fun _ => rfl) (wg rfl rfl (gt k46)) rfl ?_
  refine WO.q (.ptv (v := .bool _) rfl k46 rfl) rfl rfl ?_
  refine WO.nil ?_
  refine WX.keep [0, 1, 3, 17, 18, 128] (WX.pk [] (by decide) ?_) rfl
  exact tree_Tree_Rename_j20_ok h _ _ _ _ ⟨hB, hH, _, _, _, h38, h39, h40, rfl, rfl⟩
  have q_k46 := of_decide_eq_false k46
  replace h := (if_neg q_k46).symm.trans h
  refine WO.sd (wg rfl rfl (gtn k46)) rfl ?_
  refine WO.sd (wg rfl rfl (gtn k46)) rfl ?_
  refine WO.sd (wg rfl rfl (gtn k46)) rfl ?_
  refine WO.q (.pfv (v := .bool _) rfl k46 rfl) rfl rfl ?_
  refine WO.nil ?_
  refine WX.keep [0, 1, 3, 17, 18, 128] (WX.pk [] (by decide) ?_) rfl
  exact tree_Tree_Rename_j20_ok h _ _ _ _ ⟨hB, hH, _, _, _, h38, h39, h40, rfl, rfl⟩
theorem tree_Tree_Rename_j16_ok {B0 : Kn} {L : Own} {n0 : Nat} {H : Heap} {x0 : Nat} {x1 : Int} {x2 : List UInt8} {x3 : Int} {x4 : List UInt8} {x12 : Int} {x15 : Bool} {x17 : Nat} {x18 : List (Int × Int)} {x96 : Bool} {r : Heap × (List (Int × Int)) × Int} (h : tree_Tree_Rename_j16 H x0 x1 x2 x3 x4 x12 x15 x17 x18 x96 = some r) : WXH Tryz.prog 140 n0 (Fin Tryz.prog Tryz.f29.results.toList n0 (tree_Tree_Rename_P B0 L r)) [.code (ct [1, 1, 1, 1, 1, 1, 1, 1, 1, 1, 0, 1] (bodyOf Tryz.f29)), .code (ct [1, 1, 1, 1, 1, 1, 1, 1, 1, 1, 1] (bodyOf Tryz.f29))] (tree_Tree_Rename_j16_I B0 H x0 x1 x2 x3 x4 x12 x15 x17 x18 x96) L := by
  unfold tree_Tree_Rename_j16 at h
  rintro _ B _ E ⟨hB, hH, v32, v33, v34, b34, n34, c34, h32, h33, h34, rfl, rfl⟩
  obtain ⟨_, _, _, _, _, rfl⟩ := h34.isl
  rcases bsp x96 with k35 | k35
  replace h := (if_pos k35).symm.trans h
  refine WX.condT rfl k35 ?_
  refine WX.reg ?_
  refine WO.q (.mv (v := v32) rfl) rfl rfl ?_
  refine WO.q (.mv (v := .int _ _) rfl) rfl rfl ?_
  refine WO.q (.mv (v := .str _) rfl) rfl rfl ?_
  obtain ⟨y36, hy36, h⟩ := Option.bind_eq_some_iff.1 h
  refine WO.ch rfl rfl (tree_Tree_Rmdir_ok hH h32 hy36) rfl rfl rfl ?_
  rintro _ B _ E hK ⟨rfl, rfl, hH⟩
  replace h32 := h32.upw hK
  replace h33 := h33.upw hK
  replace h34 := h34.upw hK
  replace hB := hB.trans hK
  refine WO.nil ?_
  refine WX.fz (j := 0) h34 rfl ?_
  intro B hK g37
  replace h32 := h32.up hK
  replace h33 := h33.up hK
  replace hH := hH.up hK
  replace hB := hB.trans hK.w
  refine WX.keep [0, 1, 2, 3, 4, 12, 17, 18] (WX.pk [] (by decide) ?_) rfl
  exact tree_Tree_Rename_j17_ok h _ _ _ _ ⟨hB, hH, _, _, _, h32, h33, g37, rfl, rfl⟩
  replace h := (if_neg (bnt k35)).symm.trans h
  refine WX.condF rfl k35 ?_
  refine WX.seq ?_
  refine WX.reg ?_
  refine WO.q (.mv (v := .bool _) rfl) rfl rfl ?_
  refine WO.nil ?_
  rcases bsp x15 with k64 | k64
  replace h := (if_pos k64).symm.trans h
  refine WX.condT rfl k64 ?_
  refine WX.reg ?_
  refine WO.q (.mv (v := v32) rfl) rfl rfl ?_
  refine WO.q (.mv (v := .int _ _) rfl) rfl rfl ?_
  refine WO.q (.mv (v := .str _) rfl) rfl rfl ?_
  obtain ⟨y65, hy65, h⟩ := Option.bind_eq_some_iff.1 h
  refine WO.ch rfl rfl (tree_Tree_Unlink_ok hH h32 hy65) rfl rfl rfl ?_
  rintro _ B _ E hK ⟨v66, rfl, rfl, hH, h67⟩
  obtain ⟨_, _, _, _, _, rfl⟩ := h67.isl
  replace h32 := h32.upw hK
  replace h33 := h33.upw hK
  replace h34 := h34.upw hK
  replace hB := hB.trans hK
  refine WO.q (.mv (v := .tup _) rfl) rfl rfl ?_
  refine WO.q (.r fun _ => rfl) rfl rfl ?_
  refine WO.q (.r fun _ => rfl) rfl rfl ?_
  refine WO.q (.as (v := .sl _ _ _ _ _ _) rfl) rfl rfl ?_
  refine WO.nil ?_
  refine WX.keep [0, 1, 2, 3, 4, 12, 17, 18] (WX.pk [] (by decide) ?_) rfl
  exact tree_Tree_Rename_j17_ok h _ _ _ _ ⟨hB, hH, _, _, _, h32, h33, h67, rfl, rfl⟩
  replace h := (if_neg (bnt k64)).symm.trans h
  refine WX.condF rfl k64 ?_
  refine WX.skip ?_
  refine WX.fz (j := 0) h34 rfl ?_
  intro B hK g68
  replace h32 := h32.up hK
  replace h33 := h33.up hK
  replace hH := hH.up hK
  replace hB := hB.trans hK.w
  refine WX.keep [0, 1, 2, 3, 4, 12, 17, 18] (WX.pk [] (by decide) ?_) rfl
  exact tree_Tree_Rename_j17_ok h _ _ _ _ ⟨hB, hH, _, _, _, h32, h33, g68, rfl, rfl⟩
theorem tree_Tree_Rename_j13_ok {B0 : Kn} {L : Own} {n0 : Nat} {H : Heap} {x0 : Nat} {x1 : Int} {x2 : List UInt8} {x3 : Int} {x4 : List UInt8} {x12 : Int} {x15 : Bool} {x17 : Nat} {x87 : Bool} {r : Heap × (List (Int × Int)) × Int} (h : tree_Tree_Rename_j13 H x0 x1 x2 x3 x4 x12 x15 x17 x87 = some r) : WXH Tryz.prog 140 n0 (Fin Tryz.prog Tryz.f29.results.toList n0 (tree_Tree_Rename_P B0 L r)) [.code (ct [1, 1, 1, 1, 1, 1, 1, 1, 0, 1] (bodyOf Tryz.f29)), .code (ct [1, 1, 1, 1, 1, 1, 1, 1, 1] (bodyOf Tryz.f29))] (tree_Tree_Rename_j13_I B0 H x0 x1 x2 x3 x4 x12 x15 x17 x87) L := by
  unfold tree_Tree_Rename_j13 at h
  rintro _ B _ E ⟨hB, hH, v25, v26, h25, h26, rfl, rfl⟩
  rcases bsp x87 with k27 | k27
  replace h := (if_pos k27).symm.trans h
  refine WX.condT rfl k27 ?_
  refine WX.seq ?_
  refine WX.reg ?_
  refine WO.q (.as (v := .sl _ _ _ _ _ _) rfl) rfl rfl ?_
  refine WO.q (.as (v := .int _ _) rfl) rfl rfl ?_
  refine WO.nil ?_
  obtain rfl := Option.some.inj h
  exact WX.ret (rs_ (rs_tmp rfl (rs_tmp rfl rs_nil))) fun st hp => ⟨_, _, _, hB, (hp.pk [] (by decide)), .sl 0 0 0 0 0 true, rfl, rfl, hH, (RSl.nil _ _)⟩
  replace h := (if_neg (bnt k27)).symm.trans h
  refine WX.condF rfl k27 ?_
  refine WX.skip ?_
  refine WX.seq ?_
  refine WX.reg ?_
  refine WO.q (.as (v := .sl _ _ _ _ _ _) rfl) rfl rfl ?_
  refine WO.nil ?_
  refine WX.seq ?_
  refine WX.seq ?_
  refine WX.reg ?_
  refine WO.q (.mv (v := .bool _) rfl) rfl rfl ?_
  refine WO.q (.mv (v := .bool _) rfl) rfl rfl ?_
  rcases bsp x15 with k28 | k28
  replace h := (if_pos k28).symm.trans h
  refine WO.q (.mv (v := v26) rfl) (wg rfl rfl (gt k28)) rfl ?_
  obtain ⟨y29, hy29, h⟩ := Option.bind_eq_some_iff.1 h
  obtain ⟨b_y29, c_y29, e_y29, m_y29, r_y29, u_y29⟩ := hgetS (foc131 hH) h26 hy29
  subst e_y29
  obtain ⟨_, _, rfl, ⟨_, _, rfl, rfl, ⟨_, _, rfl, rfl, ⟨_, _, rfl, rfl, ⟨_, _, rfl, ⟨w30, rfl, hw30⟩, rfl⟩⟩⟩⟩, ⟨_, _, rfl, ⟨w31, rfl, hw31⟩, ⟨_, _, rfl, rfl, rfl⟩⟩⟩ := r_y29
  obtain ⟨_, _, _, _, _, rfl⟩ := hw30.isl
  refine WO.q (.r fun _ => rfl) (wg rfl rfl (gt k28)) rfl ?_
  refine WO.q (.fa (fa131_0 _ _)) (wg rfl rfl (gt k28)) rfl ?_
  refine WO.q (.fa (fa53_0 _ _)) (wg rfl rfl (gt k28)) rfl ?_
  refine WO.ql (.ldSm rfl (inE m_y29) rfl ti49 rfl) (wg rfl rfl (gt k28)) rfl ?_
  refine WO.q (.r fun _ => rfl) (wg rfl rfl (gt k28)) rfl ?_
  refine WO.q (.ptv (v := .bool _) rfl k28 rfl) rfl rfl ?_
  refine WO.nil ?_
  refine WX.keep [0, 1, 2, 3, 4, 12, 15, 17, 18, 96] (WX.pk [] (by decide) (WX.addn [0] ?_)) rfl
  exact tree_Tree_Rename_j16_ok h _ _ _ _ ⟨hB, hH, _, _, _, 0, true, [], h25, h26, OSl.none _ _, rfl, rfl⟩
  replace h := (if_neg (bnt k28)).symm.trans h
  refine WO.sd (wg rfl rfl (gtn k28)) rfl ?_
  refine WO.sd (wg rfl rfl (gtn k28)) rfl ?_
  refine WO.sd (wg rfl rfl (gtn k28)) rfl ?_
  refine WO.sd (wg rfl rfl (gtn k28)) rfl ?_
  refine WO.sd (wg rfl rfl (gtn k28)) rfl ?_
  refine WO.sd (wg rfl rfl (gtn k28)) rfl ?_
  refine WO.q (.pfv (v := .bool _) rfl k28 rfl) rfl rfl ?_
  refine WO.nil ?_
  refine WX.keep [0, 1, 2, 3, 4, 12, 15, 17, 18, 96] (WX.pk [] (by decide) (WX.addn [0] ?_)) rfl
  exact tree_Tree_Rename_j16_ok h _ _ _ _ ⟨hB, hH, _, _, _, 0, true, [], h25, h26, OSl.none _ _, rfl, rfl⟩
theorem tree_Tree_Rename_j11_ok {B0 : Kn} {L : Own} {n0 : Nat} {H : Heap} {x0 : Nat} {x1 : Int} {x2 : List UInt8} {x3 : Int} {x4 : List UInt8} {x12 : Int} {x15 : Bool} {r : Heap × (List (Int × Int)) × Int} (h : tree_Tree_Rename_j11 H x0 x1 x2 x3 x4 x12 x15 = some r) : WXH Tryz.prog 140 n0 (Fin Tryz.prog Tryz.f29.results.toList n0 (tree_Tree_Rename_P B0 L r)) [.code (ct [1, 1, 1, 1, 1, 1, 1] (bodyOf Tryz.f29))] (tree_Tree_Rename_j11_I B0 H x0 x1 x2 x3 x4 x12 x15) L := by
  unfold tree_Tree_Rename_j11 at h
  rintro _ B _ E ⟨hB, hH, v10, h10, rfl, rfl⟩
  refine WX.seq ?_
  refine WX.reg ?_
  refine WO.q (.mv (v := v10) rfl) rfl rfl ?_
  obtain ⟨y11, hy11, h⟩ := Option.bind_eq_some_iff.1 h
  obtain ⟨b_y11, c_y11, e_y11, m_y11, r_y11, u_y11⟩ := hgetS (foc126 hH) h10 hy11
  subst e_y11
  obtain ⟨_, _, rfl, ⟨w12, rfl, hw12⟩, ⟨_, _, rfl, ⟨w13, rfl, hw13⟩, ⟨w14, rfl, hw14⟩⟩⟩ := r_y11
  refine WO.q (.r fun _ => rfl) rfl rfl ?_
  refine WO.q (.fa (fa126_0 _ _)) rfl rfl ?_
  refine WO.ql (.ldSm rfl (inE m_y11) rfl ti122 rfl) rfl rfl ?_
  refine WO.q (.mv (v := .int _ _) rfl) rfl rfl ?_
  obtain ⟨y15, hy15, h⟩ := Option.bind_eq_some_iff.1 h
  refine WO.md (MOp.lookup mt122 (foc122 hH) hw12 hy15 kI rfl rfl) rfl rfl ?_
  rintro c16 _ ⟨rfl, _, r17, rfl⟩
  have hw18 := r17
  refine WO.q (.as (v := c16) rfl) rfl rfl ?_
  refine WO.nil ?_
  refine WX.seq ?_
  refine WX.seq ?_
  refine WX.reg ?_
  refine WO.q (.mv (v := c16) rfl) rfl rfl ?_
  obtain ⟨y19, hy19, h⟩ := Option.bind_eq_some_iff.1 h
  obtain ⟨b_y19, c_y19, e_y19, m_y19, r_y19, u_y19⟩ := hgetS (foc131 hH) hw18 hy19
  subst e_y19
  obtain ⟨_, _, rfl, ⟨_, _, rfl, rfl, ⟨_, _, rfl, rfl, ⟨_, _, rfl, rfl, ⟨_, _, rfl, ⟨w20, rfl, hw20⟩, rfl⟩⟩⟩⟩, ⟨_, _, rfl, ⟨w21, rfl, hw21⟩, ⟨_, _, rfl, rfl, rfl⟩⟩⟩ := r_y19
  obtain ⟨_, _, _, _, _, rfl⟩ := hw20.isl
  refine WO.q (.r fun _ => rfl) rfl rfl ?_
  refine WO.q (.fa (fa131_0 _ _)) rfl rfl ?_
  refine WO.q (.fa (fa53_0 _ _)) rfl rfl ?_
  refine WO.ql (.ldSm rfl (inE m_y19) rfl ti49 rfl) rfl rfl ?_
  refine WO.q (.r fun _ => rfl) rfl rfl ?_
  refine WO.q (.mv (v := .bool _) rfl) rfl rfl ?_
  rcases bsp (decide (y19.1.1 = 2)) with k22 | k22
  have q_k22 := of_decide_eq_true k22
  replace h := (if_pos q_k22).symm.trans h
  refine WO.q (.mv (v := .int _ _) rfl) (wg rfl rfl (gt k22)) rfl ?_
  refine WO.q (.mv (v := .int _ _) rfl) (wg rfl rfl (gt k22)) rfl ?_
  refine WO.q (.r fun _ => rfl) (wg rfl rfl (gt k22)) rfl ?_
  refine WO.q (.ptv (v := .bool _) rfl k22 rfl) rfl rfl ?_
  refine WO.q (.mv (v := .bool _) rfl) rfl rfl ?_
  rcases bsp (decide (x1 ≠ x3)) with k23 | k23
  have q_k23 := of_decide_eq_true k23
  replace h := (if_pos q_k23).symm.trans h
  refine WO.q (.mv (v := .bool _) rfl) (wg rfl rfl (gt k23)) rfl ?_
  refine WO.q (.r fun _ => rfl) (wg rfl rfl (gt k23)) rfl ?_
  refine WO.q (.ptv (v := .bool _) rfl k23 rfl) rfl rfl ?_
  refine WO.q (.mv (v := .bool _) rfl) rfl rfl ?_
  rcases bsp x15 with k24 | k24
  replace h := (if_pos k24).symm.trans h
  refine WO.sd (wg rfl rfl (gtn (f_not k24))) rfl ?_
  refine WO.sd (wg rfl rfl (gtn (f_not k24))) rfl ?_
  refine WO.sd (wg rfl rfl (gtn (f_not k24))) rfl ?_
  refine WO.sd (wg rfl rfl (gtn (f_not k24))) rfl ?_
  refine WO.sd (wg rfl rfl (gtn (f_not k24))) rfl ?_
  refine WO.sd (wg rfl rfl (gtn (f_not k24))) rfl ?_
  refine WO.sd (wg rfl rfl (gtn (f_not k24))) rfl ?_
  refine WO.sd (wg rfl rfl (gtn (f_not k24))) rfl ?_
  refine WO.sd (wg rfl rfl (gtn (f_not k24))) rfl ?_
  refine WO.sd (wg rfl rfl (gtn (f_not k24))) rfl ?_
  refine WO.sd (wg rfl rfl (gtn (f_not k24))) rfl ?_
  refine WO.q (.pfv (v := .bool _) rfl (f_not k24) rfl) rfl rfl ?_
  refine WO.nil ?_
  refine WX.keep [0, 1, 2, 3, 4, 12, 15, 17, 87] (WX.pk [] (by decide) ?_) rfl
  exact tree_Tree_Rename_j13_ok h _ _ _ _ ⟨hB, hH, _, _, h10, hw18, rfl, rfl⟩
  replace h := (if_neg (bnt k24)).symm.trans h
  refine WO.q (.mv (v := .ptr b_y11 0) rfl) (wg rfl rfl (gt (t_not k24))) rfl ?_
  refine WO.q (.r fun _ => rfl) (wg rfl rfl (gt (t_not k24))) rfl ?_
  refine WO.q (.fa (fa126_0 _ _)) (wg rfl rfl (gt (t_not k24))) rfl ?_
  refine WO.ql (.ldSm rfl (inE m_y11) rfl ti122 rfl) (wg rfl rfl (gt (t_not k24))) rfl ?_
  refine WO.q (.mv (v := .int _ _) rfl) (wg rfl rfl (gt (t_not k24))) rfl ?_
  obtain ⟨y69, hy69, h⟩ := Option.bind_eq_some_iff.1 h
  refine WO.md (MOp.lookup mt122 (foc122 hH) hw12 hy69 kI rfl rfl) (wg rfl rfl (gt (t_not k24))) rfl ?_
  rintro c70 _ ⟨rfl, _, r71, rfl⟩
  have hw72 := r71
  obtain ⟨y73, hy73, h⟩ := Option.bind_eq_some_iff.1 h
  obtain ⟨b_y73, c_y73, e_y73, m_y73, r_y73, u_y73⟩ := hgetS (foc131 hH) hw72 hy73
  subst e_y73
  obtain ⟨_, _, rfl, ⟨_, _, rfl, rfl, ⟨_, _, rfl, rfl, ⟨_, _, rfl, rfl, ⟨_, _, rfl, ⟨w74, rfl, hw74⟩, rfl⟩⟩⟩⟩, ⟨_, _, rfl, ⟨w75, rfl, hw75⟩, ⟨_, _, rfl, rfl, rfl⟩⟩⟩ := r_y73
  obtain ⟨_, _, _, _, _, rfl⟩ := hw74.isl
  refine WO.q (.r fun _ => rfl) (wg rfl rfl (gt (t_not k24))) rfl ?_
  refine WO.q (.fa (fa131_0 _ _)) (wg rfl rfl (gt (t_not k24))) rfl ?_
  refine WO.q (.fa (fa53_1 _ _)) (wg rfl rfl (gt (t_not k24))) rfl ?_
  refine WO.ql (.ldSm rfl (inE m_y73) rfl ti3 rfl) (wg rfl rfl (gt (t_not k24))) rfl ?_
  refine WO.q (.r fun _ => rfl) (wg rfl rfl (gt (t_not k24))) rfl ?_
  refine WO.q (.ptv (v := .bool _) rfl (t_not k24) rfl) rfl rfl ?_
  refine WO.nil ?_
  refine WX.keep [0, 1, 2, 3, 4, 12, 15, 17, 87] (WX.pk [] (by decide) ?_) rfl
  exact tree_Tree_Rename_j13_ok h _ _ _ _ ⟨hB, hH, _, _, h10, hw18, rfl, rfl⟩
  have q_k23 := of_decide_eq_false k23
  replace h := (if_neg q_k23).symm.trans h
  refine WO.sd (wg rfl rfl (gtn k23)) rfl ?_
  refine WO.sd (wg rfl rfl (gtn k23)) rfl ?_
  refine WO.q (.pfv (v := .bool _) rfl k23 rfl) rfl rfl ?_
  refine WO.q (.mv (v := .bool _) rfl) rfl rfl ?_
  refine WO.sd (wg rfl rfl (gtn rfl)) rfl ?_
  refine WO.sd (wg rfl rfl (gtn rfl)) rfl ?_
  refine WO.sd (wg rfl rfl (gtn rfl)) rfl ?_
  refine WO.sd (wg rfl rfl (gtn rfl)) rfl ?_
  refine WO.sd (wg rfl rfl (gtn rfl)) rfl ?_
  refine WO.sd (wg rfl rfl (gtn rfl)) rfl ?_
  refine WO.sd (wg rfl rfl (gtn rfl)) rfl ?_
  refine WO.sd (wg rfl rfl (gtn rfl)) rfl ?_
  refine WO.sd (wg rfl rfl (gtn rfl)) rfl ?_
  refine WO.sd (wg rfl rfl (gtn rfl)) rfl ?_
  refine WO.sd (wg rfl rfl (gtn rfl)) rfl ?_
  refine WO.q (.pfv (v := .bool _) rfl rfl rfl) rfl rfl ?_
  refine WO.nil ?_
  refine WX.keep [0, 1, 2, 3, 4, 12, 15, 17, 87] (WX.pk [] (by decide) ?_) rfl
  exact tree_Tree_Rename_j13_ok h _ _ _ _ ⟨hB, hH, _, _, h10, hw18, rfl, rfl⟩
  have q_k22 := of_decide_eq_false k22
  replace h := (if_neg q_k22).symm.trans h
  refine WO.sd (wg rfl rfl (gtn k22)) rfl ?_
  refine WO.sd (wg rfl rfl (gtn k22)) rfl ?_
  refine WO.sd (wg rfl rfl (gtn k22)) rfl ?_
  refine WO.q (.pfv (v := .bool _) rfl k22 rfl) rfl rfl ?_
  refine WO.q (.mv (v := .bool _) rfl) rfl rfl ?_
  refine WO.sd (wg rfl rfl (gtn rfl)) rfl ?_
  refine WO.sd (wg rfl rfl (gtn rfl)) rfl ?_
  refine WO.q (.pfv (v := .bool _) rfl rfl rfl) rfl rfl ?_
  refine WO.q (.mv (v := .bool _) rfl) rfl rfl ?_
  refine WO.sd (wg rfl rfl (gtn rfl)) rfl ?_
  refine WO.sd (wg rfl rfl (gtn rfl)) rfl ?_
  refine WO.sd (wg rfl rfl (gtn rfl)) rfl ?_
  refine WO.sd (wg rfl rfl (gtn rfl)) rfl ?_
  refine WO.sd (wg rfl rfl (gtn rfl)) rfl ?_
  refine WO.sd (wg rfl rfl (gtn rfl)) rfl ?_
  refine WO.sd (wg rfl rfl (gtn rfl)) rfl ?_
  refine WO.sd (wg rfl rfl (gtn rfl)) rfl ?_
  refine WO.sd (wg rfl rfl (gtn rfl)) rfl ?_
  refine WO.sd (wg rfl rfl (gtn rfl)) rfl ?_
  refine WO.sd (wg rfl rfl (gtn rfl)) rfl ?_
  refine WO.q (.pfv (v := .bool _) rfl rfl rfl) rfl rfl ?_
  refine WO.nil ?_
  refine WX.keep [0, 1, 2, 3, 4, 12, 15, 17, 87] (WX.pk [] (by decide) ?_) rfl
  exact tree_Tree_Rename_j13_ok h _ _ _ _ ⟨hB, hH, _, _, h10, hw18, rfl, rfl⟩
theorem tree_Tree_Rename_j6_ok {B0 : Kn} {L : Own} {n0 : Nat} {H : Heap} {x0 : Nat} {x1 : Int} {x2 : List UInt8} {x3 : Int} {x4 : List UInt8} {x12 : Int} {x14 : Int} {x15 : Bool} {x45 : Bool} {r : Heap × (List (Int × Int)) × Int} (h : tree_Tree_Rename_j6 H x0 x1 x2 x3 x4 x12 x14 x15 x45 = some r) : WXH Tryz.prog 140 n0 (Fin Tryz.prog Tryz.f29.results.toList n0 (tree_Tree_Rename_P B0 L r)) [.code (ct [1, 1, 1, 1, 1, 0, 1] (bodyOf Tryz.f29)), .code (ct [1, 1, 1, 1, 1, 1] (bodyOf Tryz.f29))] (tree_Tree_Rename_j6_I B0 H x0 x1 x2 x3 x4 x12 x14 x15 x45) L := by
  unfold tree_Tree_Rename_j6 at h
  rintro _ B _ E ⟨hB, hH, v5, h5, rfl, rfl⟩
  rcases bsp x45 with k6 | k6
  replace h := (if_pos k6).symm.trans h
  refine WX.condT rfl k6 ?_
  refine WX.seq ?_
  refine WX.reg ?_
  refine WO.q (.as (v := .sl _ _ _ _ _ _) rfl) rfl rfl ?_
  refine WO.q (.as (v := .int _ _) rfl) rfl rfl ?_
  refine WO.nil ?_
  obtain rfl := Option.some.inj h
  exact WX.ret (rs_ (rs_tmp rfl (rs_tmp rfl rs_nil))) fun st hp => ⟨_, _, _, hB, (hp.pk [] (by decide)), .sl 0 0 0 0 0 true, rfl, rfl, hH, (RSl.nil _ _)⟩
  replace h := (if_neg (bnt k6)).symm.trans h
  refine WX.condF rfl k6 ?_
  refine WX.skip ?_
  refine WX.seq ?_
  refine WX.seq ?_
  refine WX.reg ?_
  refine WO.q (.mv (v := .bool _) rfl) rfl rfl ?_
  refine WO.nil ?_
  rcases bsp x15 with k7 | k7
  replace h := (if_pos k7).symm.trans h
  refine WX.condT rfl k7 ?_
  refine WX.seq ?_
  refine WX.reg ?_
  refine WO.q (.mv (v := v5) rfl) rfl rfl ?_
  refine WO.q (.mv (v := .int _ _) rfl) rfl rfl ?_
  refine WO.q (.mv (v := .int _ _) rfl) rfl rfl ?_
  obtain ⟨y8, hy8, h⟩ := Option.bind_eq_some_iff.1 h
  refine WO.cS rfl rfl (rdS (tree_Tree_clash_ok hH h5 hy8)) rfl rfl rfl ?_
  rintro _ rfl
  refine WO.q (.as (v := .int _ _) rfl) rfl rfl ?_
  refine WO.nil ?_
  refine WX.seq ?_
  refine WX.reg ?_
  refine WO.q (.mv (v := .int _ _) rfl) rfl rfl ?_
  refine WO.q (.r fun _ => rfl) rfl rfl ?_
  refine WO.nil ?_
  rcases bsp (decide (y8 ≠ 0)) with k9 | k9
  have q_k9 := of_decide_eq_true k9
  replace h := (if_pos q_k9).symm.trans h
  refine WX.condT rfl k9 ?_
  refine WX.seq ?_
  refine WX.reg ?_
  refine WO.q (.mv (v := .int _ _) rfl) rfl rfl ?_
  refine WO.q (.as (v := .sl _ _ _ _ _ _) rfl) rfl rfl ?_
  refine WO.q (.as (v := .int _ _) rfl) rfl rfl ?_
  refine WO.nil ?_
  obtain rfl := Option.some.inj h
  exact WX.ret (rs_ (rs_tmp rfl (rs_tmp rfl rs_nil))) fun st hp => ⟨_, _, _, hB, (hp.pk [] (by decide)), .sl 0 0 0 0 0 true, rfl, rfl, hH, (RSl.nil _ _)⟩
  have q_k9 := of_decide_eq_false k9
  replace h := (if_neg q_k9).symm.trans h
  refine WX.condF rfl k9 ?_
  refine WX.skip ?_
  refine WX.keep [0, 1, 2, 3, 4, 12, 15] (WX.pk [] (by decide) ?_) rfl
  exact tree_Tree_Rename_j11_ok h _ _ _ _ ⟨hB, hH, _, h5, rfl, rfl⟩
  replace h := (if_neg (bnt k7)).symm.trans h
  refine WX.condF rfl k7 ?_
  refine WX.skip ?_
  refine WX.keep [0, 1, 2, 3, 4, 12, 15] (WX.pk [] (by decide) ?_) rfl
  exact tree_Tree_Rename_j11_ok h _ _ _ _ ⟨hB, hH, _, h5, rfl, rfl⟩
theorem tree_Tree_Rename_ok {B0 : Kn} {L : Own} {H : Heap} {E : Own} (hH : HR B0 H E) {a0 : Nat} {a1 : Int} {a2 : List UInt8} {a3 : Int} {a4 : List UInt8} {v0_0 : AV} (g0_0 : HPt B0 126 v0_0 a0) {r : Heap × (List (Int × Int)) × Int} (h : tree_Tree_Rename H a0 a1 a2 a3 a4 = some r) : ∀ st, Hp B0 (E ++ L) st → ASpec Tryz.prog 29 [v0_0, .int .i64 a1, .str a2, .int .i64 a3, .str a4] st (tree_Tree_Rename_P B0 L r) := by
  unfold tree_Tree_Rename at h
  refine bodyA (A := []) (L := E ++ L) Tryz.func29 rfl (c := bodyOf Tryz.f29) rfl Tryz.ntmps29 (lb rfl) fun n0 => ?_
  have hB := KLw.refl B0
  refine WX.seq ?_
  refine WX.reg ?_
  refine WO.q (.as (v := .sl _ _ _ _ _ _) rfl) rfl rfl ?_
  refine WO.q (.as (v := .int _ _) rfl) rfl rfl ?_
  refine WO.nil ?_
  refine WX.seq ?_
  refine WX.reg ?_
  refine WO.q (.mv (v := v0_0) rfl) rfl rfl ?_
  refine WO.q (.mv (v := .int _ _) rfl) rfl rfl ?_
  refine WO.q (.mv (v := .str _) rfl) rfl rfl ?_
  refine WO.q (.mv (v := .int _ _) rfl) rfl rfl ?_
  refine WO.q (.mv (v := .str _) rfl) rfl rfl ?_
  obtain ⟨y1, hy1, h⟩ := Option.bind_eq_some_iff.1 h
  refine WO.cS rfl rfl (rdS (tree_Tree_movable_ok hH g0_0 hy1)) rfl rfl rfl ?_
  rintro _ rfl
  refine WO.q (.mv (v := .tup _) rfl) rfl rfl ?_
  refine WO.q (.r fun _ => rfl) rfl rfl ?_
  refine WO.q (.r fun _ => rfl) rfl rfl ?_
  refine WO.q (.as (v := .int _ _) rfl) rfl rfl ?_
  refine WO.q (.as (v := .int _ _) rfl) rfl rfl ?_
  refine WO.nil ?_
  refine WX.seq ?_
  refine WX.seq ?_
  refine WX.reg ?_
  refine WO.q (.mv (v := .int _ _) rfl) rfl rfl ?_
  refine WO.q (.r fun _ => rfl) rfl rfl ?_
  refine WO.nil ?_
  rcases bsp (decide (y1.2 ≠ 0)) with k2 | k2
  have q_k2 := of_decide_eq_true k2
  replace h := (if_pos q_k2).symm.trans h
  refine WX.condT rfl k2 ?_
  refine WX.seq ?_
  refine WX.reg ?_
  refine WO.q (.mv (v := .int _ _) rfl) rfl rfl ?_
  refine WO.q (.as (v := .sl _ _ _ _ _ _) rfl) rfl rfl ?_
  refine WO.q (.as (v := .int _ _) rfl) rfl rfl ?_
  refine WO.nil ?_
  obtain rfl := Option.some.inj h
  exact WX.ret (rs_ (rs_tmp rfl (rs_tmp rfl rs_nil))) fun st hp => ⟨_, _, _, hB, (hp.pk [] (by decide)), .sl 0 0 0 0 0 true, rfl, rfl, hH, (RSl.nil _ _)⟩
  have q_k2 := of_decide_eq_false k2
  replace h := (if_neg q_k2).symm.trans h
  refine WX.condF rfl k2 ?_
  refine WX.skip ?_
  refine WX.seq ?_
  refine WX.reg ?_
  refine WO.q (.mv (v := v0_0) rfl) rfl rfl ?_
  refine WO.q (.mv (v := .int _ _) rfl) rfl rfl ?_
  refine WO.q (.mv (v := .str _) rfl) rfl rfl ?_
  obtain ⟨y3, hy3, h⟩ := Option.bind_eq_some_iff.1 h
  refine WO.cS rfl rfl (rdS (tree_Tree_Find_ok hH g0_0 hy3)) rfl rfl rfl ?_
  rintro _ rfl
  refine WO.q (.mv (v := .tup _) rfl) rfl rfl ?_
  refine WO.q (.r fun _ => rfl) rfl rfl ?_
  refine WO.q (.r fun _ => rfl) rfl rfl ?_
  refine WO.q (.as (v := .int _ _) rfl) rfl rfl ?_
  refine WO.q (.as (v := .int _ _) rfl) rfl rfl ?_
  refine WO.nil ?_
  refine WX.seq ?_
  refine WX.reg ?_
  refine WO.q (.mv (v := .int _ _) rfl) rfl rfl ?_
  refine WO.q (.r fun _ => rfl) rfl rfl ?_
  refine WO.q (.as (v := .bool _) rfl) rfl rfl ?_
  refine WO.nil ?_
  refine WX.seq ?_
  refine WX.seq ?_
  refine WX.reg ?_
  refine WO.q (.mv (v := .bool _) rfl) rfl rfl ?_
  refine WO.q (.mv (v := .bool _) rfl) rfl rfl ?_
  rcases bsp (decide (y3.2 = 0)) with k4 | k4
  have q_k4 := of_decide_eq_true k4
  replace h := (if_pos q_k4).symm.trans h
  refine WO.q (.mv (v := .int _ _) rfl) (wg rfl rfl (gt k4)) rfl ?_
  refine WO.q (.mv (v := .int _ _) rfl) (wg rfl rfl (gt k4)) rfl ?_
  refine WO.q (.r fun _ => rfl) (wg rfl rfl (gt k4)) rfl ?_
  refine WO.q (.ptv (v := .bool _) rfl k4 rfl) rfl rfl ?_
  refine WO.nil ?_
  refine WX.keep [0, 1, 2, 3, 4, 12, 14, 15, 45] (WX.pk [] (by decide) ?_) rfl
  exact tree_Tree_Rename_j6_ok h _ _ _ _ ⟨hB, hH, _, g0_0, rfl, rfl⟩
  have q_k4 := of_decide_eq_false k4
  replace h := (if_neg q_k4).symm.trans h
  refine WO.sd (wg rfl rfl (gtn k4)) rfl ?_
  refine WO.sd (wg rfl rfl (gtn k4)) rfl ?_
  refine WO.sd (wg rfl rfl (gtn k4)) rfl ?_
  refine WO.q (.pfv (v := .bool _) rfl k4 rfl) rfl rfl ?_
  refine WO.nil ?_
  refine WX.keep [0, 1, 2, 3, 4, 12, 14, 15, 45] (WX.pk [] (by decide) ?_) rfl
  exact tree_Tree_Rename_j6_ok h _ _ _ _ ⟨hB, hH, _, g0_0, rfl, rfl⟩
def tree_Tree_Unpin_P (B : Kn) (L : Own) (r : Heap × (List (Int × Int)) × Int) : AV → St → Prop := CH B L fun B' X E' v => ∃ w0, v = .tup [w0, .int .i64 r.2.2] ∧ X = [] ∧ HR B' r.1 E' ∧ RSl EPIi64Ii64Q B' w0 r.2.1
theorem tree_Tree_Unpin_ok {B0 : Kn} {L : Own} {H : Heap} {E : Own} (hH : HR B0 H E) {a0 : Nat} {a1 : Int} {v0_0 : AV} (g0_0 : HPt B0 126 v0_0 a0) {r : Heap × (List (Int × Int)) × Int} (h : tree_Tree_Unpin H a0 a1 = some r) : ∀ st, Hp B0 (E ++ L) st → ASpec Tryz.prog 30 [v0_0, .int .i64 a1] st (tree_Tree_Unpin_P B0 L r) := by
  unfold tree_Tree_Unpin at h
  refine bodyA (A := []) (L := E ++ L) Tryz.func30 rfl (c := bodyOf Tryz.f30) rfl Tryz.ntmps30 (lb rfl) fun n0 => ?_
  have hB := KLw.refl B0
  refine WX.seq ?_
  refine WX.reg ?_
  refine WO.q (.as (v := .sl _ _ _ _ _ _) rfl) rfl rfl ?_
  refine WO.q (.as (v := .int _ _) rfl) rfl rfl ?_
  refine WO.nil ?_
  refine WX.seq ?_
  refine WX.reg ?_
  refine WO.q (.mv (v := v0_0) rfl) rfl rfl ?_
  refine WO.q (.mv (v := .int _ _) rfl) rfl rfl ?_
  obtain ⟨y1, hy1, h⟩ := Option.bind_eq_some_iff.1 h
  refine WO.c0 rfl rfl (rd0 (tree_Tree_get_ok hH g0_0 hy1)) rfl rfl rfl ?_
  rintro _ B hK ⟨v2, rfl, h3⟩
  replace g0_0 := g0_0.up hK
  replace hH := hH.up hK
  replace hB := hB.trans hK.w
  refine WO.q (.mv (v := .tup _) rfl) rfl rfl ?_
  refine WO.q (.r fun _ => rfl) rfl rfl ?_
  refine WO.q (.r fun _ => rfl) rfl rfl ?_
  refine WO.q (.as (v := v2) rfl) rfl rfl ?_
  refine WO.q (.as (v := .int _ _) rfl) rfl rfl ?_
  refine WO.nil ?_
  refine WX.seq ?_
  refine WX.block ?_
  refine WX.seq ?_
  refine WX.reg ?_
  refine WO.q (.mv (v := .int _ _) rfl) rfl rfl ?_
  refine WO.q (.r fun _ => rfl) rfl rfl ?_
  refine WO.q (.as (v := .bool _) rfl) rfl rfl ?_
  refine WO.nil ?_
  rcases bsp (decide (y1.2 ≠ 0)) with k4 | k4
  have q_k4 := of_decide_eq_true k4
  replace h := (if_pos q_k4).symm.trans h
  refine WX.condT rfl k4 ?_
  refine WX.seq ?_
  refine WX.reg ?_
  refine WO.q (.mv (v := .int _ _) rfl) rfl rfl ?_
  refine WO.q (.as (v := .sl _ _ _ _ _ _) rfl) rfl rfl ?_
  refine WO.q (.as (v := .int _ _) rfl) rfl rfl ?_
  refine WO.nil ?_
  obtain rfl := Option.some.inj h
  exact WX.ret (rs_ (rs_tmp rfl (rs_tmp rfl rs_nil))) fun st hp => ⟨_, _, _, hB, (hp.pk [] (by decide)), .sl 0 0 0 0 0 true, rfl, rfl, hH, (RSl.nil _ _)⟩
  have q_k4 := of_decide_eq_false k4
  replace h := (if_neg q_k4).symm.trans h
  refine WX.condF rfl k4 ?_
  refine WX.seq ?_
  refine WX.reg ?_
  refine WO.q (.mv (v := v2) rfl) rfl rfl ?_
  obtain ⟨y5, hy5, h⟩ := Option.bind_eq_some_iff.1 h
  obtain ⟨b_y5, c_y5, e_y5, m_y5, r_y5, u_y5⟩ := hgetS (foc131 hH) h3 hy5
  subst e_y5
  obtain ⟨_, _, rfl, ⟨_, _, rfl, rfl, ⟨_, _, rfl, rfl, ⟨_, _, rfl, rfl, ⟨_, _, rfl, ⟨w6, rfl, hw6⟩, rfl⟩⟩⟩⟩, ⟨_, _, rfl, ⟨w7, rfl, hw7⟩, ⟨_, _, rfl, rfl, rfl⟩⟩⟩ := r_y5
  obtain ⟨_, _, _, _, _, rfl⟩ := hw6.isl
  refine WO.q (.r fun _ => rfl) rfl rfl ?_
  refine WO.q (.fa (fa131_3 _ _)) rfl rfl ?_
  refine WO.ql (.ldSm rfl (inE m_y5) rfl ti3 rfl) rfl rfl ?_
  refine WO.q (.r fun _ => rfl) rfl rfl ?_
  refine WO.q (.as (v := .bool _) rfl) rfl rfl ?_
  refine WO.nil ?_
  rcases bsp (decide (y5.2.2.2 = 0)) with k8 | k8
  have q_k8 := of_decide_eq_true k8
  replace h := (if_pos q_k8).symm.trans h
  refine WX.condT rfl k8 ?_
  refine WX.seq ?_
  refine WX.reg ?_
  refine WO.q (.as (v := .sl _ _ _ _ _ _) rfl) rfl rfl ?_
  refine WO.q (.as (v := .int _ _) rfl) rfl rfl ?_
  refine WO.nil ?_
  obtain rfl := Option.some.inj h
  exact WX.ret (rs_ (rs_tmp rfl (rs_tmp rfl rs_nil))) fun st hp => ⟨_, _, _, hB, (hp.pk [] (by decide)), .sl 0 0 0 0 0 true, rfl, rfl, hH, (RSl.nil _ _)⟩
  have q_k8 := of_decide_eq_false k8
  replace h := (if_neg q_k8).symm.trans h
  refine WX.condF rfl k8 ?_
  refine WX.skip ?_
  refine WX.pop ?_
  refine WX.seq ?_
  refine WX.reg ?_
  refine WO.q (.mv (v := .ptr b_y5 0) rfl) rfl rfl ?_
  refine WO.q (.r fun _ => rfl) rfl rfl ?_
  refine WO.q (.fa (fa131_3 _ _)) rfl rfl ?_
  refine WO.ql (.ldSm rfl (inE m_y5) rfl ti3 rfl) rfl rfl ?_
  refine WO.q (.r fun _ => rfl) rfl rfl ?_
  refine WO.q (.r fun _ => rfl) rfl rfl ?_
  refine WO.q (.fa (fa131_3 _ _)) rfl rfl ?_
  obtain ⟨H9, e_H9, h⟩ := Option.bind_eq_some_iff.1 h
  obtain ⟨_, z_z10, k_z10⟩ := u_y5 _ (y5.1, y5.2.1, y5.2.2.1, (wi64 (y5.2.2.2 - 1))) (Rp (Rp Ri (Rp Ri (Rp Ri (Rp (Rl hw6) Rs)))) (Rp (Rhp hw7) (Rp Ri Ri)))
  refine WO.en (MOpE.st rfl (cI rfl) z_z10 ti3 rfl rfl (lb rfl) rfl) rfl ?_
  rintro _ _ _ _ ⟨rfl, rfl, rfl⟩
  replace hH := HRe e_H9 k_z10
  refine WO.nil ?_
  refine WX.seq ?_
  refine WX.reg ?_
  refine WO.q (.mv (v := v0_0) rfl) rfl rfl ?_
  refine WO.q (.mv (v := .int _ _) rfl) rfl rfl ?_
  obtain ⟨y11, hy11, h⟩ := Option.bind_eq_some_iff.1 h
  refine WO.ch rfl rfl (tree_Tree_reap_ok hH g0_0 hy11) rfl rfl rfl ?_
  rintro _ B _ E hK ⟨v12, rfl, rfl, hH, h13⟩
  obtain ⟨_, _, _, _, _, rfl⟩ := h13.isl
  replace g0_0 := g0_0.upw hK
  replace hB := hB.trans hK
  refine WO.q (.as (v := .sl _ _ _ _ _ _) rfl) rfl rfl ?_
  refine WO.q (.as (v := .int _ _) rfl) rfl rfl ?_
  refine WO.nil ?_
  obtain rfl := Option.some.inj h
  exact WX.ret (rs_ (rs_tmp rfl (rs_tmp rfl rs_nil))) fun st hp => ⟨_, _, _, hB, (hp.pk [] (by decide)), _, rfl, rfl, hH, h13⟩
def tree_Tree_Link_P (B : Kn) (L : Own) (r : Heap × Int) : AV → St → Prop := CH B L fun B' X E' v => v = .int .i64 r.2 ∧ X = [] ∧ HR B' r.1 E'
theorem tree_Tree_Link_ok {B0 : Kn} {L : Own} {H : Heap} {E : Own} (hH : HR B0 H E) {a0 : Nat} {a1 : Int} {a2 : Int} {a3 : List UInt8} {v0_0 : AV} (g0_0 : HPt B0 126 v0_0 a0) {r : Heap × Int} (h : tree_Tree_Link H a0 a1 a2 a3 = some r) : ∀ st, Hp B0 (E ++ L) st → ASpec Tryz.prog 31 [v0_0, .int .i64 a1, .int .i64 a2, .str a3] st (tree_Tree_Link_P B0 L r) := by
  unfold tree_Tree_Link at h
  refine bodyA (A := []) (L := E ++ L) Tryz.func31 rfl (c := bodyOf Tryz.f31) rfl Tryz.ntmps31 (lb rfl) fun n0 => ?_
  have hB := KLw.refl B0
  refine WX.seq ?_
  refine WX.reg ?_
  refine WO.q (.as (v := .int _ _) rfl) rfl rfl ?_
  refine WO.nil ?_
  refine WX.seq ?_
  refine WX.reg ?_
  refine WO.q (.mv (v := v0_0) rfl) rfl rfl ?_
  refine WO.q (.mv (v := .int _ _) rfl) rfl rfl ?_
  obtain ⟨y1, hy1, h⟩ := Option.bind_eq_some_iff.1 h
  refine WO.c0 rfl rfl (rd0 (tree_Tree_get_ok hH g0_0 hy1)) rfl rfl rfl ?_
  rintro _ B hK ⟨v2, rfl, h3⟩
  replace g0_0 := g0_0.up hK
  replace hH := hH.up hK
  replace hB := hB.trans hK.w
  refine WO.q (.mv (v := .tup _) rfl) rfl rfl ?_
  refine WO.q (.r fun _ => rfl) rfl rfl ?_
  refine WO.q (.r fun _ => rfl) rfl rfl ?_
  refine WO.q (.as (v := v2) rfl) rfl rfl ?_
  refine WO.q (.as (v := .int _ _) rfl) rfl rfl ?_
  refine WO.nil ?_
  refine WX.seq ?_
  refine WX.block ?_
  refine WX.seq ?_
  refine WX.reg ?_
  refine WO.q (.mv (v := .int _ _) rfl) rfl rfl ?_
  refine WO.q (.r fun _ => rfl) rfl rfl ?_
  refine WO.q (.as (v := .bool _) rfl) rfl rfl ?_
  refine WO.nil ?_
  rcases bsp (decide (y1.2 ≠ 0)) with k4 | k4
  have q_k4 := of_decide_eq_true k4
  replace h := (if_pos q_k4).symm.trans h
  refine WX.condT rfl k4 ?_
  refine WX.seq ?_
  refine WX.reg ?_
  refine WO.q (.mv (v := .int _ _) rfl) rfl rfl ?_
  refine WO.q (.as (v := .int _ _) rfl) rfl rfl ?_
  refine WO.nil ?_
  obtain rfl := Option.some.inj h
  exact WX.ret (rs_ (rs_tmp rfl rs_nil)) fun st hp => ⟨_, _, _, hB, (hp.pk [] (by decide)), rfl, rfl, hH⟩
  have q_k4 := of_decide_eq_false k4
  replace h := (if_neg q_k4).symm.trans h
  refine WX.condF rfl k4 ?_
  refine WX.seq ?_
  refine WX.reg ?_
  refine WO.q (.mv (v := v2) rfl) rfl rfl ?_
  obtain ⟨y5, hy5, h⟩ := Option.bind_eq_some_iff.1 h
  obtain ⟨b_y5, c_y5, e_y5, m_y5, r_y5, u_y5⟩ := hgetS (foc131 hH) h3 hy5
  subst e_y5
  obtain ⟨_, _, rfl, ⟨_, _, rfl, rfl, ⟨_, _, rfl, rfl, ⟨_, _, rfl, rfl, ⟨_, _, rfl, ⟨w6, rfl, hw6⟩, rfl⟩⟩⟩⟩, ⟨_, _, rfl, ⟨w7, rfl, hw7⟩, ⟨_, _, rfl, rfl, rfl⟩⟩⟩ := r_y5
  obtain ⟨_, _, _, _, _, rfl⟩ := hw6.isl
  refine WO.q (.r fun _ => rfl) rfl rfl ?_
  refine WO.q (.fa (fa131_0 _ _)) rfl rfl ?_
  refine WO.q (.fa (fa53_1 _ _)) rfl rfl ?_
  refine WO.ql (.ldSm rfl (inE m_y5) rfl ti3 rfl) rfl rfl ?_
  refine WO.q (.r fun _ => rfl) rfl rfl ?_
  refine WO.q (.as (v := .bool _) rfl) rfl rfl ?_
  refine WO.nil ?_
  rcases bsp (decide (y5.1.2.1 = 0)) with k8 | k8
  have q_k8 := of_decide_eq_true k8
  replace h := (if_pos q_k8).symm.trans h
  refine WX.condT rfl k8 ?_
  refine WX.seq ?_
  refine WX.reg ?_
  refine WO.q (.as (v := .int _ _) rfl) rfl rfl ?_
  refine WO.nil ?_
  obtain rfl := Option.some.inj h
  exact WX.ret (rs_ (rs_tmp rfl rs_nil)) fun st hp => ⟨_, _, _, hB, (hp.pk [] (by decide)), rfl, rfl, hH⟩
  have q_k8 := of_decide_eq_false k8
  replace h := (if_neg q_k8).symm.trans h
  refine WX.condF rfl k8 ?_
  refine WX.seq ?_
  refine WX.reg ?_
  refine WO.q (.mv (v := .ptr b_y5 0) rfl) rfl rfl ?_
  refine WO.q (.r fun _ => rfl) rfl rfl ?_
  refine WO.q (.fa (fa131_0 _ _)) rfl rfl ?_
  refine WO.q (.fa (fa53_0 _ _)) rfl rfl ?_
  refine WO.ql (.ldSm rfl (inE m_y5) rfl ti49 rfl) rfl rfl ?_
  refine WO.q (.r fun _ => rfl) rfl rfl ?_
  refine WO.q (.as (v := .bool _) rfl) rfl rfl ?_
  refine WO.nil ?_
  rcases bsp (decide (y5.1.1 = 2)) with k9 | k9
  have q_k9 := of_decide_eq_true k9
  replace h := (if_pos q_k9).symm.trans h
  refine WX.condT rfl k9 ?_
  refine WX.seq ?_
  refine WX.reg ?_
  refine WO.q (.as (v := .int _ _) rfl) rfl rfl ?_
  refine WO.nil ?_
  obtain rfl := Option.some.inj h
  exact WX.ret (rs_ (rs_tmp rfl rs_nil)) fun st hp => ⟨_, _, _, hB, (hp.pk [] (by decide)), rfl, rfl, hH⟩
  have q_k9 := of_decide_eq_false k9
  replace h := (if_neg q_k9).symm.trans h
  refine WX.condF rfl k9 ?_
  refine WX.skip ?_
  refine WX.pop ?_
  refine WX.seq ?_
  refine WX.seq ?_
  refine WX.reg ?_
  refine WO.q (.mv (v := v0_0) rfl) rfl rfl ?_
  refine WO.q (.mv (v := .int _ _) rfl) rfl rfl ?_
  refine WO.q (.mv (v := .str _) rfl) rfl rfl ?_
  obtain ⟨y10, hy10, h⟩ := Option.bind_eq_some_iff.1 h
  refine WO.c0 rfl rfl (rd0 (tree_Tree_vacant_ok hH g0_0 hy10)) rfl rfl rfl ?_
  rintro _ B hK ⟨v11, rfl, h12⟩
  replace g0_0 := g0_0.up hK
  replace h3 := h3.up hK
  replace hH := hH.up hK
  replace hB := hB.trans hK.w
  refine WO.q (.mv (v := .tup _) rfl) rfl rfl ?_
  refine WO.q (.r fun _ => rfl) rfl rfl ?_
  refine WO.q (.r fun _ => rfl) rfl rfl ?_
  refine WO.q (.as (v := v11) rfl) rfl rfl ?_
  refine WO.q (.as (v := .int _ _) rfl) rfl rfl ?_
  refine WO.nil ?_
  refine WX.seq ?_
  refine WX.reg ?_
  refine WO.q (.mv (v := .int _ _) rfl) rfl rfl ?_
  refine WO.q (.r fun _ => rfl) rfl rfl ?_
  refine WO.nil ?_
  rcases bsp (decide (y10.2 ≠ 0)) with k13 | k13
  have q_k13 := of_decide_eq_true k13
  replace h := (if_pos q_k13).symm.trans h
  refine WX.condT rfl k13 ?_
  refine WX.seq ?_
  refine WX.reg ?_
  refine WO.q (.mv (v := .int _ _) rfl) rfl rfl ?_
  refine WO.q (.as (v := .int _ _) rfl) rfl rfl ?_
  refine WO.nil ?_
  obtain rfl := Option.some.inj h
  exact WX.ret (rs_ (rs_tmp rfl rs_nil)) fun st hp => ⟨_, _, _, hB, (hp.pk [] (by decide)), rfl, rfl, hH⟩
  have q_k13 := of_decide_eq_false k13
  replace h := (if_neg q_k13).symm.trans h
  refine WX.condF rfl k13 ?_
  refine WX.skip ?_
  refine WX.seq ?_
  refine WX.seq ?_
  refine WX.reg ?_
  refine WO.q (.mv (v := .ptr b_y5 0) rfl) rfl rfl ?_
  obtain ⟨y14, hy14, h⟩ := Option.bind_eq_some_iff.1 h
  obtain ⟨c_y14, m_y14, r_y14, u_y14⟩ := hgetP (foc131 hH) h3 hy14
  obtain ⟨_, _, rfl, ⟨_, _, rfl, rfl, ⟨_, _, rfl, rfl, ⟨_, _, rfl, rfl, ⟨_, _, rfl, ⟨w15, rfl, hw15⟩, rfl⟩⟩⟩⟩, ⟨_, _, rfl, ⟨w16, rfl, hw16⟩, ⟨_, _, rfl, rfl, rfl⟩⟩⟩ := r_y14
  obtain ⟨_, _, _, _, _, rfl⟩ := hw15.isl
  refine WO.q (.r fun _ => rfl) rfl rfl ?_
  refine WO.q (.fa (fa131_0 _ _)) rfl rfl ?_
  refine WO.q (.fa (fa53_1 _ _)) rfl rfl ?_
  refine WO.ql (.ldSm rfl (inE m_y14) rfl ti3 rfl) rfl rfl ?_
  refine WO.q (.r fun _ => rfl) rfl rfl ?_
  refine WO.nil ?_
  rcases bsp (decide (1000 ≤ y14.1.2.1)) with k17 | k17
  have q_k17 := of_decide_eq_true k17
  replace h := (if_pos q_k17).symm.trans h
  refine WX.condT rfl k17 ?_
  refine WX.seq ?_
  refine WX.reg ?_
  refine WO.q (.as (v := .int _ _) rfl) rfl rfl ?_
  refine WO.nil ?_
  obtain rfl := Option.some.inj h
  exact WX.ret (rs_ (rs_tmp rfl rs_nil)) fun st hp => ⟨_, _, _, hB, (hp.pk [] (by decide)), rfl, rfl, hH⟩
  have q_k17 := of_decide_eq_false k17
  replace h := (if_neg q_k17).symm.trans h
  refine WX.condF rfl k17 ?_
  refine WX.skip ?_
  refine WX.seq ?_
  refine WX.reg ?_
  refine WO.q (.mv (v := v0_0) rfl) rfl rfl ?_
  refine WO.q (.mv (v := .int _ _) rfl) rfl rfl ?_
  obtain ⟨y18, hy18, h⟩ := Option.bind_eq_some_iff.1 h
  refine WO.ch rfl rfl (tree_Tree_links_ok hH g0_0 hy18) rfl rfl rfl ?_
  rintro _ B _ E hK ⟨v19, rfl, rfl, hH, h20⟩
  obtain ⟨_, _, _, _, _, rfl⟩ := h20.isl
  replace g0_0 := g0_0.upw hK
  replace hB := hB.trans hK
  refine WO.nil ?_
  refine WX.seq ?_
  refine WX.reg ?_
  refine WO.q (.mv (v := v0_0) rfl) rfl rfl ?_
  refine WO.q (.mv (v := .int _ _) rfl) rfl rfl ?_
  refine WO.q (.mv (v := .str _) rfl) rfl rfl ?_
  refine WO.q (.mv (v := .int _ _) rfl) rfl rfl ?_
  obtain ⟨y21, hy21, h⟩ := Option.bind_eq_some_iff.1 h
  refine WO.ch rfl rfl (tree_Tree_put_ok hH g0_0 hy21) rfl rfl rfl ?_
  rintro _ B _ E hK ⟨rfl, rfl, hH⟩
  replace g0_0 := g0_0.upw hK
  replace hB := hB.trans hK
  refine WO.nil ?_
  refine WX.seq ?_
  refine WX.reg ?_
  refine WO.q (.as (v := .int _ _) rfl) rfl rfl ?_
  refine WO.nil ?_
  obtain rfl := Option.some.inj h
  exact WX.ret (rs_ (rs_tmp rfl rs_nil)) fun st hp => ⟨_, _, _, hB, (hp.pk [] (by decide)), rfl, rfl, hH⟩
end Gab
end
