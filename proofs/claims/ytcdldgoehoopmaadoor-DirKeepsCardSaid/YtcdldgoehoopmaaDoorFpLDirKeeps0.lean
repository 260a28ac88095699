/- The Go code comes to what the Lean functions say. Written by a program (gp.py). -/
import Derived.Test.YtcdldgoehoopmaaDoorFd
import Derived.Test.YtcdldgoehoopmaaDoorTy
import Derived.Test.YtcdldgoehoopmaaDoorFpDir0
import Derived.Test.YtcdldgoehoopmaaDoorFpLaw170
import Derived.Test.YtcdldgoehoopmaaDoorHand
set_option linter.unusedSimpArgs false
set_option linter.unusedVariables false
set_option maxHeartbeats 4000000
set_option maxRecDepth 100000
namespace Gab
open Go Go.Proofs
def gabionlaw17_DirKeeps_P (B : Kn) (L : Own) (r : Heap × Bool) : AV → St → Prop := CH B L fun B' X E' v => v = .bool r.2 ∧ X = [] ∧ HR B' r.1 E'
def gabionlaw17_DirKeeps_j14_I (B0 : Kn) (H : Heap) (x1 : List Bool) (x5 : Nat) (x6 : Nat) (x23 : List Int) (x25 : Int) : Fr → Kn → Own → Own → Prop := fun fr B A E => KLw B0 B ∧ HR B H E ∧ ∃ v36 v37 v38 v39, RSl Ty.bool B v36 x1 ∧ HPt B 66 v37 x5 ∧ HMt B 26 v38 x6 ∧ RSl (Ty.int .u16) B v39 x23 ∧ fr = [(1, v36), (5, v37), (6, v38), (23, v39), (24, .int .i64 (x23.length : Int)), (25, .int .i64 x25)] ∧ A = []
def gabionlaw17_DirKeeps_j12_I (B0 : Kn) (H : Heap) (x1 : List Bool) (x5 : Nat) (x6 : Nat) (x9 : List UInt8) (x23 : List Int) (x25 : Int) (x62 : Bool) : Fr → Kn → Own → Own → Prop := fun fr B A E => KLw B0 B ∧ HR B H E ∧ ∃ v29 v30 v31 v32, RSl Ty.bool B v29 x1 ∧ HPt B 66 v30 x5 ∧ HMt B 26 v31 x6 ∧ RSl (Ty.int .u16) B v32 x23 ∧ fr = [(1, v29), (5, v30), (6, v31), (9, .str x9), (23, v32), (24, .int .i64 (x23.length : Int)), (25, .int .i64 x25), (62, .bool x62)] ∧ A = []
def gabionlaw17_DirKeeps_j11_I (B0 : Kn) (H : Heap) (x1 : List Bool) (x5 : Nat) (x6 : Nat) (x9 : List UInt8) (x23 : List Int) (x25 : Int) (x52 : Bool) : Fr → Kn → Own → Own → Prop := fun fr B A E => KLw B0 B ∧ HR B H E ∧ ∃ v22 v23 v24 v25, RSl Ty.bool B v22 x1 ∧ HPt B 66 v23 x5 ∧ HMt B 26 v24 x6 ∧ RSl (Ty.int .u16) B v25 x23 ∧ fr = [(1, v22), (5, v23), (6, v24), (9, .str x9), (23, v25), (24, .int .i64 (x23.length : Int)), (25, .int .i64 x25), (52, .bool x52)] ∧ A = []
def gabionlaw17_DirKeeps_l0_I (B0 : Kn) (x1 : List Bool) (x5 : Nat) (x6 : Nat) (x23 : List Int) (H : Heap) (x25 : Int) : Fr → Kn → Own → Own → Prop := fun fr B A E => KLw B0 B ∧ HR B H E ∧ ∃ v8 v9 v10 v11, RSl Ty.bool B v8 x1 ∧ HPt B 66 v9 x5 ∧ HMt B 26 v10 x6 ∧ RSl (Ty.int .u16) B v11 x23 ∧ fr = [(1, v8), (5, v9), (6, v10), (23, v11), (24, .int .i64 (x23.length : Int)), (25, .int .i64 x25)] ∧ A = []
def gabionlaw17_DirKeeps_l0_X0 (B0 : Kn) (H : Heap) (x5 : Nat) (x6 : Nat) : Fr → Kn → Own → Own → Prop := fun fr B A E => KLw B0 B ∧ HR B H E ∧ ∃ v96 v97, HPt B 66 v96 x5 ∧ HMt B 26 v97 x6 ∧ fr = [(5, v96), (6, v97)] ∧ A = []
def gabionlaw17_DirKeeps_l1_I (B0 : Kn) (H : Heap) (x5 : Nat) (x6 : Nat) (x67 : List Int) (x10 : Int) (x69 : Int) : Fr → Kn → Own → Own → Prop := fun fr B A E => KLw B0 B ∧ HR B H E ∧ ∃ v55 v56 v57 b57 n57 c57, HPt B 66 v55 x5 ∧ HMt B 26 v56 x6 ∧ OSl (Ty.int .i64) B v57 b57 n57 c57 x67 ∧ fr = [(5, v55), (6, v56), (10, .int .i64 x10), (67, v57), (68, .int .i64 (x67.length : Int)), (69, .int .i64 x69)] ∧ A = [oe b57 n57 c57]
def gabionlaw17_DirKeeps_l1_X0 (B0 : Kn) (H : Heap) (x5 : Nat) (x6 : Nat) (x10 : Int) : Fr → Kn → Own → Own → Prop := fun fr B A E => KLw B0 B ∧ HR B H E ∧ ∃ v98 v99, HPt B 66 v98 x5 ∧ HMt B 26 v99 x6 ∧ fr = [(5, v98), (6, v99), (10, .int .i64 x10)] ∧ A = []
def gabionlaw17_DirKeeps_j25_I (B1 : Kn) (bi bm c0 : Nat) (seen : List Nat) (x5 : Nat) (x6 : Nat) (x10 : Int) (x96 : Bool) : Fr → Kn → Own → Prop := fun fr B A => KLe B1 B ∧ ∃ v72 v73, HPt B 66 v72 x5 ∧ HMt B 26 v73 x6 ∧ fr = [(5, v72), (6, v73), (10, .int .i64 x10), (78, .ptr bi 0), (96, .bool x96)] ∧ A = [(bi, some (OV.i (some bm) c0 seen c0))]
def gabionlaw17_DirKeeps_l2_I (B1 : Kn) (bi bm c0 : Nat) (seen : List Nat) (x5 : Nat) (x6 : Nat) (x10 : Int) : Fr → Kn → Own → Prop := fun fr B A => KLe B1 B ∧ ∃ v66 v67, HPt B 66 v66 x5 ∧ HMt B 26 v67 x6 ∧ fr = [(5, v66), (6, v67), (10, .int .i64 x10), (78, .ptr bi 0)] ∧ A = [(bi, some (OV.i (some bm) c0 seen c0))]
def gabionlaw17_DirKeeps_l2_X0 (B1 : Kn) (x5 : Nat) (x6 : Nat) (x10 : Int) : Fr → Kn → Own → Prop := fun fr B A => KLe B1 B ∧ ∃ v100 v101, HPt B 66 v100 x5 ∧ HMt B 26 v101 x6 ∧ fr = [(5, v100), (6, v101), (10, .int .i64 x10)] ∧ A = []
theorem gabionlaw17_DirKeeps_j14_ok {B0 : Kn} {L : Own} {n0 : Nat} {H : Heap} {x1 : List Bool} {x5 : Nat} {x6 : Nat} {x23 : List Int} {x25 : Int} {Q : AV → St → Prop} {E : (Heap × Int) ⊕ ((Heap × Bool) ⊕ Heap) → Prop} {o : (Heap × Int) ⊕ ((Heap × Bool) ⊕ Heap)} (h : gabionlaw17_DirKeeps_j14 H x1 x5 x6 x23 x25 = some o) (hn : ∀ s, E (.inl s) → WXH Tryd.prog 119 n0 (Fin Tryd.prog Tryd.f3.results.toList n0 Q) [.lp (ct [1, 1, 1, 0, 1, 0, 0] (bodyOf Tryd.f3)), .blk 0, .code (ct [1, 1, 1, 1] (bodyOf Tryd.f3))] (gabionlaw17_DirKeeps_l0_I B0 x1 x5 x6 x23 s.1 s.2) L) (hx0 : ∀ s, E (.inr (.inr s)) → WXH Tryd.prog 119 n0 (Fin Tryd.prog Tryd.f3.results.toList n0 Q) [.code (ct [1, 1, 1, 1] (bodyOf Tryd.f3))] (gabionlaw17_DirKeeps_l0_X0 B0 s x5 x6) L) (hr : ∀ r, E (.inr (.inl r)) → ∀ v st, gabionlaw17_DirKeeps_P B0 L r v st → Q v st) (hE : E o) : WXH Tryd.prog 119 n0 (Fin Tryd.prog Tryd.f3.results.toList n0 Q) [.code (ct [1, 1, 1, 0, 1, 0, 0, 1, 1, 1] (bodyOf Tryd.f3)), .lp (ct [1, 1, 1, 0, 1, 0, 0] (bodyOf Tryd.f3)), .blk 0, .code (ct [1, 1, 1, 1] (bodyOf Tryd.f3))] (gabionlaw17_DirKeeps_j14_I B0 H x1 x5 x6 x23 x25) L := by
  unfold gabionlaw17_DirKeeps_j14 at h
  rintro _ B _ E ⟨hB, hH, v36, v37, v38, v39, h36, h37, h38, h39, rfl, rfl⟩
  obtain ⟨_, _, _, _, _, rfl⟩ := h36.isl
  obtain ⟨_, _, _, _, _, rfl⟩ := h39.isl
  refine WX.reg ?_
  refine WO.q (.r fun _ => rfl) rfl rfl ?_
  refine WO.q (.mv (v := .int _ _) rfl) rfl rfl ?_
  refine WO.nil ?_
  refine WX.keepL [1, 5, 6, 23, 24, 25] (WX.pk [] (by decide) ?_) rfl
  obtain rfl := Option.some.inj h
  exact hn _ hE _ _ _ _ ⟨hB, hH, _, _, _, _, h36, h37, h38, h39, rfl, rfl⟩
theorem gabionlaw17_DirKeeps_j12_ok {B0 : Kn} {L : Own} {n0 : Nat} {H : Heap} {x1 : List Bool} {x5 : Nat} {x6 : Nat} {x9 : List UInt8} {x23 : List Int} {x25 : Int} {x62 : Bool} {Q : AV → St → Prop} {E : (Heap × Int) ⊕ ((Heap × Bool) ⊕ Heap) → Prop} {o : (Heap × Int) ⊕ ((Heap × Bool) ⊕ Heap)} (h : gabionlaw17_DirKeeps_j12 H x1 x5 x6 x9 x23 x25 x62 = some o) (hn : ∀ s, E (.inl s) → WXH Tryd.prog 119 n0 (Fin Tryd.prog Tryd.f3.results.toList n0 Q) [.lp (ct [1, 1, 1, 0, 1, 0, 0] (bodyOf Tryd.f3)), .blk 0, .code (ct [1, 1, 1, 1] (bodyOf Tryd.f3))] (gabionlaw17_DirKeeps_l0_I B0 x1 x5 x6 x23 s.1 s.2) L) (hx0 : ∀ s, E (.inr (.inr s)) → WXH Tryd.prog 119 n0 (Fin Tryd.prog Tryd.f3.results.toList n0 Q) [.code (ct [1, 1, 1, 1] (bodyOf Tryd.f3))] (gabionlaw17_DirKeeps_l0_X0 B0 s x5 x6) L) (hr : ∀ r, E (.inr (.inl r)) → ∀ v st, gabionlaw17_DirKeeps_P B0 L r v st → Q v st) (hE : E o) : WXH Tryd.prog 119 n0 (Fin Tryd.prog Tryd.f3.results.toList n0 Q) [.code (ct [1, 1, 1, 0, 1, 0, 0, 1, 1, 0, 0, 1, 1, 1, 1, 1, 0, 0, 1] (bodyOf Tryd.f3)), .code (ct [1, 1, 1, 0, 1, 0, 0, 1, 1, 0, 0, 1, 1, 1, 1, 1, 0, 1] (bodyOf Tryd.f3)), .blk 1, .code (ct [1, 1, 1, 0, 1, 0, 0, 1, 1, 1] (bodyOf Tryd.f3)), .lp (ct [1, 1, 1, 0, 1, 0, 0] (bodyOf Tryd.f3)), .blk 0, .code (ct [1, 1, 1, 1] (bodyOf Tryd.f3))] (gabionlaw17_DirKeeps_j12_I B0 H x1 x5 x6 x9 x23 x25 x62) L := by
  unfold gabionlaw17_DirKeeps_j12 at h
  rintro _ B _ E ⟨hB, hH, v29, v30, v31, v32, h29, h30, h31, h32, rfl, rfl⟩
  obtain ⟨_, _, _, _, _, rfl⟩ := h29.isl
  obtain ⟨_, _, _, _, _, rfl⟩ := h32.isl
  rcases bsp x62 with k33 | k33
  · replace h := (if_pos k33).symm.trans h
    refine WX.condT rfl k33 ?_
    refine WX.seq ?_
    refine WX.reg ?_
    refine WO.q (.as (v := .bool _) rfl) rfl rfl ?_
    refine WO.nil ?_
    obtain rfl := Option.some.inj h
    exact WX.ret (rs_ (rs_tmp rfl rs_nil)) fun st hp => hr _ hE _ _ ⟨_, _, _, hB, (hp.pk [] (by decide)), rfl, rfl, hH⟩
  · replace h := (if_neg (bnt k33)).symm.trans h
    refine WX.condF rfl k33 ?_
    refine WX.skip ?_
    refine WX.reg ?_
    refine WO.q (.mv (v := v31) rfl) rfl rfl ?_
    refine WO.q (.mv (v := .str _) rfl) rfl rfl ?_
    obtain ⟨y34, hy34, h⟩ := Option.bind_eq_some_iff.1 h
    obtain ⟨H35, e_H35, h⟩ := Option.bind_eq_some_iff.1 h
    obtain rfl := Option.some.inj e_H35
    refine WO.en (MOpE.del rfl rfl rfl mt26 (foc26 hH) h31 hy34 Rs rfl rfl) rfl ?_
    rintro _ _ _ E ⟨rfl, rfl, rfl, hH⟩
    replace hH := (hH : HR _ _ _)
    refine WO.nil ?_
    refine WX.pop ?_
    refine WX.keep [1, 5, 6, 23, 24, 25] (WX.pk [] (by decide) ?_) rfl
    exact gabionlaw17_DirKeeps_j14_ok h hn hx0 hr hE _ _ _ _ ⟨hB, hH, _, _, _, _, h29, h30, h31, h32, rfl, rfl⟩
theorem gabionlaw17_DirKeeps_j11_ok {B0 : Kn} {L : Own} {n0 : Nat} {H : Heap} {x1 : List Bool} {x5 : Nat} {x6 : Nat} {x9 : List UInt8} {x23 : List Int} {x25 : Int} {x52 : Bool} {Q : AV → St → Prop} {E : (Heap × Int) ⊕ ((Heap × Bool) ⊕ Heap) → Prop} {o : (Heap × Int) ⊕ ((Heap × Bool) ⊕ Heap)} (h : gabionlaw17_DirKeeps_j11 H x1 x5 x6 x9 x23 x25 x52 = some o) (hn : ∀ s, E (.inl s) → WXH Tryd.prog 119 n0 (Fin Tryd.prog Tryd.f3.results.toList n0 Q) [.lp (ct [1, 1, 1, 0, 1, 0, 0] (bodyOf Tryd.f3)), .blk 0, .code (ct [1, 1, 1, 1] (bodyOf Tryd.f3))] (gabionlaw17_DirKeeps_l0_I B0 x1 x5 x6 x23 s.1 s.2) L) (hx0 : ∀ s, E (.inr (.inr s)) → WXH Tryd.prog 119 n0 (Fin Tryd.prog Tryd.f3.results.toList n0 Q) [.code (ct [1, 1, 1, 1] (bodyOf Tryd.f3))] (gabionlaw17_DirKeeps_l0_X0 B0 s x5 x6) L) (hr : ∀ r, E (.inr (.inl r)) → ∀ v st, gabionlaw17_DirKeeps_P B0 L r v st → Q v st) (hE : E o) : WXH Tryd.prog 119 n0 (Fin Tryd.prog Tryd.f3.results.toList n0 Q) [.code (ct [1, 1, 1, 0, 1, 0, 0, 1, 1, 0, 0, 1, 1, 1, 1, 1] (bodyOf Tryd.f3)), .blk 1, .code (ct [1, 1, 1, 0, 1, 0, 0, 1, 1, 1] (bodyOf Tryd.f3)), .lp (ct [1, 1, 1, 0, 1, 0, 0] (bodyOf Tryd.f3)), .blk 0, .code (ct [1, 1, 1, 1] (bodyOf Tryd.f3))] (gabionlaw17_DirKeeps_j11_I B0 H x1 x5 x6 x9 x23 x25 x52) L := by
  unfold gabionlaw17_DirKeeps_j11 at h
  rintro _ B _ E ⟨hB, hH, v22, v23, v24, v25, h22, h23, h24, h25, rfl, rfl⟩
  obtain ⟨_, _, _, _, _, rfl⟩ := h22.isl
  obtain ⟨_, _, _, _, _, rfl⟩ := h25.isl
  rcases bsp x52 with k26 | k26
  · replace h := (if_pos k26).symm.trans h
    refine WX.condT rfl k26 ?_
    refine WX.seq ?_
    refine WX.seq ?_
    refine WX.reg ?_
    refine WO.q (.mv (v := v23) rfl) rfl rfl ?_
    refine WO.q (.mv (v := .str _) rfl) rfl rfl ?_
    obtain ⟨y27, hy27, h⟩ := Option.bind_eq_some_iff.1 h
    refine WO.ch rfl rfl (dir_Dir_Drop_ok hH h23 hy27) rfl rfl rfl ?_
    rintro _ B _ E hK ⟨rfl, rfl, hH⟩
    replace h22 := h22.upw hK
    replace h23 := h23.upw hK
    replace h24 := h24.upw hK
    replace h25 := h25.upw hK
    replace hB := hB.trans hK
    refine WO.q (.r fun _ => rfl) rfl rfl ?_
    refine WO.q (.mv (v := .bool _) rfl) rfl rfl ?_
    rcases bsp (decide (y27.2 ≠ 0)) with k28 | k28
    · have q_k28 := of_decide_eq_true k28
      replace h := (if_pos q_k28).symm.trans h
      refine WO.sd (wg rfl rfl (gfn k28)) rfl ?_
      refine WO.sd (wg rfl rfl (gfn k28)) rfl ?_
      refine WO.sd (wg rfl rfl (gfn k28)) rfl ?_
      refine WO.sd (wg rfl rfl (gfn k28)) rfl ?_
      refine WO.q (.ptv (v := .bool _) rfl k28 rfl) rfl rfl ?_
      refine WO.nil ?_
      refine WX.keep [1, 5, 6, 9, 23, 24, 25, 62] (WX.pk [] (by decide) ?_) rfl
      exact gabionlaw17_DirKeeps_j12_ok h hn hx0 hr hE _ _ _ _ ⟨hB, hH, _, _, _, _, h22, h23, h24, h25, rfl, rfl⟩
    · have q_k28 := of_decide_eq_false k28
      replace h := (if_neg q_k28).symm.trans h
      refine WO.q (.mv (v := v23) rfl) (wg rfl rfl (gf k28)) rfl ?_
      refine WO.q (.mv (v := .str _) rfl) (wg rfl rfl (gf k28)) rfl ?_
      obtain ⟨y40, hy40, h⟩ := Option.bind_eq_some_iff.1 h
      refine WO.ch rfl rfl (dir_Dir_Drop_ok hH h23 hy40) rfl (wg rfl rfl (gf k28)) rfl ?_
      rintro _ B _ E hK ⟨rfl, rfl, hH⟩
      replace h22 := h22.upw hK
      replace h23 := h23.upw hK
      replace h24 := h24.upw hK
      replace h25 := h25.upw hK
      replace hB := hB.trans hK
      refine WO.q (.r fun _ => rfl) (wg rfl rfl (gf k28)) rfl ?_
      refine WO.q (.pfv (v := .bool _) rfl k28 rfl) rfl rfl ?_
      refine WO.nil ?_
      refine WX.keep [1, 5, 6, 9, 23, 24, 25, 62] (WX.pk [] (by decide) ?_) rfl
      exact gabionlaw17_DirKeeps_j12_ok h hn hx0 hr hE _ _ _ _ ⟨hB, hH, _, _, _, _, h22, h23, h24, h25, rfl, rfl⟩
  · replace h := (if_neg (bnt k26)).symm.trans h
    refine WX.condF rfl k26 ?_
    refine WX.skip ?_
    refine WX.pop ?_
    refine WX.keep [1, 5, 6, 23, 24, 25] (WX.pk [] (by decide) ?_) rfl
    exact gabionlaw17_DirKeeps_j14_ok h hn hx0 hr hE _ _ _ _ ⟨hB, hH, _, _, _, _, h22, h23, h24, h25, rfl, rfl⟩
theorem gabionlaw17_DirKeeps_l0_s {B0 : Kn} {L : Own} {n0 : Nat} {x1 : List Bool} {x5 : Nat} {x6 : Nat} {x23 : List Int} {H : Heap} {x25 : Int} {Q : AV → St → Prop} {E : (Heap × Int) ⊕ ((Heap × Bool) ⊕ Heap) → Prop} {o : (Heap × Int) ⊕ ((Heap × Bool) ⊕ Heap)} (h : gabionlaw17_DirKeeps_l0 x1 x5 x6 x23 H x25 = some o) (hn : ∀ s, E (.inl s) → WXH Tryd.prog 119 n0 (Fin Tryd.prog Tryd.f3.results.toList n0 Q) [.lp (ct [1, 1, 1, 0, 1, 0, 0] (bodyOf Tryd.f3)), .blk 0, .code (ct [1, 1, 1, 1] (bodyOf Tryd.f3))] (gabionlaw17_DirKeeps_l0_I B0 x1 x5 x6 x23 s.1 s.2) L) (hx0 : ∀ s, E (.inr (.inr s)) → WXH Tryd.prog 119 n0 (Fin Tryd.prog Tryd.f3.results.toList n0 Q) [.code (ct [1, 1, 1, 1] (bodyOf Tryd.f3))] (gabionlaw17_DirKeeps_l0_X0 B0 s x5 x6) L) (hr : ∀ r, E (.inr (.inl r)) → ∀ v st, gabionlaw17_DirKeeps_P B0 L r v st → Q v st) (hE : E o) : WXH Tryd.prog 119 n0 (Fin Tryd.prog Tryd.f3.results.toList n0 Q) [.code (ct [1, 1, 1, 0, 1, 0, 0] (bodyOf Tryd.f3)), .lp (ct [1, 1, 1, 0, 1, 0, 0] (bodyOf Tryd.f3)), .blk 0, .code (ct [1, 1, 1, 1] (bodyOf Tryd.f3))] (gabionlaw17_DirKeeps_l0_I B0 x1 x5 x6 x23 H x25) L := by
  unfold gabionlaw17_DirKeeps_l0 at h
  rintro _ B _ E ⟨hB, hH, v8, v9, v10, v11, h8, h9, h10, h11, rfl, rfl⟩
  obtain ⟨_, _, _, _, _, rfl⟩ := h8.isl
  obtain ⟨_, _, _, _, _, rfl⟩ := h11.isl
  refine WX.seq ?_
  refine WX.reg ?_
  refine WO.q (.r fun _ => rfl) rfl rfl ?_
  refine WO.nil ?_
  refine WX.seq ?_
  rcases bsp (decide (x25 < (x23.length : Int))) with k12 | k12
  · have q_k12 := of_decide_eq_true k12
    replace h := (if_pos q_k12).symm.trans h
    refine WX.condT rfl k12 ?_
    refine WX.skip ?_
    refine WX.seq ?_
    refine WX.block ?_
    refine WX.seq ?_
    refine WX.reg ?_
    refine WO.q (.mv (v := .int _ _) rfl) rfl rfl ?_
    obtain ⟨y13, hy13, h⟩ := Option.bind_eq_some_iff.1 h
    obtain ⟨b_y13, o_y13, _, i_y13, p_y13, r_y13⟩ := h11.at sl22 hy13 .i64
    obtain rfl := r_y13
    refine WO.q (.ia i_y13) rfl rfl ?_
    refine WO.q (.lp0 rfl p_y13 rfl ti27 rfl) rfl rfl ?_
    refine WO.q (.as (v := .int _ _) rfl) rfl rfl ?_
    refine WO.q (.as (v := .int _ _) rfl) rfl rfl ?_
    refine WO.nil ?_
    refine WX.seq ?_
    refine WX.reg ?_
    refine WO.q (.mv (v := .int _ _) rfl) rfl rfl ?_
    refine WO.q (.r fun _ => rfl) rfl rfl ?_
    refine WO.q (cvI ti27 ti3 rfl rfl) rfl rfl ?_
    obtain ⟨y14, hy14, h⟩ := Option.bind_eq_some_iff.1 h
    refine WO.cS rfl rfl (strconv_Itoa_ok hy14) rfl rfl rfl ?_
    rintro _ rfl
    obtain ⟨y15, hy15, h⟩ := Option.bind_eq_some_iff.1 h
    refine WO.q (.bin (evcat hy15)) rfl rfl ?_
    refine WO.q (.as (v := .str _) rfl) rfl rfl ?_
    refine WO.nil ?_
    refine WX.seq ?_
    refine WX.seq ?_
    refine WX.reg ?_
    refine WO.q (.mv (v := v9) rfl) rfl rfl ?_
    refine WO.q (.mv (v := .str _) rfl) rfl rfl ?_
    refine WO.q (.mv (v := .int _ _) rfl) rfl rfl ?_
    obtain ⟨y16, hy16, h⟩ := Option.bind_eq_some_iff.1 h
    refine WO.ch rfl rfl (dir_Dir_Put_ok hH h9 hy16) rfl rfl rfl ?_
    rintro _ B _ E hK ⟨rfl, rfl, hH⟩
    replace h8 := h8.upw hK
    replace h9 := h9.upw hK
    replace h10 := h10.upw hK
    replace h11 := h11.upw hK
    replace hB := hB.trans hK
    refine WO.q (.r fun _ => rfl) rfl rfl ?_
    refine WO.nil ?_
    rcases bsp (decide (y16.2 ≠ 0)) with k17 | k17
    · have q_k17 := of_decide_eq_true k17
      replace h := (if_pos q_k17).symm.trans h
      refine WX.condT rfl k17 ?_
      refine WX.seq ?_
      refine WX.reg ?_
      refine WO.q (.as (v := .bool _) rfl) rfl rfl ?_
      refine WO.nil ?_
      obtain rfl := Option.some.inj h
      exact WX.ret (rs_ (rs_tmp rfl rs_nil)) fun st hp => hr _ hE _ _ ⟨_, _, _, hB, (hp.pk [] (by decide)), rfl, rfl, hH⟩
    · have q_k17 := of_decide_eq_false k17
      replace h := (if_neg q_k17).symm.trans h
      refine WX.condF rfl k17 ?_
      refine WX.skip ?_
      refine WX.seq ?_
      refine WX.reg ?_
      refine WO.q (.mv (v := v10) rfl) rfl rfl ?_
      refine WO.q (.mv (v := .str _) rfl) rfl rfl ?_
      refine WO.q (.mv (v := .int _ _) rfl) rfl rfl ?_
      obtain ⟨y18, hy18, h⟩ := Option.bind_eq_some_iff.1 h
      obtain ⟨H19, e_H19, h⟩ := Option.bind_eq_some_iff.1 h
      obtain rfl := Option.some.inj e_H19
      refine WO.en (MOpE.put mt26 (foc26 hH) h10 hy18 Rs Ri rfl rfl rfl) rfl ?_
      rintro _ _ _ E ⟨rfl, rfl, hH⟩
      replace hH := (hH : HR _ _ _)
      refine WO.nil ?_
      refine WX.seq ?_
      refine WX.reg ?_
      refine WO.q (.mv (v := .int _ _) rfl) rfl rfl ?_
      refine WO.q (.mv (v := .sl _ _ _ _ _ _) rfl) rfl rfl ?_
      refine WO.q (.len rfl rfl rfl (sl23.len h8.isl)) rfl rfl ?_
      refine WO.q (.r fun _ => rfl) rfl rfl ?_
      refine WO.q (.mv (v := .bool _) rfl) rfl rfl ?_
      rcases bsp (decide (x25 < (x1.length : Int))) with k20 | k20
      · have q_k20 := of_decide_eq_true k20
        replace h := (if_pos q_k20).symm.trans h
        refine WO.q (.mv (v := .sl _ _ _ _ _ _) rfl) (wg rfl rfl (gt k20)) rfl ?_
        refine WO.q (.mv (v := .int _ _) rfl) (wg rfl rfl (gt k20)) rfl ?_
        obtain ⟨y21, hy21, h⟩ := Option.bind_eq_some_iff.1 h
        obtain ⟨b_y21, o_y21, _, i_y21, p_y21, r_y21⟩ := h8.at sl23 hy21 .i64
        obtain rfl := r_y21
        refine WO.q (.ia i_y21) (wg rfl rfl (gt k20)) rfl ?_
        refine WO.q (.lp0 rfl p_y21 rfl ti4 rfl) (wg rfl rfl (gt k20)) rfl ?_
        refine WO.q (.ptv (v := .bool _) rfl k20 rfl) rfl rfl ?_
        refine WO.nil ?_
        refine WX.keep [1, 5, 6, 9, 23, 24, 25, 52] (WX.pk [] (by decide) ?_) rfl
        exact gabionlaw17_DirKeeps_j11_ok h hn hx0 hr hE _ _ _ _ ⟨hB, hH, _, _, _, _, h8, h9, h10, h11, rfl, rfl⟩
      · have q_k20 := of_decide_eq_false k20
        replace h := (if_neg q_k20).symm.trans h
        refine WO.sd (wg rfl rfl (gtn k20)) rfl ?_
        refine WO.sd (wg rfl rfl (gtn k20)) rfl ?_
        refine WO.sd (wg rfl rfl (gtn k20)) rfl ?_
        refine WO.sd (wg rfl rfl (gtn k20)) rfl ?_
        refine WO.q (.pfv (v := .bool _) rfl k20 rfl) rfl rfl ?_
        refine WO.nil ?_
        refine WX.keep [1, 5, 6, 9, 23, 24, 25, 52] (WX.pk [] (by decide) ?_) rfl
        exact gabionlaw17_DirKeeps_j11_ok h hn hx0 hr hE _ _ _ _ ⟨hB, hH, _, _, _, _, h8, h9, h10, h11, rfl, rfl⟩
  · have q_k12 := of_decide_eq_false k12
    replace h := (if_neg q_k12).symm.trans h
    refine WX.condF rfl k12 ?_
    refine WX.exit rfl ?_
    refine WX.keep [5, 6] (WX.pk [] (by decide) ?_) rfl
    obtain rfl := Option.some.inj h
    exact hx0 _ hE _ _ _ _ ⟨hB, hH, _, _, h9, h10, rfl, rfl⟩
theorem gabionlaw17_DirKeeps_l0_ok {B0 : Kn} {L : Own} {n0 : Nat} {x1 : List Bool} {x5 : Nat} {x6 : Nat} {x23 : List Int} {H : Heap} {x25 : Int} {Q : AV → St → Prop} {d : Nat} {e : (Heap × Bool) ⊕ Heap} (h : iter (fun (s : Heap × Int) => gabionlaw17_DirKeeps_l0 x1 x5 x6 x23 s.1 s.2) d (H, x25) = some e) (g0 : ∀ r, e = (.inl r) → ∀ v st, gabionlaw17_DirKeeps_P B0 L r v st → Q v st) (g1 : ∀ s, e = (.inr s) → WXH Tryd.prog 119 n0 (Fin Tryd.prog Tryd.f3.results.toList n0 Q) [.code (ct [1, 1, 1, 1] (bodyOf Tryd.f3))] (gabionlaw17_DirKeeps_l0_X0 B0 s x5 x6) L) : WXH Tryd.prog 119 n0 (Fin Tryd.prog Tryd.f3.results.toList n0 Q) [.code (ct [1, 1, 1, 0, 1, 0, 0] (bodyOf Tryd.f3)), .lp (ct [1, 1, 1, 0, 1, 0, 0] (bodyOf Tryd.f3)), .blk 0, .code (ct [1, 1, 1, 1] (bodyOf Tryd.f3))] (gabionlaw17_DirKeeps_l0_I B0 x1 x5 x6 x23 H x25) L :=
  iter_okH (I := fun s => gabionlaw17_DirKeeps_l0_I B0 x1 x5 x6 x23 s.1 s.2) (D := fun e => (∀ r, e = (.inl r) → ∀ v st, gabionlaw17_DirKeeps_P B0 L r v st → Q v st) ∧ (∀ s, e = (.inr s) → WXH Tryd.prog 119 n0 (Fin Tryd.prog Tryd.f3.results.toList n0 Q) [.code (ct [1, 1, 1, 1] (bodyOf Tryd.f3))] (gabionlaw17_DirKeeps_l0_X0 B0 s x5 x6) L)) (fun E hn hx s o ho hE => gabionlaw17_DirKeeps_l0_s (H := s.1) (x25 := s.2) ho hn (fun s hs => (hx _ hs).2 _ rfl) (fun r hs => (hx _ hs).1 _ rfl) hE) h ⟨g0, g1⟩
theorem gabionlaw17_DirKeeps_l1_s {B0 : Kn} {L : Own} {n0 : Nat} {H : Heap} {x5 : Nat} {x6 : Nat} {x67 : List Int} {x10 : Int} {x69 : Int} {Q : AV → St → Prop} {E : (Int × Int) ⊕ Int → Prop} {o : (Int × Int) ⊕ Int} (h : gabionlaw17_DirKeeps_l1 H x5 x6 x67 x10 x69 = some o) (hn : ∀ s, E (.inl s) → WXH Tryd.prog 119 n0 (Fin Tryd.prog Tryd.f3.results.toList n0 Q) [.lp (ct [1, 1, 1, 1, 1, 0, 1, 0, 0] (bodyOf Tryd.f3)), .blk 2, .code (ct [1, 1, 1, 1, 1, 1] (bodyOf Tryd.f3))] (gabionlaw17_DirKeeps_l1_I B0 H x5 x6 x67 s.1 s.2) L) (hx0 : ∀ s, E (.inr s) → WXH Tryd.prog 119 n0 (Fin Tryd.prog Tryd.f3.results.toList n0 Q) [.code (ct [1, 1, 1, 1, 1, 1] (bodyOf Tryd.f3))] (gabionlaw17_DirKeeps_l1_X0 B0 H x5 x6 s) L) (hE : E o) : WXH Tryd.prog 119 n0 (Fin Tryd.prog Tryd.f3.results.toList n0 Q) [.code (ct [1, 1, 1, 1, 1, 0, 1, 0, 0] (bodyOf Tryd.f3)), .lp (ct [1, 1, 1, 1, 1, 0, 1, 0, 0] (bodyOf Tryd.f3)), .blk 2, .code (ct [1, 1, 1, 1, 1, 1] (bodyOf Tryd.f3))] (gabionlaw17_DirKeeps_l1_I B0 H x5 x6 x67 x10 x69) L := by
  unfold gabionlaw17_DirKeeps_l1 at h
  rintro _ B _ E ⟨hB, hH, v55, v56, v57, b57, n57, c57, h55, h56, h57, rfl, rfl⟩
  obtain ⟨_, _, _, _, _, rfl⟩ := h57.isl
  refine WX.seq ?_
  refine WX.reg ?_
  refine WO.q (.r fun _ => rfl) rfl rfl ?_
  refine WO.nil ?_
  refine WX.seq ?_
  rcases bsp (decide (x69 < (x67.length : Int))) with k58 | k58
  · have q_k58 := of_decide_eq_true k58
    replace h := (if_pos q_k58).symm.trans h
    refine WX.condT rfl k58 ?_
    refine WX.skip ?_
    refine WX.seq ?_
    refine WX.block ?_
    refine WX.seq ?_
    refine WX.reg ?_
    obtain ⟨y59, hy59, h⟩ := Option.bind_eq_some_iff.1 h
    obtain rfl := h57.nonnil hy59
    obtain ⟨_, i_y59, l_y59, r_y59⟩ := h57.at sl32 hy59 .i64
    obtain rfl := r_y59
    refine WO.q (.ia i_y59) rfl rfl ?_
    refine WO.q (.ldS (i := 0) rfl rfl (l_y59.g0 rfl) ti3 rfl) rfl rfl ?_
    refine WO.q (.as (v := .int _ _) rfl) rfl rfl ?_
    refine WO.nil ?_
    refine WX.reg ?_
    refine WO.q (.mv (v := .int _ _) rfl) rfl rfl ?_
    refine WO.q (.mv (v := .int _ _) rfl) rfl rfl ?_
    refine WO.q (.r fun _ => rfl) rfl rfl ?_
    refine WO.q (.as (v := .int _ _) rfl) rfl rfl ?_
    refine WO.nil ?_
    refine WX.pop ?_
    refine WX.reg ?_
    refine WO.q (.r fun _ => rfl) rfl rfl ?_
    refine WO.q (.mv (v := .int _ _) rfl) rfl rfl ?_
    refine WO.nil ?_
    refine WX.keepL [5, 6, 10, 67, 68, 69] (WX.pk [0] (by decide) ?_) rfl
    obtain rfl := Option.some.inj h
    exact hn _ hE _ _ _ _ ⟨hB, hH, _, _, _, _, false, _, h55, h56, h57, rfl, rfl⟩
  · have q_k58 := of_decide_eq_false k58
    replace h := (if_neg q_k58).symm.trans h
    refine WX.condF rfl k58 ?_
    refine WX.exit rfl ?_
    refine WX.keep [5, 6, 10] (WX.pk [] (by decide) ?_) rfl
    obtain rfl := Option.some.inj h
    exact hx0 _ hE _ _ _ _ ⟨hB, hH, _, _, h55, h56, rfl, rfl⟩
theorem gabionlaw17_DirKeeps_l1_ok {B0 : Kn} {L : Own} {n0 : Nat} {H : Heap} {x5 : Nat} {x6 : Nat} {x67 : List Int} {x10 : Int} {x69 : Int} {Q : AV → St → Prop} {d : Nat} {e : Int} (h : iter (fun (s : Int × Int) => gabionlaw17_DirKeeps_l1 H x5 x6 x67 s.1 s.2) d (x10, x69) = some e) (g0 : ∀ s, e = s → WXH Tryd.prog 119 n0 (Fin Tryd.prog Tryd.f3.results.toList n0 Q) [.code (ct [1, 1, 1, 1, 1, 1] (bodyOf Tryd.f3))] (gabionlaw17_DirKeeps_l1_X0 B0 H x5 x6 s) L) : WXH Tryd.prog 119 n0 (Fin Tryd.prog Tryd.f3.results.toList n0 Q) [.code (ct [1, 1, 1, 1, 1, 0, 1, 0, 0] (bodyOf Tryd.f3)), .lp (ct [1, 1, 1, 1, 1, 0, 1, 0, 0] (bodyOf Tryd.f3)), .blk 2, .code (ct [1, 1, 1, 1, 1, 1] (bodyOf Tryd.f3))] (gabionlaw17_DirKeeps_l1_I B0 H x5 x6 x67 x10 x69) L :=
  iter_okH (I := fun s => gabionlaw17_DirKeeps_l1_I B0 H x5 x6 x67 s.1 s.2) (D := fun e => (∀ s, e = s → WXH Tryd.prog 119 n0 (Fin Tryd.prog Tryd.f3.results.toList n0 Q) [.code (ct [1, 1, 1, 1, 1, 1] (bodyOf Tryd.f3))] (gabionlaw17_DirKeeps_l1_X0 B0 H x5 x6 s) L)) (fun E hn hx s o ho hE => gabionlaw17_DirKeeps_l1_s (x10 := s.1) (x69 := s.2) ho hn (fun s hs => (hx _ hs) _ rfl)  hE) h g0
theorem gabionlaw17_DirKeeps_j25_ok {B0 : Kn} {L : Own} {n0 : Nat} {B1 : Kn} {H : Heap} {Eh : Own} {bi bm c0 : Nat} {es : MEnts} {ps : List ((List UInt8) × Int)} {seen : List Nat} {x5 : Nat} {x6 : Nat} {x10 : Int} {x96 : Bool} {Q : AV → St → Prop} {E : Int ⊕ (Int ⊕ (Heap × Bool)) → Prop} {o : Int ⊕ (Int ⊕ (Heap × Bool))} (h : gabionlaw17_DirKeeps_j25 H x5 x6 x10 x96 = some o) (hM : (bm, some (OV.m es c0)) ∈ Eh) (hm : MPs Ty.str (Ty.int .i64) B1 es c0 ps) (hB1 : KLw B0 B1) (hH1 : HR B1 H Eh) (hn : ∀ s, E (.inl s) → WXI Tryd.prog 119 n0 (Fin Tryd.prog Tryd.f3.results.toList n0 Q) [.lp (ct [1, 1, 1, 1, 1, 1, 0, 1, 0, 0] (bodyOf Tryd.f3)), .blk 4, .code (ct [1, 1, 1, 1, 1, 1, 1] (bodyOf Tryd.f3))] (gabionlaw17_DirKeeps_l2_I B1 bi bm c0 seen x5 x6 s) (Eh ++ L)) (hx0 : ∀ s, E (.inr (.inl s)) → WXI Tryd.prog 119 n0 (Fin Tryd.prog Tryd.f3.results.toList n0 Q) [.code (ct [1, 1, 1, 1, 1, 1, 1] (bodyOf Tryd.f3))] (gabionlaw17_DirKeeps_l2_X0 B1 x5 x6 s) (Eh ++ L)) (hr : ∀ r, E (.inr (.inr r)) → ∀ v st, gabionlaw17_DirKeeps_P B0 L r v st → Q v st) (hE : E o) : WXI Tryd.prog 119 n0 (Fin Tryd.prog Tryd.f3.results.toList n0 Q) [.code (ct [1, 1, 1, 1, 1, 1, 0, 1, 0, 0, 1, 1, 0, 1, 1, 1] (bodyOf Tryd.f3)), .blk 5, .lp (ct [1, 1, 1, 1, 1, 1, 0, 1, 0, 0] (bodyOf Tryd.f3)), .blk 4, .code (ct [1, 1, 1, 1, 1, 1, 1] (bodyOf Tryd.f3))] (gabionlaw17_DirKeeps_j25_I B1 bi bm c0 seen x5 x6 x10 x96) (Eh ++ L) := by
  unfold gabionlaw17_DirKeeps_j25 at h
  rintro _ B _ ⟨hC, v72, v73, h72, h73, rfl, rfl⟩
  have hB := hB1.trans hC.w
  have hH := hH1.up hC
  rcases bsp x96 with k74 | k74
  · replace h := (if_pos k74).symm.trans h
    refine WX.condT rfl k74 ?_
    refine WX.seq ?_
    refine WX.reg ?_
    refine WO.q (.as (v := .bool _) rfl) rfl rfl ?_
    refine WO.nil ?_
    obtain rfl := Option.some.inj h
    exact WX.ret (rs_ (rs_tmp rfl rs_nil)) fun st hp => hr _ hE _ _ ⟨_, _, _, hB, (hp.pk [] (by decide)), rfl, rfl, hH⟩
  · replace h := (if_neg (bnt k74)).symm.trans h
    refine WX.condF rfl k74 ?_
    refine WX.skip ?_
    refine WX.pop ?_
    refine WX.keepL [5, 6, 10, 78] (WX.pk [0] (by decide) ?_) rfl
    obtain rfl := Option.some.inj h
    exact hn _ hE _ _ _ ⟨hC, _, _, h72, h73, rfl, rfl⟩
theorem gabionlaw17_DirKeeps_l2_s {B0 : Kn} {L : Own} {n0 : Nat} {B1 : Kn} {H : Heap} {Eh : Own} {bi bm c0 : Nat} {es : MEnts} {ps : List ((List UInt8) × Int)} {seen : List Nat} {x5 : Nat} {x6 : Nat} {x10 : Int} {Q : AV → St → Prop} {T : Nat → Int → Prop} {K : (Int ⊕ (Heap × Bool)) → Prop} (hM : (bm, some (OV.m es c0)) ∈ Eh) (hm : MPs Ty.str (Ty.int .i64) B1 es c0 ps) (hB1 : KLw B0 B1) (hH1 : HR B1 H Eh) (h0 : (∀ e ∈ es, e.2.2 ∈ seen) → ∃ e', gabionlaw17_DirKeeps_l2_e H x5 x6 x10 = some e' ∧ K e') (h1 : ∀ (q : Nat) (e : AV × AV × Nat) (kv : (List UInt8) × Int), es[q]? = some e → ps[q]? = some kv → e.2.2 ∉ seen → ∃ o, gabionlaw17_DirKeeps_l2 H x5 x6 x10 kv = some o ∧ on o (T e.2.2) K) (hn : ∀ t s, T t s → WXI Tryd.prog 119 n0 (Fin Tryd.prog Tryd.f3.results.toList n0 Q) [.lp (ct [1, 1, 1, 1, 1, 1, 0, 1, 0, 0] (bodyOf Tryd.f3)), .blk 4, .code (ct [1, 1, 1, 1, 1, 1, 1] (bodyOf Tryd.f3))] (gabionlaw17_DirKeeps_l2_I B1 bi bm c0 (seen ++ [t]) x5 x6 s) (Eh ++ L)) (hx0 : ∀ s, K ((.inl s)) → WXI Tryd.prog 119 n0 (Fin Tryd.prog Tryd.f3.results.toList n0 Q) [.code (ct [1, 1, 1, 1, 1, 1, 1] (bodyOf Tryd.f3))] (gabionlaw17_DirKeeps_l2_X0 B1 x5 x6 s) (Eh ++ L)) (hr : ∀ r, K ((.inr r)) → ∀ v st, gabionlaw17_DirKeeps_P B0 L r v st → Q v st) : WXI Tryd.prog 119 n0 (Fin Tryd.prog Tryd.f3.results.toList n0 Q) [.code (ct [1, 1, 1, 1, 1, 1, 0, 1, 0, 0] (bodyOf Tryd.f3)), .lp (ct [1, 1, 1, 1, 1, 1, 0, 1, 0, 0] (bodyOf Tryd.f3)), .blk 4, .code (ct [1, 1, 1, 1, 1, 1, 1] (bodyOf Tryd.f3))] (gabionlaw17_DirKeeps_l2_I B1 bi bm c0 seen x5 x6 x10) (Eh ++ L) := by
  rintro _ B _ ⟨hC, v66, v67, h66, h67, rfl, rfl⟩
  have hB := hB1.trans hC.w
  have hH := hH1.up hC
  refine WX.seq ?_
  refine WX.reg ?_
  refine WO.next (inE hM) rfl hm.lb (Nat.le_refl _) rfl rfl (fun hall => ?_) (fun e he hse => ?_)
  · obtain ⟨o, h, hE⟩ := h0 hall
    unfold gabionlaw17_DirKeeps_l2_e at h
    refine WO.q (.r fun _ => rfl) rfl rfl ?_
    refine WO.nil ?_
    refine WX.seq ?_
    refine WX.condF rfl rfl ?_
    refine WX.exit rfl ?_
    refine WX.keep [5, 6, 10] (WX.pk [] (by decide) ?_) rfl
    obtain rfl := Option.some.inj h
    exact hx0 _ hE _ _ _ ⟨hC, _, _, h66, h67, rfl, rfl⟩
  · obtain ⟨q, hq⟩ := List.mem_iff_getElem?.1 he
    obtain ⟨kv, ck, cv, hkv, rk, rv, ek, ev⟩ := hm.rel q e hq
    obtain ⟨o, h, hE⟩ := h1 q e kv hq hkv hse
    unfold gabionlaw17_DirKeeps_l2 at h
    obtain ⟨e1, e2, e3⟩ := e
    dsimp only at ek ev
    obtain rfl := rk
    obtain rfl := rv
    obtain rfl := (List.cons.inj ek).1
    obtain rfl := (List.cons.inj ev).1
    refine WO.q (.r fun _ => rfl) rfl rfl ?_
    refine WO.nil ?_
    refine WX.seq ?_
    refine WX.condT rfl rfl ?_
    refine WX.skip ?_
    refine WX.block ?_
    refine WX.seq ?_
    refine WX.reg ?_
    refine WO.ql (QOp.entry rfl List.mem_cons_self (inE (A := [_]) hM) hm.nb he) rfl rfl ?_
    refine WO.q (.r fun _ => rfl) rfl rfl ?_
    refine WO.q (.r fun _ => rfl) rfl rfl ?_
    refine WO.q (.as (v := .str _) rfl) rfl rfl ?_
    refine WO.q (.as (v := .int _ _) rfl) rfl rfl ?_
    refine WO.nil ?_
    refine WX.seq ?_
    refine WX.reg ?_
    refine WO.q (.mv (v := v66) rfl) rfl rfl ?_
    refine WO.q (.mv (v := .str _) rfl) rfl rfl ?_
    obtain ⟨y70, hy70, h⟩ := Option.bind_eq_some_iff.1 h
    refine WO.cS rfl rfl (rdS (dir_Dir_Get_ok hH h66 hy70)) rfl rfl rfl ?_
    rintro _ rfl
    refine WO.q (.mv (v := .tup _) rfl) rfl rfl ?_
    refine WO.q (.r fun _ => rfl) rfl rfl ?_
    refine WO.q (.r fun _ => rfl) rfl rfl ?_
    refine WO.q (.as (v := .int _ _) rfl) rfl rfl ?_
    refine WO.q (.as (v := .bool _) rfl) rfl rfl ?_
    refine WO.nil ?_
    refine WX.seq ?_
    refine WX.reg ?_
    refine WO.q (.mv (v := .bool _) rfl) rfl rfl ?_
    refine WO.q (.r fun _ => rfl) rfl rfl ?_
    refine WO.q (.mv (v := .bool _) rfl) rfl rfl ?_
    rcases bsp y70.2 with k71 | k71
    · replace h := (if_pos k71).symm.trans h
      refine WO.q (.mv (v := .int _ _) rfl) (wg rfl rfl (gf (f_not k71))) rfl ?_
      refine WO.q (.mv (v := .int _ _) rfl) (wg rfl rfl (gf (f_not k71))) rfl ?_
      refine WO.q (.r fun _ => rfl) (wg rfl rfl (gf (f_not k71))) rfl ?_
      refine WO.q (.pfv (v := .bool _) rfl (f_not k71) rfl) rfl rfl ?_
      refine WO.nil ?_
      refine WX.keep [5, 6, 10, 78, 96] (WX.pk [0] (by decide) ?_) rfl
      exact gabionlaw17_DirKeeps_j25_ok (E := fun o => on o (T e3) K) h hM hm hB1 hH1 (hn _) hx0 hr hE _ _ _ ⟨hC, _, _, h66, h67, rfl, rfl⟩
    · replace h := (if_neg (bnt k71)).symm.trans h
      refine WO.sd (wg rfl rfl (gfn (t_not k71))) rfl ?_
      refine WO.sd (wg rfl rfl (gfn (t_not k71))) rfl ?_
      refine WO.sd (wg rfl rfl (gfn (t_not k71))) rfl ?_
      refine WO.q (.ptv (v := .bool _) rfl (t_not k71) rfl) rfl rfl ?_
      refine WO.nil ?_
      refine WX.keep [5, 6, 10, 78, 96] (WX.pk [0] (by decide) ?_) rfl
      exact gabionlaw17_DirKeeps_j25_ok (E := fun o => on o (T e3) K) h hM hm hB1 hH1 (hn _) hx0 hr hE _ _ _ ⟨hC, _, _, h66, h67, rfl, rfl⟩
theorem gabionlaw17_DirKeeps_l2_ok {B0 : Kn} {L : Own} {n0 : Nat} {B1 : Kn} {H : Heap} {Eh : Own} {bi bm c0 : Nat} {es : MEnts} {ps : List ((List UInt8) × Int)} {seen : List Nat} {x5 : Nat} {x6 : Nat} {x10 : Int} {Q : AV → St → Prop} {K : (Int ⊕ (Heap × Bool)) → Prop} (hM : (bm, some (OV.m es c0)) ∈ Eh) (hm : MPs Ty.str (Ty.int .i64) B1 es c0 ps) (hB1 : KLw B0 B1) (hH1 : HR B1 H Eh) (h : RN (fun (s : Int) (kv : (List UInt8) × Int) => gabionlaw17_DirKeeps_l2 H x5 x6 s kv) (fun (s : Int) => gabionlaw17_DirKeeps_l2_e H x5 x6 s) (Lft es ps seen) x10 K) (g0 : ∀ s, K ((.inl s)) → WXI Tryd.prog 119 n0 (Fin Tryd.prog Tryd.f3.results.toList n0 Q) [.code (ct [1, 1, 1, 1, 1, 1, 1] (bodyOf Tryd.f3))] (gabionlaw17_DirKeeps_l2_X0 B1 x5 x6 s) (Eh ++ L)) (g1 : ∀ r, K ((.inr r)) → ∀ v st, gabionlaw17_DirKeeps_P B0 L r v st → Q v st) : WXI Tryd.prog 119 n0 (Fin Tryd.prog Tryd.f3.results.toList n0 Q) [.code (ct [1, 1, 1, 1, 1, 1, 0, 1, 0, 0] (bodyOf Tryd.f3)), .lp (ct [1, 1, 1, 1, 1, 1, 0, 1, 0, 0] (bodyOf Tryd.f3)), .blk 4, .code (ct [1, 1, 1, 1, 1, 1, 1] (bodyOf Tryd.f3))] (gabionlaw17_DirKeeps_l2_I B1 bi bm c0 seen x5 x6 x10) (Eh ++ L) :=
  rng_ok (I := fun s seen => gabionlaw17_DirKeeps_l2_I B1 bi bm c0 seen x5 x6 s) hm (fun T s seen h0 h1 hn => gabionlaw17_DirKeeps_l2_s (x10 := s) hM hm hB1 hH1 h0 h1 hn g0 g1) h
theorem gabionlaw17_DirKeeps_ok {B0 : Kn} {L : Own} {H : Heap} {E : Own} (hH : HR B0 H E) {a0 : List Int} {a1 : List Bool} {v0_0 : AV} {v1_0 : AV} (g0_0 : RSl (Ty.int .u16) B0 v0_0 a0) (g1_0 : RSl Ty.bool B0 v1_0 a1) {Z : (Heap × Bool) → Prop} (h : gabionlaw17_DirKeeps H a0 a1 Z) : ∀ st, Hp B0 (E ++ L) st → ASpec Tryd.prog 3 [v0_0, v1_0] st (ndP Z (gabionlaw17_DirKeeps_P B0 L)) := by
  unfold gabionlaw17_DirKeeps at h
  refine bodyA (A := []) (L := E ++ L) Tryd.func3 rfl (c := bodyOf Tryd.f3) rfl Tryd.ntmps3 (lb rfl) fun n0 => ?_
  have hB := KLw.refl B0
  obtain ⟨_, _, _, _, _, rfl⟩ := g0_0.isl
  obtain ⟨_, _, _, _, _, rfl⟩ := g1_0.isl
  refine WX.seq ?_
  refine WX.reg ?_
  refine WO.q (.as (v := .bool _) rfl) rfl rfl ?_
  refine WO.nil ?_
  refine WX.seq ?_
  refine WX.reg ?_
  obtain ⟨y1, hy1, h⟩ := h
  refine WO.ch rfl rfl (dir_New_ok hH hy1) rfl rfl rfl ?_
  rintro v2 B _ E hK ⟨_, rfl, rfl, hH, h3⟩
  replace g0_0 := g0_0.upw hK
  replace g1_0 := g1_0.upw hK
  replace hB := hB.trans hK
  refine WO.q (.as (v := v2) rfl) rfl rfl ?_
  refine WO.nil ?_
  refine WX.seq ?_
  refine WX.reg ?_
  obtain ⟨H6, e_H6, h⟩ := h
  obtain rfl := Option.some.inj e_H6
  refine WO.ed (MOpE.mk (t := 26) (foc26 hH)) rfl rfl ?_
  rintro v4 B _ E ⟨hK, rfl, h5, hH⟩
  replace hH := (hH : HR _ _ _)
  replace g0_0 := g0_0.upw hK
  replace g1_0 := g1_0.upw hK
  replace h3 := h3.upw hK
  replace hB := hB.trans hK
  refine WO.q (.as (v := v4) rfl) rfl rfl ?_
  refine WO.nil ?_
  refine WX.seq ?_
  refine WX.seq ?_
  refine WX.reg ?_
  refine WO.q (.mv (v := .sl _ _ _ _ _ _) rfl) rfl rfl ?_
  refine WO.q (.mv (v := .sl _ _ _ _ _ _) rfl) rfl rfl ?_
  refine WO.q (.len rfl rfl rfl (sl22.len g0_0.isl)) rfl rfl ?_
  refine WO.q (.r fun _ => rfl) rfl rfl ?_
  obtain ⟨y7, hy7, h⟩ := h
  obtain ⟨v_y7, e_y7, g_y7⟩ := g0_0.cut sl22 hy7 (lo := none) (hi := some (.int .i64 (mn (a0.length : Int) 120))) bnd_none (bnd_int (Int.le_trans (cutL_some hy7).1.1 (cutL_some hy7).1.2.1))
  obtain ⟨_, _, _, _, _, rfl⟩ := g_y7.isl
  refine WO.q (.sl e_y7) rfl rfl ?_
  refine WO.q (.len rfl rfl rfl (sl22.len g_y7.isl)) rfl rfl ?_
  refine WO.q (.mv (v := .int _ _) rfl) rfl rfl ?_
  refine WO.nil ?_
  refine WX.block ?_
  refine WX.loop ?_
  obtain ⟨e43, he43, h⟩ := h
  refine WX.keep [1, 5, 6, 23, 24, 25] (WX.pk [] (by decide) ?_) rfl
  refine gabionlaw17_DirKeeps_l0_ok he43 ?_ ?_ _ _ _ _ ⟨hB, hH, _, _, _, _, g1_0, h3, h5, g_y7, rfl, rfl⟩
  · intro r45 he_
    subst he_
    replace h := (on_lN h)
    exact fun v st hp => ⟨_, h, hp⟩
  · intro x46 he_
    subst he_
    replace h := (on_rN h)
    rintro _ B _ E ⟨hB, hH, v47, v48, h47, h48, rfl, rfl⟩
    refine WX.seq ?_
    refine WX.reg ?_
    refine WO.q (.as (v := .int _ _) rfl) rfl rfl ?_
    refine WO.nil ?_
    refine WX.seq ?_
    refine WX.seq ?_
    refine WX.reg ?_
    refine WO.q (.mv (v := v47) rfl) rfl rfl ?_
    obtain ⟨y49, hy49, h⟩ := h
    refine WO.c1 rfl rfl (rd1 (dir_Dir_Buckets_ok hH h47 hy49)) rfl rfl rfl ?_
    rintro _ B _ hK ⟨v50, b51, n52, c53, rfl, rfl, h54⟩
    obtain ⟨_, _, _, _, _, rfl⟩ := h54.isl
    replace h47 := h47.up hK
    replace h48 := h48.up hK
    replace hH := hH.up hK
    replace hB := hB.trans hK.w
    refine WO.q (.len rfl rfl rfl (sl32.len h54.isl)) rfl rfl ?_
    refine WO.q (.mv (v := .int _ _) rfl) rfl rfl ?_
    refine WO.nil ?_
    refine WX.block ?_
    refine WX.loop ?_
    obtain ⟨e62, he62, h⟩ := h
    refine WX.keep [5, 6, 10, 67, 68, 69] (WX.pk [0] (by decide) ?_) rfl
    refine gabionlaw17_DirKeeps_l1_ok he62 ?_ _ _ _ _ ⟨hB, hH, _, _, _, _, n52, _, h47, h48, h54, rfl, rfl⟩
    · intro s95 he_
      subst he_
      replace h := h
      rintro _ B _ E ⟨hB, hH, v63, v64, h63, h64, rfl, rfl⟩
      refine WX.seq ?_
      refine WX.seq ?_
      refine WX.reg ?_
      refine WO.q (.mv (v := v64) rfl) rfl rfl ?_
      obtain ⟨y65, hy65, h⟩ := h
      obtain ⟨bm_y65, es_y65, c_y65, ps_y65, e_y65, m_y65, r_y65, q_y65⟩ := hgetR (foc26 hH) h64 hy65
      subst e_y65
      refine WO.md (MOp.range mt26 (inE m_y65) rfl) rfl rfl ?_
      rintro _ _ ⟨bi_y65, rfl, rfl⟩
      refine WO.nil ?_
      refine WX.block ?_
      refine WX.loop ?_
      refine WX.keep [5, 6, 10, 78] (WX.pk [0] (by decide) ?_) rfl
      have hC := KLe.refl B
      refine gabionlaw17_DirKeeps_l2_ok m_y65 r_y65 hB hH (h.perm (by rw [Lft.zero r_y65.len]; exact q_y65)) ?_ ?_ _ _ _ ⟨hC, _, _, h63, h64, rfl, rfl⟩
      · intro x76 h
        replace h := (on_lN h)
        rintro _ B _ ⟨hC, v77, v78, h77, h78, rfl, rfl⟩
        replace hB := hB.trans hC.w
        replace hH := hH.up hC
        refine WX.seq ?_
        refine WX.reg ?_
        obtain ⟨y79, hy79, h⟩ := h
        refine WO.ch rfl rfl (gabionlaw17_wakes_ok hH hy79) rfl rfl rfl ?_
        rintro _ B _ E hK ⟨rfl, rfl, hH⟩
        replace h77 := h77.upw hK
        replace h78 := h78.upw hK
        replace hB := hB.trans hK
        refine WO.q (.mv (v := .bool _) rfl) rfl rfl ?_
        rcases bsp y79.2 with k80 | k80
        · replace h := (if_pos k80).mp h
          refine WO.q (.mv (v := v77) rfl) (wg rfl rfl (gt k80)) rfl ?_
          obtain ⟨y81, hy81, h⟩ := h
          refine WO.cS rfl rfl (rdS (dir_Dir_Len_ok hH h77 hy81)) rfl (wg rfl rfl (gt k80)) rfl ?_
          rintro _ rfl
          refine WO.q (.mv (v := v78) rfl) (wg rfl rfl (gt k80)) rfl ?_
          obtain ⟨y82, hy82, h⟩ := h
          refine WO.md (MOp.lenM rfl rfl rfl mt26 (foc26 hH) h78 hy82 rfl) (wg rfl rfl (gt k80)) rfl ?_
          rintro _ _ ⟨rfl, rfl⟩
          refine WO.q (.r fun _ => rfl) (wg rfl rfl (gt k80)) rfl ?_
          refine WO.q (.ptv (v := .bool _) rfl k80 rfl) rfl rfl ?_
          refine WO.q (.mv (v := .bool _) rfl) rfl rfl ?_
          rcases bsp (decide (y81 = (y82.length : Int))) with k83 | k83
          · have q_k83 := of_decide_eq_true k83
            replace h := (if_pos q_k83).mp h
            refine WO.q (.mv (v := .int _ _) rfl) (wg rfl rfl (gt k83)) rfl ?_
            refine WO.q (.mv (v := v78) rfl) (wg rfl rfl (gt k83)) rfl ?_
            obtain ⟨y84, hy84, h⟩ := h
            refine WO.md (MOp.lenM rfl rfl rfl mt26 (foc26 hH) h78 hy84 rfl) (wg rfl rfl (gt k83)) rfl ?_
            rintro _ _ ⟨rfl, rfl⟩
            refine WO.q (.r fun _ => rfl) (wg rfl rfl (gt k83)) rfl ?_
            refine WO.q (.ptv (v := .bool _) rfl k83 rfl) rfl rfl ?_
            refine WO.q (.mv (v := .bool _) rfl) rfl rfl ?_
            rcases bsp (decide (x76 = (y84.length : Int))) with k85 | k85
            · have q_k85 := of_decide_eq_true k85
              replace h := (if_pos q_k85).mp h
              refine WO.q (.mv (v := v77) rfl) (wg rfl rfl (gt k85)) rfl ?_
              obtain ⟨y86, hy86, h⟩ := h
              refine WO.c1 rfl rfl (rd1 (dir_Dir_List_ok hH h77 hy86)) rfl (wg rfl rfl (gt k85)) rfl ?_
              rintro _ B _ hK ⟨v87, b88, n89, c90, rfl, rfl, h91⟩
              obtain ⟨_, _, _, _, _, rfl⟩ := h91.isl
              replace h77 := h77.up hK
              replace h78 := h78.up hK
              replace hH := hH.up hK
              replace hB := hB.trans hK.w
              refine WO.q (.len rfl rfl rfl (sl38.len h91.isl)) (wg rfl rfl (gt k85)) rfl ?_
              refine WO.q (.mv (v := v78) rfl) (wg rfl rfl (gt k85)) rfl ?_
              obtain ⟨y92, hy92, h⟩ := h
              refine WO.md (MOp.lenM rfl rfl rfl mt26 (foc26 hH) h78 hy92 rfl) (wg rfl rfl (gt k85)) rfl ?_
              rintro _ _ ⟨rfl, rfl⟩
              refine WO.q (.r fun _ => rfl) (wg rfl rfl (gt k85)) rfl ?_
              refine WO.q (.ptv (v := .bool _) rfl k85 rfl) rfl rfl ?_
              refine WO.q (.as (v := .bool _) rfl) rfl rfl ?_
              refine WO.nil ?_
              exact WX.ret (rs_ (rs_tmp rfl rs_nil)) fun st hp => ⟨_, h, ⟨_, _, _, hB, (hp.pk [] (by decide)), rfl, rfl, hH⟩⟩
            · have q_k85 := of_decide_eq_false k85
              replace h := (if_neg q_k85).mp h
              refine WO.sd (wg rfl rfl (gtn k85)) rfl ?_
              refine WO.sd (wg rfl rfl (gtn k85)) rfl ?_
              refine WO.sd (wg rfl rfl (gtn k85)) rfl ?_
              refine WO.sd (wg rfl rfl (gtn k85)) rfl ?_
              refine WO.sd (wg rfl rfl (gtn k85)) rfl ?_
              refine WO.sd (wg rfl rfl (gtn k85)) rfl ?_
              refine WO.q (.pfv (v := .bool _) rfl k85 rfl) rfl rfl ?_
              refine WO.q (.as (v := .bool _) rfl) rfl rfl ?_
              refine WO.nil ?_
              exact WX.ret (rs_ (rs_tmp rfl rs_nil)) fun st hp => ⟨_, h, ⟨_, _, _, hB, (hp.pk [] (by decide)), rfl, rfl, hH⟩⟩
          · have q_k83 := of_decide_eq_false k83
            replace h := (if_neg q_k83).mp h
            refine WO.sd (wg rfl rfl (gtn k83)) rfl ?_
            refine WO.sd (wg rfl rfl (gtn k83)) rfl ?_
            refine WO.sd (wg rfl rfl (gtn k83)) rfl ?_
            refine WO.sd (wg rfl rfl (gtn k83)) rfl ?_
            refine WO.q (.pfv (v := .bool _) rfl k83 rfl) rfl rfl ?_
            refine WO.q (.mv (v := .bool _) rfl) rfl rfl ?_
            refine WO.sd (wg rfl rfl (gtn rfl)) rfl ?_
            refine WO.sd (wg rfl rfl (gtn rfl)) rfl ?_
            refine WO.sd (wg rfl rfl (gtn rfl)) rfl ?_
            refine WO.sd (wg rfl rfl (gtn rfl)) rfl ?_
            refine WO.sd (wg rfl rfl (gtn rfl)) rfl ?_
            refine WO.sd (wg rfl rfl (gtn rfl)) rfl ?_
            refine WO.q (.pfv (v := .bool _) rfl rfl rfl) rfl rfl ?_
            refine WO.q (.as (v := .bool _) rfl) rfl rfl ?_
            refine WO.nil ?_
            exact WX.ret (rs_ (rs_tmp rfl rs_nil)) fun st hp => ⟨_, h, ⟨_, _, _, hB, (hp.pk [] (by decide)), rfl, rfl, hH⟩⟩
        · replace h := (if_neg (bnt k80)).mp h
          refine WO.sd (wg rfl rfl (gtn k80)) rfl ?_
          refine WO.sd (wg rfl rfl (gtn k80)) rfl ?_
          refine WO.sd (wg rfl rfl (gtn k80)) rfl ?_
          refine WO.sd (wg rfl rfl (gtn k80)) rfl ?_
          refine WO.sd (wg rfl rfl (gtn k80)) rfl ?_
          refine WO.q (.pfv (v := .bool _) rfl k80 rfl) rfl rfl ?_
          refine WO.q (.mv (v := .bool _) rfl) rfl rfl ?_
          refine WO.sd (wg rfl rfl (gtn rfl)) rfl ?_
          refine WO.sd (wg rfl rfl (gtn rfl)) rfl ?_
          refine WO.sd (wg rfl rfl (gtn rfl)) rfl ?_
          refine WO.sd (wg rfl rfl (gtn rfl)) rfl ?_
          refine WO.q (.pfv (v := .bool _) rfl rfl rfl) rfl rfl ?_
          refine WO.q (.mv (v := .bool _) rfl) rfl rfl ?_
          refine WO.sd (wg rfl rfl (gtn rfl)) rfl ?_
          refine WO.sd (wg rfl rfl (gtn rfl)) rfl ?_
          refine WO.sd (wg rfl rfl (gtn rfl)) rfl ?_
          refine WO.sd (wg rfl rfl (gtn rfl)) rfl ?_
          refine WO.sd (wg rfl rfl (gtn rfl)) rfl ?_
          refine WO.sd (wg rfl rfl (gtn rfl)) rfl ?_
          refine WO.q (.pfv (v := .bool _) rfl rfl rfl) rfl rfl ?_
          refine WO.q (.as (v := .bool _) rfl) rfl rfl ?_
          refine WO.nil ?_
          exact WX.ret (rs_ (rs_tmp rfl rs_nil)) fun st hp => ⟨_, h, ⟨_, _, _, hB, (hp.pk [] (by decide)), rfl, rfl, hH⟩⟩
      · intro r94 h
        replace h := (on_rN h)
        exact fun v st hp => ⟨_, h, hp⟩
end Gab
