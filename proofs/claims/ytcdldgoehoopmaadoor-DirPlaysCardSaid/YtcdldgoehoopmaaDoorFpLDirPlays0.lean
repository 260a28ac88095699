/- The Go code comes to what the Lean functions say. Written by a program (gp.py). -/
import Derived.Test.YtcdldgoehoopmaaDoorFd
import Derived.Test.YtcdldgoehoopmaaDoorTy
import Derived.Test.YtcdldgoehoopmaaDoorFpDir0
import Derived.Test.YtcdldgoehoopmaaDoorFpLaw170
import Derived.Test.YtcdldgoehoopmaaDoorFpRef170
set_option linter.unusedSimpArgs false
set_option linter.unusedVariables false
set_option maxHeartbeats 4000000
set_option maxRecDepth 100000
namespace Gab
open Go Go.Proofs
def gabionlaw17_DirPlays_P (B : Kn) (L : Own) (r : Heap × Bool) : AV → St → Prop := CH B L fun B' X E' v => v = .bool r.2 ∧ X = [] ∧ HR B' r.1 E'
def gabionlaw17_DirPlays_j18_I (B0 : Kn) (H : Heap) (x3 : Nat) (x32 : List (Int × Int × (List UInt8))) (x34 : Int) (x143 : Bool) (zb4 : (List ((List UInt8) × Int)) × Int) : Fr → Kn → Own → Own → Prop := fun fr B A E => KLw B0 B ∧ HR B H E ∧ ∃ b44 v45 v46 v47, RSl EPStIi64Q B v45 zb4.1 ∧ HPt B 66 v46 x3 ∧ RSl EPIi64Ii64StQ B v47 x32 ∧ fr = [(3, v46), (4, .ptr b44 0), (32, v47), (33, .int .i64 (x32.length : Int)), (34, .int .i64 x34), (143, .bool x143)] ∧ A = [(b44, some (.c [v45, .int .i64 zb4.2]))]
def gabionlaw17_DirPlays_j17_I (B0 : Kn) (H : Heap) (x3 : Nat) (x10 : Bool) (x32 : List (Int × Int × (List UInt8))) (x34 : Int) (zb4 : (List ((List UInt8) × Int)) × Int) : Fr → Kn → Own → Own → Prop := fun fr B A E => KLw B0 B ∧ HR B H E ∧ ∃ b38 v39 v40 v41, RSl EPStIi64Q B v39 zb4.1 ∧ HPt B 66 v40 x3 ∧ RSl EPIi64Ii64StQ B v41 x32 ∧ fr = [(3, v40), (4, .ptr b38 0), (10, .bool x10), (32, v41), (33, .int .i64 (x32.length : Int)), (34, .int .i64 x34)] ∧ A = [(b38, some (.c [v39, .int .i64 zb4.2]))]
def gabionlaw17_DirPlays_j14_I (B0 : Kn) (H : Heap) (x3 : Nat) (x7 : List UInt8) (x8 : Nat) (x10 : Bool) (x32 : List (Int × Int × (List UInt8))) (x34 : Int) (x50 : Int) (x51 : Bool) (zb4 : (List ((List UInt8) × Int)) × Int) (zb6 : Int × Int × (List UInt8)) (zb9 : (List ((List UInt8) × Int)) × Int) : Fr → Kn → Own → Own → Prop := fun fr B A E => KLw B0 B ∧ HR B H E ∧ ∃ b24 v25 b26 b27 v28 v29 v30 v31, RSl EPStIi64Q B v25 zb4.1 ∧ RSl EPStIi64Q B v28 zb9.1 ∧ HPt B 66 v29 x3 ∧ HPt B 66 v30 x8 ∧ RSl EPIi64Ii64StQ B v31 x32 ∧ fr = [(3, v29), (4, .ptr b24 0), (6, .ptr b26 0), (7, .str x7), (8, v30), (9, .ptr b27 0), (10, .bool x10), (32, v31), (33, .int .i64 (x32.length : Int)), (34, .int .i64 x34), (50, .int .i64 x50), (51, .bool x51)] ∧ A = [(b24, some (.c [v25, .int .i64 zb4.2])), (b26, some (.c [.int .i64 zb6.1, .int .i64 zb6.2.1, .str zb6.2.2])), (b27, some (.c [v28, .int .i64 zb9.2]))]
def gabionlaw17_DirPlays_l0_I (B0 : Kn) (x32 : List (Int × Int × (List UInt8))) (H : Heap) (x3 : Nat) (x34 : Int) (zb4 : (List ((List UInt8) × Int)) × Int) : Fr → Kn → Own → Own → Prop := fun fr B A E => KLw B0 B ∧ HR B H E ∧ ∃ b14 v15 v16 v17, RSl EPStIi64Q B v15 zb4.1 ∧ HPt B 66 v16 x3 ∧ RSl EPIi64Ii64StQ B v17 x32 ∧ fr = [(3, v16), (4, .ptr b14 0), (32, v17), (33, .int .i64 (x32.length : Int)), (34, .int .i64 x34)] ∧ A = [(b14, some (.c [v15, .int .i64 zb4.2]))]
def gabionlaw17_DirPlays_l0_X0 (B0 : Kn) (H : Heap) : Fr → Kn → Own → Own → Prop := fun fr B A E => KLw B0 B ∧ HR B H E ∧ fr = [] ∧ A = []
def gabionlaw17_DirPlays_j3_I (B0 : Kn) (H : Heap) (x0 : List (Int × Int × (List UInt8))) (x3 : Nat) (x27 : Bool) (zb4 : (List ((List UInt8) × Int)) × Int) : Fr → Kn → Own → Own → Prop := fun fr B A E => KLw B0 B ∧ HR B H E ∧ ∃ b7 v8 b8 n8 c8 v9 v10, OSl EPStIi64Q B v8 b8 n8 c8 zb4.1 ∧ RSl EPIi64Ii64StQ B v9 x0 ∧ HPt B 66 v10 x3 ∧ fr = [(0, v9), (3, v10), (4, .ptr b7 0), (27, .bool x27)] ∧ A = [(b7, some (.c [v8, .int .i64 zb4.2])), oe b8 n8 c8]
theorem gabionlaw17_DirPlays_j18_ok {B0 : Kn} {L : Own} {n0 : Nat} {H : Heap} {x3 : Nat} {x32 : List (Int × Int × (List UInt8))} {x34 : Int} {x143 : Bool} {zb4 : (List ((List UInt8) × Int)) × Int} {Q : AV → St → Prop} {E : (Heap × Nat × Int × ((List ((List UInt8) × Int)) × Int)) ⊕ ((Heap × Bool) ⊕ Heap) → Prop} {o : (Heap × Nat × Int × ((List ((List UInt8) × Int)) × Int)) ⊕ ((Heap × Bool) ⊕ Heap)} (h : gabionlaw17_DirPlays_j18 H x3 x32 x34 x143 zb4 = some o) (hn : ∀ s, E (.inl s) → WXH Tryd.prog 145 n0 (Fin Tryd.prog Tryd.f5.results.toList n0 Q) [.lp (ct [1, 1, 1, 1, 0, 1, 0, 0] (bodyOf Tryd.f5)), .blk 0, .code (ct [1, 1, 1, 1, 1] (bodyOf Tryd.f5))] (gabionlaw17_DirPlays_l0_I B0 x32 s.1 s.2.1 s.2.2.1 s.2.2.2) L) (hx0 : ∀ s, E (.inr (.inr s)) → WXH Tryd.prog 145 n0 (Fin Tryd.prog Tryd.f5.results.toList n0 Q) [.code (ct [1, 1, 1, 1, 1] (bodyOf Tryd.f5))] (gabionlaw17_DirPlays_l0_X0 B0 s) L) (hr : ∀ r, E (.inr (.inl r)) → ∀ v st, gabionlaw17_DirPlays_P B0 L r v st → Q v st) (hE : E o) : WXH Tryd.prog 145 n0 (Fin Tryd.prog Tryd.f5.results.toList n0 Q) [.code (ct [1, 1, 1, 1, 0, 1, 0, 0, 1, 1, 0, 0, 1, 1, 1, 1, 1, 1] (bodyOf Tryd.f5)), .blk 1, .code (ct [1, 1, 1, 1, 0, 1, 0, 0, 1, 1, 1] (bodyOf Tryd.f5)), .lp (ct [1, 1, 1, 1, 0, 1, 0, 0] (bodyOf Tryd.f5)), .blk 0, .code (ct [1, 1, 1, 1, 1] (bodyOf Tryd.f5))] (gabionlaw17_DirPlays_j18_I B0 H x3 x32 x34 x143 zb4) L := by
  unfold gabionlaw17_DirPlays_j18 at h
  rintro _ B _ E ⟨hB, hH, b44, v45, v46, v47, h45, h46, h47, rfl, rfl⟩
  obtain ⟨_, _, _, _, _, rfl⟩ := h45.isl
  obtain ⟨_, _, _, _, _, rfl⟩ := h47.isl
  rcases bsp x143 with k48 | k48
  · replace h := (if_pos k48).symm.trans h
    refine WX.condT rfl k48 ?_
    refine WX.seq ?_
    refine WX.reg ?_
    refine WO.q (.as (v := .bool _) rfl) rfl rfl ?_
    refine WO.nil ?_
    obtain rfl := Option.some.inj h
    exact WX.ret (rs_ (rs_tmp rfl rs_nil)) fun st hp => hr _ hE _ _ ⟨_, _, _, hB, (hp.pk [] (by decide)), rfl, rfl, hH⟩
  · replace h := (if_neg (bnt k48)).symm.trans h
    refine WX.condF rfl k48 ?_
    refine WX.skip ?_
    refine WX.pop ?_
    refine WX.reg ?_
    refine WO.q (.r fun _ => rfl) rfl rfl ?_
    refine WO.q (.mv (v := .int _ _) rfl) rfl rfl ?_
    refine WO.nil ?_
    refine WX.keepL [3, 4, 32, 33, 34] (WX.pk [0] (by decide) ?_) rfl
    obtain rfl := Option.some.inj h
    exact hn _ hE _ _ _ _ ⟨hB, hH, _, _, _, _, h45, h46, h47, rfl, rfl⟩
theorem gabionlaw17_DirPlays_j17_ok {B0 : Kn} {L : Own} {n0 : Nat} {H : Heap} {x3 : Nat} {x10 : Bool} {x32 : List (Int × Int × (List UInt8))} {x34 : Int} {zb4 : (List ((List UInt8) × Int)) × Int} {Q : AV → St → Prop} {E : (Heap × Nat × Int × ((List ((List UInt8) × Int)) × Int)) ⊕ ((Heap × Bool) ⊕ Heap) → Prop} {o : (Heap × Nat × Int × ((List ((List UInt8) × Int)) × Int)) ⊕ ((Heap × Bool) ⊕ Heap)} (h : gabionlaw17_DirPlays_j17 H x3 x10 x32 x34 zb4 = some o) (hn : ∀ s, E (.inl s) → WXH Tryd.prog 145 n0 (Fin Tryd.prog Tryd.f5.results.toList n0 Q) [.lp (ct [1, 1, 1, 1, 0, 1, 0, 0] (bodyOf Tryd.f5)), .blk 0, .code (ct [1, 1, 1, 1, 1] (bodyOf Tryd.f5))] (gabionlaw17_DirPlays_l0_I B0 x32 s.1 s.2.1 s.2.2.1 s.2.2.2) L) (hx0 : ∀ s, E (.inr (.inr s)) → WXH Tryd.prog 145 n0 (Fin Tryd.prog Tryd.f5.results.toList n0 Q) [.code (ct [1, 1, 1, 1, 1] (bodyOf Tryd.f5))] (gabionlaw17_DirPlays_l0_X0 B0 s) L) (hr : ∀ r, E (.inr (.inl r)) → ∀ v st, gabionlaw17_DirPlays_P B0 L r v st → Q v st) (hE : E o) : WXH Tryd.prog 145 n0 (Fin Tryd.prog Tryd.f5.results.toList n0 Q) [.code (ct [1, 1, 1, 1, 0, 1, 0, 0, 1, 1, 0, 0, 1, 1, 1, 1, 1] (bodyOf Tryd.f5)), .blk 1, .code (ct [1, 1, 1, 1, 0, 1, 0, 0, 1, 1, 1] (bodyOf Tryd.f5)), .lp (ct [1, 1, 1, 1, 0, 1, 0, 0] (bodyOf Tryd.f5)), .blk 0, .code (ct [1, 1, 1, 1, 1] (bodyOf Tryd.f5))] (gabionlaw17_DirPlays_j17_I B0 H x3 x10 x32 x34 zb4) L := by
  unfold gabionlaw17_DirPlays_j17 at h
  rintro _ B _ E ⟨hB, hH, b38, v39, v40, v41, h39, h40, h41, rfl, rfl⟩
  obtain ⟨_, _, _, _, _, rfl⟩ := h39.isl
  obtain ⟨_, _, _, _, _, rfl⟩ := h41.isl
  refine WX.seq ?_
  refine WX.reg ?_
  refine WO.q (.mv (v := .bool _) rfl) rfl rfl ?_
  refine WO.q (.r fun _ => rfl) rfl rfl ?_
  refine WO.q (.mv (v := .bool _) rfl) rfl rfl ?_
  rcases bsp x10 with k42 | k42
  · replace h := (if_pos k42).symm.trans h
    refine WO.q (.mv (v := v40) rfl) (wg rfl rfl (gf (f_not k42))) rfl ?_
    refine WO.q (.ldA (i := 0) rfl rfl rfl ti47 rfl) (wg rfl rfl (gf (f_not k42))) rfl ?_
    obtain ⟨y43, hy43, h⟩ := Option.bind_eq_some_iff.1 h
    refine WO.ch rfl rfl (gabionlaw17_same_ok hH h40 h39 hy43) rfl (wg rfl rfl (gf (f_not k42))) rfl ?_
    rintro _ B _ E hK ⟨rfl, rfl, hH⟩
    replace h40 := h40.upw hK
    replace h41 := h41.upw hK
    replace h39 := h39.upw hK
    replace hB := hB.trans hK
    refine WO.q (.r fun _ => rfl) (wg rfl rfl (gf (f_not k42))) rfl ?_
    refine WO.q (.pfv (v := .bool _) rfl (f_not k42) rfl) rfl rfl ?_
    refine WO.nil ?_
    refine WX.keep [3, 4, 32, 33, 34, 143] (WX.pk [0] (by decide) ?_) rfl
    exact gabionlaw17_DirPlays_j18_ok h hn hx0 hr hE _ _ _ _ ⟨hB, hH, _, _, _, _, h39, h40, h41, rfl, rfl⟩
  · replace h := (if_neg (bnt k42)).symm.trans h
    refine WO.sd (wg rfl rfl (gfn (t_not k42))) rfl ?_
    refine WO.sd (wg rfl rfl (gfn (t_not k42))) rfl ?_
    refine WO.sd (wg rfl rfl (gfn (t_not k42))) rfl ?_
    refine WO.sd (wg rfl rfl (gfn (t_not k42))) rfl ?_
    refine WO.q (.ptv (v := .bool _) rfl (t_not k42) rfl) rfl rfl ?_
    refine WO.nil ?_
    refine WX.keep [3, 4, 32, 33, 34, 143] (WX.pk [0] (by decide) ?_) rfl
    exact gabionlaw17_DirPlays_j18_ok h hn hx0 hr hE _ _ _ _ ⟨hB, hH, _, _, _, _, h39, h40, h41, rfl, rfl⟩
theorem gabionlaw17_DirPlays_j14_ok {B0 : Kn} {L : Own} {n0 : Nat} {H : Heap} {x3 : Nat} {x7 : List UInt8} {x8 : Nat} {x10 : Bool} {x32 : List (Int × Int × (List UInt8))} {x34 : Int} {x50 : Int} {x51 : Bool} {zb4 : (List ((List UInt8) × Int)) × Int} {zb6 : Int × Int × (List UInt8)} {zb9 : (List ((List UInt8) × Int)) × Int} {Q : AV → St → Prop} {E : (Heap × Nat × Int × ((List ((List UInt8) × Int)) × Int)) ⊕ ((Heap × Bool) ⊕ Heap) → Prop} {o : (Heap × Nat × Int × ((List ((List UInt8) × Int)) × Int)) ⊕ ((Heap × Bool) ⊕ Heap)} (h : gabionlaw17_DirPlays_j14 H x3 x7 x8 x10 x32 x34 x50 x51 zb4 zb6 zb9 = some o) (hn : ∀ s, E (.inl s) → WXH Tryd.prog 145 n0 (Fin Tryd.prog Tryd.f5.results.toList n0 Q) [.lp (ct [1, 1, 1, 1, 0, 1, 0, 0] (bodyOf Tryd.f5)), .blk 0, .code (ct [1, 1, 1, 1, 1] (bodyOf Tryd.f5))] (gabionlaw17_DirPlays_l0_I B0 x32 s.1 s.2.1 s.2.2.1 s.2.2.2) L) (hx0 : ∀ s, E (.inr (.inr s)) → WXH Tryd.prog 145 n0 (Fin Tryd.prog Tryd.f5.results.toList n0 Q) [.code (ct [1, 1, 1, 1, 1] (bodyOf Tryd.f5))] (gabionlaw17_DirPlays_l0_X0 B0 s) L) (hr : ∀ r, E (.inr (.inl r)) → ∀ v st, gabionlaw17_DirPlays_P B0 L r v st → Q v st) (hE : E o) : WXH Tryd.prog 145 n0 (Fin Tryd.prog Tryd.f5.results.toList n0 Q) [.code (ct [1, 1, 1, 1, 0, 1, 0, 0, 1, 1, 0, 0, 1, 1, 1, 1, 0, 1, 0, 1] (bodyOf Tryd.f5)), .blk 2, .code (ct [1, 1, 1, 1, 0, 1, 0, 0, 1, 1, 0, 0, 1, 1, 1, 1, 1] (bodyOf Tryd.f5)), .blk 1, .code (ct [1, 1, 1, 1, 0, 1, 0, 0, 1, 1, 1] (bodyOf Tryd.f5)), .lp (ct [1, 1, 1, 1, 0, 1, 0, 0] (bodyOf Tryd.f5)), .blk 0, .code (ct [1, 1, 1, 1, 1] (bodyOf Tryd.f5))] (gabionlaw17_DirPlays_j14_I B0 H x3 x7 x8 x10 x32 x34 x50 x51 zb4 zb6 zb9) L := by
  unfold gabionlaw17_DirPlays_j14 at h
  rintro _ B _ E ⟨hB, hH, b24, v25, b26, b27, v28, v29, v30, v31, h25, h28, h29, h30, h31, rfl, rfl⟩
  obtain ⟨_, _, _, _, _, rfl⟩ := h25.isl
  obtain ⟨_, _, _, _, _, rfl⟩ := h28.isl
  obtain ⟨_, _, _, _, _, rfl⟩ := h31.isl
  rcases bsp x51 with k32 | k32
  · replace h := (if_pos k32).symm.trans h
    refine WX.condT rfl k32 ?_
    refine WX.seq ?_
    refine WX.reg ?_
    refine WO.q (.mv (v := v29) rfl) rfl rfl ?_
    refine WO.q (.mv (v := .str _) rfl) rfl rfl ?_
    refine WO.q (.fa (fa49_1 _ _)) rfl rfl ?_
    refine WO.q (.ldS (i := 1) rfl rfl rfl ti3 rfl) rfl rfl ?_
    obtain ⟨y33, hy33, h⟩ := Option.bind_eq_some_iff.1 h
    refine WO.ch rfl rfl (dir_Dir_Put_ok hH h29 hy33) rfl rfl rfl ?_
    rintro _ B _ E hK ⟨rfl, rfl, hH⟩
    replace h29 := h29.upw hK
    replace h30 := h30.upw hK
    replace h31 := h31.upw hK
    replace h25 := h25.upw hK
    replace h28 := h28.upw hK
    replace hB := hB.trans hK
    refine WO.q (.as (v := .int _ _) rfl) rfl rfl ?_
    refine WO.nil ?_
    refine WX.seq ?_
    refine WX.reg ?_
    refine WO.q (.ldA (i := 0) rfl rfl rfl ti47 rfl) rfl rfl ?_
    refine WO.q (.mv (v := .str _) rfl) rfl rfl ?_
    refine WO.q (.fa (fa49_1 _ _)) rfl rfl ?_
    refine WO.q (.ldS (i := 1) rfl rfl rfl ti3 rfl) rfl rfl ?_
    obtain ⟨y34, hy34, h⟩ := Option.bind_eq_some_iff.1 h
    refine WO.c0 rfl rfl (gabionref17_Put_ok h25 hy34) rfl rfl rfl ?_
    rintro _ B hK ⟨v35, rfl, h36⟩
    obtain ⟨_, _, _, _, _, rfl⟩ := h36.isl
    replace h29 := h29.up hK
    replace h31 := h31.up hK
    replace h25 := h25.up hK
    replace h28 := h28.up hK
    replace hH := hH.up hK
    replace hB := hB.trans hK.w
    refine WO.q (.mv (v := .tup _) rfl) rfl rfl ?_
    refine WO.q (.r fun _ => rfl) rfl rfl ?_
    refine WO.q (.r fun _ => rfl) rfl rfl ?_
    refine WO.md (MOp.alloc ti47 rfl) rfl rfl ?_
    rintro _ _ ⟨b37, rfl, rfl⟩
    refine WO.mn (MOp.storeW rfl (cA rfl) .h ti47 rfl rfl rfl) rfl ?_
    rintro _ _ rfl
    refine WO.q (.as (v := .int _ _) rfl) rfl rfl ?_
    refine WO.nil ?_
    refine WX.reg ?_
    refine WO.q (.ldA (i := 0) rfl rfl rfl ti47 rfl) rfl rfl ?_
    refine WO.q (.mv (v := .int _ _) rfl) rfl rfl ?_
    refine WO.q (.mv (v := .int _ _) rfl) rfl rfl ?_
    refine WO.q (.r fun _ => rfl) rfl rfl ?_
    refine WO.mn (MOp.storeW rfl (cA rfl) (.t .h) ti47 rfl rfl rfl) rfl ?_
    rintro _ _ rfl
    refine WO.q (.as (v := .bool _) rfl) rfl rfl ?_
    refine WO.nil ?_
    refine WX.pop ?_
    refine WX.keep [3, 4, 10, 32, 33, 34] (WX.pk [1] (by decide) ?_) rfl
    exact gabionlaw17_DirPlays_j17_ok h hn hx0 hr hE _ _ _ _ ⟨hB, hH, _, _, _, _, h36, h29, h31, rfl, rfl⟩
  · replace h := (if_neg (bnt k32)).symm.trans h
    refine WX.condF rfl k32 ?_
    refine WX.seq ?_
    refine WX.reg ?_
    refine WO.q (.r fun _ => rfl) rfl rfl ?_
    refine WO.q (.as (v := .bool _) rfl) rfl rfl ?_
    refine WO.nil ?_
    rcases bsp (decide (x50 = 2)) with k49 | k49
    · have q_k49 := of_decide_eq_true k49
      replace h := (if_pos q_k49).symm.trans h
      refine WX.condT rfl k49 ?_
      refine WX.seq ?_
      refine WX.reg ?_
      refine WO.q (.mv (v := v29) rfl) rfl rfl ?_
      refine WO.q (.mv (v := .str _) rfl) rfl rfl ?_
      obtain ⟨y50, hy50, h⟩ := Option.bind_eq_some_iff.1 h
      refine WO.ch rfl rfl (dir_Dir_Drop_ok hH h29 hy50) rfl rfl rfl ?_
      rintro _ B _ E hK ⟨rfl, rfl, hH⟩
      replace h29 := h29.upw hK
      replace h30 := h30.upw hK
      replace h31 := h31.upw hK
      replace h25 := h25.upw hK
      replace h28 := h28.upw hK
      replace hB := hB.trans hK
      refine WO.q (.as (v := .int _ _) rfl) rfl rfl ?_
      refine WO.nil ?_
      refine WX.seq ?_
      refine WX.reg ?_
      refine WO.q (.ldA (i := 0) rfl rfl rfl ti47 rfl) rfl rfl ?_
      refine WO.q (.mv (v := .str _) rfl) rfl rfl ?_
      obtain ⟨y51, hy51, h⟩ := Option.bind_eq_some_iff.1 h
      refine WO.c0 rfl rfl (gabionref17_Drop_ok h25 hy51) rfl rfl rfl ?_
      rintro _ B hK ⟨v52, rfl, h53⟩
      obtain ⟨_, _, _, _, _, rfl⟩ := h53.isl
      replace h29 := h29.up hK
      replace h31 := h31.up hK
      replace h25 := h25.up hK
      replace h28 := h28.up hK
      replace hH := hH.up hK
      replace hB := hB.trans hK.w
      refine WO.q (.mv (v := .tup _) rfl) rfl rfl ?_
      refine WO.q (.r fun _ => rfl) rfl rfl ?_
      refine WO.q (.r fun _ => rfl) rfl rfl ?_
      refine WO.md (MOp.alloc ti47 rfl) rfl rfl ?_
      rintro _ _ ⟨b54, rfl, rfl⟩
      refine WO.mn (MOp.storeW rfl (cA rfl) .h ti47 rfl rfl rfl) rfl ?_
      rintro _ _ rfl
      refine WO.q (.as (v := .int _ _) rfl) rfl rfl ?_
      refine WO.nil ?_
      refine WX.reg ?_
      refine WO.q (.ldA (i := 0) rfl rfl rfl ti47 rfl) rfl rfl ?_
      refine WO.q (.mv (v := .int _ _) rfl) rfl rfl ?_
      refine WO.q (.mv (v := .int _ _) rfl) rfl rfl ?_
      refine WO.q (.r fun _ => rfl) rfl rfl ?_
      refine WO.mn (MOp.storeW rfl (cA rfl) (.t .h) ti47 rfl rfl rfl) rfl ?_
      rintro _ _ rfl
      refine WO.q (.as (v := .bool _) rfl) rfl rfl ?_
      refine WO.nil ?_
      refine WX.pop ?_
      refine WX.keep [3, 4, 10, 32, 33, 34] (WX.pk [1] (by decide) ?_) rfl
      exact gabionlaw17_DirPlays_j17_ok h hn hx0 hr hE _ _ _ _ ⟨hB, hH, _, _, _, _, h53, h29, h31, rfl, rfl⟩
    · have q_k49 := of_decide_eq_false k49
      replace h := (if_neg q_k49).symm.trans h
      refine WX.condF rfl k49 ?_
      refine WX.seq ?_
      refine WX.reg ?_
      refine WO.q (.r fun _ => rfl) rfl rfl ?_
      refine WO.q (.as (v := .bool _) rfl) rfl rfl ?_
      refine WO.nil ?_
      rcases bsp (decide (x50 = 3)) with k55 | k55
      · have q_k55 := of_decide_eq_true k55
        replace h := (if_pos q_k55).symm.trans h
        refine WX.condT rfl k55 ?_
        refine WX.seq ?_
        refine WX.reg ?_
        refine WO.q (.mv (v := v29) rfl) rfl rfl ?_
        refine WO.q (.mv (v := .str _) rfl) rfl rfl ?_
        obtain ⟨y56, hy56, h⟩ := Option.bind_eq_some_iff.1 h
        refine WO.ch rfl rfl (dir_Dir_Get_ok hH h29 hy56) rfl rfl rfl ?_
        rintro _ B _ E hK ⟨rfl, rfl, hH⟩
        replace h29 := h29.upw hK
        replace h30 := h30.upw hK
        replace h31 := h31.upw hK
        replace h25 := h25.upw hK
        replace h28 := h28.upw hK
        replace hB := hB.trans hK
        refine WO.q (.mv (v := .tup _) rfl) rfl rfl ?_
        refine WO.q (.r fun _ => rfl) rfl rfl ?_
        refine WO.q (.r fun _ => rfl) rfl rfl ?_
        refine WO.q (.as (v := .int _ _) rfl) rfl rfl ?_
        refine WO.q (.as (v := .bool _) rfl) rfl rfl ?_
        refine WO.nil ?_
        refine WX.seq ?_
        refine WX.reg ?_
        refine WO.q (.ldA (i := 0) rfl rfl rfl ti47 rfl) rfl rfl ?_
        refine WO.q (.mv (v := .str _) rfl) rfl rfl ?_
        obtain ⟨y57, hy57, h⟩ := Option.bind_eq_some_iff.1 h
        refine WO.cS rfl rfl (gabionref17_Find_ok h25 hy57) rfl rfl rfl ?_
        rintro _ rfl
        refine WO.q (.as (v := .int _ _) rfl) rfl rfl ?_
        refine WO.nil ?_
        refine WX.reg ?_
        refine WO.q (.mv (v := .bool _) rfl) rfl rfl ?_
        refine WO.q (.mv (v := .int _ _) rfl) rfl rfl ?_
        refine WO.q (.r fun _ => rfl) rfl rfl ?_
        refine WO.q (.bin (evbooleql ti4 rfl)) rfl rfl ?_
        refine WO.q (.mv (v := .bool _) rfl) rfl rfl ?_
        rcases bsp (decide (y56.2.2 = (decide (0 ≤ y57)))) with k58 | k58
        · have q_k58 := of_decide_eq_true k58
          replace h := (if_pos q_k58).symm.trans h
          refine WO.q (.mv (v := .bool _) rfl) (wg rfl rfl (gt k58)) rfl ?_
          refine WO.q (.r fun _ => rfl) (wg rfl rfl (gt k58)) rfl ?_
          refine WO.q (.mv (v := .bool _) rfl) (wg rfl rfl (gt k58)) rfl ?_
          rcases bsp y56.2.2 with k59 | k59
          · replace h := (if_pos k59).symm.trans h
            refine WO.sd (wg rfl rfl (gtn (f_not k59))) rfl ?_
            refine WO.sd (wg rfl rfl (gtn (f_not k59))) rfl ?_
            refine WO.q (.pfv (v := .bool _) rfl (f_not k59) rfl) (wg rfl rfl (gt k58)) rfl ?_
            refine WO.q (.mv (v := .bool _) rfl) (wg rfl rfl (gt k58)) rfl ?_
            refine WO.q (.mv (v := .bool _) rfl) (wg rfl rfl (gf rfl)) rfl ?_
            refine WO.q (.mv (v := .bool _) rfl) (wg rfl rfl (gf rfl)) rfl ?_
            refine WO.q (.mv (v := .int _ _) rfl) (wg rfl rfl (gt k59)) rfl ?_
            refine WO.q (.fa (fa47_0 _ _)) (wg rfl rfl (gt k59)) rfl ?_
            refine WO.q (.ldS (i := 0) rfl rfl rfl ti45 rfl) (wg rfl rfl (gt k59)) rfl ?_
            refine WO.q (.mv (v := .int _ _) rfl) (wg rfl rfl (gt k59)) rfl ?_
            obtain ⟨y60, hy60, h⟩ := Option.bind_eq_some_iff.1 h
            obtain ⟨b_y60, o_y60, _, i_y60, p_y60, r_y60⟩ := h25.at sl45 hy60 .i64
            obtain ⟨_, _, rfl, rfl, rfl⟩ := r_y60
            refine WO.q (.ia i_y60) (wg rfl rfl (gt k59)) rfl ?_
            refine WO.q (.fa (fa54_1 _ _)) (wg rfl rfl (gt k59)) rfl ?_
            refine WO.q (.lpS rfl p_y60 rfl ti3 rfl) (wg rfl rfl (gt k59)) rfl ?_
            refine WO.q (.r fun _ => rfl) (wg rfl rfl (gt k59)) rfl ?_
            refine WO.q (.ptv (v := .bool _) rfl k59 rfl) (wg rfl rfl (gf rfl)) rfl ?_
            refine WO.q (.pfv (v := .bool _) rfl rfl rfl) (wg rfl rfl (gt k58)) rfl ?_
            refine WO.q (.ptv (v := .bool _) rfl k58 rfl) rfl rfl ?_
            refine WO.q (.as (v := .bool _) rfl) rfl rfl ?_
            refine WO.nil ?_
            refine WX.pop ?_
            refine WX.keep [3, 4, 10, 32, 33, 34] (WX.pk [0] (by decide) ?_) rfl
            exact gabionlaw17_DirPlays_j17_ok h hn hx0 hr hE _ _ _ _ ⟨hB, hH, _, _, _, _, h25, h29, h31, rfl, rfl⟩
          · replace h := (if_neg (bnt k59)).symm.trans h
            refine WO.q (.mv (v := .int _ _) rfl) (wg rfl rfl (gt (t_not k59))) rfl ?_
            refine WO.q (.r fun _ => rfl) (wg rfl rfl (gt (t_not k59))) rfl ?_
            refine WO.q (.ptv (v := .bool _) rfl (t_not k59) rfl) (wg rfl rfl (gt k58)) rfl ?_
            refine WO.q (.mv (v := .bool _) rfl) (wg rfl rfl (gt k58)) rfl ?_
            rcases bsp (decide (y56.2.1 = 0)) with k61 | k61
            · have q_k61 := of_decide_eq_true k61
              replace h := (if_pos q_k61).symm.trans h
              refine WO.sd (wg rfl rfl (gfn k61)) rfl ?_
              refine WO.sd (wg rfl rfl (gfn k61)) rfl ?_
              refine WO.sd (wgu rfl rfl) rfl ?_
              refine WO.sd (wgu rfl rfl) rfl ?_
              refine WO.sd (wgu rfl rfl) rfl ?_
              refine WO.sd (wgu rfl rfl) rfl ?_
              refine WO.sd (wgu rfl rfl) rfl ?_
              refine WO.sd (wgu rfl rfl) rfl ?_
              refine WO.sd (wgu rfl rfl) rfl ?_
              refine WO.sd (wgu rfl rfl) rfl ?_
              refine WO.sd (wg rfl rfl (gfn k61)) rfl ?_
              refine WO.q (.ptv (v := .bool _) rfl k61 rfl) (wg rfl rfl (gt k58)) rfl ?_
              refine WO.q (.ptv (v := .bool _) rfl k58 rfl) rfl rfl ?_
              refine WO.q (.as (v := .bool _) rfl) rfl rfl ?_
              refine WO.nil ?_
              refine WX.pop ?_
              refine WX.keep [3, 4, 10, 32, 33, 34] (WX.pk [0] (by decide) ?_) rfl
              exact gabionlaw17_DirPlays_j17_ok h hn hx0 hr hE _ _ _ _ ⟨hB, hH, _, _, _, _, h25, h29, h31, rfl, rfl⟩
            · have q_k61 := of_decide_eq_false k61
              replace h := (if_neg q_k61).symm.trans h
              refine WO.q (.mv (v := .bool _) rfl) (wg rfl rfl (gf k61)) rfl ?_
              refine WO.q (.mv (v := .bool _) rfl) (wg rfl rfl (gf k61)) rfl ?_
              refine WO.sd (wg rfl rfl (gtn k59)) rfl ?_
              refine WO.sd (wg rfl rfl (gtn k59)) rfl ?_
              refine WO.sd (wg rfl rfl (gtn k59)) rfl ?_
              refine WO.sd (wg rfl rfl (gtn k59)) rfl ?_
              refine WO.sd (wg rfl rfl (gtn k59)) rfl ?_
              refine WO.sd (wg rfl rfl (gtn k59)) rfl ?_
              refine WO.sd (wg rfl rfl (gtn k59)) rfl ?_
              refine WO.sd (wg rfl rfl (gtn k59)) rfl ?_
              refine WO.q (.pfv (v := .bool _) rfl k59 rfl) (wg rfl rfl (gf k61)) rfl ?_
              refine WO.q (.pfv (v := .bool _) rfl k61 rfl) (wg rfl rfl (gt k58)) rfl ?_
              refine WO.q (.ptv (v := .bool _) rfl k58 rfl) rfl rfl ?_
              refine WO.q (.as (v := .bool _) rfl) rfl rfl ?_
              refine WO.nil ?_
              refine WX.pop ?_
              refine WX.keep [3, 4, 10, 32, 33, 34] (WX.pk [0] (by decide) ?_) rfl
              exact gabionlaw17_DirPlays_j17_ok h hn hx0 hr hE _ _ _ _ ⟨hB, hH, _, _, _, _, h25, h29, h31, rfl, rfl⟩
        · have q_k58 := of_decide_eq_false k58
          replace h := (if_neg q_k58).symm.trans h
          refine WO.sd (wg rfl rfl (gtn k58)) rfl ?_
          refine WO.sd (wg rfl rfl (gtn k58)) rfl ?_
          refine WO.sd (wg rfl rfl (gtn k58)) rfl ?_
          refine WO.sd (wgu rfl rfl) rfl ?_
          refine WO.sd (wgu rfl rfl) rfl ?_
          refine WO.sd (wg rfl rfl (gtn k58)) rfl ?_
          refine WO.sd (wg rfl rfl (gtn k58)) rfl ?_
          refine WO.sd (wgu rfl rfl) rfl ?_
          refine WO.sd (wgu rfl rfl) rfl ?_
          refine WO.sd (wgu rfl rfl) rfl ?_
          refine WO.sd (wgu rfl rfl) rfl ?_
          refine WO.sd (wgu rfl rfl) rfl ?_
          refine WO.sd (wgu rfl rfl) rfl ?_
          refine WO.sd (wgu rfl rfl) rfl ?_
          refine WO.sd (wgu rfl rfl) rfl ?_
          refine WO.sd (wgu rfl rfl) rfl ?_
          refine WO.sd (wgu rfl rfl) rfl ?_
          refine WO.sd (wgu rfl rfl) rfl ?_
          refine WO.sd (wg rfl rfl (gtn k58)) rfl ?_
          refine WO.q (.pfv (v := .bool _) rfl k58 rfl) rfl rfl ?_
          refine WO.q (.as (v := .bool _) rfl) rfl rfl ?_
          refine WO.nil ?_
          refine WX.pop ?_
          refine WX.keep [3, 4, 10, 32, 33, 34] (WX.pk [0] (by decide) ?_) rfl
          exact gabionlaw17_DirPlays_j17_ok h hn hx0 hr hE _ _ _ _ ⟨hB, hH, _, _, _, _, h25, h29, h31, rfl, rfl⟩
      · have q_k55 := of_decide_eq_false k55
        replace h := (if_neg q_k55).symm.trans h
        refine WX.condF rfl k55 ?_
        refine WX.seq ?_
        refine WX.reg ?_
        refine WO.q (.r fun _ => rfl) rfl rfl ?_
        refine WO.q (.as (v := .bool _) rfl) rfl rfl ?_
        refine WO.nil ?_
        rcases bsp (decide (x50 = 4)) with k62 | k62
        · have q_k62 := of_decide_eq_true k62
          replace h := (if_pos q_k62).symm.trans h
          refine WX.condT rfl k62 ?_
          refine WX.seq ?_
          refine WX.reg ?_
          refine WO.q (.mv (v := v29) rfl) rfl rfl ?_
          obtain ⟨y63, hy63, h⟩ := Option.bind_eq_some_iff.1 h
          refine WO.ch rfl rfl (dir_Dir_Copy_ok hH h29 hy63) rfl rfl rfl ?_
          rintro v64 B _ E hK ⟨_, rfl, rfl, hH, h65⟩
          replace h29 := h29.upw hK
          replace h30 := h30.upw hK
          replace h31 := h31.upw hK
          replace h25 := h25.upw hK
          replace h28 := h28.upw hK
          replace hB := hB.trans hK
          refine WO.q (.as (v := v64) rfl) rfl rfl ?_
          refine WO.nil ?_
          refine WX.seq ?_
          refine WX.reg ?_
          refine WO.q (.mv (v := v64) rfl) rfl rfl ?_
          obtain ⟨y66, hy66, h⟩ := Option.bind_eq_some_iff.1 h
          refine WO.ch rfl rfl (dir_Dir_Put_ok hH h65 hy66) rfl rfl rfl ?_
          rintro _ B _ E hK ⟨rfl, rfl, hH⟩
          replace h65 := h65.upw hK
          replace h30 := h30.upw hK
          replace h31 := h31.upw hK
          replace h25 := h25.upw hK
          replace h28 := h28.upw hK
          replace hB := hB.trans hK
          refine WO.nil ?_
          refine WX.seq ?_
          refine WX.reg ?_
          refine WO.q (.mv (v := v30) rfl) rfl rfl ?_
          refine WO.q (.ldA (i := 2) rfl rfl rfl ti47 rfl) rfl rfl ?_
          obtain ⟨y67, hy67, h⟩ := Option.bind_eq_some_iff.1 h
          refine WO.ch rfl rfl (gabionlaw17_same_ok hH h30 h28 hy67) rfl rfl rfl ?_
          rintro _ B _ E hK ⟨rfl, rfl, hH⟩
          replace h65 := h65.upw hK
          replace h30 := h30.upw hK
          replace h31 := h31.upw hK
          replace h28 := h28.upw hK
          replace h25 := h25.upw hK
          replace hB := hB.trans hK
          refine WO.q (.as (v := .bool _) rfl) rfl rfl ?_
          refine WO.nil ?_
          refine WX.reg ?_
          refine WO.q (.ldA (i := 0) rfl rfl rfl ti47 rfl) rfl rfl ?_
          obtain ⟨y68, hy68, h⟩ := Option.bind_eq_some_iff.1 h
          refine WO.c0 rfl rfl (gabionref17_Put_ok h25 hy68) rfl rfl rfl ?_
          rintro _ B hK ⟨v69, rfl, h70⟩
          obtain ⟨_, _, _, _, _, rfl⟩ := h70.isl
          replace h65 := h65.up hK
          replace h31 := h31.up hK
          replace h25 := h25.up hK
          replace h28 := h28.up hK
          replace hH := hH.up hK
          replace hB := hB.trans hK.w
          refine WO.q (.mv (v := .tup _) rfl) rfl rfl ?_
          refine WO.q (.r fun _ => rfl) rfl rfl ?_
          refine WO.q (.r fun _ => rfl) rfl rfl ?_
          refine WO.mn (MOp.storeW rfl (cA rfl) .h ti47 rfl rfl rfl) rfl ?_
          rintro _ _ rfl
          refine WO.nil ?_
          refine WX.pop ?_
          refine WX.keep [3, 4, 10, 32, 33, 34] (WX.pk [0] (by decide) ?_) rfl
          exact gabionlaw17_DirPlays_j17_ok h hn hx0 hr hE _ _ _ _ ⟨hB, hH, _, _, _, _, h70, h65, h31, rfl, rfl⟩
        · have q_k62 := of_decide_eq_false k62
          replace h := (if_neg q_k62).symm.trans h
          refine WX.condF rfl k62 ?_
          refine WX.skip ?_
          refine WX.pop ?_
          refine WX.keep [3, 4, 10, 32, 33, 34] (WX.pk [0] (by decide) ?_) rfl
          exact gabionlaw17_DirPlays_j17_ok h hn hx0 hr hE _ _ _ _ ⟨hB, hH, _, _, _, _, h25, h29, h31, rfl, rfl⟩
theorem gabionlaw17_DirPlays_l0_s {B0 : Kn} {L : Own} {n0 : Nat} {x32 : List (Int × Int × (List UInt8))} {H : Heap} {x3 : Nat} {x34 : Int} {zb4 : (List ((List UInt8) × Int)) × Int} {Q : AV → St → Prop} {E : (Heap × Nat × Int × ((List ((List UInt8) × Int)) × Int)) ⊕ ((Heap × Bool) ⊕ Heap) → Prop} {o : (Heap × Nat × Int × ((List ((List UInt8) × Int)) × Int)) ⊕ ((Heap × Bool) ⊕ Heap)} (h : gabionlaw17_DirPlays_l0 x32 H x3 x34 zb4 = some o) (hn : ∀ s, E (.inl s) → WXH Tryd.prog 145 n0 (Fin Tryd.prog Tryd.f5.results.toList n0 Q) [.lp (ct [1, 1, 1, 1, 0, 1, 0, 0] (bodyOf Tryd.f5)), .blk 0, .code (ct [1, 1, 1, 1, 1] (bodyOf Tryd.f5))] (gabionlaw17_DirPlays_l0_I B0 x32 s.1 s.2.1 s.2.2.1 s.2.2.2) L) (hx0 : ∀ s, E (.inr (.inr s)) → WXH Tryd.prog 145 n0 (Fin Tryd.prog Tryd.f5.results.toList n0 Q) [.code (ct [1, 1, 1, 1, 1] (bodyOf Tryd.f5))] (gabionlaw17_DirPlays_l0_X0 B0 s) L) (hr : ∀ r, E (.inr (.inl r)) → ∀ v st, gabionlaw17_DirPlays_P B0 L r v st → Q v st) (hE : E o) : WXH Tryd.prog 145 n0 (Fin Tryd.prog Tryd.f5.results.toList n0 Q) [.code (ct [1, 1, 1, 1, 0, 1, 0, 0] (bodyOf Tryd.f5)), .lp (ct [1, 1, 1, 1, 0, 1, 0, 0] (bodyOf Tryd.f5)), .blk 0, .code (ct [1, 1, 1, 1, 1] (bodyOf Tryd.f5))] (gabionlaw17_DirPlays_l0_I B0 x32 H x3 x34 zb4) L := by
  unfold gabionlaw17_DirPlays_l0 at h
  rintro _ B _ E ⟨hB, hH, b14, v15, v16, v17, h15, h16, h17, rfl, rfl⟩
  obtain ⟨_, _, _, _, _, rfl⟩ := h15.isl
  obtain ⟨_, _, _, _, _, rfl⟩ := h17.isl
  refine WX.seq ?_
  refine WX.reg ?_
  refine WO.q (.r fun _ => rfl) rfl rfl ?_
  refine WO.nil ?_
  refine WX.seq ?_
  rcases bsp (decide (x34 < (x32.length : Int))) with k18 | k18
  · have q_k18 := of_decide_eq_true k18
    replace h := (if_pos q_k18).symm.trans h
    refine WX.condT rfl k18 ?_
    refine WX.skip ?_
    refine WX.seq ?_
    refine WX.block ?_
    refine WX.seq ?_
    refine WX.reg ?_
    obtain ⟨y19, hy19, h⟩ := Option.bind_eq_some_iff.1 h
    obtain ⟨b_y19, o_y19, _, i_y19, p_y19, r_y19⟩ := h17.at sl44 hy19 .i64
    obtain ⟨_, _, rfl, rfl, ⟨_, _, rfl, rfl, rfl⟩⟩ := r_y19
    refine WO.q (.ia i_y19) rfl rfl ?_
    refine WO.q (.lpA rfl p_y19 ti49 rfl rfl) rfl rfl ?_
    refine WO.md (MOp.alloc ti49 rfl) rfl rfl ?_
    rintro _ _ ⟨b20, rfl, rfl⟩
    refine WO.mn (MOp.storeW rfl (cA rfl) .h ti49 rfl rfl rfl) rfl ?_
    rintro _ _ rfl
    refine WO.nil ?_
    refine WX.seq ?_
    refine WX.reg ?_
    refine WO.q (.fa (fa49_2 _ _)) rfl rfl ?_
    refine WO.q (.ldS (i := 0) rfl rfl rfl ti9 rfl) rfl rfl ?_
    refine WO.q (.fa (fa49_2 _ _)) rfl rfl ?_
    refine WO.q (.ldS (i := 0) rfl rfl rfl ti9 rfl) rfl rfl ?_
    refine WO.q (.len rfl rfl rfl (evslen ti9 rfl _)) rfl rfl ?_
    refine WO.q (.r fun _ => rfl) rfl rfl ?_
    obtain ⟨y21, hy21, h⟩ := Option.bind_eq_some_iff.1 h
    refine WO.q (.sl (evscut ti9 rfl hy21 bnd_none (bnd_int (Int.le_trans (cutL_some hy21).1.1 (cutL_some hy21).1.2.1)))) rfl rfl ?_
    refine WO.q (.as (v := .str _) rfl) rfl rfl ?_
    refine WO.nil ?_
    refine WX.seq ?_
    refine WX.drw (Plan.of [0, 1, 2, 3, 4] .nil) _ mixed (by kernel_rfl) rfl (subE (pk_sub [0, 1])) ?_
    refine WP.q (i := 0) rfl (.mv (v := v16) rfl) rfl rfl rfl ?_
    refine WP.q (i := 1) rfl (.ldA (i := 1) rfl rfl rfl ti47 rfl) rfl rfl rfl ?_
    refine WP.md (i := 2) rfl (MOp.alloc ti47 rfl) rfl rfl rfl ?_
    rintro _ _ ⟨b22, rfl, rfl⟩
    refine ⟨pkE (jx := [1, 2]) rfl, ?_⟩
    refine WP.q (i := 3) rfl (.as (v := v16) rfl) rfl rfl rfl ?_
    refine WP.msn (i := 4) rfl (MOp.storeW rfl (cA rfl) .h ti47 rfl rfl rfl) rfl (by kernel_rfl) rfl ?_
    rintro _ _ rfl
    refine WS.nil ?_
    refine WX.seq ?_
    refine WX.reg ?_
    refine WO.q (.as (v := .bool _) rfl) rfl rfl ?_
    refine WO.nil ?_
    refine WX.seq ?_
    refine WX.seq ?_
    refine WX.reg ?_
    refine WO.q (.fa (fa49_0 _ _)) rfl rfl ?_
    refine WO.q (.ldS (i := 1) rfl rfl rfl ti3 rfl) rfl rfl ?_
    refine WO.q (.r fun _ => rfl) rfl rfl ?_
    refine WO.q (.r fun _ => rfl) rfl rfl ?_
    refine WO.nil ?_
    refine WX.block ?_
    refine WX.seq ?_
    refine WX.seq ?_
    refine WX.reg ?_
    refine WO.q (.r fun _ => rfl) rfl rfl ?_
    refine WO.q (.as (v := .bool _) rfl) rfl rfl ?_
    refine WO.nil ?_
    rcases bsp (decide ((Int.tmod (mx 0 y19.1) 5) = 0)) with k23 | k23
    · have q_k23 := of_decide_eq_true k23
      replace h := (if_pos q_k23).symm.trans h
      refine WX.condT rfl k23 ?_
      refine WX.skip ?_
      refine WX.keep [3, 4, 6, 7, 8, 9, 10, 32, 33, 34, 50, 51] (WX.pk [2, 1, 0] (by decide) ?_) rfl
      exact gabionlaw17_DirPlays_j14_ok h hn hx0 hr hE _ _ _ _ ⟨hB, hH, _, _, _, _, _, _, _, _, h15, h15, h16, h16, h17, rfl, rfl⟩
    · have q_k23 := of_decide_eq_false k23
      replace h := (if_neg q_k23).symm.trans h
      refine WX.condF rfl k23 ?_
      refine WX.reg ?_
      refine WO.q (.r fun _ => rfl) rfl rfl ?_
      refine WO.q (.as (v := .bool _) rfl) rfl rfl ?_
      refine WO.nil ?_
      refine WX.keep [3, 4, 6, 7, 8, 9, 10, 32, 33, 34, 50, 51] (WX.pk [2, 1, 0] (by decide) ?_) rfl
      exact gabionlaw17_DirPlays_j14_ok h hn hx0 hr hE _ _ _ _ ⟨hB, hH, _, _, _, _, _, _, _, _, h15, h15, h16, h16, h17, rfl, rfl⟩
  · have q_k18 := of_decide_eq_false k18
    replace h := (if_neg q_k18).symm.trans h
    refine WX.condF rfl k18 ?_
    refine WX.exit rfl ?_
    refine WX.keep [] (WX.pk [] (by decide) ?_) rfl
    obtain rfl := Option.some.inj h
    exact hx0 _ hE _ _ _ _ ⟨hB, hH, rfl, rfl⟩
theorem gabionlaw17_DirPlays_l0_ok {B0 : Kn} {L : Own} {n0 : Nat} {x32 : List (Int × Int × (List UInt8))} {H : Heap} {x3 : Nat} {x34 : Int} {zb4 : (List ((List UInt8) × Int)) × Int} {Q : AV → St → Prop} {d : Nat} {e : (Heap × Bool) ⊕ Heap} (h : iter (fun (s : Heap × Nat × Int × ((List ((List UInt8) × Int)) × Int)) => gabionlaw17_DirPlays_l0 x32 s.1 s.2.1 s.2.2.1 s.2.2.2) d (H, x3, x34, zb4) = some e) (g0 : ∀ r, e = (.inl r) → ∀ v st, gabionlaw17_DirPlays_P B0 L r v st → Q v st) (g1 : ∀ s, e = (.inr s) → WXH Tryd.prog 145 n0 (Fin Tryd.prog Tryd.f5.results.toList n0 Q) [.code (ct [1, 1, 1, 1, 1] (bodyOf Tryd.f5))] (gabionlaw17_DirPlays_l0_X0 B0 s) L) : WXH Tryd.prog 145 n0 (Fin Tryd.prog Tryd.f5.results.toList n0 Q) [.code (ct [1, 1, 1, 1, 0, 1, 0, 0] (bodyOf Tryd.f5)), .lp (ct [1, 1, 1, 1, 0, 1, 0, 0] (bodyOf Tryd.f5)), .blk 0, .code (ct [1, 1, 1, 1, 1] (bodyOf Tryd.f5))] (gabionlaw17_DirPlays_l0_I B0 x32 H x3 x34 zb4) L :=
  iter_okH (I := fun s => gabionlaw17_DirPlays_l0_I B0 x32 s.1 s.2.1 s.2.2.1 s.2.2.2) (D := fun e => (∀ r, e = (.inl r) → ∀ v st, gabionlaw17_DirPlays_P B0 L r v st → Q v st) ∧ (∀ s, e = (.inr s) → WXH Tryd.prog 145 n0 (Fin Tryd.prog Tryd.f5.results.toList n0 Q) [.code (ct [1, 1, 1, 1, 1] (bodyOf Tryd.f5))] (gabionlaw17_DirPlays_l0_X0 B0 s) L)) (fun E hn hx s o ho hE => gabionlaw17_DirPlays_l0_s (H := s.1) (x3 := s.2.1) (x34 := s.2.2.1) (zb4 := s.2.2.2) ho hn (fun s hs => (hx _ hs).2 _ rfl) (fun r hs => (hx _ hs).1 _ rfl) hE) h ⟨g0, g1⟩
theorem gabionlaw17_DirPlays_j3_ok {B0 : Kn} {L : Own} {n0 : Nat} {H : Heap} {x0 : List (Int × Int × (List UInt8))} {x3 : Nat} {x27 : Bool} {zb4 : (List ((List UInt8) × Int)) × Int} {r : Heap × Bool} (h : gabionlaw17_DirPlays_j3 H x0 x3 x27 zb4 = some r) : WXH Tryd.prog 145 n0 (Fin Tryd.prog Tryd.f5.results.toList n0 (gabionlaw17_DirPlays_P B0 L r)) [.code (ct [1, 1, 1, 0, 1] (bodyOf Tryd.f5)), .code (ct [1, 1, 1, 1] (bodyOf Tryd.f5))] (gabionlaw17_DirPlays_j3_I B0 H x0 x3 x27 zb4) L := by
  unfold gabionlaw17_DirPlays_j3 at h
  rintro _ B _ E ⟨hB, hH, b7, v8, b8, n8, c8, v9, v10, h8, h9, h10, rfl, rfl⟩
  obtain ⟨_, _, _, _, _, rfl⟩ := h8.isl
  obtain ⟨_, _, _, _, _, rfl⟩ := h9.isl
  rcases bsp x27 with k11 | k11
  · replace h := (if_pos k11).symm.trans h
    refine WX.condT rfl k11 ?_
    refine WX.seq ?_
    refine WX.reg ?_
    refine WO.q (.as (v := .bool _) rfl) rfl rfl ?_
    refine WO.nil ?_
    obtain rfl := Option.some.inj h
    exact WX.ret (rs_ (rs_tmp rfl rs_nil)) fun st hp => ⟨_, _, _, hB, (hp.pk [] (by decide)), rfl, rfl, hH⟩
  · replace h := (if_neg (bnt k11)).symm.trans h
    refine WX.condF rfl k11 ?_
    refine WX.skip ?_
    refine WX.seq ?_
    refine WX.seq ?_
    refine WX.reg ?_
    refine WO.q (.mv (v := .sl _ _ _ _ _ _) rfl) rfl rfl ?_
    refine WO.q (.mv (v := .sl _ _ _ _ _ _) rfl) rfl rfl ?_
    refine WO.q (.len rfl rfl rfl (sl44.len h9.isl)) rfl rfl ?_
    refine WO.q (.r fun _ => rfl) rfl rfl ?_
    obtain ⟨y12, hy12, h⟩ := Option.bind_eq_some_iff.1 h
    obtain ⟨v_y12, e_y12, g_y12⟩ := h9.cut sl44 hy12 (lo := none) (hi := some (.int .i64 (mn (x0.length : Int) 60))) bnd_none (bnd_int (Int.le_trans (cutL_some hy12).1.1 (cutL_some hy12).1.2.1))
    obtain ⟨_, _, _, _, _, rfl⟩ := g_y12.isl
    refine WO.q (.sl e_y12) rfl rfl ?_
    refine WO.q (.len rfl rfl rfl (sl44.len g_y12.isl)) rfl rfl ?_
    refine WO.q (.mv (v := .int _ _) rfl) rfl rfl ?_
    refine WO.nil ?_
    refine WX.block ?_
    refine WX.loop ?_
    obtain ⟨e71, he71, h⟩ := Option.bind_eq_some_iff.1 h
    refine WX.fz (j := 1) h8 rfl ?_
    intro B hK g13
    replace h10 := h10.up hK
    replace g_y12 := g_y12.up hK
    replace hH := hH.up hK
    replace hB := hB.trans hK.w
    refine WX.keep [3, 4, 32, 33, 34] (WX.pk [0] (by decide) ?_) rfl
    refine gabionlaw17_DirPlays_l0_ok he71 ?_ ?_ _ _ _ _ ⟨hB, hH, _, _, _, _, g13, h10, g_y12, rfl, rfl⟩
    · intro r73 he_
      subst he_
      replace h := (on_l h)
      obtain rfl := Option.some.inj h
      exact fun v st hp => hp
    · intro x74 he_
      subst he_
      replace h := (on_r h)
      rintro _ B _ E ⟨hB, hH, rfl, rfl⟩
      refine WX.seq ?_
      refine WX.reg ?_
      refine WO.q (.as (v := .bool _) rfl) rfl rfl ?_
      refine WO.nil ?_
      obtain rfl := Option.some.inj h
      exact WX.ret (rs_ (rs_tmp rfl rs_nil)) fun st hp => ⟨_, _, _, hB, (hp.pk [] (by decide)), rfl, rfl, hH⟩
theorem gabionlaw17_DirPlays_ok {B0 : Kn} {L : Own} {H : Heap} {E : Own} (hH : HR B0 H E) {a0 : List (Int × Int × (List UInt8))} {v0_0 : AV} {r : Heap × Bool} (g0_0 : RSl EPIi64Ii64StQ B0 v0_0 a0) (h : gabionlaw17_DirPlays H a0 = some r) : ∀ st, Hp B0 (E ++ L) st → ASpec Tryd.prog 5 [v0_0] st (gabionlaw17_DirPlays_P B0 L r) := by
  unfold gabionlaw17_DirPlays at h
  refine bodyA (A := []) (L := E ++ L) Tryd.func5 rfl (c := bodyOf Tryd.f5) rfl Tryd.ntmps5 (lb rfl) fun n0 => ?_
  have hB := KLw.refl B0
  obtain ⟨_, _, _, _, _, rfl⟩ := g0_0.isl
  refine WX.seq ?_
  refine WX.reg ?_
  refine WO.q (.as (v := .bool _) rfl) rfl rfl ?_
  refine WO.nil ?_
  refine WX.seq ?_
  refine WX.reg ?_
  obtain ⟨y1, hy1, h⟩ := Option.bind_eq_some_iff.1 h
  refine WO.ch rfl rfl (dir_New_ok hH hy1) rfl rfl rfl ?_
  rintro v2 B _ E hK ⟨_, rfl, rfl, hH, h3⟩
  replace g0_0 := g0_0.upw hK
  replace hB := hB.trans hK
  refine WO.q (.as (v := v2) rfl) rfl rfl ?_
  refine WO.nil ?_
  refine WX.seq ?_
  refine WX.reg ?_
  refine WO.q (.bd (bd47_1 (cI rfl))) rfl rfl ?_
  refine WO.md (MOp.alloc ti47 rfl) rfl rfl ?_
  rintro _ _ ⟨b4, rfl, rfl⟩
  refine WO.mn (MOp.storeW rfl (cA rfl) .h ti47 rfl rfl rfl) rfl ?_
  rintro _ _ rfl
  refine WO.nil ?_
  refine WX.seq ?_
  refine WX.seq ?_
  refine WX.reg ?_
  obtain ⟨y5, hy5, h⟩ := Option.bind_eq_some_iff.1 h
  refine WO.ch rfl rfl (gabionlaw17_wakes_ok hH hy5) rfl rfl rfl ?_
  rintro _ B _ E hK ⟨rfl, rfl, hH⟩
  replace g0_0 := g0_0.upw hK
  replace h3 := h3.upw hK
  replace hB := hB.trans hK
  refine WO.q (.r fun _ => rfl) rfl rfl ?_
  refine WO.q (.mv (v := .bool _) rfl) rfl rfl ?_
  rcases bsp y5.2 with k6 | k6
  · replace h := (if_pos k6).symm.trans h
    refine WO.q (.mv (v := v2) rfl) (wg rfl rfl (gf (f_not k6))) rfl ?_
    refine WO.q (.bin (eveqlnil h3 ti24 rfl)) (wg rfl rfl (gf (f_not k6))) rfl ?_
    refine WO.q (.pfv (v := .bool _) rfl (f_not k6) rfl) rfl rfl ?_
    refine WO.nil ?_
    refine WX.keep [0, 3, 4, 27] (WX.pk [0] (by decide) (WX.addn [1] ?_)) rfl
    exact gabionlaw17_DirPlays_j3_ok h _ _ _ _ ⟨hB, hH, _, _, 0, true, [], _, _, OSl.none _ _, g0_0, h3, rfl, rfl⟩
  · replace h := (if_neg (bnt k6)).symm.trans h
    refine WO.sd (wg rfl rfl (gfn (t_not k6))) rfl ?_
    refine WO.sd (wg rfl rfl (gfn (t_not k6))) rfl ?_
    refine WO.q (.ptv (v := .bool _) rfl (t_not k6) rfl) rfl rfl ?_
    refine WO.nil ?_
    refine WX.keep [0, 3, 4, 27] (WX.pk [0] (by decide) (WX.addn [1] ?_)) rfl
    exact gabionlaw17_DirPlays_j3_ok h _ _ _ _ ⟨hB, hH, _, _, 0, true, [], _, _, OSl.none _ _, g0_0, h3, rfl, rfl⟩
end Gab
