/- The Go code comes to what the Lean functions say. Written by a program (gp.py). -/
import Derived.Test.YtcdldgoehoopmaaDoorFd
import Derived.Test.YtcdldgoehoopmaaDoorTy
import Derived.Test.YtcdldgoehoopmaaDoorFpLe0
import Derived.Test.YtcdldgoehoopmaaDoorFpPre0
import Derived.Test.YtcdldgoehoopmaaDoorHand
set_option linter.unusedSimpArgs false
set_option linter.unusedVariables false
set_option maxHeartbeats 4000000
set_option maxRecDepth 100000
namespace Gab
open Go Go.Proofs
def dir_New_P (B : Kn) (L : Own) (r : Heap × Nat) : AV → St → Prop := CH B L fun B' X E' v => ∃ wp0, v = wp0 ∧ X = [] ∧ HR B' r.1 E' ∧ HPt B' 66 wp0 r.2
theorem dir_New_ok {B0 : Kn} {L : Own} {H : Heap} {E : Own} (hH : HR B0 H E) {r : Heap × Nat} (h : dir_New H = some r) : ∀ st, Hp B0 (E ++ L) st → ASpec Tryd.prog 7 [] st (dir_New_P B0 L r) := by
  unfold dir_New at h
  refine bodyA (A := []) (L := E ++ L) Tryd.func7 rfl (c := bodyOf Tryd.f7) rfl Tryd.ntmps7 (lb rfl) fun n0 => ?_
  have hB := KLw.refl B0
  refine WX.seq ?_
  refine WX.reg ?_
  refine WO.q (.as (v := .nilptr) rfl) rfl rfl ?_
  refine WO.nil ?_
  refine WX.seq ?_
  refine WX.reg ?_
  obtain ⟨y1, hy1, h⟩ := Option.bind_eq_some_iff.1 h
  refine WO.ch rfl rfl (dir_buckets_ok hH hy1) rfl rfl rfl ?_
  rintro _ B _ E hK ⟨v2, b3, n4, c5, rfl, rfl, hH, h6⟩
  obtain ⟨_, _, _, _, _, rfl⟩ := h6.isl
  replace hB := hB.trans hK
  refine WO.q (.bd (bd66_0 (cL rfl))) rfl rfl ?_
  refine WO.md (MOp.box (cA rfl)) rfl rfl ?_
  rintro _ _ ⟨b7, rfl, rfl⟩
  refine WO.q (.as (v := .ptr _ _) rfl) rfl rfl ?_
  refine WO.nil ?_
  refine WX.fz (j := 1) h6 rfl ?_
  intro B hK g8
  replace hH := hH.up hK
  replace hB := hB.trans hK.w
  obtain ⟨H10, e_H10, h⟩ := Option.bind_eq_some_iff.1 h
  obtain rfl := Option.some.inj e_H10
  refine WX.abs (j := 0) (x := ((y1.2, 0) : (List Nat) × Int)) (foc66 hH) rfl (Rp (Rl g8) Ri) ?_
  intro B E hK g9 hH
  replace hH := (hH : HR _ _ _)
  replace hB := hB.trans hK
  obtain rfl := Option.some.inj h
  exact WX.ret (rs_ (rs_tmp rfl rs_nil)) fun st hp => ⟨_, _, _, hB, (hp.pk [] (by decide)), _, rfl, rfl, hH, g9⟩
def dir_Name_P (B : Kn) (L : Own) (r : Int) : AV → St → Prop := CS B L fun v => v = .int .i64 r
def dir_Name_j1_I (B0 : Kn) (x21 : Bool) : Fr → Kn → Own → Prop := fun fr B A => KLe B0 B ∧ fr = [(21, .bool x21)] ∧ A = []
theorem dir_Name_j1_ok {B0 : Kn} {L : Own} {n0 : Nat} {x21 : Bool} {r : Int} (h : dir_Name_j1 x21 = some r) : WXI Tryd.prog 22 n0 (Fin Tryd.prog Tryd.f21.results.toList n0 (dir_Name_P B0 L r)) [.code (ct [1, 0, 1] (bodyOf Tryd.f21)), .code (ct [1, 1] (bodyOf Tryd.f21))] (dir_Name_j1_I B0 x21) L := by
  unfold dir_Name_j1 at h
  rintro _ B _ ⟨hB, rfl, rfl⟩
  rcases bsp x21 with k2 | k2
  · replace h := (if_pos k2).symm.trans h
    refine WX.condT rfl k2 ?_
    refine WX.seq ?_
    refine WX.reg ?_
    refine WO.q (.as (v := .int _ _) rfl) rfl rfl ?_
    refine WO.nil ?_
    obtain rfl := Option.some.inj h
    exact WX.ret (rs_ (rs_tmp rfl rs_nil)) fun st hp => ⟨(hp.pk [] (by decide)).le hB, rfl⟩
  · replace h := (if_neg (bnt k2)).symm.trans h
    refine WX.condF rfl k2 ?_
    refine WX.skip ?_
    refine WX.seq ?_
    refine WX.reg ?_
    refine WO.q (.as (v := .int _ _) rfl) rfl rfl ?_
    refine WO.nil ?_
    obtain rfl := Option.some.inj h
    exact WX.ret (rs_ (rs_tmp rfl rs_nil)) fun st hp => ⟨(hp.pk [] (by decide)).le hB, rfl⟩
theorem dir_Name_ok {B0 : Kn} {L : Own} {a0 : List UInt8} {r : Int} (h : dir_Name a0 = some r) : ∀ st, Hp B0 L st → ASpec Tryd.prog 21 [.str a0] st (dir_Name_P B0 L r) := by
  unfold dir_Name at h
  refine bodyA (A := []) Tryd.func21 rfl (c := bodyOf Tryd.f21) rfl Tryd.ntmps21 (lb rfl) fun n0 => ?_
  have hB := KLe.refl B0
  refine WX.seq ?_
  refine WX.reg ?_
  refine WO.q (.as (v := .int _ _) rfl) rfl rfl ?_
  refine WO.nil ?_
  refine WX.seq ?_
  refine WX.seq ?_
  refine WX.reg ?_
  refine WO.q (.mv (v := .str _) rfl) rfl rfl ?_
  refine WO.q (.r fun _ => rfl) rfl rfl ?_
  refine WO.q (.mv (v := .bool _) rfl) rfl rfl ?_
  rcases bsp (decide (a0 = ([] : List UInt8))) with k1 | k1
  · have q_k1 := of_decide_eq_true k1
    replace h := (if_pos q_k1).symm.trans h
    refine WO.sd (wg rfl rfl (gfn k1)) rfl ?_
    refine WO.sd (wg rfl rfl (gfn k1)) rfl ?_
    refine WO.sd (wg rfl rfl (gfn k1)) rfl ?_
    refine WO.q (.ptv (v := .bool _) rfl k1 rfl) rfl rfl ?_
    refine WO.q (.mv (v := .bool _) rfl) rfl rfl ?_
    refine WO.sd (wg rfl rfl (gfn rfl)) rfl ?_
    refine WO.sd (wg rfl rfl (gfn rfl)) rfl ?_
    refine WO.q (.ptv (v := .bool _) rfl rfl rfl) rfl rfl ?_
    refine WO.q (.mv (v := .bool _) rfl) rfl rfl ?_
    refine WO.sd (wg rfl rfl (gfn rfl)) rfl ?_
    refine WO.sd (wg rfl rfl (gfn rfl)) rfl ?_
    refine WO.q (.ptv (v := .bool _) rfl rfl rfl) rfl rfl ?_
    refine WO.q (.mv (v := .bool _) rfl) rfl rfl ?_
    refine WO.sd (wg rfl rfl (gfn rfl)) rfl ?_
    refine WO.sd (wg rfl rfl (gfn rfl)) rfl ?_
    refine WO.q (.ptv (v := .bool _) rfl rfl rfl) rfl rfl ?_
    refine WO.nil ?_
    refine WX.keep [21] (WX.pk [] (by decide) ?_) rfl
    exact dir_Name_j1_ok h _ _ _ ⟨hB, rfl, rfl⟩
  · have q_k1 := of_decide_eq_false k1
    replace h := (if_neg q_k1).symm.trans h
    refine WO.q (.mv (v := .str _) rfl) (wg rfl rfl (gf k1)) rfl ?_
    refine WO.q (.len rfl rfl rfl (evslen ti9 rfl _)) (wg rfl rfl (gf k1)) rfl ?_
    refine WO.q (.r fun _ => rfl) (wg rfl rfl (gf k1)) rfl ?_
    refine WO.q (.pfv (v := .bool _) rfl k1 rfl) rfl rfl ?_
    refine WO.q (.mv (v := .bool _) rfl) rfl rfl ?_
    rcases bsp (decide (32 < (a0.length : Int))) with k3 | k3
    · have q_k3 := of_decide_eq_true k3
      replace h := (if_pos q_k3).symm.trans h
      refine WO.sd (wg rfl rfl (gfn k3)) rfl ?_
      refine WO.sd (wg rfl rfl (gfn k3)) rfl ?_
      refine WO.q (.ptv (v := .bool _) rfl k3 rfl) rfl rfl ?_
      refine WO.q (.mv (v := .bool _) rfl) rfl rfl ?_
      refine WO.sd (wg rfl rfl (gfn rfl)) rfl ?_
      refine WO.sd (wg rfl rfl (gfn rfl)) rfl ?_
      refine WO.q (.ptv (v := .bool _) rfl rfl rfl) rfl rfl ?_
      refine WO.q (.mv (v := .bool _) rfl) rfl rfl ?_
      refine WO.sd (wg rfl rfl (gfn rfl)) rfl ?_
      refine WO.sd (wg rfl rfl (gfn rfl)) rfl ?_
      refine WO.q (.ptv (v := .bool _) rfl rfl rfl) rfl rfl ?_
      refine WO.nil ?_
      refine WX.keep [21] (WX.pk [] (by decide) ?_) rfl
      exact dir_Name_j1_ok h _ _ _ ⟨hB, rfl, rfl⟩
    · have q_k3 := of_decide_eq_false k3
      replace h := (if_neg q_k3).symm.trans h
      refine WO.q (.mv (v := .str _) rfl) (wg rfl rfl (gf k3)) rfl ?_
      refine WO.q (.r fun _ => rfl) (wg rfl rfl (gf k3)) rfl ?_
      refine WO.q (.pfv (v := .bool _) rfl k3 rfl) rfl rfl ?_
      refine WO.q (.mv (v := .bool _) rfl) rfl rfl ?_
      rcases bsp (decide (a0 = ([46] : List UInt8))) with k4 | k4
      · have q_k4 := of_decide_eq_true k4
        replace h := (if_pos q_k4).symm.trans h
        refine WO.sd (wg rfl rfl (gfn k4)) rfl ?_
        refine WO.sd (wg rfl rfl (gfn k4)) rfl ?_
        refine WO.q (.ptv (v := .bool _) rfl k4 rfl) rfl rfl ?_
        refine WO.q (.mv (v := .bool _) rfl) rfl rfl ?_
        refine WO.sd (wg rfl rfl (gfn rfl)) rfl ?_
        refine WO.sd (wg rfl rfl (gfn rfl)) rfl ?_
        refine WO.q (.ptv (v := .bool _) rfl rfl rfl) rfl rfl ?_
        refine WO.nil ?_
        refine WX.keep [21] (WX.pk [] (by decide) ?_) rfl
        exact dir_Name_j1_ok h _ _ _ ⟨hB, rfl, rfl⟩
      · have q_k4 := of_decide_eq_false k4
        replace h := (if_neg q_k4).symm.trans h
        refine WO.q (.mv (v := .str _) rfl) (wg rfl rfl (gf k4)) rfl ?_
        refine WO.q (.r fun _ => rfl) (wg rfl rfl (gf k4)) rfl ?_
        refine WO.q (.pfv (v := .bool _) rfl k4 rfl) rfl rfl ?_
        refine WO.q (.mv (v := .bool _) rfl) rfl rfl ?_
        rcases bsp (decide (a0 = ([46, 46] : List UInt8))) with k5 | k5
        · have q_k5 := of_decide_eq_true k5
          replace h := (if_pos q_k5).symm.trans h
          refine WO.sd (wg rfl rfl (gfn k5)) rfl ?_
          refine WO.sd (wg rfl rfl (gfn k5)) rfl ?_
          refine WO.q (.ptv (v := .bool _) rfl k5 rfl) rfl rfl ?_
          refine WO.nil ?_
          refine WX.keep [21] (WX.pk [] (by decide) ?_) rfl
          exact dir_Name_j1_ok h _ _ _ ⟨hB, rfl, rfl⟩
        · have q_k5 := of_decide_eq_false k5
          replace h := (if_neg q_k5).symm.trans h
          refine WO.q (.mv (v := .str _) rfl) (wg rfl rfl (gf k5)) rfl ?_
          obtain ⟨y6, hy6, h⟩ := Option.bind_eq_some_iff.1 h
          refine WO.cS rfl rfl (strings_ContainsAny_ok hy6) rfl (wg rfl rfl (gf k5)) rfl ?_
          rintro _ rfl
          refine WO.q (.pfv (v := .bool _) rfl k5 rfl) rfl rfl ?_
          refine WO.nil ?_
          refine WX.keep [21] (WX.pk [] (by decide) ?_) rfl
          exact dir_Name_j1_ok h _ _ _ ⟨hB, rfl, rfl⟩
def dir_number_P (B : Kn) (L : Own) (r : Bool) : AV → St → Prop := CS B L fun v => v = .bool r
theorem dir_number_ok {B0 : Kn} {L : Own} {a0 : Int} {r : Bool} (h : dir_number a0 = some r) : ∀ st, Hp B0 L st → ASpec Tryd.prog 28 [.int .i64 a0] st (dir_number_P B0 L r) := by
  unfold dir_number at h
  refine bodyA (A := []) Tryd.func28 rfl (c := bodyOf Tryd.f28) rfl Tryd.ntmps28 (lb rfl) fun n0 => ?_
  have hB := KLe.refl B0
  refine WX.seq ?_
  refine WX.reg ?_
  refine WO.q (.as (v := .bool _) rfl) rfl rfl ?_
  refine WO.nil ?_
  refine WX.seq ?_
  refine WX.reg ?_
  refine WO.q (.mv (v := .int _ _) rfl) rfl rfl ?_
  refine WO.q (.r fun _ => rfl) rfl rfl ?_
  refine WO.q (.mv (v := .bool _) rfl) rfl rfl ?_
  rcases bsp (decide (0 ≤ a0)) with k1 | k1
  · have q_k1 := of_decide_eq_true k1
    replace h := (if_pos q_k1).symm.trans h
    refine WO.q (.mv (v := .int _ _) rfl) (wg rfl rfl (gt k1)) rfl ?_
    refine WO.q (.r fun _ => rfl) (wg rfl rfl (gt k1)) rfl ?_
    refine WO.q (.ptv (v := .bool _) rfl k1 rfl) rfl rfl ?_
    refine WO.q (.as (v := .bool _) rfl) rfl rfl ?_
    refine WO.nil ?_
    obtain rfl := Option.some.inj h
    exact WX.ret (rs_ (rs_tmp rfl rs_nil)) fun st hp => ⟨(hp.pk [] (by decide)).le hB, rfl⟩
  · have q_k1 := of_decide_eq_false k1
    replace h := (if_neg q_k1).symm.trans h
    refine WO.sd (wg rfl rfl (gtn k1)) rfl ?_
    refine WO.sd (wg rfl rfl (gtn k1)) rfl ?_
    refine WO.q (.pfv (v := .bool _) rfl k1 rfl) rfl rfl ?_
    refine WO.q (.as (v := .bool _) rfl) rfl rfl ?_
    refine WO.nil ?_
    obtain rfl := Option.some.inj h
    exact WX.ret (rs_ (rs_tmp rfl rs_nil)) fun st hp => ⟨(hp.pk [] (by decide)).le hB, rfl⟩
def dir_Dir_Get_P (B : Kn) (L : Own) (r : Int × Bool) : AV → St → Prop := CS B L fun v => v = .tup [.int .i64 r.1, .bool r.2]
theorem dir_Dir_Get_ok {B0 : Kn} {L : Own} {H : Heap} {Eh : Own} (hH : HR B0 H Eh) {a0 : Nat} {a1 : List UInt8} {v0_0 : AV} (g0_0 : HPt B0 66 v0_0 a0) {r : Int × Bool} (h : dir_Dir_Get H a0 a1 = some r) : ∀ st, Hp B0 (Eh ++ L) st → ASpec Tryd.prog 12 [v0_0, .str a1] st (dir_Dir_Get_P B0 (Eh ++ L) r) := by
  unfold dir_Dir_Get at h
  refine bodyA (A := []) (L := Eh ++ L) Tryd.func12 rfl (c := bodyOf Tryd.f12) rfl Tryd.ntmps12 (lb rfl) fun n0 => ?_
  have hB := KLe.refl B0
  have hH0 := hH
  refine WX.seq ?_
  refine WX.reg ?_
  refine WO.q (.as (v := .int _ _) rfl) rfl rfl ?_
  refine WO.q (.as (v := .bool _) rfl) rfl rfl ?_
  refine WO.nil ?_
  refine WX.seq ?_
  refine WX.seq ?_
  refine WX.reg ?_
  refine WO.q (.mv (v := v0_0) rfl) rfl rfl ?_
  refine WO.q (.bin (eveqlnil g0_0 ti24 rfl)) rfl rfl ?_
  refine WO.nil ?_
  rcases bsp (decide (a0 = 0)) with k1 | k1
  · have q_k1 := of_decide_eq_true k1
    replace h := (if_pos q_k1).symm.trans h
    refine WX.condT rfl k1 ?_
    refine WX.seq ?_
    refine WX.reg ?_
    refine WO.q (.as (v := .int _ _) rfl) rfl rfl ?_
    refine WO.q (.as (v := .bool _) rfl) rfl rfl ?_
    refine WO.nil ?_
    obtain rfl := Option.some.inj h
    exact WX.ret (rs_ (rs_tmp rfl (rs_tmp rfl rs_nil))) fun st hp => ⟨(hp.pk [] (by decide)).le hB, rfl⟩
  · have q_k1 := of_decide_eq_false k1
    replace h := (if_neg q_k1).symm.trans h
    refine WX.condF rfl k1 ?_
    refine WX.skip ?_
    refine WX.seq ?_
    refine WX.reg ?_
    refine WO.q (.mv (v := v0_0) rfl) rfl rfl ?_
    refine WO.q (.mv (v := .str _) rfl) rfl rfl ?_
    obtain ⟨y2, hy2, h⟩ := Option.bind_eq_some_iff.1 h
    refine WO.c0 rfl rfl (rd0 (dir_Dir_bucket_ok hH g0_0 hy2)) rfl rfl rfl ?_
    rintro _ B hK ⟨v3, rfl, h4⟩
    replace g0_0 := g0_0.up hK
    replace hH := hH.up hK
    replace hB := hB.trans hK
    refine WO.q (.mv (v := .str _) rfl) rfl rfl ?_
    obtain ⟨y5, hy5, h⟩ := Option.bind_eq_some_iff.1 h
    refine WO.md (MOp.lookup mt26 (foc26 hH) h4 hy5 Rs rfl rfl) rfl rfl ?_
    rintro _ _ ⟨rfl, c6, r7, rfl⟩
    obtain rfl := r7
    refine WO.q (.mv (v := .tup _) rfl) rfl rfl ?_
    refine WO.q (.r fun _ => rfl) rfl rfl ?_
    refine WO.q (.r fun _ => rfl) rfl rfl ?_
    refine WO.q (.as (v := .int _ _) rfl) rfl rfl ?_
    refine WO.q (.as (v := .bool _) rfl) rfl rfl ?_
    refine WO.nil ?_
    refine WX.seq ?_
    refine WX.reg ?_
    refine WO.q (.mv (v := .int _ _) rfl) rfl rfl ?_
    refine WO.q (.mv (v := .bool _) rfl) rfl rfl ?_
    refine WO.q (.as (v := .int _ _) rfl) rfl rfl ?_
    refine WO.q (.as (v := .bool _) rfl) rfl rfl ?_
    refine WO.nil ?_
    obtain rfl := Option.some.inj h
    exact WX.ret (rs_ (rs_tmp rfl (rs_tmp rfl rs_nil))) fun st hp => ⟨(hp.pk [] (by decide)).le hB, rfl⟩
def dir_Dir_Put_P (B : Kn) (L : Own) (r : Heap × Int) : AV → St → Prop := CH B L fun B' X E' v => v = .int .i64 r.2 ∧ X = [] ∧ HR B' r.1 E'
def dir_Dir_Put_j10_I (B0 : Kn) (H : Heap) (x0 : Nat) (x1 : List UInt8) (x2 : Int) : Fr → Kn → Own → Own → Prop := fun fr B A E => KLw B0 B ∧ HR B H E ∧ ∃ v8, HPt B 66 v8 x0 ∧ fr = [(0, v8), (1, .str x1), (2, .int .i64 x2)] ∧ A = []
theorem dir_Dir_Put_j10_ok {B0 : Kn} {L : Own} {n0 : Nat} {H : Heap} {x0 : Nat} {x1 : List UInt8} {x2 : Int} {r : Heap × Int} (h : dir_Dir_Put_j10 H x0 x1 x2 = some r) : WXH Tryd.prog 56 n0 (Fin Tryd.prog Tryd.f9.results.toList n0 (dir_Dir_Put_P B0 L r)) [.code (ct [1, 1, 1] (bodyOf Tryd.f9))] (dir_Dir_Put_j10_I B0 H x0 x1 x2) L := by
  unfold dir_Dir_Put_j10 at h
  rintro _ B _ E ⟨hB, hH, v8, h8, rfl, rfl⟩
  refine WX.seq ?_
  refine WX.reg ?_
  refine WO.q (.mv (v := v8) rfl) rfl rfl ?_
  refine WO.q (.mv (v := .str _) rfl) rfl rfl ?_
  obtain ⟨y9, hy9, h⟩ := Option.bind_eq_some_iff.1 h
  refine WO.c0 rfl rfl (rd0 (dir_Dir_bucket_ok hH h8 hy9)) rfl rfl rfl ?_
  rintro _ B hK ⟨v10, rfl, h11⟩
  replace h8 := h8.up hK
  replace hH := hH.up hK
  replace hB := hB.trans hK.w
  refine WO.q (.mv (v := .str _) rfl) rfl rfl ?_
  refine WO.q (.mv (v := .int _ _) rfl) rfl rfl ?_
  obtain ⟨y12, hy12, h⟩ := Option.bind_eq_some_iff.1 h
  obtain ⟨H13, e_H13, h⟩ := Option.bind_eq_some_iff.1 h
  obtain rfl := Option.some.inj e_H13
  refine WO.en (MOpE.put mt26 (foc26 hH) h11 hy12 Rs Ri rfl rfl rfl) rfl ?_
  rintro _ _ _ E ⟨rfl, rfl, hH⟩
  replace hH := (hH : HR _ _ _)
  refine WO.nil ?_
  refine WX.seq ?_
  refine WX.reg ?_
  refine WO.q (.as (v := .int _ _) rfl) rfl rfl ?_
  refine WO.nil ?_
  obtain rfl := Option.some.inj h
  exact WX.ret (rs_ (rs_tmp rfl rs_nil)) fun st hp => ⟨_, _, _, hB, (hp.pk [] (by decide)), rfl, rfl, hH⟩
theorem dir_Dir_Put_ok {B0 : Kn} {L : Own} {H : Heap} {E : Own} (hH : HR B0 H E) {a0 : Nat} {a1 : List UInt8} {a2 : Int} {v0_0 : AV} (g0_0 : HPt B0 66 v0_0 a0) {r : Heap × Int} (h : dir_Dir_Put H a0 a1 a2 = some r) : ∀ st, Hp B0 (E ++ L) st → ASpec Tryd.prog 9 [v0_0, .str a1, .int .i64 a2] st (dir_Dir_Put_P B0 L r) := by
  unfold dir_Dir_Put at h
  refine bodyA (A := []) (L := E ++ L) Tryd.func9 rfl (c := bodyOf Tryd.f9) rfl Tryd.ntmps9 (lb rfl) fun n0 => ?_
  have hB := KLw.refl B0
  refine WX.seq ?_
  refine WX.reg ?_
  refine WO.q (.as (v := .int _ _) rfl) rfl rfl ?_
  refine WO.nil ?_
  refine WX.seq ?_
  refine WX.seq ?_
  refine WX.reg ?_
  refine WO.q (.mv (v := .str _) rfl) rfl rfl ?_
  obtain ⟨y1, hy1, h⟩ := Option.bind_eq_some_iff.1 h
  refine WO.cS rfl rfl (dir_Name_ok hy1) rfl rfl rfl ?_
  rintro _ rfl
  refine WO.q (.as (v := .int _ _) rfl) rfl rfl ?_
  refine WO.nil ?_
  refine WX.block ?_
  refine WX.seq ?_
  refine WX.reg ?_
  refine WO.q (.mv (v := v0_0) rfl) rfl rfl ?_
  refine WO.q (.bin (eveqlnil g0_0 ti24 rfl)) rfl rfl ?_
  refine WO.q (.as (v := .bool _) rfl) rfl rfl ?_
  refine WO.nil ?_
  rcases bsp (decide (a0 = 0)) with k2 | k2
  · have q_k2 := of_decide_eq_true k2
    replace h := (if_pos q_k2).symm.trans h
    refine WX.condT rfl k2 ?_
    refine WX.seq ?_
    refine WX.reg ?_
    refine WO.q (.as (v := .int _ _) rfl) rfl rfl ?_
    refine WO.nil ?_
    obtain rfl := Option.some.inj h
    exact WX.ret (rs_ (rs_tmp rfl rs_nil)) fun st hp => ⟨_, _, _, hB, (hp.pk [] (by decide)), rfl, rfl, hH⟩
  · have q_k2 := of_decide_eq_false k2
    replace h := (if_neg q_k2).symm.trans h
    refine WX.condF rfl k2 ?_
    refine WX.seq ?_
    refine WX.reg ?_
    refine WO.q (.mv (v := .int _ _) rfl) rfl rfl ?_
    refine WO.q (.r fun _ => rfl) rfl rfl ?_
    refine WO.q (.as (v := .bool _) rfl) rfl rfl ?_
    refine WO.nil ?_
    rcases bsp (decide (y1 ≠ 0)) with k3 | k3
    · have q_k3 := of_decide_eq_true k3
      replace h := (if_pos q_k3).symm.trans h
      refine WX.condT rfl k3 ?_
      refine WX.seq ?_
      refine WX.reg ?_
      refine WO.q (.mv (v := .int _ _) rfl) rfl rfl ?_
      refine WO.q (.as (v := .int _ _) rfl) rfl rfl ?_
      refine WO.nil ?_
      obtain rfl := Option.some.inj h
      exact WX.ret (rs_ (rs_tmp rfl rs_nil)) fun st hp => ⟨_, _, _, hB, (hp.pk [] (by decide)), rfl, rfl, hH⟩
    · have q_k3 := of_decide_eq_false k3
      replace h := (if_neg q_k3).symm.trans h
      refine WX.condF rfl k3 ?_
      refine WX.seq ?_
      refine WX.reg ?_
      refine WO.q (.mv (v := .int _ _) rfl) rfl rfl ?_
      obtain ⟨y4, hy4, h⟩ := Option.bind_eq_some_iff.1 h
      refine WO.cS rfl rfl (dir_number_ok hy4) rfl rfl rfl ?_
      rintro _ rfl
      refine WO.q (.r fun _ => rfl) rfl rfl ?_
      refine WO.q (.as (v := .bool _) rfl) rfl rfl ?_
      refine WO.nil ?_
      rcases bsp y4 with k5 | k5
      · replace h := (if_pos k5).symm.trans h
        refine WX.condF rfl (f_not k5) ?_
        refine WX.skip ?_
        refine WX.pop ?_
        refine WX.seq ?_
        refine WX.seq ?_
        refine WX.reg ?_
        refine WO.q (.mv (v := v0_0) rfl) rfl rfl ?_
        refine WO.q (.mv (v := .str _) rfl) rfl rfl ?_
        obtain ⟨y6, hy6, h⟩ := Option.bind_eq_some_iff.1 h
        refine WO.cS rfl rfl (rdS (dir_Dir_Get_ok hH g0_0 hy6)) rfl rfl rfl ?_
        rintro _ rfl
        refine WO.q (.mv (v := .tup _) rfl) rfl rfl ?_
        refine WO.q (.r fun _ => rfl) rfl rfl ?_
        refine WO.q (.r fun _ => rfl) rfl rfl ?_
        refine WO.q (.as (v := .int _ _) rfl) rfl rfl ?_
        refine WO.q (.as (v := .bool _) rfl) rfl rfl ?_
        refine WO.nil ?_
        refine WX.seq ?_
        refine WX.reg ?_
        refine WO.q (.mv (v := .bool _) rfl) rfl rfl ?_
        refine WO.q (.r fun _ => rfl) rfl rfl ?_
        refine WO.nil ?_
        rcases bsp y6.2 with k7 | k7
        · replace h := (if_pos k7).symm.trans h
          refine WX.condF rfl (f_not k7) ?_
          refine WX.skip ?_
          refine WX.keep [0, 1, 2] (WX.pk [] (by decide) ?_) rfl
          exact dir_Dir_Put_j10_ok h _ _ _ _ ⟨hB, hH, _, g0_0, rfl, rfl⟩
        · replace h := (if_neg (bnt k7)).symm.trans h
          refine WX.condT rfl (t_not k7) ?_
          refine WX.seq ?_
          refine WX.reg ?_
          refine WO.q (.mv (v := v0_0) rfl) rfl rfl ?_
          obtain ⟨y14, hy14, h⟩ := Option.bind_eq_some_iff.1 h
          obtain ⟨b_y14, c_y14, e_y14, m_y14, r_y14, u_y14⟩ := hgetS (foc66 hH) g0_0 hy14
          subst e_y14
          obtain ⟨_, _, rfl, ⟨w15, rfl, hw15⟩, rfl⟩ := r_y14
          obtain ⟨_, _, _, _, _, rfl⟩ := hw15.isl
          refine WO.q (.r fun _ => rfl) rfl rfl ?_
          refine WO.q (.fa (fa66_1 _ _)) rfl rfl ?_
          refine WO.ql (.ldSm rfl (inE m_y14) rfl ti3 rfl) rfl rfl ?_
          refine WO.q (.r fun _ => rfl) rfl rfl ?_
          refine WO.q (.r fun _ => rfl) rfl rfl ?_
          refine WO.q (.fa (fa66_1 _ _)) rfl rfl ?_
          obtain ⟨H16, e_H16, h⟩ := Option.bind_eq_some_iff.1 h
          obtain rfl := Option.some.inj e_H16
          obtain ⟨_, z_z17, k_z17⟩ := u_y14 _ (y14.1, (wi64 (y14.2 + 1))) (Rp (Rl hw15) Ri)
          refine WO.en (MOpE.st rfl (cI rfl) z_z17 ti3 rfl rfl (lb rfl) rfl) rfl ?_
          rintro _ _ _ _ ⟨rfl, rfl, rfl⟩
          replace hH := (k_z17 : HR _ _ _)
          refine WO.nil ?_
          refine WX.seq ?_
          refine WX.drw (Plan.of [0, 1, 2, 3, 4, 5, 6, 7, 8, 9, 10] .nil) _ mixed (by kernel_rfl) rfl (subE (pk_sub [])) ?_
          refine WP.q (i := 0) rfl (.mv (v := .ptr b_y14 0) rfl) rfl rfl rfl ?_
          obtain ⟨y18, hy18, h⟩ := Option.bind_eq_some_iff.1 h
          obtain ⟨c_y18, m_y18, r_y18, u_y18⟩ := hgetP (foc66 hH) g0_0 hy18
          obtain ⟨_, _, rfl, ⟨w19, rfl, hw19⟩, rfl⟩ := r_y18
          obtain ⟨_, _, _, _, _, rfl⟩ := hw19.isl
          refine WP.q (i := 1) rfl (.r fun _ => rfl) rfl rfl rfl ?_
          refine WP.q (i := 2) rfl (.fa (fa66_1 _ _)) rfl rfl rfl ?_
          refine WP.q (i := 3) rfl (.ldSm rfl (inM m_y18) rfl ti3 rfl) rfl rfl rfl ?_
          refine WP.q (i := 4) rfl (.mv (v := .ptr b_y14 0) rfl) rfl rfl rfl ?_
          refine WP.q (i := 5) rfl (.r fun _ => rfl) rfl rfl rfl ?_
          refine WP.q (i := 6) rfl (.fa (fa66_0 _ _)) rfl rfl rfl ?_
          refine WP.q (i := 7) rfl (.ldSm rfl (inM m_y18) rfl ti63 rfl) rfl rfl rfl ?_
          refine WP.q (i := 8) rfl (.len rfl rfl rfl (sl63.len hw19.isl)) (isQl rfl rfl ti63 rfl) rfl rfl ?_
          refine WP.q (i := 9) rfl (.r fun _ => rfl) rfl rfl rfl ?_
          refine WP.q (i := 10) rfl (.r fun _ => rfl) rfl rfl rfl ?_
          refine WP.nil ?_
          rcases bsp (decide ((wi64 (4 * (y18.1.length : Int))) < y18.2)) with k20 | k20
          · have q_k20 := of_decide_eq_true k20
            replace h := (if_pos q_k20).symm.trans h
            refine WX.condT rfl k20 ?_
            refine WX.reg ?_
            refine WO.q (.mv (v := .ptr b_y14 0) rfl) rfl rfl ?_
            obtain ⟨y21, hy21, h⟩ := Option.bind_eq_some_iff.1 h
            refine WO.ch rfl rfl (dir_Dir_grow_ok hH g0_0 hy21) rfl rfl rfl ?_
            rintro _ B _ E hK ⟨rfl, rfl, hH⟩
            replace g0_0 := g0_0.upw hK
            replace hB := hB.trans hK
            refine WO.nil ?_
            refine WX.keep [0, 1, 2] (WX.pk [] (by decide) ?_) rfl
            exact dir_Dir_Put_j10_ok h _ _ _ _ ⟨hB, hH, _, g0_0, rfl, rfl⟩
          · have q_k20 := of_decide_eq_false k20
            replace h := (if_neg q_k20).symm.trans h
            refine WX.condF rfl k20 ?_
            refine WX.skip ?_
            refine WX.keep [0, 1, 2] (WX.pk [] (by decide) ?_) rfl
            exact dir_Dir_Put_j10_ok h _ _ _ _ ⟨hB, hH, _, g0_0, rfl, rfl⟩
      · replace h := (if_neg (bnt k5)).symm.trans h
        refine WX.condT rfl (t_not k5) ?_
        refine WX.seq ?_
        refine WX.reg ?_
        refine WO.q (.as (v := .int _ _) rfl) rfl rfl ?_
        refine WO.nil ?_
        obtain rfl := Option.some.inj h
        exact WX.ret (rs_ (rs_tmp rfl rs_nil)) fun st hp => ⟨_, _, _, hB, (hp.pk [] (by decide)), rfl, rfl, hH⟩
def dir_Dir_Drop_P (B : Kn) (L : Own) (r : Heap × Int) : AV → St → Prop := CH B L fun B' X E' v => v = .int .i64 r.2 ∧ X = [] ∧ HR B' r.1 E'
theorem dir_Dir_Drop_ok {B0 : Kn} {L : Own} {H : Heap} {E : Own} (hH : HR B0 H E) {a0 : Nat} {a1 : List UInt8} {v0_0 : AV} (g0_0 : HPt B0 66 v0_0 a0) {r : Heap × Int} (h : dir_Dir_Drop H a0 a1 = some r) : ∀ st, Hp B0 (E ++ L) st → ASpec Tryd.prog 10 [v0_0, .str a1] st (dir_Dir_Drop_P B0 L r) := by
  unfold dir_Dir_Drop at h
  refine bodyA (A := []) (L := E ++ L) Tryd.func10 rfl (c := bodyOf Tryd.f10) rfl Tryd.ntmps10 (lb rfl) fun n0 => ?_
  have hB := KLw.refl B0
  refine WX.seq ?_
  refine WX.reg ?_
  refine WO.q (.as (v := .int _ _) rfl) rfl rfl ?_
  refine WO.nil ?_
  refine WX.seq ?_
  refine WX.seq ?_
  refine WX.reg ?_
  refine WO.q (.mv (v := v0_0) rfl) rfl rfl ?_
  refine WO.q (.bin (eveqlnil g0_0 ti24 rfl)) rfl rfl ?_
  refine WO.nil ?_
  rcases bsp (decide (a0 = 0)) with k1 | k1
  · have q_k1 := of_decide_eq_true k1
    replace h := (if_pos q_k1).symm.trans h
    refine WX.condT rfl k1 ?_
    refine WX.seq ?_
    refine WX.reg ?_
    refine WO.q (.as (v := .int _ _) rfl) rfl rfl ?_
    refine WO.nil ?_
    obtain rfl := Option.some.inj h
    exact WX.ret (rs_ (rs_tmp rfl rs_nil)) fun st hp => ⟨_, _, _, hB, (hp.pk [] (by decide)), rfl, rfl, hH⟩
  · have q_k1 := of_decide_eq_false k1
    replace h := (if_neg q_k1).symm.trans h
    refine WX.condF rfl k1 ?_
    refine WX.skip ?_
    refine WX.seq ?_
    refine WX.seq ?_
    refine WX.reg ?_
    refine WO.q (.mv (v := v0_0) rfl) rfl rfl ?_
    refine WO.q (.mv (v := .str _) rfl) rfl rfl ?_
    obtain ⟨y2, hy2, h⟩ := Option.bind_eq_some_iff.1 h
    refine WO.cS rfl rfl (rdS (dir_Dir_Get_ok hH g0_0 hy2)) rfl rfl rfl ?_
    rintro _ rfl
    refine WO.q (.mv (v := .tup _) rfl) rfl rfl ?_
    refine WO.q (.r fun _ => rfl) rfl rfl ?_
    refine WO.q (.r fun _ => rfl) rfl rfl ?_
    refine WO.q (.as (v := .int _ _) rfl) rfl rfl ?_
    refine WO.q (.as (v := .bool _) rfl) rfl rfl ?_
    refine WO.nil ?_
    refine WX.seq ?_
    refine WX.reg ?_
    refine WO.q (.mv (v := .bool _) rfl) rfl rfl ?_
    refine WO.q (.r fun _ => rfl) rfl rfl ?_
    refine WO.nil ?_
    rcases bsp y2.2 with k3 | k3
    · replace h := (if_pos k3).symm.trans h
      refine WX.condF rfl (f_not k3) ?_
      refine WX.skip ?_
      refine WX.seq ?_
      refine WX.reg ?_
      refine WO.q (.mv (v := v0_0) rfl) rfl rfl ?_
      refine WO.q (.mv (v := .str _) rfl) rfl rfl ?_
      obtain ⟨y4, hy4, h⟩ := Option.bind_eq_some_iff.1 h
      refine WO.c0 rfl rfl (rd0 (dir_Dir_bucket_ok hH g0_0 hy4)) rfl rfl rfl ?_
      rintro _ B hK ⟨v5, rfl, h6⟩
      replace g0_0 := g0_0.up hK
      replace hH := hH.up hK
      replace hB := hB.trans hK.w
      refine WO.q (.mv (v := .str _) rfl) rfl rfl ?_
      obtain ⟨y7, hy7, h⟩ := Option.bind_eq_some_iff.1 h
      obtain ⟨H8, e_H8, h⟩ := Option.bind_eq_some_iff.1 h
      obtain rfl := Option.some.inj e_H8
      refine WO.en (MOpE.del rfl rfl rfl mt26 (foc26 hH) h6 hy7 Rs rfl rfl) rfl ?_
      rintro _ _ _ E ⟨rfl, rfl, rfl, hH⟩
      replace hH := (hH : HR _ _ _)
      refine WO.nil ?_
      refine WX.seq ?_
      refine WX.reg ?_
      refine WO.q (.mv (v := v0_0) rfl) rfl rfl ?_
      obtain ⟨y9, hy9, h⟩ := Option.bind_eq_some_iff.1 h
      obtain ⟨b_y9, c_y9, e_y9, m_y9, r_y9, u_y9⟩ := hgetS (foc66 hH) g0_0 hy9
      subst e_y9
      obtain ⟨_, _, rfl, ⟨w10, rfl, hw10⟩, rfl⟩ := r_y9
      obtain ⟨_, _, _, _, _, rfl⟩ := hw10.isl
      refine WO.q (.r fun _ => rfl) rfl rfl ?_
      refine WO.q (.fa (fa66_1 _ _)) rfl rfl ?_
      refine WO.ql (.ldSm rfl (inE m_y9) rfl ti3 rfl) rfl rfl ?_
      refine WO.q (.r fun _ => rfl) rfl rfl ?_
      refine WO.q (.r fun _ => rfl) rfl rfl ?_
      refine WO.q (.fa (fa66_1 _ _)) rfl rfl ?_
      obtain ⟨H11, e_H11, h⟩ := Option.bind_eq_some_iff.1 h
      obtain rfl := Option.some.inj e_H11
      obtain ⟨_, z_z12, k_z12⟩ := u_y9 _ (y9.1, (wi64 (y9.2 - 1))) (Rp (Rl hw10) Ri)
      refine WO.en (MOpE.st rfl (cI rfl) z_z12 ti3 rfl rfl (lb rfl) rfl) rfl ?_
      rintro _ _ _ _ ⟨rfl, rfl, rfl⟩
      replace hH := (k_z12 : HR _ _ _)
      refine WO.nil ?_
      refine WX.seq ?_
      refine WX.reg ?_
      refine WO.q (.as (v := .int _ _) rfl) rfl rfl ?_
      refine WO.nil ?_
      obtain rfl := Option.some.inj h
      exact WX.ret (rs_ (rs_tmp rfl rs_nil)) fun st hp => ⟨_, _, _, hB, (hp.pk [] (by decide)), rfl, rfl, hH⟩
    · replace h := (if_neg (bnt k3)).symm.trans h
      refine WX.condT rfl (t_not k3) ?_
      refine WX.seq ?_
      refine WX.reg ?_
      refine WO.q (.as (v := .int _ _) rfl) rfl rfl ?_
      refine WO.nil ?_
      obtain rfl := Option.some.inj h
      exact WX.ret (rs_ (rs_tmp rfl rs_nil)) fun st hp => ⟨_, _, _, hB, (hp.pk [] (by decide)), rfl, rfl, hH⟩
def dir_Dir_Buckets_P (B : Kn) (L : Own) (r : (List Int)) : AV → St → Prop := C1 B L fun B' v e0 => ∃ w0 b0 n0 c0, v = w0 ∧ e0 = oe b0 n0 c0 ∧ OSl (Ty.int .i64) B' w0 b0 n0 c0 r
def dir_Dir_Buckets_l0_I (B0 : Kn) (x11 : List Nat) (x3 : List Int) (x13 : Int) : Fr → Kn → Own → Prop := fun fr B A => KLe B0 B ∧ ∃ v4 b4 n4 c4 v5, OSl (Ty.int .i64) B v4 b4 n4 c4 x3 ∧ RSl (Ty.hm 26) B v5 x11 ∧ fr = [(3, v4), (11, v5), (12, .int .i64 (x11.length : Int)), (13, .int .i64 x13)] ∧ A = [oe b4 n4 c4]
def dir_Dir_Buckets_l0_X0 (B0 : Kn) (x3 : List Int) : Fr → Kn → Own → Prop := fun fr B A => KLe B0 B ∧ ∃ v23 b23 n23 c23, OSl (Ty.int .i64) B v23 b23 n23 c23 x3 ∧ fr = [(3, v23)] ∧ A = [oe b23 n23 c23]
theorem dir_Dir_Buckets_l0_s {B0 : Kn} {L : Own} {n0 : Nat} {H : Heap} {Eh : Own} {x11 : List Nat} {x3 : List Int} {x13 : Int} {Q : AV → St → Prop} {E : ((List Int) × Int) ⊕ (List Int) → Prop} {o : ((List Int) × Int) ⊕ (List Int)} (h : dir_Dir_Buckets_l0 H x11 x3 x13 = some o) (hH0 : HR B0 H Eh) (hn : ∀ s, E (.inl s) → WXI Tryd.prog 24 n0 (Fin Tryd.prog Tryd.f11.results.toList n0 Q) [.lp (ct [1, 1, 1, 0, 1, 0, 0] (bodyOf Tryd.f11)), .blk 0, .code (ct [1, 1, 1, 1] (bodyOf Tryd.f11))] (dir_Dir_Buckets_l0_I B0 x11 s.1 s.2) (Eh ++ L)) (hx0 : ∀ s, E (.inr s) → WXI Tryd.prog 24 n0 (Fin Tryd.prog Tryd.f11.results.toList n0 Q) [.code (ct [1, 1, 1, 1] (bodyOf Tryd.f11))] (dir_Dir_Buckets_l0_X0 B0 s) (Eh ++ L)) (hE : E o) : WXI Tryd.prog 24 n0 (Fin Tryd.prog Tryd.f11.results.toList n0 Q) [.code (ct [1, 1, 1, 0, 1, 0, 0] (bodyOf Tryd.f11)), .lp (ct [1, 1, 1, 0, 1, 0, 0] (bodyOf Tryd.f11)), .blk 0, .code (ct [1, 1, 1, 1] (bodyOf Tryd.f11))] (dir_Dir_Buckets_l0_I B0 x11 x3 x13) (Eh ++ L) := by
  unfold dir_Dir_Buckets_l0 at h
  rintro _ B _ ⟨hB, v4, b4, n4, c4, v5, h4, h5, rfl, rfl⟩
  have hH := hH0.up hB
  obtain ⟨_, _, _, _, _, rfl⟩ := h4.isl
  obtain ⟨_, _, _, _, _, rfl⟩ := h5.isl
  refine WX.seq ?_
  refine WX.reg ?_
  refine WO.q (.r fun _ => rfl) rfl rfl ?_
  refine WO.nil ?_
  refine WX.seq ?_
  rcases bsp (decide (x13 < (x11.length : Int))) with k6 | k6
  · have q_k6 := of_decide_eq_true k6
    replace h := (if_pos q_k6).symm.trans h
    refine WX.condT rfl k6 ?_
    refine WX.skip ?_
    refine WX.seq ?_
    refine WX.block ?_
    refine WX.seq ?_
    refine WX.reg ?_
    obtain ⟨y7, hy7, h⟩ := Option.bind_eq_some_iff.1 h
    obtain ⟨b_y7, o_y7, _, i_y7, p_y7, r_y7⟩ := h5.at sl63 hy7 .i64
    obtain ⟨w8, rfl, hw8⟩ := r_y7
    refine WO.q (.ia i_y7) rfl rfl ?_
    refine WO.q (.lp0 rfl p_y7 rfl ti26 rfl) rfl rfl ?_
    refine WO.q (.as (v := w8) rfl) rfl rfl ?_
    refine WO.nil ?_
    refine WX.reg ?_
    refine WO.q (.mv (v := .sl _ _ _ _ _ _) rfl) rfl rfl ?_
    refine WO.q (.mv (v := w8) rfl) rfl rfl ?_
    obtain ⟨y9, hy9, h⟩ := Option.bind_eq_some_iff.1 h
    refine WO.md (MOp.lenM rfl rfl rfl mt26 (foc26 hH) hw8 hy9 rfl) rfl rfl ?_
    rintro _ _ ⟨rfl, rfl⟩
    refine WO.md (MOp.bs (l := ([(y9.length : Int)] : List Int)) sl32 (RL.cons Ri RL.nil) (lb rfl) rfl rfl) rfl rfl ?_
    rintro v12 _ ⟨b10, o11, rfl⟩
    obtain ⟨_, _, _, _, _, rfl⟩ := o11.isl
    obtain ⟨y14, hy14, h⟩ := Option.bind_eq_some_iff.1 h
    refine WO.md (MOp.app rfl rfl rfl sl32 h4 (Src.o (i := 0) sl32 o11 rfl) hy14 rfl rfl (fun _ => (.t .h))) rfl rfl ?_
    rintro v18 _ ⟨b15, n16, o17, rfl⟩
    obtain ⟨_, _, _, _, _, rfl⟩ := o17.isl
    refine WO.q (.as (v := .sl _ _ _ _ _ _) rfl) rfl rfl ?_
    refine WO.nil ?_
    refine WX.pop ?_
    refine WX.reg ?_
    refine WO.q (.r fun _ => rfl) rfl rfl ?_
    refine WO.q (.mv (v := .int _ _) rfl) rfl rfl ?_
    refine WO.nil ?_
    refine WX.keepL [3, 11, 12, 13] (WX.pk [1] (by decide) ?_) rfl
    obtain rfl := Option.some.inj h
    exact hn _ hE _ _ _ ⟨hB, _, _, n16, _, _, o17, h5, rfl, rfl⟩
  · have q_k6 := of_decide_eq_false k6
    replace h := (if_neg q_k6).symm.trans h
    refine WX.condF rfl k6 ?_
    refine WX.exit rfl ?_
    refine WX.keep [3] (WX.pk [0] (by decide) ?_) rfl
    obtain rfl := Option.some.inj h
    exact hx0 _ hE _ _ _ ⟨hB, _, _, n4, _, h4, rfl, rfl⟩
theorem dir_Dir_Buckets_l0_ok {B0 : Kn} {L : Own} {n0 : Nat} {H : Heap} {Eh : Own} {x11 : List Nat} {x3 : List Int} {x13 : Int} {Q : AV → St → Prop} {d : Nat} {e : (List Int)} (h : iter (fun (s : (List Int) × Int) => dir_Dir_Buckets_l0 H x11 s.1 s.2) d (x3, x13) = some e) (hH0 : HR B0 H Eh) (g0 : ∀ s, e = s → WXI Tryd.prog 24 n0 (Fin Tryd.prog Tryd.f11.results.toList n0 Q) [.code (ct [1, 1, 1, 1] (bodyOf Tryd.f11))] (dir_Dir_Buckets_l0_X0 B0 s) (Eh ++ L)) : WXI Tryd.prog 24 n0 (Fin Tryd.prog Tryd.f11.results.toList n0 Q) [.code (ct [1, 1, 1, 0, 1, 0, 0] (bodyOf Tryd.f11)), .lp (ct [1, 1, 1, 0, 1, 0, 0] (bodyOf Tryd.f11)), .blk 0, .code (ct [1, 1, 1, 1] (bodyOf Tryd.f11))] (dir_Dir_Buckets_l0_I B0 x11 x3 x13) (Eh ++ L) :=
  iter_ok (I := fun s => dir_Dir_Buckets_l0_I B0 x11 s.1 s.2) (D := fun e => (∀ s, e = s → WXI Tryd.prog 24 n0 (Fin Tryd.prog Tryd.f11.results.toList n0 Q) [.code (ct [1, 1, 1, 1] (bodyOf Tryd.f11))] (dir_Dir_Buckets_l0_X0 B0 s) (Eh ++ L))) (fun E hn hx s o ho hE => dir_Dir_Buckets_l0_s (x3 := s.1) (x13 := s.2) ho hH0 hn (fun s hs => (hx _ hs) _ rfl)  hE) h g0
theorem dir_Dir_Buckets_ok {B0 : Kn} {L : Own} {H : Heap} {Eh : Own} (hH : HR B0 H Eh) {a0 : Nat} {v0_0 : AV} (g0_0 : HPt B0 66 v0_0 a0) {r : (List Int)} (h : dir_Dir_Buckets H a0 = some r) : ∀ st, Hp B0 (Eh ++ L) st → ASpec Tryd.prog 11 [v0_0] st (dir_Dir_Buckets_P B0 (Eh ++ L) r) := by
  unfold dir_Dir_Buckets at h
  refine bodyA (A := []) (L := Eh ++ L) Tryd.func11 rfl (c := bodyOf Tryd.f11) rfl Tryd.ntmps11 (lb rfl) fun n0 => ?_
  have hB := KLe.refl B0
  have hH0 := hH
  refine WX.seq ?_
  refine WX.reg ?_
  refine WO.q (.as (v := .sl _ _ _ _ _ _) rfl) rfl rfl ?_
  refine WO.nil ?_
  refine WX.seq ?_
  refine WX.seq ?_
  refine WX.reg ?_
  refine WO.q (.mv (v := v0_0) rfl) rfl rfl ?_
  refine WO.q (.bin (eveqlnil g0_0 ti24 rfl)) rfl rfl ?_
  refine WO.nil ?_
  rcases bsp (decide (a0 = 0)) with k1 | k1
  · have q_k1 := of_decide_eq_true k1
    replace h := (if_pos q_k1).symm.trans h
    refine WX.condT rfl k1 ?_
    refine WX.seq ?_
    refine WX.reg ?_
    refine WO.q (.as (v := .sl _ _ _ _ _ _) rfl) rfl rfl ?_
    refine WO.nil ?_
    obtain rfl := Option.some.inj h
    exact WX.ret (rs_ (rs_tmp rfl rs_nil)) fun st hp => ⟨_, _, hB, ((hp.pk [] (by decide)).skip 0), _, 0, true, [], rfl, rfl, OSl.none _ _⟩
  · have q_k1 := of_decide_eq_false k1
    replace h := (if_neg q_k1).symm.trans h
    refine WX.condF rfl k1 ?_
    refine WX.skip ?_
    refine WX.seq ?_
    refine WX.reg ?_
    refine WO.q (.as (v := .sl _ _ _ _ _ _) rfl) rfl rfl ?_
    refine WO.nil ?_
    refine WX.seq ?_
    refine WX.seq ?_
    refine WX.reg ?_
    refine WO.q (.mv (v := v0_0) rfl) rfl rfl ?_
    obtain ⟨y2, hy2, h⟩ := Option.bind_eq_some_iff.1 h
    obtain ⟨b_y2, c_y2, e_y2, m_y2, r_y2, u_y2⟩ := hgetS (foc66 hH) g0_0 hy2
    subst e_y2
    obtain ⟨_, _, rfl, ⟨w3, rfl, hw3⟩, rfl⟩ := r_y2
    obtain ⟨_, _, _, _, _, rfl⟩ := hw3.isl
    refine WO.q (.r fun _ => rfl) rfl rfl ?_
    refine WO.q (.fa (fa66_0 _ _)) rfl rfl ?_
    refine WO.ql (.ldSm rfl (inE m_y2) rfl ti63 rfl) rfl rfl ?_
    refine WO.q (.len rfl rfl rfl (sl63.len hw3.isl)) rfl rfl ?_
    refine WO.q (.mv (v := .int _ _) rfl) rfl rfl ?_
    refine WO.nil ?_
    refine WX.block ?_
    refine WX.loop ?_
    obtain ⟨e20, he20, h⟩ := Option.bind_eq_some_iff.1 h
    refine WX.keep [3, 11, 12, 13] (WX.pk [] (by decide) (WX.addn [0] ?_)) rfl
    refine dir_Dir_Buckets_l0_ok he20 hH0 ?_ _ _ _ ⟨hB, _, 0, true, [], _, OSl.none _ _, hw3, rfl, rfl⟩
    · intro s22 he_
      subst he_
      replace h := h
      rintro _ B _ ⟨hB, v21, b21, n21, c21, h21, rfl, rfl⟩
      have hH := hH0.up hB
      obtain ⟨_, _, _, _, _, rfl⟩ := h21.isl
      refine WX.seq ?_
      refine WX.reg ?_
      refine WO.q (.mv (v := .sl _ _ _ _ _ _) rfl) rfl rfl ?_
      refine WO.q (.as (v := .sl _ _ _ _ _ _) rfl) rfl rfl ?_
      refine WO.nil ?_
      obtain rfl := Option.some.inj h
      exact WX.ret (rs_ (rs_tmp rfl rs_nil)) fun st hp => ⟨_, _, hB, (hp.pk [0] (by decide)), _, _, n21, _, rfl, rfl, h21⟩
def dir_Dir_Len_P (B : Kn) (L : Own) (r : Int) : AV → St → Prop := CS B L fun v => v = .int .i64 r
theorem dir_Dir_Len_ok {B0 : Kn} {L : Own} {H : Heap} {Eh : Own} (hH : HR B0 H Eh) {a0 : Nat} {v0_0 : AV} (g0_0 : HPt B0 66 v0_0 a0) {r : Int} (h : dir_Dir_Len H a0 = some r) : ∀ st, Hp B0 (Eh ++ L) st → ASpec Tryd.prog 14 [v0_0] st (dir_Dir_Len_P B0 (Eh ++ L) r) := by
  unfold dir_Dir_Len at h
  refine bodyA (A := []) (L := Eh ++ L) Tryd.func14 rfl (c := bodyOf Tryd.f14) rfl Tryd.ntmps14 (lb rfl) fun n0 => ?_
  have hB := KLe.refl B0
  have hH0 := hH
  refine WX.seq ?_
  refine WX.reg ?_
  refine WO.q (.as (v := .int _ _) rfl) rfl rfl ?_
  refine WO.nil ?_
  refine WX.seq ?_
  refine WX.seq ?_
  refine WX.reg ?_
  refine WO.q (.mv (v := v0_0) rfl) rfl rfl ?_
  refine WO.q (.bin (eveqlnil g0_0 ti24 rfl)) rfl rfl ?_
  refine WO.nil ?_
  rcases bsp (decide (a0 = 0)) with k1 | k1
  · have q_k1 := of_decide_eq_true k1
    replace h := (if_pos q_k1).symm.trans h
    refine WX.condT rfl k1 ?_
    refine WX.seq ?_
    refine WX.reg ?_
    refine WO.q (.as (v := .int _ _) rfl) rfl rfl ?_
    refine WO.nil ?_
    obtain rfl := Option.some.inj h
    exact WX.ret (rs_ (rs_tmp rfl rs_nil)) fun st hp => ⟨(hp.pk [] (by decide)).le hB, rfl⟩
  · have q_k1 := of_decide_eq_false k1
    replace h := (if_neg q_k1).symm.trans h
    refine WX.condF rfl k1 ?_
    refine WX.skip ?_
    refine WX.seq ?_
    refine WX.reg ?_
    refine WO.q (.mv (v := v0_0) rfl) rfl rfl ?_
    obtain ⟨y2, hy2, h⟩ := Option.bind_eq_some_iff.1 h
    obtain ⟨b_y2, c_y2, e_y2, m_y2, r_y2, u_y2⟩ := hgetS (foc66 hH) g0_0 hy2
    subst e_y2
    obtain ⟨_, _, rfl, ⟨w3, rfl, hw3⟩, rfl⟩ := r_y2
    obtain ⟨_, _, _, _, _, rfl⟩ := hw3.isl
    refine WO.q (.r fun _ => rfl) rfl rfl ?_
    refine WO.q (.fa (fa66_1 _ _)) rfl rfl ?_
    refine WO.ql (.ldSm rfl (inE m_y2) rfl ti3 rfl) rfl rfl ?_
    refine WO.q (.as (v := .int _ _) rfl) rfl rfl ?_
    refine WO.nil ?_
    obtain rfl := Option.some.inj h
    exact WX.ret (rs_ (rs_tmp rfl rs_nil)) fun st hp => ⟨(hp.pk [] (by decide)).le hB, rfl⟩
def dir_Dir_Copy_P (B : Kn) (L : Own) (r : Heap × Nat) : AV → St → Prop := CH B L fun B' X E' v => ∃ wp0, v = wp0 ∧ X = [] ∧ HR B' r.1 E' ∧ HPt B' 66 wp0 r.2
def dir_Dir_Copy_l0_I (B0 : Kn) (x17 : List Nat) (H : Heap) (x19 : Int) (zb13 : (List Nat) × Int) : Fr → Kn → Own → Own → Prop := fun fr B A E => KLw B0 B ∧ HR B H E ∧ ∃ b5 v6 b6 n6 c6 v7, OSl (Ty.hm 26) B v6 b6 n6 c6 zb13.1 ∧ RSl (Ty.hm 26) B v7 x17 ∧ fr = [(3, .ptr b5 0), (17, v7), (18, .int .i64 (x17.length : Int)), (19, .int .i64 x19)] ∧ A = [(b5, some (.c [v6, .int .i64 zb13.2])), oe b6 n6 c6]
def dir_Dir_Copy_l0_X0 (B0 : Kn) (H : Heap) (zb13 : (List Nat) × Int) : Fr → Kn → Own → Own → Prop := fun fr B A E => KLw B0 B ∧ HR B H E ∧ ∃ b32 v33 b33 n33 c33, OSl (Ty.hm 26) B v33 b33 n33 c33 zb13.1 ∧ fr = [(3, .ptr b32 0)] ∧ A = [(b32, some (.c [v33, .int .i64 zb13.2])), oe b33 n33 c33]
theorem dir_Dir_Copy_l0_s {B0 : Kn} {L : Own} {n0 : Nat} {x17 : List Nat} {H : Heap} {x19 : Int} {zb13 : (List Nat) × Int} {Q : AV → St → Prop} {E : (Heap × Int × ((List Nat) × Int)) ⊕ (Heap × ((List Nat) × Int)) → Prop} {o : (Heap × Int × ((List Nat) × Int)) ⊕ (Heap × ((List Nat) × Int))} (h : dir_Dir_Copy_l0 x17 H x19 zb13 = some o) (hn : ∀ s, E (.inl s) → WXH Tryd.prog 36 n0 (Fin Tryd.prog Tryd.f19.results.toList n0 Q) [.lp (ct [1, 1, 1, 0, 1, 0, 0] (bodyOf Tryd.f19)), .blk 0, .code (ct [1, 1, 1, 1] (bodyOf Tryd.f19))] (dir_Dir_Copy_l0_I B0 x17 s.1 s.2.1 s.2.2) L) (hx0 : ∀ s, E (.inr s) → WXH Tryd.prog 36 n0 (Fin Tryd.prog Tryd.f19.results.toList n0 Q) [.code (ct [1, 1, 1, 1] (bodyOf Tryd.f19))] (dir_Dir_Copy_l0_X0 B0 s.1 s.2) L) (hE : E o) : WXH Tryd.prog 36 n0 (Fin Tryd.prog Tryd.f19.results.toList n0 Q) [.code (ct [1, 1, 1, 0, 1, 0, 0] (bodyOf Tryd.f19)), .lp (ct [1, 1, 1, 0, 1, 0, 0] (bodyOf Tryd.f19)), .blk 0, .code (ct [1, 1, 1, 1] (bodyOf Tryd.f19))] (dir_Dir_Copy_l0_I B0 x17 H x19 zb13) L := by
  unfold dir_Dir_Copy_l0 at h
  rintro _ B _ E ⟨hB, hH, b5, v6, b6, n6, c6, v7, h6, h7, rfl, rfl⟩
  obtain ⟨_, _, _, _, _, rfl⟩ := h6.isl
  obtain ⟨_, _, _, _, _, rfl⟩ := h7.isl
  refine WX.seq ?_
  refine WX.reg ?_
  refine WO.q (.r fun _ => rfl) rfl rfl ?_
  refine WO.nil ?_
  refine WX.seq ?_
  rcases bsp (decide (x19 < (x17.length : Int))) with k8 | k8
  · have q_k8 := of_decide_eq_true k8
    replace h := (if_pos q_k8).symm.trans h
    refine WX.condT rfl k8 ?_
    refine WX.skip ?_
    refine WX.seq ?_
    refine WX.block ?_
    refine WX.seq ?_
    refine WX.reg ?_
    obtain ⟨y9, hy9, h⟩ := Option.bind_eq_some_iff.1 h
    obtain ⟨b_y9, o_y9, _, i_y9, p_y9, r_y9⟩ := h7.at sl63 hy9 .i64
    obtain ⟨w10, rfl, hw10⟩ := r_y9
    refine WO.q (.ia i_y9) rfl rfl ?_
    refine WO.q (.lp0 rfl p_y9 rfl ti26 rfl) rfl rfl ?_
    refine WO.q (.as (v := w10) rfl) rfl rfl ?_
    refine WO.nil ?_
    refine WX.drw (Plan.of [0, 1, 2, 3, 4, 5, 6, 7, 8, 9, 10, 11] .nil) _ mixed (by kernel_rfl) rfl (subL (pk_sub [0])) ?_
    refine WP.q (i := 0) rfl (.mv (v := .ptr _ _) rfl) rfl rfl rfl ?_
    refine WP.q (i := 1) rfl (.mv (v := .ptr _ _) rfl) rfl rfl rfl ?_
    refine WP.q (i := 2) rfl (.r fun _ => rfl) rfl rfl rfl ?_
    refine WP.q (i := 3) rfl (.fa (fa66_0 _ _)) rfl rfl rfl ?_
    refine WP.q (i := 4) rfl (.ldS (i := 0) rfl rfl rfl ti63 rfl) rfl rfl rfl ?_
    refine WP.q (i := 5) rfl (.mv (v := w10) rfl) rfl rfl rfl ?_
    obtain ⟨y11, hy11, h⟩ := Option.bind_eq_some_iff.1 h
    refine WP.ch (i := 6) rfl rfl rfl (maps_Clone_map_string_int_string_int_ok hH hw10 hy11) rfl rfl rfl (pk_in (jx := [0]) rfl) ?_
    rintro v12 B _ E hK ⟨_, rfl, rfl, hH, h13⟩
    replace h7 := h7.upw hK
    replace hw10 := hw10.upw hK
    replace h6 := h6.upw hK
    replace hB := hB.trans hK
    refine WP.md (i := 7) rfl (MOp.bs (l := ([y11.2] : List Nat)) sl63 (RL.cons (Rhm h13) RL.nil) (lb rfl) (fillc (by rfl) (cHm rfl h13) (by exact ⟨rfl, lb rfl⟩) (by rfl)) rfl) rfl rfl rfl ?_
    rintro v16 _ ⟨b14, o15, rfl⟩
    obtain ⟨_, _, _, _, _, rfl⟩ := o15.isl
    refine ⟨pkL (jx := [1]) rfl, ?_⟩
    obtain ⟨y18, hy18, h⟩ := Option.bind_eq_some_iff.1 h
    refine WP.md (i := 8) rfl (MOp.app rfl rfl rfl sl63 h6 (Src.o (i := 0) sl63 o15 rfl) hy18 rfl rfl (fun _ => (.t (.t .h)))) rfl rfl rfl ?_
    rintro v22 _ ⟨b19, n20, o21, rfl⟩
    obtain ⟨_, _, _, _, _, rfl⟩ := o21.isl
    refine ⟨pkL (jx := [1]) rfl, ?_⟩
    refine WP.q (i := 9) rfl (.r fun _ => rfl) rfl rfl rfl ?_
    refine WP.q (i := 10) rfl (.fa (fa66_0 _ _)) rfl rfl rfl ?_
    refine WP.msn (i := 11) rfl (MOp.store (cs' := [_, .int .i64 zb13.2]) rfl (cL rfl) (.t .h) ti63 rfl rfl (lb rfl) rfl) rfl (by kernel_rfl) rfl ?_
    rintro _ _ rfl
    refine WS.nil ?_
    refine WX.pop ?_
    refine WX.reg ?_
    refine WO.q (.r fun _ => rfl) rfl rfl ?_
    refine WO.q (.mv (v := .int _ _) rfl) rfl rfl ?_
    refine WO.nil ?_
    refine WX.keepL [3, 17, 18, 19] (WX.pk [1, 2] (by decide) ?_) rfl
    obtain rfl := Option.some.inj h
    exact hn _ hE _ _ _ _ ⟨hB, hH, _, _, _, n20, _, _, o21, h7, rfl, rfl⟩
  · have q_k8 := of_decide_eq_false k8
    replace h := (if_neg q_k8).symm.trans h
    refine WX.condF rfl k8 ?_
    refine WX.exit rfl ?_
    refine WX.keep [3] (WX.pk [0, 1] (by decide) ?_) rfl
    obtain rfl := Option.some.inj h
    exact hx0 _ hE _ _ _ _ ⟨hB, hH, _, _, _, n6, _, h6, rfl, rfl⟩
theorem dir_Dir_Copy_l0_ok {B0 : Kn} {L : Own} {n0 : Nat} {x17 : List Nat} {H : Heap} {x19 : Int} {zb13 : (List Nat) × Int} {Q : AV → St → Prop} {d : Nat} {e : (Heap × ((List Nat) × Int))} (h : iter (fun (s : Heap × Int × ((List Nat) × Int)) => dir_Dir_Copy_l0 x17 s.1 s.2.1 s.2.2) d (H, x19, zb13) = some e) (g0 : ∀ s, e = s → WXH Tryd.prog 36 n0 (Fin Tryd.prog Tryd.f19.results.toList n0 Q) [.code (ct [1, 1, 1, 1] (bodyOf Tryd.f19))] (dir_Dir_Copy_l0_X0 B0 s.1 s.2) L) : WXH Tryd.prog 36 n0 (Fin Tryd.prog Tryd.f19.results.toList n0 Q) [.code (ct [1, 1, 1, 0, 1, 0, 0] (bodyOf Tryd.f19)), .lp (ct [1, 1, 1, 0, 1, 0, 0] (bodyOf Tryd.f19)), .blk 0, .code (ct [1, 1, 1, 1] (bodyOf Tryd.f19))] (dir_Dir_Copy_l0_I B0 x17 H x19 zb13) L :=
  iter_okH (I := fun s => dir_Dir_Copy_l0_I B0 x17 s.1 s.2.1 s.2.2) (D := fun e => (∀ s, e = s → WXH Tryd.prog 36 n0 (Fin Tryd.prog Tryd.f19.results.toList n0 Q) [.code (ct [1, 1, 1, 1] (bodyOf Tryd.f19))] (dir_Dir_Copy_l0_X0 B0 s.1 s.2) L)) (fun E hn hx s o ho hE => dir_Dir_Copy_l0_s (H := s.1) (x19 := s.2.1) (zb13 := s.2.2) ho hn (fun s hs => (hx _ hs) _ rfl)  hE) h g0
theorem dir_Dir_Copy_ok {B0 : Kn} {L : Own} {H : Heap} {E : Own} (hH : HR B0 H E) {a0 : Nat} {v0_0 : AV} (g0_0 : HPt B0 66 v0_0 a0) {r : Heap × Nat} (h : dir_Dir_Copy H a0 = some r) : ∀ st, Hp B0 (E ++ L) st → ASpec Tryd.prog 19 [v0_0] st (dir_Dir_Copy_P B0 L r) := by
  unfold dir_Dir_Copy at h
  refine bodyA (A := []) (L := E ++ L) Tryd.func19 rfl (c := bodyOf Tryd.f19) rfl Tryd.ntmps19 (lb rfl) fun n0 => ?_
  have hB := KLw.refl B0
  refine WX.seq ?_
  refine WX.reg ?_
  refine WO.q (.as (v := .nilptr) rfl) rfl rfl ?_
  refine WO.nil ?_
  refine WX.seq ?_
  refine WX.seq ?_
  refine WX.reg ?_
  refine WO.q (.mv (v := v0_0) rfl) rfl rfl ?_
  refine WO.q (.bin (eveqlnil g0_0 ti24 rfl)) rfl rfl ?_
  refine WO.nil ?_
  rcases bsp (decide (a0 = 0)) with k1 | k1
  · have q_k1 := of_decide_eq_true k1
    replace h := (if_pos q_k1).symm.trans h
    refine WX.condT rfl k1 ?_
    refine WX.seq ?_
    refine WX.reg ?_
    refine WO.q (.as (v := .nilptr) rfl) rfl rfl ?_
    refine WO.nil ?_
    obtain rfl := Option.some.inj h
    exact WX.ret (rs_ (rs_tmp rfl rs_nil)) fun st hp => ⟨_, _, _, hB, (hp.pk [] (by decide)), _, rfl, rfl, hH, HPt.nil⟩
  · have q_k1 := of_decide_eq_false k1
    replace h := (if_neg q_k1).symm.trans h
    refine WX.condF rfl k1 ?_
    refine WX.skip ?_
    refine WX.seq ?_
    refine WX.reg ?_
    refine WO.q (.mv (v := v0_0) rfl) rfl rfl ?_
    obtain ⟨y2, hy2, h⟩ := Option.bind_eq_some_iff.1 h
    obtain ⟨b_y2, c_y2, e_y2, m_y2, r_y2, u_y2⟩ := hgetS (foc66 hH) g0_0 hy2
    subst e_y2
    obtain ⟨_, _, rfl, ⟨w3, rfl, hw3⟩, rfl⟩ := r_y2
    obtain ⟨_, _, _, _, _, rfl⟩ := hw3.isl
    refine WO.q (.r fun _ => rfl) rfl rfl ?_
    refine WO.q (.fa (fa66_1 _ _)) rfl rfl ?_
    refine WO.ql (.ldSm rfl (inE m_y2) rfl ti3 rfl) rfl rfl ?_
    refine WO.q (.bd (bd66_1 (cI rfl))) rfl rfl ?_
    refine WO.md (MOp.box (cA rfl)) rfl rfl ?_
    rintro _ _ ⟨b4, rfl, rfl⟩
    refine WO.q (.as (v := .ptr _ _) rfl) rfl rfl ?_
    refine WO.nil ?_
    refine WX.seq ?_
    refine WX.seq ?_
    refine WX.reg ?_
    refine WO.q (.mv (v := .ptr b_y2 0) rfl) rfl rfl ?_
    refine WO.q (.r fun _ => rfl) rfl rfl ?_
    refine WO.q (.fa (fa66_0 _ _)) rfl rfl ?_
    refine WO.ql (.ldSm rfl (inE m_y2) rfl ti63 rfl) rfl rfl ?_
    refine WO.q (.len rfl rfl rfl (sl63.len hw3.isl)) rfl rfl ?_
    refine WO.q (.mv (v := .int _ _) rfl) rfl rfl ?_
    refine WO.nil ?_
    refine WX.block ?_
    refine WX.loop ?_
    obtain ⟨e25, he25, h⟩ := Option.bind_eq_some_iff.1 h
    refine WX.keep [3, 17, 18, 19] (WX.pk [0] (by decide) (WX.addn [1] ?_)) rfl
    refine dir_Dir_Copy_l0_ok he25 ?_ _ _ _ _ ⟨hB, hH, _, _, 0, true, [], _, OSl.none _ _, hw3, rfl, rfl⟩
    · intro s31 he_
      subst he_
      replace h := h
      rintro _ B _ E ⟨hB, hH, b26, v27, b27, n27, c27, h27, rfl, rfl⟩
      obtain ⟨_, _, _, _, _, rfl⟩ := h27.isl
      refine WX.seq ?_
      refine WX.reg ?_
      refine WO.q (.mv (v := .ptr _ _) rfl) rfl rfl ?_
      refine WO.q (.as (v := .ptr _ _) rfl) rfl rfl ?_
      refine WO.nil ?_
      refine WX.fz (j := 1) h27 rfl ?_
      intro B hK g28
      replace hH := hH.up hK
      replace hB := hB.trans hK.w
      obtain ⟨H30, e_H30, h⟩ := Option.bind_eq_some_iff.1 h
      obtain rfl := Option.some.inj e_H30
      refine WX.abs (j := 0) (x := e25.2) (foc66 hH) rfl (Rp (Rl g28) Ri) ?_
      intro B E hK g29 hH
      replace hH := (hH : HR _ _ _)
      replace hB := hB.trans hK
      obtain rfl := Option.some.inj h
      exact WX.ret (rs_ (rs_tmp rfl rs_nil)) fun st hp => ⟨_, _, _, hB, (hp.pk [] (by decide)), _, rfl, rfl, hH, g29⟩
def dir_Entry_Text_P (B : Kn) (L : Own) (r : (List UInt8)) : AV → St → Prop := CS B L fun v => v = .str r
def dir_Entry_Text_j1_I (B0 : Kn) (x1 : Int) (x19 : Bool) (zb2 : (List UInt8) × Int) : Fr → Kn → Own → Prop := fun fr B A => KLe B0 B ∧ ∃ b4, fr = [(1, .int .i64 x1), (2, .ptr b4 0), (19, .bool x19)] ∧ A = [(b4, some (.c [.str zb2.1, .int .i64 zb2.2]))]
theorem dir_Entry_Text_j1_ok {B0 : Kn} {L : Own} {n0 : Nat} {x1 : Int} {x19 : Bool} {zb2 : (List UInt8) × Int} {r : (List UInt8)} (h : dir_Entry_Text_j1 x1 x19 zb2 = some r) : WXI Tryd.prog 31 n0 (Fin Tryd.prog Tryd.f23.results.toList n0 (dir_Entry_Text_P B0 L r)) [.code (ct [1, 0, 1] (bodyOf Tryd.f23)), .code (ct [1, 1] (bodyOf Tryd.f23))] (dir_Entry_Text_j1_I B0 x1 x19 zb2) L := by
  unfold dir_Entry_Text_j1 at h
  rintro _ B _ ⟨hB, b4, rfl, rfl⟩
  rcases bsp x19 with k5 | k5
  · replace h := (if_pos k5).symm.trans h
    refine WX.condT rfl k5 ?_
    refine WX.seq ?_
    refine WX.reg ?_
    refine WO.q (.as (v := .str _) rfl) rfl rfl ?_
    refine WO.nil ?_
    obtain rfl := Option.some.inj h
    exact WX.ret (rs_ (rs_tmp rfl rs_nil)) fun st hp => ⟨(hp.pk [] (by decide)).le hB, rfl⟩
  · replace h := (if_neg (bnt k5)).symm.trans h
    refine WX.condF rfl k5 ?_
    refine WX.skip ?_
    refine WX.seq ?_
    refine WX.drw (Plan.of [0, 1, 3, 4, 5, 8, 9, 2, 6, 7, 10, 11] .nil) _ mixed (by kernel_rfl) rfl (subL (pk_sub [0])) ?_
    refine WP.q (i := 0) rfl (.mv (v := .int _ _) rfl) rfl rfl rfl ?_
    refine WP.q (i := 1) rfl (cvI ti3 ti76 rfl rfl) (isQc ti3 ti76 rfl) rfl rfl ?_
    refine WP.q (i := 3) rfl (.fa (fa42_1 _ _)) rfl rfl rfl ?_
    refine WP.q (i := 4) rfl (.ldS (i := 0) rfl rfl rfl ti3 rfl) rfl rfl rfl ?_
    refine WP.q (i := 5) rfl (cvI ti3 ti76 rfl rfl) (isQc ti3 ti76 rfl) rfl rfl ?_
    refine WP.q (i := 8) rfl (.fa (fa42_0 _ _)) rfl rfl rfl ?_
    refine WP.q (i := 9) rfl (.ldS (i := 0) rfl rfl rfl ti9 rfl) rfl rfl rfl ?_
    obtain ⟨y6, hy6, h⟩ := Option.bind_eq_some_iff.1 h
    refine WP.cS (i := 2) rfl rfl rfl (le_Put_ok hy6) rfl rfl rfl ?_
    rintro _ rfl
    obtain ⟨y7, hy7, h⟩ := Option.bind_eq_some_iff.1 h
    refine WP.cS (i := 6) rfl rfl rfl (le_Put_ok hy7) rfl rfl rfl ?_
    rintro _ rfl
    obtain ⟨y8, hy8, h⟩ := Option.bind_eq_some_iff.1 h
    refine WP.q (i := 7) rfl (.bin (evcat hy8)) rfl rfl rfl ?_
    obtain ⟨y9, hy9, h⟩ := Option.bind_eq_some_iff.1 h
    refine WP.q (i := 10) rfl (.bin (evcat hy9)) rfl rfl rfl ?_
    refine WP.q (i := 11) rfl (.as (v := .str _) rfl) rfl rfl rfl ?_
    refine WP.nil ?_
    obtain rfl := Option.some.inj h
    exact WX.ret (rs_ (rs_tmp rfl rs_nil)) fun st hp => ⟨(hp.pk [] (by decide)).le hB, rfl⟩
theorem dir_Entry_Text_ok {B0 : Kn} {L : Own} {a0 : (List UInt8) × Int} {a1 : Int} {r : (List UInt8)} (h : dir_Entry_Text a0 a1 = some r) : ∀ st, Hp B0 L st → ASpec Tryd.prog 23 [.agg [.str a0.1, .int .i64 a0.2], .int .i64 a1] st (dir_Entry_Text_P B0 L r) := by
  unfold dir_Entry_Text at h
  refine bodyA (A := []) Tryd.func23 rfl (c := bodyOf Tryd.f23) rfl Tryd.ntmps23 (lb rfl) fun n0 => ?_
  have hB := KLe.refl B0
  refine WX.seq ?_
  refine WX.reg ?_
  refine WO.md (MOp.box (cA rfl)) rfl rfl ?_
  rintro _ _ ⟨b1, rfl, rfl⟩
  refine WO.q (.as (v := .str _) rfl) rfl rfl ?_
  refine WO.nil ?_
  refine WX.seq ?_
  refine WX.seq ?_
  refine WX.reg ?_
  refine WO.q (.fa (fa42_0 _ _)) rfl rfl ?_
  refine WO.q (.ldS (i := 0) rfl rfl rfl ti9 rfl) rfl rfl ?_
  obtain ⟨y2, hy2, h⟩ := Option.bind_eq_some_iff.1 h
  refine WO.cS rfl rfl (dir_Name_ok hy2) rfl rfl rfl ?_
  rintro _ rfl
  refine WO.q (.r fun _ => rfl) rfl rfl ?_
  refine WO.q (.mv (v := .bool _) rfl) rfl rfl ?_
  rcases bsp (decide (y2 ≠ 0)) with k3 | k3
  · have q_k3 := of_decide_eq_true k3
    replace h := (if_pos q_k3).symm.trans h
    refine WO.sd (wg rfl rfl (gfn k3)) rfl ?_
    refine WO.sd (wg rfl rfl (gfn k3)) rfl ?_
    refine WO.sd (wg rfl rfl (gfn k3)) rfl ?_
    refine WO.sd (wg rfl rfl (gfn k3)) rfl ?_
    refine WO.q (.ptv (v := .bool _) rfl k3 rfl) rfl rfl ?_
    refine WO.q (.mv (v := .bool _) rfl) rfl rfl ?_
    refine WO.sd (wg rfl rfl (gfn rfl)) rfl ?_
    refine WO.sd (wg rfl rfl (gfn rfl)) rfl ?_
    refine WO.sd (wg rfl rfl (gfn rfl)) rfl ?_
    refine WO.q (.ptv (v := .bool _) rfl rfl rfl) rfl rfl ?_
    refine WO.nil ?_
    refine WX.keep [1, 2, 19] (WX.pk [0] (by decide) ?_) rfl
    exact dir_Entry_Text_j1_ok h _ _ _ ⟨hB, _, rfl, rfl⟩
  · have q_k3 := of_decide_eq_false k3
    replace h := (if_neg q_k3).symm.trans h
    refine WO.q (.fa (fa42_1 _ _)) (wg rfl rfl (gf k3)) rfl ?_
    refine WO.q (.ldS (i := 0) rfl rfl rfl ti3 rfl) (wg rfl rfl (gf k3)) rfl ?_
    obtain ⟨y10, hy10, h⟩ := Option.bind_eq_some_iff.1 h
    refine WO.cS rfl rfl (dir_number_ok hy10) rfl (wg rfl rfl (gf k3)) rfl ?_
    rintro _ rfl
    refine WO.q (.r fun _ => rfl) (wg rfl rfl (gf k3)) rfl ?_
    refine WO.q (.pfv (v := .bool _) rfl k3 rfl) rfl rfl ?_
    refine WO.q (.mv (v := .bool _) rfl) rfl rfl ?_
    rcases bsp y10 with k11 | k11
    · replace h := (if_pos k11).symm.trans h
      refine WO.q (.mv (v := .int _ _) rfl) (wg rfl rfl (gf (f_not k11))) rfl ?_
      obtain ⟨y12, hy12, h⟩ := Option.bind_eq_some_iff.1 h
      refine WO.cS rfl rfl (dir_number_ok hy12) rfl (wg rfl rfl (gf (f_not k11))) rfl ?_
      rintro _ rfl
      refine WO.q (.r fun _ => rfl) (wg rfl rfl (gf (f_not k11))) rfl ?_
      refine WO.q (.pfv (v := .bool _) rfl (f_not k11) rfl) rfl rfl ?_
      refine WO.nil ?_
      refine WX.keep [1, 2, 19] (WX.pk [0] (by decide) ?_) rfl
      exact dir_Entry_Text_j1_ok h _ _ _ ⟨hB, _, rfl, rfl⟩
    · replace h := (if_neg (bnt k11)).symm.trans h
      refine WO.sd (wg rfl rfl (gfn (t_not k11))) rfl ?_
      refine WO.sd (wg rfl rfl (gfn (t_not k11))) rfl ?_
      refine WO.sd (wg rfl rfl (gfn (t_not k11))) rfl ?_
      refine WO.q (.ptv (v := .bool _) rfl (t_not k11) rfl) rfl rfl ?_
      refine WO.nil ?_
      refine WX.keep [1, 2, 19] (WX.pk [0] (by decide) ?_) rfl
      exact dir_Entry_Text_j1_ok h _ _ _ ⟨hB, _, rfl, rfl⟩
def dir_Parse_P (B : Kn) (L : Own) (r : Int × ((List UInt8) × Int) × Int) : AV → St → Prop := CS B L fun v => v = .tup [.int .i64 r.1, .agg [.str r.2.1.1, .int .i64 r.2.1.2], .int .i64 r.2.2]
def dir_Parse_j1_I (B0 : Kn) (x0 : List UInt8) (x13 : Bool) (zb3 : (List UInt8) × Int) : Fr → Kn → Own → Prop := fun fr B A => KLe B0 B ∧ ∃ b3, fr = [(0, .str x0), (3, .ptr b3 0), (13, .bool x13)] ∧ A = [(b3, some (.c [.str zb3.1, .int .i64 zb3.2]))]
theorem dir_Parse_j1_ok {B0 : Kn} {L : Own} {n0 : Nat} {x0 : List UInt8} {x13 : Bool} {zb3 : (List UInt8) × Int} {r : Int × ((List UInt8) × Int) × Int} (h : dir_Parse_j1 x0 x13 zb3 = some r) : WXI Tryd.prog 26 n0 (Fin Tryd.prog Tryd.f25.results.toList n0 (dir_Parse_P B0 L r)) [.code (ct [1, 0, 1] (bodyOf Tryd.f25)), .code (ct [1, 1] (bodyOf Tryd.f25))] (dir_Parse_j1_I B0 x0 x13 zb3) L := by
  unfold dir_Parse_j1 at h
  rintro _ B _ ⟨hB, b3, rfl, rfl⟩
  rcases bsp x13 with k4 | k4
  · replace h := (if_pos k4).symm.trans h
    refine WX.condT rfl k4 ?_
    refine WX.seq ?_
    refine WX.reg ?_
    refine WO.q (.bd (bd42_n)) rfl rfl ?_
    refine WO.q (.as (v := .int _ _) rfl) rfl rfl ?_
    refine WO.mn (MOp.storeW rfl (cA rfl) .h ti42 rfl rfl rfl) rfl ?_
    rintro _ _ rfl
    refine WO.q (.as (v := .int _ _) rfl) rfl rfl ?_
    refine WO.nil ?_
    obtain rfl := Option.some.inj h
    exact WX.ret (rs_ (rs_tmp rfl (rs_cell (.ldA (i := 0) rfl rfl rfl ti42 rfl) (rs_tmp rfl rs_nil)))) fun st hp => ⟨(hp.pk [] (by decide)).le hB, rfl⟩
  · replace h := (if_neg (bnt k4)).symm.trans h
    refine WX.condF rfl k4 ?_
    refine WX.skip ?_
    refine WX.seq ?_
    refine WX.drw (Plan.of [0, 1, 4, 5, 6, 7, 2, 3, 8, 9, 10, 11, 12, 13] .nil) _ mixed (by kernel_rfl) rfl (subL (pk_sub [0])) ?_
    refine WP.q (i := 0) rfl (.mv (v := .str _) rfl) rfl rfl rfl ?_
    obtain ⟨y5, hy5, h⟩ := Option.bind_eq_some_iff.1 h
    refine WP.q (i := 1) rfl (.sl (evscut ti9 rfl hy5 bnd_none (bnd_int (Int.le_trans (cutL_some hy5).1.1 (cutL_some hy5).1.2.1)))) rfl rfl rfl ?_
    refine WP.q (i := 4) rfl (.mv (v := .str _) rfl) rfl rfl rfl ?_
    obtain ⟨y6, hy6, h⟩ := Option.bind_eq_some_iff.1 h
    refine WP.q (i := 5) rfl (.sl (evscut ti9 rfl hy6 (bnd_int (cutL_some hy6).1.1) rfl)) rfl rfl rfl ?_
    refine WP.q (i := 6) rfl (.mv (v := .str _) rfl) rfl rfl rfl ?_
    obtain ⟨y7, hy7, h⟩ := Option.bind_eq_some_iff.1 h
    refine WP.q (i := 7) rfl (.sl (evscut ti9 rfl hy7 (bnd_int (cutL_some hy7).1.1) (bnd_int (Int.le_trans (cutL_some hy7).1.1 (cutL_some hy7).1.2.1)))) rfl rfl rfl ?_
    obtain ⟨y8, hy8, h⟩ := Option.bind_eq_some_iff.1 h
    refine WP.cS (i := 2) rfl rfl rfl (le_Get_ok hy8) rfl rfl rfl ?_
    rintro _ rfl
    refine WP.q (i := 3) rfl (cvI ti76 ti3 rfl rfl) (isQc ti76 ti3 rfl) rfl rfl ?_
    obtain ⟨y9, hy9, h⟩ := Option.bind_eq_some_iff.1 h
    refine WP.cS (i := 8) rfl rfl rfl (le_Get_ok hy9) rfl rfl rfl ?_
    rintro _ rfl
    refine WP.q (i := 9) rfl (cvI ti76 ti3 rfl rfl) (isQc ti76 ti3 rfl) rfl rfl ?_
    refine WP.q (i := 10) rfl (.bd (bd42_0_1 (cS rfl) (cI rfl))) rfl rfl rfl ?_
    refine WP.q (i := 11) rfl (.as (v := .int _ _) rfl) rfl rfl rfl ?_
    refine WP.msn (i := 12) rfl (MOp.storeW rfl (cA rfl) .h ti42 rfl rfl rfl) rfl (by kernel_rfl) rfl ?_
    rintro _ _ rfl
    refine WS.q (i := 13) rfl (.as (v := .int _ _) rfl) rfl rfl rfl rfl ?_
    refine WS.nil ?_
    obtain rfl := Option.some.inj h
    exact WX.ret (rs_ (rs_tmp rfl (rs_cell (.ldA (i := 0) rfl rfl rfl ti42 rfl) (rs_tmp rfl rs_nil)))) fun st hp => ⟨(hp.pk [] (by decide)).le hB, rfl⟩
theorem dir_Parse_ok {B0 : Kn} {L : Own} {a0 : List UInt8} {r : Int × ((List UInt8) × Int) × Int} (h : dir_Parse a0 = some r) : ∀ st, Hp B0 L st → ASpec Tryd.prog 25 [.str a0] st (dir_Parse_P B0 L r) := by
  unfold dir_Parse at h
  refine bodyA (A := []) Tryd.func25 rfl (c := bodyOf Tryd.f25) rfl Tryd.ntmps25 (lb rfl) fun n0 => ?_
  have hB := KLe.refl B0
  refine WX.seq ?_
  refine WX.reg ?_
  refine WO.q (.as (v := .int _ _) rfl) rfl rfl ?_
  refine WO.md (MOp.alloc ti42 rfl) rfl rfl ?_
  rintro _ _ ⟨b1, rfl, rfl⟩
  refine WO.q (.as (v := .int _ _) rfl) rfl rfl ?_
  refine WO.nil ?_
  refine WX.seq ?_
  refine WX.seq ?_
  refine WX.reg ?_
  refine WO.q (.mv (v := .str _) rfl) rfl rfl ?_
  refine WO.q (.len rfl rfl rfl (evslen ti9 rfl _)) rfl rfl ?_
  refine WO.q (.r fun _ => rfl) rfl rfl ?_
  refine WO.q (.mv (v := .bool _) rfl) rfl rfl ?_
  rcases bsp (decide ((a0.length : Int) < 4)) with k2 | k2
  · have q_k2 := of_decide_eq_true k2
    replace h := (if_pos q_k2).symm.trans h
    refine WO.sd (wg rfl rfl (gfn k2)) rfl ?_
    refine WO.sd (wg rfl rfl (gfn k2)) rfl ?_
    refine WO.sd (wg rfl rfl (gfn k2)) rfl ?_
    refine WO.sd (wg rfl rfl (gfn k2)) rfl ?_
    refine WO.q (.ptv (v := .bool _) rfl k2 rfl) rfl rfl ?_
    refine WO.nil ?_
    refine WX.keep [0, 3, 13] (WX.pk [0] (by decide) ?_) rfl
    exact dir_Parse_j1_ok h _ _ _ ⟨hB, _, rfl, rfl⟩
  · have q_k2 := of_decide_eq_false k2
    replace h := (if_neg q_k2).symm.trans h
    refine WO.q (.mv (v := .str _) rfl) (wg rfl rfl (gf k2)) rfl ?_
    obtain ⟨y10, hy10, h⟩ := Option.bind_eq_some_iff.1 h
    refine WO.q (.sl (evscut ti9 rfl hy10 (bnd_int (cutL_some hy10).1.1) rfl)) (wg rfl rfl (gf k2)) rfl ?_
    obtain ⟨y11, hy11, h⟩ := Option.bind_eq_some_iff.1 h
    refine WO.cS rfl rfl (dir_Name_ok hy11) rfl (wg rfl rfl (gf k2)) rfl ?_
    rintro _ rfl
    refine WO.q (.r fun _ => rfl) (wg rfl rfl (gf k2)) rfl ?_
    refine WO.q (.pfv (v := .bool _) rfl k2 rfl) rfl rfl ?_
    refine WO.nil ?_
    refine WX.keep [0, 3, 13] (WX.pk [0] (by decide) ?_) rfl
    exact dir_Parse_j1_ok h _ _ _ ⟨hB, _, rfl, rfl⟩
end Gab
