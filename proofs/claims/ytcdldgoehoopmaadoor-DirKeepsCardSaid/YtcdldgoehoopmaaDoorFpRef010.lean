/- The Go code comes to what the Lean functions say. Written by a program (gp.py). -/
import Derived.Test.YtcdldgoehoopmaaDoorFd
import Derived.Test.YtcdldgoehoopmaaDoorTy
set_option linter.unusedSimpArgs false
set_option linter.unusedVariables false
set_option maxHeartbeats 4000000
set_option maxRecDepth 100000
namespace Gab
open Go Go.Proofs
def gabionref01_may_P (B : Kn) (L : Own) (r : Bool) : AV → St → Prop := CS B L fun v => v = .bool r
theorem gabionref01_may_ok {B0 : Kn} {L : Own} {a0 : Int} {a1 : Int} {r : Bool} (h : gabionref01_may a0 a1 = some r) : ∀ st, Hp B0 L st → ASpec Tryd.prog 86 [.int .i64 a0, .int .i64 a1] st (gabionref01_may_P B0 L r) := by
  unfold gabionref01_may at h
  refine bodyA (A := []) Tryd.func86 rfl (c := bodyOf Tryd.f86) rfl Tryd.ntmps86 (lb rfl) fun n0 => ?_
  have hB := KLe.refl B0
  refine WX.seq ?_
  refine WX.reg ?_
  refine WO.q (.as (v := .bool _) rfl) rfl rfl ?_
  refine WO.nil ?_
  refine WX.seq ?_
  refine WX.reg ?_
  refine WO.q (.mv (v := .int _ _) rfl) rfl rfl ?_
  refine WO.q (.r fun _ => rfl) rfl rfl ?_
  refine WO.q (.mv (v := .bool _) rfl) rfl rfl ?_
  rcases bsp (decide (0 ≤ a0)) with k1 | k1
  · have q_k1 := of_decide_eq_true k1
    replace h := (if_pos q_k1).symm.trans h
    refine WO.q (.mv (v := .int _ _) rfl) (wg rfl rfl (gt k1)) rfl ?_
    refine WO.q (.r fun _ => rfl) (wg rfl rfl (gt k1)) rfl ?_
    refine WO.q (.ptv (v := .bool _) rfl k1 rfl) rfl rfl ?_
    refine WO.q (.mv (v := .bool _) rfl) rfl rfl ?_
    rcases bsp (decide (a0 < 64)) with k2 | k2
    · have q_k2 := of_decide_eq_true k2
      replace h := (if_pos q_k2).symm.trans h
      refine WO.q (.mv (v := .int _ _) rfl) (wg rfl rfl (gt k2)) rfl ?_
      refine WO.q (.r fun _ => rfl) (wg rfl rfl (gt k2)) rfl ?_
      refine WO.q (.ptv (v := .bool _) rfl k2 rfl) rfl rfl ?_
      refine WO.q (.mv (v := .bool _) rfl) rfl rfl ?_
      rcases bsp (decide (1 ≤ a1)) with k3 | k3
      · have q_k3 := of_decide_eq_true k3
        replace h := (if_pos q_k3).symm.trans h
        refine WO.q (.mv (v := .int _ _) rfl) (wg rfl rfl (gt k3)) rfl ?_
        refine WO.q (.mv (v := .int _ _) rfl) (wg rfl rfl (gt k3)) rfl ?_
        refine WO.q (.r fun _ => rfl) (wg rfl rfl (gt k3)) rfl ?_
        refine WO.q (.r fun _ => rfl) (wg rfl rfl (gt k3)) rfl ?_
        refine WO.q (.ptv (v := .bool _) rfl k3 rfl) rfl rfl ?_
        refine WO.q (.as (v := .bool _) rfl) rfl rfl ?_
        refine WO.nil ?_
        obtain rfl := Option.some.inj h
        exact WX.ret (rs_ (rs_tmp rfl rs_nil)) fun st hp => ⟨(hp.pk [] (by decide)).le hB, rfl⟩
      · have q_k3 := of_decide_eq_false k3
        replace h := (if_neg q_k3).symm.trans h
        refine WO.sd (wg rfl rfl (gtn k3)) rfl ?_
        refine WO.sd (wg rfl rfl (gtn k3)) rfl ?_
        refine WO.sd (wg rfl rfl (gtn k3)) rfl ?_
        refine WO.sd (wg rfl rfl (gtn k3)) rfl ?_
        refine WO.q (.pfv (v := .bool _) rfl k3 rfl) rfl rfl ?_
        refine WO.q (.as (v := .bool _) rfl) rfl rfl ?_
        refine WO.nil ?_
        obtain rfl := Option.some.inj h
        exact WX.ret (rs_ (rs_tmp rfl rs_nil)) fun st hp => ⟨(hp.pk [] (by decide)).le hB, rfl⟩
    · have q_k2 := of_decide_eq_false k2
      replace h := (if_neg q_k2).symm.trans h
      refine WO.sd (wg rfl rfl (gtn k2)) rfl ?_
      refine WO.sd (wg rfl rfl (gtn k2)) rfl ?_
      refine WO.q (.pfv (v := .bool _) rfl k2 rfl) rfl rfl ?_
      refine WO.q (.mv (v := .bool _) rfl) rfl rfl ?_
      refine WO.sd (wg rfl rfl (gtn rfl)) rfl ?_
      refine WO.sd (wg rfl rfl (gtn rfl)) rfl ?_
      refine WO.sd (wg rfl rfl (gtn rfl)) rfl ?_
      refine WO.sd (wg rfl rfl (gtn rfl)) rfl ?_
      refine WO.q (.pfv (v := .bool _) rfl rfl rfl) rfl rfl ?_
      refine WO.q (.as (v := .bool _) rfl) rfl rfl ?_
      refine WO.nil ?_
      obtain rfl := Option.some.inj h
      exact WX.ret (rs_ (rs_tmp rfl rs_nil)) fun st hp => ⟨(hp.pk [] (by decide)).le hB, rfl⟩
  · have q_k1 := of_decide_eq_false k1
    replace h := (if_neg q_k1).symm.trans h
    refine WO.sd (wg rfl rfl (gtn k1)) rfl ?_
    refine WO.sd (wg rfl rfl (gtn k1)) rfl ?_
    refine WO.q (.pfv (v := .bool _) rfl k1 rfl) rfl rfl ?_
    refine WO.q (.mv (v := .bool _) rfl) rfl rfl ?_
    refine WO.sd (wg rfl rfl (gtn rfl)) rfl ?_
    refine WO.sd (wg rfl rfl (gtn rfl)) rfl ?_
    refine WO.q (.pfv (v := .bool _) rfl rfl rfl) rfl rfl ?_
    refine WO.q (.mv (v := .bool _) rfl) rfl rfl ?_
    refine WO.sd (wg rfl rfl (gtn rfl)) rfl ?_
    refine WO.sd (wg rfl rfl (gtn rfl)) rfl ?_
    refine WO.sd (wg rfl rfl (gtn rfl)) rfl ?_
    refine WO.sd (wg rfl rfl (gtn rfl)) rfl ?_
    refine WO.q (.pfv (v := .bool _) rfl rfl rfl) rfl rfl ?_
    refine WO.q (.as (v := .bool _) rfl) rfl rfl ?_
    refine WO.nil ?_
    obtain rfl := Option.some.inj h
    exact WX.ret (rs_ (rs_tmp rfl rs_nil)) fun st hp => ⟨(hp.pk [] (by decide)).le hB, rfl⟩
def gabionref01_bit_P (B : Kn) (L : Own) (r : Int) : AV → St → Prop := CS B L fun v => v = .int .u64 r
def gabionref01_bit_l0_I (B0 : Kn) (x1 : Int) (x0 : Int) (x5 : Int) : Fr → Kn → Own → Prop := fun fr B A => KLe B0 B ∧ fr = [(0, .int .u64 x0), (1, .int .i64 x1), (5, .int .i64 x5)] ∧ A = []
def gabionref01_bit_l0_X0 (B0 : Kn) (x0 : Int) : Fr → Kn → Own → Prop := fun fr B A => KLe B0 B ∧ fr = [(0, .int .u64 x0)] ∧ A = []
theorem gabionref01_bit_l0_s {B0 : Kn} {L : Own} {n0 : Nat} {x1 : Int} {x0 : Int} {x5 : Int} {Q : AV → St → Prop} {E : (Int × Int) ⊕ Int → Prop} {o : (Int × Int) ⊕ Int} (h : gabionref01_bit_l0 x1 x0 x5 = some o) (hn : ∀ s, E (.inl s) → WXI Tryd.prog 15 n0 (Fin Tryd.prog Tryd.f87.results.toList n0 Q) [.lp (ct [1, 0, 1, 0, 0] (bodyOf Tryd.f87)), .blk 0, .code (ct [1, 1] (bodyOf Tryd.f87))] (gabionref01_bit_l0_I B0 x1 s.1 s.2) L) (hx0 : ∀ s, E (.inr s) → WXI Tryd.prog 15 n0 (Fin Tryd.prog Tryd.f87.results.toList n0 Q) [.code (ct [1, 1] (bodyOf Tryd.f87))] (gabionref01_bit_l0_X0 B0 s) L) (hE : E o) : WXI Tryd.prog 15 n0 (Fin Tryd.prog Tryd.f87.results.toList n0 Q) [.code (ct [1, 0, 1, 0, 0] (bodyOf Tryd.f87)), .lp (ct [1, 0, 1, 0, 0] (bodyOf Tryd.f87)), .blk 0, .code (ct [1, 1] (bodyOf Tryd.f87))] (gabionref01_bit_l0_I B0 x1 x0 x5) L := by
  unfold gabionref01_bit_l0 at h
  rintro _ B _ ⟨hB, rfl, rfl⟩
  refine WX.seq ?_
  refine WX.seq ?_
  refine WX.reg ?_
  refine WO.q (.mv (v := .int _ _) rfl) rfl rfl ?_
  refine WO.q (.mv (v := .int _ _) rfl) rfl rfl ?_
  refine WO.q (.r fun _ => rfl) rfl rfl ?_
  refine WO.nil ?_
  rcases bsp (decide (x5 < x1)) with k1 | k1
  · have q_k1 := of_decide_eq_true k1
    replace h := (if_pos q_k1).symm.trans h
    refine WX.condT rfl k1 ?_
    refine WX.skip ?_
    refine WX.seq ?_
    refine WX.block ?_
    refine WX.reg ?_
    refine WO.q (.mv (v := .int _ _) rfl) rfl rfl ?_
    refine WO.q (.r fun _ => rfl) rfl rfl ?_
    refine WO.q (.as (v := .int _ _) rfl) rfl rfl ?_
    refine WO.nil ?_
    refine WX.pop ?_
    refine WX.reg ?_
    refine WO.q (.mv (v := .int _ _) rfl) rfl rfl ?_
    refine WO.q (.r fun _ => rfl) rfl rfl ?_
    refine WO.q (.as (v := .int _ _) rfl) rfl rfl ?_
    refine WO.nil ?_
    refine WX.keepL [0, 1, 5] (WX.pk [] (by decide) ?_) rfl
    obtain rfl := Option.some.inj h
    exact hn _ hE _ _ _ ⟨hB, rfl, rfl⟩
  · have q_k1 := of_decide_eq_false k1
    replace h := (if_neg q_k1).symm.trans h
    refine WX.condF rfl k1 ?_
    refine WX.exit rfl ?_
    refine WX.keep [0] (WX.pk [] (by decide) ?_) rfl
    obtain rfl := Option.some.inj h
    exact hx0 _ hE _ _ _ ⟨hB, rfl, rfl⟩
theorem gabionref01_bit_l0_ok {B0 : Kn} {L : Own} {n0 : Nat} {x1 : Int} {x0 : Int} {x5 : Int} {Q : AV → St → Prop} {d : Nat} {e : Int} (h : iter (fun (s : Int × Int) => gabionref01_bit_l0 x1 s.1 s.2) d (x0, x5) = some e) (g0 : ∀ s, e = s → WXI Tryd.prog 15 n0 (Fin Tryd.prog Tryd.f87.results.toList n0 Q) [.code (ct [1, 1] (bodyOf Tryd.f87))] (gabionref01_bit_l0_X0 B0 s) L) : WXI Tryd.prog 15 n0 (Fin Tryd.prog Tryd.f87.results.toList n0 Q) [.code (ct [1, 0, 1, 0, 0] (bodyOf Tryd.f87)), .lp (ct [1, 0, 1, 0, 0] (bodyOf Tryd.f87)), .blk 0, .code (ct [1, 1] (bodyOf Tryd.f87))] (gabionref01_bit_l0_I B0 x1 x0 x5) L :=
  iter_ok (I := fun s => gabionref01_bit_l0_I B0 x1 s.1 s.2) (D := fun e => (∀ s, e = s → WXI Tryd.prog 15 n0 (Fin Tryd.prog Tryd.f87.results.toList n0 Q) [.code (ct [1, 1] (bodyOf Tryd.f87))] (gabionref01_bit_l0_X0 B0 s) L)) (fun E hn hx s o ho hE => gabionref01_bit_l0_s (x0 := s.1) (x5 := s.2) ho hn (fun s hs => (hx _ hs) _ rfl)  hE) h g0
theorem gabionref01_bit_ok {B0 : Kn} {L : Own} {a0 : Int} {a1 : Int} {r : Int} (h : gabionref01_bit a0 a1 = some r) : ∀ st, Hp B0 L st → ASpec Tryd.prog 87 [.int .u64 a0, .int .i64 a1] st (gabionref01_bit_P B0 L r) := by
  unfold gabionref01_bit at h
  refine bodyA (A := []) Tryd.func87 rfl (c := bodyOf Tryd.f87) rfl Tryd.ntmps87 (lb rfl) fun n0 => ?_
  have hB := KLe.refl B0
  refine WX.seq ?_
  refine WX.reg ?_
  refine WO.q (.as (v := .int _ _) rfl) rfl rfl ?_
  refine WO.nil ?_
  refine WX.seq ?_
  refine WX.seq ?_
  refine WX.reg ?_
  refine WO.q (.as (v := .int _ _) rfl) rfl rfl ?_
  refine WO.nil ?_
  refine WX.block ?_
  refine WX.loop ?_
  obtain ⟨e2, he2, h⟩ := Option.bind_eq_some_iff.1 h
  refine WX.keep [0, 1, 5] (WX.pk [] (by decide) ?_) rfl
  refine gabionref01_bit_l0_ok he2 ?_ _ _ _ ⟨hB, rfl, rfl⟩
  · intro s3 he_
    subst he_
    replace h := h
    rintro _ B _ ⟨hB, rfl, rfl⟩
    refine WX.seq ?_
    refine WX.reg ?_
    refine WO.q (.mv (v := .int _ _) rfl) rfl rfl ?_
    refine WO.q (.r fun _ => rfl) rfl rfl ?_
    refine WO.q (.as (v := .int _ _) rfl) rfl rfl ?_
    refine WO.nil ?_
    obtain rfl := Option.some.inj h
    exact WX.ret (rs_ (rs_tmp rfl rs_nil)) fun st hp => ⟨(hp.pk [] (by decide)).le hB, rfl⟩
def gabionref01_Field_P (B : Kn) (L : Own) (r : Int) : AV → St → Prop := CS B L fun v => v = .int .u64 r
def gabionref01_Field_j4_I (B0 : Kn) (x0 : Int) (x1 : Int) (x2 : Int) (x7 : Bool) (x8 : Int) (x9 : Int) (x19 : Bool) : Fr → Kn → Own → Prop := fun fr B A => KLe B0 B ∧ fr = [(0, .int .u64 x0), (1, .int .i64 x1), (2, .int .i64 x2), (7, .bool x7), (8, .int .u64 x8), (9, .int .i64 x9), (19, .bool x19)] ∧ A = []
def gabionref01_Field_l0_I (B0 : Kn) (x0 : Int) (x1 : Int) (x2 : Int) (x7 : Bool) (x8 : Int) (x9 : Int) : Fr → Kn → Own → Prop := fun fr B A => KLe B0 B ∧ fr = [(0, .int .u64 x0), (1, .int .i64 x1), (2, .int .i64 x2), (7, .bool x7), (8, .int .u64 x8), (9, .int .i64 x9)] ∧ A = []
def gabionref01_Field_l0_X0 (B0 : Kn) (x8 : Int) : Fr → Kn → Own → Prop := fun fr B A => KLe B0 B ∧ fr = [(8, .int .u64 x8)] ∧ A = []
theorem gabionref01_Field_j4_ok {B0 : Kn} {L : Own} {n0 : Nat} {x0 : Int} {x1 : Int} {x2 : Int} {x7 : Bool} {x8 : Int} {x9 : Int} {x19 : Bool} {Q : AV → St → Prop} {E : (Int × Int) ⊕ Int → Prop} {o : (Int × Int) ⊕ Int} (h : gabionref01_Field_j4 x0 x1 x2 x7 x8 x9 x19 = some o) (hn : ∀ s, E (.inl s) → WXI Tryd.prog 35 n0 (Fin Tryd.prog Tryd.f78.results.toList n0 Q) [.lp (ct [1, 1, 1, 0, 1, 0, 0] (bodyOf Tryd.f78)), .blk 0, .code (ct [1, 1, 1, 1] (bodyOf Tryd.f78))] (gabionref01_Field_l0_I B0 x0 x1 x2 x7 s.1 s.2) L) (hx0 : ∀ s, E (.inr s) → WXI Tryd.prog 35 n0 (Fin Tryd.prog Tryd.f78.results.toList n0 Q) [.code (ct [1, 1, 1, 1] (bodyOf Tryd.f78))] (gabionref01_Field_l0_X0 B0 s) L) (hE : E o) : WXI Tryd.prog 35 n0 (Fin Tryd.prog Tryd.f78.results.toList n0 Q) [.code (ct [1, 1, 1, 0, 1, 0, 0, 0, 1] (bodyOf Tryd.f78)), .code (ct [1, 1, 1, 0, 1, 0, 0, 1] (bodyOf Tryd.f78)), .lp (ct [1, 1, 1, 0, 1, 0, 0] (bodyOf Tryd.f78)), .blk 0, .code (ct [1, 1, 1, 1] (bodyOf Tryd.f78))] (gabionref01_Field_j4_I B0 x0 x1 x2 x7 x8 x9 x19) L := by
  unfold gabionref01_Field_j4 at h
  rintro _ B _ ⟨hB, rfl, rfl⟩
  rcases bsp x19 with k3 | k3
  · replace h := (if_pos k3).symm.trans h
    refine WX.condT rfl k3 ?_
    refine WX.skip ?_
    refine WX.seq ?_
    refine WX.block ?_
    refine WX.seq ?_
    refine WX.reg ?_
    refine WO.q (.mv (v := .int _ _) rfl) rfl rfl ?_
    refine WO.q (.mv (v := .int _ _) rfl) rfl rfl ?_
    refine WO.q (.mv (v := .int _ _) rfl) rfl rfl ?_
    refine WO.q (.r fun _ => rfl) rfl rfl ?_
    refine WO.q (.r fun _ => rfl) rfl rfl ?_
    refine WO.q (.mv (v := .int _ _) rfl) rfl rfl ?_
    refine WO.q (.r fun _ => rfl) rfl rfl ?_
    obtain ⟨y4, hy4, h⟩ := Option.bind_eq_some_iff.1 h
    refine WO.cS rfl rfl (gabionref01_bit_ok hy4) rfl rfl rfl ?_
    rintro _ rfl
    refine WO.q (.as (v := .int _ _) rfl) rfl rfl ?_
    refine WO.nil ?_
    refine WX.reg ?_
    refine WO.q (.mv (v := .int _ _) rfl) rfl rfl ?_
    refine WO.q (.r fun _ => rfl) rfl rfl ?_
    refine WO.q (.mv (v := .int _ _) rfl) rfl rfl ?_
    refine WO.q (.r fun _ => rfl) rfl rfl ?_
    refine WO.q (.as (v := .int _ _) rfl) rfl rfl ?_
    refine WO.nil ?_
    refine WX.pop ?_
    refine WX.reg ?_
    refine WO.q (.mv (v := .int _ _) rfl) rfl rfl ?_
    refine WO.q (.r fun _ => rfl) rfl rfl ?_
    refine WO.q (.as (v := .int _ _) rfl) rfl rfl ?_
    refine WO.nil ?_
    refine WX.keepL [0, 1, 2, 7, 8, 9] (WX.pk [] (by decide) ?_) rfl
    obtain rfl := Option.some.inj h
    exact hn _ hE _ _ _ ⟨hB, rfl, rfl⟩
  · replace h := (if_neg (bnt k3)).symm.trans h
    refine WX.condF rfl k3 ?_
    refine WX.exit rfl ?_
    refine WX.keep [8] (WX.pk [] (by decide) ?_) rfl
    obtain rfl := Option.some.inj h
    exact hx0 _ hE _ _ _ ⟨hB, rfl, rfl⟩
theorem gabionref01_Field_l0_s {B0 : Kn} {L : Own} {n0 : Nat} {x0 : Int} {x1 : Int} {x2 : Int} {x7 : Bool} {x8 : Int} {x9 : Int} {Q : AV → St → Prop} {E : (Int × Int) ⊕ Int → Prop} {o : (Int × Int) ⊕ Int} (h : gabionref01_Field_l0 x0 x1 x2 x7 x8 x9 = some o) (hn : ∀ s, E (.inl s) → WXI Tryd.prog 35 n0 (Fin Tryd.prog Tryd.f78.results.toList n0 Q) [.lp (ct [1, 1, 1, 0, 1, 0, 0] (bodyOf Tryd.f78)), .blk 0, .code (ct [1, 1, 1, 1] (bodyOf Tryd.f78))] (gabionref01_Field_l0_I B0 x0 x1 x2 x7 s.1 s.2) L) (hx0 : ∀ s, E (.inr s) → WXI Tryd.prog 35 n0 (Fin Tryd.prog Tryd.f78.results.toList n0 Q) [.code (ct [1, 1, 1, 1] (bodyOf Tryd.f78))] (gabionref01_Field_l0_X0 B0 s) L) (hE : E o) : WXI Tryd.prog 35 n0 (Fin Tryd.prog Tryd.f78.results.toList n0 Q) [.code (ct [1, 1, 1, 0, 1, 0, 0] (bodyOf Tryd.f78)), .lp (ct [1, 1, 1, 0, 1, 0, 0] (bodyOf Tryd.f78)), .blk 0, .code (ct [1, 1, 1, 1] (bodyOf Tryd.f78))] (gabionref01_Field_l0_I B0 x0 x1 x2 x7 x8 x9) L := by
  unfold gabionref01_Field_l0 at h
  rintro _ B _ ⟨hB, rfl, rfl⟩
  refine WX.seq ?_
  refine WX.seq ?_
  refine WX.reg ?_
  refine WO.q (.mv (v := .bool _) rfl) rfl rfl ?_
  refine WO.q (.mv (v := .bool _) rfl) rfl rfl ?_
  rcases bsp x7 with k2 | k2
  · replace h := (if_pos k2).symm.trans h
    refine WO.q (.mv (v := .int _ _) rfl) (wg rfl rfl (gt k2)) rfl ?_
    refine WO.q (.mv (v := .int _ _) rfl) (wg rfl rfl (gt k2)) rfl ?_
    refine WO.q (.r fun _ => rfl) (wg rfl rfl (gt k2)) rfl ?_
    refine WO.q (.ptv (v := .bool _) rfl k2 rfl) rfl rfl ?_
    refine WO.nil ?_
    refine WX.keep [0, 1, 2, 7, 8, 9, 19] (WX.pk [] (by decide) ?_) rfl
    exact gabionref01_Field_j4_ok h hn hx0 hE _ _ _ ⟨hB, rfl, rfl⟩
  · replace h := (if_neg (bnt k2)).symm.trans h
    refine WO.sd (wg rfl rfl (gtn k2)) rfl ?_
    refine WO.sd (wg rfl rfl (gtn k2)) rfl ?_
    refine WO.sd (wg rfl rfl (gtn k2)) rfl ?_
    refine WO.q (.pfv (v := .bool _) rfl k2 rfl) rfl rfl ?_
    refine WO.nil ?_
    refine WX.keep [0, 1, 2, 7, 8, 9, 19] (WX.pk [] (by decide) ?_) rfl
    exact gabionref01_Field_j4_ok h hn hx0 hE _ _ _ ⟨hB, rfl, rfl⟩
theorem gabionref01_Field_l0_ok {B0 : Kn} {L : Own} {n0 : Nat} {x0 : Int} {x1 : Int} {x2 : Int} {x7 : Bool} {x8 : Int} {x9 : Int} {Q : AV → St → Prop} {d : Nat} {e : Int} (h : iter (fun (s : Int × Int) => gabionref01_Field_l0 x0 x1 x2 x7 s.1 s.2) d (x8, x9) = some e) (g0 : ∀ s, e = s → WXI Tryd.prog 35 n0 (Fin Tryd.prog Tryd.f78.results.toList n0 Q) [.code (ct [1, 1, 1, 1] (bodyOf Tryd.f78))] (gabionref01_Field_l0_X0 B0 s) L) : WXI Tryd.prog 35 n0 (Fin Tryd.prog Tryd.f78.results.toList n0 Q) [.code (ct [1, 1, 1, 0, 1, 0, 0] (bodyOf Tryd.f78)), .lp (ct [1, 1, 1, 0, 1, 0, 0] (bodyOf Tryd.f78)), .blk 0, .code (ct [1, 1, 1, 1] (bodyOf Tryd.f78))] (gabionref01_Field_l0_I B0 x0 x1 x2 x7 x8 x9) L :=
  iter_ok (I := fun s => gabionref01_Field_l0_I B0 x0 x1 x2 x7 s.1 s.2) (D := fun e => (∀ s, e = s → WXI Tryd.prog 35 n0 (Fin Tryd.prog Tryd.f78.results.toList n0 Q) [.code (ct [1, 1, 1, 1] (bodyOf Tryd.f78))] (gabionref01_Field_l0_X0 B0 s) L)) (fun E hn hx s o ho hE => gabionref01_Field_l0_s (x8 := s.1) (x9 := s.2) ho hn (fun s hs => (hx _ hs) _ rfl)  hE) h g0
theorem gabionref01_Field_ok {B0 : Kn} {L : Own} {a0 : Int} {a1 : Int} {a2 : Int} {r : Int} (h : gabionref01_Field a0 a1 a2 = some r) : ∀ st, Hp B0 L st → ASpec Tryd.prog 78 [.int .u64 a0, .int .i64 a1, .int .i64 a2] st (gabionref01_Field_P B0 L r) := by
  unfold gabionref01_Field at h
  refine bodyA (A := []) Tryd.func78 rfl (c := bodyOf Tryd.f78) rfl Tryd.ntmps78 (lb rfl) fun n0 => ?_
  have hB := KLe.refl B0
  refine WX.seq ?_
  refine WX.reg ?_
  refine WO.q (.as (v := .int _ _) rfl) rfl rfl ?_
  refine WO.nil ?_
  refine WX.seq ?_
  refine WX.reg ?_
  refine WO.q (.mv (v := .int _ _) rfl) rfl rfl ?_
  refine WO.q (.mv (v := .int _ _) rfl) rfl rfl ?_
  obtain ⟨y1, hy1, h⟩ := Option.bind_eq_some_iff.1 h
  refine WO.cS rfl rfl (gabionref01_may_ok hy1) rfl rfl rfl ?_
  rintro _ rfl
  refine WO.q (.as (v := .bool _) rfl) rfl rfl ?_
  refine WO.nil ?_
  refine WX.seq ?_
  refine WX.reg ?_
  refine WO.q (.as (v := .int _ _) rfl) rfl rfl ?_
  refine WO.nil ?_
  refine WX.seq ?_
  refine WX.seq ?_
  refine WX.reg ?_
  refine WO.q (.as (v := .int _ _) rfl) rfl rfl ?_
  refine WO.nil ?_
  refine WX.block ?_
  refine WX.loop ?_
  obtain ⟨e5, he5, h⟩ := Option.bind_eq_some_iff.1 h
  refine WX.keep [0, 1, 2, 7, 8, 9] (WX.pk [] (by decide) ?_) rfl
  refine gabionref01_Field_l0_ok he5 ?_ _ _ _ ⟨hB, rfl, rfl⟩
  · intro s6 he_
    subst he_
    replace h := h
    rintro _ B _ ⟨hB, rfl, rfl⟩
    refine WX.seq ?_
    refine WX.reg ?_
    refine WO.q (.mv (v := .int _ _) rfl) rfl rfl ?_
    refine WO.q (.as (v := .int _ _) rfl) rfl rfl ?_
    refine WO.nil ?_
    obtain rfl := Option.some.inj h
    exact WX.ret (rs_ (rs_tmp rfl rs_nil)) fun st hp => ⟨(hp.pk [] (by decide)).le hB, rfl⟩
def gabionref01_Put_P (B : Kn) (L : Own) (r : (List UInt8)) : AV → St → Prop := CS B L fun v => v = .str r
def gabionref01_Put_j3_I (B0 : Kn) (x0 : Int) (x1 : Int) (x5 : List Int) (x6 : Int) (x13 : Bool) : Fr → Kn → Own → Prop := fun fr B A => KLe B0 B ∧ ∃ v3 b3 n3 c3, OSl (Ty.int .u8) B v3 b3 n3 c3 x5 ∧ fr = [(0, .int .u64 x0), (1, .int .i64 x1), (5, v3), (6, .int .i64 x6), (13, .bool x13)] ∧ A = [oe b3 n3 c3]
def gabionref01_Put_l0_I (B0 : Kn) (x1 : Int) (x0 : Int) (x5 : List Int) (x6 : Int) : Fr → Kn → Own → Prop := fun fr B A => KLe B0 B ∧ ∃ v1 b1 n1 c1, OSl (Ty.int .u8) B v1 b1 n1 c1 x5 ∧ fr = [(0, .int .u64 x0), (1, .int .i64 x1), (5, v1), (6, .int .i64 x6)] ∧ A = [oe b1 n1 c1]
def gabionref01_Put_l0_X0 (B0 : Kn) (x5 : List Int) : Fr → Kn → Own → Prop := fun fr B A => KLe B0 B ∧ ∃ v18 b18 n18 c18, OSl (Ty.int .u8) B v18 b18 n18 c18 x5 ∧ fr = [(5, v18)] ∧ A = [oe b18 n18 c18]
theorem gabionref01_Put_j3_ok {B0 : Kn} {L : Own} {n0 : Nat} {x0 : Int} {x1 : Int} {x5 : List Int} {x6 : Int} {x13 : Bool} {Q : AV → St → Prop} {E : (Int × (List Int) × Int) ⊕ (List Int) → Prop} {o : (Int × (List Int) × Int) ⊕ (List Int)} (h : gabionref01_Put_j3 x0 x1 x5 x6 x13 = some o) (hn : ∀ s, E (.inl s) → WXI Tryd.prog 26 n0 (Fin Tryd.prog Tryd.f38.results.toList n0 Q) [.lp (ct [1, 1, 0, 1, 0, 0] (bodyOf Tryd.f38)), .blk 0, .code (ct [1, 1, 1] (bodyOf Tryd.f38))] (gabionref01_Put_l0_I B0 x1 s.1 s.2.1 s.2.2) L) (hx0 : ∀ s, E (.inr s) → WXI Tryd.prog 26 n0 (Fin Tryd.prog Tryd.f38.results.toList n0 Q) [.code (ct [1, 1, 1] (bodyOf Tryd.f38))] (gabionref01_Put_l0_X0 B0 s) L) (hE : E o) : WXI Tryd.prog 26 n0 (Fin Tryd.prog Tryd.f38.results.toList n0 Q) [.code (ct [1, 1, 0, 1, 0, 0, 0, 1] (bodyOf Tryd.f38)), .code (ct [1, 1, 0, 1, 0, 0, 1] (bodyOf Tryd.f38)), .lp (ct [1, 1, 0, 1, 0, 0] (bodyOf Tryd.f38)), .blk 0, .code (ct [1, 1, 1] (bodyOf Tryd.f38))] (gabionref01_Put_j3_I B0 x0 x1 x5 x6 x13) L := by
  unfold gabionref01_Put_j3 at h
  rintro _ B _ ⟨hB, v3, b3, n3, c3, h3, rfl, rfl⟩
  obtain ⟨_, _, _, _, _, rfl⟩ := h3.isl
  rcases bsp x13 with k4 | k4
  · replace h := (if_pos k4).symm.trans h
    refine WX.condT rfl k4 ?_
    refine WX.skip ?_
    refine WX.seq ?_
    refine WX.block ?_
    refine WX.seq ?_
    refine WX.reg ?_
    refine WO.q (.mv (v := .sl _ _ _ _ _ _) rfl) rfl rfl ?_
    refine WO.q (.mv (v := .int _ _) rfl) rfl rfl ?_
    refine WO.q (.r fun _ => rfl) rfl rfl ?_
    refine WO.q (cvI ti76 ti5 rfl rfl) rfl rfl ?_
    refine WO.md (MOp.bs (l := ([(wu8 (Int.tmod x0 256))] : List Int)) sl85 (RL.cons Ri RL.nil) (lb rfl) rfl rfl) rfl rfl ?_
    rintro v7 _ ⟨b5, o6, rfl⟩
    obtain ⟨_, _, _, _, _, rfl⟩ := o6.isl
    obtain ⟨y9, hy9, h⟩ := Option.bind_eq_some_iff.1 h
    refine WO.md (MOp.app rfl rfl rfl sl85 h3 (Src.o (i := 0) sl85 o6 rfl) hy9 rfl rfl (fun _ => (.t .h))) rfl rfl ?_
    rintro v13 _ ⟨b10, n11, o12, rfl⟩
    obtain ⟨_, _, _, _, _, rfl⟩ := o12.isl
    refine WO.q (.as (v := .sl _ _ _ _ _ _) rfl) rfl rfl ?_
    refine WO.nil ?_
    refine WX.reg ?_
    refine WO.q (.mv (v := .int _ _) rfl) rfl rfl ?_
    refine WO.q (.r fun _ => rfl) rfl rfl ?_
    refine WO.q (.as (v := .int _ _) rfl) rfl rfl ?_
    refine WO.nil ?_
    refine WX.pop ?_
    refine WX.reg ?_
    refine WO.q (.mv (v := .int _ _) rfl) rfl rfl ?_
    refine WO.q (.r fun _ => rfl) rfl rfl ?_
    refine WO.q (.as (v := .int _ _) rfl) rfl rfl ?_
    refine WO.nil ?_
    refine WX.keepL [0, 1, 5, 6] (WX.pk [1] (by decide) ?_) rfl
    obtain rfl := Option.some.inj h
    exact hn _ hE _ _ _ ⟨hB, _, _, n11, _, o12, rfl, rfl⟩
  · replace h := (if_neg (bnt k4)).symm.trans h
    refine WX.condF rfl k4 ?_
    refine WX.exit rfl ?_
    refine WX.keep [5] (WX.pk [0] (by decide) ?_) rfl
    obtain rfl := Option.some.inj h
    exact hx0 _ hE _ _ _ ⟨hB, _, _, n3, _, h3, rfl, rfl⟩
theorem gabionref01_Put_l0_s {B0 : Kn} {L : Own} {n0 : Nat} {x1 : Int} {x0 : Int} {x5 : List Int} {x6 : Int} {Q : AV → St → Prop} {E : (Int × (List Int) × Int) ⊕ (List Int) → Prop} {o : (Int × (List Int) × Int) ⊕ (List Int)} (h : gabionref01_Put_l0 x1 x0 x5 x6 = some o) (hn : ∀ s, E (.inl s) → WXI Tryd.prog 26 n0 (Fin Tryd.prog Tryd.f38.results.toList n0 Q) [.lp (ct [1, 1, 0, 1, 0, 0] (bodyOf Tryd.f38)), .blk 0, .code (ct [1, 1, 1] (bodyOf Tryd.f38))] (gabionref01_Put_l0_I B0 x1 s.1 s.2.1 s.2.2) L) (hx0 : ∀ s, E (.inr s) → WXI Tryd.prog 26 n0 (Fin Tryd.prog Tryd.f38.results.toList n0 Q) [.code (ct [1, 1, 1] (bodyOf Tryd.f38))] (gabionref01_Put_l0_X0 B0 s) L) (hE : E o) : WXI Tryd.prog 26 n0 (Fin Tryd.prog Tryd.f38.results.toList n0 Q) [.code (ct [1, 1, 0, 1, 0, 0] (bodyOf Tryd.f38)), .lp (ct [1, 1, 0, 1, 0, 0] (bodyOf Tryd.f38)), .blk 0, .code (ct [1, 1, 1] (bodyOf Tryd.f38))] (gabionref01_Put_l0_I B0 x1 x0 x5 x6) L := by
  unfold gabionref01_Put_l0 at h
  rintro _ B _ ⟨hB, v1, b1, n1, c1, h1, rfl, rfl⟩
  obtain ⟨_, _, _, _, _, rfl⟩ := h1.isl
  refine WX.seq ?_
  refine WX.seq ?_
  refine WX.reg ?_
  refine WO.q (.mv (v := .int _ _) rfl) rfl rfl ?_
  refine WO.q (.mv (v := .int _ _) rfl) rfl rfl ?_
  refine WO.q (.r fun _ => rfl) rfl rfl ?_
  refine WO.q (.mv (v := .bool _) rfl) rfl rfl ?_
  rcases bsp (decide (x6 < x1)) with k2 | k2
  · have q_k2 := of_decide_eq_true k2
    replace h := (if_pos q_k2).symm.trans h
    refine WO.q (.mv (v := .int _ _) rfl) (wg rfl rfl (gt k2)) rfl ?_
    refine WO.q (.r fun _ => rfl) (wg rfl rfl (gt k2)) rfl ?_
    refine WO.q (.ptv (v := .bool _) rfl k2 rfl) rfl rfl ?_
    refine WO.nil ?_
    refine WX.keep [0, 1, 5, 6, 13] (WX.pk [0] (by decide) ?_) rfl
    exact gabionref01_Put_j3_ok h hn hx0 hE _ _ _ ⟨hB, _, _, n1, _, h1, rfl, rfl⟩
  · have q_k2 := of_decide_eq_false k2
    replace h := (if_neg q_k2).symm.trans h
    refine WO.sd (wg rfl rfl (gtn k2)) rfl ?_
    refine WO.sd (wg rfl rfl (gtn k2)) rfl ?_
    refine WO.q (.pfv (v := .bool _) rfl k2 rfl) rfl rfl ?_
    refine WO.nil ?_
    refine WX.keep [0, 1, 5, 6, 13] (WX.pk [0] (by decide) ?_) rfl
    exact gabionref01_Put_j3_ok h hn hx0 hE _ _ _ ⟨hB, _, _, n1, _, h1, rfl, rfl⟩
theorem gabionref01_Put_l0_ok {B0 : Kn} {L : Own} {n0 : Nat} {x1 : Int} {x0 : Int} {x5 : List Int} {x6 : Int} {Q : AV → St → Prop} {d : Nat} {e : (List Int)} (h : iter (fun (s : Int × (List Int) × Int) => gabionref01_Put_l0 x1 s.1 s.2.1 s.2.2) d (x0, x5, x6) = some e) (g0 : ∀ s, e = s → WXI Tryd.prog 26 n0 (Fin Tryd.prog Tryd.f38.results.toList n0 Q) [.code (ct [1, 1, 1] (bodyOf Tryd.f38))] (gabionref01_Put_l0_X0 B0 s) L) : WXI Tryd.prog 26 n0 (Fin Tryd.prog Tryd.f38.results.toList n0 Q) [.code (ct [1, 1, 0, 1, 0, 0] (bodyOf Tryd.f38)), .lp (ct [1, 1, 0, 1, 0, 0] (bodyOf Tryd.f38)), .blk 0, .code (ct [1, 1, 1] (bodyOf Tryd.f38))] (gabionref01_Put_l0_I B0 x1 x0 x5 x6) L :=
  iter_ok (I := fun s => gabionref01_Put_l0_I B0 x1 s.1 s.2.1 s.2.2) (D := fun e => (∀ s, e = s → WXI Tryd.prog 26 n0 (Fin Tryd.prog Tryd.f38.results.toList n0 Q) [.code (ct [1, 1, 1] (bodyOf Tryd.f38))] (gabionref01_Put_l0_X0 B0 s) L)) (fun E hn hx s o ho hE => gabionref01_Put_l0_s (x0 := s.1) (x5 := s.2.1) (x6 := s.2.2) ho hn (fun s hs => (hx _ hs) _ rfl)  hE) h g0
theorem gabionref01_Put_ok {B0 : Kn} {L : Own} {a0 : Int} {a1 : Int} {r : (List UInt8)} (h : gabionref01_Put a0 a1 = some r) : ∀ st, Hp B0 L st → ASpec Tryd.prog 38 [.int .u64 a0, .int .i64 a1] st (gabionref01_Put_P B0 L r) := by
  unfold gabionref01_Put at h
  refine bodyA (A := []) Tryd.func38 rfl (c := bodyOf Tryd.f38) rfl Tryd.ntmps38 (lb rfl) fun n0 => ?_
  have hB := KLe.refl B0
  refine WX.seq ?_
  refine WX.reg ?_
  refine WO.q (.as (v := .str _) rfl) rfl rfl ?_
  refine WO.nil ?_
  refine WX.seq ?_
  refine WX.reg ?_
  refine WO.q (.as (v := .sl _ _ _ _ _ _) rfl) rfl rfl ?_
  refine WO.nil ?_
  refine WX.seq ?_
  refine WX.seq ?_
  refine WX.reg ?_
  refine WO.q (.as (v := .int _ _) rfl) rfl rfl ?_
  refine WO.nil ?_
  refine WX.block ?_
  refine WX.loop ?_
  obtain ⟨e15, he15, h⟩ := Option.bind_eq_some_iff.1 h
  refine WX.keep [0, 1, 5, 6] (WX.pk [] (by decide) (WX.addn [0] ?_)) rfl
  refine gabionref01_Put_l0_ok he15 ?_ _ _ _ ⟨hB, _, 0, true, [], OSl.none _ _, rfl, rfl⟩
  · intro s17 he_
    subst he_
    replace h := h
    rintro _ B _ ⟨hB, v16, b16, n16, c16, h16, rfl, rfl⟩
    obtain ⟨_, _, _, _, _, rfl⟩ := h16.isl
    refine WX.seq ?_
    refine WX.reg ?_
    refine WO.q (.mv (v := .sl _ _ _ _ _ _) rfl) rfl rfl ?_
    refine WO.q (cvBo (j := 0) ⟨_, _, _, ti85, rfl, ti5, rfl⟩ ti9 rfl h16 rfl rfl) rfl rfl ?_
    refine WO.q (.as (v := .str _) rfl) rfl rfl ?_
    refine WO.nil ?_
    obtain rfl := Option.some.inj h
    exact WX.ret (rs_ (rs_tmp rfl rs_nil)) fun st hp => ⟨(hp.pk [] (by decide)).le hB, rfl⟩
end Gab
