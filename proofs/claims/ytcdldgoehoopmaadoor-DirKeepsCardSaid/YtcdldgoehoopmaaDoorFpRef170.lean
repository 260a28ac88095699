/- The Go code comes to what the Lean functions say. Written by a program (gp.py). -/
import Derived.Test.YtcdldgoehoopmaaDoorFd
import Derived.Test.YtcdldgoehoopmaaDoorTy
import Derived.Test.YtcdldgoehoopmaaDoorFpRef010
import Derived.Test.YtcdldgoehoopmaaDoorFpRef020
set_option linter.unusedSimpArgs false
set_option linter.unusedVariables false
set_option maxHeartbeats 4000000
set_option maxRecDepth 100000
namespace Gab
open Go Go.Proofs
def gabionref17_Name_P (B : Kn) (L : Own) (r : Int) : AV → St → Prop := CS B L fun v => v = .int .i64 r
def gabionref17_Name_j6_I (B0 : Kn) (x0 : List UInt8) (x3 : Int) (x35 : Bool) : Fr → Kn → Own → Prop := fun fr B A => KLe B0 B ∧ fr = [(0, .str x0), (3, .int .i64 x3), (35, .bool x35)] ∧ A = []
def gabionref17_Name_l0_I (B0 : Kn) (x0 : List UInt8) (x3 : Int) : Fr → Kn → Own → Prop := fun fr B A => KLe B0 B ∧ fr = [(0, .str x0), (3, .int .i64 x3)] ∧ A = []
def gabionref17_Name_l0_X0 (B0 : Kn) : Fr → Kn → Own → Prop := fun fr B A => KLe B0 B ∧ fr = [] ∧ A = []
def gabionref17_Name_j1_I (B0 : Kn) (x0 : List UInt8) (x19 : Bool) : Fr → Kn → Own → Prop := fun fr B A => KLe B0 B ∧ fr = [(0, .str x0), (19, .bool x19)] ∧ A = []
theorem gabionref17_Name_j6_ok {B0 : Kn} {L : Own} {n0 : Nat} {x0 : List UInt8} {x3 : Int} {x35 : Bool} {Q : AV → St → Prop} {E : Int ⊕ (Int ⊕ Unit) → Prop} {o : Int ⊕ (Int ⊕ Unit)} (h : gabionref17_Name_j6 x0 x3 x35 = some o) (hn : ∀ s, E (.inl s) → WXI Tryd.prog 36 n0 (Fin Tryd.prog Tryd.f22.results.toList n0 Q) [.lp (ct [1, 1, 0, 1, 0, 0] (bodyOf Tryd.f22)), .blk 0, .code (ct [1, 1, 1] (bodyOf Tryd.f22))] (gabionref17_Name_l0_I B0 x0 s) L) (hx0 : ∀ s, E (.inr (.inr s)) → WXI Tryd.prog 36 n0 (Fin Tryd.prog Tryd.f22.results.toList n0 Q) [.code (ct [1, 1, 1] (bodyOf Tryd.f22))] (gabionref17_Name_l0_X0 B0) L) (hr : ∀ r, E (.inr (.inl r)) → ∀ v st, gabionref17_Name_P B0 L r v st → Q v st) (hE : E o) : WXI Tryd.prog 36 n0 (Fin Tryd.prog Tryd.f22.results.toList n0 Q) [.code (ct [1, 1, 0, 1, 0, 0, 1, 0, 0, 1] (bodyOf Tryd.f22)), .blk 1, .code (ct [1, 1, 0, 1, 0, 0, 1, 1] (bodyOf Tryd.f22)), .lp (ct [1, 1, 0, 1, 0, 0] (bodyOf Tryd.f22)), .blk 0, .code (ct [1, 1, 1] (bodyOf Tryd.f22))] (gabionref17_Name_j6_I B0 x0 x3 x35) L := by
  unfold gabionref17_Name_j6 at h
  rintro _ B _ ⟨hB, rfl, rfl⟩
  rcases bsp x35 with k6 | k6
  · replace h := (if_pos k6).symm.trans h
    refine WX.condT rfl k6 ?_
    refine WX.seq ?_
    refine WX.reg ?_
    refine WO.q (.as (v := .int _ _) rfl) rfl rfl ?_
    refine WO.nil ?_
    obtain rfl := Option.some.inj h
    exact WX.ret (rs_ (rs_tmp rfl rs_nil)) fun st hp => hr _ hE _ _ ⟨(hp.pk [] (by decide)).le hB, rfl⟩
  · replace h := (if_neg (bnt k6)).symm.trans h
    refine WX.condF rfl k6 ?_
    refine WX.skip ?_
    refine WX.pop ?_
    refine WX.reg ?_
    refine WO.q (.mv (v := .int _ _) rfl) rfl rfl ?_
    refine WO.q (.r fun _ => rfl) rfl rfl ?_
    refine WO.q (.as (v := .int _ _) rfl) rfl rfl ?_
    refine WO.nil ?_
    refine WX.keepL [0, 3] (WX.pk [] (by decide) ?_) rfl
    obtain rfl := Option.some.inj h
    exact hn _ hE _ _ _ ⟨hB, rfl, rfl⟩
theorem gabionref17_Name_l0_s {B0 : Kn} {L : Own} {n0 : Nat} {x0 : List UInt8} {x3 : Int} {Q : AV → St → Prop} {E : Int ⊕ (Int ⊕ Unit) → Prop} {o : Int ⊕ (Int ⊕ Unit)} (h : gabionref17_Name_l0 x0 x3 = some o) (hn : ∀ s, E (.inl s) → WXI Tryd.prog 36 n0 (Fin Tryd.prog Tryd.f22.results.toList n0 Q) [.lp (ct [1, 1, 0, 1, 0, 0] (bodyOf Tryd.f22)), .blk 0, .code (ct [1, 1, 1] (bodyOf Tryd.f22))] (gabionref17_Name_l0_I B0 x0 s) L) (hx0 : ∀ s, E (.inr (.inr s)) → WXI Tryd.prog 36 n0 (Fin Tryd.prog Tryd.f22.results.toList n0 Q) [.code (ct [1, 1, 1] (bodyOf Tryd.f22))] (gabionref17_Name_l0_X0 B0) L) (hr : ∀ r, E (.inr (.inl r)) → ∀ v st, gabionref17_Name_P B0 L r v st → Q v st) (hE : E o) : WXI Tryd.prog 36 n0 (Fin Tryd.prog Tryd.f22.results.toList n0 Q) [.code (ct [1, 1, 0, 1, 0, 0] (bodyOf Tryd.f22)), .lp (ct [1, 1, 0, 1, 0, 0] (bodyOf Tryd.f22)), .blk 0, .code (ct [1, 1, 1] (bodyOf Tryd.f22))] (gabionref17_Name_l0_I B0 x0 x3) L := by
  unfold gabionref17_Name_l0 at h
  rintro _ B _ ⟨hB, rfl, rfl⟩
  refine WX.seq ?_
  refine WX.seq ?_
  refine WX.reg ?_
  refine WO.q (.mv (v := .int _ _) rfl) rfl rfl ?_
  refine WO.q (.mv (v := .str _) rfl) rfl rfl ?_
  refine WO.q (.len rfl rfl rfl (evslen ti9 rfl _)) rfl rfl ?_
  refine WO.q (.r fun _ => rfl) rfl rfl ?_
  refine WO.nil ?_
  rcases bsp (decide (x3 < (x0.length : Int))) with k3 | k3
  · have q_k3 := of_decide_eq_true k3
    replace h := (if_pos q_k3).symm.trans h
    refine WX.condT rfl k3 ?_
    refine WX.skip ?_
    refine WX.seq ?_
    refine WX.block ?_
    refine WX.seq ?_
    refine WX.reg ?_
    refine WO.q (.mv (v := .str _) rfl) rfl rfl ?_
    refine WO.q (.mv (v := .int _ _) rfl) rfl rfl ?_
    obtain ⟨y4, hy4, h⟩ := Option.bind_eq_some_iff.1 h
    refine WO.q (.ix (evsix ti9 rfl hy4 _)) rfl rfl ?_
    refine WO.q (.r fun _ => rfl) rfl rfl ?_
    refine WO.q (.mv (v := .bool _) rfl) rfl rfl ?_
    rcases bsp (decide ((y4.toNat : Int) = 0)) with k5 | k5
    · have q_k5 := of_decide_eq_true k5
      replace h := (if_pos q_k5).symm.trans h
      refine WO.sd (wg rfl rfl (gfn k5)) rfl ?_
      refine WO.sd (wg rfl rfl (gfn k5)) rfl ?_
      refine WO.sd (wg rfl rfl (gfn k5)) rfl ?_
      refine WO.sd (wg rfl rfl (gfn k5)) rfl ?_
      refine WO.q (.ptv (v := .bool _) rfl k5 rfl) rfl rfl ?_
      refine WO.nil ?_
      refine WX.keep [0, 3, 35] (WX.pk [] (by decide) ?_) rfl
      exact gabionref17_Name_j6_ok h hn hx0 hr hE _ _ _ ⟨hB, rfl, rfl⟩
    · have q_k5 := of_decide_eq_false k5
      replace h := (if_neg q_k5).symm.trans h
      refine WO.q (.mv (v := .str _) rfl) (wg rfl rfl (gf k5)) rfl ?_
      refine WO.q (.mv (v := .int _ _) rfl) (wg rfl rfl (gf k5)) rfl ?_
      obtain ⟨y7, hy7, h⟩ := Option.bind_eq_some_iff.1 h
      refine WO.q (.ix (evsix ti9 rfl hy7 _)) (wg rfl rfl (gf k5)) rfl ?_
      refine WO.q (.r fun _ => rfl) (wg rfl rfl (gf k5)) rfl ?_
      refine WO.q (.pfv (v := .bool _) rfl k5 rfl) rfl rfl ?_
      refine WO.nil ?_
      refine WX.keep [0, 3, 35] (WX.pk [] (by decide) ?_) rfl
      exact gabionref17_Name_j6_ok h hn hx0 hr hE _ _ _ ⟨hB, rfl, rfl⟩
  · have q_k3 := of_decide_eq_false k3
    replace h := (if_neg q_k3).symm.trans h
    refine WX.condF rfl k3 ?_
    refine WX.exit rfl ?_
    refine WX.keep [] (WX.pk [] (by decide) ?_) rfl
    obtain rfl := Option.some.inj h
    exact hx0 _ hE _ _ _ ⟨hB, rfl, rfl⟩
theorem gabionref17_Name_l0_ok {B0 : Kn} {L : Own} {n0 : Nat} {x0 : List UInt8} {x3 : Int} {Q : AV → St → Prop} {d : Nat} {e : Int ⊕ Unit} (h : iter (fun (s : Int) => gabionref17_Name_l0 x0 s) d x3 = some e) (g0 : ∀ r, e = (.inl r) → ∀ v st, gabionref17_Name_P B0 L r v st → Q v st) (g1 : ∀ s, e = (.inr s) → WXI Tryd.prog 36 n0 (Fin Tryd.prog Tryd.f22.results.toList n0 Q) [.code (ct [1, 1, 1] (bodyOf Tryd.f22))] (gabionref17_Name_l0_X0 B0) L) : WXI Tryd.prog 36 n0 (Fin Tryd.prog Tryd.f22.results.toList n0 Q) [.code (ct [1, 1, 0, 1, 0, 0] (bodyOf Tryd.f22)), .lp (ct [1, 1, 0, 1, 0, 0] (bodyOf Tryd.f22)), .blk 0, .code (ct [1, 1, 1] (bodyOf Tryd.f22))] (gabionref17_Name_l0_I B0 x0 x3) L :=
  iter_ok (I := fun s => gabionref17_Name_l0_I B0 x0 s) (D := fun e => (∀ r, e = (.inl r) → ∀ v st, gabionref17_Name_P B0 L r v st → Q v st) ∧ (∀ s, e = (.inr s) → WXI Tryd.prog 36 n0 (Fin Tryd.prog Tryd.f22.results.toList n0 Q) [.code (ct [1, 1, 1] (bodyOf Tryd.f22))] (gabionref17_Name_l0_X0 B0) L)) (fun E hn hx s o ho hE => gabionref17_Name_l0_s (x3 := s) ho hn (fun s hs => (hx _ hs).2 _ rfl) (fun r hs => (hx _ hs).1 _ rfl) hE) h ⟨g0, g1⟩
theorem gabionref17_Name_j1_ok {B0 : Kn} {L : Own} {n0 : Nat} {x0 : List UInt8} {x19 : Bool} {r : Int} (h : gabionref17_Name_j1 x0 x19 = some r) : WXI Tryd.prog 36 n0 (Fin Tryd.prog Tryd.f22.results.toList n0 (gabionref17_Name_P B0 L r)) [.code (ct [1, 0, 1] (bodyOf Tryd.f22)), .code (ct [1, 1] (bodyOf Tryd.f22))] (gabionref17_Name_j1_I B0 x0 x19) L := by
  unfold gabionref17_Name_j1 at h
  rintro _ B _ ⟨hB, rfl, rfl⟩
  rcases bsp x19 with k2 | k2
  · replace h := (if_pos k2).symm.trans h
    refine WX.condT rfl k2 ?_
    refine WX.seq ?_
    refine WX.reg ?_
    refine WO.q (.as (v := .int _ _) rfl) rfl rfl ?_
    refine WO.nil ?_
    obtain rfl := Option.some.inj h
    exact WX.ret (rs_ (rs_tmp rfl rs_nil)) fun st hp => ⟨(hp.pk [] (by decide)).le hB, rfl⟩
  · replace h := (if_neg (bnt k2)).symm.trans h
    refine WX.condF rfl k2 ?_
    refine WX.skip ?_
    refine WX.seq ?_
    refine WX.seq ?_
    refine WX.reg ?_
    refine WO.q (.as (v := .int _ _) rfl) rfl rfl ?_
    refine WO.nil ?_
    refine WX.block ?_
    refine WX.loop ?_
    obtain ⟨e8, he8, h⟩ := Option.bind_eq_some_iff.1 h
    refine WX.keep [0, 3] (WX.pk [] (by decide) ?_) rfl
    refine gabionref17_Name_l0_ok he8 ?_ ?_ _ _ _ ⟨hB, rfl, rfl⟩
    · intro r10 he_
      subst he_
      replace h := (on_l h)
      obtain rfl := Option.some.inj h
      exact fun v st hp => hp
    · intro x11 he_
      subst he_
      replace h := (on_r h)
      rintro _ B _ ⟨hB, rfl, rfl⟩
      refine WX.seq ?_
      refine WX.reg ?_
      refine WO.q (.as (v := .int _ _) rfl) rfl rfl ?_
      refine WO.nil ?_
      obtain rfl := Option.some.inj h
      exact WX.ret (rs_ (rs_tmp rfl rs_nil)) fun st hp => ⟨(hp.pk [] (by decide)).le hB, rfl⟩
theorem gabionref17_Name_ok {B0 : Kn} {L : Own} {a0 : List UInt8} {r : Int} (h : gabionref17_Name a0 = some r) : ∀ st, Hp B0 L st → ASpec Tryd.prog 22 [.str a0] st (gabionref17_Name_P B0 L r) := by
  unfold gabionref17_Name at h
  refine bodyA (A := []) Tryd.func22 rfl (c := bodyOf Tryd.f22) rfl Tryd.ntmps22 (lb rfl) fun n0 => ?_
  have hB := KLe.refl B0
  refine WX.seq ?_
  refine WX.reg ?_
  refine WO.q (.as (v := .int _ _) rfl) rfl rfl ?_
  refine WO.nil ?_
  refine WX.seq ?_
  refine WX.seq ?_
  refine WX.reg ?_
  refine WO.q (.mv (v := .str _) rfl) rfl rfl ?_
  refine WO.q (.len rfl rfl rfl (evslen ti9 rfl _)) rfl rfl ?_
  refine WO.q (.r fun _ => rfl) rfl rfl ?_
  refine WO.q (.mv (v := .bool _) rfl) rfl rfl ?_
  rcases bsp (decide ((a0.length : Int) < 1)) with k1 | k1
  · have q_k1 := of_decide_eq_true k1
    replace h := (if_pos q_k1).symm.trans h
    refine WO.sd (wg rfl rfl (gfn k1)) rfl ?_
    refine WO.sd (wg rfl rfl (gfn k1)) rfl ?_
    refine WO.sd (wg rfl rfl (gfn k1)) rfl ?_
    refine WO.q (.ptv (v := .bool _) rfl k1 rfl) rfl rfl ?_
    refine WO.q (.mv (v := .bool _) rfl) rfl rfl ?_
    refine WO.sd (wg rfl rfl (gfn rfl)) rfl ?_
    refine WO.sd (wg rfl rfl (gfn rfl)) rfl ?_
    refine WO.q (.ptv (v := .bool _) rfl rfl rfl) rfl rfl ?_
    refine WO.q (.mv (v := .bool _) rfl) rfl rfl ?_
    refine WO.sd (wg rfl rfl (gfn rfl)) rfl ?_
    refine WO.sd (wg rfl rfl (gfn rfl)) rfl ?_
    refine WO.q (.ptv (v := .bool _) rfl rfl rfl) rfl rfl ?_
    refine WO.nil ?_
    refine WX.keep [0, 19] (WX.pk [] (by decide) ?_) rfl
    exact gabionref17_Name_j1_ok h _ _ _ ⟨hB, rfl, rfl⟩
  · have q_k1 := of_decide_eq_false k1
    replace h := (if_neg q_k1).symm.trans h
    refine WO.q (.mv (v := .str _) rfl) (wg rfl rfl (gf k1)) rfl ?_
    refine WO.q (.len rfl rfl rfl (evslen ti9 rfl _)) (wg rfl rfl (gf k1)) rfl ?_
    refine WO.q (.r fun _ => rfl) (wg rfl rfl (gf k1)) rfl ?_
    refine WO.q (.pfv (v := .bool _) rfl k1 rfl) rfl rfl ?_
    refine WO.q (.mv (v := .bool _) rfl) rfl rfl ?_
    rcases bsp (decide (32 < (a0.length : Int))) with k12 | k12
    · have q_k12 := of_decide_eq_true k12
      replace h := (if_pos q_k12).symm.trans h
      refine WO.sd (wg rfl rfl (gfn k12)) rfl ?_
      refine WO.sd (wg rfl rfl (gfn k12)) rfl ?_
      refine WO.q (.ptv (v := .bool _) rfl k12 rfl) rfl rfl ?_
      refine WO.q (.mv (v := .bool _) rfl) rfl rfl ?_
      refine WO.sd (wg rfl rfl (gfn rfl)) rfl ?_
      refine WO.sd (wg rfl rfl (gfn rfl)) rfl ?_
      refine WO.q (.ptv (v := .bool _) rfl rfl rfl) rfl rfl ?_
      refine WO.nil ?_
      refine WX.keep [0, 19] (WX.pk [] (by decide) ?_) rfl
      exact gabionref17_Name_j1_ok h _ _ _ ⟨hB, rfl, rfl⟩
    · have q_k12 := of_decide_eq_false k12
      replace h := (if_neg q_k12).symm.trans h
      refine WO.q (.mv (v := .str _) rfl) (wg rfl rfl (gf k12)) rfl ?_
      refine WO.q (.r fun _ => rfl) (wg rfl rfl (gf k12)) rfl ?_
      refine WO.q (.pfv (v := .bool _) rfl k12 rfl) rfl rfl ?_
      refine WO.q (.mv (v := .bool _) rfl) rfl rfl ?_
      rcases bsp (decide (a0 = ([46] : List UInt8))) with k13 | k13
      · have q_k13 := of_decide_eq_true k13
        replace h := (if_pos q_k13).symm.trans h
        refine WO.sd (wg rfl rfl (gfn k13)) rfl ?_
        refine WO.sd (wg rfl rfl (gfn k13)) rfl ?_
        refine WO.q (.ptv (v := .bool _) rfl k13 rfl) rfl rfl ?_
        refine WO.nil ?_
        refine WX.keep [0, 19] (WX.pk [] (by decide) ?_) rfl
        exact gabionref17_Name_j1_ok h _ _ _ ⟨hB, rfl, rfl⟩
      · have q_k13 := of_decide_eq_false k13
        replace h := (if_neg q_k13).symm.trans h
        refine WO.q (.mv (v := .str _) rfl) (wg rfl rfl (gf k13)) rfl ?_
        refine WO.q (.r fun _ => rfl) (wg rfl rfl (gf k13)) rfl ?_
        refine WO.q (.pfv (v := .bool _) rfl k13 rfl) rfl rfl ?_
        refine WO.nil ?_
        refine WX.keep [0, 19] (WX.pk [] (by decide) ?_) rfl
        exact gabionref17_Name_j1_ok h _ _ _ ⟨hB, rfl, rfl⟩
def gabionref17_Put_P (B : Kn) (L : Own) (r : ((List ((List UInt8) × Int)) × Int) × Int) : AV → St → Prop := C0 B L fun B' v => ∃ w0, v = .tup [.agg [w0, .int .i64 r.1.2], .int .i64 r.2] ∧ RSl EPStIi64Q B' w0 r.1.1
def gabionref17_Put_j15_I (B0 : Kn) (x1 : List UInt8) (x2 : Int) (x10 : Bool) (x11 : Int) (zb3 : (List ((List UInt8) × Int)) × Int) (zb6 : (List ((List UInt8) × Int)) × Int) (zb9 : (List ((List UInt8) × Int)) × Int) : Fr → Kn → Own → Prop := fun fr B A => KLe B0 B ∧ ∃ b44 v45 b46 v47 b47 n47 c47 b48 v49 b49 n49 c49, RSl EPStIi64Q B v45 zb3.1 ∧ OSl EPStIi64Q B v47 b47 n47 c47 zb6.1 ∧ OSl EPStIi64Q B v49 b49 n49 c49 zb9.1 ∧ fr = [(1, .str x1), (2, .int .i64 x2), (3, .ptr b44 0), (6, .ptr b46 0), (9, .ptr b48 0), (10, .bool x10), (11, .int .i64 x11)] ∧ A = [(b44, some (.c [v45, .int .i64 zb3.2])), (b46, some (.c [v47, .int .i64 zb6.2])), (b48, some (.c [v49, .int .i64 zb9.2])), oe b47 n47 c47, oe b49 n49 c49]
def gabionref17_Put_j13_I (B0 : Kn) (x1 : List UInt8) (x2 : Int) (x10 : Bool) (x11 : Int) (zb3 : (List ((List UInt8) × Int)) × Int) (zb6 : (List ((List UInt8) × Int)) × Int) (zb9 : (List ((List UInt8) × Int)) × Int) : Fr → Kn → Own → Prop := fun fr B A => KLe B0 B ∧ ∃ b36 v37 b38 v39 b39 n39 c39 b40 v41 b41 n41 c41, RSl EPStIi64Q B v37 zb3.1 ∧ OSl EPStIi64Q B v39 b39 n39 c39 zb6.1 ∧ OSl EPStIi64Q B v41 b41 n41 c41 zb9.1 ∧ fr = [(1, .str x1), (2, .int .i64 x2), (3, .ptr b36 0), (6, .ptr b38 0), (9, .ptr b40 0), (10, .bool x10), (11, .int .i64 x11)] ∧ A = [(b36, some (.c [v37, .int .i64 zb3.2])), (b38, some (.c [v39, .int .i64 zb6.2])), (b40, some (.c [v41, .int .i64 zb9.2])), oe b39 n39 c39, oe b41 n41 c41]
def gabionref17_Put_j11_I (B0 : Kn) (x1 : List UInt8) (x2 : Int) (x10 : Bool) (x11 : Int) (x46 : Bool) (zb3 : (List ((List UInt8) × Int)) × Int) (zb6 : (List ((List UInt8) × Int)) × Int) (zb9 : (List ((List UInt8) × Int)) × Int) : Fr → Kn → Own → Prop := fun fr B A => KLe B0 B ∧ ∃ b20 v21 b22 v23 b23 n23 c23 b24 v25 b25 n25 c25, RSl EPStIi64Q B v21 zb3.1 ∧ OSl EPStIi64Q B v23 b23 n23 c23 zb6.1 ∧ OSl EPStIi64Q B v25 b25 n25 c25 zb9.1 ∧ fr = [(1, .str x1), (2, .int .i64 x2), (3, .ptr b20 0), (6, .ptr b22 0), (9, .ptr b24 0), (10, .bool x10), (11, .int .i64 x11), (46, .bool x46)] ∧ A = [(b20, some (.c [v21, .int .i64 zb3.2])), (b22, some (.c [v23, .int .i64 zb6.2])), (b24, some (.c [v25, .int .i64 zb9.2])), oe b23 n23 c23, oe b25 n25 c25]
def gabionref17_Put_l0_I (B0 : Kn) (x1 : List UInt8) (x2 : Int) (zb3 : (List ((List UInt8) × Int)) × Int) (zb6 : (List ((List UInt8) × Int)) × Int) (x10 : Bool) (x11 : Int) (zb9 : (List ((List UInt8) × Int)) × Int) : Fr → Kn → Own → Prop := fun fr B A => KLe B0 B ∧ ∃ b12 v13 b14 v15 b15 n15 c15 b16 v17 b17 n17 c17, RSl EPStIi64Q B v13 zb3.1 ∧ OSl EPStIi64Q B v15 b15 n15 c15 zb6.1 ∧ OSl EPStIi64Q B v17 b17 n17 c17 zb9.1 ∧ fr = [(1, .str x1), (2, .int .i64 x2), (3, .ptr b12 0), (6, .ptr b14 0), (9, .ptr b16 0), (10, .bool x10), (11, .int .i64 x11)] ∧ A = [(b12, some (.c [v13, .int .i64 zb3.2])), (b14, some (.c [v15, .int .i64 zb6.2])), (b16, some (.c [v17, .int .i64 zb9.2])), oe b15 n15 c15, oe b17 n17 c17]
def gabionref17_Put_l0_X0 (B0 : Kn) (x1 : List UInt8) (x2 : Int) (x10 : Bool) (zb3 : (List ((List UInt8) × Int)) × Int) (zb6 : (List ((List UInt8) × Int)) × Int) (zb9 : (List ((List UInt8) × Int)) × Int) : Fr → Kn → Own → Prop := fun fr B A => KLe B0 B ∧ ∃ b99 v100 b101 v102 b102 n102 c102 b103 v104 b104 n104 c104, RSl EPStIi64Q B v100 zb3.1 ∧ OSl EPStIi64Q B v102 b102 n102 c102 zb6.1 ∧ OSl EPStIi64Q B v104 b104 n104 c104 zb9.1 ∧ fr = [(1, .str x1), (2, .int .i64 x2), (3, .ptr b99 0), (6, .ptr b101 0), (9, .ptr b103 0), (10, .bool x10)] ∧ A = [(b99, some (.c [v100, .int .i64 zb3.2])), (b101, some (.c [v102, .int .i64 zb6.2])), (b103, some (.c [v104, .int .i64 zb9.2])), oe b102 n102 c102, oe b104 n104 c104]
def gabionref17_Put_j19_I (B0 : Kn) (x98 : Bool) (zb6 : (List ((List UInt8) × Int)) × Int) (zb9 : (List ((List UInt8) × Int)) × Int) : Fr → Kn → Own → Prop := fun fr B A => KLe B0 B ∧ ∃ b82 v83 b83 n83 c83 b84 v85 b85 n85 c85, OSl EPStIi64Q B v83 b83 n83 c83 zb6.1 ∧ OSl EPStIi64Q B v85 b85 n85 c85 zb9.1 ∧ fr = [(6, .ptr b82 0), (9, .ptr b84 0), (98, .bool x98)] ∧ A = [(b82, some (.c [v83, .int .i64 zb6.2])), (b84, some (.c [v85, .int .i64 zb9.2])), oe b83 n83 c83, oe b85 n85 c85]
def gabionref17_Put_j18_I (B0 : Kn) (zb3 : (List ((List UInt8) × Int)) × Int) (zb6 : (List ((List UInt8) × Int)) × Int) (zb9 : (List ((List UInt8) × Int)) × Int) : Fr → Kn → Own → Prop := fun fr B A => KLe B0 B ∧ ∃ b75 v76 b77 v78 b78 n78 c78 b79 v80 b80 n80 c80, RSl EPStIi64Q B v76 zb3.1 ∧ OSl EPStIi64Q B v78 b78 n78 c78 zb6.1 ∧ OSl EPStIi64Q B v80 b80 n80 c80 zb9.1 ∧ fr = [(3, .ptr b75 0), (6, .ptr b77 0), (9, .ptr b79 0)] ∧ A = [(b75, some (.c [v76, .int .i64 zb3.2])), (b77, some (.c [v78, .int .i64 zb6.2])), (b79, some (.c [v80, .int .i64 zb9.2])), oe b78 n78 c78, oe b80 n80 c80]
def gabionref17_Put_j4_I (B0 : Kn) (x1 : List UInt8) (x2 : Int) (x23 : Bool) (zb3 : (List ((List UInt8) × Int)) × Int) (zb6 : (List ((List UInt8) × Int)) × Int) : Fr → Kn → Own → Prop := fun fr B A => KLe B0 B ∧ ∃ b6 v7 b8 v9 b9 n9 c9, RSl EPStIi64Q B v7 zb3.1 ∧ OSl EPStIi64Q B v9 b9 n9 c9 zb6.1 ∧ fr = [(1, .str x1), (2, .int .i64 x2), (3, .ptr b6 0), (6, .ptr b8 0), (23, .bool x23)] ∧ A = [(b6, some (.c [v7, .int .i64 zb3.2])), (b8, some (.c [v9, .int .i64 zb6.2])), oe b9 n9 c9]
theorem gabionref17_Put_j15_ok {B0 : Kn} {L : Own} {n0 : Nat} {x1 : List UInt8} {x2 : Int} {x10 : Bool} {x11 : Int} {zb3 : (List ((List UInt8) × Int)) × Int} {zb6 : (List ((List UInt8) × Int)) × Int} {zb9 : (List ((List UInt8) × Int)) × Int} {Q : AV → St → Prop} {E : (Bool × Int × ((List ((List UInt8) × Int)) × Int)) ⊕ (Bool × ((List ((List UInt8) × Int)) × Int)) → Prop} {o : (Bool × Int × ((List ((List UInt8) × Int)) × Int)) ⊕ (Bool × ((List ((List UInt8) × Int)) × Int))} (h : gabionref17_Put_j15 x1 x2 x10 x11 zb3 zb6 zb9 = some o) (hn : ∀ s, E (.inl s) → WXI Tryd.prog 104 n0 (Fin Tryd.prog Tryd.f16.results.toList n0 Q) [.lp (ct [1, 1, 1, 1, 1, 1, 0, 1, 0, 0] (bodyOf Tryd.f16)), .blk 0, .code (ct [1, 1, 1, 1, 1, 1, 1] (bodyOf Tryd.f16))] (gabionref17_Put_l0_I B0 x1 x2 zb3 zb6 s.1 s.2.1 s.2.2) L) (hx0 : ∀ s, E (.inr s) → WXI Tryd.prog 104 n0 (Fin Tryd.prog Tryd.f16.results.toList n0 Q) [.code (ct [1, 1, 1, 1, 1, 1, 1] (bodyOf Tryd.f16))] (gabionref17_Put_l0_X0 B0 x1 x2 s.1 zb3 zb6 s.2) L) (hE : E o) : WXI Tryd.prog 104 n0 (Fin Tryd.prog Tryd.f16.results.toList n0 Q) [.code (ct [1, 1, 1, 1, 1, 1, 0, 1, 0, 0, 1, 1] (bodyOf Tryd.f16)), .lp (ct [1, 1, 1, 1, 1, 1, 0, 1, 0, 0] (bodyOf Tryd.f16)), .blk 0, .code (ct [1, 1, 1, 1, 1, 1, 1] (bodyOf Tryd.f16))] (gabionref17_Put_j15_I B0 x1 x2 x10 x11 zb3 zb6 zb9) L := by
  unfold gabionref17_Put_j15 at h
  rintro _ B _ ⟨hB, b44, v45, b46, v47, b47, n47, c47, b48, v49, b49, n49, c49, h45, h47, h49, rfl, rfl⟩
  obtain ⟨_, _, _, _, _, rfl⟩ := h45.isl
  obtain ⟨_, _, _, _, _, rfl⟩ := h47.isl
  obtain ⟨_, _, _, _, _, rfl⟩ := h49.isl
  refine WX.reg ?_
  refine WO.q (.mv (v := .int _ _) rfl) rfl rfl ?_
  refine WO.q (.r fun _ => rfl) rfl rfl ?_
  refine WO.q (.as (v := .int _ _) rfl) rfl rfl ?_
  refine WO.nil ?_
  refine WX.keepL [1, 2, 3, 6, 9, 10, 11] (WX.pk [0, 1, 2, 3, 4] (by decide) ?_) rfl
  obtain rfl := Option.some.inj h
  exact hn _ hE _ _ _ ⟨hB, _, _, _, _, _, n47, _, _, _, _, n49, _, h45, h47, h49, rfl, rfl⟩
theorem gabionref17_Put_j13_ok {B0 : Kn} {L : Own} {n0 : Nat} {x1 : List UInt8} {x2 : Int} {x10 : Bool} {x11 : Int} {zb3 : (List ((List UInt8) × Int)) × Int} {zb6 : (List ((List UInt8) × Int)) × Int} {zb9 : (List ((List UInt8) × Int)) × Int} {Q : AV → St → Prop} {E : (Bool × Int × ((List ((List UInt8) × Int)) × Int)) ⊕ (Bool × ((List ((List UInt8) × Int)) × Int)) → Prop} {o : (Bool × Int × ((List ((List UInt8) × Int)) × Int)) ⊕ (Bool × ((List ((List UInt8) × Int)) × Int))} (h : gabionref17_Put_j13 x1 x2 x10 x11 zb3 zb6 zb9 = some o) (hn : ∀ s, E (.inl s) → WXI Tryd.prog 104 n0 (Fin Tryd.prog Tryd.f16.results.toList n0 Q) [.lp (ct [1, 1, 1, 1, 1, 1, 0, 1, 0, 0] (bodyOf Tryd.f16)), .blk 0, .code (ct [1, 1, 1, 1, 1, 1, 1] (bodyOf Tryd.f16))] (gabionref17_Put_l0_I B0 x1 x2 zb3 zb6 s.1 s.2.1 s.2.2) L) (hx0 : ∀ s, E (.inr s) → WXI Tryd.prog 104 n0 (Fin Tryd.prog Tryd.f16.results.toList n0 Q) [.code (ct [1, 1, 1, 1, 1, 1, 1] (bodyOf Tryd.f16))] (gabionref17_Put_l0_X0 B0 x1 x2 s.1 zb3 zb6 s.2) L) (hE : E o) : WXI Tryd.prog 104 n0 (Fin Tryd.prog Tryd.f16.results.toList n0 Q) [.code (ct [1, 1, 1, 1, 1, 1, 0, 1, 0, 0, 1, 0, 0, 1] (bodyOf Tryd.f16)), .blk 1, .code (ct [1, 1, 1, 1, 1, 1, 0, 1, 0, 0, 1, 1] (bodyOf Tryd.f16)), .lp (ct [1, 1, 1, 1, 1, 1, 0, 1, 0, 0] (bodyOf Tryd.f16)), .blk 0, .code (ct [1, 1, 1, 1, 1, 1, 1] (bodyOf Tryd.f16))] (gabionref17_Put_j13_I B0 x1 x2 x10 x11 zb3 zb6 zb9) L := by
  unfold gabionref17_Put_j13 at h
  rintro _ B _ ⟨hB, b36, v37, b38, v39, b39, n39, c39, b40, v41, b41, n41, c41, h37, h39, h41, rfl, rfl⟩
  obtain ⟨_, _, _, _, _, rfl⟩ := h37.isl
  obtain ⟨_, _, _, _, _, rfl⟩ := h39.isl
  obtain ⟨_, _, _, _, _, rfl⟩ := h41.isl
  refine WX.seq ?_
  refine WX.reg ?_
  refine WO.q (.fa (fa47_0 _ _)) rfl rfl ?_
  refine WO.q (.ldS (i := 0) rfl rfl rfl ti45 rfl) rfl rfl ?_
  refine WO.q (.mv (v := .int _ _) rfl) rfl rfl ?_
  obtain ⟨y42, hy42, h⟩ := Option.bind_eq_some_iff.1 h
  obtain ⟨b_y42, o_y42, _, i_y42, p_y42, r_y42⟩ := h37.at sl45 hy42 .i64
  obtain ⟨_, _, rfl, rfl, rfl⟩ := r_y42
  refine WO.q (.ia i_y42) rfl rfl ?_
  refine WO.q (.fa (fa54_0 _ _)) rfl rfl ?_
  refine WO.q (.lpS rfl p_y42 rfl ti9 rfl) rfl rfl ?_
  refine WO.q (.mv (v := .str _) rfl) rfl rfl ?_
  refine WO.q (.r fun _ => rfl) rfl rfl ?_
  refine WO.nil ?_
  rcases bsp (decide (y42.1 = x1)) with k43 | k43
  · have q_k43 := of_decide_eq_true k43
    replace h := (if_pos q_k43).symm.trans h
    refine WX.condF rfl (f_not k43) ?_
    refine WX.skip ?_
    refine WX.pop ?_
    refine WX.keep [1, 2, 3, 6, 9, 10, 11] (WX.pk [0, 1, 2, 3, 4] (by decide) ?_) rfl
    exact gabionref17_Put_j15_ok h hn hx0 hE _ _ _ ⟨hB, _, _, _, _, _, n39, _, _, _, _, n41, _, h37, h39, h41, rfl, rfl⟩
  · have q_k43 := of_decide_eq_false k43
    replace h := (if_neg q_k43).symm.trans h
    refine WX.condT rfl (t_not k43) ?_
    refine WX.drw (Plan.of [0, 1, 2, 3, 4, 5, 6, 7, 8, 9, 10] .nil) _ mixed (by kernel_rfl) rfl (subL (pk_sub [0, 1, 2, 3])) ?_
    refine WP.q (i := 0) rfl (.fa (fa47_0 _ _)) rfl rfl rfl ?_
    refine WP.q (i := 1) rfl (.ldS (i := 2) rfl rfl rfl ti45 rfl) rfl rfl rfl ?_
    refine WP.q (i := 2) rfl (.fa (fa47_0 _ _)) rfl rfl rfl ?_
    refine WP.q (i := 3) rfl (.ldS (i := 0) rfl rfl rfl ti45 rfl) rfl rfl rfl ?_
    refine WP.q (i := 4) rfl (.mv (v := .int _ _) rfl) rfl rfl rfl ?_
    obtain ⟨y50, hy50, h⟩ := Option.bind_eq_some_iff.1 h
    obtain ⟨b_y50, o_y50, _, i_y50, p_y50, r_y50⟩ := h37.at sl45 hy50 .i64
    obtain ⟨_, _, rfl, rfl, rfl⟩ := r_y50
    refine WP.q (i := 5) rfl (.ia i_y50) rfl rfl rfl ?_
    refine WP.q (i := 6) rfl (.lpA rfl p_y50 ti54 rfl rfl) rfl rfl rfl ?_
    refine WP.md (i := 7) rfl (MOp.bs (l := ([y50] : List ((List UInt8) × Int))) sl45 (RL.cons (Rp Rs Ri) RL.nil) (lb rfl) rfl rfl) rfl rfl rfl ?_
    rintro v53 _ ⟨b51, o52, rfl⟩
    obtain ⟨_, _, _, _, _, rfl⟩ := o52.isl
    refine ⟨pkL (jx := [1, 2, 3, 4]) rfl, ?_⟩
    obtain ⟨y55, hy55, h⟩ := Option.bind_eq_some_iff.1 h
    refine WP.md (i := 8) rfl (MOp.app rfl rfl rfl sl45 h41 (Src.o (i := 0) sl45 o52 rfl) hy55 rfl rfl (fun _ => (.t (.t (.t (.t (.t .h))))))) rfl rfl rfl ?_
    rintro v59 _ ⟨b56, n57, o58, rfl⟩
    obtain ⟨_, _, _, _, _, rfl⟩ := o58.isl
    refine ⟨pkL (jx := [1, 2, 3, 4]) rfl, ?_⟩
    refine WP.q (i := 9) rfl (.fa (fa47_0 _ _)) rfl rfl rfl ?_
    refine WP.msn (i := 10) rfl (MOp.store (cs' := [_, .int .i64 zb9.2]) rfl (cL rfl) (.t (.t (.t .h))) ti45 rfl rfl (lb rfl) rfl) rfl (by kernel_rfl) rfl ?_
    rintro _ _ rfl
    refine WS.nil ?_
    refine WX.pop ?_
    refine WX.keep [1, 2, 3, 6, 9, 10, 11] (WX.pk [1, 2, 3, 4, 5] (by decide) ?_) rfl
    exact gabionref17_Put_j15_ok h hn hx0 hE _ _ _ ⟨hB, _, _, _, _, _, n39, _, _, _, _, n57, _, h37, h39, o58, rfl, rfl⟩
theorem gabionref17_Put_j11_ok {B0 : Kn} {L : Own} {n0 : Nat} {x1 : List UInt8} {x2 : Int} {x10 : Bool} {x11 : Int} {x46 : Bool} {zb3 : (List ((List UInt8) × Int)) × Int} {zb6 : (List ((List UInt8) × Int)) × Int} {zb9 : (List ((List UInt8) × Int)) × Int} {Q : AV → St → Prop} {E : (Bool × Int × ((List ((List UInt8) × Int)) × Int)) ⊕ (Bool × ((List ((List UInt8) × Int)) × Int)) → Prop} {o : (Bool × Int × ((List ((List UInt8) × Int)) × Int)) ⊕ (Bool × ((List ((List UInt8) × Int)) × Int))} (h : gabionref17_Put_j11 x1 x2 x10 x11 x46 zb3 zb6 zb9 = some o) (hn : ∀ s, E (.inl s) → WXI Tryd.prog 104 n0 (Fin Tryd.prog Tryd.f16.results.toList n0 Q) [.lp (ct [1, 1, 1, 1, 1, 1, 0, 1, 0, 0] (bodyOf Tryd.f16)), .blk 0, .code (ct [1, 1, 1, 1, 1, 1, 1] (bodyOf Tryd.f16))] (gabionref17_Put_l0_I B0 x1 x2 zb3 zb6 s.1 s.2.1 s.2.2) L) (hx0 : ∀ s, E (.inr s) → WXI Tryd.prog 104 n0 (Fin Tryd.prog Tryd.f16.results.toList n0 Q) [.code (ct [1, 1, 1, 1, 1, 1, 1] (bodyOf Tryd.f16))] (gabionref17_Put_l0_X0 B0 x1 x2 s.1 zb3 zb6 s.2) L) (hE : E o) : WXI Tryd.prog 104 n0 (Fin Tryd.prog Tryd.f16.results.toList n0 Q) [.code (ct [1, 1, 1, 1, 1, 1, 0, 1, 0, 0, 1, 0, 0, 0, 1] (bodyOf Tryd.f16)), .code (ct [1, 1, 1, 1, 1, 1, 0, 1, 0, 0, 1, 0, 0, 1] (bodyOf Tryd.f16)), .blk 1, .code (ct [1, 1, 1, 1, 1, 1, 0, 1, 0, 0, 1, 1] (bodyOf Tryd.f16)), .lp (ct [1, 1, 1, 1, 1, 1, 0, 1, 0, 0] (bodyOf Tryd.f16)), .blk 0, .code (ct [1, 1, 1, 1, 1, 1, 1] (bodyOf Tryd.f16))] (gabionref17_Put_j11_I B0 x1 x2 x10 x11 x46 zb3 zb6 zb9) L := by
  unfold gabionref17_Put_j11 at h
  rintro _ B _ ⟨hB, b20, v21, b22, v23, b23, n23, c23, b24, v25, b25, n25, c25, h21, h23, h25, rfl, rfl⟩
  obtain ⟨_, _, _, _, _, rfl⟩ := h21.isl
  obtain ⟨_, _, _, _, _, rfl⟩ := h23.isl
  obtain ⟨_, _, _, _, _, rfl⟩ := h25.isl
  rcases bsp x46 with k26 | k26
  · replace h := (if_pos k26).symm.trans h
    refine WX.condT rfl k26 ?_
    refine WX.seq ?_
    refine WX.reg ?_
    refine WO.q (.fa (fa47_0 _ _)) rfl rfl ?_
    refine WO.q (.ldS (i := 2) rfl rfl rfl ti45 rfl) rfl rfl ?_
    refine WO.q (.mv (v := .str _) rfl) rfl rfl ?_
    refine WO.q (.mv (v := .int _ _) rfl) rfl rfl ?_
    refine WO.q (.bd (bd54_0_1 (cS rfl) (cI rfl))) rfl rfl ?_
    refine WO.md (MOp.bs (l := ([(x1, x2)] : List ((List UInt8) × Int))) sl45 (RL.cons (Rp Rs Ri) RL.nil) (lb rfl) rfl rfl) rfl rfl ?_
    rintro v29 _ ⟨b27, o28, rfl⟩
    obtain ⟨_, _, _, _, _, rfl⟩ := o28.isl
    obtain ⟨y31, hy31, h⟩ := Option.bind_eq_some_iff.1 h
    refine WO.md (MOp.app rfl rfl rfl sl45 h25 (Src.o (i := 0) sl45 o28 rfl) hy31 rfl rfl (fun _ => (.t (.t (.t (.t (.t .h))))))) rfl rfl ?_
    rintro v35 _ ⟨b32, n33, o34, rfl⟩
    obtain ⟨_, _, _, _, _, rfl⟩ := o34.isl
    refine WO.q (.fa (fa47_0 _ _)) rfl rfl ?_
    refine WO.mn (MOp.store (cs' := [_, .int .i64 zb9.2]) rfl (cL rfl) (.t (.t (.t .h))) ti45 rfl rfl (lb rfl) rfl) rfl ?_
    rintro _ _ rfl
    refine WO.nil ?_
    refine WX.reg ?_
    refine WO.q (.as (v := .bool _) rfl) rfl rfl ?_
    refine WO.nil ?_
    refine WX.keep [1, 2, 3, 6, 9, 10, 11] (WX.pk [1, 2, 3, 4, 5] (by decide) ?_) rfl
    exact gabionref17_Put_j13_ok h hn hx0 hE _ _ _ ⟨hB, _, _, _, _, _, n23, _, _, _, _, n33, _, h21, h23, o34, rfl, rfl⟩
  · replace h := (if_neg (bnt k26)).symm.trans h
    refine WX.condF rfl k26 ?_
    refine WX.skip ?_
    refine WX.keep [1, 2, 3, 6, 9, 10, 11] (WX.pk [0, 1, 2, 3, 4] (by decide) ?_) rfl
    exact gabionref17_Put_j13_ok h hn hx0 hE _ _ _ ⟨hB, _, _, _, _, _, n23, _, _, _, _, n25, _, h21, h23, h25, rfl, rfl⟩
theorem gabionref17_Put_l0_s {B0 : Kn} {L : Own} {n0 : Nat} {x1 : List UInt8} {x2 : Int} {zb3 : (List ((List UInt8) × Int)) × Int} {zb6 : (List ((List UInt8) × Int)) × Int} {x10 : Bool} {x11 : Int} {zb9 : (List ((List UInt8) × Int)) × Int} {Q : AV → St → Prop} {E : (Bool × Int × ((List ((List UInt8) × Int)) × Int)) ⊕ (Bool × ((List ((List UInt8) × Int)) × Int)) → Prop} {o : (Bool × Int × ((List ((List UInt8) × Int)) × Int)) ⊕ (Bool × ((List ((List UInt8) × Int)) × Int))} (h : gabionref17_Put_l0 x1 x2 zb3 zb6 x10 x11 zb9 = some o) (hn : ∀ s, E (.inl s) → WXI Tryd.prog 104 n0 (Fin Tryd.prog Tryd.f16.results.toList n0 Q) [.lp (ct [1, 1, 1, 1, 1, 1, 0, 1, 0, 0] (bodyOf Tryd.f16)), .blk 0, .code (ct [1, 1, 1, 1, 1, 1, 1] (bodyOf Tryd.f16))] (gabionref17_Put_l0_I B0 x1 x2 zb3 zb6 s.1 s.2.1 s.2.2) L) (hx0 : ∀ s, E (.inr s) → WXI Tryd.prog 104 n0 (Fin Tryd.prog Tryd.f16.results.toList n0 Q) [.code (ct [1, 1, 1, 1, 1, 1, 1] (bodyOf Tryd.f16))] (gabionref17_Put_l0_X0 B0 x1 x2 s.1 zb3 zb6 s.2) L) (hE : E o) : WXI Tryd.prog 104 n0 (Fin Tryd.prog Tryd.f16.results.toList n0 Q) [.code (ct [1, 1, 1, 1, 1, 1, 0, 1, 0, 0] (bodyOf Tryd.f16)), .lp (ct [1, 1, 1, 1, 1, 1, 0, 1, 0, 0] (bodyOf Tryd.f16)), .blk 0, .code (ct [1, 1, 1, 1, 1, 1, 1] (bodyOf Tryd.f16))] (gabionref17_Put_l0_I B0 x1 x2 zb3 zb6 x10 x11 zb9) L := by
  unfold gabionref17_Put_l0 at h
  rintro _ B _ ⟨hB, b12, v13, b14, v15, b15, n15, c15, b16, v17, b17, n17, c17, h13, h15, h17, rfl, rfl⟩
  obtain ⟨_, _, _, _, _, rfl⟩ := h13.isl
  obtain ⟨_, _, _, _, _, rfl⟩ := h15.isl
  obtain ⟨_, _, _, _, _, rfl⟩ := h17.isl
  refine WX.seq ?_
  refine WX.seq ?_
  refine WX.reg ?_
  refine WO.q (.mv (v := .int _ _) rfl) rfl rfl ?_
  refine WO.q (.fa (fa47_0 _ _)) rfl rfl ?_
  refine WO.q (.ldS (i := 0) rfl rfl rfl ti45 rfl) rfl rfl ?_
  refine WO.q (.len rfl rfl rfl (sl45.len h13.isl)) rfl rfl ?_
  refine WO.q (.r fun _ => rfl) rfl rfl ?_
  refine WO.nil ?_
  rcases bsp (decide (x11 < (zb3.1.length : Int))) with k18 | k18
  · have q_k18 := of_decide_eq_true k18
    replace h := (if_pos q_k18).symm.trans h
    refine WX.condT rfl k18 ?_
    refine WX.skip ?_
    refine WX.seq ?_
    refine WX.block ?_
    refine WX.seq ?_
    refine WX.seq ?_
    refine WX.reg ?_
    refine WO.q (.mv (v := .bool _) rfl) rfl rfl ?_
    refine WO.q (.r fun _ => rfl) rfl rfl ?_
    refine WO.q (.mv (v := .bool _) rfl) rfl rfl ?_
    rcases bsp x10 with k19 | k19
    · replace h := (if_pos k19).symm.trans h
      refine WO.sd (wg rfl rfl (gtn (f_not k19))) rfl ?_
      refine WO.sd (wg rfl rfl (gtn (f_not k19))) rfl ?_
      refine WO.sd (wg rfl rfl (gtn (f_not k19))) rfl ?_
      refine WO.sd (wg rfl rfl (gtn (f_not k19))) rfl ?_
      refine WO.sd (wg rfl rfl (gtn (f_not k19))) rfl ?_
      refine WO.sd (wg rfl rfl (gtn (f_not k19))) rfl ?_
      refine WO.sd (wg rfl rfl (gtn (f_not k19))) rfl ?_
      refine WO.sd (wg rfl rfl (gtn (f_not k19))) rfl ?_
      refine WO.q (.pfv (v := .bool _) rfl (f_not k19) rfl) rfl rfl ?_
      refine WO.nil ?_
      refine WX.keep [1, 2, 3, 6, 9, 10, 11, 46] (WX.pk [0, 1, 2, 3, 4] (by decide) ?_) rfl
      exact gabionref17_Put_j11_ok h hn hx0 hE _ _ _ ⟨hB, _, _, _, _, _, n15, _, _, _, _, n17, _, h13, h15, h17, rfl, rfl⟩
    · replace h := (if_neg (bnt k19)).symm.trans h
      refine WO.q (.fa (fa47_0 _ _)) (wg rfl rfl (gt (t_not k19))) rfl ?_
      refine WO.q (.ldS (i := 0) rfl rfl rfl ti45 rfl) (wg rfl rfl (gt (t_not k19))) rfl ?_
      refine WO.q (.mv (v := .int _ _) rfl) (wg rfl rfl (gt (t_not k19))) rfl ?_
      obtain ⟨y60, hy60, h⟩ := Option.bind_eq_some_iff.1 h
      obtain ⟨b_y60, o_y60, _, i_y60, p_y60, r_y60⟩ := h13.at sl45 hy60 .i64
      obtain ⟨_, _, rfl, rfl, rfl⟩ := r_y60
      refine WO.q (.ia i_y60) (wg rfl rfl (gt (t_not k19))) rfl ?_
      refine WO.q (.fa (fa54_0 _ _)) (wg rfl rfl (gt (t_not k19))) rfl ?_
      refine WO.q (.lpS rfl p_y60 rfl ti9 rfl) (wg rfl rfl (gt (t_not k19))) rfl ?_
      refine WO.q (.mv (v := .str _) rfl) (wg rfl rfl (gt (t_not k19))) rfl ?_
      refine WO.q (.r fun _ => rfl) (wg rfl rfl (gt (t_not k19))) rfl ?_
      refine WO.q (.ptv (v := .bool _) rfl (t_not k19) rfl) rfl rfl ?_
      refine WO.nil ?_
      refine WX.keep [1, 2, 3, 6, 9, 10, 11, 46] (WX.pk [0, 1, 2, 3, 4] (by decide) ?_) rfl
      exact gabionref17_Put_j11_ok h hn hx0 hE _ _ _ ⟨hB, _, _, _, _, _, n15, _, _, _, _, n17, _, h13, h15, h17, rfl, rfl⟩
  · have q_k18 := of_decide_eq_false k18
    replace h := (if_neg q_k18).symm.trans h
    refine WX.condF rfl k18 ?_
    refine WX.exit rfl ?_
    refine WX.keep [1, 2, 3, 6, 9, 10] (WX.pk [0, 1, 2, 3, 4] (by decide) ?_) rfl
    obtain rfl := Option.some.inj h
    exact hx0 _ hE _ _ _ ⟨hB, _, _, _, _, _, n15, _, _, _, _, n17, _, h13, h15, h17, rfl, rfl⟩
theorem gabionref17_Put_l0_ok {B0 : Kn} {L : Own} {n0 : Nat} {x1 : List UInt8} {x2 : Int} {zb3 : (List ((List UInt8) × Int)) × Int} {zb6 : (List ((List UInt8) × Int)) × Int} {x10 : Bool} {x11 : Int} {zb9 : (List ((List UInt8) × Int)) × Int} {Q : AV → St → Prop} {d : Nat} {e : (Bool × ((List ((List UInt8) × Int)) × Int))} (h : iter (fun (s : Bool × Int × ((List ((List UInt8) × Int)) × Int)) => gabionref17_Put_l0 x1 x2 zb3 zb6 s.1 s.2.1 s.2.2) d (x10, x11, zb9) = some e) (g0 : ∀ s, e = s → WXI Tryd.prog 104 n0 (Fin Tryd.prog Tryd.f16.results.toList n0 Q) [.code (ct [1, 1, 1, 1, 1, 1, 1] (bodyOf Tryd.f16))] (gabionref17_Put_l0_X0 B0 x1 x2 s.1 zb3 zb6 s.2) L) : WXI Tryd.prog 104 n0 (Fin Tryd.prog Tryd.f16.results.toList n0 Q) [.code (ct [1, 1, 1, 1, 1, 1, 0, 1, 0, 0] (bodyOf Tryd.f16)), .lp (ct [1, 1, 1, 1, 1, 1, 0, 1, 0, 0] (bodyOf Tryd.f16)), .blk 0, .code (ct [1, 1, 1, 1, 1, 1, 1] (bodyOf Tryd.f16))] (gabionref17_Put_l0_I B0 x1 x2 zb3 zb6 x10 x11 zb9) L :=
  iter_ok (I := fun s => gabionref17_Put_l0_I B0 x1 x2 zb3 zb6 s.1 s.2.1 s.2.2) (D := fun e => (∀ s, e = s → WXI Tryd.prog 104 n0 (Fin Tryd.prog Tryd.f16.results.toList n0 Q) [.code (ct [1, 1, 1, 1, 1, 1, 1] (bodyOf Tryd.f16))] (gabionref17_Put_l0_X0 B0 x1 x2 s.1 zb3 zb6 s.2) L)) (fun E hn hx s o ho hE => gabionref17_Put_l0_s (x10 := s.1) (x11 := s.2.1) (zb9 := s.2.2) ho hn (fun s hs => (hx _ hs) _ rfl)  hE) h g0
theorem gabionref17_Put_j19_ok {B0 : Kn} {L : Own} {n0 : Nat} {x98 : Bool} {zb6 : (List ((List UInt8) × Int)) × Int} {zb9 : (List ((List UInt8) × Int)) × Int} {r : ((List ((List UInt8) × Int)) × Int) × Int} (h : gabionref17_Put_j19 x98 zb6 zb9 = some r) : WXI Tryd.prog 104 n0 (Fin Tryd.prog Tryd.f16.results.toList n0 (gabionref17_Put_P B0 L r)) [.code (ct [1, 1, 1, 1, 1, 1, 1, 1, 0, 1] (bodyOf Tryd.f16)), .code (ct [1, 1, 1, 1, 1, 1, 1, 1, 1] (bodyOf Tryd.f16))] (gabionref17_Put_j19_I B0 x98 zb6 zb9) L := by
  unfold gabionref17_Put_j19 at h
  rintro _ B _ ⟨hB, b82, v83, b83, n83, c83, b84, v85, b85, n85, c85, h83, h85, rfl, rfl⟩
  obtain ⟨_, _, _, _, _, rfl⟩ := h83.isl
  obtain ⟨_, _, _, _, _, rfl⟩ := h85.isl
  rcases bsp x98 with k86 | k86
  · replace h := (if_pos k86).symm.trans h
    refine WX.condT rfl k86 ?_
    refine WX.reg ?_
    refine WO.q (.fa (fa47_1 _ _)) rfl rfl ?_
    refine WO.q (.ldS (i := 1) rfl rfl rfl ti3 rfl) rfl rfl ?_
    refine WO.q (.r fun _ => rfl) rfl rfl ?_
    refine WO.q (.fa (fa47_1 _ _)) rfl rfl ?_
    refine WO.mn (MOp.store (cs' := [_, .int .i64 (wi64 (2 * zb9.2))]) rfl (cI rfl) (.t .h) ti3 rfl rfl (lb rfl) rfl) rfl ?_
    rintro _ _ rfl
    refine WO.nil ?_
    refine WX.seq ?_
    refine WX.reg ?_
    refine WO.q (.ldA (i := 1) rfl rfl rfl ti47 rfl) rfl rfl ?_
    refine WO.mn (MOp.storeW rfl (cA rfl) .h ti47 rfl rfl rfl) rfl ?_
    rintro _ _ rfl
    refine WO.q (.as (v := .int _ _) rfl) rfl rfl ?_
    refine WO.nil ?_
    refine WX.fz (j := 3) h85 rfl ?_
    intro B hK g87
    replace h83 := h83.up hK
    replace hB := hB.trans hK
    obtain rfl := Option.some.inj h
    exact WX.ret (rs_ (rs_cell (.ldA (i := 0) rfl rfl rfl ti47 rfl) (rs_tmp rfl rs_nil))) fun st hp => ⟨_, hB, (hp.pk [] (by decide)), _, rfl, g87⟩
  · replace h := (if_neg (bnt k86)).symm.trans h
    refine WX.condF rfl k86 ?_
    refine WX.skip ?_
    refine WX.seq ?_
    refine WX.reg ?_
    refine WO.q (.ldA (i := 1) rfl rfl rfl ti47 rfl) rfl rfl ?_
    refine WO.mn (MOp.storeW rfl (cA rfl) .h ti47 rfl rfl rfl) rfl ?_
    rintro _ _ rfl
    refine WO.q (.as (v := .int _ _) rfl) rfl rfl ?_
    refine WO.nil ?_
    refine WX.fz (j := 3) h85 rfl ?_
    intro B hK g88
    replace h83 := h83.up hK
    replace hB := hB.trans hK
    obtain rfl := Option.some.inj h
    exact WX.ret (rs_ (rs_cell (.ldA (i := 0) rfl rfl rfl ti47 rfl) (rs_tmp rfl rs_nil))) fun st hp => ⟨_, hB, (hp.pk [] (by decide)), _, rfl, g88⟩
theorem gabionref17_Put_j18_ok {B0 : Kn} {L : Own} {n0 : Nat} {zb3 : (List ((List UInt8) × Int)) × Int} {zb6 : (List ((List UInt8) × Int)) × Int} {zb9 : (List ((List UInt8) × Int)) × Int} {r : ((List ((List UInt8) × Int)) × Int) × Int} (h : gabionref17_Put_j18 zb3 zb6 zb9 = some r) : WXI Tryd.prog 104 n0 (Fin Tryd.prog Tryd.f16.results.toList n0 (gabionref17_Put_P B0 L r)) [.code (ct [1, 1, 1, 1, 1, 1, 1, 1] (bodyOf Tryd.f16))] (gabionref17_Put_j18_I B0 zb3 zb6 zb9) L := by
  unfold gabionref17_Put_j18 at h
  rintro _ B _ ⟨hB, b75, v76, b77, v78, b78, n78, c78, b79, v80, b80, n80, c80, h76, h78, h80, rfl, rfl⟩
  obtain ⟨_, _, _, _, _, rfl⟩ := h76.isl
  obtain ⟨_, _, _, _, _, rfl⟩ := h78.isl
  obtain ⟨_, _, _, _, _, rfl⟩ := h80.isl
  refine WX.seq ?_
  refine WX.seq ?_
  refine WX.reg ?_
  refine WO.q (.fa (fa47_0 _ _)) rfl rfl ?_
  refine WO.q (.ldS (i := 2) rfl rfl rfl ti45 rfl) rfl rfl ?_
  refine WO.q (.len rfl rfl rfl (sl45.len h80.isl)) rfl rfl ?_
  refine WO.q (.fa (fa47_0 _ _)) rfl rfl ?_
  refine WO.q (.ldS (i := 0) rfl rfl rfl ti45 rfl) rfl rfl ?_
  refine WO.q (.len rfl rfl rfl (sl45.len h76.isl)) rfl rfl ?_
  refine WO.q (.r fun _ => rfl) rfl rfl ?_
  refine WO.q (.mv (v := .bool _) rfl) rfl rfl ?_
  rcases bsp (decide ((zb3.1.length : Int) < (zb9.1.length : Int))) with k81 | k81
  · have q_k81 := of_decide_eq_true k81
    replace h := (if_pos q_k81).symm.trans h
    refine WO.q (.fa (fa47_0 _ _)) (wg rfl rfl (gt k81)) rfl ?_
    refine WO.q (.ldS (i := 2) rfl rfl rfl ti45 rfl) (wg rfl rfl (gt k81)) rfl ?_
    refine WO.q (.len rfl rfl rfl (sl45.len h80.isl)) (wg rfl rfl (gt k81)) rfl ?_
    refine WO.q (.fa (fa47_1 _ _)) (wg rfl rfl (gt k81)) rfl ?_
    refine WO.q (.ldS (i := 2) rfl rfl rfl ti3 rfl) (wg rfl rfl (gt k81)) rfl ?_
    refine WO.q (.r fun _ => rfl) (wg rfl rfl (gt k81)) rfl ?_
    refine WO.q (.r fun _ => rfl) (wg rfl rfl (gt k81)) rfl ?_
    refine WO.q (.ptv (v := .bool _) rfl k81 rfl) rfl rfl ?_
    refine WO.nil ?_
    refine WX.keep [6, 9, 98] (WX.pk [1, 2, 3, 4] (by decide) ?_) rfl
    exact gabionref17_Put_j19_ok h _ _ _ ⟨hB, _, _, _, n78, _, _, _, _, n80, _, h78, h80, rfl, rfl⟩
  · have q_k81 := of_decide_eq_false k81
    replace h := (if_neg q_k81).symm.trans h
    refine WO.sd (wg rfl rfl (gtn k81)) rfl ?_
    refine WO.sd (wg rfl rfl (gtn k81)) rfl ?_
    refine WO.sd (wg rfl rfl (gtn k81)) rfl ?_
    refine WO.sd (wg rfl rfl (gtn k81)) rfl ?_
    refine WO.sd (wg rfl rfl (gtn k81)) rfl ?_
    refine WO.sd (wg rfl rfl (gtn k81)) rfl ?_
    refine WO.sd (wg rfl rfl (gtn k81)) rfl ?_
    refine WO.q (.pfv (v := .bool _) rfl k81 rfl) rfl rfl ?_
    refine WO.nil ?_
    refine WX.keep [6, 9, 98] (WX.pk [1, 2, 3, 4] (by decide) ?_) rfl
    exact gabionref17_Put_j19_ok h _ _ _ ⟨hB, _, _, _, n78, _, _, _, _, n80, _, h78, h80, rfl, rfl⟩
theorem gabionref17_Put_j4_ok {B0 : Kn} {L : Own} {n0 : Nat} {x1 : List UInt8} {x2 : Int} {x23 : Bool} {zb3 : (List ((List UInt8) × Int)) × Int} {zb6 : (List ((List UInt8) × Int)) × Int} {r : ((List ((List UInt8) × Int)) × Int) × Int} (h : gabionref17_Put_j4 x1 x2 x23 zb3 zb6 = some r) : WXI Tryd.prog 104 n0 (Fin Tryd.prog Tryd.f16.results.toList n0 (gabionref17_Put_P B0 L r)) [.code (ct [1, 1, 1, 0, 1] (bodyOf Tryd.f16)), .code (ct [1, 1, 1, 1] (bodyOf Tryd.f16))] (gabionref17_Put_j4_I B0 x1 x2 x23 zb3 zb6) L := by
  unfold gabionref17_Put_j4 at h
  rintro _ B _ ⟨hB, b6, v7, b8, v9, b9, n9, c9, h7, h9, rfl, rfl⟩
  obtain ⟨_, _, _, _, _, rfl⟩ := h7.isl
  obtain ⟨_, _, _, _, _, rfl⟩ := h9.isl
  rcases bsp x23 with k10 | k10
  · replace h := (if_pos k10).symm.trans h
    refine WX.condT rfl k10 ?_
    refine WX.seq ?_
    refine WX.reg ?_
    refine WO.q (.ldA (i := 0) rfl rfl rfl ti47 rfl) rfl rfl ?_
    refine WO.mn (MOp.storeW rfl (cA rfl) (.t .h) ti47 rfl rfl rfl) rfl ?_
    rintro _ _ rfl
    refine WO.q (.as (v := .int _ _) rfl) rfl rfl ?_
    refine WO.nil ?_
    obtain rfl := Option.some.inj h
    exact WX.ret (rs_ (rs_cell (.ldA (i := 1) rfl rfl rfl ti47 rfl) (rs_tmp rfl rs_nil))) fun st hp => ⟨_, hB, (hp.pk [] (by decide)), _, rfl, h7⟩
  · replace h := (if_neg (bnt k10)).symm.trans h
    refine WX.condF rfl k10 ?_
    refine WX.skip ?_
    refine WX.seq ?_
    refine WX.reg ?_
    refine WO.q (.fa (fa47_1 _ _)) rfl rfl ?_
    refine WO.q (.ldS (i := 0) rfl rfl rfl ti3 rfl) rfl rfl ?_
    refine WO.q (.bd (bd47_1 (cI rfl))) rfl rfl ?_
    refine WO.md (MOp.alloc ti47 rfl) rfl rfl ?_
    rintro _ _ ⟨b11, rfl, rfl⟩
    refine WO.mn (MOp.storeW rfl (cA rfl) .h ti47 rfl rfl rfl) rfl ?_
    rintro _ _ rfl
    refine WO.nil ?_
    refine WX.seq ?_
    refine WX.reg ?_
    refine WO.q (.as (v := .bool _) rfl) rfl rfl ?_
    refine WO.nil ?_
    refine WX.seq ?_
    refine WX.seq ?_
    refine WX.reg ?_
    refine WO.q (.as (v := .int _ _) rfl) rfl rfl ?_
    refine WO.nil ?_
    refine WX.block ?_
    refine WX.loop ?_
    obtain ⟨e67, he67, h⟩ := Option.bind_eq_some_iff.1 h
    refine WX.keep [1, 2, 3, 6, 9, 10, 11] (WX.pk [1, 2, 0, 3] (by decide) (WX.addn [4] ?_)) rfl
    refine gabionref17_Put_l0_ok he67 ?_ _ _ _ ⟨hB, _, _, _, _, _, n9, _, _, _, 0, true, [], h7, h9, OSl.none _ _, rfl, rfl⟩
    · intro s98 he_
      subst he_
      replace h := h
      rintro _ B _ ⟨hB, b68, v69, b70, v71, b71, n71, c71, b72, v73, b73, n73, c73, h69, h71, h73, rfl, rfl⟩
      obtain ⟨_, _, _, _, _, rfl⟩ := h69.isl
      obtain ⟨_, _, _, _, _, rfl⟩ := h71.isl
      obtain ⟨_, _, _, _, _, rfl⟩ := h73.isl
      refine WX.seq ?_
      refine WX.seq ?_
      refine WX.reg ?_
      refine WO.q (.mv (v := .bool _) rfl) rfl rfl ?_
      refine WO.q (.r fun _ => rfl) rfl rfl ?_
      refine WO.nil ?_
      rcases bsp e67.1 with k74 | k74
      · replace h := (if_pos k74).symm.trans h
        refine WX.condF rfl (f_not k74) ?_
        refine WX.skip ?_
        refine WX.keep [3, 6, 9] (WX.pk [0, 1, 2, 3, 4] (by decide) ?_) rfl
        exact gabionref17_Put_j18_ok h _ _ _ ⟨hB, _, _, _, _, _, n71, _, _, _, _, n73, _, h69, h71, h73, rfl, rfl⟩
      · replace h := (if_neg (bnt k74)).symm.trans h
        refine WX.condT rfl (t_not k74) ?_
        refine WX.reg ?_
        refine WO.q (.fa (fa47_0 _ _)) rfl rfl ?_
        refine WO.q (.ldS (i := 2) rfl rfl rfl ti45 rfl) rfl rfl ?_
        refine WO.q (.mv (v := .str _) rfl) rfl rfl ?_
        refine WO.q (.mv (v := .int _ _) rfl) rfl rfl ?_
        refine WO.q (.bd (bd54_0_1 (cS rfl) (cI rfl))) rfl rfl ?_
        refine WO.md (MOp.bs (l := ([(x1, x2)] : List ((List UInt8) × Int))) sl45 (RL.cons (Rp Rs Ri) RL.nil) (lb rfl) rfl rfl) rfl rfl ?_
        rintro v91 _ ⟨b89, o90, rfl⟩
        obtain ⟨_, _, _, _, _, rfl⟩ := o90.isl
        obtain ⟨y93, hy93, h⟩ := Option.bind_eq_some_iff.1 h
        refine WO.md (MOp.app rfl rfl rfl sl45 h73 (Src.o (i := 0) sl45 o90 rfl) hy93 rfl rfl (fun _ => (.t (.t (.t (.t (.t .h))))))) rfl rfl ?_
        rintro v97 _ ⟨b94, n95, o96, rfl⟩
        obtain ⟨_, _, _, _, _, rfl⟩ := o96.isl
        refine WO.q (.fa (fa47_0 _ _)) rfl rfl ?_
        refine WO.mn (MOp.store (cs' := [_, .int .i64 e67.2.2]) rfl (cL rfl) (.t (.t (.t .h))) ti45 rfl rfl (lb rfl) rfl) rfl ?_
        rintro _ _ rfl
        refine WO.nil ?_
        refine WX.keep [3, 6, 9] (WX.pk [1, 2, 3, 4, 5] (by decide) ?_) rfl
        exact gabionref17_Put_j18_ok h _ _ _ ⟨hB, _, _, _, _, _, n71, _, _, _, _, n95, _, h69, h71, o96, rfl, rfl⟩
theorem gabionref17_Put_ok {B0 : Kn} {L : Own} {a0 : (List ((List UInt8) × Int)) × Int} {a1 : List UInt8} {a2 : Int} {v0_0 : AV} (g0_0 : RSl EPStIi64Q B0 v0_0 a0.1) {r : ((List ((List UInt8) × Int)) × Int) × Int} (h : gabionref17_Put a0 a1 a2 = some r) : ∀ st, Hp B0 L st → ASpec Tryd.prog 16 [.agg [v0_0, .int .i64 a0.2], .str a1, .int .i64 a2] st (gabionref17_Put_P B0 L r) := by
  unfold gabionref17_Put at h
  refine bodyA (A := []) Tryd.func16 rfl (c := bodyOf Tryd.f16) rfl Tryd.ntmps16 (lb rfl) fun n0 => ?_
  have hB := KLe.refl B0
  obtain ⟨_, _, _, _, _, rfl⟩ := g0_0.isl
  refine WX.seq ?_
  refine WX.reg ?_
  refine WO.md (MOp.box (cA rfl)) rfl rfl ?_
  rintro _ _ ⟨b1, rfl, rfl⟩
  refine WO.md (MOp.alloc ti47 rfl) rfl rfl ?_
  rintro _ _ ⟨b2, rfl, rfl⟩
  refine WO.q (.as (v := .int _ _) rfl) rfl rfl ?_
  refine WO.nil ?_
  refine WX.seq ?_
  refine WX.reg ?_
  refine WO.q (.mv (v := .str _) rfl) rfl rfl ?_
  obtain ⟨y3, hy3, h⟩ := Option.bind_eq_some_iff.1 h
  refine WO.cS rfl rfl (gabionref17_Name_ok hy3) rfl rfl rfl ?_
  rintro _ rfl
  refine WO.q (.as (v := .int _ _) rfl) rfl rfl ?_
  refine WO.nil ?_
  refine WX.seq ?_
  refine WX.seq ?_
  refine WX.reg ?_
  refine WO.q (.mv (v := .int _ _) rfl) rfl rfl ?_
  refine WO.q (.r fun _ => rfl) rfl rfl ?_
  refine WO.nil ?_
  rcases bsp (decide (y3 ≠ 0)) with k4 | k4
  · have q_k4 := of_decide_eq_true k4
    replace h := (if_pos q_k4).symm.trans h
    refine WX.condT rfl k4 ?_
    refine WX.seq ?_
    refine WX.reg ?_
    refine WO.q (.ldA (i := 1) rfl rfl rfl ti47 rfl) rfl rfl ?_
    refine WO.q (.mv (v := .int _ _) rfl) rfl rfl ?_
    refine WO.mn (MOp.storeW rfl (cA rfl) .h ti47 rfl rfl rfl) rfl ?_
    rintro _ _ rfl
    refine WO.q (.as (v := .int _ _) rfl) rfl rfl ?_
    refine WO.nil ?_
    obtain rfl := Option.some.inj h
    exact WX.ret (rs_ (rs_cell (.ldA (i := 0) rfl rfl rfl ti47 rfl) (rs_tmp rfl rs_nil))) fun st hp => ⟨_, hB, (hp.pk [] (by decide)), _, rfl, g0_0⟩
  · have q_k4 := of_decide_eq_false k4
    replace h := (if_neg q_k4).symm.trans h
    refine WX.condF rfl k4 ?_
    refine WX.skip ?_
    refine WX.seq ?_
    refine WX.seq ?_
    refine WX.reg ?_
    refine WO.q (.mv (v := .int _ _) rfl) rfl rfl ?_
    refine WO.q (.r fun _ => rfl) rfl rfl ?_
    refine WO.q (.mv (v := .bool _) rfl) rfl rfl ?_
    rcases bsp (decide (a2 < 0)) with k5 | k5
    · have q_k5 := of_decide_eq_true k5
      replace h := (if_pos q_k5).symm.trans h
      refine WO.sd (wg rfl rfl (gfn k5)) rfl ?_
      refine WO.sd (wg rfl rfl (gfn k5)) rfl ?_
      refine WO.q (.ptv (v := .bool _) rfl k5 rfl) rfl rfl ?_
      refine WO.nil ?_
      refine WX.keep [1, 2, 3, 6, 23] (WX.pk [1, 0] (by decide) (WX.addn [2] ?_)) rfl
      exact gabionref17_Put_j4_ok h _ _ _ ⟨hB, _, _, _, _, 0, true, [], g0_0, OSl.none _ _, rfl, rfl⟩
    · have q_k5 := of_decide_eq_false k5
      replace h := (if_neg q_k5).symm.trans h
      refine WO.q (.mv (v := .int _ _) rfl) (wg rfl rfl (gf k5)) rfl ?_
      refine WO.q (.r fun _ => rfl) (wg rfl rfl (gf k5)) rfl ?_
      refine WO.q (.pfv (v := .bool _) rfl k5 rfl) rfl rfl ?_
      refine WO.nil ?_
      refine WX.keep [1, 2, 3, 6, 23] (WX.pk [1, 0] (by decide) (WX.addn [2] ?_)) rfl
      exact gabionref17_Put_j4_ok h _ _ _ ⟨hB, _, _, _, _, 0, true, [], g0_0, OSl.none _ _, rfl, rfl⟩
def gabionref17_Find_P (B : Kn) (L : Own) (r : Int) : AV → St → Prop := CS B L fun v => v = .int .i64 r
def gabionref17_Find_l0_I (B0 : Kn) (x1 : List UInt8) (zb2 : (List ((List UInt8) × Int)) × Int) (x5 : Int) : Fr → Kn → Own → Prop := fun fr B A => KLe B0 B ∧ ∃ b2 v3, RSl EPStIi64Q B v3 zb2.1 ∧ fr = [(1, .str x1), (2, .ptr b2 0), (5, .int .i64 x5)] ∧ A = [(b2, some (.c [v3, .int .i64 zb2.2]))]
def gabionref17_Find_l0_X0 (B0 : Kn) : Fr → Kn → Own → Prop := fun fr B A => KLe B0 B ∧ fr = [] ∧ A = []
theorem gabionref17_Find_l0_s {B0 : Kn} {L : Own} {n0 : Nat} {x1 : List UInt8} {zb2 : (List ((List UInt8) × Int)) × Int} {x5 : Int} {Q : AV → St → Prop} {E : Int ⊕ (Int ⊕ Unit) → Prop} {o : Int ⊕ (Int ⊕ Unit)} (h : gabionref17_Find_l0 x1 zb2 x5 = some o) (hn : ∀ s, E (.inl s) → WXI Tryd.prog 22 n0 (Fin Tryd.prog Tryd.f18.results.toList n0 Q) [.lp (ct [1, 0, 1, 0, 0] (bodyOf Tryd.f18)), .blk 0, .code (ct [1, 1] (bodyOf Tryd.f18))] (gabionref17_Find_l0_I B0 x1 zb2 s) L) (hx0 : ∀ s, E (.inr (.inr s)) → WXI Tryd.prog 22 n0 (Fin Tryd.prog Tryd.f18.results.toList n0 Q) [.code (ct [1, 1] (bodyOf Tryd.f18))] (gabionref17_Find_l0_X0 B0) L) (hr : ∀ r, E (.inr (.inl r)) → ∀ v st, gabionref17_Find_P B0 L r v st → Q v st) (hE : E o) : WXI Tryd.prog 22 n0 (Fin Tryd.prog Tryd.f18.results.toList n0 Q) [.code (ct [1, 0, 1, 0, 0] (bodyOf Tryd.f18)), .lp (ct [1, 0, 1, 0, 0] (bodyOf Tryd.f18)), .blk 0, .code (ct [1, 1] (bodyOf Tryd.f18))] (gabionref17_Find_l0_I B0 x1 zb2 x5) L := by
  unfold gabionref17_Find_l0 at h
  rintro _ B _ ⟨hB, b2, v3, h3, rfl, rfl⟩
  obtain ⟨_, _, _, _, _, rfl⟩ := h3.isl
  refine WX.seq ?_
  refine WX.seq ?_
  refine WX.reg ?_
  refine WO.q (.mv (v := .int _ _) rfl) rfl rfl ?_
  refine WO.q (.fa (fa47_0 _ _)) rfl rfl ?_
  refine WO.q (.ldS (i := 0) rfl rfl rfl ti45 rfl) rfl rfl ?_
  refine WO.q (.len rfl rfl rfl (sl45.len h3.isl)) rfl rfl ?_
  refine WO.q (.r fun _ => rfl) rfl rfl ?_
  refine WO.nil ?_
  rcases bsp (decide (x5 < (zb2.1.length : Int))) with k4 | k4
  · have q_k4 := of_decide_eq_true k4
    replace h := (if_pos q_k4).symm.trans h
    refine WX.condT rfl k4 ?_
    refine WX.skip ?_
    refine WX.seq ?_
    refine WX.block ?_
    refine WX.seq ?_
    refine WX.reg ?_
    refine WO.q (.fa (fa47_0 _ _)) rfl rfl ?_
    refine WO.q (.ldS (i := 0) rfl rfl rfl ti45 rfl) rfl rfl ?_
    refine WO.q (.mv (v := .int _ _) rfl) rfl rfl ?_
    obtain ⟨y5, hy5, h⟩ := Option.bind_eq_some_iff.1 h
    obtain ⟨b_y5, o_y5, _, i_y5, p_y5, r_y5⟩ := h3.at sl45 hy5 .i64
    obtain ⟨_, _, rfl, rfl, rfl⟩ := r_y5
    refine WO.q (.ia i_y5) rfl rfl ?_
    refine WO.q (.fa (fa54_0 _ _)) rfl rfl ?_
    refine WO.q (.lpS rfl p_y5 rfl ti9 rfl) rfl rfl ?_
    refine WO.q (.mv (v := .str _) rfl) rfl rfl ?_
    refine WO.q (.r fun _ => rfl) rfl rfl ?_
    refine WO.nil ?_
    rcases bsp (decide (y5.1 = x1)) with k6 | k6
    · have q_k6 := of_decide_eq_true k6
      replace h := (if_pos q_k6).symm.trans h
      refine WX.condT rfl k6 ?_
      refine WX.seq ?_
      refine WX.reg ?_
      refine WO.q (.mv (v := .int _ _) rfl) rfl rfl ?_
      refine WO.q (.as (v := .int _ _) rfl) rfl rfl ?_
      refine WO.nil ?_
      obtain rfl := Option.some.inj h
      exact WX.ret (rs_ (rs_tmp rfl rs_nil)) fun st hp => hr _ hE _ _ ⟨(hp.pk [] (by decide)).le hB, rfl⟩
    · have q_k6 := of_decide_eq_false k6
      replace h := (if_neg q_k6).symm.trans h
      refine WX.condF rfl k6 ?_
      refine WX.skip ?_
      refine WX.pop ?_
      refine WX.reg ?_
      refine WO.q (.mv (v := .int _ _) rfl) rfl rfl ?_
      refine WO.q (.r fun _ => rfl) rfl rfl ?_
      refine WO.q (.as (v := .int _ _) rfl) rfl rfl ?_
      refine WO.nil ?_
      refine WX.keepL [1, 2, 5] (WX.pk [0] (by decide) ?_) rfl
      obtain rfl := Option.some.inj h
      exact hn _ hE _ _ _ ⟨hB, _, _, h3, rfl, rfl⟩
  · have q_k4 := of_decide_eq_false k4
    replace h := (if_neg q_k4).symm.trans h
    refine WX.condF rfl k4 ?_
    refine WX.exit rfl ?_
    refine WX.keep [] (WX.pk [] (by decide) ?_) rfl
    obtain rfl := Option.some.inj h
    exact hx0 _ hE _ _ _ ⟨hB, rfl, rfl⟩
theorem gabionref17_Find_l0_ok {B0 : Kn} {L : Own} {n0 : Nat} {x1 : List UInt8} {zb2 : (List ((List UInt8) × Int)) × Int} {x5 : Int} {Q : AV → St → Prop} {d : Nat} {e : Int ⊕ Unit} (h : iter (fun (s : Int) => gabionref17_Find_l0 x1 zb2 s) d x5 = some e) (g0 : ∀ r, e = (.inl r) → ∀ v st, gabionref17_Find_P B0 L r v st → Q v st) (g1 : ∀ s, e = (.inr s) → WXI Tryd.prog 22 n0 (Fin Tryd.prog Tryd.f18.results.toList n0 Q) [.code (ct [1, 1] (bodyOf Tryd.f18))] (gabionref17_Find_l0_X0 B0) L) : WXI Tryd.prog 22 n0 (Fin Tryd.prog Tryd.f18.results.toList n0 Q) [.code (ct [1, 0, 1, 0, 0] (bodyOf Tryd.f18)), .lp (ct [1, 0, 1, 0, 0] (bodyOf Tryd.f18)), .blk 0, .code (ct [1, 1] (bodyOf Tryd.f18))] (gabionref17_Find_l0_I B0 x1 zb2 x5) L :=
  iter_ok (I := fun s => gabionref17_Find_l0_I B0 x1 zb2 s) (D := fun e => (∀ r, e = (.inl r) → ∀ v st, gabionref17_Find_P B0 L r v st → Q v st) ∧ (∀ s, e = (.inr s) → WXI Tryd.prog 22 n0 (Fin Tryd.prog Tryd.f18.results.toList n0 Q) [.code (ct [1, 1] (bodyOf Tryd.f18))] (gabionref17_Find_l0_X0 B0) L)) (fun E hn hx s o ho hE => gabionref17_Find_l0_s (x5 := s) ho hn (fun s hs => (hx _ hs).2 _ rfl) (fun r hs => (hx _ hs).1 _ rfl) hE) h ⟨g0, g1⟩
theorem gabionref17_Find_ok {B0 : Kn} {L : Own} {a0 : (List ((List UInt8) × Int)) × Int} {a1 : List UInt8} {v0_0 : AV} (g0_0 : RSl EPStIi64Q B0 v0_0 a0.1) {r : Int} (h : gabionref17_Find a0 a1 = some r) : ∀ st, Hp B0 L st → ASpec Tryd.prog 18 [.agg [v0_0, .int .i64 a0.2], .str a1] st (gabionref17_Find_P B0 L r) := by
  unfold gabionref17_Find at h
  refine bodyA (A := []) Tryd.func18 rfl (c := bodyOf Tryd.f18) rfl Tryd.ntmps18 (lb rfl) fun n0 => ?_
  have hB := KLe.refl B0
  obtain ⟨_, _, _, _, _, rfl⟩ := g0_0.isl
  refine WX.seq ?_
  refine WX.reg ?_
  refine WO.md (MOp.box (cA rfl)) rfl rfl ?_
  rintro _ _ ⟨b1, rfl, rfl⟩
  refine WO.q (.as (v := .int _ _) rfl) rfl rfl ?_
  refine WO.nil ?_
  refine WX.seq ?_
  refine WX.seq ?_
  refine WX.reg ?_
  refine WO.q (.as (v := .int _ _) rfl) rfl rfl ?_
  refine WO.nil ?_
  refine WX.block ?_
  refine WX.loop ?_
  obtain ⟨e7, he7, h⟩ := Option.bind_eq_some_iff.1 h
  refine WX.keep [1, 2, 5] (WX.pk [0] (by decide) ?_) rfl
  refine gabionref17_Find_l0_ok he7 ?_ ?_ _ _ _ ⟨hB, _, _, g0_0, rfl, rfl⟩
  · intro r9 he_
    subst he_
    replace h := (on_l h)
    obtain rfl := Option.some.inj h
    exact fun v st hp => hp
  · intro x10 he_
    subst he_
    replace h := (on_r h)
    rintro _ B _ ⟨hB, rfl, rfl⟩
    refine WX.seq ?_
    refine WX.reg ?_
    refine WO.q (.as (v := .int _ _) rfl) rfl rfl ?_
    refine WO.nil ?_
    obtain rfl := Option.some.inj h
    exact WX.ret (rs_ (rs_tmp rfl rs_nil)) fun st hp => ⟨(hp.pk [] (by decide)).le hB, rfl⟩
def gabionref17_Drop_P (B : Kn) (L : Own) (r : ((List ((List UInt8) × Int)) × Int) × Int) : AV → St → Prop := C0 B L fun B' v => ∃ w0, v = .tup [.agg [w0, .int .i64 r.1.2], .int .i64 r.2] ∧ RSl EPStIi64Q B' w0 r.1.1
def gabionref17_Drop_j9_I (B0 : Kn) (x6 : Int) (x8 : Int) (zb2 : (List ((List UInt8) × Int)) × Int) (zb4 : (List ((List UInt8) × Int)) × Int) (zb7 : (List ((List UInt8) × Int)) × Int) : Fr → Kn → Own → Prop := fun fr B A => KLe B0 B ∧ ∃ b24 v25 b26 v27 b27 n27 c27 b28 v29 b29 n29 c29, RSl EPStIi64Q B v25 zb2.1 ∧ OSl EPStIi64Q B v27 b27 n27 c27 zb4.1 ∧ OSl EPStIi64Q B v29 b29 n29 c29 zb7.1 ∧ fr = [(2, .ptr b24 0), (4, .ptr b26 0), (6, .int .i64 x6), (7, .ptr b28 0), (8, .int .i64 x8)] ∧ A = [(b24, some (.c [v25, .int .i64 zb2.2])), (b26, some (.c [v27, .int .i64 zb4.2])), (b28, some (.c [v29, .int .i64 zb7.2])), oe b27 n27 c27, oe b29 n29 c29]
def gabionref17_Drop_l0_I (B0 : Kn) (x6 : Int) (zb2 : (List ((List UInt8) × Int)) × Int) (zb4 : (List ((List UInt8) × Int)) × Int) (x8 : Int) (zb7 : (List ((List UInt8) × Int)) × Int) : Fr → Kn → Own → Prop := fun fr B A => KLe B0 B ∧ ∃ b6 v7 b8 v9 b9 n9 c9 b10 v11 b11 n11 c11, RSl EPStIi64Q B v7 zb2.1 ∧ OSl EPStIi64Q B v9 b9 n9 c9 zb4.1 ∧ OSl EPStIi64Q B v11 b11 n11 c11 zb7.1 ∧ fr = [(2, .ptr b6 0), (4, .ptr b8 0), (6, .int .i64 x6), (7, .ptr b10 0), (8, .int .i64 x8)] ∧ A = [(b6, some (.c [v7, .int .i64 zb2.2])), (b8, some (.c [v9, .int .i64 zb4.2])), (b10, some (.c [v11, .int .i64 zb7.2])), oe b9 n9 c9, oe b11 n11 c11]
def gabionref17_Drop_l0_X0 (B0 : Kn) (zb4 : (List ((List UInt8) × Int)) × Int) (zb7 : (List ((List UInt8) × Int)) × Int) : Fr → Kn → Own → Prop := fun fr B A => KLe B0 B ∧ ∃ b41 v42 b42 n42 c42 b43 v44 b44 n44 c44, OSl EPStIi64Q B v42 b42 n42 c42 zb4.1 ∧ OSl EPStIi64Q B v44 b44 n44 c44 zb7.1 ∧ fr = [(4, .ptr b41 0), (7, .ptr b43 0)] ∧ A = [(b41, some (.c [v42, .int .i64 zb4.2])), (b43, some (.c [v44, .int .i64 zb7.2])), oe b42 n42 c42, oe b44 n44 c44]
theorem gabionref17_Drop_j9_ok {B0 : Kn} {L : Own} {n0 : Nat} {x6 : Int} {x8 : Int} {zb2 : (List ((List UInt8) × Int)) × Int} {zb4 : (List ((List UInt8) × Int)) × Int} {zb7 : (List ((List UInt8) × Int)) × Int} {Q : AV → St → Prop} {E : (Int × ((List ((List UInt8) × Int)) × Int)) ⊕ ((List ((List UInt8) × Int)) × Int) → Prop} {o : (Int × ((List ((List UInt8) × Int)) × Int)) ⊕ ((List ((List UInt8) × Int)) × Int)} (h : gabionref17_Drop_j9 x6 x8 zb2 zb4 zb7 = some o) (hn : ∀ s, E (.inl s) → WXI Tryd.prog 39 n0 (Fin Tryd.prog Tryd.f17.results.toList n0 Q) [.lp (ct [1, 1, 1, 1, 0, 1, 0, 0] (bodyOf Tryd.f17)), .blk 0, .code (ct [1, 1, 1, 1, 1] (bodyOf Tryd.f17))] (gabionref17_Drop_l0_I B0 x6 zb2 zb4 s.1 s.2) L) (hx0 : ∀ s, E (.inr s) → WXI Tryd.prog 39 n0 (Fin Tryd.prog Tryd.f17.results.toList n0 Q) [.code (ct [1, 1, 1, 1, 1] (bodyOf Tryd.f17))] (gabionref17_Drop_l0_X0 B0 zb4 s) L) (hE : E o) : WXI Tryd.prog 39 n0 (Fin Tryd.prog Tryd.f17.results.toList n0 Q) [.code (ct [1, 1, 1, 1, 0, 1, 0, 0, 1, 1] (bodyOf Tryd.f17)), .lp (ct [1, 1, 1, 1, 0, 1, 0, 0] (bodyOf Tryd.f17)), .blk 0, .code (ct [1, 1, 1, 1, 1] (bodyOf Tryd.f17))] (gabionref17_Drop_j9_I B0 x6 x8 zb2 zb4 zb7) L := by
  unfold gabionref17_Drop_j9 at h
  rintro _ B _ ⟨hB, b24, v25, b26, v27, b27, n27, c27, b28, v29, b29, n29, c29, h25, h27, h29, rfl, rfl⟩
  obtain ⟨_, _, _, _, _, rfl⟩ := h25.isl
  obtain ⟨_, _, _, _, _, rfl⟩ := h27.isl
  obtain ⟨_, _, _, _, _, rfl⟩ := h29.isl
  refine WX.reg ?_
  refine WO.q (.mv (v := .int _ _) rfl) rfl rfl ?_
  refine WO.q (.r fun _ => rfl) rfl rfl ?_
  refine WO.q (.as (v := .int _ _) rfl) rfl rfl ?_
  refine WO.nil ?_
  refine WX.keepL [2, 4, 6, 7, 8] (WX.pk [0, 1, 2, 3, 4] (by decide) ?_) rfl
  obtain rfl := Option.some.inj h
  exact hn _ hE _ _ _ ⟨hB, _, _, _, _, _, n27, _, _, _, _, n29, _, h25, h27, h29, rfl, rfl⟩
theorem gabionref17_Drop_l0_s {B0 : Kn} {L : Own} {n0 : Nat} {x6 : Int} {zb2 : (List ((List UInt8) × Int)) × Int} {zb4 : (List ((List UInt8) × Int)) × Int} {x8 : Int} {zb7 : (List ((List UInt8) × Int)) × Int} {Q : AV → St → Prop} {E : (Int × ((List ((List UInt8) × Int)) × Int)) ⊕ ((List ((List UInt8) × Int)) × Int) → Prop} {o : (Int × ((List ((List UInt8) × Int)) × Int)) ⊕ ((List ((List UInt8) × Int)) × Int)} (h : gabionref17_Drop_l0 x6 zb2 zb4 x8 zb7 = some o) (hn : ∀ s, E (.inl s) → WXI Tryd.prog 39 n0 (Fin Tryd.prog Tryd.f17.results.toList n0 Q) [.lp (ct [1, 1, 1, 1, 0, 1, 0, 0] (bodyOf Tryd.f17)), .blk 0, .code (ct [1, 1, 1, 1, 1] (bodyOf Tryd.f17))] (gabionref17_Drop_l0_I B0 x6 zb2 zb4 s.1 s.2) L) (hx0 : ∀ s, E (.inr s) → WXI Tryd.prog 39 n0 (Fin Tryd.prog Tryd.f17.results.toList n0 Q) [.code (ct [1, 1, 1, 1, 1] (bodyOf Tryd.f17))] (gabionref17_Drop_l0_X0 B0 zb4 s) L) (hE : E o) : WXI Tryd.prog 39 n0 (Fin Tryd.prog Tryd.f17.results.toList n0 Q) [.code (ct [1, 1, 1, 1, 0, 1, 0, 0] (bodyOf Tryd.f17)), .lp (ct [1, 1, 1, 1, 0, 1, 0, 0] (bodyOf Tryd.f17)), .blk 0, .code (ct [1, 1, 1, 1, 1] (bodyOf Tryd.f17))] (gabionref17_Drop_l0_I B0 x6 zb2 zb4 x8 zb7) L := by
  unfold gabionref17_Drop_l0 at h
  rintro _ B _ ⟨hB, b6, v7, b8, v9, b9, n9, c9, b10, v11, b11, n11, c11, h7, h9, h11, rfl, rfl⟩
  obtain ⟨_, _, _, _, _, rfl⟩ := h7.isl
  obtain ⟨_, _, _, _, _, rfl⟩ := h9.isl
  obtain ⟨_, _, _, _, _, rfl⟩ := h11.isl
  refine WX.seq ?_
  refine WX.seq ?_
  refine WX.reg ?_
  refine WO.q (.mv (v := .int _ _) rfl) rfl rfl ?_
  refine WO.q (.fa (fa47_0 _ _)) rfl rfl ?_
  refine WO.q (.ldS (i := 0) rfl rfl rfl ti45 rfl) rfl rfl ?_
  refine WO.q (.len rfl rfl rfl (sl45.len h7.isl)) rfl rfl ?_
  refine WO.q (.r fun _ => rfl) rfl rfl ?_
  refine WO.nil ?_
  rcases bsp (decide (x8 < (zb2.1.length : Int))) with k12 | k12
  · have q_k12 := of_decide_eq_true k12
    replace h := (if_pos q_k12).symm.trans h
    refine WX.condT rfl k12 ?_
    refine WX.skip ?_
    refine WX.seq ?_
    refine WX.block ?_
    refine WX.seq ?_
    refine WX.reg ?_
    refine WO.q (.mv (v := .int _ _) rfl) rfl rfl ?_
    refine WO.q (.mv (v := .int _ _) rfl) rfl rfl ?_
    refine WO.q (.r fun _ => rfl) rfl rfl ?_
    refine WO.nil ?_
    rcases bsp (decide (x8 ≠ x6)) with k13 | k13
    · have q_k13 := of_decide_eq_true k13
      replace h := (if_pos q_k13).symm.trans h
      refine WX.condT rfl k13 ?_
      refine WX.drw (Plan.of [0, 1, 2, 3, 4, 5, 6, 7, 8, 9, 10] .nil) _ mixed (by kernel_rfl) rfl (subL (pk_sub [0, 1, 2, 3])) ?_
      refine WP.q (i := 0) rfl (.fa (fa47_0 _ _)) rfl rfl rfl ?_
      refine WP.q (i := 1) rfl (.ldS (i := 2) rfl rfl rfl ti45 rfl) rfl rfl rfl ?_
      refine WP.q (i := 2) rfl (.fa (fa47_0 _ _)) rfl rfl rfl ?_
      refine WP.q (i := 3) rfl (.ldS (i := 0) rfl rfl rfl ti45 rfl) rfl rfl rfl ?_
      refine WP.q (i := 4) rfl (.mv (v := .int _ _) rfl) rfl rfl rfl ?_
      obtain ⟨y14, hy14, h⟩ := Option.bind_eq_some_iff.1 h
      obtain ⟨b_y14, o_y14, _, i_y14, p_y14, r_y14⟩ := h7.at sl45 hy14 .i64
      obtain ⟨_, _, rfl, rfl, rfl⟩ := r_y14
      refine WP.q (i := 5) rfl (.ia i_y14) rfl rfl rfl ?_
      refine WP.q (i := 6) rfl (.lpA rfl p_y14 ti54 rfl rfl) rfl rfl rfl ?_
      refine WP.md (i := 7) rfl (MOp.bs (l := ([y14] : List ((List UInt8) × Int))) sl45 (RL.cons (Rp Rs Ri) RL.nil) (lb rfl) rfl rfl) rfl rfl rfl ?_
      rintro v17 _ ⟨b15, o16, rfl⟩
      obtain ⟨_, _, _, _, _, rfl⟩ := o16.isl
      refine ⟨pkL (jx := [1, 2, 3, 4]) rfl, ?_⟩
      obtain ⟨y19, hy19, h⟩ := Option.bind_eq_some_iff.1 h
      refine WP.md (i := 8) rfl (MOp.app rfl rfl rfl sl45 h11 (Src.o (i := 0) sl45 o16 rfl) hy19 rfl rfl (fun _ => (.t (.t (.t (.t (.t .h))))))) rfl rfl rfl ?_
      rintro v23 _ ⟨b20, n21, o22, rfl⟩
      obtain ⟨_, _, _, _, _, rfl⟩ := o22.isl
      refine ⟨pkL (jx := [1, 2, 3, 4]) rfl, ?_⟩
      refine WP.q (i := 9) rfl (.fa (fa47_0 _ _)) rfl rfl rfl ?_
      refine WP.msn (i := 10) rfl (MOp.store (cs' := [_, .int .i64 zb7.2]) rfl (cL rfl) (.t (.t (.t .h))) ti45 rfl rfl (lb rfl) rfl) rfl (by kernel_rfl) rfl ?_
      rintro _ _ rfl
      refine WS.nil ?_
      refine WX.pop ?_
      refine WX.keep [2, 4, 6, 7, 8] (WX.pk [1, 2, 3, 4, 5] (by decide) ?_) rfl
      exact gabionref17_Drop_j9_ok h hn hx0 hE _ _ _ ⟨hB, _, _, _, _, _, n9, _, _, _, _, n21, _, h7, h9, o22, rfl, rfl⟩
    · have q_k13 := of_decide_eq_false k13
      replace h := (if_neg q_k13).symm.trans h
      refine WX.condF rfl k13 ?_
      refine WX.skip ?_
      refine WX.pop ?_
      refine WX.keep [2, 4, 6, 7, 8] (WX.pk [0, 1, 2, 3, 4] (by decide) ?_) rfl
      exact gabionref17_Drop_j9_ok h hn hx0 hE _ _ _ ⟨hB, _, _, _, _, _, n9, _, _, _, _, n11, _, h7, h9, h11, rfl, rfl⟩
  · have q_k12 := of_decide_eq_false k12
    replace h := (if_neg q_k12).symm.trans h
    refine WX.condF rfl k12 ?_
    refine WX.exit rfl ?_
    refine WX.keep [4, 7] (WX.pk [1, 2, 3, 4] (by decide) ?_) rfl
    obtain rfl := Option.some.inj h
    exact hx0 _ hE _ _ _ ⟨hB, _, _, _, n9, _, _, _, _, n11, _, h9, h11, rfl, rfl⟩
theorem gabionref17_Drop_l0_ok {B0 : Kn} {L : Own} {n0 : Nat} {x6 : Int} {zb2 : (List ((List UInt8) × Int)) × Int} {zb4 : (List ((List UInt8) × Int)) × Int} {x8 : Int} {zb7 : (List ((List UInt8) × Int)) × Int} {Q : AV → St → Prop} {d : Nat} {e : ((List ((List UInt8) × Int)) × Int)} (h : iter (fun (s : Int × ((List ((List UInt8) × Int)) × Int)) => gabionref17_Drop_l0 x6 zb2 zb4 s.1 s.2) d (x8, zb7) = some e) (g0 : ∀ s, e = s → WXI Tryd.prog 39 n0 (Fin Tryd.prog Tryd.f17.results.toList n0 Q) [.code (ct [1, 1, 1, 1, 1] (bodyOf Tryd.f17))] (gabionref17_Drop_l0_X0 B0 zb4 s) L) : WXI Tryd.prog 39 n0 (Fin Tryd.prog Tryd.f17.results.toList n0 Q) [.code (ct [1, 1, 1, 1, 0, 1, 0, 0] (bodyOf Tryd.f17)), .lp (ct [1, 1, 1, 1, 0, 1, 0, 0] (bodyOf Tryd.f17)), .blk 0, .code (ct [1, 1, 1, 1, 1] (bodyOf Tryd.f17))] (gabionref17_Drop_l0_I B0 x6 zb2 zb4 x8 zb7) L :=
  iter_ok (I := fun s => gabionref17_Drop_l0_I B0 x6 zb2 zb4 s.1 s.2) (D := fun e => (∀ s, e = s → WXI Tryd.prog 39 n0 (Fin Tryd.prog Tryd.f17.results.toList n0 Q) [.code (ct [1, 1, 1, 1, 1] (bodyOf Tryd.f17))] (gabionref17_Drop_l0_X0 B0 zb4 s) L)) (fun E hn hx s o ho hE => gabionref17_Drop_l0_s (x8 := s.1) (zb7 := s.2) ho hn (fun s hs => (hx _ hs) _ rfl)  hE) h g0
theorem gabionref17_Drop_ok {B0 : Kn} {L : Own} {a0 : (List ((List UInt8) × Int)) × Int} {a1 : List UInt8} {v0_0 : AV} (g0_0 : RSl EPStIi64Q B0 v0_0 a0.1) {r : ((List ((List UInt8) × Int)) × Int) × Int} (h : gabionref17_Drop a0 a1 = some r) : ∀ st, Hp B0 L st → ASpec Tryd.prog 17 [.agg [v0_0, .int .i64 a0.2], .str a1] st (gabionref17_Drop_P B0 L r) := by
  unfold gabionref17_Drop at h
  refine bodyA (A := []) Tryd.func17 rfl (c := bodyOf Tryd.f17) rfl Tryd.ntmps17 (lb rfl) fun n0 => ?_
  have hB := KLe.refl B0
  obtain ⟨_, _, _, _, _, rfl⟩ := g0_0.isl
  refine WX.seq ?_
  refine WX.reg ?_
  refine WO.md (MOp.box (cA rfl)) rfl rfl ?_
  rintro _ _ ⟨b1, rfl, rfl⟩
  refine WO.md (MOp.alloc ti47 rfl) rfl rfl ?_
  rintro _ _ ⟨b2, rfl, rfl⟩
  refine WO.q (.as (v := .int _ _) rfl) rfl rfl ?_
  refine WO.nil ?_
  refine WX.seq ?_
  refine WX.reg ?_
  refine WO.q (.ldA (i := 1) rfl rfl rfl ti47 rfl) rfl rfl ?_
  refine WO.q (.mv (v := .str _) rfl) rfl rfl ?_
  obtain ⟨y3, hy3, h⟩ := Option.bind_eq_some_iff.1 h
  refine WO.cS rfl rfl (gabionref17_Find_ok g0_0 hy3) rfl rfl rfl ?_
  rintro _ rfl
  refine WO.q (.as (v := .int _ _) rfl) rfl rfl ?_
  refine WO.nil ?_
  refine WX.seq ?_
  refine WX.seq ?_
  refine WX.reg ?_
  refine WO.q (.mv (v := .int _ _) rfl) rfl rfl ?_
  refine WO.q (.r fun _ => rfl) rfl rfl ?_
  refine WO.nil ?_
  rcases bsp (decide (y3 < 0)) with k4 | k4
  · have q_k4 := of_decide_eq_true k4
    replace h := (if_pos q_k4).symm.trans h
    refine WX.condT rfl k4 ?_
    refine WX.seq ?_
    refine WX.reg ?_
    refine WO.q (.ldA (i := 1) rfl rfl rfl ti47 rfl) rfl rfl ?_
    refine WO.mn (MOp.storeW rfl (cA rfl) .h ti47 rfl rfl rfl) rfl ?_
    rintro _ _ rfl
    refine WO.q (.as (v := .int _ _) rfl) rfl rfl ?_
    refine WO.nil ?_
    obtain rfl := Option.some.inj h
    exact WX.ret (rs_ (rs_cell (.ldA (i := 0) rfl rfl rfl ti47 rfl) (rs_tmp rfl rs_nil))) fun st hp => ⟨_, hB, (hp.pk [] (by decide)), _, rfl, g0_0⟩
  · have q_k4 := of_decide_eq_false k4
    replace h := (if_neg q_k4).symm.trans h
    refine WX.condF rfl k4 ?_
    refine WX.skip ?_
    refine WX.seq ?_
    refine WX.reg ?_
    refine WO.q (.fa (fa47_1 _ _)) rfl rfl ?_
    refine WO.q (.ldS (i := 1) rfl rfl rfl ti3 rfl) rfl rfl ?_
    refine WO.q (.bd (bd47_1 (cI rfl))) rfl rfl ?_
    refine WO.md (MOp.alloc ti47 rfl) rfl rfl ?_
    rintro _ _ ⟨b5, rfl, rfl⟩
    refine WO.mn (MOp.storeW rfl (cA rfl) .h ti47 rfl rfl rfl) rfl ?_
    rintro _ _ rfl
    refine WO.nil ?_
    refine WX.seq ?_
    refine WX.seq ?_
    refine WX.reg ?_
    refine WO.q (.as (v := .int _ _) rfl) rfl rfl ?_
    refine WO.nil ?_
    refine WX.block ?_
    refine WX.loop ?_
    obtain ⟨e34, he34, h⟩ := Option.bind_eq_some_iff.1 h
    refine WX.keep [2, 4, 6, 7, 8] (WX.pk [2, 1, 0] (by decide) (WX.addn [3, 4] ?_)) rfl
    refine gabionref17_Drop_l0_ok he34 ?_ _ _ _ ⟨hB, _, _, _, _, 0, true, [], _, _, 0, true, [], g0_0, OSl.none _ _, OSl.none _ _, rfl, rfl⟩
    · intro s40 he_
      subst he_
      replace h := h
      rintro _ B _ ⟨hB, b35, v36, b36, n36, c36, b37, v38, b38, n38, c38, h36, h38, rfl, rfl⟩
      obtain ⟨_, _, _, _, _, rfl⟩ := h36.isl
      obtain ⟨_, _, _, _, _, rfl⟩ := h38.isl
      refine WX.seq ?_
      refine WX.reg ?_
      refine WO.q (.ldA (i := 1) rfl rfl rfl ti47 rfl) rfl rfl ?_
      refine WO.mn (MOp.storeW rfl (cA rfl) .h ti47 rfl rfl rfl) rfl ?_
      rintro _ _ rfl
      refine WO.q (.as (v := .int _ _) rfl) rfl rfl ?_
      refine WO.nil ?_
      refine WX.fz (j := 3) h38 rfl ?_
      intro B hK g39
      replace h36 := h36.up hK
      replace hB := hB.trans hK
      obtain rfl := Option.some.inj h
      exact WX.ret (rs_ (rs_cell (.ldA (i := 0) rfl rfl rfl ti47 rfl) (rs_tmp rfl rs_nil))) fun st hp => ⟨_, hB, (hp.pk [] (by decide)), _, rfl, g39⟩
def gabionref17_Counts_P (B : Kn) (L : Own) (r : (List Int)) : AV → St → Prop := C1 B L fun B' v e0 => ∃ w0 b0 n0 c0, v = w0 ∧ e0 = oe b0 n0 c0 ∧ OSl (Ty.int .i64) B' w0 b0 n0 c0 r
def gabionref17_Counts_l0_I (B0 : Kn) (zb1 : (List ((List UInt8) × Int)) × Int) (x3 : List Int) (x4 : Int) : Fr → Kn → Own → Prop := fun fr B A => KLe B0 B ∧ ∃ b6 v7 v8 b8 n8 c8, RSl EPStIi64Q B v7 zb1.1 ∧ OSl (Ty.int .i64) B v8 b8 n8 c8 x3 ∧ fr = [(1, .ptr b6 0), (3, v8), (4, .int .i64 x4)] ∧ A = [(b6, some (.c [v7, .int .i64 zb1.2])), oe b8 n8 c8]
def gabionref17_Counts_l0_X0 (B0 : Kn) (x3 : List Int) : Fr → Kn → Own → Prop := fun fr B A => KLe B0 B ∧ ∃ v21 b21 n21 c21, OSl (Ty.int .i64) B v21 b21 n21 c21 x3 ∧ fr = [(3, v21)] ∧ A = [oe b21 n21 c21]
theorem gabionref17_Counts_l0_s {B0 : Kn} {L : Own} {n0 : Nat} {zb1 : (List ((List UInt8) × Int)) × Int} {x3 : List Int} {x4 : Int} {Q : AV → St → Prop} {E : ((List Int) × Int) ⊕ (List Int) → Prop} {o : ((List Int) × Int) ⊕ (List Int)} (h : gabionref17_Counts_l0 zb1 x3 x4 = some o) (hn : ∀ s, E (.inl s) → WXI Tryd.prog 36 n0 (Fin Tryd.prog Tryd.f35.results.toList n0 Q) [.lp (ct [1, 1, 0, 1, 0, 0] (bodyOf Tryd.f35)), .blk 0, .code (ct [1, 1, 1] (bodyOf Tryd.f35))] (gabionref17_Counts_l0_I B0 zb1 s.1 s.2) L) (hx0 : ∀ s, E (.inr s) → WXI Tryd.prog 36 n0 (Fin Tryd.prog Tryd.f35.results.toList n0 Q) [.code (ct [1, 1, 1] (bodyOf Tryd.f35))] (gabionref17_Counts_l0_X0 B0 s) L) (hE : E o) : WXI Tryd.prog 36 n0 (Fin Tryd.prog Tryd.f35.results.toList n0 Q) [.code (ct [1, 1, 0, 1, 0, 0] (bodyOf Tryd.f35)), .lp (ct [1, 1, 0, 1, 0, 0] (bodyOf Tryd.f35)), .blk 0, .code (ct [1, 1, 1] (bodyOf Tryd.f35))] (gabionref17_Counts_l0_I B0 zb1 x3 x4) L := by
  unfold gabionref17_Counts_l0 at h
  rintro _ B _ ⟨hB, b6, v7, v8, b8, n8, c8, h7, h8, rfl, rfl⟩
  obtain ⟨_, _, _, _, _, rfl⟩ := h7.isl
  obtain ⟨_, _, _, _, _, rfl⟩ := h8.isl
  refine WX.seq ?_
  refine WX.seq ?_
  refine WX.reg ?_
  refine WO.q (.mv (v := .int _ _) rfl) rfl rfl ?_
  refine WO.q (.fa (fa47_0 _ _)) rfl rfl ?_
  refine WO.q (.ldS (i := 0) rfl rfl rfl ti45 rfl) rfl rfl ?_
  refine WO.q (.len rfl rfl rfl (sl45.len h7.isl)) rfl rfl ?_
  refine WO.q (.r fun _ => rfl) rfl rfl ?_
  refine WO.nil ?_
  rcases bsp (decide (x4 < (zb1.1.length : Int))) with k9 | k9
  · have q_k9 := of_decide_eq_true k9
    replace h := (if_pos q_k9).symm.trans h
    refine WX.condT rfl k9 ?_
    refine WX.skip ?_
    refine WX.seq ?_
    refine WX.block ?_
    refine WX.seq ?_
    refine WX.reg ?_
    refine WO.q (.fa (fa47_0 _ _)) rfl rfl ?_
    refine WO.q (.ldS (i := 0) rfl rfl rfl ti45 rfl) rfl rfl ?_
    refine WO.q (.mv (v := .int _ _) rfl) rfl rfl ?_
    obtain ⟨y10, hy10, h⟩ := Option.bind_eq_some_iff.1 h
    obtain ⟨b_y10, o_y10, _, i_y10, p_y10, r_y10⟩ := h7.at sl45 hy10 .i64
    obtain ⟨_, _, rfl, rfl, rfl⟩ := r_y10
    refine WO.q (.ia i_y10) rfl rfl ?_
    refine WO.q (.fa (fa54_0 _ _)) rfl rfl ?_
    refine WO.q (.lpS rfl p_y10 rfl ti9 rfl) rfl rfl ?_
    obtain ⟨y11, hy11, h⟩ := Option.bind_eq_some_iff.1 h
    refine WO.cS rfl rfl (gabionref02_Sum16_ok hy11) rfl rfl rfl ?_
    rintro _ rfl
    refine WO.q (.as (v := .int _ _) rfl) rfl rfl ?_
    refine WO.nil ?_
    refine WX.seq ?_
    refine WX.reg ?_
    refine WO.q (.mv (v := .int _ _) rfl) rfl rfl ?_
    refine WO.q (cvI ti76 ti3 rfl rfl) rfl rfl ?_
    refine WO.q (.fa (fa47_1 _ _)) rfl rfl ?_
    refine WO.q (.ldS (i := 0) rfl rfl rfl ti3 rfl) rfl rfl ?_
    obtain ⟨hk12, h⟩ := ifS_some h
    refine WO.q (.bin (evrem hk12)) rfl rfl ?_
    refine WO.q (.as (v := .int _ _) rfl) rfl rfl ?_
    refine WO.nil ?_
    refine WX.reg ?_
    refine WO.q (.mv (v := .sl _ _ _ _ _ _) rfl) rfl rfl ?_
    refine WO.q (.mv (v := .int _ _) rfl) rfl rfl ?_
    obtain ⟨y13, hy13, h⟩ := Option.bind_eq_some_iff.1 h
    obtain rfl := h8.nonnil hy13
    obtain ⟨_, i_y13, l_y13, r_y13⟩ := h8.at sl32 hy13 .i64
    obtain rfl := r_y13
    refine WO.q (.ia i_y13) rfl rfl ?_
    refine WO.q (.ldS (i := 1) rfl rfl (l_y13.g0 rfl) ti3 rfl) rfl rfl ?_
    refine WO.q (.r fun _ => rfl) rfl rfl ?_
    obtain ⟨y14, hy14, h⟩ := Option.bind_eq_some_iff.1 h
    obtain ⟨_, i_y14, l_y14, r_y14⟩ := h8.at sl32 hy14 .i64
    obtain rfl := r_y14
    refine WO.q (.ia i_y14) rfl rfl ?_
    refine WO.mn (MOp.ostW (x' := (wi64 (y13 + 1))) rfl (cI rfl) (fun _ => (.t .h)) ti3 rfl h8 hy14 Ri) rfl ?_
    rintro _ _ ⟨c16, o15, rfl⟩
    refine WO.nil ?_
    refine WX.pop ?_
    refine WX.reg ?_
    refine WO.q (.mv (v := .int _ _) rfl) rfl rfl ?_
    refine WO.q (.r fun _ => rfl) rfl rfl ?_
    refine WO.q (.as (v := .int _ _) rfl) rfl rfl ?_
    refine WO.nil ?_
    refine WX.keepL [1, 3, 4] (WX.pk [0, 1] (by decide) ?_) rfl
    obtain rfl := Option.some.inj h
    exact hn _ hE _ _ _ ⟨hB, _, _, _, _, false, _, h7, o15, rfl, rfl⟩
  · have q_k9 := of_decide_eq_false k9
    replace h := (if_neg q_k9).symm.trans h
    refine WX.condF rfl k9 ?_
    refine WX.exit rfl ?_
    refine WX.keep [3] (WX.pk [1] (by decide) ?_) rfl
    obtain rfl := Option.some.inj h
    exact hx0 _ hE _ _ _ ⟨hB, _, _, n8, _, h8, rfl, rfl⟩
theorem gabionref17_Counts_l0_ok {B0 : Kn} {L : Own} {n0 : Nat} {zb1 : (List ((List UInt8) × Int)) × Int} {x3 : List Int} {x4 : Int} {Q : AV → St → Prop} {d : Nat} {e : (List Int)} (h : iter (fun (s : (List Int) × Int) => gabionref17_Counts_l0 zb1 s.1 s.2) d (x3, x4) = some e) (g0 : ∀ s, e = s → WXI Tryd.prog 36 n0 (Fin Tryd.prog Tryd.f35.results.toList n0 Q) [.code (ct [1, 1, 1] (bodyOf Tryd.f35))] (gabionref17_Counts_l0_X0 B0 s) L) : WXI Tryd.prog 36 n0 (Fin Tryd.prog Tryd.f35.results.toList n0 Q) [.code (ct [1, 1, 0, 1, 0, 0] (bodyOf Tryd.f35)), .lp (ct [1, 1, 0, 1, 0, 0] (bodyOf Tryd.f35)), .blk 0, .code (ct [1, 1, 1] (bodyOf Tryd.f35))] (gabionref17_Counts_l0_I B0 zb1 x3 x4) L :=
  iter_ok (I := fun s => gabionref17_Counts_l0_I B0 zb1 s.1 s.2) (D := fun e => (∀ s, e = s → WXI Tryd.prog 36 n0 (Fin Tryd.prog Tryd.f35.results.toList n0 Q) [.code (ct [1, 1, 1] (bodyOf Tryd.f35))] (gabionref17_Counts_l0_X0 B0 s) L)) (fun E hn hx s o ho hE => gabionref17_Counts_l0_s (x3 := s.1) (x4 := s.2) ho hn (fun s hs => (hx _ hs) _ rfl)  hE) h g0
theorem gabionref17_Counts_ok {B0 : Kn} {L : Own} {a0 : (List ((List UInt8) × Int)) × Int} {v0_0 : AV} (g0_0 : RSl EPStIi64Q B0 v0_0 a0.1) {r : (List Int)} (h : gabionref17_Counts a0 = some r) : ∀ st, Hp B0 L st → ASpec Tryd.prog 35 [.agg [v0_0, .int .i64 a0.2]] st (gabionref17_Counts_P B0 L r) := by
  unfold gabionref17_Counts at h
  refine bodyA (A := []) Tryd.func35 rfl (c := bodyOf Tryd.f35) rfl Tryd.ntmps35 (lb rfl) fun n0 => ?_
  have hB := KLe.refl B0
  obtain ⟨_, _, _, _, _, rfl⟩ := g0_0.isl
  refine WX.seq ?_
  refine WX.reg ?_
  refine WO.md (MOp.box (cA rfl)) rfl rfl ?_
  rintro _ _ ⟨b1, rfl, rfl⟩
  refine WO.q (.as (v := .sl _ _ _ _ _ _) rfl) rfl rfl ?_
  refine WO.nil ?_
  refine WX.seq ?_
  refine WX.reg ?_
  refine WO.q (.fa (fa47_1 _ _)) rfl rfl ?_
  refine WO.q (.ldS (i := 0) rfl rfl rfl ti3 rfl) rfl rfl ?_
  obtain ⟨hk5, h⟩ := ifS_some h
  refine WO.md (MOp.mk sl32 rfl rfl hk5.1 hk5.2.1 hk5.2.2 Ri) rfl rfl ?_
  rintro v4 _ ⟨b2, o3, rfl⟩
  obtain ⟨_, _, _, _, _, rfl⟩ := o3.isl
  refine WO.q (.as (v := .sl _ _ _ _ _ _) rfl) rfl rfl ?_
  refine WO.nil ?_
  refine WX.seq ?_
  refine WX.seq ?_
  refine WX.reg ?_
  refine WO.q (.as (v := .int _ _) rfl) rfl rfl ?_
  refine WO.nil ?_
  refine WX.block ?_
  refine WX.loop ?_
  obtain ⟨e18, he18, h⟩ := Option.bind_eq_some_iff.1 h
  refine WX.keep [1, 3, 4] (WX.pk [1, 0] (by decide) ?_) rfl
  refine gabionref17_Counts_l0_ok he18 ?_ _ _ _ ⟨hB, _, _, _, _, false, _, g0_0, o3, rfl, rfl⟩
  · intro s20 he_
    subst he_
    replace h := h
    rintro _ B _ ⟨hB, v19, b19, n19, c19, h19, rfl, rfl⟩
    obtain ⟨_, _, _, _, _, rfl⟩ := h19.isl
    refine WX.seq ?_
    refine WX.reg ?_
    refine WO.q (.mv (v := .sl _ _ _ _ _ _) rfl) rfl rfl ?_
    refine WO.q (.as (v := .sl _ _ _ _ _ _) rfl) rfl rfl ?_
    refine WO.nil ?_
    obtain rfl := Option.some.inj h
    exact WX.ret (rs_ (rs_tmp rfl rs_nil)) fun st hp => ⟨_, _, hB, (hp.pk [0] (by decide)), _, _, n19, _, rfl, rfl, h19⟩
def gabionref17_Text_P (B : Kn) (L : Own) (r : (List UInt8)) : AV → St → Prop := CS B L fun v => v = .str r
def gabionref17_Text_j2_I (B0 : Kn) (x1 : Int) (x30 : Bool) (zb2 : (List UInt8) × Int) : Fr → Kn → Own → Prop := fun fr B A => KLe B0 B ∧ ∃ b4, fr = [(1, .int .i64 x1), (2, .ptr b4 0), (30, .bool x30)] ∧ A = [(b4, some (.c [.str zb2.1, .int .i64 zb2.2]))]
theorem gabionref17_Text_j2_ok {B0 : Kn} {L : Own} {n0 : Nat} {x1 : Int} {x30 : Bool} {zb2 : (List UInt8) × Int} {r : (List UInt8)} (h : gabionref17_Text_j2 x1 x30 zb2 = some r) : WXI Tryd.prog 44 n0 (Fin Tryd.prog Tryd.f24.results.toList n0 (gabionref17_Text_P B0 L r)) [.code (ct [1, 1, 0, 1] (bodyOf Tryd.f24)), .code (ct [1, 1, 1] (bodyOf Tryd.f24))] (gabionref17_Text_j2_I B0 x1 x30 zb2) L := by
  unfold gabionref17_Text_j2 at h
  rintro _ B _ ⟨hB, b4, rfl, rfl⟩
  rcases bsp x30 with k5 | k5
  · replace h := (if_pos k5).symm.trans h
    refine WX.condT rfl k5 ?_
    refine WX.seq ?_
    refine WX.reg ?_
    refine WO.q (.as (v := .str _) rfl) rfl rfl ?_
    refine WO.nil ?_
    obtain rfl := Option.some.inj h
    exact WX.ret (rs_ (rs_tmp rfl rs_nil)) fun st hp => ⟨(hp.pk [] (by decide)).le hB, rfl⟩
  · replace h := (if_neg (bnt k5)).symm.trans h
    refine WX.condF rfl k5 ?_
    refine WX.skip ?_
    refine WX.seq ?_
    refine WX.reg ?_
    refine WO.q (.mv (v := .int _ _) rfl) rfl rfl ?_
    refine WO.q (cvI ti3 ti76 rfl rfl) rfl rfl ?_
    obtain ⟨y6, hy6, h⟩ := Option.bind_eq_some_iff.1 h
    refine WO.cS rfl rfl (gabionref01_Put_ok hy6) rfl rfl rfl ?_
    rintro _ rfl
    refine WO.q (.as (v := .str _) rfl) rfl rfl ?_
    refine WO.nil ?_
    refine WX.seq ?_
    refine WX.reg ?_
    refine WO.q (.fa (fa54_1 _ _)) rfl rfl ?_
    refine WO.q (.ldS (i := 0) rfl rfl rfl ti3 rfl) rfl rfl ?_
    refine WO.q (cvI ti3 ti76 rfl rfl) rfl rfl ?_
    obtain ⟨y7, hy7, h⟩ := Option.bind_eq_some_iff.1 h
    refine WO.cS rfl rfl (gabionref01_Put_ok hy7) rfl rfl rfl ?_
    rintro _ rfl
    refine WO.q (.as (v := .str _) rfl) rfl rfl ?_
    refine WO.nil ?_
    refine WX.seq ?_
    refine WX.reg ?_
    refine WO.q (.mv (v := .str _) rfl) rfl rfl ?_
    refine WO.q (.mv (v := .str _) rfl) rfl rfl ?_
    obtain ⟨y8, hy8, h⟩ := Option.bind_eq_some_iff.1 h
    refine WO.q (.bin (evcat hy8)) rfl rfl ?_
    refine WO.q (.fa (fa54_0 _ _)) rfl rfl ?_
    refine WO.q (.ldS (i := 0) rfl rfl rfl ti9 rfl) rfl rfl ?_
    obtain ⟨y9, hy9, h⟩ := Option.bind_eq_some_iff.1 h
    refine WO.q (.bin (evcat hy9)) rfl rfl ?_
    refine WO.q (.as (v := .str _) rfl) rfl rfl ?_
    refine WO.nil ?_
    obtain rfl := Option.some.inj h
    exact WX.ret (rs_ (rs_tmp rfl rs_nil)) fun st hp => ⟨(hp.pk [] (by decide)).le hB, rfl⟩
theorem gabionref17_Text_ok {B0 : Kn} {L : Own} {a0 : (List UInt8) × Int} {a1 : Int} {r : (List UInt8)} (h : gabionref17_Text a0 a1 = some r) : ∀ st, Hp B0 L st → ASpec Tryd.prog 24 [.agg [.str a0.1, .int .i64 a0.2], .int .i64 a1] st (gabionref17_Text_P B0 L r) := by
  unfold gabionref17_Text at h
  refine bodyA (A := []) Tryd.func24 rfl (c := bodyOf Tryd.f24) rfl Tryd.ntmps24 (lb rfl) fun n0 => ?_
  have hB := KLe.refl B0
  refine WX.seq ?_
  refine WX.reg ?_
  refine WO.md (MOp.box (cA rfl)) rfl rfl ?_
  rintro _ _ ⟨b1, rfl, rfl⟩
  refine WO.q (.as (v := .str _) rfl) rfl rfl ?_
  refine WO.nil ?_
  refine WX.seq ?_
  refine WX.reg ?_
  refine WO.q (.fa (fa54_0 _ _)) rfl rfl ?_
  refine WO.q (.ldS (i := 0) rfl rfl rfl ti9 rfl) rfl rfl ?_
  obtain ⟨y2, hy2, h⟩ := Option.bind_eq_some_iff.1 h
  refine WO.cS rfl rfl (gabionref17_Name_ok hy2) rfl rfl rfl ?_
  rintro _ rfl
  refine WO.q (.as (v := .int _ _) rfl) rfl rfl ?_
  refine WO.nil ?_
  refine WX.seq ?_
  refine WX.seq ?_
  refine WX.reg ?_
  refine WO.q (.mv (v := .int _ _) rfl) rfl rfl ?_
  refine WO.q (.r fun _ => rfl) rfl rfl ?_
  refine WO.q (.mv (v := .bool _) rfl) rfl rfl ?_
  rcases bsp (decide (y2 ≠ 0)) with k3 | k3
  · have q_k3 := of_decide_eq_true k3
    replace h := (if_pos q_k3).symm.trans h
    refine WO.sd (wg rfl rfl (gfn k3)) rfl ?_
    refine WO.sd (wg rfl rfl (gfn k3)) rfl ?_
    refine WO.sd (wg rfl rfl (gfn k3)) rfl ?_
    refine WO.q (.ptv (v := .bool _) rfl k3 rfl) rfl rfl ?_
    refine WO.q (.mv (v := .bool _) rfl) rfl rfl ?_
    refine WO.sd (wg rfl rfl (gfn rfl)) rfl ?_
    refine WO.sd (wg rfl rfl (gfn rfl)) rfl ?_
    refine WO.sd (wg rfl rfl (gfn rfl)) rfl ?_
    refine WO.q (.ptv (v := .bool _) rfl rfl rfl) rfl rfl ?_
    refine WO.q (.mv (v := .bool _) rfl) rfl rfl ?_
    refine WO.sd (wg rfl rfl (gfn rfl)) rfl ?_
    refine WO.sd (wg rfl rfl (gfn rfl)) rfl ?_
    refine WO.q (.ptv (v := .bool _) rfl rfl rfl) rfl rfl ?_
    refine WO.q (.mv (v := .bool _) rfl) rfl rfl ?_
    refine WO.sd (wg rfl rfl (gfn rfl)) rfl ?_
    refine WO.sd (wg rfl rfl (gfn rfl)) rfl ?_
    refine WO.q (.ptv (v := .bool _) rfl rfl rfl) rfl rfl ?_
    refine WO.nil ?_
    refine WX.keep [1, 2, 30] (WX.pk [0] (by decide) ?_) rfl
    exact gabionref17_Text_j2_ok h _ _ _ ⟨hB, _, rfl, rfl⟩
  · have q_k3 := of_decide_eq_false k3
    replace h := (if_neg q_k3).symm.trans h
    refine WO.q (.fa (fa54_1 _ _)) (wg rfl rfl (gf k3)) rfl ?_
    refine WO.q (.ldS (i := 0) rfl rfl rfl ti3 rfl) (wg rfl rfl (gf k3)) rfl ?_
    refine WO.q (.r fun _ => rfl) (wg rfl rfl (gf k3)) rfl ?_
    refine WO.q (.pfv (v := .bool _) rfl k3 rfl) rfl rfl ?_
    refine WO.q (.mv (v := .bool _) rfl) rfl rfl ?_
    rcases bsp (decide (a0.2 < 0)) with k10 | k10
    · have q_k10 := of_decide_eq_true k10
      replace h := (if_pos q_k10).symm.trans h
      refine WO.sd (wg rfl rfl (gfn k10)) rfl ?_
      refine WO.sd (wg rfl rfl (gfn k10)) rfl ?_
      refine WO.sd (wg rfl rfl (gfn k10)) rfl ?_
      refine WO.q (.ptv (v := .bool _) rfl k10 rfl) rfl rfl ?_
      refine WO.q (.mv (v := .bool _) rfl) rfl rfl ?_
      refine WO.sd (wg rfl rfl (gfn rfl)) rfl ?_
      refine WO.sd (wg rfl rfl (gfn rfl)) rfl ?_
      refine WO.q (.ptv (v := .bool _) rfl rfl rfl) rfl rfl ?_
      refine WO.q (.mv (v := .bool _) rfl) rfl rfl ?_
      refine WO.sd (wg rfl rfl (gfn rfl)) rfl ?_
      refine WO.sd (wg rfl rfl (gfn rfl)) rfl ?_
      refine WO.q (.ptv (v := .bool _) rfl rfl rfl) rfl rfl ?_
      refine WO.nil ?_
      refine WX.keep [1, 2, 30] (WX.pk [0] (by decide) ?_) rfl
      exact gabionref17_Text_j2_ok h _ _ _ ⟨hB, _, rfl, rfl⟩
    · have q_k10 := of_decide_eq_false k10
      replace h := (if_neg q_k10).symm.trans h
      refine WO.q (.fa (fa54_1 _ _)) (wg rfl rfl (gf k10)) rfl ?_
      refine WO.q (.ldS (i := 0) rfl rfl rfl ti3 rfl) (wg rfl rfl (gf k10)) rfl ?_
      refine WO.q (.r fun _ => rfl) (wg rfl rfl (gf k10)) rfl ?_
      refine WO.q (.pfv (v := .bool _) rfl k10 rfl) rfl rfl ?_
      refine WO.q (.mv (v := .bool _) rfl) rfl rfl ?_
      rcases bsp (decide (65535 < a0.2)) with k11 | k11
      · have q_k11 := of_decide_eq_true k11
        replace h := (if_pos q_k11).symm.trans h
        refine WO.sd (wg rfl rfl (gfn k11)) rfl ?_
        refine WO.sd (wg rfl rfl (gfn k11)) rfl ?_
        refine WO.q (.ptv (v := .bool _) rfl k11 rfl) rfl rfl ?_
        refine WO.q (.mv (v := .bool _) rfl) rfl rfl ?_
        refine WO.sd (wg rfl rfl (gfn rfl)) rfl ?_
        refine WO.sd (wg rfl rfl (gfn rfl)) rfl ?_
        refine WO.q (.ptv (v := .bool _) rfl rfl rfl) rfl rfl ?_
        refine WO.nil ?_
        refine WX.keep [1, 2, 30] (WX.pk [0] (by decide) ?_) rfl
        exact gabionref17_Text_j2_ok h _ _ _ ⟨hB, _, rfl, rfl⟩
      · have q_k11 := of_decide_eq_false k11
        replace h := (if_neg q_k11).symm.trans h
        refine WO.q (.mv (v := .int _ _) rfl) (wg rfl rfl (gf k11)) rfl ?_
        refine WO.q (.r fun _ => rfl) (wg rfl rfl (gf k11)) rfl ?_
        refine WO.q (.pfv (v := .bool _) rfl k11 rfl) rfl rfl ?_
        refine WO.q (.mv (v := .bool _) rfl) rfl rfl ?_
        rcases bsp (decide (a1 < 0)) with k12 | k12
        · have q_k12 := of_decide_eq_true k12
          replace h := (if_pos q_k12).symm.trans h
          refine WO.sd (wg rfl rfl (gfn k12)) rfl ?_
          refine WO.sd (wg rfl rfl (gfn k12)) rfl ?_
          refine WO.q (.ptv (v := .bool _) rfl k12 rfl) rfl rfl ?_
          refine WO.nil ?_
          refine WX.keep [1, 2, 30] (WX.pk [0] (by decide) ?_) rfl
          exact gabionref17_Text_j2_ok h _ _ _ ⟨hB, _, rfl, rfl⟩
        · have q_k12 := of_decide_eq_false k12
          replace h := (if_neg q_k12).symm.trans h
          refine WO.q (.mv (v := .int _ _) rfl) (wg rfl rfl (gf k12)) rfl ?_
          refine WO.q (.r fun _ => rfl) (wg rfl rfl (gf k12)) rfl ?_
          refine WO.q (.pfv (v := .bool _) rfl k12 rfl) rfl rfl ?_
          refine WO.nil ?_
          refine WX.keep [1, 2, 30] (WX.pk [0] (by decide) ?_) rfl
          exact gabionref17_Text_j2_ok h _ _ _ ⟨hB, _, rfl, rfl⟩
end Gab
