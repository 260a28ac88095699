/- The Go code comes to what the Lean functions say. Written by a program (gp.py). -/
import Derived.Test.YtdkldojcpncnhaaFd
import Derived.Test.YtdkldojcpncnhaaTy
import Derived.Test.YtdkldojcpncnhaaFpRef140
set_option linter.unusedSimpArgs false
set_option linter.unusedVariables false
set_option maxHeartbeats 4000000
set_option maxRecDepth 100000
namespace Gab
open Go Go.Proofs
def gabionref14_Take_P (B : Kn) (L : Own) (r : (List Bool) × (List (Int × Int)) × Int) : AV → St → Prop := C1 B L fun B' v e0 => ∃ w0 w1 b0 n0 c0, v = .tup [w0, w1, .int .i64 r.2.2] ∧ RSl Ty.bool B' w0 r.1 ∧ e0 = oe b0 n0 c0 ∧ OSl EPIi64Ii64Q B' w1 b0 n0 c0 r.2.1
def gabionref14_Take_j11_I (B0 : Kn) (x0 : List Bool) (x1 : Int) (x7 : List (Int × Int)) (x8 : Int) (x9 : Int) (x10 : Int) : Fr → Kn → Own → Prop := fun fr B A => KLe B0 B ∧ ∃ v17 v18 b18 n18 c18, RSl Ty.bool B v17 x0 ∧ OSl EPIi64Ii64Q B v18 b18 n18 c18 x7 ∧ fr = [(0, v17), (1, .int .i64 x1), (7, v18), (8, .int .i64 x8), (9, .int .i64 x9), (10, .int .i64 x10)] ∧ A = [oe b18 n18 c18]
def gabionref14_Take_j10_I (B0 : Kn) (x0 : List Bool) (x1 : Int) (x7 : List (Int × Int)) (x8 : Int) (x9 : Int) (x10 : Int) (x43 : Bool) : Fr → Kn → Own → Prop := fun fr B A => KLe B0 B ∧ ∃ v14 v15 b15 n15 c15, RSl Ty.bool B v14 x0 ∧ OSl EPIi64Ii64Q B v15 b15 n15 c15 x7 ∧ fr = [(0, v14), (1, .int .i64 x1), (7, v15), (8, .int .i64 x8), (9, .int .i64 x9), (10, .int .i64 x10), (43, .bool x43)] ∧ A = [oe b15 n15 c15]
def gabionref14_Take_l0_I (B0 : Kn) (x0 : List Bool) (x1 : Int) (x7 : List (Int × Int)) (x8 : Int) (x9 : Int) (x10 : Int) : Fr → Kn → Own → Prop := fun fr B A => KLe B0 B ∧ ∃ v8 v9 b9 n9 c9, RSl Ty.bool B v8 x0 ∧ OSl EPIi64Ii64Q B v9 b9 n9 c9 x7 ∧ fr = [(0, v8), (1, .int .i64 x1), (7, v9), (8, .int .i64 x8), (9, .int .i64 x9), (10, .int .i64 x10)] ∧ A = [oe b9 n9 c9]
def gabionref14_Take_l0_X0 (B0 : Kn) (x0 : List Bool) (x1 : Int) (x7 : List (Int × Int)) (x8 : Int) (x9 : Int) : Fr → Kn → Own → Prop := fun fr B A => KLe B0 B ∧ ∃ v87 v88 b88 n88 c88, RSl Ty.bool B v87 x0 ∧ OSl EPIi64Ii64Q B v88 b88 n88 c88 x7 ∧ fr = [(0, v87), (1, .int .i64 x1), (7, v88), (8, .int .i64 x8), (9, .int .i64 x9)] ∧ A = [oe b88 n88 c88]
def gabionref14_Take_l1_I (B0 : Kn) (x11 : List (Int × Int)) (x0 : List Bool) (x15 : Int) : Fr → Kn → Own → Prop := fun fr B A => KLe B0 B ∧ ∃ v39 v40 b40 n40 c40, RSl Ty.bool B v39 x0 ∧ OSl EPIi64Ii64Q B v40 b40 n40 c40 x11 ∧ fr = [(0, v39), (11, v40), (15, .int .i64 x15)] ∧ A = [oe b40 n40 c40]
def gabionref14_Take_l1_X0 (B0 : Kn) (x0 : List Bool) (x11 : List (Int × Int)) : Fr → Kn → Own → Prop := fun fr B A => KLe B0 B ∧ ∃ v89 v90 b90 n90 c90, RSl Ty.bool B v89 x0 ∧ OSl EPIi64Ii64Q B v90 b90 n90 c90 x11 ∧ fr = [(0, v89), (11, v90)] ∧ A = [oe b90 n90 c90]
def gabionref14_Take_j17_I (B0 : Kn) (x0 : List Bool) (x11 : List (Int × Int)) : Fr → Kn → Own → Prop := fun fr B A => KLe B0 B ∧ ∃ v37 v38 b38 n38 c38, RSl Ty.bool B v37 x0 ∧ OSl EPIi64Ii64Q B v38 b38 n38 c38 x11 ∧ fr = [(0, v37), (11, v38)] ∧ A = [oe b38 n38 c38]
def gabionref14_Take_j28_I (B0 : Kn) (x0 : List Bool) (x7 : List (Int × Int)) (x11 : List (Int × Int)) (x12 : Int) (x13 : Int) (x14 : Int) : Fr → Kn → Own → Prop := fun fr B A => KLe B0 B ∧ ∃ v67 v68 b68 n68 c68 v69 b69 n69 c69, RSl Ty.bool B v67 x0 ∧ OSl EPIi64Ii64Q B v68 b68 n68 c68 x7 ∧ OSl EPIi64Ii64Q B v69 b69 n69 c69 x11 ∧ fr = [(0, v67), (7, v68), (11, v69), (12, .int .i64 x12), (13, .int .i64 x13), (14, .int .i64 x14)] ∧ A = [oe b68 n68 c68, oe b69 n69 c69]
def gabionref14_Take_j24_I (B0 : Kn) (x0 : List Bool) (x7 : List (Int × Int)) (x11 : List (Int × Int)) (x12 : Int) (x13 : Int) (x68 : Bool) : Fr → Kn → Own → Prop := fun fr B A => KLe B0 B ∧ ∃ v61 v62 b62 n62 c62 v63 b63 n63 c63, RSl Ty.bool B v61 x0 ∧ OSl EPIi64Ii64Q B v62 b62 n62 c62 x7 ∧ OSl EPIi64Ii64Q B v63 b63 n63 c63 x11 ∧ fr = [(0, v61), (7, v62), (11, v63), (12, .int .i64 x12), (13, .int .i64 x13), (68, .bool x68)] ∧ A = [oe b62 n62 c62, oe b63 n63 c63]
def gabionref14_Take_l2_I (B0 : Kn) (x0 : List Bool) (x7 : List (Int × Int)) (x11 : List (Int × Int)) (x12 : Int) (x13 : Int) : Fr → Kn → Own → Prop := fun fr B A => KLe B0 B ∧ ∃ v57 v58 b58 n58 c58 v59 b59 n59 c59, RSl Ty.bool B v57 x0 ∧ OSl EPIi64Ii64Q B v58 b58 n58 c58 x7 ∧ OSl EPIi64Ii64Q B v59 b59 n59 c59 x11 ∧ fr = [(0, v57), (7, v58), (11, v59), (12, .int .i64 x12), (13, .int .i64 x13)] ∧ A = [oe b58 n58 c58, oe b59 n59 c59]
def gabionref14_Take_l2_X0 (B0 : Kn) (x0 : List Bool) (x11 : List (Int × Int)) : Fr → Kn → Own → Prop := fun fr B A => KLe B0 B ∧ ∃ v91 v92 b92 n92 c92, RSl Ty.bool B v91 x0 ∧ OSl EPIi64Ii64Q B v92 b92 n92 c92 x11 ∧ fr = [(0, v91), (11, v92)] ∧ A = [oe b92 n92 c92]
theorem gabionref14_Take_j11_ok {B0 : Kn} {L : Own} {n0 : Nat} {x0 : List Bool} {x1 : Int} {x7 : List (Int × Int)} {x8 : Int} {x9 : Int} {x10 : Int} {Q : AV → St → Prop} {E : (Int × Int × Int) ⊕ (Int × Int) → Prop} {o : (Int × Int × Int) ⊕ (Int × Int)} (h : gabionref14_Take_j11 x0 x1 x7 x8 x9 x10 = some o) (hn : ∀ s, E (.inl s) → WXI Try.prog 116 n0 (Fin Try.prog Try.f41.results.toList n0 Q) [.lp (ct [1, 1, 1, 1, 1, 0, 1, 0, 0] (bodyOf Try.f41)), .blk 0, .code (ct [1, 1, 1, 1, 1, 1] (bodyOf Try.f41))] (gabionref14_Take_l0_I B0 x0 x1 x7 s.1 s.2.1 s.2.2) L) (hx0 : ∀ s, E (.inr s) → WXI Try.prog 116 n0 (Fin Try.prog Try.f41.results.toList n0 Q) [.code (ct [1, 1, 1, 1, 1, 1] (bodyOf Try.f41))] (gabionref14_Take_l0_X0 B0 x0 x1 x7 s.1 s.2) L) (hE : E o) : WXI Try.prog 116 n0 (Fin Try.prog Try.f41.results.toList n0 Q) [.code (ct [1, 1, 1, 1, 1, 0, 1, 0, 0, 1, 1] (bodyOf Try.f41)), .lp (ct [1, 1, 1, 1, 1, 0, 1, 0, 0] (bodyOf Try.f41)), .blk 0, .code (ct [1, 1, 1, 1, 1, 1] (bodyOf Try.f41))] (gabionref14_Take_j11_I B0 x0 x1 x7 x8 x9 x10) L := by
  unfold gabionref14_Take_j11 at h
  rintro _ B _ ⟨hB, v17, v18, b18, n18, c18, h17, h18, rfl, rfl⟩
  obtain ⟨_, _, _, _, _, rfl⟩ := h17.isl
  obtain ⟨_, _, _, _, _, rfl⟩ := h18.isl
  refine WX.reg ?_
  refine WO.q (.mv (v := .int _ _) rfl) rfl rfl ?_
  refine WO.q (.r fun _ => rfl) rfl rfl ?_
  refine WO.q (.as (v := .int _ _) rfl) rfl rfl ?_
  refine WO.nil ?_
  refine WX.keepL [0, 1, 7, 8, 9, 10] (WX.pk [0] (by decide) ?_) rfl
  obtain rfl := Option.some.inj h
  exact hn _ hE _ _ _ ⟨hB, _, _, _, n18, _, h17, h18, rfl, rfl⟩
theorem gabionref14_Take_j10_ok {B0 : Kn} {L : Own} {n0 : Nat} {x0 : List Bool} {x1 : Int} {x7 : List (Int × Int)} {x8 : Int} {x9 : Int} {x10 : Int} {x43 : Bool} {Q : AV → St → Prop} {E : (Int × Int × Int) ⊕ (Int × Int) → Prop} {o : (Int × Int × Int) ⊕ (Int × Int)} (h : gabionref14_Take_j10 x0 x1 x7 x8 x9 x10 x43 = some o) (hn : ∀ s, E (.inl s) → WXI Try.prog 116 n0 (Fin Try.prog Try.f41.results.toList n0 Q) [.lp (ct [1, 1, 1, 1, 1, 0, 1, 0, 0] (bodyOf Try.f41)), .blk 0, .code (ct [1, 1, 1, 1, 1, 1] (bodyOf Try.f41))] (gabionref14_Take_l0_I B0 x0 x1 x7 s.1 s.2.1 s.2.2) L) (hx0 : ∀ s, E (.inr s) → WXI Try.prog 116 n0 (Fin Try.prog Try.f41.results.toList n0 Q) [.code (ct [1, 1, 1, 1, 1, 1] (bodyOf Try.f41))] (gabionref14_Take_l0_X0 B0 x0 x1 x7 s.1 s.2) L) (hE : E o) : WXI Try.prog 116 n0 (Fin Try.prog Try.f41.results.toList n0 Q) [.code (ct [1, 1, 1, 1, 1, 0, 1, 0, 0, 1, 0, 0, 1, 1] (bodyOf Try.f41)), .blk 1, .code (ct [1, 1, 1, 1, 1, 0, 1, 0, 0, 1, 1] (bodyOf Try.f41)), .lp (ct [1, 1, 1, 1, 1, 0, 1, 0, 0] (bodyOf Try.f41)), .blk 0, .code (ct [1, 1, 1, 1, 1, 1] (bodyOf Try.f41))] (gabionref14_Take_j10_I B0 x0 x1 x7 x8 x9 x10 x43) L := by
  unfold gabionref14_Take_j10 at h
  rintro _ B _ ⟨hB, v14, v15, b15, n15, c15, h14, h15, rfl, rfl⟩
  obtain ⟨_, _, _, _, _, rfl⟩ := h14.isl
  obtain ⟨_, _, _, _, _, rfl⟩ := h15.isl
  rcases bsp x43 with k16 | k16
  · replace h := (if_pos k16).symm.trans h
    refine WX.condT rfl k16 ?_
    refine WX.reg ?_
    refine WO.q (.mv (v := .int _ _) rfl) rfl rfl ?_
    refine WO.q (.as (v := .int _ _) rfl) rfl rfl ?_
    refine WO.nil ?_
    refine WX.pop ?_
    refine WX.keep [0, 1, 7, 8, 9, 10] (WX.pk [0] (by decide) ?_) rfl
    exact gabionref14_Take_j11_ok h hn hx0 hE _ _ _ ⟨hB, _, _, _, n15, _, h14, h15, rfl, rfl⟩
  · replace h := (if_neg (bnt k16)).symm.trans h
    refine WX.condF rfl k16 ?_
    refine WX.skip ?_
    refine WX.pop ?_
    refine WX.keep [0, 1, 7, 8, 9, 10] (WX.pk [0] (by decide) ?_) rfl
    exact gabionref14_Take_j11_ok h hn hx0 hE _ _ _ ⟨hB, _, _, _, n15, _, h14, h15, rfl, rfl⟩
theorem gabionref14_Take_l0_s {B0 : Kn} {L : Own} {n0 : Nat} {x0 : List Bool} {x1 : Int} {x7 : List (Int × Int)} {x8 : Int} {x9 : Int} {x10 : Int} {Q : AV → St → Prop} {E : (Int × Int × Int) ⊕ (Int × Int) → Prop} {o : (Int × Int × Int) ⊕ (Int × Int)} (h : gabionref14_Take_l0 x0 x1 x7 x8 x9 x10 = some o) (hn : ∀ s, E (.inl s) → WXI Try.prog 116 n0 (Fin Try.prog Try.f41.results.toList n0 Q) [.lp (ct [1, 1, 1, 1, 1, 0, 1, 0, 0] (bodyOf Try.f41)), .blk 0, .code (ct [1, 1, 1, 1, 1, 1] (bodyOf Try.f41))] (gabionref14_Take_l0_I B0 x0 x1 x7 s.1 s.2.1 s.2.2) L) (hx0 : ∀ s, E (.inr s) → WXI Try.prog 116 n0 (Fin Try.prog Try.f41.results.toList n0 Q) [.code (ct [1, 1, 1, 1, 1, 1] (bodyOf Try.f41))] (gabionref14_Take_l0_X0 B0 x0 x1 x7 s.1 s.2) L) (hE : E o) : WXI Try.prog 116 n0 (Fin Try.prog Try.f41.results.toList n0 Q) [.code (ct [1, 1, 1, 1, 1, 0, 1, 0, 0] (bodyOf Try.f41)), .lp (ct [1, 1, 1, 1, 1, 0, 1, 0, 0] (bodyOf Try.f41)), .blk 0, .code (ct [1, 1, 1, 1, 1, 1] (bodyOf Try.f41))] (gabionref14_Take_l0_I B0 x0 x1 x7 x8 x9 x10) L := by
  unfold gabionref14_Take_l0 at h
  rintro _ B _ ⟨hB, v8, v9, b9, n9, c9, h8, h9, rfl, rfl⟩
  obtain ⟨_, _, _, _, _, rfl⟩ := h8.isl
  obtain ⟨_, _, _, _, _, rfl⟩ := h9.isl
  refine WX.seq ?_
  refine WX.seq ?_
  refine WX.reg ?_
  refine WO.q (.mv (v := .int _ _) rfl) rfl rfl ?_
  refine WO.q (.mv (v := .sl _ _ _ _ _ _) rfl) rfl rfl ?_
  refine WO.q (.len rfl rfl rfl (sl40.len h9.isl)) rfl rfl ?_
  refine WO.q (.r fun _ => rfl) rfl rfl ?_
  refine WO.nil ?_
  rcases bsp (decide (x10 < (x7.length : Int))) with k10 | k10
  · have q_k10 := of_decide_eq_true k10
    replace h := (if_pos q_k10).symm.trans h
    refine WX.condT rfl k10 ?_
    refine WX.skip ?_
    refine WX.seq ?_
    refine WX.block ?_
    refine WX.seq ?_
    refine WX.reg ?_
    refine WO.q (.mv (v := .int _ _) rfl) rfl rfl ?_
    refine WO.q (.mv (v := .sl _ _ _ _ _ _) rfl) rfl rfl ?_
    refine WO.q (.mv (v := .int _ _) rfl) rfl rfl ?_
    obtain ⟨y11, hy11, h⟩ := Option.bind_eq_some_iff.1 h
    obtain rfl := h9.nonnil hy11
    obtain ⟨_, i_y11, l_y11, r_y11⟩ := h9.at sl40 hy11 .i64
    obtain ⟨_, _, rfl, rfl, rfl⟩ := r_y11
    refine WO.q (.ia i_y11) rfl rfl ?_
    refine WO.q (.ia (ia41_1 _ _)) rfl rfl ?_
    refine WO.q (.ldS (i := 0) rfl rfl (l_y11.g rfl) ti3 rfl) rfl rfl ?_
    refine WO.q (.r fun _ => rfl) rfl rfl ?_
    refine WO.q (.as (v := .int _ _) rfl) rfl rfl ?_
    refine WO.nil ?_
    refine WX.seq ?_
    refine WX.reg ?_
    refine WO.q (.mv (v := .int _ _) rfl) rfl rfl ?_
    refine WO.q (.r fun _ => rfl) rfl rfl ?_
    refine WO.q (.mv (v := .bool _) rfl) rfl rfl ?_
    rcases bsp (decide (x9 < 0)) with k12 | k12
    · have q_k12 := of_decide_eq_true k12
      replace h := (if_pos q_k12).symm.trans h
      refine WO.q (.mv (v := .sl _ _ _ _ _ _) rfl) (wg rfl rfl (gt k12)) rfl ?_
      refine WO.q (.mv (v := .int _ _) rfl) (wg rfl rfl (gt k12)) rfl ?_
      obtain ⟨y13, hy13, h⟩ := Option.bind_eq_some_iff.1 h
      obtain ⟨_, i_y13, l_y13, r_y13⟩ := h9.at sl40 hy13 .i64
      obtain ⟨_, _, rfl, rfl, rfl⟩ := r_y13
      refine WO.q (.ia i_y13) (wg rfl rfl (gt k12)) rfl ?_
      refine WO.q (.ia (ia41_1 _ _)) (wg rfl rfl (gt k12)) rfl ?_
      refine WO.q (.ldS (i := 0) rfl rfl (l_y13.g rfl) ti3 rfl) (wg rfl rfl (gt k12)) rfl ?_
      refine WO.q (.mv (v := .int _ _) rfl) (wg rfl rfl (gt k12)) rfl ?_
      refine WO.q (.r fun _ => rfl) (wg rfl rfl (gt k12)) rfl ?_
      refine WO.q (.ptv (v := .bool _) rfl k12 rfl) rfl rfl ?_
      refine WO.nil ?_
      refine WX.keep [0, 1, 7, 8, 9, 10, 43] (WX.pk [0] (by decide) ?_) rfl
      exact gabionref14_Take_j10_ok h hn hx0 hE _ _ _ ⟨hB, _, _, _, false, _, h8, h9, rfl, rfl⟩
    · have q_k12 := of_decide_eq_false k12
      replace h := (if_neg q_k12).symm.trans h
      refine WO.sd (wg rfl rfl (gtn k12)) rfl ?_
      refine WO.sd (wg rfl rfl (gtn k12)) rfl ?_
      refine WO.sd (wg rfl rfl (gtn k12)) rfl ?_
      refine WO.sd (wg rfl rfl (gtn k12)) rfl ?_
      refine WO.sd (wg rfl rfl (gtn k12)) rfl ?_
      refine WO.sd (wg rfl rfl (gtn k12)) rfl ?_
      refine WO.sd (wg rfl rfl (gtn k12)) rfl ?_
      refine WO.q (.pfv (v := .bool _) rfl k12 rfl) rfl rfl ?_
      refine WO.nil ?_
      refine WX.keep [0, 1, 7, 8, 9, 10, 43] (WX.pk [0] (by decide) ?_) rfl
      exact gabionref14_Take_j10_ok h hn hx0 hE _ _ _ ⟨hB, _, _, _, false, _, h8, h9, rfl, rfl⟩
  · have q_k10 := of_decide_eq_false k10
    replace h := (if_neg q_k10).symm.trans h
    refine WX.condF rfl k10 ?_
    refine WX.exit rfl ?_
    refine WX.keep [0, 1, 7, 8, 9] (WX.pk [0] (by decide) ?_) rfl
    obtain rfl := Option.some.inj h
    exact hx0 _ hE _ _ _ ⟨hB, _, _, _, n9, _, h8, h9, rfl, rfl⟩
theorem gabionref14_Take_l0_ok {B0 : Kn} {L : Own} {n0 : Nat} {x0 : List Bool} {x1 : Int} {x7 : List (Int × Int)} {x8 : Int} {x9 : Int} {x10 : Int} {Q : AV → St → Prop} {d : Nat} {e : (Int × Int)} (h : iter (fun (s : Int × Int × Int) => gabionref14_Take_l0 x0 x1 x7 s.1 s.2.1 s.2.2) d (x8, x9, x10) = some e) (g0 : ∀ s, e = s → WXI Try.prog 116 n0 (Fin Try.prog Try.f41.results.toList n0 Q) [.code (ct [1, 1, 1, 1, 1, 1] (bodyOf Try.f41))] (gabionref14_Take_l0_X0 B0 x0 x1 x7 s.1 s.2) L) : WXI Try.prog 116 n0 (Fin Try.prog Try.f41.results.toList n0 Q) [.code (ct [1, 1, 1, 1, 1, 0, 1, 0, 0] (bodyOf Try.f41)), .lp (ct [1, 1, 1, 1, 1, 0, 1, 0, 0] (bodyOf Try.f41)), .blk 0, .code (ct [1, 1, 1, 1, 1, 1] (bodyOf Try.f41))] (gabionref14_Take_l0_I B0 x0 x1 x7 x8 x9 x10) L :=
  iter_ok (I := fun s => gabionref14_Take_l0_I B0 x0 x1 x7 s.1 s.2.1 s.2.2) (D := fun e => (∀ s, e = s → WXI Try.prog 116 n0 (Fin Try.prog Try.f41.results.toList n0 Q) [.code (ct [1, 1, 1, 1, 1, 1] (bodyOf Try.f41))] (gabionref14_Take_l0_X0 B0 x0 x1 x7 s.1 s.2) L)) (fun E hn hx s o ho hE => gabionref14_Take_l0_s ho hn (fun s hs => (hx _ hs) _ rfl)  hE) h g0
theorem gabionref14_Take_l1_s {B0 : Kn} {L : Own} {n0 : Nat} {x11 : List (Int × Int)} {x0 : List Bool} {x15 : Int} {Q : AV → St → Prop} {E : ((List Bool) × Int) ⊕ (List Bool) → Prop} {o : ((List Bool) × Int) ⊕ (List Bool)} (h : gabionref14_Take_l1 x11 x0 x15 = some o) (hn : ∀ s, E (.inl s) → WXI Try.prog 116 n0 (Fin Try.prog Try.f41.results.toList n0 Q) [.lp (ct [1, 1, 1, 1, 1, 1, 1, 1, 1, 0, 1, 0, 0] (bodyOf Try.f41)), .blk 4, .code (ct [1, 1, 1, 1, 1, 1, 1, 1, 1, 1] (bodyOf Try.f41))] (gabionref14_Take_l1_I B0 x11 s.1 s.2) L) (hx0 : ∀ s, E (.inr s) → WXI Try.prog 116 n0 (Fin Try.prog Try.f41.results.toList n0 Q) [.code (ct [1, 1, 1, 1, 1, 1, 1, 1, 1, 1] (bodyOf Try.f41))] (gabionref14_Take_l1_X0 B0 s x11) L) (hE : E o) : WXI Try.prog 116 n0 (Fin Try.prog Try.f41.results.toList n0 Q) [.code (ct [1, 1, 1, 1, 1, 1, 1, 1, 1, 0, 1, 0, 0] (bodyOf Try.f41)), .lp (ct [1, 1, 1, 1, 1, 1, 1, 1, 1, 0, 1, 0, 0] (bodyOf Try.f41)), .blk 4, .code (ct [1, 1, 1, 1, 1, 1, 1, 1, 1, 1] (bodyOf Try.f41))] (gabionref14_Take_l1_I B0 x11 x0 x15) L := by
  unfold gabionref14_Take_l1 at h
  rintro _ B _ ⟨hB, v39, v40, b40, n40, c40, h39, h40, rfl, rfl⟩
  obtain ⟨_, _, _, _, _, rfl⟩ := h39.isl
  obtain ⟨_, _, _, _, _, rfl⟩ := h40.isl
  refine WX.seq ?_
  refine WX.seq ?_
  refine WX.reg ?_
  refine WO.q (.mv (v := .int _ _) rfl) rfl rfl ?_
  refine WO.q (.mv (v := .sl _ _ _ _ _ _) rfl) rfl rfl ?_
  refine WO.q (.len rfl rfl rfl (sl40.len h40.isl)) rfl rfl ?_
  refine WO.q (.r fun _ => rfl) rfl rfl ?_
  refine WO.nil ?_
  rcases bsp (decide (x15 < (x11.length : Int))) with k41 | k41
  · have q_k41 := of_decide_eq_true k41
    replace h := (if_pos q_k41).symm.trans h
    refine WX.condT rfl k41 ?_
    refine WX.skip ?_
    refine WX.seq ?_
    refine WX.block ?_
    refine WX.drw [0, 1, 2, 3, 4, 5, 6, 7, 8, 9, 10, 11, 12, 13, 14, 15] _ mixed (by kernel_rfl) rfl (pk_sub [0]) ?_
    refine WP.q (i := 0) rfl (.mv (v := .sl _ _ _ _ _ _) rfl) rfl rfl rfl ?_
    refine WP.q (i := 1) rfl (.mv (v := .sl _ _ _ _ _ _) rfl) rfl rfl rfl ?_
    refine WP.q (i := 2) rfl (.mv (v := .int _ _) rfl) rfl rfl rfl ?_
    obtain ⟨y42, hy42, h⟩ := Option.bind_eq_some_iff.1 h
    obtain rfl := h40.nonnil hy42
    obtain ⟨_, i_y42, l_y42, r_y42⟩ := h40.at sl40 hy42 .i64
    obtain ⟨_, _, rfl, rfl, rfl⟩ := r_y42
    refine WP.q (i := 3) rfl (.ia i_y42) rfl rfl rfl ?_
    refine WP.q (i := 4) rfl (.ia (ia41_0 _ _)) rfl rfl rfl ?_
    refine WP.q (i := 5) rfl (.ldS (i := 0) rfl rfl (l_y42.g rfl) ti3 rfl) rfl rfl rfl ?_
    refine WP.q (i := 6) rfl (.mv (v := .sl _ _ _ _ _ _) rfl) rfl rfl rfl ?_
    refine WP.q (i := 7) rfl (.mv (v := .int _ _) rfl) rfl rfl rfl ?_
    obtain ⟨y43, hy43, h⟩ := Option.bind_eq_some_iff.1 h
    obtain ⟨_, i_y43, l_y43, r_y43⟩ := h40.at sl40 hy43 .i64
    obtain ⟨_, _, rfl, rfl, rfl⟩ := r_y43
    refine WP.q (i := 8) rfl (.ia i_y43) rfl rfl rfl ?_
    refine WP.q (i := 9) rfl (.ia (ia41_1 _ _)) rfl rfl rfl ?_
    refine WP.q (i := 10) rfl (.ldS (i := 0) rfl rfl (l_y43.g rfl) ti3 rfl) rfl rfl rfl ?_
    obtain ⟨y44, hy44, h⟩ := Option.bind_eq_some_iff.1 h
    refine WP.c1 (i := 11) rfl rfl rfl (gabionref14_Set_ok h39 hy44) rfl rfl rfl ?_
    rintro _ B _ hK ⟨v45, b46, n47, c48, rfl, rfl, h49⟩
    obtain ⟨_, _, _, _, _, rfl⟩ := h49.isl
    replace h39 := h39.up hK
    replace h40 := h40.up hK
    replace hB := hB.trans hK
    refine WP.q (i := 12) rfl (.mv (v := .tup _) rfl) rfl rfl rfl ?_
    refine WP.q (i := 13) rfl (.r fun _ => rfl) rfl rfl rfl ?_
    refine WP.q (i := 14) rfl (.r fun _ => rfl) rfl rfl rfl ?_
    refine WP.q (i := 15) rfl (.as (v := .sl _ _ _ _ _ _) rfl) rfl rfl rfl ?_
    refine WP.nil ?_
    refine WX.pop ?_
    refine WX.reg ?_
    refine WO.q (.mv (v := .int _ _) rfl) rfl rfl ?_
    refine WO.q (.r fun _ => rfl) rfl rfl ?_
    refine WO.q (.as (v := .int _ _) rfl) rfl rfl ?_
    refine WO.nil ?_
    refine WX.fz (j := 0) h49 rfl ?_
    intro B hK g50
    replace h40 := h40.up hK
    replace hB := hB.trans hK
    refine WX.keepL [0, 11, 15] (WX.pk [0] (by decide) ?_) rfl
    obtain rfl := Option.some.inj h
    exact hn _ hE _ _ _ ⟨hB, _, _, _, false, _, g50, h40, rfl, rfl⟩
  · have q_k41 := of_decide_eq_false k41
    replace h := (if_neg q_k41).symm.trans h
    refine WX.condF rfl k41 ?_
    refine WX.exit rfl ?_
    refine WX.keep [0, 11] (WX.pk [0] (by decide) ?_) rfl
    obtain rfl := Option.some.inj h
    exact hx0 _ hE _ _ _ ⟨hB, _, _, _, n40, _, h39, h40, rfl, rfl⟩
theorem gabionref14_Take_l1_ok {B0 : Kn} {L : Own} {n0 : Nat} {x11 : List (Int × Int)} {x0 : List Bool} {x15 : Int} {Q : AV → St → Prop} {d : Nat} {e : (List Bool)} (h : iter (fun (s : (List Bool) × Int) => gabionref14_Take_l1 x11 s.1 s.2) d (x0, x15) = some e) (g0 : ∀ s, e = s → WXI Try.prog 116 n0 (Fin Try.prog Try.f41.results.toList n0 Q) [.code (ct [1, 1, 1, 1, 1, 1, 1, 1, 1, 1] (bodyOf Try.f41))] (gabionref14_Take_l1_X0 B0 s x11) L) : WXI Try.prog 116 n0 (Fin Try.prog Try.f41.results.toList n0 Q) [.code (ct [1, 1, 1, 1, 1, 1, 1, 1, 1, 0, 1, 0, 0] (bodyOf Try.f41)), .lp (ct [1, 1, 1, 1, 1, 1, 1, 1, 1, 0, 1, 0, 0] (bodyOf Try.f41)), .blk 4, .code (ct [1, 1, 1, 1, 1, 1, 1, 1, 1, 1] (bodyOf Try.f41))] (gabionref14_Take_l1_I B0 x11 x0 x15) L :=
  iter_ok (I := fun s => gabionref14_Take_l1_I B0 x11 s.1 s.2) (D := fun e => (∀ s, e = s → WXI Try.prog 116 n0 (Fin Try.prog Try.f41.results.toList n0 Q) [.code (ct [1, 1, 1, 1, 1, 1, 1, 1, 1, 1] (bodyOf Try.f41))] (gabionref14_Take_l1_X0 B0 s x11) L)) (fun E hn hx s o ho hE => gabionref14_Take_l1_s ho hn (fun s hs => (hx _ hs) _ rfl)  hE) h g0
theorem gabionref14_Take_j17_ok {B0 : Kn} {L : Own} {n0 : Nat} {x0 : List Bool} {x11 : List (Int × Int)} {r : (List Bool) × (List (Int × Int)) × Int} (h : gabionref14_Take_j17 x0 x11 = some r) : WXI Try.prog 116 n0 (Fin Try.prog Try.f41.results.toList n0 (gabionref14_Take_P B0 L r)) [.code (ct [1, 1, 1, 1, 1, 1, 1, 1, 1] (bodyOf Try.f41))] (gabionref14_Take_j17_I B0 x0 x11) L := by
  unfold gabionref14_Take_j17 at h
  rintro _ B _ ⟨hB, v37, v38, b38, n38, c38, h37, h38, rfl, rfl⟩
  obtain ⟨_, _, _, _, _, rfl⟩ := h37.isl
  obtain ⟨_, _, _, _, _, rfl⟩ := h38.isl
  refine WX.seq ?_
  refine WX.seq ?_
  refine WX.reg ?_
  refine WO.q (.as (v := .int _ _) rfl) rfl rfl ?_
  refine WO.nil ?_
  refine WX.block ?_
  refine WX.loop ?_
  obtain ⟨e53, he53, h⟩ := Option.bind_eq_some_iff.1 h
  refine WX.keep [0, 11, 15] (WX.pk [0] (by decide) ?_) rfl
  refine gabionref14_Take_l1_ok he53 ?_ _ _ _ ⟨hB, _, _, _, n38, _, h37, h38, rfl, rfl⟩
  · intro s56 he_
    subst he_
    replace h := h
    rintro _ B _ ⟨hB, v54, v55, b55, n55, c55, h54, h55, rfl, rfl⟩
    obtain ⟨_, _, _, _, _, rfl⟩ := h54.isl
    obtain ⟨_, _, _, _, _, rfl⟩ := h55.isl
    refine WX.seq ?_
    refine WX.reg ?_
    refine WO.q (.mv (v := .sl _ _ _ _ _ _) rfl) rfl rfl ?_
    refine WO.q (.mv (v := .sl _ _ _ _ _ _) rfl) rfl rfl ?_
    refine WO.q (.as (v := .sl _ _ _ _ _ _) rfl) rfl rfl ?_
    refine WO.q (.as (v := .sl _ _ _ _ _ _) rfl) rfl rfl ?_
    refine WO.q (.as (v := .int _ _) rfl) rfl rfl ?_
    refine WO.nil ?_
    obtain rfl := Option.some.inj h
    exact WX.ret (rs_ (rs_tmp rfl (rs_tmp rfl (rs_tmp rfl rs_nil)))) fun st hp => ⟨_, _, hB, (hp.pk [0] (by decide)), _, _, _, n55, _, rfl, h54, rfl, h55⟩
theorem gabionref14_Take_j28_ok {B0 : Kn} {L : Own} {n0 : Nat} {x0 : List Bool} {x7 : List (Int × Int)} {x11 : List (Int × Int)} {x12 : Int} {x13 : Int} {x14 : Int} {Q : AV → St → Prop} {E : ((List (Int × Int)) × Int × Int) ⊕ (List (Int × Int)) → Prop} {o : ((List (Int × Int)) × Int × Int) ⊕ (List (Int × Int))} (h : gabionref14_Take_j28 x0 x7 x11 x12 x13 x14 = some o) (hn : ∀ s, E (.inl s) → WXI Try.prog 116 n0 (Fin Try.prog Try.f41.results.toList n0 Q) [.lp (ct [1, 1, 1, 1, 1, 1, 1, 1, 0, 1, 1, 1, 1, 0, 0] (bodyOf Try.f41)), .blk 2, .code (ct [1, 1, 1, 1, 1, 1, 1, 1, 1] (bodyOf Try.f41))] (gabionref14_Take_l2_I B0 x0 x7 s.1 s.2.1 s.2.2) L) (hx0 : ∀ s, E (.inr s) → WXI Try.prog 116 n0 (Fin Try.prog Try.f41.results.toList n0 Q) [.code (ct [1, 1, 1, 1, 1, 1, 1, 1, 1] (bodyOf Try.f41))] (gabionref14_Take_l2_X0 B0 x0 s) L) (hE : E o) : WXI Try.prog 116 n0 (Fin Try.prog Try.f41.results.toList n0 Q) [.code (ct [1, 1, 1, 1, 1, 1, 1, 1, 0, 1, 1, 1, 1, 0, 0, 1, 0, 0, 1, 1] (bodyOf Try.f41)), .blk 3, .code (ct [1, 1, 1, 1, 1, 1, 1, 1, 0, 1, 1, 1, 1, 0, 0, 1, 1] (bodyOf Try.f41)), .lp (ct [1, 1, 1, 1, 1, 1, 1, 1, 0, 1, 1, 1, 1, 0, 0] (bodyOf Try.f41)), .blk 2, .code (ct [1, 1, 1, 1, 1, 1, 1, 1, 1] (bodyOf Try.f41))] (gabionref14_Take_j28_I B0 x0 x7 x11 x12 x13 x14) L := by
  unfold gabionref14_Take_j28 at h
  rintro _ B _ ⟨hB, v67, v68, b68, n68, c68, v69, b69, n69, c69, h67, h68, h69, rfl, rfl⟩
  obtain ⟨_, _, _, _, _, rfl⟩ := h67.isl
  obtain ⟨_, _, _, _, _, rfl⟩ := h68.isl
  obtain ⟨_, _, _, _, _, rfl⟩ := h69.isl
  refine WX.seq ?_
  refine WX.reg ?_
  refine WO.q (.mv (v := .sl _ _ _ _ _ _) rfl) rfl rfl ?_
  refine WO.q (.mv (v := .sl _ _ _ _ _ _) rfl) rfl rfl ?_
  refine WO.q (.mv (v := .int _ _) rfl) rfl rfl ?_
  obtain ⟨y70, hy70, h⟩ := Option.bind_eq_some_iff.1 h
  obtain rfl := h68.nonnil hy70
  obtain ⟨_, i_y70, l_y70, r_y70⟩ := h68.at sl40 hy70 .i64
  obtain ⟨_, _, rfl, rfl, rfl⟩ := r_y70
  refine WO.q (.ia i_y70) rfl rfl ?_
  refine WO.q (.ia (ia41_0 _ _)) rfl rfl ?_
  refine WO.q (.ldS (i := 0) rfl rfl (l_y70.g rfl) ti3 rfl) rfl rfl ?_
  refine WO.q (.mv (v := .int _ _) rfl) rfl rfl ?_
  refine WO.q (.bd (bd41_0_1 (cI rfl) (cI rfl))) rfl rfl ?_
  refine WO.md (MOp.bs (l := ([(y70.1, x14)] : List (Int × Int))) sl40 (RL.cons (Rp Ri Ri) RL.nil) (lb rfl) rfl rfl) rfl rfl ?_
  rintro v73 _ ⟨b71, o72, rfl⟩
  obtain ⟨_, _, _, _, _, rfl⟩ := o72.isl
  obtain ⟨y75, hy75, h⟩ := Option.bind_eq_some_iff.1 h
  refine WO.md (MOp.app rfl rfl rfl sl40 h69 (Src.o (i := 0) sl40 o72 rfl) hy75 rfl rfl (fun _ => (.t (.t .h)))) rfl rfl ?_
  rintro v79 _ ⟨b76, n77, o78, rfl⟩
  obtain ⟨_, _, _, _, _, rfl⟩ := o78.isl
  refine WO.q (.as (v := .sl _ _ _ _ _ _) rfl) rfl rfl ?_
  refine WO.nil ?_
  refine WX.reg ?_
  refine WO.q (.mv (v := .int _ _) rfl) rfl rfl ?_
  refine WO.q (.mv (v := .int _ _) rfl) rfl rfl ?_
  refine WO.q (.r fun _ => rfl) rfl rfl ?_
  refine WO.q (.as (v := .int _ _) rfl) rfl rfl ?_
  refine WO.nil ?_
  refine WX.pop ?_
  refine WX.reg ?_
  refine WO.q (.mv (v := .int _ _) rfl) rfl rfl ?_
  refine WO.q (.r fun _ => rfl) rfl rfl ?_
  refine WO.q (.as (v := .int _ _) rfl) rfl rfl ?_
  refine WO.nil ?_
  refine WX.keepL [0, 7, 11, 12, 13] (WX.pk [1, 2] (by decide) ?_) rfl
  obtain rfl := Option.some.inj h
  exact hn _ hE _ _ _ ⟨hB, _, _, _, false, _, _, _, n77, _, h67, h68, o78, rfl, rfl⟩
theorem gabionref14_Take_j24_ok {B0 : Kn} {L : Own} {n0 : Nat} {x0 : List Bool} {x7 : List (Int × Int)} {x11 : List (Int × Int)} {x12 : Int} {x13 : Int} {x68 : Bool} {Q : AV → St → Prop} {E : ((List (Int × Int)) × Int × Int) ⊕ (List (Int × Int)) → Prop} {o : ((List (Int × Int)) × Int × Int) ⊕ (List (Int × Int))} (h : gabionref14_Take_j24 x0 x7 x11 x12 x13 x68 = some o) (hn : ∀ s, E (.inl s) → WXI Try.prog 116 n0 (Fin Try.prog Try.f41.results.toList n0 Q) [.lp (ct [1, 1, 1, 1, 1, 1, 1, 1, 0, 1, 1, 1, 1, 0, 0] (bodyOf Try.f41)), .blk 2, .code (ct [1, 1, 1, 1, 1, 1, 1, 1, 1] (bodyOf Try.f41))] (gabionref14_Take_l2_I B0 x0 x7 s.1 s.2.1 s.2.2) L) (hx0 : ∀ s, E (.inr s) → WXI Try.prog 116 n0 (Fin Try.prog Try.f41.results.toList n0 Q) [.code (ct [1, 1, 1, 1, 1, 1, 1, 1, 1] (bodyOf Try.f41))] (gabionref14_Take_l2_X0 B0 x0 s) L) (hE : E o) : WXI Try.prog 116 n0 (Fin Try.prog Try.f41.results.toList n0 Q) [.code (ct [1, 1, 1, 1, 1, 1, 1, 1, 0, 1, 1, 1, 1, 0, 0, 0, 1] (bodyOf Try.f41)), .code (ct [1, 1, 1, 1, 1, 1, 1, 1, 0, 1, 1, 1, 1, 0, 0, 1] (bodyOf Try.f41)), .lp (ct [1, 1, 1, 1, 1, 1, 1, 1, 0, 1, 1, 1, 1, 0, 0] (bodyOf Try.f41)), .blk 2, .code (ct [1, 1, 1, 1, 1, 1, 1, 1, 1] (bodyOf Try.f41))] (gabionref14_Take_j24_I B0 x0 x7 x11 x12 x13 x68) L := by
  unfold gabionref14_Take_j24 at h
  rintro _ B _ ⟨hB, v61, v62, b62, n62, c62, v63, b63, n63, c63, h61, h62, h63, rfl, rfl⟩
  obtain ⟨_, _, _, _, _, rfl⟩ := h61.isl
  obtain ⟨_, _, _, _, _, rfl⟩ := h62.isl
  obtain ⟨_, _, _, _, _, rfl⟩ := h63.isl
  rcases bsp x68 with k64 | k64
  · replace h := (if_pos k64).symm.trans h
    refine WX.condT rfl k64 ?_
    refine WX.skip ?_
    refine WX.seq ?_
    refine WX.block ?_
    refine WX.seq ?_
    refine WX.reg ?_
    refine WO.q (.mv (v := .sl _ _ _ _ _ _) rfl) rfl rfl ?_
    refine WO.q (.mv (v := .int _ _) rfl) rfl rfl ?_
    obtain ⟨y65, hy65, h⟩ := Option.bind_eq_some_iff.1 h
    obtain rfl := h62.nonnil hy65
    obtain ⟨_, i_y65, l_y65, r_y65⟩ := h62.at sl40 hy65 .i64
    obtain ⟨_, _, rfl, rfl, rfl⟩ := r_y65
    refine WO.q (.ia i_y65) rfl rfl ?_
    refine WO.q (.ia (ia41_1 _ _)) rfl rfl ?_
    refine WO.q (.ldS (i := 0) rfl rfl (l_y65.g rfl) ti3 rfl) rfl rfl ?_
    refine WO.q (.as (v := .int _ _) rfl) rfl rfl ?_
    refine WO.nil ?_
    refine WX.seq ?_
    refine WX.seq ?_
    refine WX.reg ?_
    refine WO.q (.mv (v := .int _ _) rfl) rfl rfl ?_
    refine WO.q (.mv (v := .int _ _) rfl) rfl rfl ?_
    refine WO.q (.r fun _ => rfl) rfl rfl ?_
    refine WO.nil ?_
    rcases bsp (decide (x12 < y65.2)) with k66 | k66
    · have q_k66 := of_decide_eq_true k66
      replace h := (if_pos q_k66).symm.trans h
      refine WX.condT rfl k66 ?_
      refine WX.reg ?_
      refine WO.q (.mv (v := .int _ _) rfl) rfl rfl ?_
      refine WO.q (.as (v := .int _ _) rfl) rfl rfl ?_
      refine WO.nil ?_
      refine WX.keep [0, 7, 11, 12, 13, 14] (WX.pk [0, 1] (by decide) ?_) rfl
      exact gabionref14_Take_j28_ok h hn hx0 hE _ _ _ ⟨hB, _, _, _, false, _, _, _, n63, _, h61, h62, h63, rfl, rfl⟩
    · have q_k66 := of_decide_eq_false k66
      replace h := (if_neg q_k66).symm.trans h
      refine WX.condF rfl k66 ?_
      refine WX.skip ?_
      refine WX.keep [0, 7, 11, 12, 13, 14] (WX.pk [0, 1] (by decide) ?_) rfl
      exact gabionref14_Take_j28_ok h hn hx0 hE _ _ _ ⟨hB, _, _, _, false, _, _, _, n63, _, h61, h62, h63, rfl, rfl⟩
  · replace h := (if_neg (bnt k64)).symm.trans h
    refine WX.condF rfl k64 ?_
    refine WX.exit rfl ?_
    refine WX.keep [0, 11] (WX.pk [1] (by decide) ?_) rfl
    obtain rfl := Option.some.inj h
    exact hx0 _ hE _ _ _ ⟨hB, _, _, _, n63, _, h61, h63, rfl, rfl⟩
theorem gabionref14_Take_l2_s {B0 : Kn} {L : Own} {n0 : Nat} {x0 : List Bool} {x7 : List (Int × Int)} {x11 : List (Int × Int)} {x12 : Int} {x13 : Int} {Q : AV → St → Prop} {E : ((List (Int × Int)) × Int × Int) ⊕ (List (Int × Int)) → Prop} {o : ((List (Int × Int)) × Int × Int) ⊕ (List (Int × Int))} (h : gabionref14_Take_l2 x0 x7 x11 x12 x13 = some o) (hn : ∀ s, E (.inl s) → WXI Try.prog 116 n0 (Fin Try.prog Try.f41.results.toList n0 Q) [.lp (ct [1, 1, 1, 1, 1, 1, 1, 1, 0, 1, 1, 1, 1, 0, 0] (bodyOf Try.f41)), .blk 2, .code (ct [1, 1, 1, 1, 1, 1, 1, 1, 1] (bodyOf Try.f41))] (gabionref14_Take_l2_I B0 x0 x7 s.1 s.2.1 s.2.2) L) (hx0 : ∀ s, E (.inr s) → WXI Try.prog 116 n0 (Fin Try.prog Try.f41.results.toList n0 Q) [.code (ct [1, 1, 1, 1, 1, 1, 1, 1, 1] (bodyOf Try.f41))] (gabionref14_Take_l2_X0 B0 x0 s) L) (hE : E o) : WXI Try.prog 116 n0 (Fin Try.prog Try.f41.results.toList n0 Q) [.code (ct [1, 1, 1, 1, 1, 1, 1, 1, 0, 1, 1, 1, 1, 0, 0] (bodyOf Try.f41)), .lp (ct [1, 1, 1, 1, 1, 1, 1, 1, 0, 1, 1, 1, 1, 0, 0] (bodyOf Try.f41)), .blk 2, .code (ct [1, 1, 1, 1, 1, 1, 1, 1, 1] (bodyOf Try.f41))] (gabionref14_Take_l2_I B0 x0 x7 x11 x12 x13) L := by
  unfold gabionref14_Take_l2 at h
  rintro _ B _ ⟨hB, v57, v58, b58, n58, c58, v59, b59, n59, c59, h57, h58, h59, rfl, rfl⟩
  obtain ⟨_, _, _, _, _, rfl⟩ := h57.isl
  obtain ⟨_, _, _, _, _, rfl⟩ := h58.isl
  obtain ⟨_, _, _, _, _, rfl⟩ := h59.isl
  refine WX.seq ?_
  refine WX.seq ?_
  refine WX.reg ?_
  refine WO.q (.mv (v := .int _ _) rfl) rfl rfl ?_
  refine WO.q (.mv (v := .sl _ _ _ _ _ _) rfl) rfl rfl ?_
  refine WO.q (.len rfl rfl rfl (sl40.len h58.isl)) rfl rfl ?_
  refine WO.q (.r fun _ => rfl) rfl rfl ?_
  refine WO.q (.mv (v := .bool _) rfl) rfl rfl ?_
  rcases bsp (decide (x13 < (x7.length : Int))) with k60 | k60
  · have q_k60 := of_decide_eq_true k60
    replace h := (if_pos q_k60).symm.trans h
    refine WO.q (.mv (v := .int _ _) rfl) (wg rfl rfl (gt k60)) rfl ?_
    refine WO.q (.r fun _ => rfl) (wg rfl rfl (gt k60)) rfl ?_
    refine WO.q (.ptv (v := .bool _) rfl k60 rfl) rfl rfl ?_
    refine WO.nil ?_
    refine WX.keep [0, 7, 11, 12, 13, 68] (WX.pk [0, 1] (by decide) ?_) rfl
    exact gabionref14_Take_j24_ok h hn hx0 hE _ _ _ ⟨hB, _, _, _, n58, _, _, _, n59, _, h57, h58, h59, rfl, rfl⟩
  · have q_k60 := of_decide_eq_false k60
    replace h := (if_neg q_k60).symm.trans h
    refine WO.sd (wg rfl rfl (gtn k60)) rfl ?_
    refine WO.sd (wg rfl rfl (gtn k60)) rfl ?_
    refine WO.q (.pfv (v := .bool _) rfl k60 rfl) rfl rfl ?_
    refine WO.nil ?_
    refine WX.keep [0, 7, 11, 12, 13, 68] (WX.pk [0, 1] (by decide) ?_) rfl
    exact gabionref14_Take_j24_ok h hn hx0 hE _ _ _ ⟨hB, _, _, _, n58, _, _, _, n59, _, h57, h58, h59, rfl, rfl⟩
theorem gabionref14_Take_l2_ok {B0 : Kn} {L : Own} {n0 : Nat} {x0 : List Bool} {x7 : List (Int × Int)} {x11 : List (Int × Int)} {x12 : Int} {x13 : Int} {Q : AV → St → Prop} {d : Nat} {e : (List (Int × Int))} (h : iter (fun (s : (List (Int × Int)) × Int × Int) => gabionref14_Take_l2 x0 x7 s.1 s.2.1 s.2.2) d (x11, x12, x13) = some e) (g0 : ∀ s, e = s → WXI Try.prog 116 n0 (Fin Try.prog Try.f41.results.toList n0 Q) [.code (ct [1, 1, 1, 1, 1, 1, 1, 1, 1] (bodyOf Try.f41))] (gabionref14_Take_l2_X0 B0 x0 s) L) : WXI Try.prog 116 n0 (Fin Try.prog Try.f41.results.toList n0 Q) [.code (ct [1, 1, 1, 1, 1, 1, 1, 1, 0, 1, 1, 1, 1, 0, 0] (bodyOf Try.f41)), .lp (ct [1, 1, 1, 1, 1, 1, 1, 1, 0, 1, 1, 1, 1, 0, 0] (bodyOf Try.f41)), .blk 2, .code (ct [1, 1, 1, 1, 1, 1, 1, 1, 1] (bodyOf Try.f41))] (gabionref14_Take_l2_I B0 x0 x7 x11 x12 x13) L :=
  iter_ok (I := fun s => gabionref14_Take_l2_I B0 x0 x7 s.1 s.2.1 s.2.2) (D := fun e => (∀ s, e = s → WXI Try.prog 116 n0 (Fin Try.prog Try.f41.results.toList n0 Q) [.code (ct [1, 1, 1, 1, 1, 1, 1, 1, 1] (bodyOf Try.f41))] (gabionref14_Take_l2_X0 B0 x0 s) L)) (fun E hn hx s o ho hE => gabionref14_Take_l2_s ho hn (fun s hs => (hx _ hs) _ rfl)  hE) h g0
theorem gabionref14_Take_ok {B0 : Kn} {L : Own} {a0 : List Bool} {a1 : Int} {v0_0 : AV} {r : (List Bool) × (List (Int × Int)) × Int} (g0_0 : RSl Ty.bool B0 v0_0 a0) (h : gabionref14_Take a0 a1 = some r) : ∀ st, Hp B0 L st → ASpec Try.prog 41 [v0_0, .int .i64 a1] st (gabionref14_Take_P B0 L r) := by
  unfold gabionref14_Take at h
  refine bodyA (A := []) Try.func41 rfl (c := bodyOf Try.f41) rfl Try.ntmps41 (lb rfl) fun n0 => ?_
  have hB := KLe.refl B0
  obtain ⟨_, _, _, _, _, rfl⟩ := g0_0.isl
  refine WX.seq ?_
  refine WX.reg ?_
  refine WO.q (.as (v := .sl _ _ _ _ _ _) rfl) rfl rfl ?_
  refine WO.q (.as (v := .sl _ _ _ _ _ _) rfl) rfl rfl ?_
  refine WO.q (.as (v := .int _ _) rfl) rfl rfl ?_
  refine WO.nil ?_
  refine WX.seq ?_
  refine WX.seq ?_
  refine WX.reg ?_
  refine WO.q (.mv (v := .int _ _) rfl) rfl rfl ?_
  refine WO.q (.r fun _ => rfl) rfl rfl ?_
  refine WO.nil ?_
  rcases bsp (decide (a1 < 1)) with k1 | k1
  · have q_k1 := of_decide_eq_true k1
    replace h := (if_pos q_k1).symm.trans h
    refine WX.condT rfl k1 ?_
    refine WX.seq ?_
    refine WX.reg ?_
    refine WO.q (.as (v := .sl _ _ _ _ _ _) rfl) rfl rfl ?_
    refine WO.q (.as (v := .sl _ _ _ _ _ _) rfl) rfl rfl ?_
    refine WO.q (.as (v := .int _ _) rfl) rfl rfl ?_
    refine WO.nil ?_
    obtain rfl := Option.some.inj h
    exact WX.ret (rs_ (rs_tmp rfl (rs_tmp rfl (rs_tmp rfl rs_nil)))) fun st hp => ⟨_, _, hB, ((hp.pk [] (by decide)).skip 0), .sl 0 0 0 0 0 true, _, 0, true, [], rfl, (RSl.nil _ _), rfl, OSl.none _ _⟩
  · have q_k1 := of_decide_eq_false k1
    replace h := (if_neg q_k1).symm.trans h
    refine WX.condF rfl k1 ?_
    refine WX.skip ?_
    refine WX.seq ?_
    refine WX.reg ?_
    refine WO.q (.mv (v := .sl _ _ _ _ _ _) rfl) rfl rfl ?_
    obtain ⟨y2, hy2, h⟩ := Option.bind_eq_some_iff.1 h
    refine WO.c1 rfl rfl (gabionref14_Extents_ok g0_0 hy2) rfl rfl rfl ?_
    rintro _ B _ hK ⟨v3, b4, n5, c6, rfl, rfl, h7⟩
    obtain ⟨_, _, _, _, _, rfl⟩ := h7.isl
    replace g0_0 := g0_0.up hK
    replace hB := hB.trans hK
    refine WO.q (.as (v := .sl _ _ _ _ _ _) rfl) rfl rfl ?_
    refine WO.nil ?_
    refine WX.seq ?_
    refine WX.reg ?_
    refine WO.q (.as (v := .int _ _) rfl) rfl rfl ?_
    refine WO.nil ?_
    refine WX.seq ?_
    refine WX.reg ?_
    refine WO.q (.as (v := .int _ _) rfl) rfl rfl ?_
    refine WO.nil ?_
    refine WX.seq ?_
    refine WX.seq ?_
    refine WX.reg ?_
    refine WO.q (.as (v := .int _ _) rfl) rfl rfl ?_
    refine WO.nil ?_
    refine WX.block ?_
    refine WX.loop ?_
    obtain ⟨e21, he21, h⟩ := Option.bind_eq_some_iff.1 h
    refine WX.keep [0, 1, 7, 8, 9, 10] (WX.pk [0] (by decide) ?_) rfl
    refine gabionref14_Take_l0_ok he21 ?_ _ _ _ ⟨hB, _, _, _, n5, _, g0_0, h7, rfl, rfl⟩
    · intro s86 he_
      subst he_
      replace h := h
      rintro _ B _ ⟨hB, v22, v23, b23, n23, c23, h22, h23, rfl, rfl⟩
      obtain ⟨_, _, _, _, _, rfl⟩ := h22.isl
      obtain ⟨_, _, _, _, _, rfl⟩ := h23.isl
      refine WX.seq ?_
      refine WX.seq ?_
      refine WX.reg ?_
      refine WO.q (.mv (v := .int _ _) rfl) rfl rfl ?_
      refine WO.q (.mv (v := .int _ _) rfl) rfl rfl ?_
      refine WO.q (.r fun _ => rfl) rfl rfl ?_
      refine WO.nil ?_
      rcases bsp (decide (e21.1 < a1)) with k24 | k24
      · have q_k24 := of_decide_eq_true k24
        replace h := (if_pos q_k24).symm.trans h
        refine WX.condT rfl k24 ?_
        refine WX.seq ?_
        refine WX.reg ?_
        refine WO.q (.as (v := .sl _ _ _ _ _ _) rfl) rfl rfl ?_
        refine WO.q (.as (v := .sl _ _ _ _ _ _) rfl) rfl rfl ?_
        refine WO.q (.as (v := .int _ _) rfl) rfl rfl ?_
        refine WO.nil ?_
        obtain rfl := Option.some.inj h
        exact WX.ret (rs_ (rs_tmp rfl (rs_tmp rfl (rs_tmp rfl rs_nil)))) fun st hp => ⟨_, _, hB, ((hp.pk [] (by decide)).skip 0), .sl 0 0 0 0 0 true, _, 0, true, [], rfl, (RSl.nil _ _), rfl, OSl.none _ _⟩
      · have q_k24 := of_decide_eq_false k24
        replace h := (if_neg q_k24).symm.trans h
        refine WX.condF rfl k24 ?_
        refine WX.skip ?_
        refine WX.seq ?_
        refine WX.reg ?_
        refine WO.q (.as (v := .sl _ _ _ _ _ _) rfl) rfl rfl ?_
        refine WO.nil ?_
        refine WX.seq ?_
        refine WX.seq ?_
        refine WX.reg ?_
        refine WO.q (.mv (v := .int _ _) rfl) rfl rfl ?_
        refine WO.q (.r fun _ => rfl) rfl rfl ?_
        refine WO.nil ?_
        rcases bsp (decide (0 ≤ e21.2)) with k25 | k25
        · have q_k25 := of_decide_eq_true k25
          replace h := (if_pos q_k25).symm.trans h
          refine WX.condT rfl k25 ?_
          refine WX.reg ?_
          refine WO.q (.mv (v := .sl _ _ _ _ _ _) rfl) rfl rfl ?_
          refine WO.q (.mv (v := .sl _ _ _ _ _ _) rfl) rfl rfl ?_
          refine WO.q (.mv (v := .int _ _) rfl) rfl rfl ?_
          obtain ⟨y26, hy26, h⟩ := Option.bind_eq_some_iff.1 h
          obtain rfl := h23.nonnil hy26
          obtain ⟨_, i_y26, l_y26, r_y26⟩ := h23.at sl40 hy26 .i64
          obtain ⟨_, _, rfl, rfl, rfl⟩ := r_y26
          refine WO.q (.ia i_y26) rfl rfl ?_
          refine WO.q (.ia (ia41_0 _ _)) rfl rfl ?_
          refine WO.q (.ldS (i := 0) rfl rfl (l_y26.g rfl) ti3 rfl) rfl rfl ?_
          refine WO.q (.mv (v := .int _ _) rfl) rfl rfl ?_
          refine WO.q (.bd (bd41_0_1 (cI rfl) (cI rfl))) rfl rfl ?_
          refine WO.md (MOp.bs (l := ([(y26.1, a1)] : List (Int × Int))) sl40 (RL.cons (Rp Ri Ri) RL.nil) (lb rfl) rfl rfl) rfl rfl ?_
          rintro v29 _ ⟨b27, o28, rfl⟩
          obtain ⟨_, _, _, _, _, rfl⟩ := o28.isl
          refine WO.addn ?_
          obtain ⟨y32, hy32, h⟩ := Option.bind_eq_some_iff.1 h
          refine WO.md (MOp.app rfl rfl rfl sl40 (OSl.none EPIi64Ii64Q _) (Src.o (i := 1) sl40 o28 rfl) hy32 rfl rfl (fun _ => .h)) rfl rfl ?_
          rintro v36 _ ⟨b33, n34, o35, rfl⟩
          obtain ⟨_, _, _, _, _, rfl⟩ := o35.isl
          refine WO.q (.as (v := .sl _ _ _ _ _ _) rfl) rfl rfl ?_
          refine WO.nil ?_
          refine WX.keep [0, 11] (WX.pk [0] (by decide) ?_) rfl
          exact gabionref14_Take_j17_ok h _ _ _ ⟨hB, _, _, _, n34, _, h22, o35, rfl, rfl⟩
        · have q_k25 := of_decide_eq_false k25
          replace h := (if_neg q_k25).symm.trans h
          refine WX.condF rfl k25 ?_
          refine WX.seq ?_
          refine WX.reg ?_
          refine WO.q (.mv (v := .int _ _) rfl) rfl rfl ?_
          refine WO.q (.as (v := .int _ _) rfl) rfl rfl ?_
          refine WO.nil ?_
          refine WX.seq ?_
          refine WX.reg ?_
          refine WO.q (.as (v := .int _ _) rfl) rfl rfl ?_
          refine WO.nil ?_
          refine WX.block ?_
          refine WX.loop ?_
          obtain ⟨e82, he82, h⟩ := Option.bind_eq_some_iff.1 h
          refine WX.keep [0, 7, 11, 12, 13] (WX.pk [0] (by decide) (WX.addn [1] ?_)) rfl
          refine gabionref14_Take_l2_ok he82 ?_ _ _ _ ⟨hB, _, _, _, n23, _, _, 0, true, [], h22, h23, OSl.none _ _, rfl, rfl⟩
          · intro s85 he_
            subst he_
            replace h := h
            rintro _ B _ ⟨hB, v83, v84, b84, n84, c84, h83, h84, rfl, rfl⟩
            obtain ⟨_, _, _, _, _, rfl⟩ := h83.isl
            obtain ⟨_, _, _, _, _, rfl⟩ := h84.isl
            refine WX.keep [0, 11] (WX.pk [0] (by decide) ?_) rfl
            exact gabionref14_Take_j17_ok h _ _ _ ⟨hB, _, _, _, n84, _, h83, h84, rfl, rfl⟩
end Gab
