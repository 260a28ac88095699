/- The Go code comes to what the Lean functions say. Written by a program (gp.py). -/
import Derived.Test.YtcdldgoehoopmaaDoorFd
import Derived.Test.YtcdldgoehoopmaaDoorTy
import Derived.Test.YtcdldgoehoopmaaDoorFpRef010
set_option linter.unusedSimpArgs false
set_option linter.unusedVariables false
set_option maxHeartbeats 4000000
set_option maxRecDepth 100000
namespace Gab
open Go Go.Proofs
def gabionref02_bits_P (B : Kn) (L : Own) (r : (List Int)) : AV → St → Prop := C1 B L fun B' v e0 => ∃ w0 b0 n0 c0, v = w0 ∧ e0 = oe b0 n0 c0 ∧ OSl (Ty.int .i64) B' w0 b0 n0 c0 r
def gabionref02_bits_j10_I (B0 : Kn) (x0 : List UInt8) (x1 : Bool) (x5 : List Int) (x6 : Int) (x7 : Int) (x8 : Int) : Fr → Kn → Own → Prop := fun fr B A => KLe B0 B ∧ ∃ v6 b6 n6 c6, OSl (Ty.int .i64) B v6 b6 n6 c6 x5 ∧ fr = [(0, .str x0), (1, .bool x1), (5, v6), (6, .int .i64 x6), (7, .int .i64 x7), (8, .int .i64 x8)] ∧ A = [oe b6 n6 c6]
def gabionref02_bits_l1_I (B0 : Kn) (x0 : List UInt8) (x1 : Bool) (x5 : List Int) (x6 : Int) (x7 : Int) : Fr → Kn → Own → Prop := fun fr B A => KLe B0 B ∧ ∃ v3 b3 n3 c3, OSl (Ty.int .i64) B v3 b3 n3 c3 x5 ∧ fr = [(0, .str x0), (1, .bool x1), (5, v3), (6, .int .i64 x6), (7, .int .i64 x7)] ∧ A = [oe b3 n3 c3]
def gabionref02_bits_l1_X0 (B0 : Kn) (x0 : List UInt8) (x1 : Bool) (x5 : List Int) (x6 : Int) : Fr → Kn → Own → Prop := fun fr B A => KLe B0 B ∧ ∃ v26 b26 n26 c26, OSl (Ty.int .i64) B v26 b26 n26 c26 x5 ∧ fr = [(0, .str x0), (1, .bool x1), (5, v26), (6, .int .i64 x6)] ∧ A = [oe b26 n26 c26]
def gabionref02_bits_l0_I (B0 : Kn) (x0 : List UInt8) (x1 : Bool) (x5 : List Int) (x6 : Int) : Fr → Kn → Own → Prop := fun fr B A => KLe B0 B ∧ ∃ v1 b1 n1 c1, OSl (Ty.int .i64) B v1 b1 n1 c1 x5 ∧ fr = [(0, .str x0), (1, .bool x1), (5, v1), (6, .int .i64 x6)] ∧ A = [oe b1 n1 c1]
def gabionref02_bits_l0_X0 (B0 : Kn) (x5 : List Int) : Fr → Kn → Own → Prop := fun fr B A => KLe B0 B ∧ ∃ v27 b27 n27 c27, OSl (Ty.int .i64) B v27 b27 n27 c27 x5 ∧ fr = [(5, v27)] ∧ A = [oe b27 n27 c27]
theorem gabionref02_bits_j10_ok {B0 : Kn} {L : Own} {n0 : Nat} {x0 : List UInt8} {x1 : Bool} {x5 : List Int} {x6 : Int} {x7 : Int} {x8 : Int} {Q : AV → St → Prop} {E : ((List Int) × Int × Int) ⊕ ((List Int) × Int) → Prop} {o : ((List Int) × Int × Int) ⊕ ((List Int) × Int)} (h : gabionref02_bits_j10 x0 x1 x5 x6 x7 x8 = some o) (hn : ∀ s, E (.inl s) → WXI Tryd.prog 36 n0 (Fin Tryd.prog Tryd.f62.results.toList n0 Q) [.lp (ct [1, 1, 0, 1, 0, 0, 1, 0, 0, 1, 0, 0] (bodyOf Tryd.f62)), .blk 2, .blk 1, .code (ct [1, 1, 0, 1, 0, 0, 1, 1] (bodyOf Tryd.f62)), .lp (ct [1, 1, 0, 1, 0, 0] (bodyOf Tryd.f62)), .blk 0, .code (ct [1, 1, 1] (bodyOf Tryd.f62))] (gabionref02_bits_l1_I B0 x0 x1 s.1 s.2.1 s.2.2) L) (hx0 : ∀ s, E (.inr s) → WXI Tryd.prog 36 n0 (Fin Tryd.prog Tryd.f62.results.toList n0 Q) [.code (ct [1, 1, 0, 1, 0, 0, 1, 1] (bodyOf Tryd.f62)), .lp (ct [1, 1, 0, 1, 0, 0] (bodyOf Tryd.f62)), .blk 0, .code (ct [1, 1, 1] (bodyOf Tryd.f62))] (gabionref02_bits_l1_X0 B0 x0 x1 s.1 s.2) L) (hE : E o) : WXI Tryd.prog 36 n0 (Fin Tryd.prog Tryd.f62.results.toList n0 Q) [.code (ct [1, 1, 0, 1, 0, 0, 1, 0, 0, 1, 0, 0, 1, 0, 0, 1, 1] (bodyOf Tryd.f62)), .blk 3, .code (ct [1, 1, 0, 1, 0, 0, 1, 0, 0, 1, 0, 0, 1, 1] (bodyOf Tryd.f62)), .lp (ct [1, 1, 0, 1, 0, 0, 1, 0, 0, 1, 0, 0] (bodyOf Tryd.f62)), .blk 2, .blk 1, .code (ct [1, 1, 0, 1, 0, 0, 1, 1] (bodyOf Tryd.f62)), .lp (ct [1, 1, 0, 1, 0, 0] (bodyOf Tryd.f62)), .blk 0, .code (ct [1, 1, 1] (bodyOf Tryd.f62))] (gabionref02_bits_j10_I B0 x0 x1 x5 x6 x7 x8) L := by
  unfold gabionref02_bits_j10 at h
  rintro _ B _ ⟨hB, v6, b6, n6, c6, h6, rfl, rfl⟩
  obtain ⟨_, _, _, _, _, rfl⟩ := h6.isl
  refine WX.seq ?_
  refine WX.reg ?_
  refine WO.q (.mv (v := .str _) rfl) rfl rfl ?_
  refine WO.q (.mv (v := .int _ _) rfl) rfl rfl ?_
  obtain ⟨y7, hy7, h⟩ := Option.bind_eq_some_iff.1 h
  refine WO.q (.ix (evsix ti9 rfl hy7 _)) rfl rfl ?_
  refine WO.q (cvI ti5 ti76 rfl rfl) rfl rfl ?_
  refine WO.q (.mv (v := .int _ _) rfl) rfl rfl ?_
  obtain ⟨y8, hy8, h⟩ := Option.bind_eq_some_iff.1 h
  refine WO.cS rfl rfl (gabionref01_Field_ok hy8) rfl rfl rfl ?_
  rintro _ rfl
  refine WO.q (.as (v := .int _ _) rfl) rfl rfl ?_
  refine WO.nil ?_
  refine WX.reg ?_
  refine WO.q (.mv (v := .sl _ _ _ _ _ _) rfl) rfl rfl ?_
  refine WO.q (.mv (v := .int _ _) rfl) rfl rfl ?_
  refine WO.q (cvI ti76 ti3 rfl rfl) rfl rfl ?_
  refine WO.md (MOp.bs (l := ([(wi64 y8)] : List Int)) sl32 (RL.cons Ri RL.nil) (lb rfl) rfl rfl) rfl rfl ?_
  rintro v11 _ ⟨b9, o10, rfl⟩
  obtain ⟨_, _, _, _, _, rfl⟩ := o10.isl
  obtain ⟨y13, hy13, h⟩ := Option.bind_eq_some_iff.1 h
  refine WO.md (MOp.app rfl rfl rfl sl32 h6 (Src.o (i := 0) sl32 o10 rfl) hy13 rfl rfl (fun _ => (.t .h))) rfl rfl ?_
  rintro v17 _ ⟨b14, n15, o16, rfl⟩
  obtain ⟨_, _, _, _, _, rfl⟩ := o16.isl
  refine WO.q (.as (v := .sl _ _ _ _ _ _) rfl) rfl rfl ?_
  refine WO.nil ?_
  refine WX.pop ?_
  refine WX.reg ?_
  refine WO.q (.mv (v := .int _ _) rfl) rfl rfl ?_
  refine WO.q (.r fun _ => rfl) rfl rfl ?_
  refine WO.q (.as (v := .int _ _) rfl) rfl rfl ?_
  refine WO.nil ?_
  refine WX.keepL [0, 1, 5, 6, 7] (WX.pk [1] (by decide) ?_) rfl
  obtain rfl := Option.some.inj h
  exact hn _ hE _ _ _ ⟨hB, _, _, n15, _, o16, rfl, rfl⟩
theorem gabionref02_bits_l1_s {B0 : Kn} {L : Own} {n0 : Nat} {x0 : List UInt8} {x1 : Bool} {x5 : List Int} {x6 : Int} {x7 : Int} {Q : AV → St → Prop} {E : ((List Int) × Int × Int) ⊕ ((List Int) × Int) → Prop} {o : ((List Int) × Int × Int) ⊕ ((List Int) × Int)} (h : gabionref02_bits_l1 x0 x1 x5 x6 x7 = some o) (hn : ∀ s, E (.inl s) → WXI Tryd.prog 36 n0 (Fin Tryd.prog Tryd.f62.results.toList n0 Q) [.lp (ct [1, 1, 0, 1, 0, 0, 1, 0, 0, 1, 0, 0] (bodyOf Tryd.f62)), .blk 2, .blk 1, .code (ct [1, 1, 0, 1, 0, 0, 1, 1] (bodyOf Tryd.f62)), .lp (ct [1, 1, 0, 1, 0, 0] (bodyOf Tryd.f62)), .blk 0, .code (ct [1, 1, 1] (bodyOf Tryd.f62))] (gabionref02_bits_l1_I B0 x0 x1 s.1 s.2.1 s.2.2) L) (hx0 : ∀ s, E (.inr s) → WXI Tryd.prog 36 n0 (Fin Tryd.prog Tryd.f62.results.toList n0 Q) [.code (ct [1, 1, 0, 1, 0, 0, 1, 1] (bodyOf Tryd.f62)), .lp (ct [1, 1, 0, 1, 0, 0] (bodyOf Tryd.f62)), .blk 0, .code (ct [1, 1, 1] (bodyOf Tryd.f62))] (gabionref02_bits_l1_X0 B0 x0 x1 s.1 s.2) L) (hE : E o) : WXI Tryd.prog 36 n0 (Fin Tryd.prog Tryd.f62.results.toList n0 Q) [.code (ct [1, 1, 0, 1, 0, 0, 1, 0, 0, 1, 0, 0] (bodyOf Tryd.f62)), .lp (ct [1, 1, 0, 1, 0, 0, 1, 0, 0, 1, 0, 0] (bodyOf Tryd.f62)), .blk 2, .blk 1, .code (ct [1, 1, 0, 1, 0, 0, 1, 1] (bodyOf Tryd.f62)), .lp (ct [1, 1, 0, 1, 0, 0] (bodyOf Tryd.f62)), .blk 0, .code (ct [1, 1, 1] (bodyOf Tryd.f62))] (gabionref02_bits_l1_I B0 x0 x1 x5 x6 x7) L := by
  unfold gabionref02_bits_l1 at h
  rintro _ B _ ⟨hB, v3, b3, n3, c3, h3, rfl, rfl⟩
  obtain ⟨_, _, _, _, _, rfl⟩ := h3.isl
  refine WX.seq ?_
  refine WX.seq ?_
  refine WX.reg ?_
  refine WO.q (.mv (v := .int _ _) rfl) rfl rfl ?_
  refine WO.q (.r fun _ => rfl) rfl rfl ?_
  refine WO.nil ?_
  rcases bsp (decide (x7 < 8)) with k4 | k4
  · have q_k4 := of_decide_eq_true k4
    replace h := (if_pos q_k4).symm.trans h
    refine WX.condT rfl k4 ?_
    refine WX.skip ?_
    refine WX.seq ?_
    refine WX.block ?_
    refine WX.seq ?_
    refine WX.reg ?_
    refine WO.q (.mv (v := .int _ _) rfl) rfl rfl ?_
    refine WO.q (.r fun _ => rfl) rfl rfl ?_
    refine WO.q (.as (v := .int _ _) rfl) rfl rfl ?_
    refine WO.nil ?_
    refine WX.seq ?_
    refine WX.seq ?_
    refine WX.reg ?_
    refine WO.q (.mv (v := .bool _) rfl) rfl rfl ?_
    refine WO.nil ?_
    rcases bsp x1 with k5 | k5
    · replace h := (if_pos k5).symm.trans h
      refine WX.condT rfl k5 ?_
      refine WX.reg ?_
      refine WO.q (.mv (v := .int _ _) rfl) rfl rfl ?_
      refine WO.q (.as (v := .int _ _) rfl) rfl rfl ?_
      refine WO.nil ?_
      refine WX.keep [0, 1, 5, 6, 7, 8] (WX.pk [0] (by decide) ?_) rfl
      exact gabionref02_bits_j10_ok h hn hx0 hE _ _ _ ⟨hB, _, _, n3, _, h3, rfl, rfl⟩
    · replace h := (if_neg (bnt k5)).symm.trans h
      refine WX.condF rfl k5 ?_
      refine WX.skip ?_
      refine WX.keep [0, 1, 5, 6, 7, 8] (WX.pk [0] (by decide) ?_) rfl
      exact gabionref02_bits_j10_ok h hn hx0 hE _ _ _ ⟨hB, _, _, n3, _, h3, rfl, rfl⟩
  · have q_k4 := of_decide_eq_false k4
    replace h := (if_neg q_k4).symm.trans h
    refine WX.condF rfl k4 ?_
    refine WX.exit rfl ?_
    refine WX.pop ?_
    refine WX.keep [0, 1, 5, 6] (WX.pk [0] (by decide) ?_) rfl
    obtain rfl := Option.some.inj h
    exact hx0 _ hE _ _ _ ⟨hB, _, _, n3, _, h3, rfl, rfl⟩
theorem gabionref02_bits_l1_ok {B0 : Kn} {L : Own} {n0 : Nat} {x0 : List UInt8} {x1 : Bool} {x5 : List Int} {x6 : Int} {x7 : Int} {Q : AV → St → Prop} {d : Nat} {e : ((List Int) × Int)} (h : iter (fun (s : (List Int) × Int × Int) => gabionref02_bits_l1 x0 x1 s.1 s.2.1 s.2.2) d (x5, x6, x7) = some e) (g0 : ∀ s, e = s → WXI Tryd.prog 36 n0 (Fin Tryd.prog Tryd.f62.results.toList n0 Q) [.code (ct [1, 1, 0, 1, 0, 0, 1, 1] (bodyOf Tryd.f62)), .lp (ct [1, 1, 0, 1, 0, 0] (bodyOf Tryd.f62)), .blk 0, .code (ct [1, 1, 1] (bodyOf Tryd.f62))] (gabionref02_bits_l1_X0 B0 x0 x1 s.1 s.2) L) : WXI Tryd.prog 36 n0 (Fin Tryd.prog Tryd.f62.results.toList n0 Q) [.code (ct [1, 1, 0, 1, 0, 0, 1, 0, 0, 1, 0, 0] (bodyOf Tryd.f62)), .lp (ct [1, 1, 0, 1, 0, 0, 1, 0, 0, 1, 0, 0] (bodyOf Tryd.f62)), .blk 2, .blk 1, .code (ct [1, 1, 0, 1, 0, 0, 1, 1] (bodyOf Tryd.f62)), .lp (ct [1, 1, 0, 1, 0, 0] (bodyOf Tryd.f62)), .blk 0, .code (ct [1, 1, 1] (bodyOf Tryd.f62))] (gabionref02_bits_l1_I B0 x0 x1 x5 x6 x7) L :=
  iter_ok (I := fun s => gabionref02_bits_l1_I B0 x0 x1 s.1 s.2.1 s.2.2) (D := fun e => (∀ s, e = s → WXI Tryd.prog 36 n0 (Fin Tryd.prog Tryd.f62.results.toList n0 Q) [.code (ct [1, 1, 0, 1, 0, 0, 1, 1] (bodyOf Tryd.f62)), .lp (ct [1, 1, 0, 1, 0, 0] (bodyOf Tryd.f62)), .blk 0, .code (ct [1, 1, 1] (bodyOf Tryd.f62))] (gabionref02_bits_l1_X0 B0 x0 x1 s.1 s.2) L)) (fun E hn hx s o ho hE => gabionref02_bits_l1_s (x5 := s.1) (x6 := s.2.1) (x7 := s.2.2) ho hn (fun s hs => (hx _ hs) _ rfl)  hE) h g0
theorem gabionref02_bits_l0_s {B0 : Kn} {L : Own} {n0 : Nat} {x0 : List UInt8} {x1 : Bool} {x5 : List Int} {x6 : Int} {Q : AV → St → Prop} {E : ((List Int) × Int) ⊕ (List Int) → Prop} {o : ((List Int) × Int) ⊕ (List Int)} (h : gabionref02_bits_l0 x0 x1 x5 x6 = some o) (hn : ∀ s, E (.inl s) → WXI Tryd.prog 36 n0 (Fin Tryd.prog Tryd.f62.results.toList n0 Q) [.lp (ct [1, 1, 0, 1, 0, 0] (bodyOf Tryd.f62)), .blk 0, .code (ct [1, 1, 1] (bodyOf Tryd.f62))] (gabionref02_bits_l0_I B0 x0 x1 s.1 s.2) L) (hx0 : ∀ s, E (.inr s) → WXI Tryd.prog 36 n0 (Fin Tryd.prog Tryd.f62.results.toList n0 Q) [.code (ct [1, 1, 1] (bodyOf Tryd.f62))] (gabionref02_bits_l0_X0 B0 s) L) (hE : E o) : WXI Tryd.prog 36 n0 (Fin Tryd.prog Tryd.f62.results.toList n0 Q) [.code (ct [1, 1, 0, 1, 0, 0] (bodyOf Tryd.f62)), .lp (ct [1, 1, 0, 1, 0, 0] (bodyOf Tryd.f62)), .blk 0, .code (ct [1, 1, 1] (bodyOf Tryd.f62))] (gabionref02_bits_l0_I B0 x0 x1 x5 x6) L := by
  unfold gabionref02_bits_l0 at h
  rintro _ B _ ⟨hB, v1, b1, n1, c1, h1, rfl, rfl⟩
  obtain ⟨_, _, _, _, _, rfl⟩ := h1.isl
  refine WX.seq ?_
  refine WX.seq ?_
  refine WX.reg ?_
  refine WO.q (.mv (v := .int _ _) rfl) rfl rfl ?_
  refine WO.q (.mv (v := .str _) rfl) rfl rfl ?_
  refine WO.q (.len rfl rfl rfl (evslen ti9 rfl _)) rfl rfl ?_
  refine WO.q (.r fun _ => rfl) rfl rfl ?_
  refine WO.nil ?_
  rcases bsp (decide (x6 < (x0.length : Int))) with k2 | k2
  · have q_k2 := of_decide_eq_true k2
    replace h := (if_pos q_k2).symm.trans h
    refine WX.condT rfl k2 ?_
    refine WX.skip ?_
    refine WX.seq ?_
    refine WX.block ?_
    refine WX.seq ?_
    refine WX.reg ?_
    refine WO.q (.as (v := .int _ _) rfl) rfl rfl ?_
    refine WO.nil ?_
    refine WX.block ?_
    refine WX.loop ?_
    obtain ⟨e19, he19, h⟩ := Option.bind_eq_some_iff.1 h
    refine WX.keep [0, 1, 5, 6, 7] (WX.pk [0] (by decide) ?_) rfl
    refine gabionref02_bits_l1_ok he19 ?_ _ _ _ ⟨hB, _, _, n1, _, h1, rfl, rfl⟩
    · intro s21 he_
      subst he_
      replace h := h
      rintro _ B _ ⟨hB, v20, b20, n20, c20, h20, rfl, rfl⟩
      obtain ⟨_, _, _, _, _, rfl⟩ := h20.isl
      refine WX.reg ?_
      refine WO.q (.mv (v := .int _ _) rfl) rfl rfl ?_
      refine WO.q (.r fun _ => rfl) rfl rfl ?_
      refine WO.q (.as (v := .int _ _) rfl) rfl rfl ?_
      refine WO.nil ?_
      refine WX.keepL [0, 1, 5, 6] (WX.pk [0] (by decide) ?_) rfl
      obtain rfl := Option.some.inj h
      exact hn _ hE _ _ _ ⟨hB, _, _, n20, _, h20, rfl, rfl⟩
  · have q_k2 := of_decide_eq_false k2
    replace h := (if_neg q_k2).symm.trans h
    refine WX.condF rfl k2 ?_
    refine WX.exit rfl ?_
    refine WX.keep [5] (WX.pk [0] (by decide) ?_) rfl
    obtain rfl := Option.some.inj h
    exact hx0 _ hE _ _ _ ⟨hB, _, _, n1, _, h1, rfl, rfl⟩
theorem gabionref02_bits_l0_ok {B0 : Kn} {L : Own} {n0 : Nat} {x0 : List UInt8} {x1 : Bool} {x5 : List Int} {x6 : Int} {Q : AV → St → Prop} {d : Nat} {e : (List Int)} (h : iter (fun (s : (List Int) × Int) => gabionref02_bits_l0 x0 x1 s.1 s.2) d (x5, x6) = some e) (g0 : ∀ s, e = s → WXI Tryd.prog 36 n0 (Fin Tryd.prog Tryd.f62.results.toList n0 Q) [.code (ct [1, 1, 1] (bodyOf Tryd.f62))] (gabionref02_bits_l0_X0 B0 s) L) : WXI Tryd.prog 36 n0 (Fin Tryd.prog Tryd.f62.results.toList n0 Q) [.code (ct [1, 1, 0, 1, 0, 0] (bodyOf Tryd.f62)), .lp (ct [1, 1, 0, 1, 0, 0] (bodyOf Tryd.f62)), .blk 0, .code (ct [1, 1, 1] (bodyOf Tryd.f62))] (gabionref02_bits_l0_I B0 x0 x1 x5 x6) L :=
  iter_ok (I := fun s => gabionref02_bits_l0_I B0 x0 x1 s.1 s.2) (D := fun e => (∀ s, e = s → WXI Tryd.prog 36 n0 (Fin Tryd.prog Tryd.f62.results.toList n0 Q) [.code (ct [1, 1, 1] (bodyOf Tryd.f62))] (gabionref02_bits_l0_X0 B0 s) L)) (fun E hn hx s o ho hE => gabionref02_bits_l0_s (x5 := s.1) (x6 := s.2) ho hn (fun s hs => (hx _ hs) _ rfl)  hE) h g0
theorem gabionref02_bits_ok {B0 : Kn} {L : Own} {a0 : List UInt8} {a1 : Bool} {r : (List Int)} (h : gabionref02_bits a0 a1 = some r) : ∀ st, Hp B0 L st → ASpec Tryd.prog 62 [.str a0, .bool a1] st (gabionref02_bits_P B0 L r) := by
  unfold gabionref02_bits at h
  refine bodyA (A := []) Tryd.func62 rfl (c := bodyOf Tryd.f62) rfl Tryd.ntmps62 (lb rfl) fun n0 => ?_
  have hB := KLe.refl B0
  refine WX.seq ?_
  refine WX.reg ?_
  refine WO.q (.as (v := .sl _ _ _ _ _ _) rfl) rfl rfl ?_
  refine WO.nil ?_
  refine WX.seq ?_
  refine WX.reg ?_
  refine WO.q (.as (v := .sl _ _ _ _ _ _) rfl) rfl rfl ?_
  refine WO.nil ?_
  refine WX.seq ?_
  refine WX.seq ?_
  refine WX.reg ?_
  refine WO.q (.as (v := .int _ _) rfl) rfl rfl ?_
  refine WO.nil ?_
  refine WX.block ?_
  refine WX.loop ?_
  obtain ⟨e23, he23, h⟩ := Option.bind_eq_some_iff.1 h
  refine WX.keep [0, 1, 5, 6] (WX.pk [] (by decide) (WX.addn [0] ?_)) rfl
  refine gabionref02_bits_l0_ok he23 ?_ _ _ _ ⟨hB, _, 0, true, [], OSl.none _ _, rfl, rfl⟩
  · intro s25 he_
    subst he_
    replace h := h
    rintro _ B _ ⟨hB, v24, b24, n24, c24, h24, rfl, rfl⟩
    obtain ⟨_, _, _, _, _, rfl⟩ := h24.isl
    refine WX.seq ?_
    refine WX.reg ?_
    refine WO.q (.mv (v := .sl _ _ _ _ _ _) rfl) rfl rfl ?_
    refine WO.q (.as (v := .sl _ _ _ _ _ _) rfl) rfl rfl ?_
    refine WO.nil ?_
    obtain rfl := Option.some.inj h
    exact WX.ret (rs_ (rs_tmp rfl rs_nil)) fun st hp => ⟨_, _, hB, (hp.pk [0] (by decide)), _, _, n24, _, rfl, rfl, h24⟩
def gabionref02_Sum_P (B : Kn) (L : Own) (r : (List Int)) : AV → St → Prop := C1 B L fun B' v e0 => ∃ w0 b0 n0 c0, v = w0 ∧ e0 = oe b0 n0 c0 ∧ OSl (Ty.int .i64) B' w0 b0 n0 c0 r
def gabionref02_Sum_l0_I (B0 : Kn) (x0 : List Int) (x1 : List Int) (x5 : List Int) (x6 : Int) : Fr → Kn → Own → Prop := fun fr B A => KLe B0 B ∧ ∃ v5 v6 v7 b7 n7 c7, RSl (Ty.int .i64) B v5 x0 ∧ RSl (Ty.int .i64) B v6 x1 ∧ OSl (Ty.int .i64) B v7 b7 n7 c7 x5 ∧ fr = [(0, v5), (1, v6), (5, v7), (6, .int .i64 x6)] ∧ A = [oe b7 n7 c7]
def gabionref02_Sum_l0_X0 (B0 : Kn) (x0 : List Int) (x1 : List Int) (x5 : List Int) : Fr → Kn → Own → Prop := fun fr B A => KLe B0 B ∧ ∃ v70 v71 v72 b72 n72 c72, RSl (Ty.int .i64) B v70 x0 ∧ RSl (Ty.int .i64) B v71 x1 ∧ OSl (Ty.int .i64) B v72 b72 n72 c72 x5 ∧ fr = [(0, v70), (1, v71), (5, v72)] ∧ A = [oe b72 n72 c72]
def gabionref02_Sum_l2_I (B0 : Kn) (x0 : List Int) (x1 : List Int) (x7 : Int) (x8 : Int) (x5 : List Int) (x9 : Int) : Fr → Kn → Own → Prop := fun fr B A => KLe B0 B ∧ ∃ v25 v26 v27 b27 n27 c27, RSl (Ty.int .i64) B v25 x0 ∧ RSl (Ty.int .i64) B v26 x1 ∧ OSl (Ty.int .i64) B v27 b27 n27 c27 x5 ∧ fr = [(0, v25), (1, v26), (5, v27), (7, .int .i64 x7), (8, .int .i64 x8), (9, .int .i64 x9)] ∧ A = [oe b27 n27 c27]
def gabionref02_Sum_l2_X0 (B0 : Kn) (x0 : List Int) (x1 : List Int) (x5 : List Int) (x7 : Int) (x8 : Int) : Fr → Kn → Own → Prop := fun fr B A => KLe B0 B ∧ ∃ v73 v74 v75 b75 n75 c75, RSl (Ty.int .i64) B v73 x0 ∧ RSl (Ty.int .i64) B v74 x1 ∧ OSl (Ty.int .i64) B v75 b75 n75 c75 x5 ∧ fr = [(0, v73), (1, v74), (5, v75), (7, .int .i64 x7), (8, .int .i64 x8)] ∧ A = [oe b75 n75 c75]
def gabionref02_Sum_j18_I (B0 : Kn) (x0 : List Int) (x1 : List Int) (x5 : List Int) (x7 : Int) (x8 : Int) (x10 : Int) (x65 : Bool) : Fr → Kn → Own → Prop := fun fr B A => KLe B0 B ∧ ∃ v47 v48 v49 b49 n49 c49, RSl (Ty.int .i64) B v47 x0 ∧ RSl (Ty.int .i64) B v48 x1 ∧ OSl (Ty.int .i64) B v49 b49 n49 c49 x5 ∧ fr = [(0, v47), (1, v48), (5, v49), (7, .int .i64 x7), (8, .int .i64 x8), (10, .int .i64 x10), (65, .bool x65)] ∧ A = [oe b49 n49 c49]
def gabionref02_Sum_l3_I (B0 : Kn) (x0 : List Int) (x1 : List Int) (x8 : Int) (x5 : List Int) (x7 : Int) (x10 : Int) : Fr → Kn → Own → Prop := fun fr B A => KLe B0 B ∧ ∃ v43 v44 v45 b45 n45 c45, RSl (Ty.int .i64) B v43 x0 ∧ RSl (Ty.int .i64) B v44 x1 ∧ OSl (Ty.int .i64) B v45 b45 n45 c45 x5 ∧ fr = [(0, v43), (1, v44), (5, v45), (7, .int .i64 x7), (8, .int .i64 x8), (10, .int .i64 x10)] ∧ A = [oe b45 n45 c45]
def gabionref02_Sum_l3_X0 (B0 : Kn) (x0 : List Int) (x1 : List Int) (x5 : List Int) (x7 : Int) : Fr → Kn → Own → Prop := fun fr B A => KLe B0 B ∧ ∃ v76 v77 v78 b78 n78 c78, RSl (Ty.int .i64) B v76 x0 ∧ RSl (Ty.int .i64) B v77 x1 ∧ OSl (Ty.int .i64) B v78 b78 n78 c78 x5 ∧ fr = [(0, v76), (1, v77), (5, v78), (7, .int .i64 x7)] ∧ A = [oe b78 n78 c78]
def gabionref02_Sum_l1_I (B0 : Kn) (x0 : List Int) (x1 : List Int) (x5 : List Int) (x7 : Int) : Fr → Kn → Own → Prop := fun fr B A => KLe B0 B ∧ ∃ v19 v20 v21 b21 n21 c21, RSl (Ty.int .i64) B v19 x0 ∧ RSl (Ty.int .i64) B v20 x1 ∧ OSl (Ty.int .i64) B v21 b21 n21 c21 x5 ∧ fr = [(0, v19), (1, v20), (5, v21), (7, .int .i64 x7)] ∧ A = [oe b21 n21 c21]
def gabionref02_Sum_l1_X0 (B0 : Kn) (x5 : List Int) : Fr → Kn → Own → Prop := fun fr B A => KLe B0 B ∧ ∃ v79 b79 n79 c79, OSl (Ty.int .i64) B v79 b79 n79 c79 x5 ∧ fr = [(5, v79)] ∧ A = [oe b79 n79 c79]
theorem gabionref02_Sum_l0_s {B0 : Kn} {L : Own} {n0 : Nat} {x0 : List Int} {x1 : List Int} {x5 : List Int} {x6 : Int} {Q : AV → St → Prop} {E : ((List Int) × Int) ⊕ (List Int) → Prop} {o : ((List Int) × Int) ⊕ (List Int)} (h : gabionref02_Sum_l0 x0 x1 x5 x6 = some o) (hn : ∀ s, E (.inl s) → WXI Tryd.prog 82 n0 (Fin Tryd.prog Tryd.f63.results.toList n0 Q) [.lp (ct [1, 1, 0, 1, 0, 0] (bodyOf Tryd.f63)), .blk 0, .code (ct [1, 1, 1] (bodyOf Tryd.f63))] (gabionref02_Sum_l0_I B0 x0 x1 s.1 s.2) L) (hx0 : ∀ s, E (.inr s) → WXI Tryd.prog 82 n0 (Fin Tryd.prog Tryd.f63.results.toList n0 Q) [.code (ct [1, 1, 1] (bodyOf Tryd.f63))] (gabionref02_Sum_l0_X0 B0 x0 x1 s) L) (hE : E o) : WXI Tryd.prog 82 n0 (Fin Tryd.prog Tryd.f63.results.toList n0 Q) [.code (ct [1, 1, 0, 1, 0, 0] (bodyOf Tryd.f63)), .lp (ct [1, 1, 0, 1, 0, 0] (bodyOf Tryd.f63)), .blk 0, .code (ct [1, 1, 1] (bodyOf Tryd.f63))] (gabionref02_Sum_l0_I B0 x0 x1 x5 x6) L := by
  unfold gabionref02_Sum_l0 at h
  rintro _ B _ ⟨hB, v5, v6, v7, b7, n7, c7, h5, h6, h7, rfl, rfl⟩
  obtain ⟨_, _, _, _, _, rfl⟩ := h5.isl
  obtain ⟨_, _, _, _, _, rfl⟩ := h6.isl
  obtain ⟨_, _, _, _, _, rfl⟩ := h7.isl
  refine WX.seq ?_
  refine WX.seq ?_
  refine WX.reg ?_
  refine WO.q (.mv (v := .int _ _) rfl) rfl rfl ?_
  refine WO.q (.mv (v := .sl _ _ _ _ _ _) rfl) rfl rfl ?_
  refine WO.q (.len rfl rfl rfl (sl32.len h7.isl)) rfl rfl ?_
  refine WO.q (.r fun _ => rfl) rfl rfl ?_
  refine WO.nil ?_
  rcases bsp (decide (x6 < (x5.length : Int))) with k8 | k8
  · have q_k8 := of_decide_eq_true k8
    replace h := (if_pos q_k8).symm.trans h
    refine WX.condT rfl k8 ?_
    refine WX.skip ?_
    refine WX.seq ?_
    refine WX.block ?_
    refine WX.reg ?_
    refine WO.q (.mv (v := .sl _ _ _ _ _ _) rfl) rfl rfl ?_
    refine WO.q (.mv (v := .int _ _) rfl) rfl rfl ?_
    obtain ⟨y9, hy9, h⟩ := Option.bind_eq_some_iff.1 h
    obtain rfl := h7.nonnil hy9
    obtain ⟨_, i_y9, l_y9, r_y9⟩ := h7.at sl32 hy9 .i64
    obtain rfl := r_y9
    refine WO.q (.ia i_y9) rfl rfl ?_
    refine WO.mn (MOp.ostW (x' := 1) rfl (cI rfl) (fun _ => .h) ti3 rfl h7 hy9 Ri) rfl ?_
    rintro _ _ ⟨c11, o10, rfl⟩
    refine WO.nil ?_
    refine WX.pop ?_
    refine WX.reg ?_
    refine WO.q (.mv (v := .int _ _) rfl) rfl rfl ?_
    refine WO.q (.r fun _ => rfl) rfl rfl ?_
    refine WO.q (.as (v := .int _ _) rfl) rfl rfl ?_
    refine WO.nil ?_
    refine WX.keepL [0, 1, 5, 6] (WX.pk [0] (by decide) ?_) rfl
    obtain rfl := Option.some.inj h
    exact hn _ hE _ _ _ ⟨hB, _, _, _, _, false, _, h5, h6, o10, rfl, rfl⟩
  · have q_k8 := of_decide_eq_false k8
    replace h := (if_neg q_k8).symm.trans h
    refine WX.condF rfl k8 ?_
    refine WX.exit rfl ?_
    refine WX.keep [0, 1, 5] (WX.pk [0] (by decide) ?_) rfl
    obtain rfl := Option.some.inj h
    exact hx0 _ hE _ _ _ ⟨hB, _, _, _, _, n7, _, h5, h6, h7, rfl, rfl⟩
theorem gabionref02_Sum_l0_ok {B0 : Kn} {L : Own} {n0 : Nat} {x0 : List Int} {x1 : List Int} {x5 : List Int} {x6 : Int} {Q : AV → St → Prop} {d : Nat} {e : (List Int)} (h : iter (fun (s : (List Int) × Int) => gabionref02_Sum_l0 x0 x1 s.1 s.2) d (x5, x6) = some e) (g0 : ∀ s, e = s → WXI Tryd.prog 82 n0 (Fin Tryd.prog Tryd.f63.results.toList n0 Q) [.code (ct [1, 1, 1] (bodyOf Tryd.f63))] (gabionref02_Sum_l0_X0 B0 x0 x1 s) L) : WXI Tryd.prog 82 n0 (Fin Tryd.prog Tryd.f63.results.toList n0 Q) [.code (ct [1, 1, 0, 1, 0, 0] (bodyOf Tryd.f63)), .lp (ct [1, 1, 0, 1, 0, 0] (bodyOf Tryd.f63)), .blk 0, .code (ct [1, 1, 1] (bodyOf Tryd.f63))] (gabionref02_Sum_l0_I B0 x0 x1 x5 x6) L :=
  iter_ok (I := fun s => gabionref02_Sum_l0_I B0 x0 x1 s.1 s.2) (D := fun e => (∀ s, e = s → WXI Tryd.prog 82 n0 (Fin Tryd.prog Tryd.f63.results.toList n0 Q) [.code (ct [1, 1, 1] (bodyOf Tryd.f63))] (gabionref02_Sum_l0_X0 B0 x0 x1 s) L)) (fun E hn hx s o ho hE => gabionref02_Sum_l0_s (x5 := s.1) (x6 := s.2) ho hn (fun s hs => (hx _ hs) _ rfl)  hE) h g0
theorem gabionref02_Sum_l2_s {B0 : Kn} {L : Own} {n0 : Nat} {x0 : List Int} {x1 : List Int} {x7 : Int} {x8 : Int} {x5 : List Int} {x9 : Int} {Q : AV → St → Prop} {E : ((List Int) × Int) ⊕ ((List Int) × Int) → Prop} {o : ((List Int) × Int) ⊕ ((List Int) × Int)} (h : gabionref02_Sum_l2 x0 x1 x7 x8 x5 x9 = some o) (hn : ∀ s, E (.inl s) → WXI Tryd.prog 82 n0 (Fin Tryd.prog Tryd.f63.results.toList n0 Q) [.lp (ct [1, 1, 1, 0, 1, 0, 0, 1, 0, 0, 1, 0, 1, 0, 0] (bodyOf Tryd.f63)), .blk 4, .code (ct [1, 1, 1, 0, 1, 0, 0, 1, 0, 0, 1, 1] (bodyOf Tryd.f63)), .blk 3, .code (ct [1, 1, 1, 0, 1, 0, 0, 1, 1] (bodyOf Tryd.f63)), .lp (ct [1, 1, 1, 0, 1, 0, 0] (bodyOf Tryd.f63)), .blk 2, .code (ct [1, 1, 1, 1] (bodyOf Tryd.f63))] (gabionref02_Sum_l2_I B0 x0 x1 x7 x8 s.1 s.2) L) (hx0 : ∀ s, E (.inr s) → WXI Tryd.prog 82 n0 (Fin Tryd.prog Tryd.f63.results.toList n0 Q) [.code (ct [1, 1, 1, 0, 1, 0, 0, 1, 0, 0, 1, 1] (bodyOf Tryd.f63)), .blk 3, .code (ct [1, 1, 1, 0, 1, 0, 0, 1, 1] (bodyOf Tryd.f63)), .lp (ct [1, 1, 1, 0, 1, 0, 0] (bodyOf Tryd.f63)), .blk 2, .code (ct [1, 1, 1, 1] (bodyOf Tryd.f63))] (gabionref02_Sum_l2_X0 B0 x0 x1 s.1 s.2 x8) L) (hE : E o) : WXI Tryd.prog 82 n0 (Fin Tryd.prog Tryd.f63.results.toList n0 Q) [.code (ct [1, 1, 1, 0, 1, 0, 0, 1, 0, 0, 1, 0, 1, 0, 0] (bodyOf Tryd.f63)), .lp (ct [1, 1, 1, 0, 1, 0, 0, 1, 0, 0, 1, 0, 1, 0, 0] (bodyOf Tryd.f63)), .blk 4, .code (ct [1, 1, 1, 0, 1, 0, 0, 1, 0, 0, 1, 1] (bodyOf Tryd.f63)), .blk 3, .code (ct [1, 1, 1, 0, 1, 0, 0, 1, 1] (bodyOf Tryd.f63)), .lp (ct [1, 1, 1, 0, 1, 0, 0] (bodyOf Tryd.f63)), .blk 2, .code (ct [1, 1, 1, 1] (bodyOf Tryd.f63))] (gabionref02_Sum_l2_I B0 x0 x1 x7 x8 x5 x9) L := by
  unfold gabionref02_Sum_l2 at h
  rintro _ B _ ⟨hB, v25, v26, v27, b27, n27, c27, h25, h26, h27, rfl, rfl⟩
  obtain ⟨_, _, _, _, _, rfl⟩ := h25.isl
  obtain ⟨_, _, _, _, _, rfl⟩ := h26.isl
  obtain ⟨_, _, _, _, _, rfl⟩ := h27.isl
  refine WX.seq ?_
  refine WX.seq ?_
  refine WX.reg ?_
  refine WO.q (.mv (v := .int _ _) rfl) rfl rfl ?_
  refine WO.q (.r fun _ => rfl) rfl rfl ?_
  refine WO.q (.mv (v := .sl _ _ _ _ _ _) rfl) rfl rfl ?_
  refine WO.q (.len rfl rfl rfl (sl32.len h27.isl)) rfl rfl ?_
  refine WO.q (.r fun _ => rfl) rfl rfl ?_
  refine WO.nil ?_
  rcases bsp (decide ((wi64 (x9 + 1)) < (x5.length : Int))) with k28 | k28
  · have q_k28 := of_decide_eq_true k28
    replace h := (if_pos q_k28).symm.trans h
    refine WX.condT rfl k28 ?_
    refine WX.skip ?_
    refine WX.seq ?_
    refine WX.block ?_
    refine WX.reg ?_
    refine WO.q (.mv (v := .sl _ _ _ _ _ _) rfl) rfl rfl ?_
    refine WO.q (.mv (v := .int _ _) rfl) rfl rfl ?_
    refine WO.q (.mv (v := .sl _ _ _ _ _ _) rfl) rfl rfl ?_
    refine WO.q (.mv (v := .int _ _) rfl) rfl rfl ?_
    refine WO.q (.r fun _ => rfl) rfl rfl ?_
    obtain ⟨y29, hy29, h⟩ := Option.bind_eq_some_iff.1 h
    obtain rfl := h27.nonnil hy29
    obtain ⟨_, i_y29, l_y29, r_y29⟩ := h27.at sl32 hy29 .i64
    obtain rfl := r_y29
    refine WO.q (.ia i_y29) rfl rfl ?_
    refine WO.q (.ldS (i := 0) rfl rfl (l_y29.g0 rfl) ti3 rfl) rfl rfl ?_
    obtain ⟨y30, hy30, h⟩ := Option.bind_eq_some_iff.1 h
    obtain ⟨_, i_y30, l_y30, r_y30⟩ := h27.at sl32 hy30 .i64
    obtain rfl := r_y30
    refine WO.q (.ia i_y30) rfl rfl ?_
    refine WO.mn (MOp.ostW (x' := y29) rfl (cI rfl) (fun _ => .h) ti3 rfl h27 hy30 Ri) rfl ?_
    rintro _ _ ⟨c32, o31, rfl⟩
    refine WO.nil ?_
    refine WX.pop ?_
    refine WX.reg ?_
    refine WO.q (.mv (v := .int _ _) rfl) rfl rfl ?_
    refine WO.q (.r fun _ => rfl) rfl rfl ?_
    refine WO.q (.as (v := .int _ _) rfl) rfl rfl ?_
    refine WO.nil ?_
    refine WX.keepL [0, 1, 5, 7, 8, 9] (WX.pk [0] (by decide) ?_) rfl
    obtain rfl := Option.some.inj h
    exact hn _ hE _ _ _ ⟨hB, _, _, _, _, false, _, h25, h26, o31, rfl, rfl⟩
  · have q_k28 := of_decide_eq_false k28
    replace h := (if_neg q_k28).symm.trans h
    refine WX.condF rfl k28 ?_
    refine WX.exit rfl ?_
    refine WX.keep [0, 1, 5, 7, 8] (WX.pk [0] (by decide) ?_) rfl
    obtain rfl := Option.some.inj h
    exact hx0 _ hE _ _ _ ⟨hB, _, _, _, _, n27, _, h25, h26, h27, rfl, rfl⟩
theorem gabionref02_Sum_l2_ok {B0 : Kn} {L : Own} {n0 : Nat} {x0 : List Int} {x1 : List Int} {x7 : Int} {x8 : Int} {x5 : List Int} {x9 : Int} {Q : AV → St → Prop} {d : Nat} {e : ((List Int) × Int)} (h : iter (fun (s : (List Int) × Int) => gabionref02_Sum_l2 x0 x1 x7 x8 s.1 s.2) d (x5, x9) = some e) (g0 : ∀ s, e = s → WXI Tryd.prog 82 n0 (Fin Tryd.prog Tryd.f63.results.toList n0 Q) [.code (ct [1, 1, 1, 0, 1, 0, 0, 1, 0, 0, 1, 1] (bodyOf Tryd.f63)), .blk 3, .code (ct [1, 1, 1, 0, 1, 0, 0, 1, 1] (bodyOf Tryd.f63)), .lp (ct [1, 1, 1, 0, 1, 0, 0] (bodyOf Tryd.f63)), .blk 2, .code (ct [1, 1, 1, 1] (bodyOf Tryd.f63))] (gabionref02_Sum_l2_X0 B0 x0 x1 s.1 s.2 x8) L) : WXI Tryd.prog 82 n0 (Fin Tryd.prog Tryd.f63.results.toList n0 Q) [.code (ct [1, 1, 1, 0, 1, 0, 0, 1, 0, 0, 1, 0, 1, 0, 0] (bodyOf Tryd.f63)), .lp (ct [1, 1, 1, 0, 1, 0, 0, 1, 0, 0, 1, 0, 1, 0, 0] (bodyOf Tryd.f63)), .blk 4, .code (ct [1, 1, 1, 0, 1, 0, 0, 1, 0, 0, 1, 1] (bodyOf Tryd.f63)), .blk 3, .code (ct [1, 1, 1, 0, 1, 0, 0, 1, 1] (bodyOf Tryd.f63)), .lp (ct [1, 1, 1, 0, 1, 0, 0] (bodyOf Tryd.f63)), .blk 2, .code (ct [1, 1, 1, 1] (bodyOf Tryd.f63))] (gabionref02_Sum_l2_I B0 x0 x1 x7 x8 x5 x9) L :=
  iter_ok (I := fun s => gabionref02_Sum_l2_I B0 x0 x1 x7 x8 s.1 s.2) (D := fun e => (∀ s, e = s → WXI Tryd.prog 82 n0 (Fin Tryd.prog Tryd.f63.results.toList n0 Q) [.code (ct [1, 1, 1, 0, 1, 0, 0, 1, 0, 0, 1, 1] (bodyOf Tryd.f63)), .blk 3, .code (ct [1, 1, 1, 0, 1, 0, 0, 1, 1] (bodyOf Tryd.f63)), .lp (ct [1, 1, 1, 0, 1, 0, 0] (bodyOf Tryd.f63)), .blk 2, .code (ct [1, 1, 1, 1] (bodyOf Tryd.f63))] (gabionref02_Sum_l2_X0 B0 x0 x1 s.1 s.2 x8) L)) (fun E hn hx s o ho hE => gabionref02_Sum_l2_s (x5 := s.1) (x9 := s.2) ho hn (fun s hs => (hx _ hs) _ rfl)  hE) h g0
theorem gabionref02_Sum_j18_ok {B0 : Kn} {L : Own} {n0 : Nat} {x0 : List Int} {x1 : List Int} {x5 : List Int} {x7 : Int} {x8 : Int} {x10 : Int} {x65 : Bool} {Q : AV → St → Prop} {E : ((List Int) × Int × Int) ⊕ ((List Int) × Int) → Prop} {o : ((List Int) × Int × Int) ⊕ ((List Int) × Int)} (h : gabionref02_Sum_j18 x0 x1 x5 x7 x8 x10 x65 = some o) (hn : ∀ s, E (.inl s) → WXI Tryd.prog 82 n0 (Fin Tryd.prog Tryd.f63.results.toList n0 Q) [.lp (ct [1, 1, 1, 0, 1, 0, 0, 1, 0, 0, 1, 1, 1, 1, 0, 0] (bodyOf Tryd.f63)), .blk 6, .blk 3, .code (ct [1, 1, 1, 0, 1, 0, 0, 1, 1] (bodyOf Tryd.f63)), .lp (ct [1, 1, 1, 0, 1, 0, 0] (bodyOf Tryd.f63)), .blk 2, .code (ct [1, 1, 1, 1] (bodyOf Tryd.f63))] (gabionref02_Sum_l3_I B0 x0 x1 x8 s.1 s.2.1 s.2.2) L) (hx0 : ∀ s, E (.inr s) → WXI Tryd.prog 82 n0 (Fin Tryd.prog Tryd.f63.results.toList n0 Q) [.code (ct [1, 1, 1, 0, 1, 0, 0, 1, 1] (bodyOf Tryd.f63)), .lp (ct [1, 1, 1, 0, 1, 0, 0] (bodyOf Tryd.f63)), .blk 2, .code (ct [1, 1, 1, 1] (bodyOf Tryd.f63))] (gabionref02_Sum_l3_X0 B0 x0 x1 s.1 s.2) L) (hE : E o) : WXI Tryd.prog 82 n0 (Fin Tryd.prog Tryd.f63.results.toList n0 Q) [.code (ct [1, 1, 1, 0, 1, 0, 0, 1, 0, 0, 1, 1, 1, 1, 0, 0, 0, 1] (bodyOf Tryd.f63)), .code (ct [1, 1, 1, 0, 1, 0, 0, 1, 0, 0, 1, 1, 1, 1, 0, 0, 1] (bodyOf Tryd.f63)), .lp (ct [1, 1, 1, 0, 1, 0, 0, 1, 0, 0, 1, 1, 1, 1, 0, 0] (bodyOf Tryd.f63)), .blk 6, .blk 3, .code (ct [1, 1, 1, 0, 1, 0, 0, 1, 1] (bodyOf Tryd.f63)), .lp (ct [1, 1, 1, 0, 1, 0, 0] (bodyOf Tryd.f63)), .blk 2, .code (ct [1, 1, 1, 1] (bodyOf Tryd.f63))] (gabionref02_Sum_j18_I B0 x0 x1 x5 x7 x8 x10 x65) L := by
  unfold gabionref02_Sum_j18 at h
  rintro _ B _ ⟨hB, v47, v48, v49, b49, n49, c49, h47, h48, h49, rfl, rfl⟩
  obtain ⟨_, _, _, _, _, rfl⟩ := h47.isl
  obtain ⟨_, _, _, _, _, rfl⟩ := h48.isl
  obtain ⟨_, _, _, _, _, rfl⟩ := h49.isl
  rcases bsp x65 with k50 | k50
  · replace h := (if_pos k50).symm.trans h
    refine WX.condT rfl k50 ?_
    refine WX.skip ?_
    refine WX.seq ?_
    refine WX.block ?_
    refine WX.drw (Plan.of [0, 1, 2, 3, 4, 5, 6, 7, 8, 9, 10, 11, 12, 13] .nil) _ mixed (by kernel_rfl) rfl (subL (pk_sub [0])) ?_
    refine WP.q (i := 0) rfl (.mv (v := .sl _ _ _ _ _ _) rfl) rfl rfl rfl ?_
    refine WP.q (i := 1) rfl (.mv (v := .int _ _) rfl) rfl rfl rfl ?_
    refine WP.q (i := 2) rfl (.mv (v := .sl _ _ _ _ _ _) rfl) rfl rfl rfl ?_
    refine WP.q (i := 3) rfl (.mv (v := .int _ _) rfl) rfl rfl rfl ?_
    obtain ⟨y51, hy51, h⟩ := Option.bind_eq_some_iff.1 h
    obtain rfl := h49.nonnil hy51
    obtain ⟨_, i_y51, l_y51, r_y51⟩ := h49.at sl32 hy51 .i64
    obtain rfl := r_y51
    refine WP.q (i := 4) rfl (.ia i_y51) rfl rfl rfl ?_
    refine WP.q (i := 5) rfl (.ldS (i := 0) rfl rfl (l_y51.g0 rfl) ti3 rfl) rfl rfl rfl ?_
    refine WP.q (i := 6) rfl (.mv (v := .sl _ _ _ _ _ _) rfl) rfl rfl rfl ?_
    refine WP.q (i := 7) rfl (.mv (v := .int _ _) rfl) rfl rfl rfl ?_
    obtain ⟨y52, hy52, h⟩ := Option.bind_eq_some_iff.1 h
    obtain ⟨b_y52, o_y52, _, i_y52, p_y52, r_y52⟩ := h48.at sl32 hy52 .i64
    obtain rfl := r_y52
    refine WP.q (i := 8) rfl (.ia i_y52) rfl rfl rfl ?_
    refine WP.q (i := 9) rfl (.lp0 rfl p_y52 rfl ti3 rfl) rfl rfl rfl ?_
    refine WP.q (i := 10) rfl (.r fun _ => rfl) rfl rfl rfl ?_
    refine WP.q (i := 11) rfl (.r fun _ => rfl) rfl rfl rfl ?_
    obtain ⟨y53, hy53, h⟩ := Option.bind_eq_some_iff.1 h
    obtain ⟨_, i_y53, l_y53, r_y53⟩ := h49.at sl32 hy53 .i64
    obtain rfl := r_y53
    refine WP.q (i := 12) rfl (.ia i_y53) rfl rfl rfl ?_
    refine WP.msn (i := 13) rfl (MOp.ostW (x' := (Int.tmod (wi64 (y51 + y52)) 2)) rfl (cI rfl) (fun _ => .h) ti3 rfl h49 hy53 Ri) rfl (by kernel_rfl) rfl ?_
    rintro _ _ ⟨c55, o54, rfl⟩
    refine WS.nil ?_
    refine WX.pop ?_
    refine WX.reg ?_
    refine WO.q (.mv (v := .int _ _) rfl) rfl rfl ?_
    refine WO.q (.r fun _ => rfl) rfl rfl ?_
    refine WO.q (.as (v := .int _ _) rfl) rfl rfl ?_
    refine WO.nil ?_
    refine WX.keepL [0, 1, 5, 7, 8, 10] (WX.pk [0] (by decide) ?_) rfl
    obtain rfl := Option.some.inj h
    exact hn _ hE _ _ _ ⟨hB, _, _, _, _, false, _, h47, h48, o54, rfl, rfl⟩
  · replace h := (if_neg (bnt k50)).symm.trans h
    refine WX.condF rfl k50 ?_
    refine WX.exit rfl ?_
    refine WX.pop ?_
    refine WX.keep [0, 1, 5, 7] (WX.pk [0] (by decide) ?_) rfl
    obtain rfl := Option.some.inj h
    exact hx0 _ hE _ _ _ ⟨hB, _, _, _, _, n49, _, h47, h48, h49, rfl, rfl⟩
theorem gabionref02_Sum_l3_s {B0 : Kn} {L : Own} {n0 : Nat} {x0 : List Int} {x1 : List Int} {x8 : Int} {x5 : List Int} {x7 : Int} {x10 : Int} {Q : AV → St → Prop} {E : ((List Int) × Int × Int) ⊕ ((List Int) × Int) → Prop} {o : ((List Int) × Int × Int) ⊕ ((List Int) × Int)} (h : gabionref02_Sum_l3 x0 x1 x8 x5 x7 x10 = some o) (hn : ∀ s, E (.inl s) → WXI Tryd.prog 82 n0 (Fin Tryd.prog Tryd.f63.results.toList n0 Q) [.lp (ct [1, 1, 1, 0, 1, 0, 0, 1, 0, 0, 1, 1, 1, 1, 0, 0] (bodyOf Tryd.f63)), .blk 6, .blk 3, .code (ct [1, 1, 1, 0, 1, 0, 0, 1, 1] (bodyOf Tryd.f63)), .lp (ct [1, 1, 1, 0, 1, 0, 0] (bodyOf Tryd.f63)), .blk 2, .code (ct [1, 1, 1, 1] (bodyOf Tryd.f63))] (gabionref02_Sum_l3_I B0 x0 x1 x8 s.1 s.2.1 s.2.2) L) (hx0 : ∀ s, E (.inr s) → WXI Tryd.prog 82 n0 (Fin Tryd.prog Tryd.f63.results.toList n0 Q) [.code (ct [1, 1, 1, 0, 1, 0, 0, 1, 1] (bodyOf Tryd.f63)), .lp (ct [1, 1, 1, 0, 1, 0, 0] (bodyOf Tryd.f63)), .blk 2, .code (ct [1, 1, 1, 1] (bodyOf Tryd.f63))] (gabionref02_Sum_l3_X0 B0 x0 x1 s.1 s.2) L) (hE : E o) : WXI Tryd.prog 82 n0 (Fin Tryd.prog Tryd.f63.results.toList n0 Q) [.code (ct [1, 1, 1, 0, 1, 0, 0, 1, 0, 0, 1, 1, 1, 1, 0, 0] (bodyOf Tryd.f63)), .lp (ct [1, 1, 1, 0, 1, 0, 0, 1, 0, 0, 1, 1, 1, 1, 0, 0] (bodyOf Tryd.f63)), .blk 6, .blk 3, .code (ct [1, 1, 1, 0, 1, 0, 0, 1, 1] (bodyOf Tryd.f63)), .lp (ct [1, 1, 1, 0, 1, 0, 0] (bodyOf Tryd.f63)), .blk 2, .code (ct [1, 1, 1, 1] (bodyOf Tryd.f63))] (gabionref02_Sum_l3_I B0 x0 x1 x8 x5 x7 x10) L := by
  unfold gabionref02_Sum_l3 at h
  rintro _ B _ ⟨hB, v43, v44, v45, b45, n45, c45, h43, h44, h45, rfl, rfl⟩
  obtain ⟨_, _, _, _, _, rfl⟩ := h43.isl
  obtain ⟨_, _, _, _, _, rfl⟩ := h44.isl
  obtain ⟨_, _, _, _, _, rfl⟩ := h45.isl
  refine WX.seq ?_
  refine WX.seq ?_
  refine WX.reg ?_
  refine WO.q (.mv (v := .int _ _) rfl) rfl rfl ?_
  refine WO.q (.mv (v := .sl _ _ _ _ _ _) rfl) rfl rfl ?_
  refine WO.q (.len rfl rfl rfl (sl32.len h45.isl)) rfl rfl ?_
  refine WO.q (.r fun _ => rfl) rfl rfl ?_
  refine WO.q (.mv (v := .bool _) rfl) rfl rfl ?_
  rcases bsp (decide (x10 < (x5.length : Int))) with k46 | k46
  · have q_k46 := of_decide_eq_true k46
    replace h := (if_pos q_k46).symm.trans h
    refine WO.q (.mv (v := .int _ _) rfl) (wg rfl rfl (gt k46)) rfl ?_
    refine WO.q (.r fun _ => rfl) (wg rfl rfl (gt k46)) rfl ?_
    refine WO.q (.ptv (v := .bool _) rfl k46 rfl) rfl rfl ?_
    refine WO.nil ?_
    refine WX.keep [0, 1, 5, 7, 8, 10, 65] (WX.pk [0] (by decide) ?_) rfl
    exact gabionref02_Sum_j18_ok h hn hx0 hE _ _ _ ⟨hB, _, _, _, _, n45, _, h43, h44, h45, rfl, rfl⟩
  · have q_k46 := of_decide_eq_false k46
    replace h := (if_neg q_k46).symm.trans h
    refine WO.sd (wg rfl rfl (gtn k46)) rfl ?_
    refine WO.sd (wg rfl rfl (gtn k46)) rfl ?_
    refine WO.q (.pfv (v := .bool _) rfl k46 rfl) rfl rfl ?_
    refine WO.nil ?_
    refine WX.keep [0, 1, 5, 7, 8, 10, 65] (WX.pk [0] (by decide) ?_) rfl
    exact gabionref02_Sum_j18_ok h hn hx0 hE _ _ _ ⟨hB, _, _, _, _, n45, _, h43, h44, h45, rfl, rfl⟩
theorem gabionref02_Sum_l3_ok {B0 : Kn} {L : Own} {n0 : Nat} {x0 : List Int} {x1 : List Int} {x8 : Int} {x5 : List Int} {x7 : Int} {x10 : Int} {Q : AV → St → Prop} {d : Nat} {e : ((List Int) × Int)} (h : iter (fun (s : (List Int) × Int × Int) => gabionref02_Sum_l3 x0 x1 x8 s.1 s.2.1 s.2.2) d (x5, x7, x10) = some e) (g0 : ∀ s, e = s → WXI Tryd.prog 82 n0 (Fin Tryd.prog Tryd.f63.results.toList n0 Q) [.code (ct [1, 1, 1, 0, 1, 0, 0, 1, 1] (bodyOf Tryd.f63)), .lp (ct [1, 1, 1, 0, 1, 0, 0] (bodyOf Tryd.f63)), .blk 2, .code (ct [1, 1, 1, 1] (bodyOf Tryd.f63))] (gabionref02_Sum_l3_X0 B0 x0 x1 s.1 s.2) L) : WXI Tryd.prog 82 n0 (Fin Tryd.prog Tryd.f63.results.toList n0 Q) [.code (ct [1, 1, 1, 0, 1, 0, 0, 1, 0, 0, 1, 1, 1, 1, 0, 0] (bodyOf Tryd.f63)), .lp (ct [1, 1, 1, 0, 1, 0, 0, 1, 0, 0, 1, 1, 1, 1, 0, 0] (bodyOf Tryd.f63)), .blk 6, .blk 3, .code (ct [1, 1, 1, 0, 1, 0, 0, 1, 1] (bodyOf Tryd.f63)), .lp (ct [1, 1, 1, 0, 1, 0, 0] (bodyOf Tryd.f63)), .blk 2, .code (ct [1, 1, 1, 1] (bodyOf Tryd.f63))] (gabionref02_Sum_l3_I B0 x0 x1 x8 x5 x7 x10) L :=
  iter_ok (I := fun s => gabionref02_Sum_l3_I B0 x0 x1 x8 s.1 s.2.1 s.2.2) (D := fun e => (∀ s, e = s → WXI Tryd.prog 82 n0 (Fin Tryd.prog Tryd.f63.results.toList n0 Q) [.code (ct [1, 1, 1, 0, 1, 0, 0, 1, 1] (bodyOf Tryd.f63)), .lp (ct [1, 1, 1, 0, 1, 0, 0] (bodyOf Tryd.f63)), .blk 2, .code (ct [1, 1, 1, 1] (bodyOf Tryd.f63))] (gabionref02_Sum_l3_X0 B0 x0 x1 s.1 s.2) L)) (fun E hn hx s o ho hE => gabionref02_Sum_l3_s (x5 := s.1) (x7 := s.2.1) (x10 := s.2.2) ho hn (fun s hs => (hx _ hs) _ rfl)  hE) h g0
theorem gabionref02_Sum_l1_s {B0 : Kn} {L : Own} {n0 : Nat} {x0 : List Int} {x1 : List Int} {x5 : List Int} {x7 : Int} {Q : AV → St → Prop} {E : ((List Int) × Int) ⊕ (List Int) → Prop} {o : ((List Int) × Int) ⊕ (List Int)} (h : gabionref02_Sum_l1 x0 x1 x5 x7 = some o) (hn : ∀ s, E (.inl s) → WXI Tryd.prog 82 n0 (Fin Tryd.prog Tryd.f63.results.toList n0 Q) [.lp (ct [1, 1, 1, 0, 1, 0, 0] (bodyOf Tryd.f63)), .blk 2, .code (ct [1, 1, 1, 1] (bodyOf Tryd.f63))] (gabionref02_Sum_l1_I B0 x0 x1 s.1 s.2) L) (hx0 : ∀ s, E (.inr s) → WXI Tryd.prog 82 n0 (Fin Tryd.prog Tryd.f63.results.toList n0 Q) [.code (ct [1, 1, 1, 1] (bodyOf Tryd.f63))] (gabionref02_Sum_l1_X0 B0 s) L) (hE : E o) : WXI Tryd.prog 82 n0 (Fin Tryd.prog Tryd.f63.results.toList n0 Q) [.code (ct [1, 1, 1, 0, 1, 0, 0] (bodyOf Tryd.f63)), .lp (ct [1, 1, 1, 0, 1, 0, 0] (bodyOf Tryd.f63)), .blk 2, .code (ct [1, 1, 1, 1] (bodyOf Tryd.f63))] (gabionref02_Sum_l1_I B0 x0 x1 x5 x7) L := by
  unfold gabionref02_Sum_l1 at h
  rintro _ B _ ⟨hB, v19, v20, v21, b21, n21, c21, h19, h20, h21, rfl, rfl⟩
  obtain ⟨_, _, _, _, _, rfl⟩ := h19.isl
  obtain ⟨_, _, _, _, _, rfl⟩ := h20.isl
  obtain ⟨_, _, _, _, _, rfl⟩ := h21.isl
  refine WX.seq ?_
  refine WX.seq ?_
  refine WX.reg ?_
  refine WO.q (.mv (v := .int _ _) rfl) rfl rfl ?_
  refine WO.q (.mv (v := .sl _ _ _ _ _ _) rfl) rfl rfl ?_
  refine WO.q (.len rfl rfl rfl (sl32.len h19.isl)) rfl rfl ?_
  refine WO.q (.r fun _ => rfl) rfl rfl ?_
  refine WO.nil ?_
  rcases bsp (decide (x7 < (x0.length : Int))) with k22 | k22
  · have q_k22 := of_decide_eq_true k22
    replace h := (if_pos q_k22).symm.trans h
    refine WX.condT rfl k22 ?_
    refine WX.skip ?_
    refine WX.seq ?_
    refine WX.block ?_
    refine WX.seq ?_
    refine WX.drw (Plan.of [0, 1, 2, 3, 4, 5, 6, 7, 8, 9] .nil) _ mixed (by kernel_rfl) rfl (subL (pk_sub [0])) ?_
    refine WP.q (i := 0) rfl (.mv (v := .sl _ _ _ _ _ _) rfl) rfl rfl rfl ?_
    obtain ⟨y23, hy23, h⟩ := Option.bind_eq_some_iff.1 h
    obtain rfl := h21.nonnil hy23
    obtain ⟨_, i_y23, l_y23, r_y23⟩ := h21.at sl32 hy23 .i64
    obtain rfl := r_y23
    refine WP.q (i := 1) rfl (.ia i_y23) rfl rfl rfl ?_
    refine WP.q (i := 2) rfl (.ldS (i := 0) rfl rfl (l_y23.g0 rfl) ti3 rfl) rfl rfl rfl ?_
    refine WP.q (i := 3) rfl (.mv (v := .sl _ _ _ _ _ _) rfl) rfl rfl rfl ?_
    refine WP.q (i := 4) rfl (.mv (v := .int _ _) rfl) rfl rfl rfl ?_
    obtain ⟨y24, hy24, h⟩ := Option.bind_eq_some_iff.1 h
    obtain ⟨b_y24, o_y24, _, i_y24, p_y24, r_y24⟩ := h19.at sl32 hy24 .i64
    obtain rfl := r_y24
    refine WP.q (i := 5) rfl (.ia i_y24) rfl rfl rfl ?_
    refine WP.q (i := 6) rfl (.lp0 rfl p_y24 rfl ti3 rfl) rfl rfl rfl ?_
    refine WP.q (i := 7) rfl (.r fun _ => rfl) rfl rfl rfl ?_
    refine WP.q (i := 8) rfl (.r fun _ => rfl) rfl rfl rfl ?_
    refine WP.q (i := 9) rfl (.as (v := .int _ _) rfl) rfl rfl rfl ?_
    refine WP.nil ?_
    refine WX.seq ?_
    refine WX.seq ?_
    refine WX.reg ?_
    refine WO.q (.as (v := .int _ _) rfl) rfl rfl ?_
    refine WO.nil ?_
    refine WX.block ?_
    refine WX.loop ?_
    obtain ⟨e36, he36, h⟩ := Option.bind_eq_some_iff.1 h
    refine WX.keep [0, 1, 5, 7, 8, 9] (WX.pk [0] (by decide) ?_) rfl
    refine gabionref02_Sum_l2_ok he36 ?_ _ _ _ ⟨hB, _, _, _, _, false, _, h19, h20, h21, rfl, rfl⟩
    · intro s64 he_
      subst he_
      replace h := h
      rintro _ B _ ⟨hB, v37, v38, v39, b39, n39, c39, h37, h38, h39, rfl, rfl⟩
      obtain ⟨_, _, _, _, _, rfl⟩ := h37.isl
      obtain ⟨_, _, _, _, _, rfl⟩ := h38.isl
      obtain ⟨_, _, _, _, _, rfl⟩ := h39.isl
      refine WX.seq ?_
      refine WX.reg ?_
      refine WO.q (.mv (v := .sl _ _ _ _ _ _) rfl) rfl rfl ?_
      refine WO.q (.mv (v := .sl _ _ _ _ _ _) rfl) rfl rfl ?_
      refine WO.q (.len rfl rfl rfl (sl32.len h39.isl)) rfl rfl ?_
      refine WO.q (.r fun _ => rfl) rfl rfl ?_
      obtain ⟨y40, hy40, h⟩ := Option.bind_eq_some_iff.1 h
      obtain rfl := h39.nonnil hy40
      obtain ⟨_, i_y40, l_y40, r_y40⟩ := h39.at sl32 hy40 .i64
      obtain rfl := r_y40
      refine WO.q (.ia i_y40) rfl rfl ?_
      refine WO.mn (MOp.ostW (x' := 0) rfl (cI rfl) (fun _ => .h) ti3 rfl h39 hy40 Ri) rfl ?_
      rintro _ _ ⟨c42, o41, rfl⟩
      refine WO.nil ?_
      refine WX.seq ?_
      refine WX.reg ?_
      refine WO.q (.as (v := .int _ _) rfl) rfl rfl ?_
      refine WO.nil ?_
      refine WX.block ?_
      refine WX.loop ?_
      obtain ⟨e59, he59, h⟩ := Option.bind_eq_some_iff.1 h
      refine WX.keep [0, 1, 5, 7, 8, 10] (WX.pk [0] (by decide) ?_) rfl
      refine gabionref02_Sum_l3_ok he59 ?_ _ _ _ ⟨hB, _, _, _, _, false, _, h37, h38, o41, rfl, rfl⟩
      · intro s63 he_
        subst he_
        replace h := h
        rintro _ B _ ⟨hB, v60, v61, v62, b62, n62, c62, h60, h61, h62, rfl, rfl⟩
        obtain ⟨_, _, _, _, _, rfl⟩ := h60.isl
        obtain ⟨_, _, _, _, _, rfl⟩ := h61.isl
        obtain ⟨_, _, _, _, _, rfl⟩ := h62.isl
        refine WX.reg ?_
        refine WO.q (.mv (v := .int _ _) rfl) rfl rfl ?_
        refine WO.q (.r fun _ => rfl) rfl rfl ?_
        refine WO.q (.as (v := .int _ _) rfl) rfl rfl ?_
        refine WO.nil ?_
        refine WX.keepL [0, 1, 5, 7] (WX.pk [0] (by decide) ?_) rfl
        obtain rfl := Option.some.inj h
        exact hn _ hE _ _ _ ⟨hB, _, _, _, _, n62, _, h60, h61, h62, rfl, rfl⟩
  · have q_k22 := of_decide_eq_false k22
    replace h := (if_neg q_k22).symm.trans h
    refine WX.condF rfl k22 ?_
    refine WX.exit rfl ?_
    refine WX.keep [5] (WX.pk [0] (by decide) ?_) rfl
    obtain rfl := Option.some.inj h
    exact hx0 _ hE _ _ _ ⟨hB, _, _, n21, _, h21, rfl, rfl⟩
theorem gabionref02_Sum_l1_ok {B0 : Kn} {L : Own} {n0 : Nat} {x0 : List Int} {x1 : List Int} {x5 : List Int} {x7 : Int} {Q : AV → St → Prop} {d : Nat} {e : (List Int)} (h : iter (fun (s : (List Int) × Int) => gabionref02_Sum_l1 x0 x1 s.1 s.2) d (x5, x7) = some e) (g0 : ∀ s, e = s → WXI Tryd.prog 82 n0 (Fin Tryd.prog Tryd.f63.results.toList n0 Q) [.code (ct [1, 1, 1, 1] (bodyOf Tryd.f63))] (gabionref02_Sum_l1_X0 B0 s) L) : WXI Tryd.prog 82 n0 (Fin Tryd.prog Tryd.f63.results.toList n0 Q) [.code (ct [1, 1, 1, 0, 1, 0, 0] (bodyOf Tryd.f63)), .lp (ct [1, 1, 1, 0, 1, 0, 0] (bodyOf Tryd.f63)), .blk 2, .code (ct [1, 1, 1, 1] (bodyOf Tryd.f63))] (gabionref02_Sum_l1_I B0 x0 x1 x5 x7) L :=
  iter_ok (I := fun s => gabionref02_Sum_l1_I B0 x0 x1 s.1 s.2) (D := fun e => (∀ s, e = s → WXI Tryd.prog 82 n0 (Fin Tryd.prog Tryd.f63.results.toList n0 Q) [.code (ct [1, 1, 1, 1] (bodyOf Tryd.f63))] (gabionref02_Sum_l1_X0 B0 s) L)) (fun E hn hx s o ho hE => gabionref02_Sum_l1_s (x5 := s.1) (x7 := s.2) ho hn (fun s hs => (hx _ hs) _ rfl)  hE) h g0
theorem gabionref02_Sum_ok {B0 : Kn} {L : Own} {a0 : List Int} {a1 : List Int} {v0_0 : AV} {v1_0 : AV} (g0_0 : RSl (Ty.int .i64) B0 v0_0 a0) (g1_0 : RSl (Ty.int .i64) B0 v1_0 a1) {r : (List Int)} (h : gabionref02_Sum a0 a1 = some r) : ∀ st, Hp B0 L st → ASpec Tryd.prog 63 [v0_0, v1_0] st (gabionref02_Sum_P B0 L r) := by
  unfold gabionref02_Sum at h
  refine bodyA (A := []) Tryd.func63 rfl (c := bodyOf Tryd.f63) rfl Tryd.ntmps63 (lb rfl) fun n0 => ?_
  have hB := KLe.refl B0
  obtain ⟨_, _, _, _, _, rfl⟩ := g0_0.isl
  obtain ⟨_, _, _, _, _, rfl⟩ := g1_0.isl
  refine WX.seq ?_
  refine WX.reg ?_
  refine WO.q (.as (v := .sl _ _ _ _ _ _) rfl) rfl rfl ?_
  refine WO.nil ?_
  refine WX.seq ?_
  refine WX.reg ?_
  refine WO.q (.mv (v := .sl _ _ _ _ _ _) rfl) rfl rfl ?_
  refine WO.q (.len rfl rfl rfl (sl32.len g1_0.isl)) rfl rfl ?_
  obtain ⟨hk4, h⟩ := ifS_some h
  refine WO.md (MOp.mk sl32 rfl rfl hk4.1 hk4.2.1 hk4.2.2 Ri) rfl rfl ?_
  rintro v3 _ ⟨b1, o2, rfl⟩
  obtain ⟨_, _, _, _, _, rfl⟩ := o2.isl
  refine WO.q (.as (v := .sl _ _ _ _ _ _) rfl) rfl rfl ?_
  refine WO.nil ?_
  refine WX.seq ?_
  refine WX.seq ?_
  refine WX.reg ?_
  refine WO.q (.as (v := .int _ _) rfl) rfl rfl ?_
  refine WO.nil ?_
  refine WX.block ?_
  refine WX.loop ?_
  obtain ⟨e15, he15, h⟩ := Option.bind_eq_some_iff.1 h
  refine WX.keep [0, 1, 5, 6] (WX.pk [0] (by decide) ?_) rfl
  refine gabionref02_Sum_l0_ok he15 ?_ _ _ _ ⟨hB, _, _, _, _, false, _, g0_0, g1_0, o2, rfl, rfl⟩
  · intro s69 he_
    subst he_
    replace h := h
    rintro _ B _ ⟨hB, v16, v17, v18, b18, n18, c18, h16, h17, h18, rfl, rfl⟩
    obtain ⟨_, _, _, _, _, rfl⟩ := h16.isl
    obtain ⟨_, _, _, _, _, rfl⟩ := h17.isl
    obtain ⟨_, _, _, _, _, rfl⟩ := h18.isl
    refine WX.seq ?_
    refine WX.seq ?_
    refine WX.reg ?_
    refine WO.q (.as (v := .int _ _) rfl) rfl rfl ?_
    refine WO.nil ?_
    refine WX.block ?_
    refine WX.loop ?_
    obtain ⟨e66, he66, h⟩ := Option.bind_eq_some_iff.1 h
    refine WX.keep [0, 1, 5, 7] (WX.pk [0] (by decide) ?_) rfl
    refine gabionref02_Sum_l1_ok he66 ?_ _ _ _ ⟨hB, _, _, _, _, n18, _, h16, h17, h18, rfl, rfl⟩
    · intro s68 he_
      subst he_
      replace h := h
      rintro _ B _ ⟨hB, v67, b67, n67, c67, h67, rfl, rfl⟩
      obtain ⟨_, _, _, _, _, rfl⟩ := h67.isl
      refine WX.seq ?_
      refine WX.reg ?_
      refine WO.q (.mv (v := .sl _ _ _ _ _ _) rfl) rfl rfl ?_
      refine WO.q (.as (v := .sl _ _ _ _ _ _) rfl) rfl rfl ?_
      refine WO.nil ?_
      obtain rfl := Option.some.inj h
      exact WX.ret (rs_ (rs_tmp rfl rs_nil)) fun st hp => ⟨_, _, hB, (hp.pk [0] (by decide)), _, _, n67, _, rfl, rfl, h67⟩
def gabionref02_number_P (B : Kn) (L : Own) (r : Int) : AV → St → Prop := CS B L fun v => v = .int .u64 r
def gabionref02_number_l0_I (B0 : Kn) (x0 : List Int) (x3 : Int) (x4 : Int) : Fr → Kn → Own → Prop := fun fr B A => KLe B0 B ∧ ∃ v1, RSl (Ty.int .i64) B v1 x0 ∧ fr = [(0, v1), (3, .int .u64 x3), (4, .int .i64 x4)] ∧ A = []
def gabionref02_number_l0_X0 (B0 : Kn) (x3 : Int) : Fr → Kn → Own → Prop := fun fr B A => KLe B0 B ∧ fr = [(3, .int .u64 x3)] ∧ A = []
theorem gabionref02_number_l0_s {B0 : Kn} {L : Own} {n0 : Nat} {x0 : List Int} {x3 : Int} {x4 : Int} {Q : AV → St → Prop} {E : (Int × Int) ⊕ Int → Prop} {o : (Int × Int) ⊕ Int} (h : gabionref02_number_l0 x0 x3 x4 = some o) (hn : ∀ s, E (.inl s) → WXI Tryd.prog 20 n0 (Fin Tryd.prog Tryd.f64.results.toList n0 Q) [.lp (ct [1, 1, 0, 1, 0, 0] (bodyOf Tryd.f64)), .blk 0, .code (ct [1, 1, 1] (bodyOf Tryd.f64))] (gabionref02_number_l0_I B0 x0 s.1 s.2) L) (hx0 : ∀ s, E (.inr s) → WXI Tryd.prog 20 n0 (Fin Tryd.prog Tryd.f64.results.toList n0 Q) [.code (ct [1, 1, 1] (bodyOf Tryd.f64))] (gabionref02_number_l0_X0 B0 s) L) (hE : E o) : WXI Tryd.prog 20 n0 (Fin Tryd.prog Tryd.f64.results.toList n0 Q) [.code (ct [1, 1, 0, 1, 0, 0] (bodyOf Tryd.f64)), .lp (ct [1, 1, 0, 1, 0, 0] (bodyOf Tryd.f64)), .blk 0, .code (ct [1, 1, 1] (bodyOf Tryd.f64))] (gabionref02_number_l0_I B0 x0 x3 x4) L := by
  unfold gabionref02_number_l0 at h
  rintro _ B _ ⟨hB, v1, h1, rfl, rfl⟩
  obtain ⟨_, _, _, _, _, rfl⟩ := h1.isl
  refine WX.seq ?_
  refine WX.seq ?_
  refine WX.reg ?_
  refine WO.q (.mv (v := .int _ _) rfl) rfl rfl ?_
  refine WO.q (.mv (v := .sl _ _ _ _ _ _) rfl) rfl rfl ?_
  refine WO.q (.len rfl rfl rfl (sl32.len h1.isl)) rfl rfl ?_
  refine WO.q (.r fun _ => rfl) rfl rfl ?_
  refine WO.nil ?_
  rcases bsp (decide (x4 < (x0.length : Int))) with k2 | k2
  · have q_k2 := of_decide_eq_true k2
    replace h := (if_pos q_k2).symm.trans h
    refine WX.condT rfl k2 ?_
    refine WX.skip ?_
    refine WX.seq ?_
    refine WX.block ?_
    refine WX.reg ?_
    refine WO.q (.mv (v := .int _ _) rfl) rfl rfl ?_
    refine WO.q (.r fun _ => rfl) rfl rfl ?_
    refine WO.q (.mv (v := .sl _ _ _ _ _ _) rfl) rfl rfl ?_
    refine WO.q (.mv (v := .int _ _) rfl) rfl rfl ?_
    obtain ⟨y3, hy3, h⟩ := Option.bind_eq_some_iff.1 h
    obtain ⟨b_y3, o_y3, _, i_y3, p_y3, r_y3⟩ := h1.at sl32 hy3 .i64
    obtain rfl := r_y3
    refine WO.q (.ia i_y3) rfl rfl ?_
    refine WO.q (.lp0 rfl p_y3 rfl ti3 rfl) rfl rfl ?_
    refine WO.q (cvI ti3 ti76 rfl rfl) rfl rfl ?_
    refine WO.q (.r fun _ => rfl) rfl rfl ?_
    refine WO.q (.as (v := .int _ _) rfl) rfl rfl ?_
    refine WO.nil ?_
    refine WX.pop ?_
    refine WX.reg ?_
    refine WO.q (.mv (v := .int _ _) rfl) rfl rfl ?_
    refine WO.q (.r fun _ => rfl) rfl rfl ?_
    refine WO.q (.as (v := .int _ _) rfl) rfl rfl ?_
    refine WO.nil ?_
    refine WX.keepL [0, 3, 4] (WX.pk [] (by decide) ?_) rfl
    obtain rfl := Option.some.inj h
    exact hn _ hE _ _ _ ⟨hB, _, h1, rfl, rfl⟩
  · have q_k2 := of_decide_eq_false k2
    replace h := (if_neg q_k2).symm.trans h
    refine WX.condF rfl k2 ?_
    refine WX.exit rfl ?_
    refine WX.keep [3] (WX.pk [] (by decide) ?_) rfl
    obtain rfl := Option.some.inj h
    exact hx0 _ hE _ _ _ ⟨hB, rfl, rfl⟩
theorem gabionref02_number_l0_ok {B0 : Kn} {L : Own} {n0 : Nat} {x0 : List Int} {x3 : Int} {x4 : Int} {Q : AV → St → Prop} {d : Nat} {e : Int} (h : iter (fun (s : Int × Int) => gabionref02_number_l0 x0 s.1 s.2) d (x3, x4) = some e) (g0 : ∀ s, e = s → WXI Tryd.prog 20 n0 (Fin Tryd.prog Tryd.f64.results.toList n0 Q) [.code (ct [1, 1, 1] (bodyOf Tryd.f64))] (gabionref02_number_l0_X0 B0 s) L) : WXI Tryd.prog 20 n0 (Fin Tryd.prog Tryd.f64.results.toList n0 Q) [.code (ct [1, 1, 0, 1, 0, 0] (bodyOf Tryd.f64)), .lp (ct [1, 1, 0, 1, 0, 0] (bodyOf Tryd.f64)), .blk 0, .code (ct [1, 1, 1] (bodyOf Tryd.f64))] (gabionref02_number_l0_I B0 x0 x3 x4) L :=
  iter_ok (I := fun s => gabionref02_number_l0_I B0 x0 s.1 s.2) (D := fun e => (∀ s, e = s → WXI Tryd.prog 20 n0 (Fin Tryd.prog Tryd.f64.results.toList n0 Q) [.code (ct [1, 1, 1] (bodyOf Tryd.f64))] (gabionref02_number_l0_X0 B0 s) L)) (fun E hn hx s o ho hE => gabionref02_number_l0_s (x3 := s.1) (x4 := s.2) ho hn (fun s hs => (hx _ hs) _ rfl)  hE) h g0
theorem gabionref02_number_ok {B0 : Kn} {L : Own} {a0 : List Int} {v0_0 : AV} (g0_0 : RSl (Ty.int .i64) B0 v0_0 a0) {r : Int} (h : gabionref02_number a0 = some r) : ∀ st, Hp B0 L st → ASpec Tryd.prog 64 [v0_0] st (gabionref02_number_P B0 L r) := by
  unfold gabionref02_number at h
  refine bodyA (A := []) Tryd.func64 rfl (c := bodyOf Tryd.f64) rfl Tryd.ntmps64 (lb rfl) fun n0 => ?_
  have hB := KLe.refl B0
  obtain ⟨_, _, _, _, _, rfl⟩ := g0_0.isl
  refine WX.seq ?_
  refine WX.reg ?_
  refine WO.q (.as (v := .int _ _) rfl) rfl rfl ?_
  refine WO.nil ?_
  refine WX.seq ?_
  refine WX.reg ?_
  refine WO.q (.as (v := .int _ _) rfl) rfl rfl ?_
  refine WO.nil ?_
  refine WX.seq ?_
  refine WX.seq ?_
  refine WX.reg ?_
  refine WO.q (.as (v := .int _ _) rfl) rfl rfl ?_
  refine WO.nil ?_
  refine WX.block ?_
  refine WX.loop ?_
  obtain ⟨e4, he4, h⟩ := Option.bind_eq_some_iff.1 h
  refine WX.keep [0, 3, 4] (WX.pk [] (by decide) ?_) rfl
  refine gabionref02_number_l0_ok he4 ?_ _ _ _ ⟨hB, _, g0_0, rfl, rfl⟩
  · intro s5 he_
    subst he_
    replace h := h
    rintro _ B _ ⟨hB, rfl, rfl⟩
    refine WX.seq ?_
    refine WX.reg ?_
    refine WO.q (.mv (v := .int _ _) rfl) rfl rfl ?_
    refine WO.q (.as (v := .int _ _) rfl) rfl rfl ?_
    refine WO.nil ?_
    obtain rfl := Option.some.inj h
    exact WX.ret (rs_ (rs_tmp rfl rs_nil)) fun st hp => ⟨(hp.pk [] (by decide)).le hB, rfl⟩
def gabionref02_Sum16_P (B : Kn) (L : Own) (r : Int) : AV → St → Prop := CS B L fun v => v = .int .u64 r
theorem gabionref02_Sum16_ok {B0 : Kn} {L : Own} {a0 : List UInt8} {r : Int} (h : gabionref02_Sum16 a0 = some r) : ∀ st, Hp B0 L st → ASpec Tryd.prog 46 [.str a0] st (gabionref02_Sum16_P B0 L r) := by
  unfold gabionref02_Sum16 at h
  refine bodyA (A := []) Tryd.func46 rfl (c := bodyOf Tryd.f46) rfl Tryd.ntmps46 (lb rfl) fun n0 => ?_
  have hB := KLe.refl B0
  refine WX.seq ?_
  refine WX.reg ?_
  refine WO.q (.as (v := .int _ _) rfl) rfl rfl ?_
  refine WO.nil ?_
  refine WX.seq ?_
  refine WX.reg ?_
  refine WO.md (MOp.bs (l := ([0, 0, 0, 1, 0, 0, 0, 0, 0, 0, 1, 0, 0, 0, 0, 1] : List Int)) sl32 (RL.cons Ri (RL.cons Ri (RL.cons Ri (RL.cons Ri (RL.cons Ri (RL.cons Ri (RL.cons Ri (RL.cons Ri (RL.cons Ri (RL.cons Ri (RL.cons Ri (RL.cons Ri (RL.cons Ri (RL.cons Ri (RL.cons Ri (RL.cons Ri RL.nil)))))))))))))))) (lb rfl) rfl rfl) rfl rfl ?_
  rintro v3 _ ⟨b1, o2, rfl⟩
  obtain ⟨_, _, _, _, _, rfl⟩ := o2.isl
  refine WO.q (.as (v := .sl _ _ _ _ _ _) rfl) rfl rfl ?_
  refine WO.nil ?_
  refine WX.seq ?_
  refine WX.reg ?_
  refine WO.q (.mv (v := .str _) rfl) rfl rfl ?_
  obtain ⟨y5, hy5, h⟩ := Option.bind_eq_some_iff.1 h
  refine WO.c1 rfl rfl (gabionref02_bits_ok hy5) rfl rfl rfl ?_
  rintro _ B _ hK ⟨v6, b7, n8, c9, rfl, rfl, h10⟩
  obtain ⟨_, _, _, _, _, rfl⟩ := h10.isl
  replace o2 := o2.up hK
  replace hB := hB.trans hK
  refine WO.q (.as (v := .sl _ _ _ _ _ _) rfl) rfl rfl ?_
  refine WO.nil ?_
  refine WX.seq ?_
  refine WX.reg ?_
  refine WO.q (.mv (v := .sl _ _ _ _ _ _) rfl) rfl rfl ?_
  refine WO.q (.mv (v := .sl _ _ _ _ _ _) rfl) rfl rfl ?_
  refine WO.fz (j := 0) h10 rfl ?_
  intro B hK g11
  replace o2 := o2.up hK
  replace hB := hB.trans hK
  refine WO.fz (j := 0) o2 rfl ?_
  intro B hK g12
  replace g11 := g11.up hK
  replace hB := hB.trans hK
  obtain ⟨y13, hy13, h⟩ := Option.bind_eq_some_iff.1 h
  refine WO.c1 rfl rfl (gabionref02_Sum_ok g11 g12 hy13) rfl rfl rfl ?_
  rintro _ B _ hK ⟨v14, b15, n16, c17, rfl, rfl, h18⟩
  obtain ⟨_, _, _, _, _, rfl⟩ := h18.isl
  replace g12 := g12.up hK
  replace g11 := g11.up hK
  replace hB := hB.trans hK
  refine WO.q (.as (v := .sl _ _ _ _ _ _) rfl) rfl rfl ?_
  refine WO.nil ?_
  refine WX.seq ?_
  refine WX.reg ?_
  refine WO.q (.mv (v := .sl _ _ _ _ _ _) rfl) rfl rfl ?_
  obtain ⟨y19, hy19, h⟩ := Option.bind_eq_some_iff.1 h
  refine WO.cS rfl rfl (lendC (j := 0) h18 rfl fun _ K21 g20 => gabionref02_number_ok g20 hy19) rfl rfl rfl ?_
  rintro _ rfl
  refine WO.q (.as (v := .int _ _) rfl) rfl rfl ?_
  refine WO.nil ?_
  obtain rfl := Option.some.inj h
  exact WX.ret (rs_ (rs_tmp rfl rs_nil)) fun st hp => ⟨(hp.pk [] (by decide)).le hB, rfl⟩
end Gab
