/- The Go code comes to what the Lean functions say. Written by a program (gp.py). -/
import Derived.Test.YtcdldgoehoopmaaDoorFd
import Derived.Test.YtcdldgoehoopmaaDoorTy
set_option linter.unusedSimpArgs false
set_option linter.unusedVariables false
set_option maxHeartbeats 4000000
set_option maxRecDepth 100000
namespace Gab
open Go Go.Proofs
def dir_buckets_P (B : Kn) (L : Own) (r : Heap × (List Nat)) : AV → St → Prop := CH B L fun B' X E' v => ∃ w0 b0 n0 c0, v = w0 ∧ X = [oe b0 n0 c0] ∧ HR B' r.1 E' ∧ OSl (Ty.hm 26) B' w0 b0 n0 c0 r.2
def dir_buckets_l0_I (B0 : Kn) (H : Heap) (x3 : List Nat) (x8 : Int) (x9 : Int) : Fr → Kn → Own → Own → Prop := fun fr B A E => KLw B0 B ∧ HR B H E ∧ ∃ v5 b5 n5 c5, OSl (Ty.hm 26) B v5 b5 n5 c5 x3 ∧ fr = [(3, v5), (8, .int .i64 x8), (9, .int .i64 x9)] ∧ A = [oe b5 n5 c5]
def dir_buckets_l0_X0 (B0 : Kn) (H : Heap) (x3 : List Nat) : Fr → Kn → Own → Own → Prop := fun fr B A E => KLw B0 B ∧ HR B H E ∧ ∃ v18 b18 n18 c18, OSl (Ty.hm 26) B v18 b18 n18 c18 x3 ∧ fr = [(3, v18)] ∧ A = [oe b18 n18 c18]
theorem dir_buckets_l0_s {B0 : Kn} {L : Own} {n0 : Nat} {H : Heap} {x3 : List Nat} {x8 : Int} {x9 : Int} {Q : AV → St → Prop} {E : (Heap × (List Nat) × Int × Int) ⊕ (Heap × (List Nat)) → Prop} {o : (Heap × (List Nat) × Int × Int) ⊕ (Heap × (List Nat))} (h : dir_buckets_l0 H x3 x8 x9 = some o) (hn : ∀ s, E (.inl s) → WXH Tryd.prog 18 n0 (Fin Tryd.prog Tryd.f26.results.toList n0 Q) [.lp (ct [1, 1, 0, 1, 0, 0] (bodyOf Tryd.f26)), .blk 0, .code (ct [1, 1, 1] (bodyOf Tryd.f26))] (dir_buckets_l0_I B0 s.1 s.2.1 s.2.2.1 s.2.2.2) L) (hx0 : ∀ s, E (.inr s) → WXH Tryd.prog 18 n0 (Fin Tryd.prog Tryd.f26.results.toList n0 Q) [.code (ct [1, 1, 1] (bodyOf Tryd.f26))] (dir_buckets_l0_X0 B0 s.1 s.2) L) (hE : E o) : WXH Tryd.prog 18 n0 (Fin Tryd.prog Tryd.f26.results.toList n0 Q) [.code (ct [1, 1, 0, 1, 0, 0] (bodyOf Tryd.f26)), .lp (ct [1, 1, 0, 1, 0, 0] (bodyOf Tryd.f26)), .blk 0, .code (ct [1, 1, 1] (bodyOf Tryd.f26))] (dir_buckets_l0_I B0 H x3 x8 x9) L := by
  unfold dir_buckets_l0 at h
  rintro _ B _ E ⟨hB, hH, v5, b5, n5, c5, h5, rfl, rfl⟩
  obtain ⟨_, _, _, _, _, rfl⟩ := h5.isl
  refine WX.seq ?_
  refine WX.reg ?_
  refine WO.q (.r fun _ => rfl) rfl rfl ?_
  refine WO.nil ?_
  refine WX.seq ?_
  rcases bsp (decide (x9 < x8)) with k6 | k6
  · have q_k6 := of_decide_eq_true k6
    replace h := (if_pos q_k6).symm.trans h
    refine WX.condT rfl k6 ?_
    refine WX.skip ?_
    refine WX.seq ?_
    refine WX.block ?_
    refine WX.seq ?_
    refine WX.reg ?_
    refine WO.q (.mv (v := .int _ _) rfl) rfl rfl ?_
    refine WO.q (.as (v := .int _ _) rfl) rfl rfl ?_
    refine WO.nil ?_
    refine WX.reg ?_
    refine WO.q (.mv (v := .sl _ _ _ _ _ _) rfl) rfl rfl ?_
    refine WO.q (.mv (v := .int _ _) rfl) rfl rfl ?_
    obtain ⟨H9, e_H9, h⟩ := Option.bind_eq_some_iff.1 h
    obtain rfl := Option.some.inj e_H9
    refine WO.ed (MOpE.mk (t := 26) (foc26 hH)) rfl rfl ?_
    rintro v7 B _ E ⟨hK, rfl, h8, hH⟩
    replace hH := (hH : HR _ _ _)
    replace h5 := h5.upw hK
    replace hB := hB.trans hK
    obtain ⟨y10, hy10, h⟩ := Option.bind_eq_some_iff.1 h
    obtain rfl := h5.nonnil hy10
    obtain ⟨_, i_y10, l_y10, r_y10⟩ := h5.at sl63 hy10 .i64
    obtain ⟨w11, rfl, hw11⟩ := r_y10
    refine WO.q (.ia i_y10) rfl rfl ?_
    refine WO.mn (MOp.ostW (x' := (H.h26.length + 1)) rfl (cHm rfl h8) (fun _ => .h) ti26 rfl h5 hy10 (Rhm h8)) rfl ?_
    rintro _ _ ⟨c13, o12, rfl⟩
    refine WO.nil ?_
    refine WX.pop ?_
    refine WX.reg ?_
    refine WO.q (.r fun _ => rfl) rfl rfl ?_
    refine WO.q (.mv (v := .int _ _) rfl) rfl rfl ?_
    refine WO.nil ?_
    refine WX.keepL [3, 8, 9] (WX.pk [0] (by decide) ?_) rfl
    obtain rfl := Option.some.inj h
    exact hn _ hE _ _ _ _ ⟨hB, hH, _, _, false, _, o12, rfl, rfl⟩
  · have q_k6 := of_decide_eq_false k6
    replace h := (if_neg q_k6).symm.trans h
    refine WX.condF rfl k6 ?_
    refine WX.exit rfl ?_
    refine WX.keep [3] (WX.pk [0] (by decide) ?_) rfl
    obtain rfl := Option.some.inj h
    exact hx0 _ hE _ _ _ _ ⟨hB, hH, _, _, n5, _, h5, rfl, rfl⟩
theorem dir_buckets_l0_ok {B0 : Kn} {L : Own} {n0 : Nat} {H : Heap} {x3 : List Nat} {x8 : Int} {x9 : Int} {Q : AV → St → Prop} {d : Nat} {e : (Heap × (List Nat))} (h : iter (fun (s : Heap × (List Nat) × Int × Int) => dir_buckets_l0 s.1 s.2.1 s.2.2.1 s.2.2.2) d (H, x3, x8, x9) = some e) (g0 : ∀ s, e = s → WXH Tryd.prog 18 n0 (Fin Tryd.prog Tryd.f26.results.toList n0 Q) [.code (ct [1, 1, 1] (bodyOf Tryd.f26))] (dir_buckets_l0_X0 B0 s.1 s.2) L) : WXH Tryd.prog 18 n0 (Fin Tryd.prog Tryd.f26.results.toList n0 Q) [.code (ct [1, 1, 0, 1, 0, 0] (bodyOf Tryd.f26)), .lp (ct [1, 1, 0, 1, 0, 0] (bodyOf Tryd.f26)), .blk 0, .code (ct [1, 1, 1] (bodyOf Tryd.f26))] (dir_buckets_l0_I B0 H x3 x8 x9) L :=
  iter_okH (I := fun s => dir_buckets_l0_I B0 s.1 s.2.1 s.2.2.1 s.2.2.2) (D := fun e => (∀ s, e = s → WXH Tryd.prog 18 n0 (Fin Tryd.prog Tryd.f26.results.toList n0 Q) [.code (ct [1, 1, 1] (bodyOf Tryd.f26))] (dir_buckets_l0_X0 B0 s.1 s.2) L)) (fun E hn hx s o ho hE => dir_buckets_l0_s (H := s.1) (x3 := s.2.1) (x8 := s.2.2.1) (x9 := s.2.2.2) ho hn (fun s hs => (hx _ hs) _ rfl)  hE) h g0
theorem dir_buckets_ok {B0 : Kn} {L : Own} {H : Heap} {E : Own} (hH : HR B0 H E) {a0 : Int} {r : Heap × (List Nat)} (h : dir_buckets H a0 = some r) : ∀ st, Hp B0 (E ++ L) st → ASpec Tryd.prog 26 [.int .i64 a0] st (dir_buckets_P B0 L r) := by
  unfold dir_buckets at h
  refine bodyA (A := []) (L := E ++ L) Tryd.func26 rfl (c := bodyOf Tryd.f26) rfl Tryd.ntmps26 (lb rfl) fun n0 => ?_
  have hB := KLw.refl B0
  refine WX.seq ?_
  refine WX.reg ?_
  refine WO.q (.as (v := .sl _ _ _ _ _ _) rfl) rfl rfl ?_
  refine WO.nil ?_
  refine WX.seq ?_
  refine WX.reg ?_
  refine WO.q (.mv (v := .int _ _) rfl) rfl rfl ?_
  obtain ⟨hk4, h⟩ := ifS_some h
  refine WO.md (MOp.mk sl63 rfl rfl hk4.1 hk4.2.1 hk4.2.2 (Rhm HMt.nil)) rfl rfl ?_
  rintro v3 _ ⟨b1, o2, rfl⟩
  obtain ⟨_, _, _, _, _, rfl⟩ := o2.isl
  refine WO.q (.as (v := .sl _ _ _ _ _ _) rfl) rfl rfl ?_
  refine WO.nil ?_
  refine WX.seq ?_
  refine WX.seq ?_
  refine WX.reg ?_
  refine WO.q (.mv (v := .sl _ _ _ _ _ _) rfl) rfl rfl ?_
  refine WO.q (.len rfl rfl rfl (sl63.len o2.isl)) rfl rfl ?_
  refine WO.q (.mv (v := .int _ _) rfl) rfl rfl ?_
  refine WO.nil ?_
  refine WX.block ?_
  refine WX.loop ?_
  obtain ⟨e15, he15, h⟩ := Option.bind_eq_some_iff.1 h
  refine WX.keep [3, 8, 9] (WX.pk [0] (by decide) ?_) rfl
  refine dir_buckets_l0_ok he15 ?_ _ _ _ _ ⟨hB, hH, _, _, false, _, o2, rfl, rfl⟩
  · intro s17 he_
    subst he_
    replace h := h
    rintro _ B _ E ⟨hB, hH, v16, b16, n16, c16, h16, rfl, rfl⟩
    obtain ⟨_, _, _, _, _, rfl⟩ := h16.isl
    refine WX.seq ?_
    refine WX.reg ?_
    refine WO.q (.mv (v := .sl _ _ _ _ _ _) rfl) rfl rfl ?_
    refine WO.q (.as (v := .sl _ _ _ _ _ _) rfl) rfl rfl ?_
    refine WO.nil ?_
    obtain rfl := Option.some.inj h
    exact WX.ret (rs_ (rs_tmp rfl rs_nil)) fun st hp => ⟨_, _, _, hB, (hp.pk [0] (by decide)), _, _, n16, _, rfl, rfl, hH, h16⟩
def strings_shouldUseASCIISet_P (B : Kn) (L : Own) (r : Bool) : AV → St → Prop := CS B L fun v => v = .bool r
theorem strings_shouldUseASCIISet_ok {B0 : Kn} {L : Own} {a0 : Int} {r : Bool} (h : strings_shouldUseASCIISet a0 = some r) : ∀ st, Hp B0 L st → ASpec Tryd.prog 66 [.int .i64 a0] st (strings_shouldUseASCIISet_P B0 L r) := by
  unfold strings_shouldUseASCIISet at h
  refine bodyA (A := []) Tryd.func66 rfl (c := bodyOf Tryd.f66) rfl Tryd.ntmps66 (lb rfl) fun n0 => ?_
  have hB := KLe.refl B0
  refine WX.seq ?_
  refine WX.reg ?_
  refine WO.q (.as (v := .bool _) rfl) rfl rfl ?_
  refine WO.nil ?_
  refine WX.seq ?_
  refine WX.reg ?_
  refine WO.q (.mv (v := .int _ _) rfl) rfl rfl ?_
  refine WO.q (.r fun _ => rfl) rfl rfl ?_
  refine WO.q (.as (v := .bool _) rfl) rfl rfl ?_
  refine WO.nil ?_
  obtain rfl := Option.some.inj h
  exact WX.ret (rs_ (rs_tmp rfl rs_nil)) fun st hp => ⟨(hp.pk [] (by decide)).le hB, rfl⟩
def stringslite_IndexByte_P (B : Kn) (L : Own) (r : Int) : AV → St → Prop := CS B L fun v => v = .int .i64 r
theorem stringslite_IndexByte_ok {B0 : Kn} {L : Own} {a0 : List UInt8} {a1 : Int} {r : Int} (h : stringslite_IndexByte a0 a1 = some r) : ∀ st, Hp B0 L st → ASpec Tryd.prog 88 [.str a0, .int .u8 a1] st (stringslite_IndexByte_P B0 L r) := by
  unfold stringslite_IndexByte at h
  refine bodyA (A := []) Tryd.func88 rfl (c := bodyOf Tryd.f88) rfl Tryd.ntmps88 (lb rfl) fun n0 => ?_
  have hB := KLe.refl B0
  refine WX.seq ?_
  refine WX.reg ?_
  refine WO.q (.as (v := .int _ _) rfl) rfl rfl ?_
  refine WO.nil ?_
  refine WX.seq ?_
  refine WX.reg ?_
  refine WO.q (.mv (v := .str _) rfl) rfl rfl ?_
  refine WO.q (.mv (v := .int _ _) rfl) rfl rfl ?_
  refine WO.q (.idxB rfl rfl rfl Tryd.func89 rfl rfl rfl rfl) rfl rfl ?_
  refine WO.q (.as (v := .int _ _) rfl) rfl rfl ?_
  refine WO.nil ?_
  obtain rfl := Option.some.inj h
  exact WX.ret (rs_ (rs_tmp rfl rs_nil)) fun st hp => ⟨(hp.pk [] (by decide)).le hB, rfl⟩
def strings_IndexByte_P (B : Kn) (L : Own) (r : Int) : AV → St → Prop := CS B L fun v => v = .int .i64 r
theorem strings_IndexByte_ok {B0 : Kn} {L : Own} {a0 : List UInt8} {a1 : Int} {r : Int} (h : strings_IndexByte a0 a1 = some r) : ∀ st, Hp B0 L st → ASpec Tryd.prog 79 [.str a0, .int .u8 a1] st (strings_IndexByte_P B0 L r) := by
  unfold strings_IndexByte at h
  refine bodyA (A := []) Tryd.func79 rfl (c := bodyOf Tryd.f79) rfl Tryd.ntmps79 (lb rfl) fun n0 => ?_
  have hB := KLe.refl B0
  refine WX.seq ?_
  refine WX.reg ?_
  refine WO.q (.as (v := .int _ _) rfl) rfl rfl ?_
  refine WO.nil ?_
  refine WX.seq ?_
  refine WX.reg ?_
  refine WO.q (.mv (v := .str _) rfl) rfl rfl ?_
  refine WO.q (.mv (v := .int _ _) rfl) rfl rfl ?_
  obtain ⟨y1, hy1, h⟩ := Option.bind_eq_some_iff.1 h
  refine WO.cS rfl rfl (stringslite_IndexByte_ok hy1) rfl rfl rfl ?_
  rintro _ rfl
  refine WO.q (.as (v := .int _ _) rfl) rfl rfl ?_
  refine WO.nil ?_
  obtain rfl := Option.some.inj h
  exact WX.ret (rs_ (rs_tmp rfl rs_nil)) fun st hp => ⟨(hp.pk [] (by decide)).le hB, rfl⟩
def unicode_utf8_ValidRune_P (B : Kn) (L : Own) (r : Bool) : AV → St → Prop := CS B L fun v => v = .bool r
def unicode_utf8_ValidRune_j2_I (B0 : Kn) (x10 : Bool) : Fr → Kn → Own → Prop := fun fr B A => KLe B0 B ∧ fr = [(10, .bool x10)] ∧ A = []
def unicode_utf8_ValidRune_j1_I (B0 : Kn) (x0 : Int) (x3 : Bool) : Fr → Kn → Own → Prop := fun fr B A => KLe B0 B ∧ fr = [(0, .int .i32 x0), (3, .bool x3)] ∧ A = []
theorem unicode_utf8_ValidRune_j2_ok {B0 : Kn} {L : Own} {n0 : Nat} {x10 : Bool} {r : Bool} (h : unicode_utf8_ValidRune_j2 x10 = some r) : WXI Tryd.prog 17 n0 (Fin Tryd.prog Tryd.f80.results.toList n0 (unicode_utf8_ValidRune_P B0 L r)) [.code (ct [1, 0, 0, 1, 1, 1] (bodyOf Tryd.f80)), .blk 0, .code (ct [1, 1] (bodyOf Tryd.f80))] (unicode_utf8_ValidRune_j2_I B0 x10) L := by
  unfold unicode_utf8_ValidRune_j2 at h
  rintro _ B _ ⟨hB, rfl, rfl⟩
  rcases bsp x10 with k4 | k4
  · replace h := (if_pos k4).symm.trans h
    refine WX.condT rfl k4 ?_
    refine WX.seq ?_
    refine WX.reg ?_
    refine WO.q (.as (v := .bool _) rfl) rfl rfl ?_
    refine WO.nil ?_
    obtain rfl := Option.some.inj h
    exact WX.ret (rs_ (rs_tmp rfl rs_nil)) fun st hp => ⟨(hp.pk [] (by decide)).le hB, rfl⟩
  · replace h := (if_neg (bnt k4)).symm.trans h
    refine WX.condF rfl k4 ?_
    refine WX.skip ?_
    refine WX.pop ?_
    refine WX.seq ?_
    refine WX.reg ?_
    refine WO.q (.as (v := .bool _) rfl) rfl rfl ?_
    refine WO.nil ?_
    obtain rfl := Option.some.inj h
    exact WX.ret (rs_ (rs_tmp rfl rs_nil)) fun st hp => ⟨(hp.pk [] (by decide)).le hB, rfl⟩
theorem unicode_utf8_ValidRune_j1_ok {B0 : Kn} {L : Own} {n0 : Nat} {x0 : Int} {x3 : Bool} {r : Bool} (h : unicode_utf8_ValidRune_j1 x0 x3 = some r) : WXI Tryd.prog 17 n0 (Fin Tryd.prog Tryd.f80.results.toList n0 (unicode_utf8_ValidRune_P B0 L r)) [.code (ct [1, 0, 0, 1] (bodyOf Tryd.f80)), .blk 0, .code (ct [1, 1] (bodyOf Tryd.f80))] (unicode_utf8_ValidRune_j1_I B0 x0 x3) L := by
  unfold unicode_utf8_ValidRune_j1 at h
  rintro _ B _ ⟨hB, rfl, rfl⟩
  rcases bsp x3 with k2 | k2
  · replace h := (if_pos k2).symm.trans h
    refine WX.condT rfl k2 ?_
    refine WX.seq ?_
    refine WX.reg ?_
    refine WO.q (.as (v := .bool _) rfl) rfl rfl ?_
    refine WO.nil ?_
    obtain rfl := Option.some.inj h
    exact WX.ret (rs_ (rs_tmp rfl rs_nil)) fun st hp => ⟨(hp.pk [] (by decide)).le hB, rfl⟩
  · replace h := (if_neg (bnt k2)).symm.trans h
    refine WX.condF rfl k2 ?_
    refine WX.seq ?_
    refine WX.reg ?_
    refine WO.q (.mv (v := .int _ _) rfl) rfl rfl ?_
    refine WO.q (.r fun _ => rfl) rfl rfl ?_
    refine WO.q (.mv (v := .bool _) rfl) rfl rfl ?_
    rcases bsp (decide (57343 < x0)) with k3 | k3
    · have q_k3 := of_decide_eq_true k3
      replace h := (if_pos q_k3).symm.trans h
      refine WO.q (.mv (v := .int _ _) rfl) (wg rfl rfl (gt k3)) rfl ?_
      refine WO.q (.r fun _ => rfl) (wg rfl rfl (gt k3)) rfl ?_
      refine WO.q (.ptv (v := .bool _) rfl k3 rfl) rfl rfl ?_
      refine WO.q (.as (v := .bool _) rfl) rfl rfl ?_
      refine WO.nil ?_
      refine WX.keep [10] (WX.pk [] (by decide) ?_) rfl
      exact unicode_utf8_ValidRune_j2_ok h _ _ _ ⟨hB, rfl, rfl⟩
    · have q_k3 := of_decide_eq_false k3
      replace h := (if_neg q_k3).symm.trans h
      refine WO.sd (wg rfl rfl (gtn k3)) rfl ?_
      refine WO.sd (wg rfl rfl (gtn k3)) rfl ?_
      refine WO.q (.pfv (v := .bool _) rfl k3 rfl) rfl rfl ?_
      refine WO.q (.as (v := .bool _) rfl) rfl rfl ?_
      refine WO.nil ?_
      refine WX.keep [10] (WX.pk [] (by decide) ?_) rfl
      exact unicode_utf8_ValidRune_j2_ok h _ _ _ ⟨hB, rfl, rfl⟩
theorem unicode_utf8_ValidRune_ok {B0 : Kn} {L : Own} {a0 : Int} {r : Bool} (h : unicode_utf8_ValidRune a0 = some r) : ∀ st, Hp B0 L st → ASpec Tryd.prog 80 [.int .i32 a0] st (unicode_utf8_ValidRune_P B0 L r) := by
  unfold unicode_utf8_ValidRune at h
  refine bodyA (A := []) Tryd.func80 rfl (c := bodyOf Tryd.f80) rfl Tryd.ntmps80 (lb rfl) fun n0 => ?_
  have hB := KLe.refl B0
  refine WX.seq ?_
  refine WX.reg ?_
  refine WO.q (.as (v := .bool _) rfl) rfl rfl ?_
  refine WO.nil ?_
  refine WX.seq ?_
  refine WX.block ?_
  refine WX.seq ?_
  refine WX.reg ?_
  refine WO.q (.mv (v := .int _ _) rfl) rfl rfl ?_
  refine WO.q (.r fun _ => rfl) rfl rfl ?_
  refine WO.q (.mv (v := .bool _) rfl) rfl rfl ?_
  rcases bsp (decide (0 ≤ a0)) with k1 | k1
  · have q_k1 := of_decide_eq_true k1
    replace h := (if_pos q_k1).symm.trans h
    refine WO.q (.mv (v := .int _ _) rfl) (wg rfl rfl (gt k1)) rfl ?_
    refine WO.q (.r fun _ => rfl) (wg rfl rfl (gt k1)) rfl ?_
    refine WO.q (.ptv (v := .bool _) rfl k1 rfl) rfl rfl ?_
    refine WO.q (.as (v := .bool _) rfl) rfl rfl ?_
    refine WO.nil ?_
    refine WX.keep [0, 3] (WX.pk [] (by decide) ?_) rfl
    exact unicode_utf8_ValidRune_j1_ok h _ _ _ ⟨hB, rfl, rfl⟩
  · have q_k1 := of_decide_eq_false k1
    replace h := (if_neg q_k1).symm.trans h
    refine WO.sd (wg rfl rfl (gtn k1)) rfl ?_
    refine WO.sd (wg rfl rfl (gtn k1)) rfl ?_
    refine WO.q (.pfv (v := .bool _) rfl k1 rfl) rfl rfl ?_
    refine WO.q (.as (v := .bool _) rfl) rfl rfl ?_
    refine WO.nil ?_
    refine WX.keep [0, 3] (WX.pk [] (by decide) ?_) rfl
    exact unicode_utf8_ValidRune_j1_ok h _ _ _ ⟨hB, rfl, rfl⟩
def crc_Sum16_P (B : Kn) (L : Own) (r : Int) : AV → St → Prop := CS B L fun v => v = .int .u16 r
def crc_Sum16_j13_I (B0 : Kn) (x0 : List UInt8) (x3 : Int) (x8 : Int) (x18 : Int) : Fr → Kn → Own → Prop := fun fr B A => KLe B0 B ∧ fr = [(0, .str x0), (3, .int .u16 x3), (7, .int .i64 (x0.length : Int)), (8, .int .i64 x8), (18, .int .i64 x18)] ∧ A = []
def crc_Sum16_l1_I (B0 : Kn) (x0 : List UInt8) (x3 : Int) (x8 : Int) (x18 : Int) : Fr → Kn → Own → Prop := fun fr B A => KLe B0 B ∧ fr = [(0, .str x0), (3, .int .u16 x3), (7, .int .i64 (x0.length : Int)), (8, .int .i64 x8), (18, .int .i64 x18)] ∧ A = []
def crc_Sum16_l1_X0 (B0 : Kn) (x0 : List UInt8) (x3 : Int) (x8 : Int) : Fr → Kn → Own → Prop := fun fr B A => KLe B0 B ∧ fr = [(0, .str x0), (3, .int .u16 x3), (7, .int .i64 (x0.length : Int)), (8, .int .i64 x8)] ∧ A = []
def crc_Sum16_l0_I (B0 : Kn) (x0 : List UInt8) (x3 : Int) (x8 : Int) : Fr → Kn → Own → Prop := fun fr B A => KLe B0 B ∧ fr = [(0, .str x0), (3, .int .u16 x3), (7, .int .i64 (x0.length : Int)), (8, .int .i64 x8)] ∧ A = []
def crc_Sum16_l0_X0 (B0 : Kn) (x3 : Int) : Fr → Kn → Own → Prop := fun fr B A => KLe B0 B ∧ fr = [(3, .int .u16 x3)] ∧ A = []
theorem crc_Sum16_j13_ok {B0 : Kn} {L : Own} {n0 : Nat} {x0 : List UInt8} {x3 : Int} {x8 : Int} {x18 : Int} {Q : AV → St → Prop} {E : (Int × Int × Int) ⊕ (Int × Int) → Prop} {o : (Int × Int × Int) ⊕ (Int × Int)} (h : crc_Sum16_j13 x0 x3 x8 x18 = some o) (hn : ∀ s, E (.inl s) → WXI Tryd.prog 31 n0 (Fin Tryd.prog Tryd.f41.results.toList n0 Q) [.lp (ct [1, 1, 0, 1, 0, 0, 1, 1, 0, 0, 1, 1, 1, 0, 0] (bodyOf Tryd.f41)), .blk 2, .blk 1, .code (ct [1, 1, 0, 1, 0, 0, 1, 1, 1] (bodyOf Tryd.f41)), .lp (ct [1, 1, 0, 1, 0, 0] (bodyOf Tryd.f41)), .blk 0, .code (ct [1, 1, 1] (bodyOf Tryd.f41))] (crc_Sum16_l1_I B0 x0 s.1 s.2.1 s.2.2) L) (hx0 : ∀ s, E (.inr s) → WXI Tryd.prog 31 n0 (Fin Tryd.prog Tryd.f41.results.toList n0 Q) [.code (ct [1, 1, 0, 1, 0, 0, 1, 1, 1] (bodyOf Tryd.f41)), .lp (ct [1, 1, 0, 1, 0, 0] (bodyOf Tryd.f41)), .blk 0, .code (ct [1, 1, 1] (bodyOf Tryd.f41))] (crc_Sum16_l1_X0 B0 x0 s.1 s.2) L) (hE : E o) : WXI Tryd.prog 31 n0 (Fin Tryd.prog Tryd.f41.results.toList n0 Q) [.code (ct [1, 1, 0, 1, 0, 0, 1, 1, 0, 0, 1, 1, 1, 0, 0, 1, 1, 1] (bodyOf Tryd.f41)), .lp (ct [1, 1, 0, 1, 0, 0, 1, 1, 0, 0, 1, 1, 1, 0, 0] (bodyOf Tryd.f41)), .blk 2, .blk 1, .code (ct [1, 1, 0, 1, 0, 0, 1, 1, 1] (bodyOf Tryd.f41)), .lp (ct [1, 1, 0, 1, 0, 0] (bodyOf Tryd.f41)), .blk 0, .code (ct [1, 1, 1] (bodyOf Tryd.f41))] (crc_Sum16_j13_I B0 x0 x3 x8 x18) L := by
  unfold crc_Sum16_j13 at h
  rintro _ B _ ⟨hB, rfl, rfl⟩
  refine WX.reg ?_
  refine WO.q (.r fun _ => rfl) rfl rfl ?_
  refine WO.q (.mv (v := .int _ _) rfl) rfl rfl ?_
  refine WO.nil ?_
  refine WX.keepL [0, 3, 7, 8, 18] (WX.pk [] (by decide) ?_) rfl
  obtain rfl := Option.some.inj h
  exact hn _ hE _ _ _ ⟨hB, rfl, rfl⟩
theorem crc_Sum16_l1_s {B0 : Kn} {L : Own} {n0 : Nat} {x0 : List UInt8} {x3 : Int} {x8 : Int} {x18 : Int} {Q : AV → St → Prop} {E : (Int × Int × Int) ⊕ (Int × Int) → Prop} {o : (Int × Int × Int) ⊕ (Int × Int)} (h : crc_Sum16_l1 x0 x3 x8 x18 = some o) (hn : ∀ s, E (.inl s) → WXI Tryd.prog 31 n0 (Fin Tryd.prog Tryd.f41.results.toList n0 Q) [.lp (ct [1, 1, 0, 1, 0, 0, 1, 1, 0, 0, 1, 1, 1, 0, 0] (bodyOf Tryd.f41)), .blk 2, .blk 1, .code (ct [1, 1, 0, 1, 0, 0, 1, 1, 1] (bodyOf Tryd.f41)), .lp (ct [1, 1, 0, 1, 0, 0] (bodyOf Tryd.f41)), .blk 0, .code (ct [1, 1, 1] (bodyOf Tryd.f41))] (crc_Sum16_l1_I B0 x0 s.1 s.2.1 s.2.2) L) (hx0 : ∀ s, E (.inr s) → WXI Tryd.prog 31 n0 (Fin Tryd.prog Tryd.f41.results.toList n0 Q) [.code (ct [1, 1, 0, 1, 0, 0, 1, 1, 1] (bodyOf Tryd.f41)), .lp (ct [1, 1, 0, 1, 0, 0] (bodyOf Tryd.f41)), .blk 0, .code (ct [1, 1, 1] (bodyOf Tryd.f41))] (crc_Sum16_l1_X0 B0 x0 s.1 s.2) L) (hE : E o) : WXI Tryd.prog 31 n0 (Fin Tryd.prog Tryd.f41.results.toList n0 Q) [.code (ct [1, 1, 0, 1, 0, 0, 1, 1, 0, 0, 1, 1, 1, 0, 0] (bodyOf Tryd.f41)), .lp (ct [1, 1, 0, 1, 0, 0, 1, 1, 0, 0, 1, 1, 1, 0, 0] (bodyOf Tryd.f41)), .blk 2, .blk 1, .code (ct [1, 1, 0, 1, 0, 0, 1, 1, 1] (bodyOf Tryd.f41)), .lp (ct [1, 1, 0, 1, 0, 0] (bodyOf Tryd.f41)), .blk 0, .code (ct [1, 1, 1] (bodyOf Tryd.f41))] (crc_Sum16_l1_I B0 x0 x3 x8 x18) L := by
  unfold crc_Sum16_l1 at h
  rintro _ B _ ⟨hB, rfl, rfl⟩
  refine WX.seq ?_
  refine WX.reg ?_
  refine WO.q (.r fun _ => rfl) rfl rfl ?_
  refine WO.nil ?_
  refine WX.seq ?_
  rcases bsp (decide (x18 < 8)) with k3 | k3
  · have q_k3 := of_decide_eq_true k3
    replace h := (if_pos q_k3).symm.trans h
    refine WX.condT rfl k3 ?_
    refine WX.skip ?_
    refine WX.seq ?_
    refine WX.block ?_
    refine WX.seq ?_
    refine WX.reg ?_
    refine WO.q (.mv (v := .int _ _) rfl) rfl rfl ?_
    refine WO.q (.r fun _ => rfl) rfl rfl ?_
    refine WO.q (.as (v := .int _ _) rfl) rfl rfl ?_
    refine WO.nil ?_
    refine WX.seq ?_
    refine WX.reg ?_
    refine WO.q (.mv (v := .int _ _) rfl) rfl rfl ?_
    refine WO.q (.r fun _ => rfl) rfl rfl ?_
    refine WO.q (.as (v := .int _ _) rfl) rfl rfl ?_
    refine WO.nil ?_
    refine WX.seq ?_
    refine WX.reg ?_
    refine WO.q (.mv (v := .int _ _) rfl) rfl rfl ?_
    refine WO.q (.r fun _ => rfl) rfl rfl ?_
    refine WO.nil ?_
    rcases bsp (decide ((bitsA .and .u16 x3 32768) ≠ 0)) with k4 | k4
    · have q_k4 := of_decide_eq_true k4
      replace h := (if_pos q_k4).symm.trans h
      refine WX.condT rfl k4 ?_
      refine WX.reg ?_
      refine WO.q (.mv (v := .int _ _) rfl) rfl rfl ?_
      refine WO.q (.r fun _ => rfl) rfl rfl ?_
      refine WO.q (.as (v := .int _ _) rfl) rfl rfl ?_
      refine WO.nil ?_
      refine WX.pop ?_
      refine WX.keep [0, 3, 7, 8, 18] (WX.pk [] (by decide) ?_) rfl
      exact crc_Sum16_j13_ok h hn hx0 hE _ _ _ ⟨hB, rfl, rfl⟩
    · have q_k4 := of_decide_eq_false k4
      replace h := (if_neg q_k4).symm.trans h
      refine WX.condF rfl k4 ?_
      refine WX.skip ?_
      refine WX.pop ?_
      refine WX.keep [0, 3, 7, 8, 18] (WX.pk [] (by decide) ?_) rfl
      exact crc_Sum16_j13_ok h hn hx0 hE _ _ _ ⟨hB, rfl, rfl⟩
  · have q_k3 := of_decide_eq_false k3
    replace h := (if_neg q_k3).symm.trans h
    refine WX.condF rfl k3 ?_
    refine WX.exit rfl ?_
    refine WX.pop ?_
    refine WX.keep [0, 3, 7, 8] (WX.pk [] (by decide) ?_) rfl
    obtain rfl := Option.some.inj h
    exact hx0 _ hE _ _ _ ⟨hB, rfl, rfl⟩
theorem crc_Sum16_l1_ok {B0 : Kn} {L : Own} {n0 : Nat} {x0 : List UInt8} {x3 : Int} {x8 : Int} {x18 : Int} {Q : AV → St → Prop} {d : Nat} {e : (Int × Int)} (h : iter (fun (s : Int × Int × Int) => crc_Sum16_l1 x0 s.1 s.2.1 s.2.2) d (x3, x8, x18) = some e) (g0 : ∀ s, e = s → WXI Tryd.prog 31 n0 (Fin Tryd.prog Tryd.f41.results.toList n0 Q) [.code (ct [1, 1, 0, 1, 0, 0, 1, 1, 1] (bodyOf Tryd.f41)), .lp (ct [1, 1, 0, 1, 0, 0] (bodyOf Tryd.f41)), .blk 0, .code (ct [1, 1, 1] (bodyOf Tryd.f41))] (crc_Sum16_l1_X0 B0 x0 s.1 s.2) L) : WXI Tryd.prog 31 n0 (Fin Tryd.prog Tryd.f41.results.toList n0 Q) [.code (ct [1, 1, 0, 1, 0, 0, 1, 1, 0, 0, 1, 1, 1, 0, 0] (bodyOf Tryd.f41)), .lp (ct [1, 1, 0, 1, 0, 0, 1, 1, 0, 0, 1, 1, 1, 0, 0] (bodyOf Tryd.f41)), .blk 2, .blk 1, .code (ct [1, 1, 0, 1, 0, 0, 1, 1, 1] (bodyOf Tryd.f41)), .lp (ct [1, 1, 0, 1, 0, 0] (bodyOf Tryd.f41)), .blk 0, .code (ct [1, 1, 1] (bodyOf Tryd.f41))] (crc_Sum16_l1_I B0 x0 x3 x8 x18) L :=
  iter_ok (I := fun s => crc_Sum16_l1_I B0 x0 s.1 s.2.1 s.2.2) (D := fun e => (∀ s, e = s → WXI Tryd.prog 31 n0 (Fin Tryd.prog Tryd.f41.results.toList n0 Q) [.code (ct [1, 1, 0, 1, 0, 0, 1, 1, 1] (bodyOf Tryd.f41)), .lp (ct [1, 1, 0, 1, 0, 0] (bodyOf Tryd.f41)), .blk 0, .code (ct [1, 1, 1] (bodyOf Tryd.f41))] (crc_Sum16_l1_X0 B0 x0 s.1 s.2) L)) (fun E hn hx s o ho hE => crc_Sum16_l1_s (x3 := s.1) (x8 := s.2.1) (x18 := s.2.2) ho hn (fun s hs => (hx _ hs) _ rfl)  hE) h g0
theorem crc_Sum16_l0_s {B0 : Kn} {L : Own} {n0 : Nat} {x0 : List UInt8} {x3 : Int} {x8 : Int} {Q : AV → St → Prop} {E : (Int × Int) ⊕ Int → Prop} {o : (Int × Int) ⊕ Int} (h : crc_Sum16_l0 x0 x3 x8 = some o) (hn : ∀ s, E (.inl s) → WXI Tryd.prog 31 n0 (Fin Tryd.prog Tryd.f41.results.toList n0 Q) [.lp (ct [1, 1, 0, 1, 0, 0] (bodyOf Tryd.f41)), .blk 0, .code (ct [1, 1, 1] (bodyOf Tryd.f41))] (crc_Sum16_l0_I B0 x0 s.1 s.2) L) (hx0 : ∀ s, E (.inr s) → WXI Tryd.prog 31 n0 (Fin Tryd.prog Tryd.f41.results.toList n0 Q) [.code (ct [1, 1, 1] (bodyOf Tryd.f41))] (crc_Sum16_l0_X0 B0 s) L) (hE : E o) : WXI Tryd.prog 31 n0 (Fin Tryd.prog Tryd.f41.results.toList n0 Q) [.code (ct [1, 1, 0, 1, 0, 0] (bodyOf Tryd.f41)), .lp (ct [1, 1, 0, 1, 0, 0] (bodyOf Tryd.f41)), .blk 0, .code (ct [1, 1, 1] (bodyOf Tryd.f41))] (crc_Sum16_l0_I B0 x0 x3 x8) L := by
  unfold crc_Sum16_l0 at h
  rintro _ B _ ⟨hB, rfl, rfl⟩
  refine WX.seq ?_
  refine WX.reg ?_
  refine WO.q (.r fun _ => rfl) rfl rfl ?_
  refine WO.nil ?_
  refine WX.seq ?_
  rcases bsp (decide (x8 < (x0.length : Int))) with k1 | k1
  · have q_k1 := of_decide_eq_true k1
    replace h := (if_pos q_k1).symm.trans h
    refine WX.condT rfl k1 ?_
    refine WX.skip ?_
    refine WX.seq ?_
    refine WX.block ?_
    refine WX.seq ?_
    refine WX.reg ?_
    refine WO.q (.mv (v := .int _ _) rfl) rfl rfl ?_
    refine WO.q (.as (v := .int _ _) rfl) rfl rfl ?_
    refine WO.nil ?_
    refine WX.seq ?_
    refine WX.reg ?_
    refine WO.q (.mv (v := .int _ _) rfl) rfl rfl ?_
    refine WO.q (.mv (v := .str _) rfl) rfl rfl ?_
    refine WO.q (.mv (v := .int _ _) rfl) rfl rfl ?_
    obtain ⟨y2, hy2, h⟩ := Option.bind_eq_some_iff.1 h
    refine WO.q (.ix (evsix ti9 rfl hy2 _)) rfl rfl ?_
    refine WO.q (cvI ti5 ti27 rfl rfl) rfl rfl ?_
    refine WO.q (.r fun _ => rfl) rfl rfl ?_
    refine WO.q (.r fun _ => rfl) rfl rfl ?_
    refine WO.q (.as (v := .int _ _) rfl) rfl rfl ?_
    refine WO.nil ?_
    refine WX.seq ?_
    refine WX.reg ?_
    refine WO.q (.mv (v := .int _ _) rfl) rfl rfl ?_
    refine WO.nil ?_
    refine WX.block ?_
    refine WX.loop ?_
    obtain ⟨e5, he5, h⟩ := Option.bind_eq_some_iff.1 h
    refine WX.keep [0, 3, 7, 8, 18] (WX.pk [] (by decide) ?_) rfl
    refine crc_Sum16_l1_ok he5 ?_ _ _ _ ⟨hB, rfl, rfl⟩
    · intro s6 he_
      subst he_
      replace h := h
      rintro _ B _ ⟨hB, rfl, rfl⟩
      refine WX.reg ?_
      refine WO.q (.r fun _ => rfl) rfl rfl ?_
      refine WO.q (.mv (v := .int _ _) rfl) rfl rfl ?_
      refine WO.nil ?_
      refine WX.keepL [0, 3, 7, 8] (WX.pk [] (by decide) ?_) rfl
      obtain rfl := Option.some.inj h
      exact hn _ hE _ _ _ ⟨hB, rfl, rfl⟩
  · have q_k1 := of_decide_eq_false k1
    replace h := (if_neg q_k1).symm.trans h
    refine WX.condF rfl k1 ?_
    refine WX.exit rfl ?_
    refine WX.keep [3] (WX.pk [] (by decide) ?_) rfl
    obtain rfl := Option.some.inj h
    exact hx0 _ hE _ _ _ ⟨hB, rfl, rfl⟩
theorem crc_Sum16_l0_ok {B0 : Kn} {L : Own} {n0 : Nat} {x0 : List UInt8} {x3 : Int} {x8 : Int} {Q : AV → St → Prop} {d : Nat} {e : Int} (h : iter (fun (s : Int × Int) => crc_Sum16_l0 x0 s.1 s.2) d (x3, x8) = some e) (g0 : ∀ s, e = s → WXI Tryd.prog 31 n0 (Fin Tryd.prog Tryd.f41.results.toList n0 Q) [.code (ct [1, 1, 1] (bodyOf Tryd.f41))] (crc_Sum16_l0_X0 B0 s) L) : WXI Tryd.prog 31 n0 (Fin Tryd.prog Tryd.f41.results.toList n0 Q) [.code (ct [1, 1, 0, 1, 0, 0] (bodyOf Tryd.f41)), .lp (ct [1, 1, 0, 1, 0, 0] (bodyOf Tryd.f41)), .blk 0, .code (ct [1, 1, 1] (bodyOf Tryd.f41))] (crc_Sum16_l0_I B0 x0 x3 x8) L :=
  iter_ok (I := fun s => crc_Sum16_l0_I B0 x0 s.1 s.2) (D := fun e => (∀ s, e = s → WXI Tryd.prog 31 n0 (Fin Tryd.prog Tryd.f41.results.toList n0 Q) [.code (ct [1, 1, 1] (bodyOf Tryd.f41))] (crc_Sum16_l0_X0 B0 s) L)) (fun E hn hx s o ho hE => crc_Sum16_l0_s (x3 := s.1) (x8 := s.2) ho hn (fun s hs => (hx _ hs) _ rfl)  hE) h g0
theorem crc_Sum16_ok {B0 : Kn} {L : Own} {a0 : List UInt8} {r : Int} (h : crc_Sum16 a0 = some r) : ∀ st, Hp B0 L st → ASpec Tryd.prog 41 [.str a0] st (crc_Sum16_P B0 L r) := by
  unfold crc_Sum16 at h
  refine bodyA (A := []) Tryd.func41 rfl (c := bodyOf Tryd.f41) rfl Tryd.ntmps41 (lb rfl) fun n0 => ?_
  have hB := KLe.refl B0
  refine WX.seq ?_
  refine WX.reg ?_
  refine WO.q (.as (v := .int _ _) rfl) rfl rfl ?_
  refine WO.nil ?_
  refine WX.seq ?_
  refine WX.reg ?_
  refine WO.q (.as (v := .int _ _) rfl) rfl rfl ?_
  refine WO.nil ?_
  refine WX.seq ?_
  refine WX.seq ?_
  refine WX.reg ?_
  refine WO.q (.mv (v := .str _) rfl) rfl rfl ?_
  refine WO.q (.len rfl rfl rfl (evslen ti9 rfl _)) rfl rfl ?_
  refine WO.q (.mv (v := .int _ _) rfl) rfl rfl ?_
  refine WO.nil ?_
  refine WX.block ?_
  refine WX.loop ?_
  obtain ⟨e7, he7, h⟩ := Option.bind_eq_some_iff.1 h
  refine WX.keep [0, 3, 7, 8] (WX.pk [] (by decide) ?_) rfl
  refine crc_Sum16_l0_ok he7 ?_ _ _ _ ⟨hB, rfl, rfl⟩
  · intro s8 he_
    subst he_
    replace h := h
    rintro _ B _ ⟨hB, rfl, rfl⟩
    refine WX.seq ?_
    refine WX.reg ?_
    refine WO.q (.mv (v := .int _ _) rfl) rfl rfl ?_
    refine WO.q (.as (v := .int _ _) rfl) rfl rfl ?_
    refine WO.nil ?_
    obtain rfl := Option.some.inj h
    exact WX.ret (rs_ (rs_tmp rfl rs_nil)) fun st hp => ⟨(hp.pk [] (by decide)).le hB, rfl⟩
def dir_Dir_bucket_P (B : Kn) (L : Own) (r : Nat) : AV → St → Prop := C0 B L fun B' v => ∃ wp0, v = wp0 ∧ HMt B' 26 wp0 r
theorem dir_Dir_bucket_ok {B0 : Kn} {L : Own} {H : Heap} {Eh : Own} (hH : HR B0 H Eh) {a0 : Nat} {a1 : List UInt8} {v0_0 : AV} (g0_0 : HPt B0 66 v0_0 a0) {r : Nat} (h : dir_Dir_bucket H a0 a1 = some r) : ∀ st, Hp B0 (Eh ++ L) st → ASpec Tryd.prog 30 [v0_0, .str a1] st (dir_Dir_bucket_P B0 (Eh ++ L) r) := by
  unfold dir_Dir_bucket at h
  refine bodyA (A := []) (L := Eh ++ L) Tryd.func30 rfl (c := bodyOf Tryd.f30) rfl Tryd.ntmps30 (lb rfl) fun n0 => ?_
  have hB := KLe.refl B0
  have hH0 := hH
  refine WX.seq ?_
  refine WX.reg ?_
  refine WO.q (.as (v := .nilmap) rfl) rfl rfl ?_
  refine WO.nil ?_
  refine WX.seq ?_
  refine WX.drw (Plan.of [0, 1, 2, 3, 4, 7, 8, 9, 10, 11, 5, 6, 12, 13, 14, 15] .nil) _ mixed (by kernel_rfl) rfl (subE (pk_sub [])) ?_
  refine WP.q (i := 0) rfl (.mv (v := v0_0) rfl) rfl rfl rfl ?_
  obtain ⟨y1, hy1, h⟩ := Option.bind_eq_some_iff.1 h
  obtain ⟨b_y1, c_y1, e_y1, m_y1, r_y1, u_y1⟩ := hgetS (foc66 hH) g0_0 hy1
  subst e_y1
  obtain ⟨_, _, rfl, ⟨w2, rfl, hw2⟩, rfl⟩ := r_y1
  obtain ⟨_, _, _, _, _, rfl⟩ := hw2.isl
  refine WP.q (i := 1) rfl (.r fun _ => rfl) rfl rfl rfl ?_
  refine WP.q (i := 2) rfl (.fa (fa66_0 _ _)) rfl rfl rfl ?_
  refine WP.q (i := 3) rfl (.ldSm rfl (inM m_y1) rfl ti63 rfl) rfl rfl rfl ?_
  refine WP.q (i := 4) rfl (.mv (v := .str _) rfl) rfl rfl rfl ?_
  refine WP.q (i := 7) rfl (.mv (v := .ptr b_y1 0) rfl) rfl rfl rfl ?_
  refine WP.q (i := 8) rfl (.r fun _ => rfl) rfl rfl rfl ?_
  refine WP.q (i := 9) rfl (.fa (fa66_0 _ _)) rfl rfl rfl ?_
  refine WP.q (i := 10) rfl (.ldSm rfl (inM m_y1) rfl ti63 rfl) rfl rfl rfl ?_
  refine WP.q (i := 11) rfl (.len rfl rfl rfl (sl63.len hw2.isl)) (isQl rfl rfl ti63 rfl) rfl rfl ?_
  obtain ⟨y3, hy3, h⟩ := Option.bind_eq_some_iff.1 h
  refine WP.cS (i := 5) rfl rfl rfl (crc_Sum16_ok hy3) rfl rfl rfl ?_
  rintro _ rfl
  refine WP.q (i := 6) rfl (cvI ti27 ti3 rfl rfl) (isQc ti27 ti3 rfl) rfl rfl ?_
  obtain ⟨hk4, h⟩ := ifS_some h
  refine WP.q (i := 12) rfl (.bin (evrem hk4)) rfl rfl rfl ?_
  obtain ⟨y5, hy5, h⟩ := Option.bind_eq_some_iff.1 h
  obtain ⟨b_y5, o_y5, _, i_y5, p_y5, r_y5⟩ := hw2.at sl63 hy5 .i64
  obtain ⟨w6, rfl, hw6⟩ := r_y5
  refine WP.q (i := 13) rfl (.ia i_y5) rfl rfl rfl ?_
  refine WP.q (i := 14) rfl (.lp0 rfl p_y5 rfl ti26 rfl) rfl rfl rfl ?_
  refine WP.q (i := 15) rfl (.as (v := w6) rfl) rfl rfl rfl ?_
  refine WP.nil ?_
  obtain rfl := Option.some.inj h
  exact WX.ret (rs_ (rs_tmp rfl rs_nil)) fun st hp => ⟨_, hB, (hp.pk [] (by decide)), _, rfl, hw6⟩
def cmp_isNaN_string_P (B : Kn) (L : Own) (r : Bool) : AV → St → Prop := CS B L fun v => v = .bool r
theorem cmp_isNaN_string_ok {B0 : Kn} {L : Own} {a0 : List UInt8} {r : Bool} (h : cmp_isNaN_string a0 = some r) : ∀ st, Hp B0 L st → ASpec Tryd.prog 44 [.str a0] st (cmp_isNaN_string_P B0 L r) := by
  unfold cmp_isNaN_string at h
  refine bodyA (A := []) Tryd.func44 rfl (c := bodyOf Tryd.f44) rfl Tryd.ntmps44 (lb rfl) fun n0 => ?_
  have hB := KLe.refl B0
  refine WX.seq ?_
  refine WX.reg ?_
  refine WO.q (.as (v := .bool _) rfl) rfl rfl ?_
  refine WO.nil ?_
  refine WX.seq ?_
  refine WX.reg ?_
  refine WO.q (.mv (v := .str _) rfl) rfl rfl ?_
  refine WO.q (.mv (v := .str _) rfl) rfl rfl ?_
  refine WO.q (.r fun _ => rfl) rfl rfl ?_
  refine WO.q (.as (v := .bool _) rfl) rfl rfl ?_
  refine WO.nil ?_
  obtain rfl := Option.some.inj h
  exact WX.ret (rs_ (rs_tmp rfl rs_nil)) fun st hp => ⟨(hp.pk [] (by decide)).le hB, rfl⟩
def cmp_Compare_string_P (B : Kn) (L : Own) (r : Int) : AV → St → Prop := CS B L fun v => v = .int .i64 r
theorem cmp_Compare_string_ok {B0 : Kn} {L : Own} {a0 : List UInt8} {a1 : List UInt8} {r : Int} (h : cmp_Compare_string a0 a1 = some r) : ∀ st, Hp B0 L st → ASpec Tryd.prog 33 [.str a0, .str a1] st (cmp_Compare_string_P B0 L r) := by
  unfold cmp_Compare_string at h
  refine bodyA (A := []) Tryd.func33 rfl (c := bodyOf Tryd.f33) rfl Tryd.ntmps33 (lb rfl) fun n0 => ?_
  have hB := KLe.refl B0
  refine WX.seq ?_
  refine WX.reg ?_
  refine WO.q (.as (v := .int _ _) rfl) rfl rfl ?_
  refine WO.nil ?_
  refine WX.seq ?_
  refine WX.reg ?_
  refine WO.q (.mv (v := .str _) rfl) rfl rfl ?_
  obtain ⟨y1, hy1, h⟩ := Option.bind_eq_some_iff.1 h
  refine WO.cS rfl rfl (cmp_isNaN_string_ok hy1) rfl rfl rfl ?_
  rintro _ rfl
  refine WO.q (.as (v := .bool _) rfl) rfl rfl ?_
  refine WO.nil ?_
  refine WX.seq ?_
  refine WX.reg ?_
  refine WO.q (.mv (v := .str _) rfl) rfl rfl ?_
  obtain ⟨y2, hy2, h⟩ := Option.bind_eq_some_iff.1 h
  refine WO.cS rfl rfl (cmp_isNaN_string_ok hy2) rfl rfl rfl ?_
  rintro _ rfl
  refine WO.q (.as (v := .bool _) rfl) rfl rfl ?_
  refine WO.nil ?_
  refine WX.seq ?_
  refine WX.seq ?_
  refine WX.reg ?_
  refine WO.q (.mv (v := .bool _) rfl) rfl rfl ?_
  refine WO.nil ?_
  rcases bsp y1 with k3 | k3
  · replace h := (if_pos k3).symm.trans h
    refine WX.condT rfl k3 ?_
    refine WX.seq ?_
    refine WX.seq ?_
    refine WX.reg ?_
    refine WO.q (.mv (v := .bool _) rfl) rfl rfl ?_
    refine WO.nil ?_
    rcases bsp y2 with k4 | k4
    · replace h := (if_pos k4).symm.trans h
      refine WX.condT rfl k4 ?_
      refine WX.seq ?_
      refine WX.reg ?_
      refine WO.q (.as (v := .int _ _) rfl) rfl rfl ?_
      refine WO.nil ?_
      obtain rfl := Option.some.inj h
      exact WX.ret (rs_ (rs_tmp rfl rs_nil)) fun st hp => ⟨(hp.pk [] (by decide)).le hB, rfl⟩
    · replace h := (if_neg (bnt k4)).symm.trans h
      refine WX.condF rfl k4 ?_
      refine WX.skip ?_
      refine WX.seq ?_
      refine WX.reg ?_
      refine WO.q (.as (v := .int _ _) rfl) rfl rfl ?_
      refine WO.nil ?_
      obtain rfl := Option.some.inj h
      exact WX.ret (rs_ (rs_tmp rfl rs_nil)) fun st hp => ⟨(hp.pk [] (by decide)).le hB, rfl⟩
  · replace h := (if_neg (bnt k3)).symm.trans h
    refine WX.condF rfl k3 ?_
    refine WX.skip ?_
    refine WX.seq ?_
    refine WX.seq ?_
    refine WX.reg ?_
    refine WO.q (.mv (v := .bool _) rfl) rfl rfl ?_
    refine WO.nil ?_
    rcases bsp y2 with k5 | k5
    · replace h := (if_pos k5).symm.trans h
      refine WX.condT rfl k5 ?_
      refine WX.seq ?_
      refine WX.reg ?_
      refine WO.q (.as (v := .int _ _) rfl) rfl rfl ?_
      refine WO.nil ?_
      obtain rfl := Option.some.inj h
      exact WX.ret (rs_ (rs_tmp rfl rs_nil)) fun st hp => ⟨(hp.pk [] (by decide)).le hB, rfl⟩
    · replace h := (if_neg (bnt k5)).symm.trans h
      refine WX.condF rfl k5 ?_
      refine WX.skip ?_
      refine WX.seq ?_
      refine WX.seq ?_
      refine WX.reg ?_
      refine WO.q (.mv (v := .str _) rfl) rfl rfl ?_
      refine WO.q (.mv (v := .str _) rfl) rfl rfl ?_
      refine WO.q (.r fun _ => rfl) rfl rfl ?_
      refine WO.nil ?_
      rcases bsp (Op.bytesLess a0 a1) with k6 | k6
      · replace h := (if_pos k6).symm.trans h
        refine WX.condT rfl k6 ?_
        refine WX.seq ?_
        refine WX.reg ?_
        refine WO.q (.as (v := .int _ _) rfl) rfl rfl ?_
        refine WO.nil ?_
        obtain rfl := Option.some.inj h
        exact WX.ret (rs_ (rs_tmp rfl rs_nil)) fun st hp => ⟨(hp.pk [] (by decide)).le hB, rfl⟩
      · replace h := (if_neg (bnt k6)).symm.trans h
        refine WX.condF rfl k6 ?_
        refine WX.skip ?_
        refine WX.seq ?_
        refine WX.seq ?_
        refine WX.reg ?_
        refine WO.q (.mv (v := .str _) rfl) rfl rfl ?_
        refine WO.q (.mv (v := .str _) rfl) rfl rfl ?_
        refine WO.q (.r fun _ => rfl) rfl rfl ?_
        refine WO.nil ?_
        rcases bsp ((Op.bytesLess a0 a1) || decide (a0 = a1)) with k7 | k7
        · replace h := (if_pos k7).symm.trans h
          refine WX.condF rfl (f_not k7) ?_
          refine WX.skip ?_
          refine WX.seq ?_
          refine WX.reg ?_
          refine WO.q (.as (v := .int _ _) rfl) rfl rfl ?_
          refine WO.nil ?_
          obtain rfl := Option.some.inj h
          exact WX.ret (rs_ (rs_tmp rfl rs_nil)) fun st hp => ⟨(hp.pk [] (by decide)).le hB, rfl⟩
        · replace h := (if_neg (bnt k7)).symm.trans h
          refine WX.condT rfl (t_not k7) ?_
          refine WX.seq ?_
          refine WX.reg ?_
          refine WO.q (.as (v := .int _ _) rfl) rfl rfl ?_
          refine WO.nil ?_
          obtain rfl := Option.some.inj h
          exact WX.ret (rs_ (rs_tmp rfl rs_nil)) fun st hp => ⟨(hp.pk [] (by decide)).le hB, rfl⟩
def dir_Dir_List_1_P (B : Kn) (L : Own) (r : Int) : AV → St → Prop := CS B L fun v => v = .int .i64 r
theorem dir_Dir_List_1_ok {B0 : Kn} {L : Own} {a0 : (List UInt8) × Int} {a1 : (List UInt8) × Int} {r : Int} (h : dir_Dir_List_1 a0 a1 = some r) : ∀ st, Hp B0 L st → ASpec Tryd.prog 32 [.agg [.str a0.1, .int .i64 a0.2], .agg [.str a1.1, .int .i64 a1.2]] st (dir_Dir_List_1_P B0 L r) := by
  unfold dir_Dir_List_1 at h
  refine bodyA (A := []) Tryd.func32 rfl (c := bodyOf Tryd.f32) rfl Tryd.ntmps32 (lb rfl) fun n0 => ?_
  have hB := KLe.refl B0
  refine WX.seq ?_
  refine WX.reg ?_
  refine WO.md (MOp.box (cA rfl)) rfl rfl ?_
  rintro _ _ ⟨b1, rfl, rfl⟩
  refine WO.md (MOp.box (cA rfl)) rfl rfl ?_
  rintro _ _ ⟨b2, rfl, rfl⟩
  refine WO.q (.as (v := .int _ _) rfl) rfl rfl ?_
  refine WO.nil ?_
  refine WX.seq ?_
  refine WX.reg ?_
  refine WO.q (.fa (fa42_0 _ _)) rfl rfl ?_
  refine WO.q (.ldS (i := 1) rfl rfl rfl ti9 rfl) rfl rfl ?_
  refine WO.q (.fa (fa42_0 _ _)) rfl rfl ?_
  refine WO.q (.ldS (i := 0) rfl rfl rfl ti9 rfl) rfl rfl ?_
  obtain ⟨y3, hy3, h⟩ := Option.bind_eq_some_iff.1 h
  refine WO.cS rfl rfl (cmp_Compare_string_ok hy3) rfl rfl rfl ?_
  rintro _ rfl
  refine WO.q (.as (v := .int _ _) rfl) rfl rfl ?_
  refine WO.nil ?_
  obtain rfl := Option.some.inj h
  exact WX.ret (rs_ (rs_tmp rfl rs_nil)) fun st hp => ⟨(hp.pk [] (by decide)).le hB, rfl⟩
end Gab
