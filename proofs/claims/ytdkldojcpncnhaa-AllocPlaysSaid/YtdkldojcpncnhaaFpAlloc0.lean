/- The Go code comes to what the Lean functions say. Written by a program (gp.py). -/
import Derived.Test.YtdkldojcpncnhaaFd
import Derived.Test.YtdkldojcpncnhaaTy
set_option linter.unusedSimpArgs false
set_option linter.unusedVariables false
set_option maxHeartbeats 4000000
set_option maxRecDepth 100000
namespace Gab
open Go Go.Proofs
def alloc_New_P (B : Kn) (L : Own) (r : (Int × (List (Int × Int))) × Int) : AV → St → Prop := C1 B L fun B' v e0 => ∃ w0 b0 n0 c0, v = .tup [.agg [.int .i64 r.1.1, w0], .int .i64 r.2] ∧ e0 = oe b0 n0 c0 ∧ OSl EPIi64Ii64Q B' w0 b0 n0 c0 r.1.2
def alloc_New_j1_I (B0 : Kn) (x0 : Int) (x10 : Bool) (zb2 : Int × (List (Int × Int))) : Fr → Kn → Own → Prop := fun fr B A => KLe B0 B ∧ ∃ b3 v4 b4 n4 c4, OSl EPIi64Ii64Q B v4 b4 n4 c4 zb2.2 ∧ fr = [(0, .int .i64 x0), (2, .ptr b3 0), (10, .bool x10)] ∧ A = [(b3, some [.int .i64 zb2.1, v4]), oe b4 n4 c4]
theorem alloc_New_j1_ok {B0 : Kn} {L : Own} {n0 : Nat} {x0 : Int} {x10 : Bool} {zb2 : Int × (List (Int × Int))} {r : (Int × (List (Int × Int))) × Int} (h : alloc_New_j1 x0 x10 zb2 = some r) : WXI Try.prog 21 n0 (Fin Try.prog Try.f15.results.toList n0 (alloc_New_P B0 L r)) [.code (ct [1, 0, 1] (bodyOf Try.f15)), .code (ct [1, 1] (bodyOf Try.f15))] (alloc_New_j1_I B0 x0 x10 zb2) L := by
  unfold alloc_New_j1 at h
  rintro _ B _ ⟨hB, b3, v4, b4, n4, c4, h4, rfl, rfl⟩
  obtain ⟨_, _, _, _, _, rfl⟩ := h4.isl
  rcases bsp x10 with k5 | k5
  · replace h := (if_pos k5).symm.trans h
    refine WX.condT rfl k5 ?_
    refine WX.seq ?_
    refine WX.reg ?_
    refine WO.q (.bd (bd25_n)) rfl rfl ?_
    refine WO.mn (MOp.storeW rfl (cA rfl) .h ti25 rfl rfl rfl) rfl ?_
    rintro _ _ rfl
    refine WO.q (.as (v := .int _ _) rfl) rfl rfl ?_
    refine WO.nil ?_
    obtain rfl := Option.some.inj h
    exact WX.ret (rs_ (rs_cell (.ldA (i := 0) rfl rfl rfl ti25 rfl) (rs_tmp rfl rs_nil))) fun st hp => ⟨_, _, hB, ((hp.pk [] (by decide)).skip 0), _, 0, true, [], rfl, rfl, OSl.none _ _⟩
  · replace h := (if_neg (bnt k5)).symm.trans h
    refine WX.condF rfl k5 ?_
    refine WX.skip ?_
    refine WX.seq ?_
    refine WX.reg ?_
    refine WO.q (.mv (v := .int _ _) rfl) rfl rfl ?_
    refine WO.q (.bd (bd25_0 (cI rfl))) rfl rfl ?_
    refine WO.md (MOp.alloc ti25 rfl) rfl rfl ?_
    rintro _ _ ⟨b6, rfl, rfl⟩
    refine WO.mn (MOp.storeW rfl (cA rfl) .h ti25 rfl rfl rfl) rfl ?_
    rintro _ _ rfl
    refine WO.nil ?_
    refine WX.seq ?_
    refine WX.seq ?_
    refine WX.reg ?_
    refine WO.q (.mv (v := .int _ _) rfl) rfl rfl ?_
    refine WO.q (.r fun _ => rfl) rfl rfl ?_
    refine WO.nil ?_
    rcases bsp (decide (0 < x0)) with k7 | k7
    · have q_k7 := of_decide_eq_true k7
      replace h := (if_pos q_k7).symm.trans h
      refine WX.condT rfl k7 ?_
      refine WX.reg ?_
      refine WO.q (.mv (v := .int _ _) rfl) rfl rfl ?_
      refine WO.q (.bd (bd35_0_1 (cI rfl) (cI rfl))) rfl rfl ?_
      refine WO.md (MOp.bs (l := ([(0, x0)] : List (Int × Int))) sl23 (RL.cons (Rp Ri Ri) RL.nil) (lb rfl) rfl rfl) rfl rfl ?_
      rintro v10 _ ⟨b8, o9, rfl⟩
      obtain ⟨_, _, _, _, _, rfl⟩ := o9.isl
      refine WO.q (.fa (fa25_1 _ _)) rfl rfl ?_
      refine WO.mn (MOp.store (cs' := [.int .i64 x0, _]) rfl (cL rfl) (.t .h) ti23 rfl rfl (lb rfl) rfl) rfl ?_
      rintro _ _ rfl
      refine WO.nil ?_
      refine WX.seq ?_
      refine WX.reg ?_
      refine WO.q (.ldA (i := 1) rfl rfl rfl ti25 rfl) rfl rfl ?_
      refine WO.mn (MOp.storeW rfl (cA rfl) (.t (.t .h)) ti25 rfl rfl rfl) rfl ?_
      rintro _ _ rfl
      refine WO.q (.as (v := .int _ _) rfl) rfl rfl ?_
      refine WO.nil ?_
      obtain rfl := Option.some.inj h
      exact WX.ret (rs_ (rs_cell (.ldA (i := 2) rfl rfl rfl ti25 rfl) (rs_tmp rfl rs_nil))) fun st hp => ⟨_, _, hB, (hp.pk [0] (by decide)), _, _, false, _, rfl, rfl, o9⟩
    · have q_k7 := of_decide_eq_false k7
      replace h := (if_neg q_k7).symm.trans h
      refine WX.condF rfl k7 ?_
      refine WX.skip ?_
      refine WX.seq ?_
      refine WX.reg ?_
      refine WO.q (.ldA (i := 0) rfl rfl rfl ti25 rfl) rfl rfl ?_
      refine WO.mn (MOp.storeW rfl (cA rfl) (.t .h) ti25 rfl rfl rfl) rfl ?_
      rintro _ _ rfl
      refine WO.q (.as (v := .int _ _) rfl) rfl rfl ?_
      refine WO.nil ?_
      obtain rfl := Option.some.inj h
      exact WX.ret (rs_ (rs_cell (.ldA (i := 1) rfl rfl rfl ti25 rfl) (rs_tmp rfl rs_nil))) fun st hp => ⟨_, _, hB, ((hp.pk [] (by decide)).skip 0), _, 0, true, [], rfl, rfl, OSl.none _ _⟩
theorem alloc_New_ok {B0 : Kn} {L : Own} {a0 : Int} {r : (Int × (List (Int × Int))) × Int} (h : alloc_New a0 = some r) : ∀ st, Hp B0 L st → ASpec Try.prog 15 [.int .i64 a0] st (alloc_New_P B0 L r) := by
  unfold alloc_New at h
  refine bodyA (A := []) Try.func15 rfl (c := bodyOf Try.f15) rfl Try.ntmps15 (lb rfl) fun n0 => ?_
  have hB := KLe.refl B0
  refine WX.seq ?_
  refine WX.reg ?_
  refine WO.md (MOp.alloc ti25 rfl) rfl rfl ?_
  rintro _ _ ⟨b1, rfl, rfl⟩
  refine WO.q (.as (v := .int _ _) rfl) rfl rfl ?_
  refine WO.nil ?_
  refine WX.seq ?_
  refine WX.seq ?_
  refine WX.reg ?_
  refine WO.q (.mv (v := .int _ _) rfl) rfl rfl ?_
  refine WO.q (.r fun _ => rfl) rfl rfl ?_
  refine WO.q (.mv (v := .bool _) rfl) rfl rfl ?_
  rcases bsp (decide (a0 < 0)) with k2 | k2
  · have q_k2 := of_decide_eq_true k2
    replace h := (if_pos q_k2).symm.trans h
    refine WO.sd (wg rfl rfl (gfn k2)) rfl ?_
    refine WO.sd (wg rfl rfl (gfn k2)) rfl ?_
    refine WO.q (.ptv (v := .bool _) rfl k2 rfl) rfl rfl ?_
    refine WO.nil ?_
    refine WX.keep [0, 2, 10] (WX.pk [0] (by decide) (WX.addn [1] ?_)) rfl
    exact alloc_New_j1_ok h _ _ _ ⟨hB, _, _, 0, true, [], OSl.none _ _, rfl, rfl⟩
  · have q_k2 := of_decide_eq_false k2
    replace h := (if_neg q_k2).symm.trans h
    refine WO.q (.mv (v := .int _ _) rfl) (wg rfl rfl (gf k2)) rfl ?_
    refine WO.q (.r fun _ => rfl) (wg rfl rfl (gf k2)) rfl ?_
    refine WO.q (.pfv (v := .bool _) rfl k2 rfl) rfl rfl ?_
    refine WO.nil ?_
    refine WX.keep [0, 2, 10] (WX.pk [0] (by decide) (WX.addn [1] ?_)) rfl
    exact alloc_New_j1_ok h _ _ _ ⟨hB, _, _, 0, true, [], OSl.none _ _, rfl, rfl⟩
def alloc_Set_Free_P (B : Kn) (L : Own) (r : Int) : AV → St → Prop := CS B L fun v => v = .int .i64 r
def alloc_Set_Free_l0_I (B0 : Kn) (x7 : List (Int × Int)) (x3 : Int) (x9 : Int) : Fr → Kn → Own → Prop := fun fr B A => KLe B0 B ∧ ∃ v2, RSl EPIi64Ii64Q B v2 x7 ∧ fr = [(3, .int .i64 x3), (7, v2), (8, .int .i64 (x7.length : Int)), (9, .int .i64 x9)] ∧ A = []
def alloc_Set_Free_l0_X0 (B0 : Kn) (x3 : Int) : Fr → Kn → Own → Prop := fun fr B A => KLe B0 B ∧ fr = [(3, .int .i64 x3)] ∧ A = []
theorem alloc_Set_Free_l0_s {B0 : Kn} {L : Own} {n0 : Nat} {x7 : List (Int × Int)} {x3 : Int} {x9 : Int} {Q : AV → St → Prop} {E : (Int × Int) ⊕ Int → Prop} {o : (Int × Int) ⊕ Int} (h : alloc_Set_Free_l0 x7 x3 x9 = some o) (hn : ∀ s, E (.inl s) → WXI Try.prog 19 n0 (Fin Try.prog Try.f16.results.toList n0 Q) [.lp (ct [1, 1, 0, 1, 0, 0] (bodyOf Try.f16)), .blk 0, .code (ct [1, 1, 1] (bodyOf Try.f16))] (alloc_Set_Free_l0_I B0 x7 s.1 s.2) L) (hx0 : ∀ s, E (.inr s) → WXI Try.prog 19 n0 (Fin Try.prog Try.f16.results.toList n0 Q) [.code (ct [1, 1, 1] (bodyOf Try.f16))] (alloc_Set_Free_l0_X0 B0 s) L) (hE : E o) : WXI Try.prog 19 n0 (Fin Try.prog Try.f16.results.toList n0 Q) [.code (ct [1, 1, 0, 1, 0, 0] (bodyOf Try.f16)), .lp (ct [1, 1, 0, 1, 0, 0] (bodyOf Try.f16)), .blk 0, .code (ct [1, 1, 1] (bodyOf Try.f16))] (alloc_Set_Free_l0_I B0 x7 x3 x9) L := by
  unfold alloc_Set_Free_l0 at h
  rintro _ B _ ⟨hB, v2, h2, rfl, rfl⟩
  obtain ⟨_, _, _, _, _, rfl⟩ := h2.isl
  refine WX.seq ?_
  refine WX.reg ?_
  refine WO.q (.r fun _ => rfl) rfl rfl ?_
  refine WO.nil ?_
  refine WX.seq ?_
  rcases bsp (decide (x9 < (x7.length : Int))) with k3 | k3
  · have q_k3 := of_decide_eq_true k3
    replace h := (if_pos q_k3).symm.trans h
    refine WX.condT rfl k3 ?_
    refine WX.skip ?_
    refine WX.seq ?_
    refine WX.block ?_
    refine WX.seq ?_
    refine WX.reg ?_
    obtain ⟨y4, hy4, h⟩ := Option.bind_eq_some_iff.1 h
    obtain ⟨b_y4, o_y4, _, i_y4, p_y4, r_y4⟩ := h2.at sl23 hy4 .i64
    obtain ⟨_, _, rfl, rfl, rfl⟩ := r_y4
    refine WO.q (.ia i_y4) rfl rfl ?_
    refine WO.q (.lpA rfl p_y4 ti35 rfl rfl) rfl rfl ?_
    refine WO.md (MOp.alloc ti35 rfl) rfl rfl ?_
    rintro _ _ ⟨b5, rfl, rfl⟩
    refine WO.mn (MOp.storeW rfl (cA rfl) .h ti35 rfl rfl rfl) rfl ?_
    rintro _ _ rfl
    refine WO.nil ?_
    refine WX.reg ?_
    refine WO.q (.mv (v := .int _ _) rfl) rfl rfl ?_
    refine WO.q (.fa (fa35_1 _ _)) rfl rfl ?_
    refine WO.q (.ldS (i := 0) rfl rfl rfl ti3 rfl) rfl rfl ?_
    refine WO.q (.r fun _ => rfl) rfl rfl ?_
    refine WO.q (.as (v := .int _ _) rfl) rfl rfl ?_
    refine WO.nil ?_
    refine WX.pop ?_
    refine WX.reg ?_
    refine WO.q (.r fun _ => rfl) rfl rfl ?_
    refine WO.q (.mv (v := .int _ _) rfl) rfl rfl ?_
    refine WO.nil ?_
    refine WX.keepL [3, 7, 8, 9] (WX.pk [] (by decide) ?_) rfl
    obtain rfl := Option.some.inj h
    exact hn _ hE _ _ _ ⟨hB, _, h2, rfl, rfl⟩
  · have q_k3 := of_decide_eq_false k3
    replace h := (if_neg q_k3).symm.trans h
    refine WX.condF rfl k3 ?_
    refine WX.exit rfl ?_
    refine WX.keep [3] (WX.pk [] (by decide) ?_) rfl
    obtain rfl := Option.some.inj h
    exact hx0 _ hE _ _ _ ⟨hB, rfl, rfl⟩
theorem alloc_Set_Free_l0_ok {B0 : Kn} {L : Own} {n0 : Nat} {x7 : List (Int × Int)} {x3 : Int} {x9 : Int} {Q : AV → St → Prop} {d : Nat} {e : Int} (h : iter (fun (s : Int × Int) => alloc_Set_Free_l0 x7 s.1 s.2) d (x3, x9) = some e) (g0 : ∀ s, e = s → WXI Try.prog 19 n0 (Fin Try.prog Try.f16.results.toList n0 Q) [.code (ct [1, 1, 1] (bodyOf Try.f16))] (alloc_Set_Free_l0_X0 B0 s) L) : WXI Try.prog 19 n0 (Fin Try.prog Try.f16.results.toList n0 Q) [.code (ct [1, 1, 0, 1, 0, 0] (bodyOf Try.f16)), .lp (ct [1, 1, 0, 1, 0, 0] (bodyOf Try.f16)), .blk 0, .code (ct [1, 1, 1] (bodyOf Try.f16))] (alloc_Set_Free_l0_I B0 x7 x3 x9) L :=
  iter_ok (I := fun s => alloc_Set_Free_l0_I B0 x7 s.1 s.2) (D := fun e => (∀ s, e = s → WXI Try.prog 19 n0 (Fin Try.prog Try.f16.results.toList n0 Q) [.code (ct [1, 1, 1] (bodyOf Try.f16))] (alloc_Set_Free_l0_X0 B0 s) L)) (fun E hn hx s o ho hE => alloc_Set_Free_l0_s ho hn (fun s hs => (hx _ hs) _ rfl)  hE) h g0
theorem alloc_Set_Free_ok {B0 : Kn} {L : Own} {a0 : Int × (List (Int × Int))} {v0_0 : AV} {r : Int} (g0_0 : RSl EPIi64Ii64Q B0 v0_0 a0.2) (h : alloc_Set_Free a0 = some r) : ∀ st, Hp B0 L st → ASpec Try.prog 16 [.agg [.int .i64 a0.1, v0_0]] st (alloc_Set_Free_P B0 L r) := by
  unfold alloc_Set_Free at h
  refine bodyA (A := []) Try.func16 rfl (c := bodyOf Try.f16) rfl Try.ntmps16 (lb rfl) fun n0 => ?_
  have hB := KLe.refl B0
  obtain ⟨_, _, _, _, _, rfl⟩ := g0_0.isl
  refine WX.seq ?_
  refine WX.reg ?_
  refine WO.md (MOp.box (cA rfl)) rfl rfl ?_
  rintro _ _ ⟨b1, rfl, rfl⟩
  refine WO.q (.as (v := .int _ _) rfl) rfl rfl ?_
  refine WO.nil ?_
  refine WX.seq ?_
  refine WX.reg ?_
  refine WO.q (.as (v := .int _ _) rfl) rfl rfl ?_
  refine WO.nil ?_
  refine WX.seq ?_
  refine WX.seq ?_
  refine WX.reg ?_
  refine WO.q (.fa (fa25_1 _ _)) rfl rfl ?_
  refine WO.q (.ldS (i := 0) rfl rfl rfl ti23 rfl) rfl rfl ?_
  refine WO.q (.len rfl rfl rfl (sl23.len g0_0.isl)) rfl rfl ?_
  refine WO.q (.mv (v := .int _ _) rfl) rfl rfl ?_
  refine WO.nil ?_
  refine WX.block ?_
  refine WX.loop ?_
  obtain ⟨e6, he6, h⟩ := Option.bind_eq_some_iff.1 h
  refine WX.keep [3, 7, 8, 9] (WX.pk [] (by decide) ?_) rfl
  refine alloc_Set_Free_l0_ok he6 ?_ _ _ _ ⟨hB, _, g0_0, rfl, rfl⟩
  · intro s7 he_
    subst he_
    replace h := h
    rintro _ B _ ⟨hB, rfl, rfl⟩
    refine WX.seq ?_
    refine WX.reg ?_
    refine WO.q (.mv (v := .int _ _) rfl) rfl rfl ?_
    refine WO.q (.as (v := .int _ _) rfl) rfl rfl ?_
    refine WO.nil ?_
    obtain rfl := Option.some.inj h
    exact WX.ret (rs_ (rs_tmp rfl rs_nil)) fun st hp => ⟨(hp.pk [] (by decide)).le hB, rfl⟩
def alloc_Set_Size_P (B : Kn) (L : Own) (r : Int) : AV → St → Prop := CS B L fun v => v = .int .i64 r
theorem alloc_Set_Size_ok {B0 : Kn} {L : Own} {a0 : Int × (List (Int × Int))} {v0_0 : AV} {r : Int} (g0_0 : RSl EPIi64Ii64Q B0 v0_0 a0.2) (h : alloc_Set_Size a0 = some r) : ∀ st, Hp B0 L st → ASpec Try.prog 17 [.agg [.int .i64 a0.1, v0_0]] st (alloc_Set_Size_P B0 L r) := by
  unfold alloc_Set_Size at h
  refine bodyA (A := []) Try.func17 rfl (c := bodyOf Try.f17) rfl Try.ntmps17 (lb rfl) fun n0 => ?_
  have hB := KLe.refl B0
  obtain ⟨_, _, _, _, _, rfl⟩ := g0_0.isl
  refine WX.seq ?_
  refine WX.reg ?_
  refine WO.md (MOp.box (cA rfl)) rfl rfl ?_
  rintro _ _ ⟨b1, rfl, rfl⟩
  refine WO.q (.as (v := .int _ _) rfl) rfl rfl ?_
  refine WO.nil ?_
  refine WX.seq ?_
  refine WX.reg ?_
  refine WO.q (.fa (fa25_0 _ _)) rfl rfl ?_
  refine WO.q (.ldS (i := 0) rfl rfl rfl ti3 rfl) rfl rfl ?_
  refine WO.q (.as (v := .int _ _) rfl) rfl rfl ?_
  refine WO.nil ?_
  obtain rfl := Option.some.inj h
  exact WX.ret (rs_ (rs_tmp rfl rs_nil)) fun st hp => ⟨(hp.pk [] (by decide)).le hB, rfl⟩
def alloc_Extent_end_P (B : Kn) (L : Own) (r : Int) : AV → St → Prop := CS B L fun v => v = .int .i64 r
theorem alloc_Extent_end_ok {B0 : Kn} {L : Own} {a0 : Int × Int} {r : Int} (h : alloc_Extent_end a0 = some r) : ∀ st, Hp B0 L st → ASpec Try.prog 60 [.agg [.int .i64 a0.1, .int .i64 a0.2]] st (alloc_Extent_end_P B0 L r) := by
  unfold alloc_Extent_end at h
  refine bodyA (A := []) Try.func60 rfl (c := bodyOf Try.f60) rfl Try.ntmps60 (lb rfl) fun n0 => ?_
  have hB := KLe.refl B0
  refine WX.seq ?_
  refine WX.reg ?_
  refine WO.md (MOp.box (cA rfl)) rfl rfl ?_
  rintro _ _ ⟨b1, rfl, rfl⟩
  refine WO.q (.as (v := .int _ _) rfl) rfl rfl ?_
  refine WO.nil ?_
  refine WX.seq ?_
  refine WX.reg ?_
  refine WO.q (.fa (fa35_0 _ _)) rfl rfl ?_
  refine WO.q (.ldS (i := 0) rfl rfl rfl ti3 rfl) rfl rfl ?_
  refine WO.q (.fa (fa35_1 _ _)) rfl rfl ?_
  refine WO.q (.ldS (i := 0) rfl rfl rfl ti3 rfl) rfl rfl ?_
  refine WO.q (.r fun _ => rfl) rfl rfl ?_
  refine WO.q (.as (v := .int _ _) rfl) rfl rfl ?_
  refine WO.nil ?_
  obtain rfl := Option.some.inj h
  exact WX.ret (rs_ (rs_tmp rfl rs_nil)) fun st hp => ⟨(hp.pk [] (by decide)).le hB, rfl⟩
def alloc_Set_Has_1_P (B : Kn) (L : Own) (b_c0 : Nat) (q0 : Int) (r : Bool) : AV → St → Prop := CS B ((b_c0, some [.int .i64 q0]) :: L) fun v => v = .bool r
theorem alloc_Set_Has_1_ok {B0 : Kn} {L : Own} {b_c0 : Nat} {q0 : Int} {a0 : Int × Int} {r : Bool} (h : alloc_Set_Has_1 a0 q0 = some r) : ∀ st, Hp B0 ((b_c0, some [.int .i64 q0]) :: L) st → ASpec Try.prog 59 [.agg [.int .i64 a0.1, .int .i64 a0.2], .ptr b_c0 0] st (alloc_Set_Has_1_P B0 L b_c0 q0 r) := by
  unfold alloc_Set_Has_1 at h
  refine bodyA (A := [(b_c0, some [.int .i64 q0])]) Try.func59 rfl (c := bodyOf Try.f59) rfl Try.ntmps59 (lb rfl) fun n0 => ?_
  have hB := KLe.refl B0
  refine WX.seq ?_
  refine WX.reg ?_
  refine WO.md (MOp.box (cA rfl)) rfl rfl ?_
  rintro _ _ ⟨b1, rfl, rfl⟩
  refine WO.q (.as (v := .bool _) rfl) rfl rfl ?_
  refine WO.nil ?_
  refine WX.seq ?_
  refine WX.drw [0, 1, 2, 3, 4, 5, 6, 7, 8, 9, 10] _ mixed (by kernel_rfl) rfl (pk_sub [0, 1]) ?_
  refine WP.q (i := 0) rfl (.ldS (i := 1) rfl rfl rfl ti3 rfl) rfl rfl rfl ?_
  refine WP.q (i := 1) rfl (.fa (fa35_0 _ _)) rfl rfl rfl ?_
  refine WP.q (i := 2) rfl (.ldS (i := 0) rfl rfl rfl ti3 rfl) rfl rfl rfl ?_
  refine WP.q (i := 3) rfl (.r fun _ => rfl) rfl rfl rfl ?_
  refine WP.q (i := 4) rfl (.mv (v := .bool _) rfl) rfl rfl rfl ?_
  rcases bsp (decide (a0.1 ≤ q0)) with k2 | k2
  · have q_k2 := of_decide_eq_true k2
    replace h := (if_pos q_k2).symm.trans h
    refine WP.q (i := 5) rfl (.ldS (i := 1) rfl rfl rfl ti3 rfl) rfl (wg rfl rfl (gt k2)) rfl ?_
    refine WP.q (i := 6) rfl (.ldA (i := 0) rfl rfl rfl ti35 rfl) rfl (wg rfl rfl (gt k2)) rfl ?_
    obtain ⟨y3, hy3, h⟩ := Option.bind_eq_some_iff.1 h
    refine WP.cS (i := 7) rfl rfl rfl (alloc_Extent_end_ok hy3) rfl (wg rfl rfl (gt k2)) rfl ?_
    rintro _ rfl
    refine WP.q (i := 8) rfl (.r fun _ => rfl) rfl (wg rfl rfl (gt k2)) rfl ?_
    refine WP.q (i := 9) rfl (.ptv (v := .bool _) rfl k2 rfl) rfl rfl rfl ?_
    refine WP.q (i := 10) rfl (.as (v := .bool _) rfl) rfl rfl rfl ?_
    refine WP.nil ?_
    obtain rfl := Option.some.inj h
    exact WX.ret (rs_ (rs_tmp rfl rs_nil)) fun st hp => ⟨(hp.pk [1] (by decide)).le hB, rfl⟩
  · have q_k2 := of_decide_eq_false k2
    replace h := (if_neg q_k2).symm.trans h
    refine WP.sk (i := 5) rfl rfl (wg rfl rfl (gtn k2)) rfl ?_
    refine WP.sk (i := 6) rfl rfl (wg rfl rfl (gtn k2)) rfl ?_
    refine WP.sd (i := 7) rfl rfl (wg rfl rfl (gtn k2)) rfl ?_
    refine WP.sk (i := 8) rfl rfl (wg rfl rfl (gtn k2)) rfl ?_
    refine WP.q (i := 9) rfl (.pfv (v := .bool _) rfl k2 rfl) rfl rfl rfl ?_
    refine WP.q (i := 10) rfl (.as (v := .bool _) rfl) rfl rfl rfl ?_
    refine WP.nil ?_
    obtain rfl := Option.some.inj h
    exact WX.ret (rs_ (rs_tmp rfl rs_nil)) fun st hp => ⟨(hp.pk [1] (by decide)).le hB, rfl⟩
def slices_IndexFunc_alloc_Extent_P (B : Kn) (L : Own) (r : Int) : AV → St → Prop := CS B L fun v => v = .int .i64 r
def slices_IndexFunc_alloc_Extent_l0_I (B0 : Kn) (fg1 : Nat) (fc1 : List AV) (x0 : List (Int × Int)) (x8 : Int) : Fr → Kn → Own → Prop := fun fr B A => KLe B0 B ∧ ∃ v1, RSl EPIi64Ii64Q B v1 x0 ∧ fr = [(0, v1), (1, .fn (.func fg1) [] fc1), (7, .int .i64 (x0.length : Int)), (8, .int .i64 x8)] ∧ A = []
def slices_IndexFunc_alloc_Extent_l0_X0 (B0 : Kn) (fg1 : Nat) (fc1 : List AV) : Fr → Kn → Own → Prop := fun fr B A => KLe B0 B ∧ fr = [] ∧ A = []
theorem slices_IndexFunc_alloc_Extent_l0_s {B0 : Kn} {L : Own} {n0 : Nat} {fg1 : Nat} {fc1 : List AV} {a1 : (Int × Int) → Option Bool} {x0 : List (Int × Int)} {x8 : Int} {Q : AV → St → Prop} {E : Int ⊕ (Int ⊕ Unit) → Prop} {o : Int ⊕ (Int ⊕ Unit)} (h : slices_IndexFunc_alloc_Extent_l0 a1 x0 x8 = some o) (hf1 : ∀ (x0 : Int × Int) (r : Bool), a1 x0 = some r → ∀ B, KLe B0 B → ∀ Lx st, Hp B (Lx ++ L) st → ASpec Try.prog fg1 ([.agg [.int .i64 x0.1, .int .i64 x0.2]] ++ fc1) st (CS B (Lx ++ L) fun v => v = .bool r)) (hn : ∀ s, E (.inl s) → WXI Try.prog 19 n0 (Fin Try.prog Try.f62.results.toList n0 Q) [.lp (ct [1, 0, 1, 0, 0] (bodyOf Try.f62)), .blk 0, .code (ct [1, 1] (bodyOf Try.f62))] (slices_IndexFunc_alloc_Extent_l0_I B0 fg1 fc1 x0 s) L) (hx0 : ∀ s, E (.inr (.inr s)) → WXI Try.prog 19 n0 (Fin Try.prog Try.f62.results.toList n0 Q) [.code (ct [1, 1] (bodyOf Try.f62))] (slices_IndexFunc_alloc_Extent_l0_X0 B0 fg1 fc1) L) (hr : ∀ r, E (.inr (.inl r)) → ∀ v st, slices_IndexFunc_alloc_Extent_P B0 L r v st → Q v st) (hE : E o) : WXI Try.prog 19 n0 (Fin Try.prog Try.f62.results.toList n0 Q) [.code (ct [1, 0, 1, 0, 0] (bodyOf Try.f62)), .lp (ct [1, 0, 1, 0, 0] (bodyOf Try.f62)), .blk 0, .code (ct [1, 1] (bodyOf Try.f62))] (slices_IndexFunc_alloc_Extent_l0_I B0 fg1 fc1 x0 x8) L := by
  unfold slices_IndexFunc_alloc_Extent_l0 at h
  rintro _ B _ ⟨hB, v1, h1, rfl, rfl⟩
  obtain ⟨_, _, _, _, _, rfl⟩ := h1.isl
  refine WX.seq ?_
  refine WX.reg ?_
  refine WO.q (.r fun _ => rfl) rfl rfl ?_
  refine WO.nil ?_
  refine WX.seq ?_
  rcases bsp (decide (x8 < (x0.length : Int))) with k2 | k2
  · have q_k2 := of_decide_eq_true k2
    replace h := (if_pos q_k2).symm.trans h
    refine WX.condT rfl k2 ?_
    refine WX.skip ?_
    refine WX.seq ?_
    refine WX.block ?_
    refine WX.seq ?_
    refine WX.reg ?_
    refine WO.q (.mv (v := .int _ _) rfl) rfl rfl ?_
    refine WO.q (.as (v := .int _ _) rfl) rfl rfl ?_
    refine WO.nil ?_
    refine WX.seq ?_
    refine WX.reg ?_
    refine WO.q (.mv (v := .fn _ _ _) rfl) rfl rfl ?_
    refine WO.q (.mv (v := .sl _ _ _ _ _ _) rfl) rfl rfl ?_
    refine WO.q (.mv (v := .int _ _) rfl) rfl rfl ?_
    obtain ⟨y3, hy3, h⟩ := Option.bind_eq_some_iff.1 h
    obtain ⟨b_y3, o_y3, _, i_y3, p_y3, r_y3⟩ := h1.at sl23 hy3 .i64
    obtain ⟨_, _, rfl, rfl, rfl⟩ := r_y3
    refine WO.q (.ia i_y3) rfl rfl ?_
    refine WO.q (.lpA rfl p_y3 ti35 rfl rfl) rfl rfl ?_
    obtain ⟨y4, hy4, h⟩ := Option.bind_eq_some_iff.1 h
    refine WO.cS rfl rfl (hf1 _ _  hy4 _ hB _) rfl rfl rfl ?_
    rintro _ rfl
    refine WO.nil ?_
    rcases bsp y4 with k5 | k5
    · replace h := (if_pos k5).symm.trans h
      refine WX.condT rfl k5 ?_
      refine WX.seq ?_
      refine WX.reg ?_
      refine WO.q (.mv (v := .int _ _) rfl) rfl rfl ?_
      refine WO.q (.as (v := .int _ _) rfl) rfl rfl ?_
      refine WO.nil ?_
      obtain rfl := Option.some.inj h
      exact WX.ret (rs_ (rs_tmp rfl rs_nil)) fun st hp => hr _ hE _ _ ⟨(hp.pk [] (by decide)).le hB, rfl⟩
    · replace h := (if_neg (bnt k5)).symm.trans h
      refine WX.condF rfl k5 ?_
      refine WX.skip ?_
      refine WX.pop ?_
      refine WX.reg ?_
      refine WO.q (.r fun _ => rfl) rfl rfl ?_
      refine WO.q (.mv (v := .int _ _) rfl) rfl rfl ?_
      refine WO.nil ?_
      refine WX.keepL [0, 1, 7, 8] (WX.pk [] (by decide) ?_) rfl
      obtain rfl := Option.some.inj h
      exact hn _ hE _ _ _ ⟨hB, _, h1, rfl, rfl⟩
  · have q_k2 := of_decide_eq_false k2
    replace h := (if_neg q_k2).symm.trans h
    refine WX.condF rfl k2 ?_
    refine WX.exit rfl ?_
    refine WX.keep [] (WX.pk [] (by decide) ?_) rfl
    obtain rfl := Option.some.inj h
    exact hx0 _ hE _ _ _ ⟨hB, rfl, rfl⟩
theorem slices_IndexFunc_alloc_Extent_l0_ok {B0 : Kn} {L : Own} {n0 : Nat} {fg1 : Nat} {fc1 : List AV} {a1 : (Int × Int) → Option Bool} {x0 : List (Int × Int)} {x8 : Int} {Q : AV → St → Prop} {d : Nat} {e : Int ⊕ Unit} (h : iter (fun (s : Int) => slices_IndexFunc_alloc_Extent_l0 a1 x0 s) d x8 = some e) (hf1 : ∀ (x0 : Int × Int) (r : Bool), a1 x0 = some r → ∀ B, KLe B0 B → ∀ Lx st, Hp B (Lx ++ L) st → ASpec Try.prog fg1 ([.agg [.int .i64 x0.1, .int .i64 x0.2]] ++ fc1) st (CS B (Lx ++ L) fun v => v = .bool r)) (g0 : ∀ r, e = (.inl r) → ∀ v st, slices_IndexFunc_alloc_Extent_P B0 L r v st → Q v st) (g1 : ∀ s, e = (.inr s) → WXI Try.prog 19 n0 (Fin Try.prog Try.f62.results.toList n0 Q) [.code (ct [1, 1] (bodyOf Try.f62))] (slices_IndexFunc_alloc_Extent_l0_X0 B0 fg1 fc1) L) : WXI Try.prog 19 n0 (Fin Try.prog Try.f62.results.toList n0 Q) [.code (ct [1, 0, 1, 0, 0] (bodyOf Try.f62)), .lp (ct [1, 0, 1, 0, 0] (bodyOf Try.f62)), .blk 0, .code (ct [1, 1] (bodyOf Try.f62))] (slices_IndexFunc_alloc_Extent_l0_I B0 fg1 fc1 x0 x8) L :=
  iter_ok (I := fun s => slices_IndexFunc_alloc_Extent_l0_I B0 fg1 fc1 x0 s) (D := fun e => (∀ r, e = (.inl r) → ∀ v st, slices_IndexFunc_alloc_Extent_P B0 L r v st → Q v st) ∧ (∀ s, e = (.inr s) → WXI Try.prog 19 n0 (Fin Try.prog Try.f62.results.toList n0 Q) [.code (ct [1, 1] (bodyOf Try.f62))] (slices_IndexFunc_alloc_Extent_l0_X0 B0 fg1 fc1) L)) (fun E hn hx s o ho hE => slices_IndexFunc_alloc_Extent_l0_s ho hf1 hn (fun s hs => (hx _ hs).2 _ rfl) (fun r hs => (hx _ hs).1 _ rfl) hE) h ⟨g0, g1⟩
theorem slices_IndexFunc_alloc_Extent_ok {B0 : Kn} {L : Own} {fg1 : Nat} {fc1 : List AV} {a1 : (Int × Int) → Option Bool} {a0 : List (Int × Int)} {v0_0 : AV} {r : Int} (hf1 : ∀ (x0 : Int × Int) (r : Bool), a1 x0 = some r → ∀ B, KLe B0 B → ∀ Lx st, Hp B (Lx ++ L) st → ASpec Try.prog fg1 ([.agg [.int .i64 x0.1, .int .i64 x0.2]] ++ fc1) st (CS B (Lx ++ L) fun v => v = .bool r)) (g0_0 : RSl EPIi64Ii64Q B0 v0_0 a0) (h : slices_IndexFunc_alloc_Extent a0 a1 = some r) : ∀ st, Hp B0 L st → ASpec Try.prog 62 [v0_0, .fn (.func fg1) [] fc1] st (slices_IndexFunc_alloc_Extent_P B0 L r) := by
  unfold slices_IndexFunc_alloc_Extent at h
  refine bodyA (A := []) Try.func62 rfl (c := bodyOf Try.f62) rfl Try.ntmps62 (lb rfl) fun n0 => ?_
  have hB := KLe.refl B0
  obtain ⟨_, _, _, _, _, rfl⟩ := g0_0.isl
  refine WX.seq ?_
  refine WX.reg ?_
  refine WO.q (.as (v := .int _ _) rfl) rfl rfl ?_
  refine WO.nil ?_
  refine WX.seq ?_
  refine WX.seq ?_
  refine WX.reg ?_
  refine WO.q (.mv (v := .sl _ _ _ _ _ _) rfl) rfl rfl ?_
  refine WO.q (.len rfl rfl rfl (sl23.len g0_0.isl)) rfl rfl ?_
  refine WO.q (.mv (v := .int _ _) rfl) rfl rfl ?_
  refine WO.nil ?_
  refine WX.block ?_
  refine WX.loop ?_
  obtain ⟨e6, he6, h⟩ := Option.bind_eq_some_iff.1 h
  refine WX.keep [0, 1, 7, 8] (WX.pk [] (by decide) ?_) rfl
  refine slices_IndexFunc_alloc_Extent_l0_ok he6 hf1 ?_ ?_ _ _ _ ⟨hB, _, g0_0, rfl, rfl⟩
  · intro r8 he_
    subst he_
    replace h := (on_l h)
    obtain rfl := Option.some.inj h
    exact fun v st hp => hp
  · intro x9 he_
    subst he_
    replace h := (on_r h)
    rintro _ B _ ⟨hB, rfl, rfl⟩
    refine WX.seq ?_
    refine WX.reg ?_
    refine WO.q (.as (v := .int _ _) rfl) rfl rfl ?_
    refine WO.nil ?_
    obtain rfl := Option.some.inj h
    exact WX.ret (rs_ (rs_tmp rfl rs_nil)) fun st hp => ⟨(hp.pk [] (by decide)).le hB, rfl⟩
def slices_ContainsFunc_alloc_Extent_P (B : Kn) (L : Own) (r : Bool) : AV → St → Prop := CS B L fun v => v = .bool r
theorem slices_ContainsFunc_alloc_Extent_ok {B0 : Kn} {L : Own} {fg1 : Nat} {fc1 : List AV} {a1 : (Int × Int) → Option Bool} {a0 : List (Int × Int)} {v0_0 : AV} {r : Bool} (hf1 : ∀ (x0 : Int × Int) (r : Bool), a1 x0 = some r → ∀ B, KLe B0 B → ∀ Lx st, Hp B (Lx ++ L) st → ASpec Try.prog fg1 ([.agg [.int .i64 x0.1, .int .i64 x0.2]] ++ fc1) st (CS B (Lx ++ L) fun v => v = .bool r)) (g0_0 : RSl EPIi64Ii64Q B0 v0_0 a0) (h : slices_ContainsFunc_alloc_Extent a0 a1 = some r) : ∀ st, Hp B0 L st → ASpec Try.prog 58 [v0_0, .fn (.func fg1) [] fc1] st (slices_ContainsFunc_alloc_Extent_P B0 L r) := by
  unfold slices_ContainsFunc_alloc_Extent at h
  refine bodyA (A := []) Try.func58 rfl (c := bodyOf Try.f58) rfl Try.ntmps58 (lb rfl) fun n0 => ?_
  have hB := KLe.refl B0
  obtain ⟨_, _, _, _, _, rfl⟩ := g0_0.isl
  refine WX.seq ?_
  refine WX.reg ?_
  refine WO.q (.as (v := .bool _) rfl) rfl rfl ?_
  refine WO.nil ?_
  refine WX.seq ?_
  refine WX.reg ?_
  refine WO.q (.mv (v := .sl _ _ _ _ _ _) rfl) rfl rfl ?_
  refine WO.q (.mv (v := .fn _ _ _) rfl) rfl rfl ?_
  obtain ⟨y1, hy1, h⟩ := Option.bind_eq_some_iff.1 h
  refine WO.cS rfl rfl (slices_IndexFunc_alloc_Extent_ok (fun x_ r hx B1 hB1 Lx st hp => by have := hf1 _ _ hx B1 (hB.trans hB1) (Lx ++ _) st (by rw [List.append_assoc]; exact hp); rw [List.append_assoc] at this; exact this) g0_0 hy1) rfl rfl rfl ?_
  rintro _ rfl
  refine WO.q (.r fun _ => rfl) rfl rfl ?_
  refine WO.q (.as (v := .bool _) rfl) rfl rfl ?_
  refine WO.nil ?_
  obtain rfl := Option.some.inj h
  exact WX.ret (rs_ (rs_tmp rfl rs_nil)) fun st hp => ⟨(hp.pk [] (by decide)).le hB, rfl⟩
def alloc_Set_Has_P (B : Kn) (L : Own) (r : Bool) : AV → St → Prop := CS B L fun v => v = .bool r
theorem alloc_Set_Has_ok {B0 : Kn} {L : Own} {a0 : Int × (List (Int × Int))} {a1 : Int} {v0_0 : AV} {r : Bool} (g0_0 : RSl EPIi64Ii64Q B0 v0_0 a0.2) (h : alloc_Set_Has a0 a1 = some r) : ∀ st, Hp B0 L st → ASpec Try.prog 18 [.agg [.int .i64 a0.1, v0_0], .int .i64 a1] st (alloc_Set_Has_P B0 L r) := by
  unfold alloc_Set_Has at h
  refine bodyA (A := []) Try.func18 rfl (c := bodyOf Try.f18) rfl Try.ntmps18 (lb rfl) fun n0 => ?_
  have hB := KLe.refl B0
  obtain ⟨_, _, _, _, _, rfl⟩ := g0_0.isl
  refine WX.seq ?_
  refine WX.reg ?_
  refine WO.md (MOp.box (cA rfl)) rfl rfl ?_
  rintro _ _ ⟨b1, rfl, rfl⟩
  refine WO.md (MOp.box (cI rfl)) rfl rfl ?_
  rintro _ _ ⟨b2, rfl, rfl⟩
  refine WO.q (.as (v := .bool _) rfl) rfl rfl ?_
  refine WO.nil ?_
  refine WX.seq ?_
  refine WX.reg ?_
  refine WO.q (.fa (fa25_1 _ _)) rfl rfl ?_
  refine WO.q (.ldS (i := 1) rfl rfl rfl ti23 rfl) rfl rfl ?_
  refine WO.q (.r fun _ => rfl) rfl rfl ?_
  obtain ⟨y3, hy3, h⟩ := Option.bind_eq_some_iff.1 h
  refine WO.cS rfl rfl (slices_ContainsFunc_alloc_Extent_ok (fun _ _ hx _ _ _ => capC (List.mem_append_right _ (List.mem_append_left _ (List.mem_of_getElem? (i := 0) rfl))) fun _ => alloc_Set_Has_1_ok hx) g0_0 hy3) rfl rfl rfl ?_
  rintro _ rfl
  refine WO.q (.as (v := .bool _) rfl) rfl rfl ?_
  refine WO.nil ?_
  obtain rfl := Option.some.inj h
  exact WX.ret (rs_ (rs_tmp rfl rs_nil)) fun st hp => ⟨(hp.pk [] (by decide)).le hB, rfl⟩
def alloc_Set_may_P (B : Kn) (L : Own) (r : Bool) : AV → St → Prop := CS B L fun v => v = .bool r
theorem alloc_Set_may_ok {B0 : Kn} {L : Own} {a0 : Int × (List (Int × Int))} {a1 : Int × Int} {v0_0 : AV} {r : Bool} (g0_0 : RSl EPIi64Ii64Q B0 v0_0 a0.2) (h : alloc_Set_may a0 a1 = some r) : ∀ st, Hp B0 L st → ASpec Try.prog 61 [.agg [.int .i64 a0.1, v0_0], .agg [.int .i64 a1.1, .int .i64 a1.2]] st (alloc_Set_may_P B0 L r) := by
  unfold alloc_Set_may at h
  refine bodyA (A := []) Try.func61 rfl (c := bodyOf Try.f61) rfl Try.ntmps61 (lb rfl) fun n0 => ?_
  have hB := KLe.refl B0
  obtain ⟨_, _, _, _, _, rfl⟩ := g0_0.isl
  refine WX.seq ?_
  refine WX.reg ?_
  refine WO.md (MOp.box (cA rfl)) rfl rfl ?_
  rintro _ _ ⟨b1, rfl, rfl⟩
  refine WO.md (MOp.box (cA rfl)) rfl rfl ?_
  rintro _ _ ⟨b2, rfl, rfl⟩
  refine WO.q (.as (v := .bool _) rfl) rfl rfl ?_
  refine WO.nil ?_
  refine WX.seq ?_
  refine WX.reg ?_
  refine WO.q (.fa (fa35_0 _ _)) rfl rfl ?_
  refine WO.q (.ldS (i := 0) rfl rfl rfl ti3 rfl) rfl rfl ?_
  refine WO.q (.r fun _ => rfl) rfl rfl ?_
  refine WO.q (.mv (v := .bool _) rfl) rfl rfl ?_
  rcases bsp (decide (0 ≤ a1.1)) with k3 | k3
  · have q_k3 := of_decide_eq_true k3
    replace h := (if_pos q_k3).symm.trans h
    refine WO.q (.fa (fa35_1 _ _)) (wg rfl rfl (gt k3)) rfl ?_
    refine WO.q (.ldS (i := 0) rfl rfl rfl ti3 rfl) (wg rfl rfl (gt k3)) rfl ?_
    refine WO.q (.r fun _ => rfl) (wg rfl rfl (gt k3)) rfl ?_
    refine WO.q (.ptv (v := .bool _) rfl k3 rfl) rfl rfl ?_
    refine WO.q (.mv (v := .bool _) rfl) rfl rfl ?_
    rcases bsp (decide (1 ≤ a1.2)) with k4 | k4
    · have q_k4 := of_decide_eq_true k4
      replace h := (if_pos q_k4).symm.trans h
      refine WO.q (.fa (fa35_1 _ _)) (wg rfl rfl (gt k4)) rfl ?_
      refine WO.q (.ldS (i := 0) rfl rfl rfl ti3 rfl) (wg rfl rfl (gt k4)) rfl ?_
      refine WO.q (.fa (fa25_0 _ _)) (wg rfl rfl (gt k4)) rfl ?_
      refine WO.q (.ldS (i := 1) rfl rfl rfl ti3 rfl) (wg rfl rfl (gt k4)) rfl ?_
      refine WO.q (.r fun _ => rfl) (wg rfl rfl (gt k4)) rfl ?_
      refine WO.q (.ptv (v := .bool _) rfl k4 rfl) rfl rfl ?_
      refine WO.q (.mv (v := .bool _) rfl) rfl rfl ?_
      rcases bsp (decide (a1.2 ≤ a0.1)) with k5 | k5
      · have q_k5 := of_decide_eq_true k5
        replace h := (if_pos q_k5).symm.trans h
        refine WO.q (.fa (fa35_0 _ _)) (wg rfl rfl (gt k5)) rfl ?_
        refine WO.q (.ldS (i := 0) rfl rfl rfl ti3 rfl) (wg rfl rfl (gt k5)) rfl ?_
        refine WO.q (.fa (fa25_0 _ _)) (wg rfl rfl (gt k5)) rfl ?_
        refine WO.q (.ldS (i := 1) rfl rfl rfl ti3 rfl) (wg rfl rfl (gt k5)) rfl ?_
        refine WO.q (.fa (fa35_1 _ _)) (wg rfl rfl (gt k5)) rfl ?_
        refine WO.q (.ldS (i := 0) rfl rfl rfl ti3 rfl) (wg rfl rfl (gt k5)) rfl ?_
        refine WO.q (.r fun _ => rfl) (wg rfl rfl (gt k5)) rfl ?_
        refine WO.q (.r fun _ => rfl) (wg rfl rfl (gt k5)) rfl ?_
        refine WO.q (.ptv (v := .bool _) rfl k5 rfl) rfl rfl ?_
        refine WO.q (.as (v := .bool _) rfl) rfl rfl ?_
        refine WO.nil ?_
        obtain rfl := Option.some.inj h
        exact WX.ret (rs_ (rs_tmp rfl rs_nil)) fun st hp => ⟨(hp.pk [] (by decide)).le hB, rfl⟩
      · have q_k5 := of_decide_eq_false k5
        replace h := (if_neg q_k5).symm.trans h
        refine WO.sd (wg rfl rfl (gtn k5)) rfl ?_
        refine WO.sd (wg rfl rfl (gtn k5)) rfl ?_
        refine WO.sd (wg rfl rfl (gtn k5)) rfl ?_
        refine WO.sd (wg rfl rfl (gtn k5)) rfl ?_
        refine WO.sd (wg rfl rfl (gtn k5)) rfl ?_
        refine WO.sd (wg rfl rfl (gtn k5)) rfl ?_
        refine WO.sd (wg rfl rfl (gtn k5)) rfl ?_
        refine WO.sd (wg rfl rfl (gtn k5)) rfl ?_
        refine WO.q (.pfv (v := .bool _) rfl k5 rfl) rfl rfl ?_
        refine WO.q (.as (v := .bool _) rfl) rfl rfl ?_
        refine WO.nil ?_
        obtain rfl := Option.some.inj h
        exact WX.ret (rs_ (rs_tmp rfl rs_nil)) fun st hp => ⟨(hp.pk [] (by decide)).le hB, rfl⟩
    · have q_k4 := of_decide_eq_false k4
      replace h := (if_neg q_k4).symm.trans h
      refine WO.sd (wg rfl rfl (gtn k4)) rfl ?_
      refine WO.sd (wg rfl rfl (gtn k4)) rfl ?_
      refine WO.sd (wg rfl rfl (gtn k4)) rfl ?_
      refine WO.sd (wg rfl rfl (gtn k4)) rfl ?_
      refine WO.sd (wg rfl rfl (gtn k4)) rfl ?_
      refine WO.q (.pfv (v := .bool _) rfl k4 rfl) rfl rfl ?_
      refine WO.q (.mv (v := .bool _) rfl) rfl rfl ?_
      refine WO.sd (wg rfl rfl (gtn rfl)) rfl ?_
      refine WO.sd (wg rfl rfl (gtn rfl)) rfl ?_
      refine WO.sd (wg rfl rfl (gtn rfl)) rfl ?_
      refine WO.sd (wg rfl rfl (gtn rfl)) rfl ?_
      refine WO.sd (wg rfl rfl (gtn rfl)) rfl ?_
      refine WO.sd (wg rfl rfl (gtn rfl)) rfl ?_
      refine WO.sd (wg rfl rfl (gtn rfl)) rfl ?_
      refine WO.sd (wg rfl rfl (gtn rfl)) rfl ?_
      refine WO.q (.pfv (v := .bool _) rfl rfl rfl) rfl rfl ?_
      refine WO.q (.as (v := .bool _) rfl) rfl rfl ?_
      refine WO.nil ?_
      obtain rfl := Option.some.inj h
      exact WX.ret (rs_ (rs_tmp rfl rs_nil)) fun st hp => ⟨(hp.pk [] (by decide)).le hB, rfl⟩
  · have q_k3 := of_decide_eq_false k3
    replace h := (if_neg q_k3).symm.trans h
    refine WO.sd (wg rfl rfl (gtn k3)) rfl ?_
    refine WO.sd (wg rfl rfl (gtn k3)) rfl ?_
    refine WO.sd (wg rfl rfl (gtn k3)) rfl ?_
    refine WO.q (.pfv (v := .bool _) rfl k3 rfl) rfl rfl ?_
    refine WO.q (.mv (v := .bool _) rfl) rfl rfl ?_
    refine WO.sd (wg rfl rfl (gtn rfl)) rfl ?_
    refine WO.sd (wg rfl rfl (gtn rfl)) rfl ?_
    refine WO.sd (wg rfl rfl (gtn rfl)) rfl ?_
    refine WO.sd (wg rfl rfl (gtn rfl)) rfl ?_
    refine WO.sd (wg rfl rfl (gtn rfl)) rfl ?_
    refine WO.q (.pfv (v := .bool _) rfl rfl rfl) rfl rfl ?_
    refine WO.q (.mv (v := .bool _) rfl) rfl rfl ?_
    refine WO.sd (wg rfl rfl (gtn rfl)) rfl ?_
    refine WO.sd (wg rfl rfl (gtn rfl)) rfl ?_
    refine WO.sd (wg rfl rfl (gtn rfl)) rfl ?_
    refine WO.sd (wg rfl rfl (gtn rfl)) rfl ?_
    refine WO.sd (wg rfl rfl (gtn rfl)) rfl ?_
    refine WO.sd (wg rfl rfl (gtn rfl)) rfl ?_
    refine WO.sd (wg rfl rfl (gtn rfl)) rfl ?_
    refine WO.sd (wg rfl rfl (gtn rfl)) rfl ?_
    refine WO.q (.pfv (v := .bool _) rfl rfl rfl) rfl rfl ?_
    refine WO.q (.as (v := .bool _) rfl) rfl rfl ?_
    refine WO.nil ?_
    obtain rfl := Option.some.inj h
    exact WX.ret (rs_ (rs_tmp rfl rs_nil)) fun st hp => ⟨(hp.pk [] (by decide)).le hB, rfl⟩
def alloc_Set_Use_1_P (B : Kn) (L : Own) (b_c0 : Nat) (q0 : Int × Int) (r : Bool) : AV → St → Prop := CS B ((b_c0, some [.int .i64 q0.1, .int .i64 q0.2]) :: L) fun v => v = .bool r
theorem alloc_Set_Use_1_ok {B0 : Kn} {L : Own} {b_c0 : Nat} {q0 : Int × Int} {a0 : Int × Int} {r : Bool} (h : alloc_Set_Use_1 a0 q0 = some r) : ∀ st, Hp B0 ((b_c0, some [.int .i64 q0.1, .int .i64 q0.2]) :: L) st → ASpec Try.prog 63 [.agg [.int .i64 a0.1, .int .i64 a0.2], .ptr b_c0 0] st (alloc_Set_Use_1_P B0 L b_c0 q0 r) := by
  unfold alloc_Set_Use_1 at h
  refine bodyA (A := [(b_c0, some [.int .i64 q0.1, .int .i64 q0.2])]) Try.func63 rfl (c := bodyOf Try.f63) rfl Try.ntmps63 (lb rfl) fun n0 => ?_
  have hB := KLe.refl B0
  refine WX.seq ?_
  refine WX.reg ?_
  refine WO.md (MOp.box (cA rfl)) rfl rfl ?_
  rintro _ _ ⟨b1, rfl, rfl⟩
  refine WO.q (.as (v := .bool _) rfl) rfl rfl ?_
  refine WO.nil ?_
  refine WX.seq ?_
  refine WX.drw [0, 1, 2, 3, 4, 5, 6, 8, 7, 9, 10, 11, 12] _ mixed (by kernel_rfl) rfl (pk_sub [0, 1]) ?_
  refine WP.q (i := 0) rfl (.fa (fa35_0 _ _)) rfl rfl rfl ?_
  refine WP.q (i := 1) rfl (.ldS (i := 1) rfl rfl rfl ti3 rfl) rfl rfl rfl ?_
  refine WP.q (i := 2) rfl (.fa (fa35_0 _ _)) rfl rfl rfl ?_
  refine WP.q (i := 3) rfl (.ldS (i := 0) rfl rfl rfl ti3 rfl) rfl rfl rfl ?_
  refine WP.q (i := 4) rfl (.r fun _ => rfl) rfl rfl rfl ?_
  refine WP.q (i := 5) rfl (.mv (v := .bool _) rfl) rfl rfl rfl ?_
  rcases bsp (decide (a0.1 ≤ q0.1)) with k2 | k2
  · have q_k2 := of_decide_eq_true k2
    replace h := (if_pos q_k2).symm.trans h
    refine WP.q (i := 6) rfl (.ldA (i := 1) rfl rfl rfl ti35 rfl) rfl (wg rfl rfl (gt k2)) rfl ?_
    refine WP.q (i := 8) rfl (.ldA (i := 0) rfl rfl rfl ti35 rfl) rfl (wg rfl rfl (gt k2)) rfl ?_
    obtain ⟨y3, hy3, h⟩ := Option.bind_eq_some_iff.1 h
    refine WP.cS (i := 7) rfl rfl rfl (alloc_Extent_end_ok hy3) rfl (wg rfl rfl (gt k2)) rfl ?_
    rintro _ rfl
    obtain ⟨y4, hy4, h⟩ := Option.bind_eq_some_iff.1 h
    refine WP.cS (i := 9) rfl rfl rfl (alloc_Extent_end_ok hy4) rfl (wg rfl rfl (gt k2)) rfl ?_
    rintro _ rfl
    refine WP.q (i := 10) rfl (.r fun _ => rfl) rfl (wg rfl rfl (gt k2)) rfl ?_
    refine WP.q (i := 11) rfl (.ptv (v := .bool _) rfl k2 rfl) rfl rfl rfl ?_
    refine WP.q (i := 12) rfl (.as (v := .bool _) rfl) rfl rfl rfl ?_
    refine WP.nil ?_
    obtain rfl := Option.some.inj h
    exact WX.ret (rs_ (rs_tmp rfl rs_nil)) fun st hp => ⟨(hp.pk [1] (by decide)).le hB, rfl⟩
  · have q_k2 := of_decide_eq_false k2
    replace h := (if_neg q_k2).symm.trans h
    refine WP.sk (i := 6) rfl rfl (wg rfl rfl (gtn k2)) rfl ?_
    refine WP.sk (i := 8) rfl rfl (wg rfl rfl (gtn k2)) rfl ?_
    refine WP.sd (i := 7) rfl rfl (wg rfl rfl (gtn k2)) rfl ?_
    refine WP.sd (i := 9) rfl rfl (wg rfl rfl (gtn k2)) rfl ?_
    refine WP.sk (i := 10) rfl rfl (wg rfl rfl (gtn k2)) rfl ?_
    refine WP.q (i := 11) rfl (.pfv (v := .bool _) rfl k2 rfl) rfl rfl rfl ?_
    refine WP.q (i := 12) rfl (.as (v := .bool _) rfl) rfl rfl rfl ?_
    refine WP.nil ?_
    obtain rfl := Option.some.inj h
    exact WX.ret (rs_ (rs_tmp rfl rs_nil)) fun st hp => ⟨(hp.pk [1] (by decide)).le hB, rfl⟩
end Gab
