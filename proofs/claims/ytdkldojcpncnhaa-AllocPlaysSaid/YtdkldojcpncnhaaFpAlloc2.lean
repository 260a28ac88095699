/- The Go code comes to what the Lean functions say. Written by a program (gp.py). -/
import Derived.Test.YtdkldojcpncnhaaFd
import Derived.Test.YtdkldojcpncnhaaTy
import Derived.Test.YtdkldojcpncnhaaFpAlloc0
import Derived.Test.YtdkldojcpncnhaaFpAlloc1
set_option linter.unusedSimpArgs false
set_option linter.unusedVariables false
set_option maxHeartbeats 4000000
set_option maxRecDepth 100000
namespace Gab
open Go Go.Proofs
def alloc_Set_pieces_P (B : Kn) (L : Own) (r : (List (Int × Int))) : AV → St → Prop := C1 B L fun B' v e0 => ∃ w0 b0 n0 c0, v = w0 ∧ e0 = oe b0 n0 c0 ∧ OSl EPIi64Ii64Q B' w0 b0 n0 c0 r
def alloc_Set_pieces_l0_I (B0 : Kn) (x26 : List (Int × Int)) (x6 : List (Int × Int)) (x28 : Int) (zb3 : Int) : Fr → Kn → Own → Prop := fun fr B A => KLe B0 B ∧ ∃ b10 v11 b11 n11 c11 v12, OSl EPIi64Ii64Q B v11 b11 n11 c11 x6 ∧ RSl EPIi64Ii64Q B v12 x26 ∧ fr = [(3, .ptr b10 0), (6, v11), (26, v12), (27, .int .i64 (x26.length : Int)), (28, .int .i64 x28)] ∧ A = [(b10, some [.int .i64 zb3]), oe b11 n11 c11]
def alloc_Set_pieces_l0_X0 (B0 : Kn) (x6 : List (Int × Int)) : Fr → Kn → Own → Prop := fun fr B A => KLe B0 B ∧ ∃ v31 b31 n31 c31, OSl EPIi64Ii64Q B v31 b31 n31 c31 x6 ∧ fr = [(6, v31)] ∧ A = [oe b31 n31 c31]
theorem alloc_Set_pieces_l0_s {B0 : Kn} {L : Own} {n0 : Nat} {x26 : List (Int × Int)} {x6 : List (Int × Int)} {x28 : Int} {zb3 : Int} {Q : AV → St → Prop} {E : ((List (Int × Int)) × Int × Int) ⊕ (List (Int × Int)) → Prop} {o : ((List (Int × Int)) × Int × Int) ⊕ (List (Int × Int))} (h : alloc_Set_pieces_l0 x26 x6 x28 zb3 = some o) (hn : ∀ s, E (.inl s) → WXI Try.prog 50 n0 (Fin Try.prog Try.f66.results.toList n0 Q) [.lp (ct [1, 1, 1, 0, 1, 0, 0] (bodyOf Try.f66)), .blk 0, .code (ct [1, 1, 1, 1] (bodyOf Try.f66))] (alloc_Set_pieces_l0_I B0 x26 s.1 s.2.1 s.2.2) L) (hx0 : ∀ s, E (.inr s) → WXI Try.prog 50 n0 (Fin Try.prog Try.f66.results.toList n0 Q) [.code (ct [1, 1, 1, 1] (bodyOf Try.f66))] (alloc_Set_pieces_l0_X0 B0 s) L) (hE : E o) : WXI Try.prog 50 n0 (Fin Try.prog Try.f66.results.toList n0 Q) [.code (ct [1, 1, 1, 0, 1, 0, 0] (bodyOf Try.f66)), .lp (ct [1, 1, 1, 0, 1, 0, 0] (bodyOf Try.f66)), .blk 0, .code (ct [1, 1, 1, 1] (bodyOf Try.f66))] (alloc_Set_pieces_l0_I B0 x26 x6 x28 zb3) L := by
  unfold alloc_Set_pieces_l0 at h
  rintro _ B _ ⟨hB, b10, v11, b11, n11, c11, v12, h11, h12, rfl, rfl⟩
  obtain ⟨_, _, _, _, _, rfl⟩ := h11.isl
  obtain ⟨_, _, _, _, _, rfl⟩ := h12.isl
  refine WX.seq ?_
  refine WX.reg ?_
  refine WO.q (.r fun _ => rfl) rfl rfl ?_
  refine WO.nil ?_
  refine WX.seq ?_
  rcases bsp (decide (x28 < (x26.length : Int))) with k13 | k13
  · have q_k13 := of_decide_eq_true k13
    replace h := (if_pos q_k13).symm.trans h
    refine WX.condT rfl k13 ?_
    refine WX.skip ?_
    refine WX.seq ?_
    refine WX.block ?_
    refine WX.seq ?_
    refine WX.reg ?_
    obtain ⟨y14, hy14, h⟩ := Option.bind_eq_some_iff.1 h
    obtain ⟨b_y14, o_y14, _, i_y14, p_y14, r_y14⟩ := h12.at sl23 hy14 .i64
    obtain ⟨_, _, rfl, rfl, rfl⟩ := r_y14
    refine WO.q (.ia i_y14) rfl rfl ?_
    refine WO.q (.lpA rfl p_y14 ti35 rfl rfl) rfl rfl ?_
    refine WO.md (MOp.alloc ti35 rfl) rfl rfl ?_
    rintro _ _ ⟨b15, rfl, rfl⟩
    refine WO.mn (MOp.storeW rfl (cA rfl) .h ti35 rfl rfl rfl) rfl ?_
    rintro _ _ rfl
    refine WO.nil ?_
    refine WX.seq ?_
    refine WX.seq ?_
    refine WX.reg ?_
    refine WO.q (.ldS (i := 1) rfl rfl rfl ti3 rfl) rfl rfl ?_
    refine WO.q (.r fun _ => rfl) rfl rfl ?_
    refine WO.nil ?_
    rcases bsp (decide (zb3 = 0)) with k16 | k16
    · have q_k16 := of_decide_eq_true k16
      replace h := (if_pos q_k16).symm.trans h
      refine WX.condT rfl k16 ?_
      refine WX.exit rfl ?_
      refine WX.keep [6] (WX.pk [2] (by decide) ?_) rfl
      obtain rfl := Option.some.inj h
      exact hx0 _ hE _ _ _ ⟨hB, _, _, n11, _, h11, rfl, rfl⟩
    · have q_k16 := of_decide_eq_false k16
      replace h := (if_neg q_k16).symm.trans h
      refine WX.condF rfl k16 ?_
      refine WX.skip ?_
      refine WX.seq ?_
      refine WX.reg ?_
      refine WO.q (.ldS (i := 1) rfl rfl rfl ti3 rfl) rfl rfl ?_
      refine WO.q (.fa (fa35_1 _ _)) rfl rfl ?_
      refine WO.q (.ldS (i := 0) rfl rfl rfl ti3 rfl) rfl rfl ?_
      refine WO.q (.r fun _ => rfl) rfl rfl ?_
      refine WO.q (.as (v := .int _ _) rfl) rfl rfl ?_
      refine WO.nil ?_
      refine WX.drw [0, 1, 2, 3, 4, 7, 8, 9, 5, 6, 10, 11] _ mixed (by kernel_rfl) rfl (pk_sub [0, 1]) ?_
      refine WP.q (i := 0) rfl (.mv (v := .sl _ _ _ _ _ _) rfl) rfl rfl rfl ?_
      refine WP.q (i := 1) rfl (.fa (fa35_0 _ _)) rfl rfl rfl ?_
      refine WP.q (i := 2) rfl (.ldS (i := 0) rfl rfl rfl ti3 rfl) rfl rfl rfl ?_
      refine WP.q (i := 3) rfl (.mv (v := .int _ _) rfl) rfl rfl rfl ?_
      refine WP.q (i := 4) rfl (.bd (bd35_0_1 (cI rfl) (cI rfl))) rfl rfl rfl ?_
      refine WP.q (i := 7) rfl (.ldS (i := 1) rfl rfl rfl ti3 rfl) rfl rfl rfl ?_
      refine WP.q (i := 8) rfl (.mv (v := .int _ _) rfl) rfl rfl rfl ?_
      refine WP.q (i := 9) rfl (.r fun _ => rfl) rfl rfl rfl ?_
      refine WP.md (i := 5) rfl (MOp.bs (l := ([(y14.1, (mn zb3 y14.2))] : List (Int × Int))) sl23 (RL.cons (Rp Ri Ri) RL.nil) (lb rfl) rfl rfl) rfl rfl rfl ?_
      rintro v20 _ ⟨b18, o19, rfl⟩
      obtain ⟨_, _, _, _, _, rfl⟩ := o19.isl
      refine ⟨fun e he _ => pk_in (jx := [1, 2]) rfl e he, ?_⟩
      obtain ⟨y22, hy22, h⟩ := Option.bind_eq_some_iff.1 h
      refine WP.md (i := 6) rfl (MOp.app rfl rfl rfl sl23 h11 (Src.o (i := 0) sl23 o19 rfl) hy22 rfl rfl (fun _ => (.t (.t (.t .h))))) rfl rfl rfl ?_
      rintro v26 _ ⟨b23, n24, o25, rfl⟩
      obtain ⟨_, _, _, _, _, rfl⟩ := o25.isl
      refine ⟨fun e he _ => pk_in (jx := [1, 2]) rfl e he, ?_⟩
      refine WP.q (i := 10) rfl (.as (v := .sl _ _ _ _ _ _) rfl) rfl rfl rfl ?_
      refine WP.msn (i := 11) rfl (MOp.storeW rfl (cI rfl) (.t (.t .h)) ti3 rfl rfl rfl) rfl (by kernel_rfl) rfl ?_
      rintro _ _ rfl
      refine WS.nil ?_
      refine WX.pop ?_
      refine WX.reg ?_
      refine WO.q (.r fun _ => rfl) rfl rfl ?_
      refine WO.q (.mv (v := .int _ _) rfl) rfl rfl ?_
      refine WO.nil ?_
      refine WX.keepL [3, 6, 26, 27, 28] (WX.pk [2, 3] (by decide) ?_) rfl
      obtain rfl := Option.some.inj h
      exact hn _ hE _ _ _ ⟨hB, _, _, _, n24, _, _, o25, h12, rfl, rfl⟩
  · have q_k13 := of_decide_eq_false k13
    replace h := (if_neg q_k13).symm.trans h
    refine WX.condF rfl k13 ?_
    refine WX.exit rfl ?_
    refine WX.keep [6] (WX.pk [1] (by decide) ?_) rfl
    obtain rfl := Option.some.inj h
    exact hx0 _ hE _ _ _ ⟨hB, _, _, n11, _, h11, rfl, rfl⟩
theorem alloc_Set_pieces_l0_ok {B0 : Kn} {L : Own} {n0 : Nat} {x26 : List (Int × Int)} {x6 : List (Int × Int)} {x28 : Int} {zb3 : Int} {Q : AV → St → Prop} {d : Nat} {e : (List (Int × Int))} (h : iter (fun (s : (List (Int × Int)) × Int × Int) => alloc_Set_pieces_l0 x26 s.1 s.2.1 s.2.2) d (x6, x28, zb3) = some e) (g0 : ∀ s, e = s → WXI Try.prog 50 n0 (Fin Try.prog Try.f66.results.toList n0 Q) [.code (ct [1, 1, 1, 1] (bodyOf Try.f66))] (alloc_Set_pieces_l0_X0 B0 s) L) : WXI Try.prog 50 n0 (Fin Try.prog Try.f66.results.toList n0 Q) [.code (ct [1, 1, 1, 0, 1, 0, 0] (bodyOf Try.f66)), .lp (ct [1, 1, 1, 0, 1, 0, 0] (bodyOf Try.f66)), .blk 0, .code (ct [1, 1, 1, 1] (bodyOf Try.f66))] (alloc_Set_pieces_l0_I B0 x26 x6 x28 zb3) L :=
  iter_ok (I := fun s => alloc_Set_pieces_l0_I B0 x26 s.1 s.2.1 s.2.2) (D := fun e => (∀ s, e = s → WXI Try.prog 50 n0 (Fin Try.prog Try.f66.results.toList n0 Q) [.code (ct [1, 1, 1, 1] (bodyOf Try.f66))] (alloc_Set_pieces_l0_X0 B0 s) L)) (fun E hn hx s o ho hE => alloc_Set_pieces_l0_s ho hn (fun s hs => (hx _ hs) _ rfl)  hE) h g0
theorem alloc_Set_pieces_ok {B0 : Kn} {L : Own} {a0 : Int × (List (Int × Int))} {a1 : Int} {v0_0 : AV} {r : (List (Int × Int))} (g0_0 : RSl EPIi64Ii64Q B0 v0_0 a0.2) (h : alloc_Set_pieces a0 a1 = some r) : ∀ st, Hp B0 L st → ASpec Try.prog 66 [.agg [.int .i64 a0.1, v0_0], .int .i64 a1] st (alloc_Set_pieces_P B0 L r) := by
  unfold alloc_Set_pieces at h
  refine bodyA (A := []) Try.func66 rfl (c := bodyOf Try.f66) rfl Try.ntmps66 (lb rfl) fun n0 => ?_
  have hB := KLe.refl B0
  obtain ⟨_, _, _, _, _, rfl⟩ := g0_0.isl
  refine WX.seq ?_
  refine WX.reg ?_
  refine WO.md (MOp.box (cA rfl)) rfl rfl ?_
  rintro _ _ ⟨b1, rfl, rfl⟩
  refine WO.md (MOp.box (cI rfl)) rfl rfl ?_
  rintro _ _ ⟨b2, rfl, rfl⟩
  refine WO.q (.as (v := .sl _ _ _ _ _ _) rfl) rfl rfl ?_
  refine WO.nil ?_
  refine WX.seq ?_
  refine WX.seq ?_
  refine WX.reg ?_
  refine WO.q (.fa (fa25_1 _ _)) rfl rfl ?_
  refine WO.q (.ldS (i := 1) rfl rfl rfl ti23 rfl) rfl rfl ?_
  refine WO.q (.r fun _ => rfl) rfl rfl ?_
  obtain ⟨y3, hy3, h⟩ := Option.bind_eq_some_iff.1 h
  refine WO.cS rfl rfl (slices_IndexFunc_alloc_Extent_ok (fun _ _ hx _ _ _ => capC (List.mem_append_right _ (List.mem_append_left _ (List.mem_of_getElem? (i := 0) rfl))) fun _ => alloc_Set_pieces_1_ok hx) g0_0 hy3) rfl rfl rfl ?_
  rintro _ rfl
  refine WO.q (.as (v := .int _ _) rfl) rfl rfl ?_
  refine WO.nil ?_
  refine WX.seq ?_
  refine WX.reg ?_
  refine WO.q (.mv (v := .int _ _) rfl) rfl rfl ?_
  refine WO.q (.r fun _ => rfl) rfl rfl ?_
  refine WO.nil ?_
  rcases bsp (decide (0 ≤ y3)) with k4 | k4
  · have q_k4 := of_decide_eq_true k4
    replace h := (if_pos q_k4).symm.trans h
    refine WX.condT rfl k4 ?_
    refine WX.seq ?_
    refine WX.drw [0, 1, 2, 3, 4, 5, 6, 7, 8, 9] _ mixed (by kernel_rfl) rfl (pk_sub [0, 1]) ?_
    refine WP.q (i := 0) rfl (.fa (fa25_1 _ _)) rfl rfl rfl ?_
    refine WP.q (i := 1) rfl (.ldS (i := 1) rfl rfl rfl ti23 rfl) rfl rfl rfl ?_
    refine WP.q (i := 2) rfl (.mv (v := .int _ _) rfl) rfl rfl rfl ?_
    obtain ⟨y5, hy5, h⟩ := Option.bind_eq_some_iff.1 h
    obtain ⟨b_y5, o_y5, _, i_y5, p_y5, r_y5⟩ := g0_0.at sl23 hy5 .i64
    obtain ⟨_, _, rfl, rfl, rfl⟩ := r_y5
    refine WP.q (i := 3) rfl (.ia i_y5) rfl rfl rfl ?_
    refine WP.q (i := 4) rfl (.fa (fa35_0 _ _)) rfl rfl rfl ?_
    refine WP.q (i := 5) rfl (.lpS rfl p_y5 rfl ti3 rfl) rfl rfl rfl ?_
    refine WP.q (i := 6) rfl (.ldS (i := 0) rfl rfl rfl ti3 rfl) rfl rfl rfl ?_
    refine WP.q (i := 7) rfl (.bd (bd35_0_1 (cI rfl) (cI rfl))) rfl rfl rfl ?_
    refine WP.md (i := 8) rfl (MOp.bs (l := ([(y5.1, a1)] : List (Int × Int))) sl23 (RL.cons (Rp Ri Ri) RL.nil) (lb rfl) rfl rfl) rfl rfl rfl ?_
    rintro v8 _ ⟨b6, o7, rfl⟩
    obtain ⟨_, _, _, _, _, rfl⟩ := o7.isl
    refine ⟨fun e he _ => pk_in (jx := [1, 2]) rfl e he, ?_⟩
    refine WP.q (i := 9) rfl (.as (v := .sl _ _ _ _ _ _) rfl) rfl rfl rfl ?_
    refine WP.nil ?_
    obtain rfl := Option.some.inj h
    exact WX.ret (rs_ (rs_tmp rfl rs_nil)) fun st hp => ⟨_, _, hB, (hp.pk [0] (by decide)), _, _, false, _, rfl, rfl, o7⟩
  · have q_k4 := of_decide_eq_false k4
    replace h := (if_neg q_k4).symm.trans h
    refine WX.condF rfl k4 ?_
    refine WX.skip ?_
    refine WX.seq ?_
    refine WX.reg ?_
    refine WO.q (.as (v := .sl _ _ _ _ _ _) rfl) rfl rfl ?_
    refine WO.nil ?_
    refine WX.seq ?_
    refine WX.seq ?_
    refine WX.reg ?_
    refine WO.q (.fa (fa25_1 _ _)) rfl rfl ?_
    refine WO.q (.ldS (i := 1) rfl rfl rfl ti23 rfl) rfl rfl ?_
    refine WO.q (.len rfl rfl rfl (sl23.len g0_0.isl)) rfl rfl ?_
    refine WO.q (.mv (v := .int _ _) rfl) rfl rfl ?_
    refine WO.nil ?_
    refine WX.block ?_
    refine WX.loop ?_
    obtain ⟨e28, he28, h⟩ := Option.bind_eq_some_iff.1 h
    refine WX.keep [3, 6, 26, 27, 28] (WX.pk [0] (by decide) (WX.addn [1] ?_)) rfl
    refine alloc_Set_pieces_l0_ok he28 ?_ _ _ _ ⟨hB, _, _, 0, true, [], _, OSl.none _ _, g0_0, rfl, rfl⟩
    · intro s30 he_
      subst he_
      replace h := h
      rintro _ B _ ⟨hB, v29, b29, n29, c29, h29, rfl, rfl⟩
      obtain ⟨_, _, _, _, _, rfl⟩ := h29.isl
      refine WX.seq ?_
      refine WX.reg ?_
      refine WO.q (.mv (v := .sl _ _ _ _ _ _) rfl) rfl rfl ?_
      refine WO.q (.as (v := .sl _ _ _ _ _ _) rfl) rfl rfl ?_
      refine WO.nil ?_
      obtain rfl := Option.some.inj h
      exact WX.ret (rs_ (rs_tmp rfl rs_nil)) fun st hp => ⟨_, _, hB, (hp.pk [0] (by decide)), _, _, n29, _, rfl, rfl, h29⟩
def alloc_Set_Take_P (B : Kn) (L : Own) (r : (Int × (List (Int × Int))) × (List (Int × Int)) × Int) : AV → St → Prop := C0 B L fun B' v => ∃ w0 w1, v = .tup [.agg [.int .i64 r.1.1, w0], w1, .int .i64 r.2.2] ∧ RSl EPIi64Ii64Q B' w0 r.1.2 ∧ RSl EPIi64Ii64Q B' w1 r.2.1
def alloc_Set_Take_l0_I (B0 : Kn) (x7 : List (Int × Int)) (x23 : List (Int × Int)) (zb4 : Int × (List (Int × Int))) (x25 : Int) (zb2 : Int × (List (Int × Int))) : Fr → Kn → Own → Prop := fun fr B A => KLe B0 B ∧ ∃ b13 v14 b15 v16 b16 n16 c16 v17 v18, RSl EPIi64Ii64Q B v14 zb2.2 ∧ OSl EPIi64Ii64Q B v16 b16 n16 c16 zb4.2 ∧ RSl EPIi64Ii64Q B v17 x7 ∧ RSl EPIi64Ii64Q B v18 x23 ∧ fr = [(2, .ptr b13 0), (4, .ptr b15 0), (7, v17), (23, v18), (24, .int .i64 (x23.length : Int)), (25, .int .i64 x25)] ∧ A = [(b13, some [.int .i64 zb2.1, v14]), (b15, some [.int .i64 zb4.1, v16]), oe b16 n16 c16]
def alloc_Set_Take_l0_X0 (B0 : Kn) (x7 : List (Int × Int)) (zb2 : Int × (List (Int × Int))) (zb4 : Int × (List (Int × Int))) : Fr → Kn → Own → Prop := fun fr B A => KLe B0 B ∧ ∃ b41 v42 b43 v44 b44 n44 c44 v45, RSl EPIi64Ii64Q B v42 zb2.2 ∧ OSl EPIi64Ii64Q B v44 b44 n44 c44 zb4.2 ∧ RSl EPIi64Ii64Q B v45 x7 ∧ fr = [(2, .ptr b41 0), (4, .ptr b43 0), (7, v45)] ∧ A = [(b41, some [.int .i64 zb2.1, v42]), (b43, some [.int .i64 zb4.1, v44]), oe b44 n44 c44]
theorem alloc_Set_Take_l0_s {B0 : Kn} {L : Own} {n0 : Nat} {x7 : List (Int × Int)} {x23 : List (Int × Int)} {zb4 : Int × (List (Int × Int))} {x25 : Int} {zb2 : Int × (List (Int × Int))} {Q : AV → St → Prop} {E : (Int × (Int × (List (Int × Int)))) ⊕ (Int × (List (Int × Int))) → Prop} {o : (Int × (Int × (List (Int × Int)))) ⊕ (Int × (List (Int × Int)))} (h : alloc_Set_Take_l0 x7 x23 zb4 x25 zb2 = some o) (hn : ∀ s, E (.inl s) → WXI Try.prog 38 n0 (Fin Try.prog Try.f22.results.toList n0 Q) [.lp (ct [1, 1, 1, 0, 1, 0, 0] (bodyOf Try.f22)), .blk 1, .code (ct [1, 1, 1, 1] (bodyOf Try.f22))] (alloc_Set_Take_l0_I B0 x7 x23 zb4 s.1 s.2) L) (hx0 : ∀ s, E (.inr s) → WXI Try.prog 38 n0 (Fin Try.prog Try.f22.results.toList n0 Q) [.code (ct [1, 1, 1, 1] (bodyOf Try.f22))] (alloc_Set_Take_l0_X0 B0 x7 s zb4) L) (hE : E o) : WXI Try.prog 38 n0 (Fin Try.prog Try.f22.results.toList n0 Q) [.code (ct [1, 1, 1, 0, 1, 0, 0] (bodyOf Try.f22)), .lp (ct [1, 1, 1, 0, 1, 0, 0] (bodyOf Try.f22)), .blk 1, .code (ct [1, 1, 1, 1] (bodyOf Try.f22))] (alloc_Set_Take_l0_I B0 x7 x23 zb4 x25 zb2) L := by
  unfold alloc_Set_Take_l0 at h
  rintro _ B _ ⟨hB, b13, v14, b15, v16, b16, n16, c16, v17, v18, h14, h16, h17, h18, rfl, rfl⟩
  obtain ⟨_, _, _, _, _, rfl⟩ := h14.isl
  obtain ⟨_, _, _, _, _, rfl⟩ := h16.isl
  obtain ⟨_, _, _, _, _, rfl⟩ := h17.isl
  obtain ⟨_, _, _, _, _, rfl⟩ := h18.isl
  refine WX.seq ?_
  refine WX.reg ?_
  refine WO.q (.r fun _ => rfl) rfl rfl ?_
  refine WO.nil ?_
  refine WX.seq ?_
  rcases bsp (decide (x25 < (x23.length : Int))) with k19 | k19
  · have q_k19 := of_decide_eq_true k19
    replace h := (if_pos q_k19).symm.trans h
    refine WX.condT rfl k19 ?_
    refine WX.skip ?_
    refine WX.seq ?_
    refine WX.block ?_
    refine WX.seq ?_
    refine WX.reg ?_
    obtain ⟨y20, hy20, h⟩ := Option.bind_eq_some_iff.1 h
    obtain ⟨b_y20, o_y20, _, i_y20, p_y20, r_y20⟩ := h18.at sl23 hy20 .i64
    obtain ⟨_, _, rfl, rfl, rfl⟩ := r_y20
    refine WO.q (.ia i_y20) rfl rfl ?_
    refine WO.q (.lpA rfl p_y20 ti35 rfl rfl) rfl rfl ?_
    refine WO.md (MOp.alloc ti35 rfl) rfl rfl ?_
    rintro _ _ ⟨b21, rfl, rfl⟩
    refine WO.mn (MOp.storeW rfl (cA rfl) .h ti35 rfl rfl rfl) rfl ?_
    rintro _ _ rfl
    refine WO.nil ?_
    refine WX.reg ?_
    refine WO.q (.ldA (i := 1) rfl rfl rfl ti25 rfl) rfl rfl ?_
    refine WO.q (.ldA (i := 0) rfl rfl rfl ti35 rfl) rfl rfl ?_
    obtain ⟨y22, hy22, h⟩ := Option.bind_eq_some_iff.1 h
    refine WO.c1 rfl rfl (alloc_Set_Use_ok h14 hy22) rfl rfl rfl ?_
    rintro _ B _ hK ⟨v23, b24, n25, c26, rfl, rfl, h27⟩
    obtain ⟨_, _, _, _, _, rfl⟩ := h27.isl
    replace h17 := h17.up hK
    replace h18 := h18.up hK
    replace h14 := h14.up hK
    replace h16 := h16.up hK
    replace hB := hB.trans hK
    refine WO.q (.mv (v := .tup _) rfl) rfl rfl ?_
    refine WO.q (.r fun _ => rfl) rfl rfl ?_
    refine WO.q (.r fun _ => rfl) rfl rfl ?_
    refine WO.mn (MOp.storeW rfl (cA rfl) (.t (.t .h)) ti25 rfl rfl rfl) rfl ?_
    rintro _ _ rfl
    refine WO.nil ?_
    refine WX.pop ?_
    refine WX.reg ?_
    refine WO.q (.r fun _ => rfl) rfl rfl ?_
    refine WO.q (.mv (v := .int _ _) rfl) rfl rfl ?_
    refine WO.nil ?_
    refine WX.fz (j := 0) h27 rfl ?_
    intro B hK g28
    replace h17 := h17.up hK
    replace h18 := h18.up hK
    replace h16 := h16.up hK
    replace hB := hB.trans hK
    refine WX.keepL [2, 4, 7, 23, 24, 25] (WX.pk [1, 2, 3] (by decide) ?_) rfl
    obtain rfl := Option.some.inj h
    exact hn _ hE _ _ _ ⟨hB, _, _, _, _, _, n16, _, _, _, g28, h16, h17, h18, rfl, rfl⟩
  · have q_k19 := of_decide_eq_false k19
    replace h := (if_neg q_k19).symm.trans h
    refine WX.condF rfl k19 ?_
    refine WX.exit rfl ?_
    refine WX.keep [2, 4, 7] (WX.pk [0, 1, 2] (by decide) ?_) rfl
    obtain rfl := Option.some.inj h
    exact hx0 _ hE _ _ _ ⟨hB, _, _, _, _, _, n16, _, _, h14, h16, h17, rfl, rfl⟩
theorem alloc_Set_Take_l0_ok {B0 : Kn} {L : Own} {n0 : Nat} {x7 : List (Int × Int)} {x23 : List (Int × Int)} {zb4 : Int × (List (Int × Int))} {x25 : Int} {zb2 : Int × (List (Int × Int))} {Q : AV → St → Prop} {d : Nat} {e : (Int × (List (Int × Int)))} (h : iter (fun (s : Int × (Int × (List (Int × Int)))) => alloc_Set_Take_l0 x7 x23 zb4 s.1 s.2) d (x25, zb2) = some e) (g0 : ∀ s, e = s → WXI Try.prog 38 n0 (Fin Try.prog Try.f22.results.toList n0 Q) [.code (ct [1, 1, 1, 1] (bodyOf Try.f22))] (alloc_Set_Take_l0_X0 B0 x7 s zb4) L) : WXI Try.prog 38 n0 (Fin Try.prog Try.f22.results.toList n0 Q) [.code (ct [1, 1, 1, 0, 1, 0, 0] (bodyOf Try.f22)), .lp (ct [1, 1, 1, 0, 1, 0, 0] (bodyOf Try.f22)), .blk 1, .code (ct [1, 1, 1, 1] (bodyOf Try.f22))] (alloc_Set_Take_l0_I B0 x7 x23 zb4 x25 zb2) L :=
  iter_ok (I := fun s => alloc_Set_Take_l0_I B0 x7 x23 zb4 s.1 s.2) (D := fun e => (∀ s, e = s → WXI Try.prog 38 n0 (Fin Try.prog Try.f22.results.toList n0 Q) [.code (ct [1, 1, 1, 1] (bodyOf Try.f22))] (alloc_Set_Take_l0_X0 B0 x7 s zb4) L)) (fun E hn hx s o ho hE => alloc_Set_Take_l0_s ho hn (fun s hs => (hx _ hs) _ rfl)  hE) h g0
theorem alloc_Set_Take_ok {B0 : Kn} {L : Own} {a0 : Int × (List (Int × Int))} {a1 : Int} {v0_0 : AV} {r : (Int × (List (Int × Int))) × (List (Int × Int)) × Int} (g0_0 : RSl EPIi64Ii64Q B0 v0_0 a0.2) (h : alloc_Set_Take a0 a1 = some r) : ∀ st, Hp B0 L st → ASpec Try.prog 22 [.agg [.int .i64 a0.1, v0_0], .int .i64 a1] st (alloc_Set_Take_P B0 L r) := by
  unfold alloc_Set_Take at h
  refine bodyA (A := []) Try.func22 rfl (c := bodyOf Try.f22) rfl Try.ntmps22 (lb rfl) fun n0 => ?_
  have hB := KLe.refl B0
  obtain ⟨_, _, _, _, _, rfl⟩ := g0_0.isl
  refine WX.seq ?_
  refine WX.reg ?_
  refine WO.md (MOp.box (cA rfl)) rfl rfl ?_
  rintro _ _ ⟨b1, rfl, rfl⟩
  refine WO.md (MOp.alloc ti25 rfl) rfl rfl ?_
  rintro _ _ ⟨b2, rfl, rfl⟩
  refine WO.q (.as (v := .sl _ _ _ _ _ _) rfl) rfl rfl ?_
  refine WO.q (.as (v := .int _ _) rfl) rfl rfl ?_
  refine WO.nil ?_
  refine WX.seq ?_
  refine WX.block ?_
  refine WX.seq ?_
  refine WX.reg ?_
  refine WO.q (.mv (v := .int _ _) rfl) rfl rfl ?_
  refine WO.q (.r fun _ => rfl) rfl rfl ?_
  refine WO.q (.as (v := .bool _) rfl) rfl rfl ?_
  refine WO.nil ?_
  rcases bsp (decide (a1 < 1)) with k3 | k3
  · have q_k3 := of_decide_eq_true k3
    replace h := (if_pos q_k3).symm.trans h
    refine WX.condT rfl k3 ?_
    refine WX.seq ?_
    refine WX.reg ?_
    refine WO.q (.bd (bd25_n)) rfl rfl ?_
    refine WO.mn (MOp.storeW rfl (cA rfl) .h ti25 rfl rfl rfl) rfl ?_
    rintro _ _ rfl
    refine WO.q (.as (v := .sl _ _ _ _ _ _) rfl) rfl rfl ?_
    refine WO.q (.as (v := .int _ _) rfl) rfl rfl ?_
    refine WO.nil ?_
    obtain rfl := Option.some.inj h
    exact WX.ret (rs_ (rs_cell (.ldA (i := 0) rfl rfl rfl ti25 rfl) (rs_tmp rfl (rs_tmp rfl rs_nil)))) fun st hp => ⟨_, hB, (hp.pk [] (by decide)), .sl 0 0 0 0 0 true, .sl 0 0 0 0 0 true, rfl, (RSl.nil _ _), (RSl.nil _ _)⟩
  · have q_k3 := of_decide_eq_false k3
    replace h := (if_neg q_k3).symm.trans h
    refine WX.condF rfl k3 ?_
    refine WX.seq ?_
    refine WX.reg ?_
    refine WO.q (.mv (v := .int _ _) rfl) rfl rfl ?_
    refine WO.q (.ldA (i := 1) rfl rfl rfl ti25 rfl) rfl rfl ?_
    obtain ⟨y4, hy4, h⟩ := Option.bind_eq_some_iff.1 h
    refine WO.cS rfl rfl (alloc_Set_Free_ok g0_0 hy4) rfl rfl rfl ?_
    rintro _ rfl
    refine WO.q (.r fun _ => rfl) rfl rfl ?_
    refine WO.q (.as (v := .bool _) rfl) rfl rfl ?_
    refine WO.nil ?_
    rcases bsp (decide (y4 < a1)) with k5 | k5
    · have q_k5 := of_decide_eq_true k5
      replace h := (if_pos q_k5).symm.trans h
      refine WX.condT rfl k5 ?_
      refine WX.seq ?_
      refine WX.reg ?_
      refine WO.q (.bd (bd25_n)) rfl rfl ?_
      refine WO.mn (MOp.storeW rfl (cA rfl) .h ti25 rfl rfl rfl) rfl ?_
      rintro _ _ rfl
      refine WO.q (.as (v := .sl _ _ _ _ _ _) rfl) rfl rfl ?_
      refine WO.q (.as (v := .int _ _) rfl) rfl rfl ?_
      refine WO.nil ?_
      obtain rfl := Option.some.inj h
      exact WX.ret (rs_ (rs_cell (.ldA (i := 0) rfl rfl rfl ti25 rfl) (rs_tmp rfl (rs_tmp rfl rs_nil)))) fun st hp => ⟨_, hB, (hp.pk [] (by decide)), .sl 0 0 0 0 0 true, .sl 0 0 0 0 0 true, rfl, (RSl.nil _ _), (RSl.nil _ _)⟩
    · have q_k5 := of_decide_eq_false k5
      replace h := (if_neg q_k5).symm.trans h
      refine WX.condF rfl k5 ?_
      refine WX.skip ?_
      refine WX.pop ?_
      refine WX.seq ?_
      refine WX.reg ?_
      refine WO.q (.ldA (i := 1) rfl rfl rfl ti25 rfl) rfl rfl ?_
      refine WO.q (.mv (v := .int _ _) rfl) rfl rfl ?_
      obtain ⟨y6, hy6, h⟩ := Option.bind_eq_some_iff.1 h
      refine WO.c1 rfl rfl (alloc_Set_pieces_ok g0_0 hy6) rfl rfl rfl ?_
      rintro _ B _ hK ⟨v7, b8, n9, c10, rfl, rfl, h11⟩
      obtain ⟨_, _, _, _, _, rfl⟩ := h11.isl
      replace g0_0 := g0_0.up hK
      replace hB := hB.trans hK
      refine WO.q (.as (v := .sl _ _ _ _ _ _) rfl) rfl rfl ?_
      refine WO.nil ?_
      refine WX.seq ?_
      refine WX.seq ?_
      refine WX.reg ?_
      refine WO.q (.mv (v := .sl _ _ _ _ _ _) rfl) rfl rfl ?_
      refine WO.q (.len rfl rfl rfl (sl23.len h11.isl)) rfl rfl ?_
      refine WO.q (.mv (v := .int _ _) rfl) rfl rfl ?_
      refine WO.nil ?_
      refine WX.block ?_
      refine WX.loop ?_
      obtain ⟨e34, he34, h⟩ := Option.bind_eq_some_iff.1 h
      refine WX.fz (j := 0) h11 rfl ?_
      intro B hK g12
      replace g0_0 := g0_0.up hK
      replace hB := hB.trans hK
      refine WX.keep [2, 4, 7, 23, 24, 25] (WX.pk [1, 0] (by decide) (WX.addn [2] ?_)) rfl
      refine alloc_Set_Take_l0_ok he34 ?_ _ _ _ ⟨hB, _, _, _, _, 0, true, [], _, _, g0_0, OSl.none _ _, g12, g12, rfl, rfl⟩
      · intro s40 he_
        subst he_
        replace h := h
        rintro _ B _ ⟨hB, b35, v36, b37, v38, b38, n38, c38, v39, h36, h38, h39, rfl, rfl⟩
        obtain ⟨_, _, _, _, _, rfl⟩ := h36.isl
        obtain ⟨_, _, _, _, _, rfl⟩ := h38.isl
        obtain ⟨_, _, _, _, _, rfl⟩ := h39.isl
        refine WX.seq ?_
        refine WX.reg ?_
        refine WO.q (.ldA (i := 0) rfl rfl rfl ti25 rfl) rfl rfl ?_
        refine WO.q (.mv (v := .sl _ _ _ _ _ _) rfl) rfl rfl ?_
        refine WO.mn (MOp.storeW rfl (cA rfl) (.t .h) ti25 rfl rfl rfl) rfl ?_
        rintro _ _ rfl
        refine WO.q (.as (v := .sl _ _ _ _ _ _) rfl) rfl rfl ?_
        refine WO.q (.as (v := .int _ _) rfl) rfl rfl ?_
        refine WO.nil ?_
        obtain rfl := Option.some.inj h
        exact WX.ret (rs_ (rs_cell (.ldA (i := 1) rfl rfl rfl ti25 rfl) (rs_tmp rfl (rs_tmp rfl rs_nil)))) fun st hp => ⟨_, hB, (hp.pk [] (by decide)), _, _, rfl, h36, h39⟩
def slices_Clone_alloc_Extent_P (B : Kn) (L : Own) (r : List (Int × Int)) : AV → St → Prop := C1 B L fun B' v e0 => ∃ w b0 n0 c0, v = w ∧ e0 = oe b0 n0 c0 ∧ OSl EPIi64Ii64Q B' w b0 n0 c0 r
theorem slices_Clone_alloc_Extent_ok {B0 : Kn} {L : Own} {a0 : List (Int × Int)} {v0 : AV} {r : List (Int × Int)} (g : RSl EPIi64Ii64Q B0 v0 a0) (h : slices_Clone_alloc_Extent a0 = some r) : ∀ st, Hp B0 L st → ASpec Try.prog 65 [v0] st (slices_Clone_alloc_Extent_P B0 L r) := by
  unfold slices_Clone_alloc_Extent at h
  refine bodyA (A := []) Try.func65 rfl (c := bodyOf Try.f65) rfl Try.ntmps65 (lb rfl) fun n0 => ?_
  have hB := KLe.refl B0
  obtain ⟨sz, b, off, mc, nl, rfl, g1, g2, g3, g4⟩ := id g
  repeat refine WX.seq ?_
  refine WX.reg ?_
  refine WO.q (.as (v := .sl _ _ _ _ _ _) rfl) rfl rfl ?_
  refine WO.nil ?_
  repeat refine WX.seq ?_
  refine WX.reg ?_
  refine WO.q (.mv (v := .sl _ _ _ _ _ _) rfl) rfl rfl ?_
  refine WO.q (.bin (evslnil ti23 rfl _ _ _ _ _ _)) rfl rfl ?_
  refine WO.nil ?_
  repeat refine WX.seq ?_
  refine WX.cond rfl (fun hc => ?_) (fun hc => ?_)
  · have ha := g2 hc
    subst ha
    obtain ⟨_, rfl⟩ := appL_some h
    repeat refine WX.seq ?_
    refine WX.reg ?_
    refine WO.q (.as (v := .sl _ _ _ _ _ _) rfl) rfl rfl ?_
    refine WO.nil ?_
    exact WX.ret (rs_ (rs_tmp rfl rs_nil)) fun st hp => ⟨_, _, hB, ((hp.pk [] (by decide)).skip 0), _, 0, true, [], rfl, rfl, OSl.none _ _⟩
  · refine WX.skip ?_
    repeat refine WX.seq ?_
    refine WX.reg ?_
    refine WO.md (MOp.bs (l := ([] : List (Int × Int))) sl23 RL.nil (lb rfl) rfl rfl) rfl rfl ?_
    rintro v1 _ ⟨b1, o1, rfl⟩
    obtain ⟨_, _, _, _, _, rfl⟩ := o1.isl
    refine WO.q (.mv (v := .sl _ _ _ _ _ _) rfl) rfl rfl ?_
    obtain ⟨_, hs⟩ := Src.r sl23 g
    refine WO.md (MOp.app rfl rfl rfl sl23 o1 (hs _) h rfl rfl (fun _ => .h)) rfl rfl ?_
    rintro v2 _ ⟨b2, n2, o2, rfl⟩
    obtain ⟨_, _, _, _, _, rfl⟩ := o2.isl
    refine WO.q (.as (v := .sl _ _ _ _ _ _) rfl) rfl rfl ?_
    refine WO.nil ?_
    exact WX.ret (rs_ (rs_tmp rfl rs_nil)) fun st hp => ⟨_, _, hB, (hp.pk [0] (by decide)), _, _, n2, _, rfl, rfl, o2⟩

def alloc_Set_List_P (B : Kn) (L : Own) (r : (List (Int × Int))) : AV → St → Prop := C1 B L fun B' v e0 => ∃ w0 b0 n0 c0, v = w0 ∧ e0 = oe b0 n0 c0 ∧ OSl EPIi64Ii64Q B' w0 b0 n0 c0 r
theorem alloc_Set_List_ok {B0 : Kn} {L : Own} {a0 : Int × (List (Int × Int))} {v0_0 : AV} {r : (List (Int × Int))} (g0_0 : RSl EPIi64Ii64Q B0 v0_0 a0.2) (h : alloc_Set_List a0 = some r) : ∀ st, Hp B0 L st → ASpec Try.prog 21 [.agg [.int .i64 a0.1, v0_0]] st (alloc_Set_List_P B0 L r) := by
  unfold alloc_Set_List at h
  refine bodyA (A := []) Try.func21 rfl (c := bodyOf Try.f21) rfl Try.ntmps21 (lb rfl) fun n0 => ?_
  have hB := KLe.refl B0
  obtain ⟨_, _, _, _, _, rfl⟩ := g0_0.isl
  refine WX.seq ?_
  refine WX.reg ?_
  refine WO.md (MOp.box (cA rfl)) rfl rfl ?_
  rintro _ _ ⟨b1, rfl, rfl⟩
  refine WO.q (.as (v := .sl _ _ _ _ _ _) rfl) rfl rfl ?_
  refine WO.nil ?_
  refine WX.seq ?_
  refine WX.reg ?_
  refine WO.q (.fa (fa25_1 _ _)) rfl rfl ?_
  refine WO.q (.ldS (i := 0) rfl rfl rfl ti23 rfl) rfl rfl ?_
  obtain ⟨y2, hy2, h⟩ := Option.bind_eq_some_iff.1 h
  refine WO.c1 rfl rfl (slices_Clone_alloc_Extent_ok g0_0 hy2) rfl rfl rfl ?_
  rintro _ B _ hK ⟨v3, b4, n5, c6, rfl, rfl, h7⟩
  obtain ⟨_, _, _, _, _, rfl⟩ := h7.isl
  replace g0_0 := g0_0.up hK
  replace hB := hB.trans hK
  refine WO.q (.as (v := .sl _ _ _ _ _ _) rfl) rfl rfl ?_
  refine WO.nil ?_
  obtain rfl := Option.some.inj h
  exact WX.ret (rs_ (rs_tmp rfl rs_nil)) fun st hp => ⟨_, _, hB, (hp.pk [0] (by decide)), _, _, n5, _, rfl, rfl, h7⟩
def slices_BinarySearchFunc_alloc_Extent_int_P (B : Kn) (L : Own) (r : Int × Bool) : AV → St → Prop := CS B L fun v => v = .tup [.int .i64 r.1, .bool r.2]
def slices_BinarySearchFunc_alloc_Extent_int_l0_I (B0 : Kn) (fg2 : Nat) (fc2 : List AV) (x0 : List (Int × Int)) (x1 : Int) (x9 : Int) (x10 : Int) : Fr → Kn → Own → Prop := fun fr B A => KLe B0 B ∧ ∃ v1, RSl EPIi64Ii64Q B v1 x0 ∧ fr = [(0, v1), (1, .int .i64 x1), (2, .fn (.func fg2) [] fc2), (8, .int .i64 (x0.length : Int)), (9, .int .i64 x9), (10, .int .i64 x10)] ∧ A = []
def slices_BinarySearchFunc_alloc_Extent_int_l0_X0 (B0 : Kn) (fg2 : Nat) (fc2 : List AV) (x0 : List (Int × Int)) (x1 : Int) (x9 : Int) : Fr → Kn → Own → Prop := fun fr B A => KLe B0 B ∧ ∃ v13, RSl EPIi64Ii64Q B v13 x0 ∧ fr = [(0, v13), (1, .int .i64 x1), (2, .fn (.func fg2) [] fc2), (8, .int .i64 (x0.length : Int)), (9, .int .i64 x9)] ∧ A = []
theorem slices_BinarySearchFunc_alloc_Extent_int_l0_s {B0 : Kn} {L : Own} {n0 : Nat} {fg2 : Nat} {fc2 : List AV} {a2 : (Int × Int) → Int → Option Int} {x0 : List (Int × Int)} {x1 : Int} {x9 : Int} {x10 : Int} {Q : AV → St → Prop} {E : (Int × Int) ⊕ Int → Prop} {o : (Int × Int) ⊕ Int} (h : slices_BinarySearchFunc_alloc_Extent_int_l0 a2 x0 x1 x9 x10 = some o) (hf2 : ∀ (x0 : Int × Int) (x1 : Int) (r : Int), a2 x0 x1 = some r → ∀ B, KLe B0 B → ∀ Lx st, Hp B (Lx ++ L) st → ASpec Try.prog fg2 ([.agg [.int .i64 x0.1, .int .i64 x0.2], .int .i64 x1] ++ fc2) st (CS B (Lx ++ L) fun v => v = .int .i64 r)) (hn : ∀ s, E (.inl s) → WXI Try.prog 49 n0 (Fin Try.prog Try.f75.results.toList n0 Q) [.lp (ct [1, 1, 1, 0, 0, 0] (bodyOf Try.f75)), .blk 0, .code (ct [1, 1, 1, 1] (bodyOf Try.f75))] (slices_BinarySearchFunc_alloc_Extent_int_l0_I B0 fg2 fc2 x0 x1 s.1 s.2) L) (hx0 : ∀ s, E (.inr s) → WXI Try.prog 49 n0 (Fin Try.prog Try.f75.results.toList n0 Q) [.code (ct [1, 1, 1, 1] (bodyOf Try.f75))] (slices_BinarySearchFunc_alloc_Extent_int_l0_X0 B0 fg2 fc2 x0 x1 s) L) (hE : E o) : WXI Try.prog 49 n0 (Fin Try.prog Try.f75.results.toList n0 Q) [.code (ct [1, 1, 1, 0, 0, 0] (bodyOf Try.f75)), .lp (ct [1, 1, 1, 0, 0, 0] (bodyOf Try.f75)), .blk 0, .code (ct [1, 1, 1, 1] (bodyOf Try.f75))] (slices_BinarySearchFunc_alloc_Extent_int_l0_I B0 fg2 fc2 x0 x1 x9 x10) L := by
  unfold slices_BinarySearchFunc_alloc_Extent_int_l0 at h
  rintro _ B _ ⟨hB, v1, h1, rfl, rfl⟩
  obtain ⟨_, _, _, _, _, rfl⟩ := h1.isl
  refine WX.seq ?_
  refine WX.seq ?_
  refine WX.reg ?_
  refine WO.q (.mv (v := .int _ _) rfl) rfl rfl ?_
  refine WO.q (.mv (v := .int _ _) rfl) rfl rfl ?_
  refine WO.q (.r fun _ => rfl) rfl rfl ?_
  refine WO.nil ?_
  rcases bsp (decide (x9 < x10)) with k2 | k2
  · have q_k2 := of_decide_eq_true k2
    replace h := (if_pos q_k2).symm.trans h
    refine WX.condT rfl k2 ?_
    refine WX.skip ?_
    refine WX.block ?_
    refine WX.seq ?_
    refine WX.reg ?_
    refine WO.q (.mv (v := .int _ _) rfl) rfl rfl ?_
    refine WO.q (.mv (v := .int _ _) rfl) rfl rfl ?_
    refine WO.q (.r fun _ => rfl) rfl rfl ?_
    refine WO.q (cvI ti3 ti128 rfl rfl) rfl rfl ?_
    refine WO.q (.r fun _ => rfl) rfl rfl ?_
    refine WO.q (cvI ti128 ti3 rfl rfl) rfl rfl ?_
    refine WO.q (.as (v := .int _ _) rfl) rfl rfl ?_
    refine WO.nil ?_
    refine WX.seq ?_
    refine WX.reg ?_
    refine WO.q (.mv (v := .fn _ _ _) rfl) rfl rfl ?_
    refine WO.q (.mv (v := .sl _ _ _ _ _ _) rfl) rfl rfl ?_
    refine WO.q (.mv (v := .int _ _) rfl) rfl rfl ?_
    obtain ⟨y3, hy3, h⟩ := Option.bind_eq_some_iff.1 h
    obtain ⟨b_y3, o_y3, _, i_y3, p_y3, r_y3⟩ := h1.at sl23 hy3 .i64
    obtain ⟨_, _, rfl, rfl, rfl⟩ := r_y3
    refine WO.q (.ia i_y3) rfl rfl ?_
    refine WO.q (.lpA rfl p_y3 ti35 rfl rfl) rfl rfl ?_
    refine WO.q (.mv (v := .int _ _) rfl) rfl rfl ?_
    obtain ⟨y4, hy4, h⟩ := Option.bind_eq_some_iff.1 h
    refine WO.cS rfl rfl (hf2 _ _ _  hy4 _ hB _) rfl rfl rfl ?_
    rintro _ rfl
    refine WO.q (.r fun _ => rfl) rfl rfl ?_
    refine WO.nil ?_
    rcases bsp (decide (y4 < 0)) with k5 | k5
    · have q_k5 := of_decide_eq_true k5
      replace h := (if_pos q_k5).symm.trans h
      refine WX.condT rfl k5 ?_
      refine WX.reg ?_
      refine WO.q (.mv (v := .int _ _) rfl) rfl rfl ?_
      refine WO.q (.r fun _ => rfl) rfl rfl ?_
      refine WO.q (.as (v := .int _ _) rfl) rfl rfl ?_
      refine WO.nil ?_
      refine WX.pop ?_
      refine WX.keepL [0, 1, 2, 8, 9, 10] (WX.pk [] (by decide) ?_) rfl
      obtain rfl := Option.some.inj h
      exact hn _ hE _ _ _ ⟨hB, _, h1, rfl, rfl⟩
    · have q_k5 := of_decide_eq_false k5
      replace h := (if_neg q_k5).symm.trans h
      refine WX.condF rfl k5 ?_
      refine WX.reg ?_
      refine WO.q (.mv (v := .int _ _) rfl) rfl rfl ?_
      refine WO.q (.as (v := .int _ _) rfl) rfl rfl ?_
      refine WO.nil ?_
      refine WX.pop ?_
      refine WX.keepL [0, 1, 2, 8, 9, 10] (WX.pk [] (by decide) ?_) rfl
      obtain rfl := Option.some.inj h
      exact hn _ hE _ _ _ ⟨hB, _, h1, rfl, rfl⟩
  · have q_k2 := of_decide_eq_false k2
    replace h := (if_neg q_k2).symm.trans h
    refine WX.condF rfl k2 ?_
    refine WX.exit rfl ?_
    refine WX.keep [0, 1, 2, 8, 9] (WX.pk [] (by decide) ?_) rfl
    obtain rfl := Option.some.inj h
    exact hx0 _ hE _ _ _ ⟨hB, _, h1, rfl, rfl⟩
theorem slices_BinarySearchFunc_alloc_Extent_int_l0_ok {B0 : Kn} {L : Own} {n0 : Nat} {fg2 : Nat} {fc2 : List AV} {a2 : (Int × Int) → Int → Option Int} {x0 : List (Int × Int)} {x1 : Int} {x9 : Int} {x10 : Int} {Q : AV → St → Prop} {d : Nat} {e : Int} (h : iter (fun (s : Int × Int) => slices_BinarySearchFunc_alloc_Extent_int_l0 a2 x0 x1 s.1 s.2) d (x9, x10) = some e) (hf2 : ∀ (x0 : Int × Int) (x1 : Int) (r : Int), a2 x0 x1 = some r → ∀ B, KLe B0 B → ∀ Lx st, Hp B (Lx ++ L) st → ASpec Try.prog fg2 ([.agg [.int .i64 x0.1, .int .i64 x0.2], .int .i64 x1] ++ fc2) st (CS B (Lx ++ L) fun v => v = .int .i64 r)) (g0 : ∀ s, e = s → WXI Try.prog 49 n0 (Fin Try.prog Try.f75.results.toList n0 Q) [.code (ct [1, 1, 1, 1] (bodyOf Try.f75))] (slices_BinarySearchFunc_alloc_Extent_int_l0_X0 B0 fg2 fc2 x0 x1 s) L) : WXI Try.prog 49 n0 (Fin Try.prog Try.f75.results.toList n0 Q) [.code (ct [1, 1, 1, 0, 0, 0] (bodyOf Try.f75)), .lp (ct [1, 1, 1, 0, 0, 0] (bodyOf Try.f75)), .blk 0, .code (ct [1, 1, 1, 1] (bodyOf Try.f75))] (slices_BinarySearchFunc_alloc_Extent_int_l0_I B0 fg2 fc2 x0 x1 x9 x10) L :=
  iter_ok (I := fun s => slices_BinarySearchFunc_alloc_Extent_int_l0_I B0 fg2 fc2 x0 x1 s.1 s.2) (D := fun e => (∀ s, e = s → WXI Try.prog 49 n0 (Fin Try.prog Try.f75.results.toList n0 Q) [.code (ct [1, 1, 1, 1] (bodyOf Try.f75))] (slices_BinarySearchFunc_alloc_Extent_int_l0_X0 B0 fg2 fc2 x0 x1 s) L)) (fun E hn hx s o ho hE => slices_BinarySearchFunc_alloc_Extent_int_l0_s ho hf2 hn (fun s hs => (hx _ hs) _ rfl)  hE) h g0
theorem slices_BinarySearchFunc_alloc_Extent_int_ok {B0 : Kn} {L : Own} {fg2 : Nat} {fc2 : List AV} {a2 : (Int × Int) → Int → Option Int} {a0 : List (Int × Int)} {a1 : Int} {v0_0 : AV} {r : Int × Bool} (hf2 : ∀ (x0 : Int × Int) (x1 : Int) (r : Int), a2 x0 x1 = some r → ∀ B, KLe B0 B → ∀ Lx st, Hp B (Lx ++ L) st → ASpec Try.prog fg2 ([.agg [.int .i64 x0.1, .int .i64 x0.2], .int .i64 x1] ++ fc2) st (CS B (Lx ++ L) fun v => v = .int .i64 r)) (g0_0 : RSl EPIi64Ii64Q B0 v0_0 a0) (h : slices_BinarySearchFunc_alloc_Extent_int a0 a1 a2 = some r) : ∀ st, Hp B0 L st → ASpec Try.prog 75 [v0_0, .int .i64 a1, .fn (.func fg2) [] fc2] st (slices_BinarySearchFunc_alloc_Extent_int_P B0 L r) := by
  unfold slices_BinarySearchFunc_alloc_Extent_int at h
  refine bodyA (A := []) Try.func75 rfl (c := bodyOf Try.f75) rfl Try.ntmps75 (lb rfl) fun n0 => ?_
  have hB := KLe.refl B0
  obtain ⟨_, _, _, _, _, rfl⟩ := g0_0.isl
  refine WX.seq ?_
  refine WX.reg ?_
  refine WO.q (.as (v := .int _ _) rfl) rfl rfl ?_
  refine WO.q (.as (v := .bool _) rfl) rfl rfl ?_
  refine WO.nil ?_
  refine WX.seq ?_
  refine WX.reg ?_
  refine WO.q (.mv (v := .sl _ _ _ _ _ _) rfl) rfl rfl ?_
  refine WO.q (.len rfl rfl rfl (sl23.len g0_0.isl)) rfl rfl ?_
  refine WO.q (.as (v := .int _ _) rfl) rfl rfl ?_
  refine WO.nil ?_
  refine WX.seq ?_
  refine WX.reg ?_
  refine WO.q (.mv (v := .int _ _) rfl) rfl rfl ?_
  refine WO.q (.as (v := .int _ _) rfl) rfl rfl ?_
  refine WO.q (.as (v := .int _ _) rfl) rfl rfl ?_
  refine WO.nil ?_
  refine WX.seq ?_
  refine WX.block ?_
  refine WX.loop ?_
  obtain ⟨e7, he7, h⟩ := Option.bind_eq_some_iff.1 h
  refine WX.keep [0, 1, 2, 8, 9, 10] (WX.pk [] (by decide) ?_) rfl
  refine slices_BinarySearchFunc_alloc_Extent_int_l0_ok he7 hf2 ?_ _ _ _ ⟨hB, _, g0_0, rfl, rfl⟩
  · intro s12 he_
    subst he_
    replace h := h
    rintro _ B _ ⟨hB, v8, h8, rfl, rfl⟩
    obtain ⟨_, _, _, _, _, rfl⟩ := h8.isl
    refine WX.seq ?_
    refine WX.reg ?_
    refine WO.q (.mv (v := .int _ _) rfl) rfl rfl ?_
    refine WO.q (.mv (v := .int _ _) rfl) rfl rfl ?_
    refine WO.q (.mv (v := .int _ _) rfl) rfl rfl ?_
    refine WO.q (.r fun _ => rfl) rfl rfl ?_
    refine WO.q (.mv (v := .bool _) rfl) rfl rfl ?_
    rcases bsp (decide (e7 < (a0.length : Int))) with k9 | k9
    · have q_k9 := of_decide_eq_true k9
      replace h := (if_pos q_k9).symm.trans h
      refine WO.q (.mv (v := .fn _ _ _) rfl) (wg rfl rfl (gt k9)) rfl ?_
      refine WO.q (.mv (v := .sl _ _ _ _ _ _) rfl) (wg rfl rfl (gt k9)) rfl ?_
      refine WO.q (.mv (v := .int _ _) rfl) (wg rfl rfl (gt k9)) rfl ?_
      obtain ⟨y10, hy10, h⟩ := Option.bind_eq_some_iff.1 h
      obtain ⟨b_y10, o_y10, _, i_y10, p_y10, r_y10⟩ := h8.at sl23 hy10 .i64
      obtain ⟨_, _, rfl, rfl, rfl⟩ := r_y10
      refine WO.q (.ia i_y10) (wg rfl rfl (gt k9)) rfl ?_
      refine WO.q (.lpA rfl p_y10 ti35 rfl rfl) (wg rfl rfl (gt k9)) rfl ?_
      refine WO.q (.mv (v := .int _ _) rfl) (wg rfl rfl (gt k9)) rfl ?_
      obtain ⟨y11, hy11, h⟩ := Option.bind_eq_some_iff.1 h
      refine WO.cS rfl rfl (hf2 _ _ _  hy11 _ hB _) rfl (wg rfl rfl (gt k9)) rfl ?_
      rintro _ rfl
      refine WO.q (.r fun _ => rfl) (wg rfl rfl (gt k9)) rfl ?_
      refine WO.q (.ptv (v := .bool _) rfl k9 rfl) rfl rfl ?_
      refine WO.q (.as (v := .int _ _) rfl) rfl rfl ?_
      refine WO.q (.as (v := .bool _) rfl) rfl rfl ?_
      refine WO.nil ?_
      obtain rfl := Option.some.inj h
      exact WX.ret (rs_ (rs_tmp rfl (rs_tmp rfl rs_nil))) fun st hp => ⟨(hp.pk [] (by decide)).le hB, rfl⟩
    · have q_k9 := of_decide_eq_false k9
      replace h := (if_neg q_k9).symm.trans h
      refine WO.sd (wg rfl rfl (gtn k9)) rfl ?_
      refine WO.sd (wg rfl rfl (gtn k9)) rfl ?_
      refine WO.sd (wg rfl rfl (gtn k9)) rfl ?_
      refine WO.sd (wg rfl rfl (gtn k9)) rfl ?_
      refine WO.sd (wg rfl rfl (gtn k9)) rfl ?_
      refine WO.sd (wg rfl rfl (gtn k9)) rfl ?_
      refine WO.sd (wg rfl rfl (gtn k9)) rfl ?_
      refine WO.sd (wg rfl rfl (gtn k9)) rfl ?_
      refine WO.q (.pfv (v := .bool _) rfl k9 rfl) rfl rfl ?_
      refine WO.q (.as (v := .int _ _) rfl) rfl rfl ?_
      refine WO.q (.as (v := .bool _) rfl) rfl rfl ?_
      refine WO.nil ?_
      obtain rfl := Option.some.inj h
      exact WX.ret (rs_ (rs_tmp rfl (rs_tmp rfl rs_nil))) fun st hp => ⟨(hp.pk [] (by decide)).le hB, rfl⟩
end Gab
