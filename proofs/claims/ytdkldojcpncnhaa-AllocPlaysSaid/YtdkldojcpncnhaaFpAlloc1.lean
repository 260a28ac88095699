/- The Go code comes to what the Lean functions say. Written by a program (gp.py). -/
import Derived.Test.YtdkldojcpncnhaaFd
import Derived.Test.YtdkldojcpncnhaaTy
import Derived.Test.YtdkldojcpncnhaaFpAlloc0
set_option linter.unusedSimpArgs false
set_option linter.unusedVariables false
set_option maxHeartbeats 4000000
set_option maxRecDepth 100000
namespace Gab
open Go Go.Proofs
def slices_Grow_alloc_Extent_P (B : Kn) (L : Own) (r : List (Int × Int)) : AV → St → Prop := C1 B L fun B' v e0 => ∃ w b0 n0 c0, v = w ∧ e0 = oe b0 n0 c0 ∧ OSl EPIi64Ii64Q B' w b0 n0 c0 r
theorem slices_Grow_alloc_Extent_ok {B0 : Kn} {L : Own} {a1 : Int} {r : List (Int × Int)} (h : slices_Grow_alloc_Extent a1 = some r) : ∀ st, Hp B0 L st → ASpec Try.prog 84 [.sl 0 0 0 0 0 true, .int .i64 a1] st (slices_Grow_alloc_Extent_P B0 L r) := by
  unfold slices_Grow_alloc_Extent at h
  obtain ⟨⟨h0, h1⟩, h⟩ := ifS_some h
  obtain rfl := Option.some.inj h
  refine bodyA (A := []) Try.func84 rfl (c := bodyOf Try.f84) rfl Try.ntmps84 (lb rfl) fun n0 => ?_
  have hB := KLe.refl B0
  repeat refine WX.seq ?_
  refine WX.reg ?_
  refine WO.q (.as (v := .sl _ _ _ _ _ _) rfl) rfl rfl ?_
  refine WO.nil ?_
  repeat refine WX.seq ?_
  refine WX.reg ?_
  refine WO.q (.mv (v := .int _ _) rfl) rfl rfl ?_
  refine WO.q (.r fun _ => rfl) rfl rfl ?_
  refine WO.nil ?_
  repeat refine WX.seq ?_
  refine WX.condF rfl (decide_eq_false (by omega)) ?_
  refine WX.skip ?_
  repeat refine WX.seq ?_
  refine WX.reg ?_
  refine WO.q (.mv (v := .int _ _) rfl) rfl rfl ?_
  refine WO.q (.mv (v := .sl _ _ _ _ _ _) rfl) rfl rfl ?_
  refine WO.q (QOp.capN rfl rfl rfl ti23 rfl rfl) rfl rfl ?_
  refine WO.q (.mv (v := .sl _ _ _ _ _ _) rfl) rfl rfl ?_
  refine WO.q (.len rfl rfl rfl (sl23.len (l := ([] : List (Int × Int))) ⟨_, _, _, _, _, rfl⟩)) rfl rfl ?_
  refine WO.q (.r fun _ => rfl) rfl rfl ?_
  refine WO.q (.r fun _ => rfl) rfl rfl ?_
  refine WO.q (.as (v := .int _ _) rfl) rfl rfl ?_
  refine WO.nil ?_
  have e1 : IntKind.wrap .i64 (a1 - IntKind.wrap .i64 (0 - 0)) = a1 := by simp only [Int.sub_zero]; rw [wrap64 (n := 0) (by omega) (by omega), Int.sub_zero]; exact wrap64 (by omega) (by omega)
  repeat refine WX.seq ?_
  refine WX.reg ?_
  refine WO.q (.mv (v := .int _ _) rfl) rfl rfl ?_
  refine WO.q (.r fun _ => rfl) rfl rfl ?_
  refine WO.nil ?_
  repeat refine WX.seq ?_
  by_cases hp0 : 0 < a1
  · refine WX.condT rfl (decide_eq_true (by show 0 < IntKind.wrap .i64 (a1 - IntKind.wrap .i64 (0 - 0)); rw [e1]; exact hp0)) ?_
    repeat refine WX.seq ?_
    refine WX.reg ?_
    refine WO.q (.mv (v := .sl _ _ _ _ _ _) rfl) rfl rfl ?_
    refine WO.q (.mv (v := .sl _ _ _ _ _ _) rfl) rfl rfl ?_
    refine WO.q (QOp.capN rfl rfl rfl ti23 rfl rfl) rfl rfl ?_
    refine WO.q (.sl (v := .sl 0 0 0 0 0 true) (by simp only [evSlice, ti23, ti35, Option.bind_some]; rfl)) rfl rfl ?_
    refine WO.q (.mv (v := .int _ _) rfl) rfl rfl ?_
    refine WO.md (MOp.appMk (n := a1) (a := (0, 0)) rfl rfl rfl sl23 ti3 rfl rfl (congrArg (AV.int .i64) e1) hp0 (by omega) (by omega) (Rp Ri Ri)) rfl rfl ?_
    rintro v1 _ ⟨b1, o1, rfl⟩
    obtain ⟨sz1, mc1, rfl, q1, q2⟩ := o1.v_eq
    obtain rfl := q2 rfl
    refine WO.q (.mv (v := .sl _ _ _ _ _ _) rfl) rfl rfl ?_
    refine WO.q (.len rfl rfl rfl (sl23.len (l := ([] : List (Int × Int))) ⟨_, _, _, _, _, rfl⟩)) rfl rfl ?_
    refine WO.q (.sl (v := .sl (EPIi64Ii64Q).sz b1 0 0 mc1 false) (evsl0 ti23 rfl ti35 (h := 0) rfl rfl ⟨Nat.le_refl _, Nat.zero_le _, fun _ => rfl⟩)) rfl rfl ?_
    refine WO.q (.as (v := .sl _ _ _ _ _ _) rfl) rfl rfl ?_
    refine WO.nil ?_
    repeat refine WX.seq ?_
    refine WX.less (cs' := []) .h (fun i v hv => by simp at hv) ?_
    repeat refine WX.seq ?_
    refine WX.reg ?_
    refine WO.q (.mv (v := .sl _ _ _ _ _ _) rfl) rfl rfl ?_
    refine WO.q (.as (v := .sl _ _ _ _ _ _) rfl) rfl rfl ?_
    refine WO.nil ?_
    exact WX.ret (rs_ (rs_tmp rfl rs_nil)) fun st hp => ⟨_, _, hB, (hp.pk [0] (by decide)), _, b1, false, [], rfl, rfl, ⟨⟨_, mc1, rfl, Nat.zero_le _, fun _ => rfl⟩, by simp, rfl⟩⟩
  · refine WX.condF rfl (decide_eq_false (by show ¬ 0 < IntKind.wrap .i64 (a1 - IntKind.wrap .i64 (0 - 0)); rw [e1]; exact hp0)) ?_
    refine WX.skip ?_
    repeat refine WX.seq ?_
    refine WX.reg ?_
    refine WO.q (.mv (v := .sl _ _ _ _ _ _) rfl) rfl rfl ?_
    refine WO.q (.as (v := .sl _ _ _ _ _ _) rfl) rfl rfl ?_
    refine WO.nil ?_
    exact WX.ret (rs_ (rs_tmp rfl rs_nil)) fun st hp => ⟨_, _, hB, ((hp.pk [] (by decide)).skip 0), _, 0, true, [], rfl, rfl, OSl.none _ _⟩

def slices_Concat_alloc_Extent_P (B : Kn) (L : Own) (r : (List (Int × Int))) : AV → St → Prop := C1 B L fun B' v e0 => ∃ w0 b0 n0 c0, v = w0 ∧ e0 = oe b0 n0 c0 ∧ OSl EPIi64Ii64Q B' w0 b0 n0 c0 r
def slices_Concat_alloc_Extent_l0_I (B0 : Kn) (x0 : List (List (Int × Int))) (x9 : List (List (Int × Int))) (x3 : Int) (x11 : Int) : Fr → Kn → Own → Prop := fun fr B A => KLe B0 B ∧ ∃ v1 v2, RSl ELPIi64Ii64Q B v1 x0 ∧ RSl ELPIi64Ii64Q B v2 x9 ∧ fr = [(0, v1), (3, .int .i64 x3), (9, v2), (10, .int .i64 (x9.length : Int)), (11, .int .i64 x11)] ∧ A = []
def slices_Concat_alloc_Extent_l0_X0 (B0 : Kn) (x0 : List (List (Int × Int))) (x3 : Int) : Fr → Kn → Own → Prop := fun fr B A => KLe B0 B ∧ ∃ v32, RSl ELPIi64Ii64Q B v32 x0 ∧ fr = [(0, v32), (3, .int .i64 x3)] ∧ A = []
def slices_Concat_alloc_Extent_l1_I (B0 : Kn) (x25 : List (List (Int × Int))) (x6 : List (Int × Int)) (x27 : Int) : Fr → Kn → Own → Prop := fun fr B A => KLe B0 B ∧ ∃ v16 b16 n16 c16 v17, OSl EPIi64Ii64Q B v16 b16 n16 c16 x6 ∧ RSl ELPIi64Ii64Q B v17 x25 ∧ fr = [(6, v16), (25, v17), (26, .int .i64 (x25.length : Int)), (27, .int .i64 x27)] ∧ A = [oe b16 n16 c16]
def slices_Concat_alloc_Extent_l1_X0 (B0 : Kn) (x6 : List (Int × Int)) : Fr → Kn → Own → Prop := fun fr B A => KLe B0 B ∧ ∃ v33 b33 n33 c33, OSl EPIi64Ii64Q B v33 b33 n33 c33 x6 ∧ fr = [(6, v33)] ∧ A = [oe b33 n33 c33]
theorem slices_Concat_alloc_Extent_l0_s {B0 : Kn} {L : Own} {n0 : Nat} {x0 : List (List (Int × Int))} {x9 : List (List (Int × Int))} {x3 : Int} {x11 : Int} {Q : AV → St → Prop} {E : (Int × Int) ⊕ Int → Prop} {o : (Int × Int) ⊕ Int} (h : slices_Concat_alloc_Extent_l0 x0 x9 x3 x11 = some o) (hn : ∀ s, E (.inl s) → WXI Try.prog 36 n0 (Fin Try.prog Try.f64.results.toList n0 Q) [.lp (ct [1, 1, 0, 1, 0, 0] (bodyOf Try.f64)), .blk 0, .code (ct [1, 1, 1] (bodyOf Try.f64))] (slices_Concat_alloc_Extent_l0_I B0 x0 x9 s.1 s.2) L) (hx0 : ∀ s, E (.inr s) → WXI Try.prog 36 n0 (Fin Try.prog Try.f64.results.toList n0 Q) [.code (ct [1, 1, 1] (bodyOf Try.f64))] (slices_Concat_alloc_Extent_l0_X0 B0 x0 s) L) (hE : E o) : WXI Try.prog 36 n0 (Fin Try.prog Try.f64.results.toList n0 Q) [.code (ct [1, 1, 0, 1, 0, 0] (bodyOf Try.f64)), .lp (ct [1, 1, 0, 1, 0, 0] (bodyOf Try.f64)), .blk 0, .code (ct [1, 1, 1] (bodyOf Try.f64))] (slices_Concat_alloc_Extent_l0_I B0 x0 x9 x3 x11) L := by
  unfold slices_Concat_alloc_Extent_l0 at h
  rintro _ B _ ⟨hB, v1, v2, h1, h2, rfl, rfl⟩
  obtain ⟨_, _, _, _, _, rfl⟩ := h1.isl
  obtain ⟨_, _, _, _, _, rfl⟩ := h2.isl
  refine WX.seq ?_
  refine WX.reg ?_
  refine WO.q (.r fun _ => rfl) rfl rfl ?_
  refine WO.nil ?_
  refine WX.seq ?_
  rcases bsp (decide (x11 < (x9.length : Int))) with k3 | k3
  · have q_k3 := of_decide_eq_true k3
    replace h := (if_pos q_k3).symm.trans h
    refine WX.condT rfl k3 ?_
    refine WX.skip ?_
    refine WX.seq ?_
    refine WX.block ?_
    refine WX.seq ?_
    refine WX.reg ?_
    obtain ⟨y4, hy4, h⟩ := Option.bind_eq_some_iff.1 h
    obtain ⟨b_y4, o_y4, _, i_y4, p_y4, r_y4⟩ := h2.at sl122 hy4 .i64
    obtain ⟨w5, rfl, hw5⟩ := r_y4
    obtain ⟨_, _, _, _, _, rfl⟩ := hw5.isl
    refine WO.q (.ia i_y4) rfl rfl ?_
    refine WO.q (.lp0 rfl p_y4 rfl ti23 rfl) rfl rfl ?_
    refine WO.q (.as (v := .sl _ _ _ _ _ _) rfl) rfl rfl ?_
    refine WO.nil ?_
    refine WX.seq ?_
    refine WX.reg ?_
    refine WO.q (.mv (v := .int _ _) rfl) rfl rfl ?_
    refine WO.q (.mv (v := .sl _ _ _ _ _ _) rfl) rfl rfl ?_
    refine WO.q (.len rfl rfl rfl (sl23.len hw5.isl)) rfl rfl ?_
    refine WO.q (.r fun _ => rfl) rfl rfl ?_
    refine WO.q (.as (v := .int _ _) rfl) rfl rfl ?_
    refine WO.nil ?_
    refine WX.seq ?_
    refine WX.reg ?_
    refine WO.q (.mv (v := .int _ _) rfl) rfl rfl ?_
    refine WO.q (.r fun _ => rfl) rfl rfl ?_
    refine WO.nil ?_
    rcases bsp (decide ((wi64 (x3 + (y4.length : Int))) < 0)) with k6 | k6
    · have q_k6 := of_decide_eq_true k6
      replace h := (if_pos q_k6).symm.trans h
      refine WX.condT rfl k6 ?_
      refine WX.reg ?_
      cases h
    · have q_k6 := of_decide_eq_false k6
      replace h := (if_neg q_k6).symm.trans h
      refine WX.condF rfl k6 ?_
      refine WX.skip ?_
      refine WX.pop ?_
      refine WX.reg ?_
      refine WO.q (.r fun _ => rfl) rfl rfl ?_
      refine WO.q (.mv (v := .int _ _) rfl) rfl rfl ?_
      refine WO.nil ?_
      refine WX.keepL [0, 3, 9, 10, 11] (WX.pk [] (by decide) ?_) rfl
      obtain rfl := Option.some.inj h
      exact hn _ hE _ _ _ ⟨hB, _, _, h1, h2, rfl, rfl⟩
  · have q_k3 := of_decide_eq_false k3
    replace h := (if_neg q_k3).symm.trans h
    refine WX.condF rfl k3 ?_
    refine WX.exit rfl ?_
    refine WX.keep [0, 3] (WX.pk [] (by decide) ?_) rfl
    obtain rfl := Option.some.inj h
    exact hx0 _ hE _ _ _ ⟨hB, _, h1, rfl, rfl⟩
theorem slices_Concat_alloc_Extent_l0_ok {B0 : Kn} {L : Own} {n0 : Nat} {x0 : List (List (Int × Int))} {x9 : List (List (Int × Int))} {x3 : Int} {x11 : Int} {Q : AV → St → Prop} {d : Nat} {e : Int} (h : iter (fun (s : Int × Int) => slices_Concat_alloc_Extent_l0 x0 x9 s.1 s.2) d (x3, x11) = some e) (g0 : ∀ s, e = s → WXI Try.prog 36 n0 (Fin Try.prog Try.f64.results.toList n0 Q) [.code (ct [1, 1, 1] (bodyOf Try.f64))] (slices_Concat_alloc_Extent_l0_X0 B0 x0 s) L) : WXI Try.prog 36 n0 (Fin Try.prog Try.f64.results.toList n0 Q) [.code (ct [1, 1, 0, 1, 0, 0] (bodyOf Try.f64)), .lp (ct [1, 1, 0, 1, 0, 0] (bodyOf Try.f64)), .blk 0, .code (ct [1, 1, 1] (bodyOf Try.f64))] (slices_Concat_alloc_Extent_l0_I B0 x0 x9 x3 x11) L :=
  iter_ok (I := fun s => slices_Concat_alloc_Extent_l0_I B0 x0 x9 s.1 s.2) (D := fun e => (∀ s, e = s → WXI Try.prog 36 n0 (Fin Try.prog Try.f64.results.toList n0 Q) [.code (ct [1, 1, 1] (bodyOf Try.f64))] (slices_Concat_alloc_Extent_l0_X0 B0 x0 s) L)) (fun E hn hx s o ho hE => slices_Concat_alloc_Extent_l0_s ho hn (fun s hs => (hx _ hs) _ rfl)  hE) h g0
theorem slices_Concat_alloc_Extent_l1_s {B0 : Kn} {L : Own} {n0 : Nat} {x25 : List (List (Int × Int))} {x6 : List (Int × Int)} {x27 : Int} {Q : AV → St → Prop} {E : ((List (Int × Int)) × Int) ⊕ (List (Int × Int)) → Prop} {o : ((List (Int × Int)) × Int) ⊕ (List (Int × Int))} (h : slices_Concat_alloc_Extent_l1 x25 x6 x27 = some o) (hn : ∀ s, E (.inl s) → WXI Try.prog 36 n0 (Fin Try.prog Try.f64.results.toList n0 Q) [.lp (ct [1, 1, 1, 1, 0, 1, 0, 0] (bodyOf Try.f64)), .blk 2, .code (ct [1, 1, 1, 1, 1] (bodyOf Try.f64))] (slices_Concat_alloc_Extent_l1_I B0 x25 s.1 s.2) L) (hx0 : ∀ s, E (.inr s) → WXI Try.prog 36 n0 (Fin Try.prog Try.f64.results.toList n0 Q) [.code (ct [1, 1, 1, 1, 1] (bodyOf Try.f64))] (slices_Concat_alloc_Extent_l1_X0 B0 s) L) (hE : E o) : WXI Try.prog 36 n0 (Fin Try.prog Try.f64.results.toList n0 Q) [.code (ct [1, 1, 1, 1, 0, 1, 0, 0] (bodyOf Try.f64)), .lp (ct [1, 1, 1, 1, 0, 1, 0, 0] (bodyOf Try.f64)), .blk 2, .code (ct [1, 1, 1, 1, 1] (bodyOf Try.f64))] (slices_Concat_alloc_Extent_l1_I B0 x25 x6 x27) L := by
  unfold slices_Concat_alloc_Extent_l1 at h
  rintro _ B _ ⟨hB, v16, b16, n16, c16, v17, h16, h17, rfl, rfl⟩
  obtain ⟨_, _, _, _, _, rfl⟩ := h16.isl
  obtain ⟨_, _, _, _, _, rfl⟩ := h17.isl
  refine WX.seq ?_
  refine WX.reg ?_
  refine WO.q (.r fun _ => rfl) rfl rfl ?_
  refine WO.nil ?_
  refine WX.seq ?_
  rcases bsp (decide (x27 < (x25.length : Int))) with k18 | k18
  · have q_k18 := of_decide_eq_true k18
    replace h := (if_pos q_k18).symm.trans h
    refine WX.condT rfl k18 ?_
    refine WX.skip ?_
    refine WX.seq ?_
    refine WX.block ?_
    refine WX.seq ?_
    refine WX.reg ?_
    obtain ⟨y19, hy19, h⟩ := Option.bind_eq_some_iff.1 h
    obtain ⟨b_y19, o_y19, _, i_y19, p_y19, r_y19⟩ := h17.at sl122 hy19 .i64
    obtain ⟨w20, rfl, hw20⟩ := r_y19
    obtain ⟨_, _, _, _, _, rfl⟩ := hw20.isl
    refine WO.q (.ia i_y19) rfl rfl ?_
    refine WO.q (.lp0 rfl p_y19 rfl ti23 rfl) rfl rfl ?_
    refine WO.q (.as (v := .sl _ _ _ _ _ _) rfl) rfl rfl ?_
    refine WO.nil ?_
    refine WX.reg ?_
    refine WO.q (.mv (v := .sl _ _ _ _ _ _) rfl) rfl rfl ?_
    refine WO.q (.mv (v := .sl _ _ _ _ _ _) rfl) rfl rfl ?_
    obtain ⟨_, hs22⟩ := Src.r sl23 hw20
    obtain ⟨y21, hy21, h⟩ := Option.bind_eq_some_iff.1 h
    refine WO.md (MOp.app rfl rfl rfl sl23 h16 (hs22 _) hy21 rfl rfl (fun _ => .h)) rfl rfl ?_
    rintro v26 _ ⟨b23, n24, o25, rfl⟩
    obtain ⟨_, _, _, _, _, rfl⟩ := o25.isl
    refine WO.q (.as (v := .sl _ _ _ _ _ _) rfl) rfl rfl ?_
    refine WO.nil ?_
    refine WX.pop ?_
    refine WX.reg ?_
    refine WO.q (.r fun _ => rfl) rfl rfl ?_
    refine WO.q (.mv (v := .int _ _) rfl) rfl rfl ?_
    refine WO.nil ?_
    refine WX.keepL [6, 25, 26, 27] (WX.pk [0] (by decide) ?_) rfl
    obtain rfl := Option.some.inj h
    exact hn _ hE _ _ _ ⟨hB, _, _, n24, _, _, o25, h17, rfl, rfl⟩
  · have q_k18 := of_decide_eq_false k18
    replace h := (if_neg q_k18).symm.trans h
    refine WX.condF rfl k18 ?_
    refine WX.exit rfl ?_
    refine WX.keep [6] (WX.pk [0] (by decide) ?_) rfl
    obtain rfl := Option.some.inj h
    exact hx0 _ hE _ _ _ ⟨hB, _, _, n16, _, h16, rfl, rfl⟩
theorem slices_Concat_alloc_Extent_l1_ok {B0 : Kn} {L : Own} {n0 : Nat} {x25 : List (List (Int × Int))} {x6 : List (Int × Int)} {x27 : Int} {Q : AV → St → Prop} {d : Nat} {e : (List (Int × Int))} (h : iter (fun (s : (List (Int × Int)) × Int) => slices_Concat_alloc_Extent_l1 x25 s.1 s.2) d (x6, x27) = some e) (g0 : ∀ s, e = s → WXI Try.prog 36 n0 (Fin Try.prog Try.f64.results.toList n0 Q) [.code (ct [1, 1, 1, 1, 1] (bodyOf Try.f64))] (slices_Concat_alloc_Extent_l1_X0 B0 s) L) : WXI Try.prog 36 n0 (Fin Try.prog Try.f64.results.toList n0 Q) [.code (ct [1, 1, 1, 1, 0, 1, 0, 0] (bodyOf Try.f64)), .lp (ct [1, 1, 1, 1, 0, 1, 0, 0] (bodyOf Try.f64)), .blk 2, .code (ct [1, 1, 1, 1, 1] (bodyOf Try.f64))] (slices_Concat_alloc_Extent_l1_I B0 x25 x6 x27) L :=
  iter_ok (I := fun s => slices_Concat_alloc_Extent_l1_I B0 x25 s.1 s.2) (D := fun e => (∀ s, e = s → WXI Try.prog 36 n0 (Fin Try.prog Try.f64.results.toList n0 Q) [.code (ct [1, 1, 1, 1, 1] (bodyOf Try.f64))] (slices_Concat_alloc_Extent_l1_X0 B0 s) L)) (fun E hn hx s o ho hE => slices_Concat_alloc_Extent_l1_s ho hn (fun s hs => (hx _ hs) _ rfl)  hE) h g0
theorem slices_Concat_alloc_Extent_ok {B0 : Kn} {L : Own} {a0 : List (List (Int × Int))} {v0_0 : AV} {r : (List (Int × Int))} (g0_0 : RSl ELPIi64Ii64Q B0 v0_0 a0) (h : slices_Concat_alloc_Extent a0 = some r) : ∀ st, Hp B0 L st → ASpec Try.prog 64 [v0_0] st (slices_Concat_alloc_Extent_P B0 L r) := by
  unfold slices_Concat_alloc_Extent at h
  refine bodyA (A := []) Try.func64 rfl (c := bodyOf Try.f64) rfl Try.ntmps64 (lb rfl) fun n0 => ?_
  have hB := KLe.refl B0
  obtain ⟨_, _, _, _, _, rfl⟩ := g0_0.isl
  refine WX.seq ?_
  refine WX.reg ?_
  refine WO.q (.as (v := .sl _ _ _ _ _ _) rfl) rfl rfl ?_
  refine WO.nil ?_
  refine WX.seq ?_
  refine WX.reg ?_
  refine WO.q (.as (v := .int _ _) rfl) rfl rfl ?_
  refine WO.nil ?_
  refine WX.seq ?_
  refine WX.seq ?_
  refine WX.reg ?_
  refine WO.q (.mv (v := .sl _ _ _ _ _ _) rfl) rfl rfl ?_
  refine WO.q (.len rfl rfl rfl (sl122.len g0_0.isl)) rfl rfl ?_
  refine WO.q (.mv (v := .int _ _) rfl) rfl rfl ?_
  refine WO.nil ?_
  refine WX.block ?_
  refine WX.loop ?_
  obtain ⟨e8, he8, h⟩ := Option.bind_eq_some_iff.1 h
  refine WX.keep [0, 3, 9, 10, 11] (WX.pk [] (by decide) ?_) rfl
  refine slices_Concat_alloc_Extent_l0_ok he8 ?_ _ _ _ ⟨hB, _, _, g0_0, g0_0, rfl, rfl⟩
  · intro s31 he_
    subst he_
    replace h := h
    rintro _ B _ ⟨hB, v9, h9, rfl, rfl⟩
    obtain ⟨_, _, _, _, _, rfl⟩ := h9.isl
    refine WX.seq ?_
    refine WX.reg ?_
    refine WO.q (.mv (v := .int _ _) rfl) rfl rfl ?_
    obtain ⟨y10, hy10, h⟩ := Option.bind_eq_some_iff.1 h
    refine WO.c1 rfl rfl (slices_Grow_alloc_Extent_ok hy10) rfl rfl rfl ?_
    rintro _ B _ hK ⟨v11, b12, n13, c14, rfl, rfl, h15⟩
    obtain ⟨_, _, _, _, _, rfl⟩ := h15.isl
    replace h9 := h9.up hK
    replace hB := hB.trans hK
    refine WO.q (.as (v := .sl _ _ _ _ _ _) rfl) rfl rfl ?_
    refine WO.nil ?_
    refine WX.seq ?_
    refine WX.seq ?_
    refine WX.reg ?_
    refine WO.q (.mv (v := .sl _ _ _ _ _ _) rfl) rfl rfl ?_
    refine WO.q (.len rfl rfl rfl (sl122.len h9.isl)) rfl rfl ?_
    refine WO.q (.mv (v := .int _ _) rfl) rfl rfl ?_
    refine WO.nil ?_
    refine WX.block ?_
    refine WX.loop ?_
    obtain ⟨e28, he28, h⟩ := Option.bind_eq_some_iff.1 h
    refine WX.keep [6, 25, 26, 27] (WX.pk [0] (by decide) ?_) rfl
    refine slices_Concat_alloc_Extent_l1_ok he28 ?_ _ _ _ ⟨hB, _, _, n13, _, _, h15, h9, rfl, rfl⟩
    · intro s30 he_
      subst he_
      replace h := h
      rintro _ B _ ⟨hB, v29, b29, n29, c29, h29, rfl, rfl⟩
      obtain ⟨_, _, _, _, _, rfl⟩ := h29.isl
      refine WX.seq ?_
      refine WX.reg ?_
      refine WO.q (.mv (v := .sl _ _ _ _ _ _) rfl) rfl rfl ?_
      refine WO.q (.as (v := .sl _ _ _ _ _ _) rfl) rfl rfl ?_
      refine WO.nil ?_
      obtain rfl := Option.some.inj h
      exact WX.ret (rs_ (rs_tmp rfl rs_nil)) fun st hp => ⟨_, _, hB, (hp.pk [0] (by decide)), _, _, n29, _, rfl, rfl, h29⟩
def alloc_Set_Use_P (B : Kn) (L : Own) (r : (Int × (List (Int × Int))) × Int) : AV → St → Prop := C1 B L fun B' v e0 => ∃ w0 b0 n0 c0, v = .tup [.agg [.int .i64 r.1.1, w0], .int .i64 r.2] ∧ e0 = oe b0 n0 c0 ∧ OSl EPIi64Ii64Q B' w0 b0 n0 c0 r.1.2
def alloc_Set_Use_j13_I (B0 : Kn) (x6 : Int) (x8 : List (Int × Int)) (x44 : List (Int × Int)) (x46 : Int) (zb2 : Int × (List (Int × Int))) (zb4 : Int × (List (Int × Int))) : Fr → Kn → Own → Prop := fun fr B A => KLe B0 B ∧ ∃ b36 v37 b38 v39 b39 n39 c39 v40 b40 n40 c40 v41 b41 n41 c41, RSl EPIi64Ii64Q B v37 zb2.2 ∧ OSl EPIi64Ii64Q B v39 b39 n39 c39 zb4.2 ∧ OSl EPIi64Ii64Q B v40 b40 n40 c40 x8 ∧ OSl EPIi64Ii64Q B v41 b41 n41 c41 x44 ∧ fr = [(2, .ptr b36 0), (4, .ptr b38 0), (6, .int .i64 x6), (8, v40), (44, v41), (45, .int .i64 (x44.length : Int)), (46, .int .i64 x46)] ∧ A = [(b36, some [.int .i64 zb2.1, v37]), (b38, some [.int .i64 zb4.1, v39]), oe b39 n39 c39, oe b40 n40 c40, oe b41 n41 c41]
def alloc_Set_Use_l0_I (B0 : Kn) (x6 : Int) (x44 : List (Int × Int)) (zb2 : Int × (List (Int × Int))) (zb4 : Int × (List (Int × Int))) (x8 : List (Int × Int)) (x46 : Int) : Fr → Kn → Own → Prop := fun fr B A => KLe B0 B ∧ ∃ b17 v18 b19 v20 b20 n20 c20 v21 b21 n21 c21 v22 b22 n22 c22, RSl EPIi64Ii64Q B v18 zb2.2 ∧ OSl EPIi64Ii64Q B v20 b20 n20 c20 zb4.2 ∧ OSl EPIi64Ii64Q B v21 b21 n21 c21 x8 ∧ OSl EPIi64Ii64Q B v22 b22 n22 c22 x44 ∧ fr = [(2, .ptr b17 0), (4, .ptr b19 0), (6, .int .i64 x6), (8, v21), (44, v22), (45, .int .i64 (x44.length : Int)), (46, .int .i64 x46)] ∧ A = [(b17, some [.int .i64 zb2.1, v18]), (b19, some [.int .i64 zb4.1, v20]), oe b20 n20 c20, oe b21 n21 c21, oe b22 n22 c22]
def alloc_Set_Use_l0_X0 (B0 : Kn) (x6 : Int) (x8 : List (Int × Int)) (zb2 : Int × (List (Int × Int))) (zb4 : Int × (List (Int × Int))) : Fr → Kn → Own → Prop := fun fr B A => KLe B0 B ∧ ∃ b68 v69 b70 v71 b71 n71 c71 v72 b72 n72 c72, RSl EPIi64Ii64Q B v69 zb2.2 ∧ OSl EPIi64Ii64Q B v71 b71 n71 c71 zb4.2 ∧ OSl EPIi64Ii64Q B v72 b72 n72 c72 x8 ∧ fr = [(2, .ptr b68 0), (4, .ptr b70 0), (6, .int .i64 x6), (8, v72)] ∧ A = [(b68, some [.int .i64 zb2.1, v69]), (b70, some [.int .i64 zb4.1, v71]), oe b71 n71 c71, oe b72 n72 c72]
theorem alloc_Set_Use_j13_ok {B0 : Kn} {L : Own} {n0 : Nat} {x6 : Int} {x8 : List (Int × Int)} {x44 : List (Int × Int)} {x46 : Int} {zb2 : Int × (List (Int × Int))} {zb4 : Int × (List (Int × Int))} {Q : AV → St → Prop} {E : ((List (Int × Int)) × Int) ⊕ (List (Int × Int)) → Prop} {o : ((List (Int × Int)) × Int) ⊕ (List (Int × Int))} (h : alloc_Set_Use_j13 x6 x8 x44 x46 zb2 zb4 = some o) (hn : ∀ s, E (.inl s) → WXI Try.prog 73 n0 (Fin Try.prog Try.f20.results.toList n0 Q) [.lp (ct [1, 1, 1, 1, 1, 1, 0, 1, 0, 0] (bodyOf Try.f20)), .blk 0, .code (ct [1, 1, 1, 1, 1, 1, 1] (bodyOf Try.f20))] (alloc_Set_Use_l0_I B0 x6 x44 zb2 zb4 s.1 s.2) L) (hx0 : ∀ s, E (.inr s) → WXI Try.prog 73 n0 (Fin Try.prog Try.f20.results.toList n0 Q) [.code (ct [1, 1, 1, 1, 1, 1, 1] (bodyOf Try.f20))] (alloc_Set_Use_l0_X0 B0 x6 s zb2 zb4) L) (hE : E o) : WXI Try.prog 73 n0 (Fin Try.prog Try.f20.results.toList n0 Q) [.code (ct [1, 1, 1, 1, 1, 1, 0, 1, 0, 0, 1, 1, 1] (bodyOf Try.f20)), .lp (ct [1, 1, 1, 1, 1, 1, 0, 1, 0, 0] (bodyOf Try.f20)), .blk 0, .code (ct [1, 1, 1, 1, 1, 1, 1] (bodyOf Try.f20))] (alloc_Set_Use_j13_I B0 x6 x8 x44 x46 zb2 zb4) L := by
  unfold alloc_Set_Use_j13 at h
  rintro _ B _ ⟨hB, b36, v37, b38, v39, b39, n39, c39, v40, b40, n40, c40, v41, b41, n41, c41, h37, h39, h40, h41, rfl, rfl⟩
  obtain ⟨_, _, _, _, _, rfl⟩ := h37.isl
  obtain ⟨_, _, _, _, _, rfl⟩ := h39.isl
  obtain ⟨_, _, _, _, _, rfl⟩ := h40.isl
  obtain ⟨_, _, _, _, _, rfl⟩ := h41.isl
  refine WX.reg ?_
  refine WO.q (.r fun _ => rfl) rfl rfl ?_
  refine WO.q (.mv (v := .int _ _) rfl) rfl rfl ?_
  refine WO.nil ?_
  refine WX.keepL [2, 4, 6, 8, 44, 45, 46] (WX.pk [0, 1, 2, 3, 4] (by decide) ?_) rfl
  obtain rfl := Option.some.inj h
  exact hn _ hE _ _ _ ⟨hB, _, _, _, _, _, n39, _, _, _, n40, _, _, _, n41, _, h37, h39, h40, h41, rfl, rfl⟩
theorem alloc_Set_Use_l0_s {B0 : Kn} {L : Own} {n0 : Nat} {x6 : Int} {x44 : List (Int × Int)} {zb2 : Int × (List (Int × Int))} {zb4 : Int × (List (Int × Int))} {x8 : List (Int × Int)} {x46 : Int} {Q : AV → St → Prop} {E : ((List (Int × Int)) × Int) ⊕ (List (Int × Int)) → Prop} {o : ((List (Int × Int)) × Int) ⊕ (List (Int × Int))} (h : alloc_Set_Use_l0 x6 x44 zb2 zb4 x8 x46 = some o) (hn : ∀ s, E (.inl s) → WXI Try.prog 73 n0 (Fin Try.prog Try.f20.results.toList n0 Q) [.lp (ct [1, 1, 1, 1, 1, 1, 0, 1, 0, 0] (bodyOf Try.f20)), .blk 0, .code (ct [1, 1, 1, 1, 1, 1, 1] (bodyOf Try.f20))] (alloc_Set_Use_l0_I B0 x6 x44 zb2 zb4 s.1 s.2) L) (hx0 : ∀ s, E (.inr s) → WXI Try.prog 73 n0 (Fin Try.prog Try.f20.results.toList n0 Q) [.code (ct [1, 1, 1, 1, 1, 1, 1] (bodyOf Try.f20))] (alloc_Set_Use_l0_X0 B0 x6 s zb2 zb4) L) (hE : E o) : WXI Try.prog 73 n0 (Fin Try.prog Try.f20.results.toList n0 Q) [.code (ct [1, 1, 1, 1, 1, 1, 0, 1, 0, 0] (bodyOf Try.f20)), .lp (ct [1, 1, 1, 1, 1, 1, 0, 1, 0, 0] (bodyOf Try.f20)), .blk 0, .code (ct [1, 1, 1, 1, 1, 1, 1] (bodyOf Try.f20))] (alloc_Set_Use_l0_I B0 x6 x44 zb2 zb4 x8 x46) L := by
  unfold alloc_Set_Use_l0 at h
  rintro _ B _ ⟨hB, b17, v18, b19, v20, b20, n20, c20, v21, b21, n21, c21, v22, b22, n22, c22, h18, h20, h21, h22, rfl, rfl⟩
  obtain ⟨_, _, _, _, _, rfl⟩ := h18.isl
  obtain ⟨_, _, _, _, _, rfl⟩ := h20.isl
  obtain ⟨_, _, _, _, _, rfl⟩ := h21.isl
  obtain ⟨_, _, _, _, _, rfl⟩ := h22.isl
  refine WX.seq ?_
  refine WX.reg ?_
  refine WO.q (.r fun _ => rfl) rfl rfl ?_
  refine WO.nil ?_
  refine WX.seq ?_
  rcases bsp (decide (x46 < (x44.length : Int))) with k23 | k23
  · have q_k23 := of_decide_eq_true k23
    replace h := (if_pos q_k23).symm.trans h
    refine WX.condT rfl k23 ?_
    refine WX.skip ?_
    refine WX.seq ?_
    refine WX.block ?_
    refine WX.seq ?_
    refine WX.reg ?_
    obtain ⟨y24, hy24, h⟩ := Option.bind_eq_some_iff.1 h
    obtain rfl := h22.nonnil hy24
    obtain ⟨_, i_y24, l_y24, r_y24⟩ := h22.at sl23 hy24 .i64
    obtain ⟨_, _, rfl, rfl, rfl⟩ := r_y24
    refine WO.q (.ia i_y24) rfl rfl ?_
    refine WO.q (.leA (i := 4) rfl rfl l_y24 ti35 rfl rfl) rfl rfl ?_
    refine WO.md (MOp.alloc ti35 rfl) rfl rfl ?_
    rintro _ _ ⟨b25, rfl, rfl⟩
    refine WO.mn (MOp.storeW rfl (cA rfl) .h ti35 rfl rfl rfl) rfl ?_
    rintro _ _ rfl
    refine WO.nil ?_
    refine WX.seq ?_
    refine WX.reg ?_
    refine WO.q (.fa (fa35_1 _ _)) rfl rfl ?_
    refine WO.q (.ldS (i := 0) rfl rfl rfl ti3 rfl) rfl rfl ?_
    refine WO.q (.r fun _ => rfl) rfl rfl ?_
    refine WO.nil ?_
    rcases bsp (decide (0 < y24.2)) with k26 | k26
    · have q_k26 := of_decide_eq_true k26
      replace h := (if_pos q_k26).symm.trans h
      refine WX.condT rfl k26 ?_
      refine WX.reg ?_
      refine WO.q (.mv (v := .sl _ _ _ _ _ _) rfl) rfl rfl ?_
      refine WO.q (.ldA (i := 0) rfl rfl rfl ti35 rfl) rfl rfl ?_
      refine WO.md (MOp.bs (l := ([y24] : List (Int × Int))) sl23 (RL.cons (Rp Ri Ri) RL.nil) (lb rfl) rfl rfl) rfl rfl ?_
      rintro v29 _ ⟨b27, o28, rfl⟩
      obtain ⟨_, _, _, _, _, rfl⟩ := o28.isl
      obtain ⟨y31, hy31, h⟩ := Option.bind_eq_some_iff.1 h
      refine WO.md (MOp.app rfl rfl rfl sl23 h21 (Src.o (i := 0) sl23 o28 rfl) hy31 rfl rfl (fun _ => (.t (.t (.t (.t (.t .h))))))) rfl rfl ?_
      rintro v35 _ ⟨b32, n33, o34, rfl⟩
      obtain ⟨_, _, _, _, _, rfl⟩ := o34.isl
      refine WO.q (.as (v := .sl _ _ _ _ _ _) rfl) rfl rfl ?_
      refine WO.nil ?_
      refine WX.pop ?_
      refine WX.keep [2, 4, 6, 8, 44, 45, 46] (WX.pk [2, 3, 4, 5, 6] (by decide) ?_) rfl
      exact alloc_Set_Use_j13_ok h hn hx0 hE _ _ _ ⟨hB, _, _, _, _, _, n20, _, _, _, n33, _, _, _, false, _, h18, h20, o34, h22, rfl, rfl⟩
    · have q_k26 := of_decide_eq_false k26
      replace h := (if_neg q_k26).symm.trans h
      refine WX.condF rfl k26 ?_
      refine WX.skip ?_
      refine WX.pop ?_
      refine WX.keep [2, 4, 6, 8, 44, 45, 46] (WX.pk [1, 2, 3, 4, 5] (by decide) ?_) rfl
      exact alloc_Set_Use_j13_ok h hn hx0 hE _ _ _ ⟨hB, _, _, _, _, _, n20, _, _, _, n21, _, _, _, false, _, h18, h20, h21, h22, rfl, rfl⟩
  · have q_k23 := of_decide_eq_false k23
    replace h := (if_neg q_k23).symm.trans h
    refine WX.condF rfl k23 ?_
    refine WX.exit rfl ?_
    refine WX.keep [2, 4, 6, 8] (WX.pk [0, 1, 2, 3] (by decide) ?_) rfl
    obtain rfl := Option.some.inj h
    exact hx0 _ hE _ _ _ ⟨hB, _, _, _, _, _, n20, _, _, _, n21, _, h18, h20, h21, rfl, rfl⟩
theorem alloc_Set_Use_l0_ok {B0 : Kn} {L : Own} {n0 : Nat} {x6 : Int} {x44 : List (Int × Int)} {zb2 : Int × (List (Int × Int))} {zb4 : Int × (List (Int × Int))} {x8 : List (Int × Int)} {x46 : Int} {Q : AV → St → Prop} {d : Nat} {e : (List (Int × Int))} (h : iter (fun (s : (List (Int × Int)) × Int) => alloc_Set_Use_l0 x6 x44 zb2 zb4 s.1 s.2) d (x8, x46) = some e) (g0 : ∀ s, e = s → WXI Try.prog 73 n0 (Fin Try.prog Try.f20.results.toList n0 Q) [.code (ct [1, 1, 1, 1, 1, 1, 1] (bodyOf Try.f20))] (alloc_Set_Use_l0_X0 B0 x6 s zb2 zb4) L) : WXI Try.prog 73 n0 (Fin Try.prog Try.f20.results.toList n0 Q) [.code (ct [1, 1, 1, 1, 1, 1, 0, 1, 0, 0] (bodyOf Try.f20)), .lp (ct [1, 1, 1, 1, 1, 1, 0, 1, 0, 0] (bodyOf Try.f20)), .blk 0, .code (ct [1, 1, 1, 1, 1, 1, 1] (bodyOf Try.f20))] (alloc_Set_Use_l0_I B0 x6 x44 zb2 zb4 x8 x46) L :=
  iter_ok (I := fun s => alloc_Set_Use_l0_I B0 x6 x44 zb2 zb4 s.1 s.2) (D := fun e => (∀ s, e = s → WXI Try.prog 73 n0 (Fin Try.prog Try.f20.results.toList n0 Q) [.code (ct [1, 1, 1, 1, 1, 1, 1] (bodyOf Try.f20))] (alloc_Set_Use_l0_X0 B0 x6 s zb2 zb4) L)) (fun E hn hx s o ho hE => alloc_Set_Use_l0_s ho hn (fun s hs => (hx _ hs) _ rfl)  hE) h g0
theorem alloc_Set_Use_ok {B0 : Kn} {L : Own} {a0 : Int × (List (Int × Int))} {a1 : Int × Int} {v0_0 : AV} {r : (Int × (List (Int × Int))) × Int} (g0_0 : RSl EPIi64Ii64Q B0 v0_0 a0.2) (h : alloc_Set_Use a0 a1 = some r) : ∀ st, Hp B0 L st → ASpec Try.prog 20 [.agg [.int .i64 a0.1, v0_0], .agg [.int .i64 a1.1, .int .i64 a1.2]] st (alloc_Set_Use_P B0 L r) := by
  unfold alloc_Set_Use at h
  refine bodyA (A := []) Try.func20 rfl (c := bodyOf Try.f20) rfl Try.ntmps20 (lb rfl) fun n0 => ?_
  have hB := KLe.refl B0
  obtain ⟨_, _, _, _, _, rfl⟩ := g0_0.isl
  refine WX.seq ?_
  refine WX.reg ?_
  refine WO.md (MOp.box (cA rfl)) rfl rfl ?_
  rintro _ _ ⟨b1, rfl, rfl⟩
  refine WO.md (MOp.box (cA rfl)) rfl rfl ?_
  rintro _ _ ⟨b2, rfl, rfl⟩
  refine WO.md (MOp.alloc ti25 rfl) rfl rfl ?_
  rintro _ _ ⟨b3, rfl, rfl⟩
  refine WO.q (.as (v := .int _ _) rfl) rfl rfl ?_
  refine WO.nil ?_
  refine WX.seq ?_
  refine WX.seq ?_
  refine WX.reg ?_
  refine WO.q (.ldA (i := 2) rfl rfl rfl ti25 rfl) rfl rfl ?_
  refine WO.q (.ldA (i := 1) rfl rfl rfl ti35 rfl) rfl rfl ?_
  obtain ⟨y4, hy4, h⟩ := Option.bind_eq_some_iff.1 h
  refine WO.cS rfl rfl (alloc_Set_may_ok g0_0 hy4) rfl rfl rfl ?_
  rintro _ rfl
  refine WO.q (.r fun _ => rfl) rfl rfl ?_
  refine WO.nil ?_
  rcases bsp y4 with k5 | k5
  · replace h := (if_pos k5).symm.trans h
    refine WX.condF rfl (f_not k5) ?_
    refine WX.skip ?_
    refine WX.seq ?_
    refine WX.reg ?_
    refine WO.q (.fa (fa25_1 _ _)) rfl rfl ?_
    refine WO.q (.ldS (i := 2) rfl rfl rfl ti23 rfl) rfl rfl ?_
    refine WO.q (.r fun _ => rfl) rfl rfl ?_
    obtain ⟨y6, hy6, h⟩ := Option.bind_eq_some_iff.1 h
    refine WO.cS rfl rfl (slices_IndexFunc_alloc_Extent_ok (fun _ _ hx _ _ _ => capC (List.mem_append_right _ (List.mem_append_left _ (List.mem_of_getElem? (i := 1) rfl))) fun _ => alloc_Set_Use_1_ok hx) g0_0 hy6) rfl rfl rfl ?_
    rintro _ rfl
    refine WO.q (.as (v := .int _ _) rfl) rfl rfl ?_
    refine WO.nil ?_
    refine WX.seq ?_
    refine WX.seq ?_
    refine WX.reg ?_
    refine WO.q (.mv (v := .int _ _) rfl) rfl rfl ?_
    refine WO.q (.r fun _ => rfl) rfl rfl ?_
    refine WO.nil ?_
    rcases bsp (decide (y6 < 0)) with k7 | k7
    · have q_k7 := of_decide_eq_true k7
      replace h := (if_pos q_k7).symm.trans h
      refine WX.condT rfl k7 ?_
      refine WX.seq ?_
      refine WX.reg ?_
      refine WO.q (.bd (bd25_n)) rfl rfl ?_
      refine WO.mn (MOp.storeW rfl (cA rfl) .h ti25 rfl rfl rfl) rfl ?_
      rintro _ _ rfl
      refine WO.q (.as (v := .int _ _) rfl) rfl rfl ?_
      refine WO.nil ?_
      obtain rfl := Option.some.inj h
      exact WX.ret (rs_ (rs_cell (.ldA (i := 0) rfl rfl rfl ti25 rfl) (rs_tmp rfl rs_nil))) fun st hp => ⟨_, _, hB, ((hp.pk [] (by decide)).skip 0), _, 0, true, [], rfl, rfl, OSl.none _ _⟩
    · have q_k7 := of_decide_eq_false k7
      replace h := (if_neg q_k7).symm.trans h
      refine WX.condF rfl k7 ?_
      refine WX.skip ?_
      refine WX.seq ?_
      refine WX.reg ?_
      refine WO.q (.fa (fa25_1 _ _)) rfl rfl ?_
      refine WO.q (.ldS (i := 2) rfl rfl rfl ti23 rfl) rfl rfl ?_
      refine WO.q (.mv (v := .int _ _) rfl) rfl rfl ?_
      obtain ⟨y8, hy8, h⟩ := Option.bind_eq_some_iff.1 h
      obtain ⟨b_y8, o_y8, _, i_y8, p_y8, r_y8⟩ := g0_0.at sl23 hy8 .i64
      obtain ⟨_, _, rfl, rfl, rfl⟩ := r_y8
      refine WO.q (.ia i_y8) rfl rfl ?_
      refine WO.q (.lpA rfl p_y8 ti35 rfl rfl) rfl rfl ?_
      refine WO.md (MOp.alloc ti35 rfl) rfl rfl ?_
      rintro _ _ ⟨b9, rfl, rfl⟩
      refine WO.mn (MOp.storeW rfl (cA rfl) .h ti35 rfl rfl rfl) rfl ?_
      rintro _ _ rfl
      refine WO.nil ?_
      refine WX.seq ?_
      refine WX.reg ?_
      refine WO.q (.as (v := .sl _ _ _ _ _ _) rfl) rfl rfl ?_
      refine WO.nil ?_
      refine WX.seq ?_
      refine WX.seq ?_
      refine WX.drw [0, 1, 2, 3, 4, 5, 6, 7, 8, 10, 12, 18, 9, 11, 13, 14, 15, 16, 17] _ mixed (by kernel_rfl) rfl (pk_sub [0, 1, 2, 3]) ?_
      refine WP.q (i := 0) rfl (.fa (fa35_0 _ _)) rfl rfl rfl ?_
      refine WP.q (i := 1) rfl (.ldS (i := 0) rfl rfl rfl ti3 rfl) rfl rfl rfl ?_
      refine WP.q (i := 2) rfl (.fa (fa35_0 _ _)) rfl rfl rfl ?_
      refine WP.q (i := 3) rfl (.ldS (i := 2) rfl rfl rfl ti3 rfl) rfl rfl rfl ?_
      refine WP.q (i := 4) rfl (.fa (fa35_0 _ _)) rfl rfl rfl ?_
      refine WP.q (i := 5) rfl (.ldS (i := 0) rfl rfl rfl ti3 rfl) rfl rfl rfl ?_
      refine WP.q (i := 6) rfl (.r fun _ => rfl) rfl rfl rfl ?_
      refine WP.q (i := 7) rfl (.bd (bd35_0_1 (cI rfl) (cI rfl))) rfl rfl rfl ?_
      refine WP.q (i := 8) rfl (.ldA (i := 2) rfl rfl rfl ti35 rfl) rfl rfl rfl ?_
      refine WP.q (i := 10) rfl (.ldA (i := 0) rfl rfl rfl ti35 rfl) rfl rfl rfl ?_
      refine WP.q (i := 12) rfl (.ldA (i := 2) rfl rfl rfl ti35 rfl) rfl rfl rfl ?_
      refine WP.q (i := 18) rfl (.mv (v := .int _ _) rfl) rfl rfl rfl ?_
      obtain ⟨y10, hy10, h⟩ := Option.bind_eq_some_iff.1 h
      refine WP.cS (i := 9) rfl rfl rfl (alloc_Extent_end_ok hy10) rfl rfl rfl ?_
      rintro _ rfl
      obtain ⟨y11, hy11, h⟩ := Option.bind_eq_some_iff.1 h
      refine WP.cS (i := 11) rfl rfl rfl (alloc_Extent_end_ok hy11) rfl rfl rfl ?_
      rintro _ rfl
      obtain ⟨y12, hy12, h⟩ := Option.bind_eq_some_iff.1 h
      refine WP.cS (i := 13) rfl rfl rfl (alloc_Extent_end_ok hy12) rfl rfl rfl ?_
      rintro _ rfl
      refine WP.q (i := 14) rfl (.r fun _ => rfl) rfl rfl rfl ?_
      refine WP.q (i := 15) rfl (.bd (bd35_0_1 (cI rfl) (cI rfl))) rfl rfl rfl ?_
      refine WP.md (i := 16) rfl (MOp.bs (l := ([(y8.1, (wi64 (a1.1 - y8.1))), (y10, (wi64 (y11 - y12)))] : List (Int × Int))) sl23 (RL.cons (Rp Ri Ri) (RL.cons (Rp Ri Ri) RL.nil)) (lb rfl) rfl rfl) rfl rfl rfl ?_
      rintro v15 _ ⟨b13, o14, rfl⟩
      obtain ⟨_, _, _, _, _, rfl⟩ := o14.isl
      refine ⟨fun e he _ => pk_in (jx := [1, 2, 3, 4]) rfl e he, ?_⟩
      refine WP.q (i := 17) rfl (.len rfl rfl rfl (sl23.len o14.isl)) rfl rfl rfl ?_
      refine WP.nil ?_
      refine WX.block ?_
      refine WX.loop ?_
      obtain ⟨e47, he47, h⟩ := Option.bind_eq_some_iff.1 h
      refine WX.keep [2, 4, 6, 8, 44, 45, 46] (WX.pk [4, 2, 0] (by decide) (WX.addn [2, 3] ?_)) rfl
      refine alloc_Set_Use_l0_ok he47 ?_ _ _ _ ⟨hB, _, _, _, _, 0, true, [], _, 0, true, [], _, _, false, _, g0_0, OSl.none _ _, OSl.none _ _, o14, rfl, rfl⟩
      · intro s67 he_
        subst he_
        replace h := h
        rintro _ B _ ⟨hB, b48, v49, b50, v51, b51, n51, c51, v52, b52, n52, c52, h49, h51, h52, rfl, rfl⟩
        obtain ⟨_, _, _, _, _, rfl⟩ := h49.isl
        obtain ⟨_, _, _, _, _, rfl⟩ := h51.isl
        obtain ⟨_, _, _, _, _, rfl⟩ := h52.isl
        refine WX.seq ?_
        refine WX.drw [0, 1, 2, 3, 4, 5, 6, 7, 8, 9, 10, 11, 12, 13, 14, 15, 16] _ mixed (by kernel_rfl) rfl (pk_sub [0, 1, 2]) ?_
        refine WP.q (i := 0) rfl (.fa (fa25_0 _ _)) rfl rfl rfl ?_
        refine WP.q (i := 1) rfl (.ldS (i := 0) rfl rfl rfl ti3 rfl) rfl rfl rfl ?_
        refine WP.q (i := 2) rfl (.fa (fa25_1 _ _)) rfl rfl rfl ?_
        refine WP.q (i := 3) rfl (.ldS (i := 0) rfl rfl rfl ti23 rfl) rfl rfl rfl ?_
        refine WP.q (i := 4) rfl (.mv (v := .int _ _) rfl) rfl rfl rfl ?_
        obtain ⟨y53, hy53, h⟩ := Option.bind_eq_some_iff.1 h
        obtain ⟨v_y53, e_y53, g_y53⟩ := h49.cut sl23 hy53 (lo := none) (hi := some (.int .i64 y6)) bnd_none (bnd_int (Int.le_trans (cutL_some hy53).1.1 (cutL_some hy53).1.2.1))
        obtain ⟨_, _, _, _, _, rfl⟩ := g_y53.isl
        refine WP.q (i := 5) rfl (.sl e_y53) rfl rfl rfl ?_
        refine WP.q (i := 6) rfl (.mv (v := .sl _ _ _ _ _ _) rfl) rfl rfl rfl ?_
        refine WP.q (i := 7) rfl (.fa (fa25_1 _ _)) rfl rfl rfl ?_
        refine WP.q (i := 8) rfl (.ldS (i := 0) rfl rfl rfl ti23 rfl) rfl rfl rfl ?_
        refine WP.q (i := 9) rfl (.mv (v := .int _ _) rfl) rfl rfl rfl ?_
        refine WP.q (i := 10) rfl (.r fun _ => rfl) rfl rfl rfl ?_
        obtain ⟨y54, hy54, h⟩ := Option.bind_eq_some_iff.1 h
        obtain ⟨v_y54, e_y54, g_y54⟩ := h49.cut sl23 hy54 (lo := some (.int .i64 (wi64 (y6 + 1)))) (hi := none) (bnd_int (cutL_some hy54).1.1) rfl
        obtain ⟨_, _, _, _, _, rfl⟩ := g_y54.isl
        refine WP.q (i := 11) rfl (.sl e_y54) rfl rfl rfl ?_
        refine WP.fz (j := 3) h52 rfl (fun e he => pk_in (jx := [0, 1, 2]) rfl e he) ?_
        intro B hK g55
        replace h49 := h49.up hK
        replace g_y53 := g_y53.up hK
        replace g_y54 := g_y54.up hK
        replace h51 := h51.up hK
        replace hB := hB.trans hK
        refine WP.md (i := 12) rfl (MOp.bs (l := ([y53, e47, y54] : List (List (Int × Int)))) sl122 (RL.cons (Rl g_y53) (RL.cons (Rl g55) (RL.cons (Rl g_y54) RL.nil))) (lb rfl) rfl rfl) rfl rfl rfl ?_
        rintro v58 _ ⟨b56, o57, rfl⟩
        obtain ⟨_, _, _, _, _, rfl⟩ := o57.isl
        refine ⟨fun e he _ => pk_in (jx := [1, 2, 3]) rfl e he, ?_⟩
        refine WP.fz (j := 0) o57 rfl (fun e he => pk_in (jx := [0, 1, 2]) rfl e he) ?_
        intro B hK g60
        replace g55 := g55.up hK
        replace h49 := h49.up hK
        replace g_y53 := g_y53.up hK
        replace g_y54 := g_y54.up hK
        replace h51 := h51.up hK
        replace hB := hB.trans hK
        obtain ⟨y61, hy61, h⟩ := Option.bind_eq_some_iff.1 h
        refine WP.c1 (i := 13) rfl rfl rfl (slices_Concat_alloc_Extent_ok g60 hy61) rfl rfl rfl ?_
        rintro _ B _ hK ⟨v62, b63, n64, c65, rfl, rfl, h66⟩
        obtain ⟨_, _, _, _, _, rfl⟩ := h66.isl
        replace g55 := g55.up hK
        replace h49 := h49.up hK
        replace g_y53 := g_y53.up hK
        replace g_y54 := g_y54.up hK
        replace g60 := g60.up hK
        replace h51 := h51.up hK
        replace hB := hB.trans hK
        refine WP.q (i := 14) rfl (.bd (bd25_0_1 (cI rfl) (cL rfl))) rfl rfl rfl ?_
        refine WP.msn (i := 15) rfl (MOp.storeW rfl (cA rfl) (.t (.t .h)) ti25 rfl rfl rfl) rfl (by kernel_rfl) rfl ?_
        rintro _ _ rfl
        refine WS.q (i := 16) rfl (.as (v := .int _ _) rfl) rfl rfl rfl rfl ?_
        refine WS.nil ?_
        obtain rfl := Option.some.inj h
        exact WX.ret (rs_ (rs_cell (.ldA (i := 2) rfl rfl rfl ti25 rfl) (rs_tmp rfl rs_nil))) fun st hp => ⟨_, _, hB, (hp.pk [0] (by decide)), _, _, n64, _, rfl, rfl, h66⟩
  · replace h := (if_neg (bnt k5)).symm.trans h
    refine WX.condT rfl (t_not k5) ?_
    refine WX.seq ?_
    refine WX.reg ?_
    refine WO.q (.bd (bd25_n)) rfl rfl ?_
    refine WO.mn (MOp.storeW rfl (cA rfl) .h ti25 rfl rfl rfl) rfl ?_
    rintro _ _ rfl
    refine WO.q (.as (v := .int _ _) rfl) rfl rfl ?_
    refine WO.nil ?_
    obtain rfl := Option.some.inj h
    exact WX.ret (rs_ (rs_cell (.ldA (i := 0) rfl rfl rfl ti25 rfl) (rs_tmp rfl rs_nil))) fun st hp => ⟨_, _, hB, ((hp.pk [] (by decide)).skip 0), _, 0, true, [], rfl, rfl, OSl.none _ _⟩
def alloc_Set_pieces_1_P (B : Kn) (L : Own) (b_c0 : Nat) (q0 : Int) (r : Bool) : AV → St → Prop := CS B ((b_c0, some [.int .i64 q0]) :: L) fun v => v = .bool r
theorem alloc_Set_pieces_1_ok {B0 : Kn} {L : Own} {b_c0 : Nat} {q0 : Int} {a0 : Int × Int} {r : Bool} (h : alloc_Set_pieces_1 a0 q0 = some r) : ∀ st, Hp B0 ((b_c0, some [.int .i64 q0]) :: L) st → ASpec Try.prog 85 [.agg [.int .i64 a0.1, .int .i64 a0.2], .ptr b_c0 0] st (alloc_Set_pieces_1_P B0 L b_c0 q0 r) := by
  unfold alloc_Set_pieces_1 at h
  refine bodyA (A := [(b_c0, some [.int .i64 q0])]) Try.func85 rfl (c := bodyOf Try.f85) rfl Try.ntmps85 (lb rfl) fun n0 => ?_
  have hB := KLe.refl B0
  refine WX.seq ?_
  refine WX.reg ?_
  refine WO.md (MOp.box (cA rfl)) rfl rfl ?_
  rintro _ _ ⟨b1, rfl, rfl⟩
  refine WO.q (.as (v := .bool _) rfl) rfl rfl ?_
  refine WO.nil ?_
  refine WX.seq ?_
  refine WX.reg ?_
  refine WO.q (.fa (fa35_1 _ _)) rfl rfl ?_
  refine WO.q (.ldS (i := 0) rfl rfl rfl ti3 rfl) rfl rfl ?_
  refine WO.q (.ldS (i := 1) rfl rfl rfl ti3 rfl) rfl rfl ?_
  refine WO.q (.r fun _ => rfl) rfl rfl ?_
  refine WO.q (.as (v := .bool _) rfl) rfl rfl ?_
  refine WO.nil ?_
  obtain rfl := Option.some.inj h
  exact WX.ret (rs_ (rs_tmp rfl rs_nil)) fun st hp => ⟨(hp.pk [1] (by decide)).le hB, rfl⟩
end Gab
