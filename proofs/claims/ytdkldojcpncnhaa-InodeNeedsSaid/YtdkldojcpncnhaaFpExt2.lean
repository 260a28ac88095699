/- The Go code comes to what the Lean functions say. Written by a program (gp.py). -/
import Derived.Test.YtdkldojcpncnhaaFd
import Derived.Test.YtdkldojcpncnhaaTy
import Derived.Test.YtdkldojcpncnhaaFpExt1
set_option linter.unusedSimpArgs false
set_option linter.unusedVariables false
set_option maxHeartbeats 4000000
set_option maxRecDepth 100000
namespace Gab
open Go Go.Proofs
def ext_List_split_P (B : Kn) (L : Own) (r : (List (Int × Int)) × (List (Int × Int))) : AV → St → Prop := C2 B L fun B' v e0 e1 => ∃ w0 b0 n0 c0 w1 b1 n1 c1, v = .tup [w0, w1] ∧ e0 = oe b0 n0 c0 ∧ OSl EPIi64Ii64Q B' w0 b0 n0 c0 r.1 ∧ e1 = oe b1 n1 c1 ∧ OSl EPIi64Ii64Q B' w1 b1 n1 c1 r.2
def ext_List_split_l0_I (B0 : Kn) (x0 : List (Int × Int)) (x10 : List (Int × Int)) (x1 : Int) (x12 : Int) : Fr → Kn → Own → Prop := fun fr B A => KLe B0 B ∧ ∃ v1 v2, RSl EPIi64Ii64Q B v1 x0 ∧ RSl EPIi64Ii64Q B v2 x10 ∧ fr = [(0, v1), (1, .int .i64 x1), (10, v2), (11, .int .i64 (x10.length : Int)), (12, .int .i64 x12)] ∧ A = []
def ext_List_split_l0_X0 (B0 : Kn) (x0 : List (Int × Int)) : Fr → Kn → Own → Prop := fun fr B A => KLe B0 B ∧ ∃ v47, RSl EPIi64Ii64Q B v47 x0 ∧ fr = [(0, v47)] ∧ A = []
theorem ext_List_split_l0_s {B0 : Kn} {L : Own} {n0 : Nat} {x0 : List (Int × Int)} {x10 : List (Int × Int)} {x1 : Int} {x12 : Int} {Q : AV → St → Prop} {E : (Int × Int) ⊕ (((List (Int × Int)) × (List (Int × Int))) ⊕ Unit) → Prop} {o : (Int × Int) ⊕ (((List (Int × Int)) × (List (Int × Int))) ⊕ Unit)} (h : ext_List_split_l0 x0 x10 x1 x12 = some o) (hn : ∀ s, E (.inl s) → WXI Try.prog 52 n0 (Fin Try.prog Try.f71.results.toList n0 Q) [.lp (ct [1, 0, 1, 0, 0] (bodyOf Try.f71)), .blk 0, .code (ct [1, 1] (bodyOf Try.f71))] (ext_List_split_l0_I B0 x0 x10 s.1 s.2) L) (hx0 : ∀ s, E (.inr (.inr s)) → WXI Try.prog 52 n0 (Fin Try.prog Try.f71.results.toList n0 Q) [.code (ct [1, 1] (bodyOf Try.f71))] (ext_List_split_l0_X0 B0 x0) L) (hr : ∀ r, E (.inr (.inl r)) → ∀ v st, ext_List_split_P B0 L r v st → Q v st) (hE : E o) : WXI Try.prog 52 n0 (Fin Try.prog Try.f71.results.toList n0 Q) [.code (ct [1, 0, 1, 0, 0] (bodyOf Try.f71)), .lp (ct [1, 0, 1, 0, 0] (bodyOf Try.f71)), .blk 0, .code (ct [1, 1] (bodyOf Try.f71))] (ext_List_split_l0_I B0 x0 x10 x1 x12) L := by
  unfold ext_List_split_l0 at h
  rintro _ B _ ⟨hB, v1, v2, h1, h2, rfl, rfl⟩
  obtain ⟨_, _, _, _, _, rfl⟩ := h1.isl
  obtain ⟨_, _, _, _, _, rfl⟩ := h2.isl
  refine WX.seq ?_
  refine WX.reg ?_
  refine WO.q (.r fun _ => rfl) rfl rfl ?_
  refine WO.nil ?_
  refine WX.seq ?_
  rcases bsp (decide (x12 < (x10.length : Int))) with k3 | k3
  · have q_k3 := of_decide_eq_true k3
    replace h := (if_pos q_k3).symm.trans h
    refine WX.condT rfl k3 ?_
    refine WX.skip ?_
    refine WX.seq ?_
    refine WX.block ?_
    refine WX.seq ?_
    refine WX.reg ?_
    refine WO.q (.mv (v := .int _ _) rfl) rfl rfl ?_
    obtain ⟨y4, hy4, h⟩ := Option.bind_eq_some_iff.1 h
    obtain ⟨b_y4, o_y4, _, i_y4, p_y4, r_y4⟩ := h2.at sl44 hy4 .i64
    obtain ⟨_, _, rfl, rfl, rfl⟩ := r_y4
    refine WO.q (.ia i_y4) rfl rfl ?_
    refine WO.q (.lpA rfl p_y4 ti35 rfl rfl) rfl rfl ?_
    refine WO.md (MOp.alloc ti35 rfl) rfl rfl ?_
    rintro _ _ ⟨b5, rfl, rfl⟩
    refine WO.q (.as (v := .int _ _) rfl) rfl rfl ?_
    refine WO.mn (MOp.storeW rfl (cA rfl) .h ti35 rfl rfl rfl) rfl ?_
    rintro _ _ rfl
    refine WO.nil ?_
    refine WX.seq ?_
    refine WX.seq ?_
    refine WX.reg ?_
    refine WO.q (.mv (v := .int _ _) rfl) rfl rfl ?_
    refine WO.q (.fa (fa35_1 _ _)) rfl rfl ?_
    refine WO.q (.ldS (i := 0) rfl rfl rfl ti3 rfl) rfl rfl ?_
    refine WO.q (.r fun _ => rfl) rfl rfl ?_
    refine WO.nil ?_
    rcases bsp (decide (y4.2 ≤ x1)) with k6 | k6
    · have q_k6 := of_decide_eq_true k6
      replace h := (if_pos q_k6).symm.trans h
      refine WX.condT rfl k6 ?_
      refine WX.seq ?_
      refine WX.reg ?_
      refine WO.q (.mv (v := .int _ _) rfl) rfl rfl ?_
      refine WO.q (.fa (fa35_1 _ _)) rfl rfl ?_
      refine WO.q (.ldS (i := 0) rfl rfl rfl ti3 rfl) rfl rfl ?_
      refine WO.q (.r fun _ => rfl) rfl rfl ?_
      refine WO.q (.as (v := .int _ _) rfl) rfl rfl ?_
      refine WO.nil ?_
      refine WX.exit rfl ?_
      refine WX.reg ?_
      refine WO.q (.r fun _ => rfl) rfl rfl ?_
      refine WO.q (.mv (v := .int _ _) rfl) rfl rfl ?_
      refine WO.nil ?_
      refine WX.keepL [0, 1, 10, 11, 12] (WX.pk [] (by decide) ?_) rfl
      obtain rfl := Option.some.inj h
      exact hn _ hE _ _ _ ⟨hB, _, _, h1, h2, rfl, rfl⟩
    · have q_k6 := of_decide_eq_false k6
      replace h := (if_neg q_k6).symm.trans h
      refine WX.condF rfl k6 ?_
      refine WX.skip ?_
      refine WX.seq ?_
      refine WX.drw (Plan.of [0, 1, 2, 4, 5, 6, 3, 7, 8, 9] .nil) _ mixed (by kernel_rfl) rfl (pk_sub [0]) ?_
      refine WP.q (i := 0) rfl (.mv (v := .sl _ _ _ _ _ _) rfl) rfl rfl rfl ?_
      refine WP.q (i := 1) rfl (.mv (v := .int _ _) rfl) rfl rfl rfl ?_
      obtain ⟨y7, hy7, h⟩ := Option.bind_eq_some_iff.1 h
      obtain ⟨v_y7, e_y7, g_y7⟩ := h1.cut sl44 hy7 (lo := none) (hi := some (.int .i64 x12)) bnd_none (bnd_int (Int.le_trans (cutL_some hy7).1.1 (cutL_some hy7).1.2.1))
      obtain ⟨_, _, _, _, _, rfl⟩ := g_y7.isl
      refine WP.q (i := 2) rfl (.sl e_y7) rfl rfl rfl ?_
      refine WP.q (i := 4) rfl (.mv (v := .sl _ _ _ _ _ _) rfl) rfl rfl rfl ?_
      refine WP.q (i := 5) rfl (.mv (v := .int _ _) rfl) rfl rfl rfl ?_
      obtain ⟨y8, hy8, h⟩ := Option.bind_eq_some_iff.1 h
      obtain ⟨v_y8, e_y8, g_y8⟩ := h1.cut sl44 hy8 (lo := some (.int .i64 x12)) (hi := none) (bnd_int (cutL_some hy8).1.1) rfl
      obtain ⟨_, _, _, _, _, rfl⟩ := g_y8.isl
      refine WP.q (i := 6) rfl (.sl e_y8) rfl rfl rfl ?_
      obtain ⟨y9, hy9, h⟩ := Option.bind_eq_some_iff.1 h
      refine WP.c1 (i := 3) rfl rfl rfl (slices_Clone_ext_List_alloc_Extent_ok g_y7 hy9) rfl rfl rfl ?_
      rintro _ B _ hK ⟨v10, b11, n12, c13, rfl, rfl, h14⟩
      obtain ⟨_, _, _, _, _, rfl⟩ := h14.isl
      replace h1 := h1.up hK
      replace h2 := h2.up hK
      replace g_y7 := g_y7.up hK
      replace g_y8 := g_y8.up hK
      replace hB := hB.trans hK
      obtain ⟨y15, hy15, h⟩ := Option.bind_eq_some_iff.1 h
      refine WP.c1 (i := 7) rfl rfl rfl (slices_Clone_ext_List_alloc_Extent_ok g_y8 hy15) rfl rfl rfl ?_
      rintro _ B _ hK ⟨v16, b17, n18, c19, rfl, rfl, h20⟩
      obtain ⟨_, _, _, _, _, rfl⟩ := h20.isl
      replace h1 := h1.up hK
      replace h2 := h2.up hK
      replace g_y7 := g_y7.up hK
      replace g_y8 := g_y8.up hK
      replace h14 := h14.up hK
      replace hB := hB.trans hK
      refine WP.q (i := 8) rfl (.as (v := .sl _ _ _ _ _ _) rfl) rfl rfl rfl ?_
      refine WP.q (i := 9) rfl (.as (v := .sl _ _ _ _ _ _) rfl) rfl rfl rfl ?_
      refine WP.nil ?_
      refine WX.seq ?_
      refine WX.seq ?_
      refine WX.reg ?_
      refine WO.q (.mv (v := .int _ _) rfl) rfl rfl ?_
      refine WO.q (.r fun _ => rfl) rfl rfl ?_
      refine WO.nil ?_
      rcases bsp (decide (0 < x1)) with k21 | k21
      · have q_k21 := of_decide_eq_true k21
        replace h := (if_pos q_k21).symm.trans h
        refine WX.condT rfl k21 ?_
        refine WX.seq ?_
        refine WX.reg ?_
        refine WO.q (.mv (v := .sl _ _ _ _ _ _) rfl) rfl rfl ?_
        refine WO.q (.fa (fa35_0 _ _)) rfl rfl ?_
        refine WO.q (.ldS (i := 2) rfl rfl rfl ti3 rfl) rfl rfl ?_
        refine WO.q (.mv (v := .int _ _) rfl) rfl rfl ?_
        refine WO.q (.bd (bd35_0_1 (cI rfl) (cI rfl))) rfl rfl ?_
        refine WO.md (MOp.bs (l := ([(y4.1, x1)] : List (Int × Int))) sl44 (RL.cons (Rp Ri Ri) RL.nil) (lb rfl) rfl rfl) rfl rfl ?_
        rintro v24 _ ⟨b22, o23, rfl⟩
        obtain ⟨_, _, _, _, _, rfl⟩ := o23.isl
        obtain ⟨y26, hy26, h⟩ := Option.bind_eq_some_iff.1 h
        refine WO.md (MOp.app rfl rfl rfl sl44 h14 (Src.o (i := 0) sl44 o23 rfl) hy26 rfl rfl (fun _ => (.t (.t .h)))) rfl rfl ?_
        rintro v30 _ ⟨b27, n28, o29, rfl⟩
        obtain ⟨_, _, _, _, _, rfl⟩ := o29.isl
        refine WO.q (.as (v := .sl _ _ _ _ _ _) rfl) rfl rfl ?_
        refine WO.nil ?_
        refine WX.reg ?_
        refine WO.q (.mv (v := .sl _ _ _ _ _ _) rfl) rfl rfl ?_
        refine WO.q (.ldA (i := 3) rfl rfl rfl ti35 rfl) rfl rfl ?_
        refine WO.q (.mv (v := .int _ _) rfl) rfl rfl ?_
        obtain ⟨y31, hy31, h⟩ := Option.bind_eq_some_iff.1 h
        refine WO.cS rfl rfl (ext_part_ok hy31) rfl rfl rfl ?_
        rintro _ rfl
        obtain ⟨y32, hy32, h⟩ := Option.bind_eq_some_iff.1 h
        obtain rfl := h20.nonnil hy32
        obtain ⟨_, i_y32, l_y32, r_y32⟩ := h20.at sl44 hy32 .i64
        obtain ⟨_, _, rfl, rfl, rfl⟩ := r_y32
        refine WO.q (.ia i_y32) rfl rfl ?_
        refine WO.mn (MOp.ostW (x' := y31) rfl (cA rfl) (fun _ => (.t .h)) ti35 rfl rfl h20 hy32 (Rp Ri Ri)) rfl ?_
        rintro _ _ ⟨c34, o33, rfl⟩
        refine WO.nil ?_
        refine WX.seq ?_
        refine WX.reg ?_
        refine WO.q (.mv (v := .sl _ _ _ _ _ _) rfl) rfl rfl ?_
        refine WO.q (.mv (v := .sl _ _ _ _ _ _) rfl) rfl rfl ?_
        refine WO.q (.as (v := .sl _ _ _ _ _ _) rfl) rfl rfl ?_
        refine WO.q (.as (v := .sl _ _ _ _ _ _) rfl) rfl rfl ?_
        refine WO.nil ?_
        obtain rfl := Option.some.inj h
        exact WX.ret (rs_ (rs_tmp rfl (rs_tmp rfl rs_nil))) fun st hp => hr _ hE _ _ ⟨_, _, _, hB, (hp.pk [2, 1] (by decide)), _, _, n28, _, _, _, false, _, rfl, rfl, o29, rfl, o33⟩
      · have q_k21 := of_decide_eq_false k21
        replace h := (if_neg q_k21).symm.trans h
        refine WX.condF rfl k21 ?_
        refine WX.skip ?_
        refine WX.seq ?_
        refine WX.reg ?_
        refine WO.q (.mv (v := .sl _ _ _ _ _ _) rfl) rfl rfl ?_
        refine WO.q (.mv (v := .sl _ _ _ _ _ _) rfl) rfl rfl ?_
        refine WO.q (.as (v := .sl _ _ _ _ _ _) rfl) rfl rfl ?_
        refine WO.q (.as (v := .sl _ _ _ _ _ _) rfl) rfl rfl ?_
        refine WO.nil ?_
        obtain rfl := Option.some.inj h
        exact WX.ret (rs_ (rs_tmp rfl (rs_tmp rfl rs_nil))) fun st hp => hr _ hE _ _ ⟨_, _, _, hB, (hp.pk [1, 0] (by decide)), _, _, n12, _, _, _, n18, _, rfl, rfl, h14, rfl, h20⟩
  · have q_k3 := of_decide_eq_false k3
    replace h := (if_neg q_k3).symm.trans h
    refine WX.condF rfl k3 ?_
    refine WX.exit rfl ?_
    refine WX.keep [0] (WX.pk [] (by decide) ?_) rfl
    obtain rfl := Option.some.inj h
    exact hx0 _ hE _ _ _ ⟨hB, _, h1, rfl, rfl⟩
theorem ext_List_split_l0_ok {B0 : Kn} {L : Own} {n0 : Nat} {x0 : List (Int × Int)} {x10 : List (Int × Int)} {x1 : Int} {x12 : Int} {Q : AV → St → Prop} {d : Nat} {e : ((List (Int × Int)) × (List (Int × Int))) ⊕ Unit} (h : iter (fun (s : Int × Int) => ext_List_split_l0 x0 x10 s.1 s.2) d (x1, x12) = some e) (g0 : ∀ r, e = (.inl r) → ∀ v st, ext_List_split_P B0 L r v st → Q v st) (g1 : ∀ s, e = (.inr s) → WXI Try.prog 52 n0 (Fin Try.prog Try.f71.results.toList n0 Q) [.code (ct [1, 1] (bodyOf Try.f71))] (ext_List_split_l0_X0 B0 x0) L) : WXI Try.prog 52 n0 (Fin Try.prog Try.f71.results.toList n0 Q) [.code (ct [1, 0, 1, 0, 0] (bodyOf Try.f71)), .lp (ct [1, 0, 1, 0, 0] (bodyOf Try.f71)), .blk 0, .code (ct [1, 1] (bodyOf Try.f71))] (ext_List_split_l0_I B0 x0 x10 x1 x12) L :=
  iter_ok (I := fun s => ext_List_split_l0_I B0 x0 x10 s.1 s.2) (D := fun e => (∀ r, e = (.inl r) → ∀ v st, ext_List_split_P B0 L r v st → Q v st) ∧ (∀ s, e = (.inr s) → WXI Try.prog 52 n0 (Fin Try.prog Try.f71.results.toList n0 Q) [.code (ct [1, 1] (bodyOf Try.f71))] (ext_List_split_l0_X0 B0 x0) L)) (fun E hn hx s o ho hE => ext_List_split_l0_s ho hn (fun s hs => (hx _ hs).2 _ rfl) (fun r hs => (hx _ hs).1 _ rfl) hE) h ⟨g0, g1⟩
theorem ext_List_split_ok {B0 : Kn} {L : Own} {a0 : List (Int × Int)} {a1 : Int} {v0_0 : AV} {r : (List (Int × Int)) × (List (Int × Int))} (g0_0 : RSl EPIi64Ii64Q B0 v0_0 a0) (h : ext_List_split a0 a1 = some r) : ∀ st, Hp B0 L st → ASpec Try.prog 71 [v0_0, .int .i64 a1] st (ext_List_split_P B0 L r) := by
  unfold ext_List_split at h
  refine bodyA (A := []) Try.func71 rfl (c := bodyOf Try.f71) rfl Try.ntmps71 (lb rfl) fun n0 => ?_
  have hB := KLe.refl B0
  obtain ⟨_, _, _, _, _, rfl⟩ := g0_0.isl
  refine WX.seq ?_
  refine WX.reg ?_
  refine WO.q (.as (v := .sl _ _ _ _ _ _) rfl) rfl rfl ?_
  refine WO.q (.as (v := .sl _ _ _ _ _ _) rfl) rfl rfl ?_
  refine WO.nil ?_
  refine WX.seq ?_
  refine WX.seq ?_
  refine WX.reg ?_
  refine WO.q (.mv (v := .sl _ _ _ _ _ _) rfl) rfl rfl ?_
  refine WO.q (.len rfl rfl rfl (sl44.len g0_0.isl)) rfl rfl ?_
  refine WO.q (.mv (v := .int _ _) rfl) rfl rfl ?_
  refine WO.nil ?_
  refine WX.block ?_
  refine WX.loop ?_
  obtain ⟨e36, he36, h⟩ := Option.bind_eq_some_iff.1 h
  refine WX.keep [0, 1, 10, 11, 12] (WX.pk [] (by decide) ?_) rfl
  refine ext_List_split_l0_ok he36 ?_ ?_ _ _ _ ⟨hB, _, _, g0_0, g0_0, rfl, rfl⟩
  · intro r38 he_
    subst he_
    replace h := (on_l h)
    obtain rfl := Option.some.inj h
    exact fun v st hp => hp
  · intro x39 he_
    subst he_
    replace h := (on_r h)
    rintro _ B _ ⟨hB, v40, h40, rfl, rfl⟩
    obtain ⟨_, _, _, _, _, rfl⟩ := h40.isl
    refine WX.seq ?_
    refine WX.reg ?_
    refine WO.q (.mv (v := .sl _ _ _ _ _ _) rfl) rfl rfl ?_
    obtain ⟨y41, hy41, h⟩ := Option.bind_eq_some_iff.1 h
    refine WO.c1 rfl rfl (slices_Clone_ext_List_alloc_Extent_ok h40 hy41) rfl rfl rfl ?_
    rintro _ B _ hK ⟨v42, b43, n44, c45, rfl, rfl, h46⟩
    obtain ⟨_, _, _, _, _, rfl⟩ := h46.isl
    replace h40 := h40.up hK
    replace hB := hB.trans hK
    refine WO.q (.as (v := .sl _ _ _ _ _ _) rfl) rfl rfl ?_
    refine WO.q (.as (v := .sl _ _ _ _ _ _) rfl) rfl rfl ?_
    refine WO.nil ?_
    obtain rfl := Option.some.inj h
    exact WX.ret (rs_ (rs_tmp rfl (rs_tmp rfl rs_nil))) fun st hp => ⟨_, _, _, hB, ((hp.pk [0] (by decide)).skip 0).swap2, _, _, n44, _, _, 0, true, [], rfl, rfl, h46, rfl, OSl.none _ _⟩
def ext_List_Held_P (B : Kn) (L : Own) (r : Int) : AV → St → Prop := CS B L fun v => v = .int .i64 r
def ext_List_Held_j7_I (B0 : Kn) (x3 : Int) (x6 : List (Int × Int)) (x8 : Int) : Fr → Kn → Own → Prop := fun fr B A => KLe B0 B ∧ ∃ v6, RSl EPIi64Ii64Q B v6 x6 ∧ fr = [(3, .int .i64 x3), (6, v6), (7, .int .i64 (x6.length : Int)), (8, .int .i64 x8)] ∧ A = []
def ext_List_Held_l0_I (B0 : Kn) (x6 : List (Int × Int)) (x3 : Int) (x8 : Int) : Fr → Kn → Own → Prop := fun fr B A => KLe B0 B ∧ ∃ v1, RSl EPIi64Ii64Q B v1 x6 ∧ fr = [(3, .int .i64 x3), (6, v1), (7, .int .i64 (x6.length : Int)), (8, .int .i64 x8)] ∧ A = []
def ext_List_Held_l0_X0 (B0 : Kn) (x3 : Int) : Fr → Kn → Own → Prop := fun fr B A => KLe B0 B ∧ fr = [(3, .int .i64 x3)] ∧ A = []
theorem ext_List_Held_j7_ok {B0 : Kn} {L : Own} {n0 : Nat} {x3 : Int} {x6 : List (Int × Int)} {x8 : Int} {Q : AV → St → Prop} {E : (Int × Int) ⊕ Int → Prop} {o : (Int × Int) ⊕ Int} (h : ext_List_Held_j7 x3 x6 x8 = some o) (hn : ∀ s, E (.inl s) → WXI Try.prog 21 n0 (Fin Try.prog Try.f36.results.toList n0 Q) [.lp (ct [1, 1, 0, 1, 0, 0] (bodyOf Try.f36)), .blk 0, .code (ct [1, 1, 1] (bodyOf Try.f36))] (ext_List_Held_l0_I B0 x6 s.1 s.2) L) (hx0 : ∀ s, E (.inr s) → WXI Try.prog 21 n0 (Fin Try.prog Try.f36.results.toList n0 Q) [.code (ct [1, 1, 1] (bodyOf Try.f36))] (ext_List_Held_l0_X0 B0 s) L) (hE : E o) : WXI Try.prog 21 n0 (Fin Try.prog Try.f36.results.toList n0 Q) [.code (ct [1, 1, 0, 1, 0, 0, 1, 1, 1] (bodyOf Try.f36)), .lp (ct [1, 1, 0, 1, 0, 0] (bodyOf Try.f36)), .blk 0, .code (ct [1, 1, 1] (bodyOf Try.f36))] (ext_List_Held_j7_I B0 x3 x6 x8) L := by
  unfold ext_List_Held_j7 at h
  rintro _ B _ ⟨hB, v6, h6, rfl, rfl⟩
  obtain ⟨_, _, _, _, _, rfl⟩ := h6.isl
  refine WX.reg ?_
  refine WO.q (.r fun _ => rfl) rfl rfl ?_
  refine WO.q (.mv (v := .int _ _) rfl) rfl rfl ?_
  refine WO.nil ?_
  refine WX.keepL [3, 6, 7, 8] (WX.pk [] (by decide) ?_) rfl
  obtain rfl := Option.some.inj h
  exact hn _ hE _ _ _ ⟨hB, _, h6, rfl, rfl⟩
theorem ext_List_Held_l0_s {B0 : Kn} {L : Own} {n0 : Nat} {x6 : List (Int × Int)} {x3 : Int} {x8 : Int} {Q : AV → St → Prop} {E : (Int × Int) ⊕ Int → Prop} {o : (Int × Int) ⊕ Int} (h : ext_List_Held_l0 x6 x3 x8 = some o) (hn : ∀ s, E (.inl s) → WXI Try.prog 21 n0 (Fin Try.prog Try.f36.results.toList n0 Q) [.lp (ct [1, 1, 0, 1, 0, 0] (bodyOf Try.f36)), .blk 0, .code (ct [1, 1, 1] (bodyOf Try.f36))] (ext_List_Held_l0_I B0 x6 s.1 s.2) L) (hx0 : ∀ s, E (.inr s) → WXI Try.prog 21 n0 (Fin Try.prog Try.f36.results.toList n0 Q) [.code (ct [1, 1, 1] (bodyOf Try.f36))] (ext_List_Held_l0_X0 B0 s) L) (hE : E o) : WXI Try.prog 21 n0 (Fin Try.prog Try.f36.results.toList n0 Q) [.code (ct [1, 1, 0, 1, 0, 0] (bodyOf Try.f36)), .lp (ct [1, 1, 0, 1, 0, 0] (bodyOf Try.f36)), .blk 0, .code (ct [1, 1, 1] (bodyOf Try.f36))] (ext_List_Held_l0_I B0 x6 x3 x8) L := by
  unfold ext_List_Held_l0 at h
  rintro _ B _ ⟨hB, v1, h1, rfl, rfl⟩
  obtain ⟨_, _, _, _, _, rfl⟩ := h1.isl
  refine WX.seq ?_
  refine WX.reg ?_
  refine WO.q (.r fun _ => rfl) rfl rfl ?_
  refine WO.nil ?_
  refine WX.seq ?_
  rcases bsp (decide (x8 < (x6.length : Int))) with k2 | k2
  · have q_k2 := of_decide_eq_true k2
    replace h := (if_pos q_k2).symm.trans h
    refine WX.condT rfl k2 ?_
    refine WX.skip ?_
    refine WX.seq ?_
    refine WX.block ?_
    refine WX.seq ?_
    refine WX.reg ?_
    obtain ⟨y3, hy3, h⟩ := Option.bind_eq_some_iff.1 h
    obtain ⟨b_y3, o_y3, _, i_y3, p_y3, r_y3⟩ := h1.at sl44 hy3 .i64
    obtain ⟨_, _, rfl, rfl, rfl⟩ := r_y3
    refine WO.q (.ia i_y3) rfl rfl ?_
    refine WO.q (.lpA rfl p_y3 ti35 rfl rfl) rfl rfl ?_
    refine WO.md (MOp.alloc ti35 rfl) rfl rfl ?_
    rintro _ _ ⟨b4, rfl, rfl⟩
    refine WO.mn (MOp.storeW rfl (cA rfl) .h ti35 rfl rfl rfl) rfl ?_
    rintro _ _ rfl
    refine WO.nil ?_
    refine WX.seq ?_
    refine WX.reg ?_
    refine WO.q (.fa (fa35_0 _ _)) rfl rfl ?_
    refine WO.q (.ldS (i := 0) rfl rfl rfl ti3 rfl) rfl rfl ?_
    refine WO.q (.r fun _ => rfl) rfl rfl ?_
    refine WO.nil ?_
    rcases bsp (decide (y3.1 ≠ (-1))) with k5 | k5
    · have q_k5 := of_decide_eq_true k5
      replace h := (if_pos q_k5).symm.trans h
      refine WX.condT rfl k5 ?_
      refine WX.reg ?_
      refine WO.q (.mv (v := .int _ _) rfl) rfl rfl ?_
      refine WO.q (.fa (fa35_1 _ _)) rfl rfl ?_
      refine WO.q (.ldS (i := 0) rfl rfl rfl ti3 rfl) rfl rfl ?_
      refine WO.q (.r fun _ => rfl) rfl rfl ?_
      refine WO.q (.as (v := .int _ _) rfl) rfl rfl ?_
      refine WO.nil ?_
      refine WX.pop ?_
      refine WX.keep [3, 6, 7, 8] (WX.pk [] (by decide) ?_) rfl
      exact ext_List_Held_j7_ok h hn hx0 hE _ _ _ ⟨hB, _, h1, rfl, rfl⟩
    · have q_k5 := of_decide_eq_false k5
      replace h := (if_neg q_k5).symm.trans h
      refine WX.condF rfl k5 ?_
      refine WX.skip ?_
      refine WX.pop ?_
      refine WX.keep [3, 6, 7, 8] (WX.pk [] (by decide) ?_) rfl
      exact ext_List_Held_j7_ok h hn hx0 hE _ _ _ ⟨hB, _, h1, rfl, rfl⟩
  · have q_k2 := of_decide_eq_false k2
    replace h := (if_neg q_k2).symm.trans h
    refine WX.condF rfl k2 ?_
    refine WX.exit rfl ?_
    refine WX.keep [3] (WX.pk [] (by decide) ?_) rfl
    obtain rfl := Option.some.inj h
    exact hx0 _ hE _ _ _ ⟨hB, rfl, rfl⟩
theorem ext_List_Held_l0_ok {B0 : Kn} {L : Own} {n0 : Nat} {x6 : List (Int × Int)} {x3 : Int} {x8 : Int} {Q : AV → St → Prop} {d : Nat} {e : Int} (h : iter (fun (s : Int × Int) => ext_List_Held_l0 x6 s.1 s.2) d (x3, x8) = some e) (g0 : ∀ s, e = s → WXI Try.prog 21 n0 (Fin Try.prog Try.f36.results.toList n0 Q) [.code (ct [1, 1, 1] (bodyOf Try.f36))] (ext_List_Held_l0_X0 B0 s) L) : WXI Try.prog 21 n0 (Fin Try.prog Try.f36.results.toList n0 Q) [.code (ct [1, 1, 0, 1, 0, 0] (bodyOf Try.f36)), .lp (ct [1, 1, 0, 1, 0, 0] (bodyOf Try.f36)), .blk 0, .code (ct [1, 1, 1] (bodyOf Try.f36))] (ext_List_Held_l0_I B0 x6 x3 x8) L :=
  iter_ok (I := fun s => ext_List_Held_l0_I B0 x6 s.1 s.2) (D := fun e => (∀ s, e = s → WXI Try.prog 21 n0 (Fin Try.prog Try.f36.results.toList n0 Q) [.code (ct [1, 1, 1] (bodyOf Try.f36))] (ext_List_Held_l0_X0 B0 s) L)) (fun E hn hx s o ho hE => ext_List_Held_l0_s ho hn (fun s hs => (hx _ hs) _ rfl)  hE) h g0
theorem ext_List_Held_ok {B0 : Kn} {L : Own} {a0 : List (Int × Int)} {v0_0 : AV} {r : Int} (g0_0 : RSl EPIi64Ii64Q B0 v0_0 a0) (h : ext_List_Held a0 = some r) : ∀ st, Hp B0 L st → ASpec Try.prog 36 [v0_0] st (ext_List_Held_P B0 L r) := by
  unfold ext_List_Held at h
  refine bodyA (A := []) Try.func36 rfl (c := bodyOf Try.f36) rfl Try.ntmps36 (lb rfl) fun n0 => ?_
  have hB := KLe.refl B0
  obtain ⟨_, _, _, _, _, rfl⟩ := g0_0.isl
  refine WX.seq ?_
  refine WX.reg ?_
  refine WO.q (.as (v := .int _ _) rfl) rfl rfl ?_
  refine WO.nil ?_
  refine WX.seq ?_
  refine WX.reg ?_
  refine WO.q (.as (v := .int _ _) rfl) rfl rfl ?_
  refine WO.nil ?_
  refine WX.seq ?_
  refine WX.seq ?_
  refine WX.reg ?_
  refine WO.q (.mv (v := .sl _ _ _ _ _ _) rfl) rfl rfl ?_
  refine WO.q (.len rfl rfl rfl (sl44.len g0_0.isl)) rfl rfl ?_
  refine WO.q (.mv (v := .int _ _) rfl) rfl rfl ?_
  refine WO.nil ?_
  refine WX.block ?_
  refine WX.loop ?_
  obtain ⟨e7, he7, h⟩ := Option.bind_eq_some_iff.1 h
  refine WX.keep [3, 6, 7, 8] (WX.pk [] (by decide) ?_) rfl
  refine ext_List_Held_l0_ok he7 ?_ _ _ _ ⟨hB, _, g0_0, rfl, rfl⟩
  · intro s8 he_
    subst he_
    replace h := h
    rintro _ B _ ⟨hB, rfl, rfl⟩
    refine WX.seq ?_
    refine WX.reg ?_
    refine WO.q (.mv (v := .int _ _) rfl) rfl rfl ?_
    refine WO.q (.as (v := .int _ _) rfl) rfl rfl ?_
    refine WO.nil ?_
    obtain rfl := Option.some.inj h
    exact WX.ret (rs_ (rs_tmp rfl rs_nil)) fun st hp => ⟨(hp.pk [] (by decide)).le hB, rfl⟩
end Gab
