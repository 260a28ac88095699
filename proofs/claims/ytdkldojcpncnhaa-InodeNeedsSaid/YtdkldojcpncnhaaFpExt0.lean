/- The Go code comes to what the Lean functions say. Written by a program (gp.py). -/
import Derived.Test.YtdkldojcpncnhaaFd
import Derived.Test.YtdkldojcpncnhaaTy
set_option linter.unusedSimpArgs false
set_option linter.unusedVariables false
set_option maxHeartbeats 4000000
set_option maxRecDepth 100000
namespace Gab
open Go Go.Proofs
def ext_List_Blocks_P (B : Kn) (L : Own) (r : Int) : AV → St → Prop := CS B L fun v => v = .int .i64 r
def ext_List_Blocks_l0_I (B0 : Kn) (x6 : List (Int × Int)) (x3 : Int) (x8 : Int) : Fr → Kn → Own → Prop := fun fr B A => KLe B0 B ∧ ∃ v1, RSl EPIi64Ii64Q B v1 x6 ∧ fr = [(3, .int .i64 x3), (6, v1), (7, .int .i64 (x6.length : Int)), (8, .int .i64 x8)] ∧ A = []
def ext_List_Blocks_l0_X0 (B0 : Kn) (x3 : Int) : Fr → Kn → Own → Prop := fun fr B A => KLe B0 B ∧ fr = [(3, .int .i64 x3)] ∧ A = []
theorem ext_List_Blocks_l0_s {B0 : Kn} {L : Own} {n0 : Nat} {x6 : List (Int × Int)} {x3 : Int} {x8 : Int} {Q : AV → St → Prop} {E : (Int × Int) ⊕ Int → Prop} {o : (Int × Int) ⊕ Int} (h : ext_List_Blocks_l0 x6 x3 x8 = some o) (hn : ∀ s, E (.inl s) → WXI Try.prog 18 n0 (Fin Try.prog Try.f26.results.toList n0 Q) [.lp (ct [1, 1, 0, 1, 0, 0] (bodyOf Try.f26)), .blk 0, .code (ct [1, 1, 1] (bodyOf Try.f26))] (ext_List_Blocks_l0_I B0 x6 s.1 s.2) L) (hx0 : ∀ s, E (.inr s) → WXI Try.prog 18 n0 (Fin Try.prog Try.f26.results.toList n0 Q) [.code (ct [1, 1, 1] (bodyOf Try.f26))] (ext_List_Blocks_l0_X0 B0 s) L) (hE : E o) : WXI Try.prog 18 n0 (Fin Try.prog Try.f26.results.toList n0 Q) [.code (ct [1, 1, 0, 1, 0, 0] (bodyOf Try.f26)), .lp (ct [1, 1, 0, 1, 0, 0] (bodyOf Try.f26)), .blk 0, .code (ct [1, 1, 1] (bodyOf Try.f26))] (ext_List_Blocks_l0_I B0 x6 x3 x8) L := by
  unfold ext_List_Blocks_l0 at h
  rintro _ B _ ⟨hB, v1, h1, rfl, rfl⟩
  obtain ⟨_, _, _, _, _, rfl⟩ := h1.isl
  refine WX.seq ?_
  refine WX.reg ?_
  refine WO.q (.r fun _ => rfl) rfl rfl ?_
  refine WO.nil ?_
  refine WX.seq ?_
  rcases bsp (decide (x8 < (x6.length : Int))) with k2 | k2
  · have q_k2 := of_decide_eq_true k2
    replace h := (if_pos q_k2).symm.trans h
    refine WX.condT rfl k2 ?_
    refine WX.skip ?_
    refine WX.seq ?_
    refine WX.block ?_
    refine WX.seq ?_
    refine WX.reg ?_
    obtain ⟨y3, hy3, h⟩ := Option.bind_eq_some_iff.1 h
    obtain ⟨b_y3, o_y3, _, i_y3, p_y3, r_y3⟩ := h1.at sl44 hy3 .i64
    obtain ⟨_, _, rfl, rfl, rfl⟩ := r_y3
    refine WO.q (.ia i_y3) rfl rfl ?_
    refine WO.q (.lpA rfl p_y3 ti35 rfl rfl) rfl rfl ?_
    refine WO.md (MOp.alloc ti35 rfl) rfl rfl ?_
    rintro _ _ ⟨b4, rfl, rfl⟩
    refine WO.mn (MOp.storeW rfl (cA rfl) .h ti35 rfl rfl rfl) rfl ?_
    rintro _ _ rfl
    refine WO.nil ?_
    refine WX.reg ?_
    refine WO.q (.mv (v := .int _ _) rfl) rfl rfl ?_
    refine WO.q (.fa (fa35_1 _ _)) rfl rfl ?_
    refine WO.q (.ldS (i := 0) rfl rfl rfl ti3 rfl) rfl rfl ?_
    refine WO.q (.r fun _ => rfl) rfl rfl ?_
    refine WO.q (.as (v := .int _ _) rfl) rfl rfl ?_
    refine WO.nil ?_
    refine WX.pop ?_
    refine WX.reg ?_
    refine WO.q (.r fun _ => rfl) rfl rfl ?_
    refine WO.q (.mv (v := .int _ _) rfl) rfl rfl ?_
    refine WO.nil ?_
    refine WX.keepL [3, 6, 7, 8] (WX.pk [] (by decide) ?_) rfl
    obtain rfl := Option.some.inj h
    exact hn _ hE _ _ _ ⟨hB, _, h1, rfl, rfl⟩
  · have q_k2 := of_decide_eq_false k2
    replace h := (if_neg q_k2).symm.trans h
    refine WX.condF rfl k2 ?_
    refine WX.exit rfl ?_
    refine WX.keep [3] (WX.pk [] (by decide) ?_) rfl
    obtain rfl := Option.some.inj h
    exact hx0 _ hE _ _ _ ⟨hB, rfl, rfl⟩
theorem ext_List_Blocks_l0_ok {B0 : Kn} {L : Own} {n0 : Nat} {x6 : List (Int × Int)} {x3 : Int} {x8 : Int} {Q : AV → St → Prop} {d : Nat} {e : Int} (h : iter (fun (s : Int × Int) => ext_List_Blocks_l0 x6 s.1 s.2) d (x3, x8) = some e) (g0 : ∀ s, e = s → WXI Try.prog 18 n0 (Fin Try.prog Try.f26.results.toList n0 Q) [.code (ct [1, 1, 1] (bodyOf Try.f26))] (ext_List_Blocks_l0_X0 B0 s) L) : WXI Try.prog 18 n0 (Fin Try.prog Try.f26.results.toList n0 Q) [.code (ct [1, 1, 0, 1, 0, 0] (bodyOf Try.f26)), .lp (ct [1, 1, 0, 1, 0, 0] (bodyOf Try.f26)), .blk 0, .code (ct [1, 1, 1] (bodyOf Try.f26))] (ext_List_Blocks_l0_I B0 x6 x3 x8) L :=
  iter_ok (I := fun s => ext_List_Blocks_l0_I B0 x6 s.1 s.2) (D := fun e => (∀ s, e = s → WXI Try.prog 18 n0 (Fin Try.prog Try.f26.results.toList n0 Q) [.code (ct [1, 1, 1] (bodyOf Try.f26))] (ext_List_Blocks_l0_X0 B0 s) L)) (fun E hn hx s o ho hE => ext_List_Blocks_l0_s ho hn (fun s hs => (hx _ hs) _ rfl)  hE) h g0
theorem ext_List_Blocks_ok {B0 : Kn} {L : Own} {a0 : List (Int × Int)} {v0_0 : AV} {r : Int} (g0_0 : RSl EPIi64Ii64Q B0 v0_0 a0) (h : ext_List_Blocks a0 = some r) : ∀ st, Hp B0 L st → ASpec Try.prog 26 [v0_0] st (ext_List_Blocks_P B0 L r) := by
  unfold ext_List_Blocks at h
  refine bodyA (A := []) Try.func26 rfl (c := bodyOf Try.f26) rfl Try.ntmps26 (lb rfl) fun n0 => ?_
  have hB := KLe.refl B0
  obtain ⟨_, _, _, _, _, rfl⟩ := g0_0.isl
  refine WX.seq ?_
  refine WX.reg ?_
  refine WO.q (.as (v := .int _ _) rfl) rfl rfl ?_
  refine WO.nil ?_
  refine WX.seq ?_
  refine WX.reg ?_
  refine WO.q (.as (v := .int _ _) rfl) rfl rfl ?_
  refine WO.nil ?_
  refine WX.seq ?_
  refine WX.seq ?_
  refine WX.reg ?_
  refine WO.q (.mv (v := .sl _ _ _ _ _ _) rfl) rfl rfl ?_
  refine WO.q (.len rfl rfl rfl (sl44.len g0_0.isl)) rfl rfl ?_
  refine WO.q (.mv (v := .int _ _) rfl) rfl rfl ?_
  refine WO.nil ?_
  refine WX.block ?_
  refine WX.loop ?_
  obtain ⟨e5, he5, h⟩ := Option.bind_eq_some_iff.1 h
  refine WX.keep [3, 6, 7, 8] (WX.pk [] (by decide) ?_) rfl
  refine ext_List_Blocks_l0_ok he5 ?_ _ _ _ ⟨hB, _, g0_0, rfl, rfl⟩
  · intro s6 he_
    subst he_
    replace h := h
    rintro _ B _ ⟨hB, rfl, rfl⟩
    refine WX.seq ?_
    refine WX.reg ?_
    refine WO.q (.mv (v := .int _ _) rfl) rfl rfl ?_
    refine WO.q (.as (v := .int _ _) rfl) rfl rfl ?_
    refine WO.nil ?_
    obtain rfl := Option.some.inj h
    exact WX.ret (rs_ (rs_tmp rfl rs_nil)) fun st hp => ⟨(hp.pk [] (by decide)).le hB, rfl⟩
def ext_joins_P (B : Kn) (L : Own) (r : Bool) : AV → St → Prop := CS B L fun v => v = .bool r
def ext_joins_j1_I (B0 : Kn) (x12 : Bool) (zb2 : Int × Int) (zb3 : Int × Int) : Fr → Kn → Own → Prop := fun fr B A => KLe B0 B ∧ ∃ b4 b5, fr = [(2, .ptr b4 0), (3, .ptr b5 0), (12, .bool x12)] ∧ A = [(b4, some [.int .i64 zb2.1, .int .i64 zb2.2]), (b5, some [.int .i64 zb3.1, .int .i64 zb3.2])]
theorem ext_joins_j1_ok {B0 : Kn} {L : Own} {n0 : Nat} {x12 : Bool} {zb2 : Int × Int} {zb3 : Int × Int} {r : Bool} (h : ext_joins_j1 x12 zb2 zb3 = some r) : WXI Try.prog 26 n0 (Fin Try.prog Try.f74.results.toList n0 (ext_joins_P B0 L r)) [.code (ct [1, 0, 1] (bodyOf Try.f74)), .code (ct [1, 1] (bodyOf Try.f74))] (ext_joins_j1_I B0 x12 zb2 zb3) L := by
  unfold ext_joins_j1 at h
  rintro _ B _ ⟨hB, b4, b5, rfl, rfl⟩
  rcases bsp x12 with k6 | k6
  · replace h := (if_pos k6).symm.trans h
    refine WX.condT rfl k6 ?_
    refine WX.seq ?_
    refine WX.reg ?_
    refine WO.q (.fa (fa35_0 _ _)) rfl rfl ?_
    refine WO.q (.ldS (i := 0) rfl rfl rfl ti3 rfl) rfl rfl ?_
    refine WO.q (.fa (fa35_0 _ _)) rfl rfl ?_
    refine WO.q (.ldS (i := 1) rfl rfl rfl ti3 rfl) rfl rfl ?_
    refine WO.q (.r fun _ => rfl) rfl rfl ?_
    refine WO.q (.as (v := .bool _) rfl) rfl rfl ?_
    refine WO.nil ?_
    obtain rfl := Option.some.inj h
    exact WX.ret (rs_ (rs_tmp rfl rs_nil)) fun st hp => ⟨(hp.pk [] (by decide)).le hB, rfl⟩
  · replace h := (if_neg (bnt k6)).symm.trans h
    refine WX.condF rfl k6 ?_
    refine WX.skip ?_
    refine WX.seq ?_
    refine WX.reg ?_
    refine WO.q (.fa (fa35_0 _ _)) rfl rfl ?_
    refine WO.q (.ldS (i := 0) rfl rfl rfl ti3 rfl) rfl rfl ?_
    refine WO.q (.fa (fa35_1 _ _)) rfl rfl ?_
    refine WO.q (.ldS (i := 0) rfl rfl rfl ti3 rfl) rfl rfl ?_
    refine WO.q (.r fun _ => rfl) rfl rfl ?_
    refine WO.q (.fa (fa35_0 _ _)) rfl rfl ?_
    refine WO.q (.ldS (i := 1) rfl rfl rfl ti3 rfl) rfl rfl ?_
    refine WO.q (.r fun _ => rfl) rfl rfl ?_
    refine WO.q (.as (v := .bool _) rfl) rfl rfl ?_
    refine WO.nil ?_
    obtain rfl := Option.some.inj h
    exact WX.ret (rs_ (rs_tmp rfl rs_nil)) fun st hp => ⟨(hp.pk [] (by decide)).le hB, rfl⟩
theorem ext_joins_ok {B0 : Kn} {L : Own} {a0 : Int × Int} {a1 : Int × Int} {r : Bool} (h : ext_joins a0 a1 = some r) : ∀ st, Hp B0 L st → ASpec Try.prog 74 [.agg [.int .i64 a0.1, .int .i64 a0.2], .agg [.int .i64 a1.1, .int .i64 a1.2]] st (ext_joins_P B0 L r) := by
  unfold ext_joins at h
  refine bodyA (A := []) Try.func74 rfl (c := bodyOf Try.f74) rfl Try.ntmps74 (lb rfl) fun n0 => ?_
  have hB := KLe.refl B0
  refine WX.seq ?_
  refine WX.reg ?_
  refine WO.md (MOp.box (cA rfl)) rfl rfl ?_
  rintro _ _ ⟨b1, rfl, rfl⟩
  refine WO.md (MOp.box (cA rfl)) rfl rfl ?_
  rintro _ _ ⟨b2, rfl, rfl⟩
  refine WO.q (.as (v := .bool _) rfl) rfl rfl ?_
  refine WO.nil ?_
  refine WX.seq ?_
  refine WX.seq ?_
  refine WX.reg ?_
  refine WO.q (.fa (fa35_0 _ _)) rfl rfl ?_
  refine WO.q (.ldS (i := 1) rfl rfl rfl ti3 rfl) rfl rfl ?_
  refine WO.q (.r fun _ => rfl) rfl rfl ?_
  refine WO.q (.mv (v := .bool _) rfl) rfl rfl ?_
  rcases bsp (decide (a0.1 = (-1))) with k3 | k3
  · have q_k3 := of_decide_eq_true k3
    replace h := (if_pos q_k3).symm.trans h
    refine WO.sd (wg rfl rfl (gfn k3)) rfl ?_
    refine WO.sd (wg rfl rfl (gfn k3)) rfl ?_
    refine WO.sd (wg rfl rfl (gfn k3)) rfl ?_
    refine WO.q (.ptv (v := .bool _) rfl k3 rfl) rfl rfl ?_
    refine WO.nil ?_
    refine WX.keep [2, 3, 12] (WX.pk [1, 0] (by decide) ?_) rfl
    exact ext_joins_j1_ok h _ _ _ ⟨hB, _, _, rfl, rfl⟩
  · have q_k3 := of_decide_eq_false k3
    replace h := (if_neg q_k3).symm.trans h
    refine WO.q (.fa (fa35_0 _ _)) (wg rfl rfl (gf k3)) rfl ?_
    refine WO.q (.ldS (i := 0) rfl rfl rfl ti3 rfl) (wg rfl rfl (gf k3)) rfl ?_
    refine WO.q (.r fun _ => rfl) (wg rfl rfl (gf k3)) rfl ?_
    refine WO.q (.pfv (v := .bool _) rfl k3 rfl) rfl rfl ?_
    refine WO.nil ?_
    refine WX.keep [2, 3, 12] (WX.pk [1, 0] (by decide) ?_) rfl
    exact ext_joins_j1_ok h _ _ _ ⟨hB, _, _, rfl, rfl⟩
def ext_List_Right_P (B : Kn) (L : Own) (r : Bool) : AV → St → Prop := CS B L fun v => v = .bool r
def ext_List_Right_j6_I (B0 : Kn) (x0 : List (Int × Int)) (x3 : Int) (x6 : List (Int × Int)) (x8 : Int) (x43 : Bool) (zb5 : Int × Int) : Fr → Kn → Own → Prop := fun fr B A => KLe B0 B ∧ ∃ b7 v8 v9, RSl EPIi64Ii64Q B v8 x0 ∧ RSl EPIi64Ii64Q B v9 x6 ∧ fr = [(0, v8), (3, .int .i64 x3), (5, .ptr b7 0), (6, v9), (7, .int .i64 (x6.length : Int)), (8, .int .i64 x8), (43, .bool x43)] ∧ A = [(b7, some [.int .i64 zb5.1, .int .i64 zb5.2])]
def ext_List_Right_l0_I (B0 : Kn) (x0 : List (Int × Int)) (x6 : List (Int × Int)) (x3 : Int) (x8 : Int) : Fr → Kn → Own → Prop := fun fr B A => KLe B0 B ∧ ∃ v1 v2, RSl EPIi64Ii64Q B v1 x0 ∧ RSl EPIi64Ii64Q B v2 x6 ∧ fr = [(0, v1), (3, .int .i64 x3), (6, v2), (7, .int .i64 (x6.length : Int)), (8, .int .i64 x8)] ∧ A = []
def ext_List_Right_l0_X0 (B0 : Kn) (x0 : List (Int × Int)) (x3 : Int) : Fr → Kn → Own → Prop := fun fr B A => KLe B0 B ∧ ∃ v24, RSl EPIi64Ii64Q B v24 x0 ∧ fr = [(0, v24), (3, .int .i64 x3)] ∧ A = []
theorem ext_List_Right_j6_ok {B0 : Kn} {L : Own} {n0 : Nat} {x0 : List (Int × Int)} {x3 : Int} {x6 : List (Int × Int)} {x8 : Int} {x43 : Bool} {zb5 : Int × Int} {Q : AV → St → Prop} {E : (Int × Int) ⊕ (Bool ⊕ Int) → Prop} {o : (Int × Int) ⊕ (Bool ⊕ Int)} (h : ext_List_Right_j6 x0 x3 x6 x8 x43 zb5 = some o) (hn : ∀ s, E (.inl s) → WXI Try.prog 56 n0 (Fin Try.prog Try.f35.results.toList n0 Q) [.lp (ct [1, 1, 0, 1, 0, 0] (bodyOf Try.f35)), .blk 0, .code (ct [1, 1, 1] (bodyOf Try.f35))] (ext_List_Right_l0_I B0 x0 x6 s.1 s.2) L) (hx0 : ∀ s, E (.inr (.inr s)) → WXI Try.prog 56 n0 (Fin Try.prog Try.f35.results.toList n0 Q) [.code (ct [1, 1, 1] (bodyOf Try.f35))] (ext_List_Right_l0_X0 B0 x0 s) L) (hr : ∀ r, E (.inr (.inl r)) → ∀ v st, ext_List_Right_P B0 L r v st → Q v st) (hE : E o) : WXI Try.prog 56 n0 (Fin Try.prog Try.f35.results.toList n0 Q) [.code (ct [1, 1, 0, 1, 0, 0, 1, 1, 0, 0, 1, 0, 1] (bodyOf Try.f35)), .code (ct [1, 1, 0, 1, 0, 0, 1, 1, 0, 0, 1, 1] (bodyOf Try.f35)), .blk 1, .code (ct [1, 1, 0, 1, 0, 0, 1, 1, 1] (bodyOf Try.f35)), .lp (ct [1, 1, 0, 1, 0, 0] (bodyOf Try.f35)), .blk 0, .code (ct [1, 1, 1] (bodyOf Try.f35))] (ext_List_Right_j6_I B0 x0 x3 x6 x8 x43 zb5) L := by
  unfold ext_List_Right_j6 at h
  rintro _ B _ ⟨hB, b7, v8, v9, h8, h9, rfl, rfl⟩
  obtain ⟨_, _, _, _, _, rfl⟩ := h8.isl
  obtain ⟨_, _, _, _, _, rfl⟩ := h9.isl
  rcases bsp x43 with k10 | k10
  · replace h := (if_pos k10).symm.trans h
    refine WX.condT rfl k10 ?_
    refine WX.seq ?_
    refine WX.reg ?_
    refine WO.q (.as (v := .bool _) rfl) rfl rfl ?_
    refine WO.nil ?_
    obtain rfl := Option.some.inj h
    exact WX.ret (rs_ (rs_tmp rfl rs_nil)) fun st hp => hr _ hE _ _ ⟨(hp.pk [] (by decide)).le hB, rfl⟩
  · replace h := (if_neg (bnt k10)).symm.trans h
    refine WX.condF rfl k10 ?_
    refine WX.skip ?_
    refine WX.reg ?_
    refine WO.q (.mv (v := .int _ _) rfl) rfl rfl ?_
    refine WO.q (.fa (fa35_1 _ _)) rfl rfl ?_
    refine WO.q (.ldS (i := 0) rfl rfl rfl ti3 rfl) rfl rfl ?_
    refine WO.q (.r fun _ => rfl) rfl rfl ?_
    refine WO.q (.as (v := .int _ _) rfl) rfl rfl ?_
    refine WO.nil ?_
    refine WX.pop ?_
    refine WX.reg ?_
    refine WO.q (.r fun _ => rfl) rfl rfl ?_
    refine WO.q (.mv (v := .int _ _) rfl) rfl rfl ?_
    refine WO.nil ?_
    refine WX.keepL [0, 3, 6, 7, 8] (WX.pk [] (by decide) ?_) rfl
    obtain rfl := Option.some.inj h
    exact hn _ hE _ _ _ ⟨hB, _, _, h8, h9, rfl, rfl⟩
theorem ext_List_Right_l0_s {B0 : Kn} {L : Own} {n0 : Nat} {x0 : List (Int × Int)} {x6 : List (Int × Int)} {x3 : Int} {x8 : Int} {Q : AV → St → Prop} {E : (Int × Int) ⊕ (Bool ⊕ Int) → Prop} {o : (Int × Int) ⊕ (Bool ⊕ Int)} (h : ext_List_Right_l0 x0 x6 x3 x8 = some o) (hn : ∀ s, E (.inl s) → WXI Try.prog 56 n0 (Fin Try.prog Try.f35.results.toList n0 Q) [.lp (ct [1, 1, 0, 1, 0, 0] (bodyOf Try.f35)), .blk 0, .code (ct [1, 1, 1] (bodyOf Try.f35))] (ext_List_Right_l0_I B0 x0 x6 s.1 s.2) L) (hx0 : ∀ s, E (.inr (.inr s)) → WXI Try.prog 56 n0 (Fin Try.prog Try.f35.results.toList n0 Q) [.code (ct [1, 1, 1] (bodyOf Try.f35))] (ext_List_Right_l0_X0 B0 x0 s) L) (hr : ∀ r, E (.inr (.inl r)) → ∀ v st, ext_List_Right_P B0 L r v st → Q v st) (hE : E o) : WXI Try.prog 56 n0 (Fin Try.prog Try.f35.results.toList n0 Q) [.code (ct [1, 1, 0, 1, 0, 0] (bodyOf Try.f35)), .lp (ct [1, 1, 0, 1, 0, 0] (bodyOf Try.f35)), .blk 0, .code (ct [1, 1, 1] (bodyOf Try.f35))] (ext_List_Right_l0_I B0 x0 x6 x3 x8) L := by
  unfold ext_List_Right_l0 at h
  rintro _ B _ ⟨hB, v1, v2, h1, h2, rfl, rfl⟩
  obtain ⟨_, _, _, _, _, rfl⟩ := h1.isl
  obtain ⟨_, _, _, _, _, rfl⟩ := h2.isl
  refine WX.seq ?_
  refine WX.reg ?_
  refine WO.q (.r fun _ => rfl) rfl rfl ?_
  refine WO.nil ?_
  refine WX.seq ?_
  rcases bsp (decide (x8 < (x6.length : Int))) with k3 | k3
  · have q_k3 := of_decide_eq_true k3
    replace h := (if_pos q_k3).symm.trans h
    refine WX.condT rfl k3 ?_
    refine WX.skip ?_
    refine WX.seq ?_
    refine WX.block ?_
    refine WX.seq ?_
    refine WX.reg ?_
    refine WO.q (.mv (v := .int _ _) rfl) rfl rfl ?_
    obtain ⟨y4, hy4, h⟩ := Option.bind_eq_some_iff.1 h
    obtain ⟨b_y4, o_y4, _, i_y4, p_y4, r_y4⟩ := h2.at sl44 hy4 .i64
    obtain ⟨_, _, rfl, rfl, rfl⟩ := r_y4
    refine WO.q (.ia i_y4) rfl rfl ?_
    refine WO.q (.lpA rfl p_y4 ti35 rfl rfl) rfl rfl ?_
    refine WO.md (MOp.alloc ti35 rfl) rfl rfl ?_
    rintro _ _ ⟨b5, rfl, rfl⟩
    refine WO.q (.as (v := .int _ _) rfl) rfl rfl ?_
    refine WO.mn (MOp.storeW rfl (cA rfl) .h ti35 rfl rfl rfl) rfl ?_
    rintro _ _ rfl
    refine WO.nil ?_
    refine WX.seq ?_
    refine WX.seq ?_
    refine WX.drw (Plan.of [0, 1, 2, 3, 4, 5, 6, 7, 8, 9, 10, 11, 12, 13, 14, 15, 16, 17, 18, 19, 20, 21, 22, 23, 24, 25, 26, 27, 28, 29, 30] .nil) _ mixed (by kernel_rfl) rfl (pk_sub [0]) ?_
    refine WP.q (i := 0) rfl (.fa (fa35_1 _ _)) rfl rfl rfl ?_
    refine WP.q (i := 1) rfl (.ldS (i := 0) rfl rfl rfl ti3 rfl) rfl rfl rfl ?_
    refine WP.q (i := 2) rfl (.r fun _ => rfl) rfl rfl rfl ?_
    refine WP.q (i := 3) rfl (.mv (v := .bool _) rfl) rfl rfl rfl ?_
    rcases bsp (decide (y4.2 < 1)) with k6 | k6
    · have q_k6 := of_decide_eq_true k6
      replace h := (if_pos q_k6).symm.trans h
      refine WP.sk (i := 4) rfl rfl (wg rfl rfl (gfn k6)) rfl ?_
      refine WP.sk (i := 5) rfl rfl (wg rfl rfl (gfn k6)) rfl ?_
      refine WP.sk (i := 6) rfl rfl (wg rfl rfl (gfn k6)) rfl ?_
      refine WP.q (i := 7) rfl (.ptv (v := .bool _) rfl k6 rfl) rfl rfl rfl ?_
      refine WP.q (i := 8) rfl (.mv (v := .bool _) rfl) rfl rfl rfl ?_
      refine WP.sk (i := 9) rfl rfl (wg rfl rfl (gfn rfl)) rfl ?_
      refine WP.sk (i := 10) rfl rfl (wg rfl rfl (gfn rfl)) rfl ?_
      refine WP.sk (i := 11) rfl rfl (wg rfl rfl (gfn rfl)) rfl ?_
      refine WP.q (i := 12) rfl (.ptv (v := .bool _) rfl rfl rfl) rfl rfl rfl ?_
      refine WP.q (i := 13) rfl (.mv (v := .bool _) rfl) rfl rfl rfl ?_
      refine WP.sk (i := 14) rfl rfl (wg rfl rfl (gfn rfl)) rfl ?_
      refine WP.sk (i := 15) rfl rfl (wg rfl rfl (gfn rfl)) rfl ?_
      refine WP.sk (i := 16) rfl rfl (wg rfl rfl (gfn rfl)) rfl ?_
      refine WP.q (i := 17) rfl (.ptv (v := .bool _) rfl rfl rfl) rfl rfl rfl ?_
      refine WP.q (i := 18) rfl (.mv (v := .bool _) rfl) rfl rfl rfl ?_
      refine WP.sk (i := 19) rfl rfl (wg rfl rfl (gfn rfl)) rfl ?_
      refine WP.sk (i := 20) rfl rfl (wg rfl rfl (gfn rfl)) rfl ?_
      refine WP.sk (i := 21) rfl rfl (wg rfl rfl (gfn rfl)) rfl ?_
      refine WP.sk (i := 22) rfl rfl (wgu rfl rfl) rfl ?_
      refine WP.sk (i := 23) rfl rfl (wgu rfl rfl) rfl ?_
      refine WP.sk (i := 24) rfl rfl (wgu rfl rfl) rfl ?_
      refine WP.sk (i := 25) rfl rfl (wgu rfl rfl) rfl ?_
      refine WP.sk (i := 26) rfl rfl (wgu rfl rfl) rfl ?_
      refine WP.sk (i := 27) rfl rfl (wgu rfl rfl) rfl ?_
      refine WP.sd (i := 28) rfl rfl (wgu rfl rfl) rfl ?_
      refine WP.sk (i := 29) rfl rfl (wg rfl rfl (gfn rfl)) rfl ?_
      refine WP.q (i := 30) rfl (.ptv (v := .bool _) rfl rfl rfl) rfl rfl rfl ?_
      refine WP.nil ?_
      refine WX.keep [0, 3, 5, 6, 7, 8, 43] (WX.pk [0] (by decide) ?_) rfl
      exact ext_List_Right_j6_ok h hn hx0 hr hE _ _ _ ⟨hB, _, _, _, h1, h2, rfl, rfl⟩
    · have q_k6 := of_decide_eq_false k6
      replace h := (if_neg q_k6).symm.trans h
      refine WP.q (i := 4) rfl (.fa (fa35_1 _ _)) rfl (wg rfl rfl (gf k6)) rfl ?_
      refine WP.q (i := 5) rfl (.ldS (i := 0) rfl rfl rfl ti3 rfl) rfl (wg rfl rfl (gf k6)) rfl ?_
      refine WP.q (i := 6) rfl (.r fun _ => rfl) rfl (wg rfl rfl (gf k6)) rfl ?_
      refine WP.q (i := 7) rfl (.pfv (v := .bool _) rfl k6 rfl) rfl rfl rfl ?_
      refine WP.q (i := 8) rfl (.mv (v := .bool _) rfl) rfl rfl rfl ?_
      rcases bsp (decide (65536 < y4.2)) with k11 | k11
      · have q_k11 := of_decide_eq_true k11
        replace h := (if_pos q_k11).symm.trans h
        refine WP.sk (i := 9) rfl rfl (wg rfl rfl (gfn k11)) rfl ?_
        refine WP.sk (i := 10) rfl rfl (wg rfl rfl (gfn k11)) rfl ?_
        refine WP.sk (i := 11) rfl rfl (wg rfl rfl (gfn k11)) rfl ?_
        refine WP.q (i := 12) rfl (.ptv (v := .bool _) rfl k11 rfl) rfl rfl rfl ?_
        refine WP.q (i := 13) rfl (.mv (v := .bool _) rfl) rfl rfl rfl ?_
        refine WP.sk (i := 14) rfl rfl (wg rfl rfl (gfn rfl)) rfl ?_
        refine WP.sk (i := 15) rfl rfl (wg rfl rfl (gfn rfl)) rfl ?_
        refine WP.sk (i := 16) rfl rfl (wg rfl rfl (gfn rfl)) rfl ?_
        refine WP.q (i := 17) rfl (.ptv (v := .bool _) rfl rfl rfl) rfl rfl rfl ?_
        refine WP.q (i := 18) rfl (.mv (v := .bool _) rfl) rfl rfl rfl ?_
        refine WP.sk (i := 19) rfl rfl (wg rfl rfl (gfn rfl)) rfl ?_
        refine WP.sk (i := 20) rfl rfl (wg rfl rfl (gfn rfl)) rfl ?_
        refine WP.sk (i := 21) rfl rfl (wg rfl rfl (gfn rfl)) rfl ?_
        refine WP.sk (i := 22) rfl rfl (wgu rfl rfl) rfl ?_
        refine WP.sk (i := 23) rfl rfl (wgu rfl rfl) rfl ?_
        refine WP.sk (i := 24) rfl rfl (wgu rfl rfl) rfl ?_
        refine WP.sk (i := 25) rfl rfl (wgu rfl rfl) rfl ?_
        refine WP.sk (i := 26) rfl rfl (wgu rfl rfl) rfl ?_
        refine WP.sk (i := 27) rfl rfl (wgu rfl rfl) rfl ?_
        refine WP.sd (i := 28) rfl rfl (wgu rfl rfl) rfl ?_
        refine WP.sk (i := 29) rfl rfl (wg rfl rfl (gfn rfl)) rfl ?_
        refine WP.q (i := 30) rfl (.ptv (v := .bool _) rfl rfl rfl) rfl rfl rfl ?_
        refine WP.nil ?_
        refine WX.keep [0, 3, 5, 6, 7, 8, 43] (WX.pk [0] (by decide) ?_) rfl
        exact ext_List_Right_j6_ok h hn hx0 hr hE _ _ _ ⟨hB, _, _, _, h1, h2, rfl, rfl⟩
      · have q_k11 := of_decide_eq_false k11
        replace h := (if_neg q_k11).symm.trans h
        refine WP.q (i := 9) rfl (.fa (fa35_0 _ _)) rfl (wg rfl rfl (gf k11)) rfl ?_
        refine WP.q (i := 10) rfl (.ldS (i := 0) rfl rfl rfl ti3 rfl) rfl (wg rfl rfl (gf k11)) rfl ?_
        refine WP.q (i := 11) rfl (.r fun _ => rfl) rfl (wg rfl rfl (gf k11)) rfl ?_
        refine WP.q (i := 12) rfl (.pfv (v := .bool _) rfl k11 rfl) rfl rfl rfl ?_
        refine WP.q (i := 13) rfl (.mv (v := .bool _) rfl) rfl rfl rfl ?_
        rcases bsp (decide (y4.1 < (-1))) with k12 | k12
        · have q_k12 := of_decide_eq_true k12
          replace h := (if_pos q_k12).symm.trans h
          refine WP.sk (i := 14) rfl rfl (wg rfl rfl (gfn k12)) rfl ?_
          refine WP.sk (i := 15) rfl rfl (wg rfl rfl (gfn k12)) rfl ?_
          refine WP.sk (i := 16) rfl rfl (wg rfl rfl (gfn k12)) rfl ?_
          refine WP.q (i := 17) rfl (.ptv (v := .bool _) rfl k12 rfl) rfl rfl rfl ?_
          refine WP.q (i := 18) rfl (.mv (v := .bool _) rfl) rfl rfl rfl ?_
          refine WP.sk (i := 19) rfl rfl (wg rfl rfl (gfn rfl)) rfl ?_
          refine WP.sk (i := 20) rfl rfl (wg rfl rfl (gfn rfl)) rfl ?_
          refine WP.sk (i := 21) rfl rfl (wg rfl rfl (gfn rfl)) rfl ?_
          refine WP.sk (i := 22) rfl rfl (wgu rfl rfl) rfl ?_
          refine WP.sk (i := 23) rfl rfl (wgu rfl rfl) rfl ?_
          refine WP.sk (i := 24) rfl rfl (wgu rfl rfl) rfl ?_
          refine WP.sk (i := 25) rfl rfl (wgu rfl rfl) rfl ?_
          refine WP.sk (i := 26) rfl rfl (wgu rfl rfl) rfl ?_
          refine WP.sk (i := 27) rfl rfl (wgu rfl rfl) rfl ?_
          refine WP.sd (i := 28) rfl rfl (wgu rfl rfl) rfl ?_
          refine WP.sk (i := 29) rfl rfl (wg rfl rfl (gfn rfl)) rfl ?_
          refine WP.q (i := 30) rfl (.ptv (v := .bool _) rfl rfl rfl) rfl rfl rfl ?_
          refine WP.nil ?_
          refine WX.keep [0, 3, 5, 6, 7, 8, 43] (WX.pk [0] (by decide) ?_) rfl
          exact ext_List_Right_j6_ok h hn hx0 hr hE _ _ _ ⟨hB, _, _, _, h1, h2, rfl, rfl⟩
        · have q_k12 := of_decide_eq_false k12
          replace h := (if_neg q_k12).symm.trans h
          refine WP.q (i := 14) rfl (.fa (fa35_0 _ _)) rfl (wg rfl rfl (gf k12)) rfl ?_
          refine WP.q (i := 15) rfl (.ldS (i := 0) rfl rfl rfl ti3 rfl) rfl (wg rfl rfl (gf k12)) rfl ?_
          refine WP.q (i := 16) rfl (.r fun _ => rfl) rfl (wg rfl rfl (gf k12)) rfl ?_
          refine WP.q (i := 17) rfl (.pfv (v := .bool _) rfl k12 rfl) rfl rfl rfl ?_
          refine WP.q (i := 18) rfl (.mv (v := .bool _) rfl) rfl rfl rfl ?_
          rcases bsp (decide (65536 < y4.1)) with k13 | k13
          · have q_k13 := of_decide_eq_true k13
            replace h := (if_pos q_k13).symm.trans h
            refine WP.sk (i := 19) rfl rfl (wg rfl rfl (gfn k13)) rfl ?_
            refine WP.sk (i := 20) rfl rfl (wg rfl rfl (gfn k13)) rfl ?_
            refine WP.sk (i := 21) rfl rfl (wg rfl rfl (gfn k13)) rfl ?_
            refine WP.sk (i := 22) rfl rfl (wgu rfl rfl) rfl ?_
            refine WP.sk (i := 23) rfl rfl (wgu rfl rfl) rfl ?_
            refine WP.sk (i := 24) rfl rfl (wgu rfl rfl) rfl ?_
            refine WP.sk (i := 25) rfl rfl (wgu rfl rfl) rfl ?_
            refine WP.sk (i := 26) rfl rfl (wgu rfl rfl) rfl ?_
            refine WP.sk (i := 27) rfl rfl (wgu rfl rfl) rfl ?_
            refine WP.sd (i := 28) rfl rfl (wgu rfl rfl) rfl ?_
            refine WP.sk (i := 29) rfl rfl (wg rfl rfl (gfn k13)) rfl ?_
            refine WP.q (i := 30) rfl (.ptv (v := .bool _) rfl k13 rfl) rfl rfl rfl ?_
            refine WP.nil ?_
            refine WX.keep [0, 3, 5, 6, 7, 8, 43] (WX.pk [0] (by decide) ?_) rfl
            exact ext_List_Right_j6_ok h hn hx0 hr hE _ _ _ ⟨hB, _, _, _, h1, h2, rfl, rfl⟩
          · have q_k13 := of_decide_eq_false k13
            replace h := (if_neg q_k13).symm.trans h
            refine WP.q (i := 19) rfl (.mv (v := .int _ _) rfl) rfl (wg rfl rfl (gf k13)) rfl ?_
            refine WP.q (i := 20) rfl (.r fun _ => rfl) rfl (wg rfl rfl (gf k13)) rfl ?_
            refine WP.q (i := 21) rfl (.mv (v := .bool _) rfl) rfl (wg rfl rfl (gf k13)) rfl ?_
            rcases bsp (decide (0 < x8)) with k14 | k14
            · have q_k14 := of_decide_eq_true k14
              replace h := (if_pos q_k14).symm.trans h
              refine WP.q (i := 22) rfl (.mv (v := .sl _ _ _ _ _ _) rfl) rfl (wg rfl rfl (gt k14)) rfl ?_
              refine WP.q (i := 23) rfl (.mv (v := .int _ _) rfl) rfl (wg rfl rfl (gt k14)) rfl ?_
              refine WP.q (i := 24) rfl (.r fun _ => rfl) rfl (wg rfl rfl (gt k14)) rfl ?_
              obtain ⟨y15, hy15, h⟩ := Option.bind_eq_some_iff.1 h
              obtain ⟨b_y15, o_y15, _, i_y15, p_y15, r_y15⟩ := h1.at sl44 hy15 .i64
              obtain ⟨_, _, rfl, rfl, rfl⟩ := r_y15
              refine WP.q (i := 25) rfl (.ia i_y15) rfl (wg rfl rfl (gt k14)) rfl ?_
              refine WP.q (i := 26) rfl (.lpA rfl p_y15 ti35 rfl rfl) rfl (wg rfl rfl (gt k14)) rfl ?_
              refine WP.q (i := 27) rfl (.ldA (i := 0) rfl rfl rfl ti35 rfl) rfl (wg rfl rfl (gt k14)) rfl ?_
              obtain ⟨y16, hy16, h⟩ := Option.bind_eq_some_iff.1 h
              refine WP.cS (i := 28) rfl rfl rfl (ext_joins_ok hy16) rfl (wg rfl rfl (gt k14)) rfl ?_
              rintro _ rfl
              refine WP.q (i := 29) rfl (.ptv (v := .bool _) rfl k14 rfl) rfl (wg rfl rfl (gf k13)) rfl ?_
              refine WP.q (i := 30) rfl (.pfv (v := .bool _) rfl k13 rfl) rfl rfl rfl ?_
              refine WP.nil ?_
              refine WX.keep [0, 3, 5, 6, 7, 8, 43] (WX.pk [0] (by decide) ?_) rfl
              exact ext_List_Right_j6_ok h hn hx0 hr hE _ _ _ ⟨hB, _, _, _, h1, h2, rfl, rfl⟩
            · have q_k14 := of_decide_eq_false k14
              replace h := (if_neg q_k14).symm.trans h
              refine WP.sk (i := 22) rfl rfl (wg rfl rfl (gtn k14)) rfl ?_
              refine WP.sk (i := 23) rfl rfl (wg rfl rfl (gtn k14)) rfl ?_
              refine WP.sk (i := 24) rfl rfl (wg rfl rfl (gtn k14)) rfl ?_
              refine WP.sk (i := 25) rfl rfl (wg rfl rfl (gtn k14)) rfl ?_
              refine WP.sk (i := 26) rfl rfl (wg rfl rfl (gtn k14)) rfl ?_
              refine WP.sk (i := 27) rfl rfl (wg rfl rfl (gtn k14)) rfl ?_
              refine WP.sd (i := 28) rfl rfl (wg rfl rfl (gtn k14)) rfl ?_
              refine WP.q (i := 29) rfl (.pfv (v := .bool _) rfl k14 rfl) rfl (wg rfl rfl (gf k13)) rfl ?_
              refine WP.q (i := 30) rfl (.pfv (v := .bool _) rfl k13 rfl) rfl rfl rfl ?_
              refine WP.nil ?_
              refine WX.keep [0, 3, 5, 6, 7, 8, 43] (WX.pk [0] (by decide) ?_) rfl
              exact ext_List_Right_j6_ok h hn hx0 hr hE _ _ _ ⟨hB, _, _, _, h1, h2, rfl, rfl⟩
  · have q_k3 := of_decide_eq_false k3
    replace h := (if_neg q_k3).symm.trans h
    refine WX.condF rfl k3 ?_
    refine WX.exit rfl ?_
    refine WX.keep [0, 3] (WX.pk [] (by decide) ?_) rfl
    obtain rfl := Option.some.inj h
    exact hx0 _ hE _ _ _ ⟨hB, _, h1, rfl, rfl⟩
theorem ext_List_Right_l0_ok {B0 : Kn} {L : Own} {n0 : Nat} {x0 : List (Int × Int)} {x6 : List (Int × Int)} {x3 : Int} {x8 : Int} {Q : AV → St → Prop} {d : Nat} {e : Bool ⊕ Int} (h : iter (fun (s : Int × Int) => ext_List_Right_l0 x0 x6 s.1 s.2) d (x3, x8) = some e) (g0 : ∀ r, e = (.inl r) → ∀ v st, ext_List_Right_P B0 L r v st → Q v st) (g1 : ∀ s, e = (.inr s) → WXI Try.prog 56 n0 (Fin Try.prog Try.f35.results.toList n0 Q) [.code (ct [1, 1, 1] (bodyOf Try.f35))] (ext_List_Right_l0_X0 B0 x0 s) L) : WXI Try.prog 56 n0 (Fin Try.prog Try.f35.results.toList n0 Q) [.code (ct [1, 1, 0, 1, 0, 0] (bodyOf Try.f35)), .lp (ct [1, 1, 0, 1, 0, 0] (bodyOf Try.f35)), .blk 0, .code (ct [1, 1, 1] (bodyOf Try.f35))] (ext_List_Right_l0_I B0 x0 x6 x3 x8) L :=
  iter_ok (I := fun s => ext_List_Right_l0_I B0 x0 x6 s.1 s.2) (D := fun e => (∀ r, e = (.inl r) → ∀ v st, ext_List_Right_P B0 L r v st → Q v st) ∧ (∀ s, e = (.inr s) → WXI Try.prog 56 n0 (Fin Try.prog Try.f35.results.toList n0 Q) [.code (ct [1, 1, 1] (bodyOf Try.f35))] (ext_List_Right_l0_X0 B0 x0 s) L)) (fun E hn hx s o ho hE => ext_List_Right_l0_s ho hn (fun s hs => (hx _ hs).2 _ rfl) (fun r hs => (hx _ hs).1 _ rfl) hE) h ⟨g0, g1⟩
theorem ext_List_Right_ok {B0 : Kn} {L : Own} {a0 : List (Int × Int)} {v0_0 : AV} {r : Bool} (g0_0 : RSl EPIi64Ii64Q B0 v0_0 a0) (h : ext_List_Right a0 = some r) : ∀ st, Hp B0 L st → ASpec Try.prog 35 [v0_0] st (ext_List_Right_P B0 L r) := by
  unfold ext_List_Right at h
  refine bodyA (A := []) Try.func35 rfl (c := bodyOf Try.f35) rfl Try.ntmps35 (lb rfl) fun n0 => ?_
  have hB := KLe.refl B0
  obtain ⟨_, _, _, _, _, rfl⟩ := g0_0.isl
  refine WX.seq ?_
  refine WX.reg ?_
  refine WO.q (.as (v := .bool _) rfl) rfl rfl ?_
  refine WO.nil ?_
  refine WX.seq ?_
  refine WX.reg ?_
  refine WO.q (.as (v := .int _ _) rfl) rfl rfl ?_
  refine WO.nil ?_
  refine WX.seq ?_
  refine WX.seq ?_
  refine WX.reg ?_
  refine WO.q (.mv (v := .sl _ _ _ _ _ _) rfl) rfl rfl ?_
  refine WO.q (.len rfl rfl rfl (sl44.len g0_0.isl)) rfl rfl ?_
  refine WO.q (.mv (v := .int _ _) rfl) rfl rfl ?_
  refine WO.nil ?_
  refine WX.block ?_
  refine WX.loop ?_
  obtain ⟨e18, he18, h⟩ := Option.bind_eq_some_iff.1 h
  refine WX.keep [0, 3, 6, 7, 8] (WX.pk [] (by decide) ?_) rfl
  refine ext_List_Right_l0_ok he18 ?_ ?_ _ _ _ ⟨hB, _, _, g0_0, g0_0, rfl, rfl⟩
  · intro r20 he_
    subst he_
    replace h := (on_l h)
    obtain rfl := Option.some.inj h
    exact fun v st hp => hp
  · intro x21 he_
    subst he_
    replace h := (on_r h)
    rintro _ B _ ⟨hB, v22, h22, rfl, rfl⟩
    obtain ⟨_, _, _, _, _, rfl⟩ := h22.isl
    refine WX.seq ?_
    refine WX.reg ?_
    refine WO.q (.mv (v := .sl _ _ _ _ _ _) rfl) rfl rfl ?_
    refine WO.q (.len rfl rfl rfl (sl44.len h22.isl)) rfl rfl ?_
    refine WO.q (.r fun _ => rfl) rfl rfl ?_
    refine WO.q (.mv (v := .bool _) rfl) rfl rfl ?_
    rcases bsp (decide ((a0.length : Int) ≤ 64)) with k23 | k23
    · have q_k23 := of_decide_eq_true k23
      replace h := (if_pos q_k23).symm.trans h
      refine WO.q (.mv (v := .int _ _) rfl) (wg rfl rfl (gt k23)) rfl ?_
      refine WO.q (.r fun _ => rfl) (wg rfl rfl (gt k23)) rfl ?_
      refine WO.q (.ptv (v := .bool _) rfl k23 rfl) rfl rfl ?_
      refine WO.q (.as (v := .bool _) rfl) rfl rfl ?_
      refine WO.nil ?_
      obtain rfl := Option.some.inj h
      exact WX.ret (rs_ (rs_tmp rfl rs_nil)) fun st hp => ⟨(hp.pk [] (by decide)).le hB, rfl⟩
    · have q_k23 := of_decide_eq_false k23
      replace h := (if_neg q_k23).symm.trans h
      refine WO.sd (wg rfl rfl (gtn k23)) rfl ?_
      refine WO.sd (wg rfl rfl (gtn k23)) rfl ?_
      refine WO.q (.pfv (v := .bool _) rfl k23 rfl) rfl rfl ?_
      refine WO.q (.as (v := .bool _) rfl) rfl rfl ?_
      refine WO.nil ?_
      obtain rfl := Option.some.inj h
      exact WX.ret (rs_ (rs_tmp rfl rs_nil)) fun st hp => ⟨(hp.pk [] (by decide)).le hB, rfl⟩
end Gab
