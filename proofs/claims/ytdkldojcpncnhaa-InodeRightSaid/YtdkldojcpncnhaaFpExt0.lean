/- The Go code comes to what the Lean functions say. Written by a program (gp.py). -/
import Derived.Test.YtdkldojcpncnhaaFd
import Derived.Test.YtdkldojcpncnhaaTy
set_option linter.unusedSimpArgs false
set_option linter.unusedVariables false
set_option maxHeartbeats 4000000
set_option maxRecDepth 100000
namespace Gab
open Go Go.Proofs
def ext_List_Blocks_P (B : Kn) (L : Own) (r : Int) : AV → St → Prop := CS B L fun v => v = .int .i64 r
def ext_List_Blocks_l0_I (B0 : Kn) (x6 : List (Int × Int)) (x3 : Int) (x8 : Int) : Fr → Kn → Own → Prop := fun fr B A => KLe B0 B ∧ ∃ v1, RSl EPIi64Ii64Q B v1 x6 ∧ fr = [(3, .int .i64 x3), (6, v1), (7, .int .i64 (x6.length : Int)), (8, .int .i64 x8)] ∧ A = []
def ext_List_Blocks_l0_X0 (B0 : Kn) (x3 : Int) : Fr → Kn → Own → Prop := fun fr B A => KLe B0 B ∧ fr = [(3, .int .i64 x3)] ∧ A = []
theorem ext_List_Blocks_l0_s {B0 : Kn} {L : Own} {n0 : Nat} {x6 : List (Int × Int)} {x3 : Int} {x8 : Int} {Q : AV → St → Prop} {E : (Int × Int) ⊕ Int → Prop} {o : (Int × Int) ⊕ Int} (h : ext_List_Blocks_l0 x6 x3 x8 = some o) (hn : ∀ s, E (.inl s) → WXI Try.prog 18 n0 (Fin Try.prog Try.f26.results.toList n0 Q) [.lp (ct [1, 1, 0, 1, 0, 0] (bodyOf Try.f26)), .blk 0, .code (ct [1, 1, 1] (bodyOf Try.f26))] (ext_List_Blocks_l0_I B0 x6 s.1 s.2) L) (hx0 : ∀ s, E (.inr s) → WXI Try.prog 18 n0 (Fin Try.prog Try.f26.results.toList n0 Q) [.code (ct [1, 1, 1] (bodyOf Try.f26))] (ext_List_Blocks_l0_X0 B0 s) L) (hE : E o) : WXI Try.prog 18 n0 (Fin Try.prog Try.f26.results.toList n0 Q) [.code (ct [1, 1, 0, 1, 0, 0] (bodyOf Try.f26)), .lp (ct [1, 1, 0, 1, 0, 0] (bodyOf Try.f26)), .blk 0, .code (ct [1, 1, 1] (bodyOf Try.f26))] (ext_List_Blocks_l0_I B0 x6 x3 x8) L := by
  unfold ext_List_Blocks_l0 at h
  rintro _ B _ ⟨hB, v1, h1, rfl, rfl⟩
  obtain ⟨_, _, _, _, _, rfl⟩ := h1.isl
  refine WX.seq ?_
  refine WX.reg ?_
  refine WO.q (.r fun _ => rfl) rfl rfl ?_
  refine WO.nil ?_
  refine WX.seq ?_
  rcases bsp (decide (x8 < (x6.length : Int))) with k2 | k2
  · have q_k2 := of_decide_eq_true k2
    replace h := (if_pos q_k2).symm.trans h
    refine WX.condT rfl k2 ?_
    refine WX.skip ?_
    refine WX.seq ?_
    refine WX.block ?_
    refine WX.seq ?_
    refine WX.reg ?_
    obtain ⟨y3, hy3, h⟩ := Option.bind_eq_some_iff.1 h
    obtain ⟨b_y3, o_y3, _, i_y3, p_y3, r_y3⟩ := h1.at sl44 hy3 .i64
    obtain ⟨_, _, rfl, rfl, rfl⟩ := r_y3
    refine WO.q (.ia i_y3) rfl rfl ?_
    refine WO.q (.lpA rfl p_y3 ti35 rfl rfl) rfl rfl ?_
    refine WO.md (MOp.alloc ti35 rfl) rfl rfl ?_
    rintro _ _ ⟨b4, rfl, rfl⟩
    refine WO.mn (MOp.storeW rfl (cA rfl) .h ti35 rfl rfl rfl) rfl ?_
    rintro _ _ rfl
    refine WO.nil ?_
    refine WX.reg ?_
    refine WO.q (.mv (v := .int _ _) rfl) rfl rfl ?_
    refine WO.q (.fa (fa35_1 _ _)) rfl rfl ?_
    refine WO.q (.ldS (i := 0) rfl rfl rfl ti3 rfl) rfl rfl ?_
    refine WO.q (.r fun _ => rfl) rfl rfl ?_
    refine WO.q (.as (v := .int _ _) rfl) rfl rfl ?_
    refine WO.nil ?_
    refine WX.pop ?_
    refine WX.reg ?_
    refine WO.q (.r fun _ => rfl) rfl rfl ?_
    refine WO.q (.mv (v := .int _ _) rfl) rfl rfl ?_
    refine WO.nil ?_
    refine WX.keepL [3, 6, 7, 8] (WX.pk [] (by decide) ?_) rfl
    obtain rfl := Option.some.inj h
    exact hn _ hE _ _ _ ⟨hB, _, h1, rfl, rfl⟩
  · have q_k2 := of_decide_eq_false k2
    replace h := (if_neg q_k2).symm.trans h
    refine WX.condF rfl k2 ?_
    refine WX.exit rfl ?_
    refine WX.keep [3] (WX.pk [] (by decide) ?_) rfl
    obtain rfl := Option.some.inj h
    exact hx0 _ hE _ _ _ ⟨hB, rfl, rfl⟩
theorem ext_List_Blocks_l0_ok {B0 : Kn} {L : Own} {n0 : Nat} {x6 : List (Int × Int)} {x3 : Int} {x8 : Int} {Q : AV → St → Prop} {d : Nat} {e : Int} (h : iter (fun (s : Int × Int) => ext_List_Blocks_l0 x6 s.1 s.2) d (x3, x8) = some e) (g0 : ∀ s, e = s → WXI Try.prog 18 n0 (Fin Try.prog Try.f26.results.toList n0 Q) [.code (ct [1, 1, 1] (bodyOf Try.f26))] (ext_List_Blocks_l0_X0 B0 s) L) : WXI Try.prog 18 n0 (Fin Try.prog Try.f26.results.toList n0 Q) [.code (ct [1, 1, 0, 1, 0, 0] (bodyOf Try.f26)), .lp (ct [1, 1, 0, 1, 0, 0] (bodyOf Try.f26)), .blk 0, .code (ct [1, 1, 1] (bodyOf Try.f26))] (ext_List_Blocks_l0_I B0 x6 x3 x8) L :=
  iter_ok (I := fun s => ext_List_Blocks_l0_I B0 x6 s.1 s.2) (D := fun e => (∀ s, e = s → WXI Try.prog 18 n0 (Fin Try.prog Try.f26.results.toList n0 Q) [.code (ct [1, 1, 1] (bodyOf Try.f26))] (ext_List_Blocks_l0_X0 B0 s) L)) (fun E hn hx s o ho hE => ext_List_Blocks_l0_s ho hn (fun s hs => (hx _ hs) _ rfl)  hE) h g0
theorem ext_List_Blocks_ok {B0 : Kn} {L : Own} {a0 : List (Int × Int)} {v0_0 : AV} {r : Int} (g0_0 : RSl EPIi64Ii64Q B0 v0_0 a0) (h : ext_List_Blocks a0 = some r) : ∀ st, Hp B0 L st → ASpec Try.prog 26 [v0_0] st (ext_List_Blocks_P B0 L r) := by
  unfold ext_List_Blocks at h
  refine bodyA (A := []) Try.func26 rfl (c := bodyOf Try.f26) rfl Try.ntmps26 (lb rfl) fun n0 => ?_
  have hB := KLe.refl B0
  obtain ⟨_, _, _, _, _, rfl⟩ := g0_0.isl
  refine WX.seq ?_
  refine WX.reg ?_
  refine WO.q (.as (v := .int _ _) rfl) rfl rfl ?_
  refine WO.nil ?_
  refine WX.seq ?_
  refine WX.reg ?_
  refine WO.q (.as (v := .int _ _) rfl) rfl rfl ?_
  refine WO.nil ?_
  refine WX.seq ?_
  refine WX.seq ?_
  refine WX.reg ?_
  refine WO.q (.mv (v := .sl _ _ _ _ _ _) rfl) rfl rfl ?_
  refine WO.q (.len rfl rfl rfl (sl44.len g0_0.isl)) rfl rfl ?_
  refine WO.q (.mv (v := .int _ _) rfl) rfl rfl ?_
  refine WO.nil ?_
  refine WX.block ?_
  refine WX.loop ?_
  obtain ⟨e5, he5, h⟩ := Option.bind_eq_some_iff.1 h
  refine WX.keep [3, 6, 7, 8] (WX.pk [] (by decide) ?_) rfl
  refine ext_List_Blocks_l0_ok he5 ?_ _ _ _ ⟨hB, _, g0_0, rfl, rfl⟩
  · intro s6 he_
    subst he_
    replace h := h
    rintro _ B _ ⟨hB, rfl, rfl⟩
    refine WX.seq ?_
    refine WX.reg ?_
    refine WO.q (.mv (v := .int _ _) rfl) rfl rfl ?_
    refine WO.q (.as (v := .int _ _) rfl) rfl rfl ?_
    refine WO.nil ?_
    obtain rfl := Option.some.inj h
    exact WX.ret (rs_ (rs_tmp rfl rs_nil)) fun st hp => ⟨(hp.pk [] (by decide)).le hB, rfl⟩
def ext_joins_P (B : Kn) (L : Own) (r : Bool) : AV → St → Prop := CS B L fun v => v = .bool r
def ext_joins_j1_I (B0 : Kn) (x12 : Bool) (zb2 : Int × Int) (zb3 : Int × Int) : Fr → Kn → Own → Prop := fun fr B A => KLe B0 B ∧ ∃ b4 b5, fr = [(2, .ptr b4 0), (3, .ptr b5 0), (12, .bool x12)] ∧ A = [(b4, some [.int .i64 zb2.1, .int .i64 zb2.2]), (b5, some [.int .i64 zb3.1, .int .i64 zb3.2])]
theorem ext_joins_j1_ok {B0 : Kn} {L : Own} {n0 : Nat} {x12 : Bool} {zb2 : Int × Int} {zb3 : Int × Int} {r : Bool} (h : ext_joins_j1 x12 zb2 zb3 = some r) : WXI Try.prog 26 n0 (Fin Try.prog Try.f74.results.toList n0 (ext_joins_P B0 L r)) [.code (ct [1, 0, 1] (bodyOf Try.f74)), .code (ct [1, 1] (bodyOf Try.f74))] (ext_joins_j1_I B0 x12 zb2 zb3) L := by
  unfold ext_joins_j1 at h
  rintro _ B _ ⟨hB, b4, b5, rfl, rfl⟩
  rcases bsp x12 with k6 | k6
  · replace h := (if_pos k6).symm.trans h
    refine WX.condT rfl k6 ?_
    refine WX.seq ?_
    refine WX.reg ?_
    refine WO.q (.fa (fa35_0 _ _)) rfl rfl ?_
    refine WO.q (.ldS (i := 0) rfl rfl rfl ti3 rfl) rfl rfl ?_
    refine WO.q (.fa (fa35_0 _ _)) rfl rfl ?_
    refine WO.q (.ldS (i := 1) rfl rfl rfl ti3 rfl) rfl rfl ?_
    refine WO.q (.r fun _ => rfl) rfl rfl ?_
    refine WO.q (.as (v := .bool _) rfl) rfl rfl ?_
    refine WO.nil ?_
    obtain rfl := Option.some.inj h
    exact WX.ret (rs_ (rs_tmp rfl rs_nil)) fun st hp => ⟨(hp.pk [] (by decide)).le hB, rfl⟩
  · replace h := (if_neg (bnt k6)).symm.trans h
    refine WX.condF rfl k6 ?_
    refine WX.skip ?_
    refine WX.seq ?_
    refine WX.reg ?_
    refine WO.q (.fa (fa35_0 _ _)) rfl rfl ?_
    refine WO.q (.ldS (i := 0) rfl rfl rfl ti3 rfl) rfl rfl ?_
    refine WO.q (.fa (fa35_1 _ _)) rfl rfl ?_
    refine WO.q (.ldS (i := 0) rfl rfl rfl ti3 rfl) rfl rfl ?_
    refine WO.q (.r fun _ => rfl) rfl rfl ?_
    refine WO.q (.fa (fa35_0 _ _)) rfl rfl ?_
    refine WO.q (.ldS (i := 1) rfl rfl rfl ti3 rfl) rfl rfl ?_
    refine WO.q (.r fun _ => rfl) rfl rfl ?_
    refine WO.q (.as (v := .bool _) rfl) rfl rfl ?_
    refine WO.nil ?_
    obtain rfl := Option.some.inj h
    exact WX.ret (rs_ (rs_tmp rfl rs_nil)) fun st hp => ⟨(hp.pk [] (by decide)).le hB, rfl⟩
theorem ext_joins_ok {B0 : Kn} {L : Own} {a0 : Int × Int} {a1 : Int × Int} {r : Bool} (h : ext_joins a0 a1 = some r) : ∀ st, Hp B0 L st → ASpec Try.prog 74 [.agg [.int .i64 a0.1, .int .i64 a0.2], .agg [.int .i64 a1.1, .int .i64 a1.2]] st (ext_joins_P B0 L r) := by
  unfold ext_joins at h
  refine bodyA (A := []) Try.func74 rfl (c := bodyOf Try.f74) rfl Try.ntmps74 (lb rfl) fun n0 => ?_
  have hB := KLe.refl B0
  refine WX.seq ?_
  refine WX.reg ?_
  refine WO.md (MOp.box (cA rfl)) rfl rfl ?_
  rintro _ _ ⟨b1, rfl, rfl⟩
  refine WO.md (MOp.box (cA rfl)) rfl rfl ?_
  rintro _ _ ⟨b2, rfl, rfl⟩
  refine WO.q (.as (v := .bool _) rfl) rfl rfl ?_
  refine WO.nil ?_
  refine WX.seq ?_
  refine WX.seq ?_
  refine WX.reg ?_
  refine WO.q (.fa (fa35_0 _ _)) rfl rfl ?_
  refine WO.q (.ldS (i := 1) rfl rfl rfl ti3 rfl) rfl rfl ?_
  refine WO.q (.r fun _ => rfl) rfl rfl ?_
  refine WO.q (.mv (v := .bool _) rfl) rfl rfl ?_
  rcases bsp (decide (a0.1 = (-1))) with k3 | k3
  · have q_k3 := of_decide_eq_true k3
    replace h := (if_pos q_k3).symm.trans h
    refine WO.sd (wg rfl rfl (gfn k3)) rfl ?_
    refine WO.sd (wg rfl rfl (gfn k3)) rfl ?_
    refine WO.sd (wg rfl rfl (gfn k3)) rfl ?_
    refine WO.q (.ptv (v := .bool _) rfl k3 rfl) rfl rfl ?_
    refine WO.nil ?_
    refine WX.keep [2, 3, 12] (WX.pk [1, 0] (by decide) ?_) rfl
    exact ext_joins_j1_ok h _ _ _ ⟨hB, _, _, rfl, rfl⟩
  · have q_k3 := of_decide_eq_false k3
    replace h := (if_neg q_k3).symm.trans h
    refine WO.q (.fa (fa35_0 _ _)) (wg rfl rfl (gf k3)) rfl ?_
    refine WO.q (.ldS (i := 0) rfl rfl rfl ti3 rfl) (wg rfl rfl (gf k3)) rfl ?_
    refine WO.q (.r fun _ => rfl) (wg rfl rfl (gf k3)) rfl ?_
    refine WO.q (.pfv (v := .bool _) rfl k3 rfl) rfl rfl ?_
    refine WO.nil ?_
    refine WX.keep [2, 3, 12] (WX.pk [1, 0] (by decide) ?_) rfl
    exact ext_joins_j1_ok h _ _ _ ⟨hB, _, _, rfl, rfl⟩
def ext_List_Right_P (B : Kn) (L : Own) (r : Bool) : AV → St → Prop := CS B L fun v => v = .bool r
def ext_List_Right_j6_I (B0 : Kn) (x0 : List (Int × Int)) (x3 : Int) (x6 : List (Int × Int)) (x8 : Int) (x43 : Bool) (zb5 : Int × Int) : Fr → Kn → Own → Prop := fun fr B A => KLe B0 B ∧ ∃ b7 v8 v9, RSl EPIi64Ii64Q B v8 x0 ∧ RSl EPIi64Ii64Q B v9 x6 ∧ fr = [(0, v8), (3, .int .i64 x3), (5, .ptr b7 0), (6, v9), (7, .int .i64 (x6.length : Int)), (8, .int .i64 x8), (43, .bool x43)] ∧ A = [(b7, some [.int .i64 zb5.1, .int .i64 zb5.2])]
def ext_List_Right_l0_I (B0 : Kn) (x0 : List (Int × Int)) (x6 : List (Int × Int)) (x3 : Int) (x8 : Int) : Fr → Kn → Own → Prop := fun fr B A => KLe B0 B ∧ ∃ v1 v2, RSl EPIi64Ii64Q B v1 x0 ∧ RSl EPIi64Ii64Q B v2 x6 ∧ fr = [(0, v1), (3, .int .i64 x3), (6, v2), (7, .int .i64 (x6.length : Int)), (8, .int .i64 x8)] ∧ A = []
def ext_List_Right_l0_X0 (B0 : Kn) (x0 : List (Int × Int)) (x3 : Int) : Fr → Kn → Own → Prop := fun fr B A => KLe B0 B ∧ ∃ v24, RSl EPIi64Ii64Q B v24 x0 ∧ fr = [(0, v24), (3, .int .i64 x3)] ∧ A = []
theorem ext_List_Right_j6_ok {B0 : Kn} {L : Own} {n0 : Nat} {x0 : List (Int × Int)} {x3 : Int} {x6 : List (Int × Int)} {x8 : Int} {x43 : Bool} {zb5 : Int × Int} {Q : AV → St → Prop} {E : (Int × Int) ⊕ (Bool ⊕ Int) → Prop} {o : (Int × Int) ⊕ (Bool ⊕ Int)} (h : ext_List_Right_j6 x0 x3 x6 x8 x43 zb5 = some o) (hn : ∀ s, E (.inl s) → WXI Try.prog 56 n0 (Fin Try.prog Try.f35.results.toList n0 Q) [.lp (ct [1, 1, 0, 1, 0, 0] (bodyOf Try.f35)), .blk 0, .code (ct [1, 1, 1] (bodyOf Try.f35))] (ext_List_Right_l0_I B0 x0 x6 s.1 s.2) L) (hx0 : ∀ s, E (.inr (.inr s)) → WXI Try.prog 56 n0 (Fin Try.prog Try.f35.results.toList n0 Q) [.code (ct [1, 1, 1] (bodyOf Try.f35))] (ext_List_Right_l0_X0 B0 x0 s) L) (hr : ∀ r, E (.inr (.inl r)) → ∀ v st, ext_List_Right_P B0 L r v st → Q v st) (hE : E o) : WXI Try.prog 56 n0 (Fin Try.prog Try.f35.results.toList n0 Q) [.code (ct [1, 1, 0, 1, 0, 0, 1, 1, 0, 0, 1, 0, 1] (bodyOf Try.f35)), .code (ct [1, 1, 0, 1, 0, 0, 1, 1, 0, 0, 1, 1] (bodyOf Try.f35)), .blk 1, .code (ct [1, 1, 0, 1, 0, 0, 1, 1, 1] (bodyOf Try.f35)), .lp (ct [1, 1, 0, 1, 0, 0] (bodyOf Try.f35)), .blk 0, .code (ct [1, 1, 1] (bodyOf Try.f35))] (ext_List_Right_j6_I B0 x0 x3 x6 x8 x43 zb5) L := by
  unfold ext_List_Right_j6 at h
  rintro _ B _ ⟨hB, b7, v8, v9, h8, h9, rfl, rfl⟩
  obtain ⟨_, _, _, _, _, rfl⟩ := h8.isl
  obtain ⟨_, _, _, _, _, rfl⟩ := h9.isl
  rcases bsp x43 with k10 | k10
  · replace h := (if_pos k10).symm.trans h
    refine WX.condT rfl k10 ?_
    refine WX.seq ?_
    refine WX.reg ?_
    refine WO.q (.as (v := .bool _) rfl) rfl rfl ?_
    refine WO.nil ?_
    obtain rfl := Option.some.inj h
    exact WX.ret (rs_ (rs_tmp rfl rs_nil)) fun st hp => hr _ hE _ _ ⟨(hp.pk [] (by decide)).le hB, rfl⟩
  · replace h := (if_neg (bnt k10)).symm.trans h
    refine WX.condF rfl k10 ?_
    refine WX.skip ?_
    refine WX.reg ?_
    refine WO.q (.mv (v := .int _ _) rfl) rfl rfl ?_
    refine WO.q (.fa (fa35_1 _ _)) rfl rfl ?_
    refine WO.q (.ldS (i := 0) rfl rfl rfl ti3 rfl) rfl rfl ?_
    refine WO.q (.r fun _ => rfl) rfl rfl ?_
    refine WO.q (.as (v := .int _ _) rfl) rfl rfl ?_
    refine WO.nil ?_
    refine WX.pop ?_
    refine WX.reg ?_
    refine WO.q (.r fun _ => rfl) rfl rfl ?_
    refine WO.q (.mv (v := .int _ _) rfl) rfl rfl ?_
    refine WO.nil ?_
    refine WX.keepL [0, 3, 6, 7, 8] (WX.pk [] (by decide) ?_) rfl
    obtain rfl := Option.some.inj h
    exact hn _ hE _ _ _ ⟨hB, _, _, h8, h9, rfl, rfl⟩
theorem ext_List_Right_l0_s {B0 : Kn} {L : Own} {n0 : Nat} {x0 : List (Int × Int)} {x6 : List (Int × Int)} {x3 : Int} {x8 : Int} {Q : AV → St → Prop} {E : (Int × Int) ⊕ (Bool ⊕ Int) → Prop} {o : (Int × Int) ⊕ (Bool ⊕ Int)} (h : ext_List_Right_l0 x0 x6 x3 x8 = some o) (hn : ∀ s, E (.inl s) → WXI Try.prog 56 n0 (Fin Try.prog Try.f35.results.toList n0 Q) [.lp (ct [1, 1, 0, 1, 0, 0] (bodyOf Try.f35)), .blk 0, .code (ct [1, 1, 1] (bodyOf Try.f35))] (ext_List_Right_l0_I B0 x0 x6 s.1 s.2) L) (hx0 : ∀ s, E (.inr (.inr s)) → WXI Try.prog 56 n0 (Fin Try.prog Try.f35.results.toList n0 Q) [.code (ct [1, 1, 1] (bodyOf Try.f35))] (ext_List_Right_l0_X0 B0 x0 s) L) (hr : ∀ r, E (.inr (.inl r)) → ∀ v st, ext_List_Right_P B0 L r v st → Q v st) (hE : E o) : WXI Try.prog 56 n0 (Fin Try.prog Try.f35.results.toList n0 Q) [.code (ct [1, 1, 0, 1, 0, 0] (bodyOf Try.f35)), .lp (ct [1, 1, 0, 1, 0, 0] (bodyOf Try.f35)), .blk 0, .code (ct [1, 1, 1] (bodyOf Try.f35))] (ext_List_Right_l0_I B0 x0 x6 x3 x8) L := by
  unfold ext_List_Right_l0 at h
  rintro _ B _ ⟨hB, v1, v2, h1, h2, rfl, rfl⟩
  obtain ⟨_, _, _, _, _, rfl⟩ := h1.isl
  obtain ⟨_, _, _, _, _, rfl⟩ := h2.isl
  refine WX.seq ?_
  refine WX.reg ?_
  refine WO.q (.r fun _ => rfl) rfl rfl ?_
  refine WO.nil ?_
  refine WX.seq ?_
  rcases bsp (decide (x8 < (x6.length : Int))) with k3 | k3
  · have q_k3 := of_decide_eq_true k3
    replace h := (if_pos q_k3).symm.trans h
    refine WX.condT rfl k3 ?_
    refine WX.skip ?_
    refine WX.seq ?_
    refine WX.block ?_
    refine WX.seq ?_
    refine WX.reg ?_
    refine WO.q (.mv (v := .int _ _) rfl) rfl rfl ?_
    obtain ⟨y4, hy4, h⟩ := Option.bind_eq_some_iff.1 h
    obtain ⟨b_y4, o_y4, _, i_y4, p_y4, r_y4⟩ := h2.at sl44 hy4 .i64
    obtain ⟨_, _, rfl, rfl, rfl⟩ := r_y4
    refine WO.q (.ia i_y4) rfl rfl ?_
    refine WO.q (.lpA rfl p_y4 ti35 rfl rfl) rfl rfl ?_
    refine WO.md (MOp.alloc ti35 rfl) rfl rfl ?_
    rintro _ _ ⟨b5, rfl, rfl⟩
    refine WO.q (.as (v := .int _ _) rfl) rfl rfl ?_
    refine WO.mn (MOp.storeW rfl (cA rfl) .h ti35 rfl rfl rfl) rfl ?_
    rintro _ _ rfl
    refine WO.nil ?_
    refine WX.seq ?_
    refine WX.seq ?_
    refine WX.drw (Plan.of [0, 1, 2, 3, 4, 5, 6, 7, 8, 9, 10, 11, 12, 13, 14, 15, 16, 17, 18, 19, 20, 21, 22, 23, 24, 25, 26, 27, 28, 29, 30] .nil) _ mixed (by kernel_rfl) rfl (pk_sub [0]) ?_
    refine WP.q (i := 0) rfl (.fa (fa35_1 _ _)) rfl rfl rfl ?_
    refine WP.q (i := 1) rfl (.ldS (i := 0) rfl rfl rfl ti3 rfl) rfl rfl rfl ?_
    refine WP.q (i := 2) rfl (.r fun _ => rfl) rfl rfl rfl ?_
    refine WP.q (i := 3) rfl (.mv (v := .bool _) rfl) rfl rfl rfl ?_
    rcases bsp (decide (y4.2 < 1)) with k6 | k6
    · have q_k6 := of_decide_eq_true k6
      replace h := (if_pos q_k6).symm.trans h
      refine WP.sk (i := 4) rfl rfl (wg rfl rfl (gfn k6)) rfl ?_
      refine WP.sk (i := 5) rfl rfl (wg rfl rfl (gfn k6)) rfl ?_
      refine WP.sk (i := 6) rfl rfl (wg rfl rfl (gfn k6)) rfl ?_
      refine WP.q (i := 7) rfl (.ptv (v := .bool _) rfl k6 rfl) rfl rfl rfl ?_
      refine WP.q (i := 8) rfl (.mv (v := .bool _) rfl) rfl rfl rfl ?_
      refine WP.sk (i := 9) rfl rfl (wg rfl rfl (gfn rfl)) rfl ?_
      refine WP.sk (i := 10) rfl rfl (wg rfl rfl (gfn rfl)) rfl ?_
      refine WP.sk (i := 11) rfl rfl (wg rfl rfl (gfn rfl)) rfl ?_
      refine WP.q (i := 12) rfl (.ptv (v := .bool _) rfl rfl rfl) rfl rfl rfl ?_
      refine WP.q (i := 13) rfl (.mv (v := .bool _) rfl) rfl rfl rfl ?_
      refine WP.sk (i := 14) rfl rfl (wg rfl rfl (gfn rfl)) rfl ?_
      refine WP.sk (i := 15) rfl rfl (wg rfl rfl (gfn rfl)) rfl ?_
      refine WP.sk (i := 16) rfl rfl (wg rfl rfl (gfn rfl)) rfl ?_
      refine WP.q (i := 17) rfl (.ptv (v := .bool _) rfl rfl rfl) rfl rfl rfl ?_
      refine WP.q (i := 18) rfl (.mv (v := .bool _) rfl) rfl rfl rfl ?_
      refine WP.sk (i := 19) rfl rfl (wg rfl rfl (gfn rfl)) rfl ?_
      refine WP.sk (i := 20) rfl rfl (wg rfl rfl (gfn rfl)) rfl ?_
      refine WP.sk (i := 21) rfl rfl (wg rfl rfl (gfn rfl)) rfl ?_
      refine WP.sk (i := 22) rfl rfl (wgu rfl rfl) rfl ?_
      refine WP.sk (i := 23) rfl rfl (wgu rfl rfl) rfl ?_
      refine WP.sk (i := 24) rfl rfl (wgu rfl rfl) rfl ?_
      refine WP.sk (i := 25) rfl rfl (wgu rfl rfl) rfl ?_
      refine WP.sk (i := 26) rfl rfl (wgu rfl rfl) rfl ?_
      refine WP.sk (i := 27) rfl rfl (wgu rfl rfl) rfl ?_
      refine WP.sd (i := 28) rfl rfl (wgu rfl rfl) rfl ?_
      refine WP.sk (i := 29) rfl rfl (wg rfl rfl (gfn rfl)) rfl ?_
      refine WP.q (i := 30) rfl (.ptv (v := .bool _) rfl rfl rfl) rfl rfl rfl ?_
      refine WP.nil ?_
      refine WX.keep [0, 3, 5, 6, 7, 8, 43] (WX.pk [0] (by decide) ?_) rfl
      exact ext_List_Right_j6_ok h hn hx0 hr hE _ _ _ ⟨hB, _, _, _, h1, h2, rfl, rfl⟩
    · have q_k6 := of_decide_eq_false k6
      replace h := (if_neg q_k6).symm.trans h
      refine WP.q (i := 4) rfl (.fa (fa35_1 _ _)) rfl (wg rfl rfl (gf k6)) rfl ?_
      refine WP.q (i := 5) rfl (.ldS (i := 0) rfl rfl rfl ti3 rfl) rfl (wg rfl rfl (gf k6)) rfl ?_
      refine WP.q (i := 6) rfl (.r fun _ => rfl) rfl (wg rfl rfl (gf k6)) rfl ?_
      refine WP.q (i := 7) rfl (.pfv (v := .bool _) rfl k6 rfl) rfl rfl rfl ?_
      refine WP.q (i := 8) rfl (.mv (v := .bool _) rfl) rfl rfl rfl ?_
      rcases bsp (decide (65536 < y4.2)) with k11 | k11
      · have q_k11 := of_decide_eq_true k11
        replace h := (if_pos q_k11).symm.trans h
        refine WP.sk (i := 9) rfl rfl (wg rfl rfl (gfn k11)) rfl ?_
        refine WP.sk (i := 10) rfl rfl (wg rfl rfl (gfn k11)) rfl ?_
        refine WP.sk (i := 11) rfl rfl (wg rfl rfl (gfn k11)) rfl ?_
        refine WP.q (i := 12) rfl (.ptv (v := .bool _) rfl k11 rfl) rfl rfl rfl ?_
        refine WP.q (i := 13) rfl (.mv (v := .bool _) rfl) rfl rfl rfl ?_
        refine WP.sk (i := 14) rfl rfl (wg rfl rfl (gfn rfl)) rfl ?_
        refine WP.sk (i := 15) rfl rfl (wg rfl rfl (gfn rfl)) rfl ?_
        refine WP.sk (i := 16) rfl rfl (wg rfl rfl (gfn rfl)) rfl ?_
        refine WP.q (i := 17) rfl (.ptv (v := .bool _) rfl rfl rfl) rfl rfl rfl ?_
        refine WP.q (i := 18) rfl (.mv (v := .bool _) rfl) rfl rfl rfl ?_
        refine WP.sk (i := 19) rfl rfl (wg rfl rfl (gfn rfl)) rfl ?_
        refine WP.sk (i := 20) rfl rfl (wg rfl rfl (gfn rfl)) rfl ?_
        refine WP.sk (i := 21) rfl rfl (wg rfl rfl (gfn rfl)) rfl ?_
        refine WP.sk (i := 22) rfl rfl (wgu rfl rfl) rfl ?_
        refine WP.sk (i := 23) rfl rfl (wgu rfl rfl) rfl ?_
        refine WP.sk (i := 24) rfl rfl (wgu rfl rfl) rfl ?_
        refine WP.sk (i := 25) rfl rfl (wgu rfl rfl) rfl ?_
        refine WP.sk (i := 26) rfl rfl (wgu rfl rfl) rfl ?_
        refine WP.sk (i := 27) rfl rfl (wgu rfl rfl) rfl ?_
        refine WP.sd (i := 28) rfl rfl (wgu rfl rfl) rfl ?_
        refine WP.sk (i := 29) rfl rfl (wg rfl rfl (gfn rfl)) rfl ?_
        refine WP.q (i := 30) rfl (.ptv (v := .bool _) rfl rfl rfl) rfl rfl rfl ?_
        refine WP.nil ?_
        refine WX.keep [0, 3, 5, 6, 7, 8, 43] (WX.pk [0] (by decide) ?_) rfl
        exact ext_List_Right_j6_ok h hn hx0 hr hE _ _ _ ⟨hB, _, _, _, h1, h2, rfl, rfl⟩
      · have q_k11 := of_decide_eq_false k11
        replace h := (if_neg q_k11).symm.trans h
        refine WP.q (i := 9) rfl (.fa (fa35_0 _ _)) rfl (wg rfl rfl (gf k11)) rfl ?_
        refine WP.q (i := 10) rfl (.ldS (i := 0) rfl rfl rfl ti3 rfl) rfl (wg rfl rfl (gf k11)) rfl ?_
        refine WP.q (i := 11) rfl (.r fun _ => rfl) rfl (wg rfl rfl (gf k11)) rfl ?_
        refine WP.q (i := 12) rfl (.pfv (v := .bool _) rfl k11 rfl) rfl rfl rfl ?_
        refine WP.q (i := 13) rfl (.mv (v := .bool _) rfl) rfl rfl rfl ?_
        rcases bsp (decide (y4.1 < (-1))) with k12 | k12
        · have q_k12 := of_decide_eq_true k12
          replace h := (if_pos q_k12).symm.trans h
          refine WP.sk (i := 14) rfl rfl (wg rfl rfl (gfn k12)) rfl ?_
          refine WP.sk (i := 15) rfl rfl (wg rfl rfl (gfn k12)) rfl ?_
          refine WP.sk (i := 16) rfl rfl (wg rfl rfl (gfn k12)) rfl ?_
          refine WP.q (i := 17) rfl (.ptv (v := .bool _) rfl k12 rfl) rfl rfl rfl ?_
          refine WP.q (i := 18) rfl (.mv (v := .bool _) rfl) rfl rfl rfl ?_
          refine WP.sk (i := 19) rfl rfl (wg rfl rfl (gfn rfl)) rfl ?_
          refine WP.sk (i := 20) rfl rfl (wg rfl rfl (gfn rfl)) rfl ?_
          refine WP.sk (i := 21) rfl rfl (wg rfl rfl (gfn rfl)) rfl ?_
          refine WP.sk (i := 22) rfl rfl (wgu rfl rfl) rfl ?_
          refine WP.sk (i := 23) rfl rfl (wgu rfl rfl) rfl ?_
          refine WP.sk (i := 24) rfl rfl (wgu rfl rfl) rfl ?_
          refine WP.sk (i := 25) rfl rfl (wgu rfl rfl) rfl ?_
          refine WP.sk (i := 26) rfl rfl (wgu rfl rfl) rfl ?_
          refine WP.sk (i := 27) rfl rfl (wgu rfl rfl) rfl ?_
          refine WP.sd (i := 28) rfl rfl (wgu rfl rfl) rfl ?_
          refine WP.sk (i := 29) rfl rfl (wg rfl rfl (gfn rfl)) rfl ?_
          refine WP.q (i := 30) rfl (.ptv (v := .bool _) rfl rfl rfl) rfl rfl rfl ?_
          refine WP.nil ?_
          refine WX.keep [0, 3, 5, 6, 7, 8, 43] (WX.pk [0] (by decide) ?_) rfl
          exact ext_List_Right_j6_ok h hn hx0 hr hE _ _ _ ⟨hB, _, _, _, h1, h2, rfl, rfl⟩
        · have q_k12 := of_decide_eq_false k12
          replace h := (if_neg q_k12).symm.trans h
          refine WP.q (i := 14) rfl (.fa (fa35_0 _ _)) rfl (wg rfl rfl (gf k12)) rfl ?_
          refine WP.q (i := 15) rfl (.ldS (i := 0) rfl rfl rfl ti3 rfl) rfl (wg rfl rfl (gf k12)) rfl ?_
          refine WP.q (i := 16) rfl (.r fun _ => rfl) rfl (wg rfl rfl (gf k12)) rfl ?_
          refine WP.q (i := 17) rfl (.pfv (v := .bool _) rfl k12 rfl) rfl rfl rfl ?_
          refine WP.q (i := 18) rfl (.mv (v := .bool _) rfl) rfl rfl rfl ?_
          rcases bsp (decide (65536 < y4.1)) with k13 | k13
          · have q_k13 := of_decide_eq_true k13
            replace h := (if_pos q_k13).symm.trans h
            refine WP.sk (i := 19) rfl rfl (wg rfl rfl (gfn k13)) rfl ?_
            refine WP.sk (i := 20) rfl rfl (wg rfl rfl (gfn k13)) rfl ?_
            refine WP.sk (i := 21) rfl rfl (wg rfl rfl (gfn k13)) rfl ?_
            refine WP.sk (i := 22) rfl rfl (wgu rfl rfl) rfl ?_
            refine WP.sk (i := 23) rfl rfl (wgu rfl rfl) rfl ?_
            refine WP.sk (i := 24) rfl rfl (wgu rfl rfl) rfl ?_
            refine WP.sk (i := 25) rfl rfl (wgu rfl rfl) rfl ?_
            refine WP.sk (i := 26) rfl rfl (wgu rfl rfl) rfl ?_
            refine WP.sk (i := 27) rfl rfl (wgu rfl rfl) rfl ?_
            refine WP.sd (i := 28) rfl rfl (wgu rfl rfl) rfl ?_
            refine WP.sk (i := 29) rfl rfl (wg rfl rfl (gfn k13)) rfl ?_
            refine WP.q (i := 30) rfl (.ptv (v := .bool _) rfl k13 rfl) rfl rfl rfl ?_
            refine WP.nil ?_
            refine WX.keep [0, 3, 5, 6, 7, 8, 43] (WX.pk [0] (by decide) ?_) rfl
            exact ext_List_Right_j6_ok h hn hx0 hr hE _ _ _ ⟨hB, _, _, _, h1, h2, rfl, rfl⟩
          · have q_k13 := of_decide_eq_false k13
            replace h := (if_neg q_k13).symm.trans h
            refine WP.q (i := 19) rfl (.mv (v := .int _ _) rfl) rfl (wg rfl rfl (gf k13)) rfl ?_
            refine WP.q (i := 20) rfl (.r fun _ => rfl) rfl (wg rfl rfl (gf k13)) rfl ?_
            refine WP.q (i := 21) rfl (.mv (v := .bool _) rfl) rfl (wg rfl rfl (gf k13)) rfl ?_
            rcases bsp (decide (0 < x8)) with k14 | k14
            · have q_k14 := of_decide_eq_true k14
              replace h := (if_pos q_k14).symm.trans h
              refine WP.q (i := 22) rfl (.mv (v := .sl _ _ _ _ _ _) rfl) rfl (wg rfl rfl (gt k14)) rfl ?_
              refine WP.q (i := 23) rfl (.mv (v := .int _ _) rfl) rfl (wg rfl rfl (gt k14)) rfl ?_
              refine WP.q (i := 24) rfl (.r fun _ => rfl) rfl (wg rfl rfl (gt k14)) rfl ?_
              obtain ⟨y15, hy15, h⟩ := Option.bind_eq_some_iff.1 h
              obtain ⟨b_y15, o_y15, _, i_y15, p_y15, r_y15⟩ := h1.at sl44 hy15 .i64
              obtain ⟨_, _, rfl, rfl, rfl⟩ := r_y15
              refine WP.q (i := 25) rfl (.ia i_y15) rfl (wg rfl rfl (gt k14)) rfl ?_
              refine WP.q (i := 26) rfl (.lpA rfl p_y15 ti35 rfl rfl) rfl (wg rfl rfl (gt k14)) rfl ?_
              refine WP.q (i := 27) rfl (.ldA (i := 0) rfl rfl rfl ti35 rfl) rfl (wg rfl rfl (gt k14)) rfl ?_
              obtain ⟨y16, hy16, h⟩ := Option.bind_eq_some_iff.1 h
              refine WP.cS (i := 28) rfl rfl rfl (ext_joins_ok hy16) rfl (wg rfl rfl (gt k14)) rfl ?_
              rintro _ rfl
              refine WP.q (i := 29) rfl (.ptv (v := .bool _) rfl k14 rfl) rfl (wg rfl rfl (gf k13)) rfl ?_
              refine WP.q (i := 30) rfl (.pfv (v := .bool _) rfl k13 rfl) rfl rfl rfl ?_
              refine WP.nil ?_
              refine WX.keep [0, 3, 5, 6, 7, 8, 43] (WX.pk [0] (by decide) ?_) rfl
              exact ext_List_Right_j6_ok h hn hx0 hr hE _ _ _ ⟨hB, _, _, _, h1, h2, rfl, rfl⟩
            · have q_k14 := of_decide_eq_false k14
              replace h := (if_neg q_k14).symm.trans h
              refine WP.sk (i := 22) rfl rfl (wg rfl rfl (gtn k14)) rfl ?_
              refine WP.sk (i := 23) rfl rfl (wg rfl rfl (gtn k14)) rfl ?_
              refine WP.sk (i := 24) rfl rfl (wg rfl rfl (gtn k14)) rfl ?_
              refine WP.sk (i := 25) rfl rfl (wg rfl rfl (gtn k14)) rfl ?_
              refine WP.sk (i := 26) rfl rfl (wg rfl rfl (gtn k14)) rfl ?_
              refine WP.sk (i := 27) rfl rfl (wg rfl rfl (gtn k14)) rfl ?_
              refine WP.sd (i := 28) rfl rfl (wg rfl rfl (gtn k14)) rfl ?_
              refine WP.q (i := 29) rfl (.pfv (v := .bool _) rfl k14 rfl) rfl (wg rfl rfl (gf k13)) rfl ?_
              refine WP.q (i := 30) rfl (.pfv (v := .bool _) rfl k13 rfl) rfl rfl rfl ?_
              refine WP.nil ?_
              refine WX.keep [0, 3, 5, 6, 7, 8, 43] (WX.pk [0] (by decide) ?_) rfl
              exact ext_List_Right_j6_ok h hn hx0 hr hE _ _ _ ⟨hB, _, _, _, h1, h2, rfl, rfl⟩
  · have q_k3 := of_decide_eq_false k3
    replace h := (if_neg q_k3).symm.trans h
    refine WX.condF rfl k3 ?_
    refine WX.exit rfl ?_
    refine WX.keep [0, 3] (WX.pk [] (by decide) ?_) rfl
    obtain rfl := Option.some.inj h
    exact hx0 _ hE _ _ _ ⟨hB, _, h1, rfl, rfl⟩
theorem ext_List_Right_l0_ok {B0 : Kn} {L : Own} {n0 : Nat} {x0 : List (Int × Int)} {x6 : List (Int × Int)} {x3 : Int} {x8 : Int} {Q : AV → St → Prop} {d : Nat} {e : Bool ⊕ Int} (h : iter (fun (s : Int × Int) => ext_List_Right_l0 x0 x6 s.1 s.2) d (x3, x8) = some e) (g0 : ∀ r, e = (.inl r) → ∀ v st, ext_List_Right_P B0 L r v st → Q v st) (g1 : ∀ s, e = (.inr s) → WXI Try.prog 56 n0 (Fin Try.prog Try.f35.results.toList n0 Q) [.code (ct [1, 1, 1] (bodyOf Try.f35))] (ext_List_Right_l0_X0 B0 x0 s) L) : WXI Try.prog 56 n0 (Fin Try.prog Try.f35.results.toList n0 Q) [.code (ct [1, 1, 0, 1, 0, 0] (bodyOf Try.f35)), .lp (ct [1, 1, 0, 1, 0, 0] (bodyOf Try.f35)), .blk 0, .code (ct [1, 1, 1] (bodyOf Try.f35))] (ext_List_Right_l0_I B0 x0 x6 x3 x8) L :=
  iter_ok (I := fun s => ext_List_Right_l0_I B0 x0 x6 s.1 s.2) (D := fun e => (∀ r, e = (.inl r) → ∀ v st, ext_List_Right_P B0 L r v st → Q v st) ∧ (∀ s, e = (.inr s) → WXI Try.prog 56 n0 (Fin Try.prog Try.f35.results.toList n0 Q) [.code (ct [1, 1, 1] (bodyOf Try.f35))] (ext_List_Right_l0_X0 B0 x0 s) L)) (fun E hn hx s o ho hE => ext_List_Right_l0_s ho hn (fun s hs => (hx _ hs).2 _ rfl) (fun r hs => (hx _ hs).1 _ rfl) hE) h ⟨g0, g1⟩
theorem ext_List_Right_ok {B0 : Kn} {L : Own} {a0 : List (Int × Int)} {v0_0 : AV} {r : Bool} (g0_0 : RSl EPIi64Ii64Q B0 v0_0 a0) (h : ext_List_Right a0 = some r) : ∀ st, Hp B0 L st → ASpec Try.prog 35 [v0_0] st (ext_List_Right_P B0 L r) := by
  unfold ext_List_Right at h
  refine bodyA (A := []) Try.func35 rfl (c := bodyOf Try.f35) rfl Try.ntmps35 (lb rfl) fun n0 => ?_
  have hB := KLe.refl B0
  obtain ⟨_, _, _, _, _, rfl⟩ := g0_0.isl
  refine WX.seq ?_
  refine WX.reg ?_
  refine WO.q (.as (v := .bool _) rfl) rfl rfl ?_
  refine WO.nil ?_
  refine WX.seq ?_
  refine WX.reg ?_
  refine WO.q (.as (v := .int _ _) rfl) rfl rfl ?_
  refine WO.nil ?_
  refine WX.seq ?_
  refine WX.seq ?_
  refine WX.reg ?_
  refine WO.q (.mv (v := .sl _ _ _ _ _ _) rfl) rfl rfl ?_
  refine WO.q (.len rfl rfl rfl (sl44.len g0_0.isl)) rfl rfl ?_
  refine WO.q (.mv (v := .int _ _) rfl) rfl rfl ?_
  refine WO.nil ?_
  refine WX.block ?_
  refine WX.loop ?_
  obtain ⟨e18, he18, h⟩ := Option.bind_eq_some_iff.1 h
  refine WX.keep [0, 3, 6, 7, 8] (WX.pk [] (by decide) ?_) rfl
  refine ext_List_Right_l0_ok he18 ?_ ?_ _ _ _ ⟨hB, _, _, g0_0, g0_0, rfl, rfl⟩
  · intro r20 he_
    subst he_
    replace h := (on_l h)
    obtain rfl := Option.some.inj h
    exact fun v st hp => hp
  · intro x21 he_
    subst he_
    replace h := (on_r h)
    rintro _ B _ ⟨hB, v22, h22, rfl, rfl⟩
    obtain ⟨_, _, _, _, _, rfl⟩ := h22.isl
    refine WX.seq ?_
    refine WX.reg ?_
    refine WO.q (.mv (v := .sl _ _ _ _ _ _) rfl) rfl rfl ?_
    refine WO.q (.len rfl rfl rfl (sl44.len h22.isl)) rfl rfl ?_
    refine WO.q (.r fun _ => rfl) rfl rfl ?_
    refine WO.q (.mv (v := .bool _) rfl) rfl rfl ?_
    rcases bsp (decide ((a0.length : Int) ≤ 64)) with k23 | k23
    · have q_k23 := of_decide_eq_true k23
      replace h := (if_pos q_k23).symm.trans h
      refine WO.q (.mv (v := .int _ _) rfl) (wg rfl rfl (gt k23)) rfl ?_
      refine WO.q (.r fun _ => rfl) (wg rfl rfl (gt k23)) rfl ?_
      refine WO.q (.ptv (v := .bool _) rfl k23 rfl) rfl rfl ?_
      refine WO.q (.as (v := .bool _) rfl) rfl rfl ?_
      refine WO.nil ?_
      obtain rfl := Option.some.inj h
      exact WX.ret (rs_ (rs_tmp rfl rs_nil)) fun st hp => ⟨(hp.pk [] (by decide)).le hB, rfl⟩
    · have q_k23 := of_decide_eq_false k23
      replace h := (if_neg q_k23).symm.trans h
      refine WO.sd (wg rfl rfl (gtn k23)) rfl ?_
      refine WO.sd (wg rfl rfl (gtn k23)) rfl ?_
      refine WO.q (.pfv (v := .bool _) rfl k23 rfl) rfl rfl ?_
      refine WO.q (.as (v := .bool _) rfl) rfl rfl ?_
      refine WO.nil ?_
      obtain rfl := Option.some.inj h
      exact WX.ret (rs_ (rs_tmp rfl rs_nil)) fun st hp => ⟨(hp.pk [] (by decide)).le hB, rfl⟩
def ext_together_P (B : Kn) (L : Own) (r : (List (Int × Int))) : AV → St → Prop := C1 B L fun B' v e0 => ∃ w0 b0 n0 c0, v = w0 ∧ e0 = oe b0 n0 c0 ∧ OSl EPIi64Ii64Q B' w0 b0 n0 c0 r
def ext_together_j12_I (B0 : Kn) (x3 : List (Int × Int)) (x9 : List (List (Int × Int))) (x11 : Int) (x15 : List (Int × Int)) (x17 : Int) : Fr → Kn → Own → Prop := fun fr B A => KLe B0 B ∧ ∃ v24 b24 n24 c24 v25 v26, OSl EPIi64Ii64Q B v24 b24 n24 c24 x3 ∧ RSl ELPIi64Ii64Q B v25 x9 ∧ RSl EPIi64Ii64Q B v26 x15 ∧ fr = [(3, v24), (9, v25), (10, .int .i64 (x9.length : Int)), (11, .int .i64 x11), (15, v26), (16, .int .i64 (x15.length : Int)), (17, .int .i64 x17)] ∧ A = [oe b24 n24 c24]
def ext_together_j11_I (B0 : Kn) (x3 : List (Int × Int)) (x8 : Int) (x9 : List (List (Int × Int))) (x11 : Int) (x15 : List (Int × Int)) (x17 : Int) (x33 : Bool) (zb7 : Int × Int) : Fr → Kn → Own → Prop := fun fr B A => KLe B0 B ∧ ∃ b15 v16 b16 n16 c16 v17 v18, OSl EPIi64Ii64Q B v16 b16 n16 c16 x3 ∧ RSl ELPIi64Ii64Q B v17 x9 ∧ RSl EPIi64Ii64Q B v18 x15 ∧ fr = [(3, v16), (7, .ptr b15 0), (8, .int .i64 x8), (9, v17), (10, .int .i64 (x9.length : Int)), (11, .int .i64 x11), (15, v18), (16, .int .i64 (x15.length : Int)), (17, .int .i64 x17), (33, .bool x33)] ∧ A = [(b15, some [.int .i64 zb7.1, .int .i64 zb7.2]), oe b16 n16 c16]
def ext_together_l1_I (B0 : Kn) (x9 : List (List (Int × Int))) (x15 : List (Int × Int)) (x3 : List (Int × Int)) (x11 : Int) (x17 : Int) : Fr → Kn → Own → Prop := fun fr B A => KLe B0 B ∧ ∃ v6 b6 n6 c6 v7 v8, OSl EPIi64Ii64Q B v6 b6 n6 c6 x3 ∧ RSl ELPIi64Ii64Q B v7 x9 ∧ RSl EPIi64Ii64Q B v8 x15 ∧ fr = [(3, v6), (9, v7), (10, .int .i64 (x9.length : Int)), (11, .int .i64 x11), (15, v8), (16, .int .i64 (x15.length : Int)), (17, .int .i64 x17)] ∧ A = [oe b6 n6 c6]
def ext_together_l1_X0 (B0 : Kn) (x3 : List (Int × Int)) (x9 : List (List (Int × Int))) (x11 : Int) : Fr → Kn → Own → Prop := fun fr B A => KLe B0 B ∧ ∃ v46 b46 n46 c46 v47, OSl EPIi64Ii64Q B v46 b46 n46 c46 x3 ∧ RSl ELPIi64Ii64Q B v47 x9 ∧ fr = [(3, v46), (9, v47), (10, .int .i64 (x9.length : Int)), (11, .int .i64 x11)] ∧ A = [oe b46 n46 c46]
def ext_together_l0_I (B0 : Kn) (x9 : List (List (Int × Int))) (x3 : List (Int × Int)) (x11 : Int) : Fr → Kn → Own → Prop := fun fr B A => KLe B0 B ∧ ∃ v1 b1 n1 c1 v2, OSl EPIi64Ii64Q B v1 b1 n1 c1 x3 ∧ RSl ELPIi64Ii64Q B v2 x9 ∧ fr = [(3, v1), (9, v2), (10, .int .i64 (x9.length : Int)), (11, .int .i64 x11)] ∧ A = [oe b1 n1 c1]
def ext_together_l0_X0 (B0 : Kn) (x3 : List (Int × Int)) : Fr → Kn → Own → Prop := fun fr B A => KLe B0 B ∧ ∃ v48 b48 n48 c48, OSl EPIi64Ii64Q B v48 b48 n48 c48 x3 ∧ fr = [(3, v48)] ∧ A = [oe b48 n48 c48]
theorem ext_together_j12_ok {B0 : Kn} {L : Own} {n0 : Nat} {x3 : List (Int × Int)} {x9 : List (List (Int × Int))} {x11 : Int} {x15 : List (Int × Int)} {x17 : Int} {Q : AV → St → Prop} {E : ((List (Int × Int)) × Int × Int) ⊕ ((List (Int × Int)) × Int) → Prop} {o : ((List (Int × Int)) × Int × Int) ⊕ ((List (Int × Int)) × Int)} (h : ext_together_j12 x3 x9 x11 x15 x17 = some o) (hn : ∀ s, E (.inl s) → WXI Try.prog 51 n0 (Fin Try.prog Try.f70.results.toList n0 Q) [.lp (ct [1, 1, 0, 1, 0, 0, 1, 1, 0, 0, 1, 1, 0, 0] (bodyOf Try.f70)), .blk 2, .blk 1, .code (ct [1, 1, 0, 1, 0, 0, 1, 1, 1] (bodyOf Try.f70)), .lp (ct [1, 1, 0, 1, 0, 0] (bodyOf Try.f70)), .blk 0, .code (ct [1, 1, 1] (bodyOf Try.f70))] (ext_together_l1_I B0 x9 x15 s.1 s.2.1 s.2.2) L) (hx0 : ∀ s, E (.inr s) → WXI Try.prog 51 n0 (Fin Try.prog Try.f70.results.toList n0 Q) [.code (ct [1, 1, 0, 1, 0, 0, 1, 1, 1] (bodyOf Try.f70)), .lp (ct [1, 1, 0, 1, 0, 0] (bodyOf Try.f70)), .blk 0, .code (ct [1, 1, 1] (bodyOf Try.f70))] (ext_together_l1_X0 B0 s.1 x9 s.2) L) (hE : E o) : WXI Try.prog 51 n0 (Fin Try.prog Try.f70.results.toList n0 Q) [.code (ct [1, 1, 0, 1, 0, 0, 1, 1, 0, 0, 1, 1, 0, 0, 1, 1, 1] (bodyOf Try.f70)), .lp (ct [1, 1, 0, 1, 0, 0, 1, 1, 0, 0, 1, 1, 0, 0] (bodyOf Try.f70)), .blk 2, .blk 1, .code (ct [1, 1, 0, 1, 0, 0, 1, 1, 1] (bodyOf Try.f70)), .lp (ct [1, 1, 0, 1, 0, 0] (bodyOf Try.f70)), .blk 0, .code (ct [1, 1, 1] (bodyOf Try.f70))] (ext_together_j12_I B0 x3 x9 x11 x15 x17) L := by
  unfold ext_together_j12 at h
  rintro _ B _ ⟨hB, v24, b24, n24, c24, v25, v26, h24, h25, h26, rfl, rfl⟩
  obtain ⟨_, _, _, _, _, rfl⟩ := h24.isl
  obtain ⟨_, _, _, _, _, rfl⟩ := h25.isl
  obtain ⟨_, _, _, _, _, rfl⟩ := h26.isl
  refine WX.reg ?_
  refine WO.q (.r fun _ => rfl) rfl rfl ?_
  refine WO.q (.mv (v := .int _ _) rfl) rfl rfl ?_
  refine WO.nil ?_
  refine WX.keepL [3, 9, 10, 11, 15, 16, 17] (WX.pk [0] (by decide) ?_) rfl
  obtain rfl := Option.some.inj h
  exact hn _ hE _ _ _ ⟨hB, _, _, n24, _, _, _, h24, h25, h26, rfl, rfl⟩
theorem ext_together_j11_ok {B0 : Kn} {L : Own} {n0 : Nat} {x3 : List (Int × Int)} {x8 : Int} {x9 : List (List (Int × Int))} {x11 : Int} {x15 : List (Int × Int)} {x17 : Int} {x33 : Bool} {zb7 : Int × Int} {Q : AV → St → Prop} {E : ((List (Int × Int)) × Int × Int) ⊕ ((List (Int × Int)) × Int) → Prop} {o : ((List (Int × Int)) × Int × Int) ⊕ ((List (Int × Int)) × Int)} (h : ext_together_j11 x3 x8 x9 x11 x15 x17 x33 zb7 = some o) (hn : ∀ s, E (.inl s) → WXI Try.prog 51 n0 (Fin Try.prog Try.f70.results.toList n0 Q) [.lp (ct [1, 1, 0, 1, 0, 0, 1, 1, 0, 0, 1, 1, 0, 0] (bodyOf Try.f70)), .blk 2, .blk 1, .code (ct [1, 1, 0, 1, 0, 0, 1, 1, 1] (bodyOf Try.f70)), .lp (ct [1, 1, 0, 1, 0, 0] (bodyOf Try.f70)), .blk 0, .code (ct [1, 1, 1] (bodyOf Try.f70))] (ext_together_l1_I B0 x9 x15 s.1 s.2.1 s.2.2) L) (hx0 : ∀ s, E (.inr s) → WXI Try.prog 51 n0 (Fin Try.prog Try.f70.results.toList n0 Q) [.code (ct [1, 1, 0, 1, 0, 0, 1, 1, 1] (bodyOf Try.f70)), .lp (ct [1, 1, 0, 1, 0, 0] (bodyOf Try.f70)), .blk 0, .code (ct [1, 1, 1] (bodyOf Try.f70))] (ext_together_l1_X0 B0 s.1 x9 s.2) L) (hE : E o) : WXI Try.prog 51 n0 (Fin Try.prog Try.f70.results.toList n0 Q) [.code (ct [1, 1, 0, 1, 0, 0, 1, 1, 0, 0, 1, 1, 0, 0, 1, 1, 0, 0, 1, 1, 1] (bodyOf Try.f70)), .blk 3, .code (ct [1, 1, 0, 1, 0, 0, 1, 1, 0, 0, 1, 1, 0, 0, 1, 1, 1] (bodyOf Try.f70)), .lp (ct [1, 1, 0, 1, 0, 0, 1, 1, 0, 0, 1, 1, 0, 0] (bodyOf Try.f70)), .blk 2, .blk 1, .code (ct [1, 1, 0, 1, 0, 0, 1, 1, 1] (bodyOf Try.f70)), .lp (ct [1, 1, 0, 1, 0, 0] (bodyOf Try.f70)), .blk 0, .code (ct [1, 1, 1] (bodyOf Try.f70))] (ext_together_j11_I B0 x3 x8 x9 x11 x15 x17 x33 zb7) L := by
  unfold ext_together_j11 at h
  rintro _ B _ ⟨hB, b15, v16, b16, n16, c16, v17, v18, h16, h17, h18, rfl, rfl⟩
  obtain ⟨_, _, _, _, _, rfl⟩ := h16.isl
  obtain ⟨_, _, _, _, _, rfl⟩ := h17.isl
  obtain ⟨_, _, _, _, _, rfl⟩ := h18.isl
  rcases bsp x33 with k19 | k19
  · replace h := (if_pos k19).symm.trans h
    refine WX.condT rfl k19 ?_
    refine WX.drw (Plan.of [0, 1, 2, 3, 4, 5, 6, 7, 8, 9, 10] .nil) _ mixed (by kernel_rfl) rfl (pk_sub [0, 1]) ?_
    refine WP.q (i := 0) rfl (.mv (v := .sl _ _ _ _ _ _) rfl) rfl rfl rfl ?_
    refine WP.q (i := 1) rfl (.mv (v := .int _ _) rfl) rfl rfl rfl ?_
    obtain ⟨y20, hy20, h⟩ := Option.bind_eq_some_iff.1 h
    obtain rfl := h16.nonnil hy20
    obtain ⟨_, i_y20, l_y20, r_y20⟩ := h16.at sl44 hy20 .i64
    obtain ⟨_, _, rfl, rfl, rfl⟩ := r_y20
    refine WP.q (i := 2) rfl (.ia i_y20) rfl rfl rfl ?_
    refine WP.q (i := 3) rfl (.fa (fa35_1 _ _)) rfl rfl rfl ?_
    refine WP.q (i := 4) rfl (.ldS (i := 1) rfl rfl (l_y20.g rfl) ti3 rfl) rfl rfl rfl ?_
    refine WP.q (i := 5) rfl (.fa (fa35_1 _ _)) rfl rfl rfl ?_
    refine WP.q (i := 6) rfl (.ldS (i := 0) rfl rfl rfl ti3 rfl) rfl rfl rfl ?_
    refine WP.q (i := 7) rfl (.r fun _ => rfl) rfl rfl rfl ?_
    obtain ⟨y21, hy21, h⟩ := Option.bind_eq_some_iff.1 h
    obtain ⟨_, i_y21, l_y21, r_y21⟩ := h16.at sl44 hy21 .i64
    obtain ⟨_, _, rfl, rfl, rfl⟩ := r_y21
    refine WP.q (i := 8) rfl (.ia i_y21) rfl rfl rfl ?_
    refine WP.q (i := 9) rfl (.fa (fa35_1 _ _)) rfl rfl rfl ?_
    refine WP.msn (i := 10) rfl (MOp.ost1 (x' := (y21.1, (wi64 (y20.2 + zb7.2)))) (f := 1) rfl (cI rfl) (fun _ => (.t .h)) ti3 rfl rfl h16 hy21 l_y21 (cs' := [.int .i64 y21.1, .int .i64 (wi64 (y20.2 + zb7.2))]) rfl ⟨[_], _, rfl, rfl, rfl⟩) rfl (by kernel_rfl) rfl ?_
    rintro _ _ ⟨c23, o22, rfl⟩
    refine WS.nil ?_
    refine WX.pop ?_
    refine WX.keep [3, 9, 10, 11, 15, 16, 17] (WX.pk [1] (by decide) ?_) rfl
    exact ext_together_j12_ok h hn hx0 hE _ _ _ ⟨hB, _, _, false, _, _, _, o22, h17, h18, rfl, rfl⟩
  · replace h := (if_neg (bnt k19)).symm.trans h
    refine WX.condF rfl k19 ?_
    refine WX.reg ?_
    refine WO.q (.mv (v := .sl _ _ _ _ _ _) rfl) rfl rfl ?_
    refine WO.q (.ldA (i := 0) rfl rfl rfl ti35 rfl) rfl rfl ?_
    refine WO.md (MOp.bs (l := ([zb7] : List (Int × Int))) sl44 (RL.cons (Rp Ri Ri) RL.nil) (lb rfl) rfl rfl) rfl rfl ?_
    rintro v29 _ ⟨b27, o28, rfl⟩
    obtain ⟨_, _, _, _, _, rfl⟩ := o28.isl
    obtain ⟨y31, hy31, h⟩ := Option.bind_eq_some_iff.1 h
    refine WO.md (MOp.app rfl rfl rfl sl44 h16 (Src.o (i := 0) sl44 o28 rfl) hy31 rfl rfl (fun _ => (.t (.t .h)))) rfl rfl ?_
    rintro v35 _ ⟨b32, n33, o34, rfl⟩
    obtain ⟨_, _, _, _, _, rfl⟩ := o34.isl
    refine WO.q (.as (v := .sl _ _ _ _ _ _) rfl) rfl rfl ?_
    refine WO.nil ?_
    refine WX.pop ?_
    refine WX.keep [3, 9, 10, 11, 15, 16, 17] (WX.pk [2] (by decide) ?_) rfl
    exact ext_together_j12_ok h hn hx0 hE _ _ _ ⟨hB, _, _, n33, _, _, _, o34, h17, h18, rfl, rfl⟩
theorem ext_together_l1_s {B0 : Kn} {L : Own} {n0 : Nat} {x9 : List (List (Int × Int))} {x15 : List (Int × Int)} {x3 : List (Int × Int)} {x11 : Int} {x17 : Int} {Q : AV → St → Prop} {E : ((List (Int × Int)) × Int × Int) ⊕ ((List (Int × Int)) × Int) → Prop} {o : ((List (Int × Int)) × Int × Int) ⊕ ((List (Int × Int)) × Int)} (h : ext_together_l1 x9 x15 x3 x11 x17 = some o) (hn : ∀ s, E (.inl s) → WXI Try.prog 51 n0 (Fin Try.prog Try.f70.results.toList n0 Q) [.lp (ct [1, 1, 0, 1, 0, 0, 1, 1, 0, 0, 1, 1, 0, 0] (bodyOf Try.f70)), .blk 2, .blk 1, .code (ct [1, 1, 0, 1, 0, 0, 1, 1, 1] (bodyOf Try.f70)), .lp (ct [1, 1, 0, 1, 0, 0] (bodyOf Try.f70)), .blk 0, .code (ct [1, 1, 1] (bodyOf Try.f70))] (ext_together_l1_I B0 x9 x15 s.1 s.2.1 s.2.2) L) (hx0 : ∀ s, E (.inr s) → WXI Try.prog 51 n0 (Fin Try.prog Try.f70.results.toList n0 Q) [.code (ct [1, 1, 0, 1, 0, 0, 1, 1, 1] (bodyOf Try.f70)), .lp (ct [1, 1, 0, 1, 0, 0] (bodyOf Try.f70)), .blk 0, .code (ct [1, 1, 1] (bodyOf Try.f70))] (ext_together_l1_X0 B0 s.1 x9 s.2) L) (hE : E o) : WXI Try.prog 51 n0 (Fin Try.prog Try.f70.results.toList n0 Q) [.code (ct [1, 1, 0, 1, 0, 0, 1, 1, 0, 0, 1, 1, 0, 0] (bodyOf Try.f70)), .lp (ct [1, 1, 0, 1, 0, 0, 1, 1, 0, 0, 1, 1, 0, 0] (bodyOf Try.f70)), .blk 2, .blk 1, .code (ct [1, 1, 0, 1, 0, 0, 1, 1, 1] (bodyOf Try.f70)), .lp (ct [1, 1, 0, 1, 0, 0] (bodyOf Try.f70)), .blk 0, .code (ct [1, 1, 1] (bodyOf Try.f70))] (ext_together_l1_I B0 x9 x15 x3 x11 x17) L := by
  unfold ext_together_l1 at h
  rintro _ B _ ⟨hB, v6, b6, n6, c6, v7, v8, h6, h7, h8, rfl, rfl⟩
  obtain ⟨_, _, _, _, _, rfl⟩ := h6.isl
  obtain ⟨_, _, _, _, _, rfl⟩ := h7.isl
  obtain ⟨_, _, _, _, _, rfl⟩ := h8.isl
  refine WX.seq ?_
  refine WX.reg ?_
  refine WO.q (.r fun _ => rfl) rfl rfl ?_
  refine WO.nil ?_
  refine WX.seq ?_
  rcases bsp (decide (x17 < (x15.length : Int))) with k9 | k9
  · have q_k9 := of_decide_eq_true k9
    replace h := (if_pos q_k9).symm.trans h
    refine WX.condT rfl k9 ?_
    refine WX.skip ?_
    refine WX.seq ?_
    refine WX.block ?_
    refine WX.seq ?_
    refine WX.reg ?_
    obtain ⟨y10, hy10, h⟩ := Option.bind_eq_some_iff.1 h
    obtain ⟨b_y10, o_y10, _, i_y10, p_y10, r_y10⟩ := h8.at sl44 hy10 .i64
    obtain ⟨_, _, rfl, rfl, rfl⟩ := r_y10
    refine WO.q (.ia i_y10) rfl rfl ?_
    refine WO.q (.lpA rfl p_y10 ti35 rfl rfl) rfl rfl ?_
    refine WO.md (MOp.alloc ti35 rfl) rfl rfl ?_
    rintro _ _ ⟨b11, rfl, rfl⟩
    refine WO.mn (MOp.storeW rfl (cA rfl) .h ti35 rfl rfl rfl) rfl ?_
    rintro _ _ rfl
    refine WO.nil ?_
    refine WX.seq ?_
    refine WX.reg ?_
    refine WO.q (.mv (v := .sl _ _ _ _ _ _) rfl) rfl rfl ?_
    refine WO.q (.len rfl rfl rfl (sl44.len h6.isl)) rfl rfl ?_
    refine WO.q (.r fun _ => rfl) rfl rfl ?_
    refine WO.q (.as (v := .int _ _) rfl) rfl rfl ?_
    refine WO.nil ?_
    refine WX.seq ?_
    refine WX.drw (Plan.of [0, 1, 2, 3, 4, 5, 6, 7, 8, 9] .nil) _ mixed (by kernel_rfl) rfl (pk_sub [0, 1]) ?_
    refine WP.q (i := 0) rfl (.mv (v := .int _ _) rfl) rfl rfl rfl ?_
    refine WP.q (i := 1) rfl (.r fun _ => rfl) rfl rfl rfl ?_
    refine WP.q (i := 2) rfl (.mv (v := .bool _) rfl) rfl rfl rfl ?_
    rcases bsp (decide (0 ≤ (wi64 ((x3.length : Int) - 1)))) with k12 | k12
    · have q_k12 := of_decide_eq_true k12
      replace h := (if_pos q_k12).symm.trans h
      refine WP.q (i := 3) rfl (.mv (v := .sl _ _ _ _ _ _) rfl) rfl (wg rfl rfl (gt k12)) rfl ?_
      refine WP.q (i := 4) rfl (.mv (v := .int _ _) rfl) rfl (wg rfl rfl (gt k12)) rfl ?_
      obtain ⟨y13, hy13, h⟩ := Option.bind_eq_some_iff.1 h
      obtain rfl := h6.nonnil hy13
      obtain ⟨_, i_y13, l_y13, r_y13⟩ := h6.at sl44 hy13 .i64
      obtain ⟨_, _, rfl, rfl, rfl⟩ := r_y13
      refine WP.q (i := 5) rfl (.ia i_y13) rfl (wg rfl rfl (gt k12)) rfl ?_
      refine WP.q (i := 6) rfl (.leA (i := 1) rfl rfl l_y13 ti35 rfl rfl) rfl (wg rfl rfl (gt k12)) rfl ?_
      refine WP.q (i := 7) rfl (.ldA (i := 0) rfl rfl rfl ti35 rfl) rfl (wg rfl rfl (gt k12)) rfl ?_
      obtain ⟨y14, hy14, h⟩ := Option.bind_eq_some_iff.1 h
      refine WP.cS (i := 8) rfl rfl rfl (ext_joins_ok hy14) rfl (wg rfl rfl (gt k12)) rfl ?_
      rintro _ rfl
      refine WP.q (i := 9) rfl (.ptv (v := .bool _) rfl k12 rfl) rfl rfl rfl ?_
      refine WP.nil ?_
      refine WX.keep [3, 7, 8, 9, 10, 11, 15, 16, 17, 33] (WX.pk [0, 1] (by decide) ?_) rfl
      exact ext_together_j11_ok h hn hx0 hE _ _ _ ⟨hB, _, _, _, false, _, _, _, h6, h7, h8, rfl, rfl⟩
    · have q_k12 := of_decide_eq_false k12
      replace h := (if_neg q_k12).symm.trans h
      refine WP.sk (i := 3) rfl rfl (wg rfl rfl (gtn k12)) rfl ?_
      refine WP.sk (i := 4) rfl rfl (wg rfl rfl (gtn k12)) rfl ?_
      refine WP.sk (i := 5) rfl rfl (wg rfl rfl (gtn k12)) rfl ?_
      refine WP.sk (i := 6) rfl rfl (wg rfl rfl (gtn k12)) rfl ?_
      refine WP.sk (i := 7) rfl rfl (wg rfl rfl (gtn k12)) rfl ?_
      refine WP.sd (i := 8) rfl rfl (wg rfl rfl (gtn k12)) rfl ?_
      refine WP.q (i := 9) rfl (.pfv (v := .bool _) rfl k12 rfl) rfl rfl rfl ?_
      refine WP.nil ?_
      refine WX.keep [3, 7, 8, 9, 10, 11, 15, 16, 17, 33] (WX.pk [0, 1] (by decide) ?_) rfl
      exact ext_together_j11_ok h hn hx0 hE _ _ _ ⟨hB, _, _, _, n6, _, _, _, h6, h7, h8, rfl, rfl⟩
  · have q_k9 := of_decide_eq_false k9
    replace h := (if_neg q_k9).symm.trans h
    refine WX.condF rfl k9 ?_
    refine WX.exit rfl ?_
    refine WX.pop ?_
    refine WX.keep [3, 9, 10, 11] (WX.pk [0] (by decide) ?_) rfl
    obtain rfl := Option.some.inj h
    exact hx0 _ hE _ _ _ ⟨hB, _, _, n6, _, _, h6, h7, rfl, rfl⟩
theorem ext_together_l1_ok {B0 : Kn} {L : Own} {n0 : Nat} {x9 : List (List (Int × Int))} {x15 : List (Int × Int)} {x3 : List (Int × Int)} {x11 : Int} {x17 : Int} {Q : AV → St → Prop} {d : Nat} {e : ((List (Int × Int)) × Int)} (h : iter (fun (s : (List (Int × Int)) × Int × Int) => ext_together_l1 x9 x15 s.1 s.2.1 s.2.2) d (x3, x11, x17) = some e) (g0 : ∀ s, e = s → WXI Try.prog 51 n0 (Fin Try.prog Try.f70.results.toList n0 Q) [.code (ct [1, 1, 0, 1, 0, 0, 1, 1, 1] (bodyOf Try.f70)), .lp (ct [1, 1, 0, 1, 0, 0] (bodyOf Try.f70)), .blk 0, .code (ct [1, 1, 1] (bodyOf Try.f70))] (ext_together_l1_X0 B0 s.1 x9 s.2) L) : WXI Try.prog 51 n0 (Fin Try.prog Try.f70.results.toList n0 Q) [.code (ct [1, 1, 0, 1, 0, 0, 1, 1, 0, 0, 1, 1, 0, 0] (bodyOf Try.f70)), .lp (ct [1, 1, 0, 1, 0, 0, 1, 1, 0, 0, 1, 1, 0, 0] (bodyOf Try.f70)), .blk 2, .blk 1, .code (ct [1, 1, 0, 1, 0, 0, 1, 1, 1] (bodyOf Try.f70)), .lp (ct [1, 1, 0, 1, 0, 0] (bodyOf Try.f70)), .blk 0, .code (ct [1, 1, 1] (bodyOf Try.f70))] (ext_together_l1_I B0 x9 x15 x3 x11 x17) L :=
  iter_ok (I := fun s => ext_together_l1_I B0 x9 x15 s.1 s.2.1 s.2.2) (D := fun e => (∀ s, e = s → WXI Try.prog 51 n0 (Fin Try.prog Try.f70.results.toList n0 Q) [.code (ct [1, 1, 0, 1, 0, 0, 1, 1, 1] (bodyOf Try.f70)), .lp (ct [1, 1, 0, 1, 0, 0] (bodyOf Try.f70)), .blk 0, .code (ct [1, 1, 1] (bodyOf Try.f70))] (ext_together_l1_X0 B0 s.1 x9 s.2) L)) (fun E hn hx s o ho hE => ext_together_l1_s ho hn (fun s hs => (hx _ hs) _ rfl)  hE) h g0
theorem ext_together_l0_s {B0 : Kn} {L : Own} {n0 : Nat} {x9 : List (List (Int × Int))} {x3 : List (Int × Int)} {x11 : Int} {Q : AV → St → Prop} {E : ((List (Int × Int)) × Int) ⊕ (List (Int × Int)) → Prop} {o : ((List (Int × Int)) × Int) ⊕ (List (Int × Int))} (h : ext_together_l0 x9 x3 x11 = some o) (hn : ∀ s, E (.inl s) → WXI Try.prog 51 n0 (Fin Try.prog Try.f70.results.toList n0 Q) [.lp (ct [1, 1, 0, 1, 0, 0] (bodyOf Try.f70)), .blk 0, .code (ct [1, 1, 1] (bodyOf Try.f70))] (ext_together_l0_I B0 x9 s.1 s.2) L) (hx0 : ∀ s, E (.inr s) → WXI Try.prog 51 n0 (Fin Try.prog Try.f70.results.toList n0 Q) [.code (ct [1, 1, 1] (bodyOf Try.f70))] (ext_together_l0_X0 B0 s) L) (hE : E o) : WXI Try.prog 51 n0 (Fin Try.prog Try.f70.results.toList n0 Q) [.code (ct [1, 1, 0, 1, 0, 0] (bodyOf Try.f70)), .lp (ct [1, 1, 0, 1, 0, 0] (bodyOf Try.f70)), .blk 0, .code (ct [1, 1, 1] (bodyOf Try.f70))] (ext_together_l0_I B0 x9 x3 x11) L := by
  unfold ext_together_l0 at h
  rintro _ B _ ⟨hB, v1, b1, n1, c1, v2, h1, h2, rfl, rfl⟩
  obtain ⟨_, _, _, _, _, rfl⟩ := h1.isl
  obtain ⟨_, _, _, _, _, rfl⟩ := h2.isl
  refine WX.seq ?_
  refine WX.reg ?_
  refine WO.q (.r fun _ => rfl) rfl rfl ?_
  refine WO.nil ?_
  refine WX.seq ?_
  rcases bsp (decide (x11 < (x9.length : Int))) with k3 | k3
  · have q_k3 := of_decide_eq_true k3
    replace h := (if_pos q_k3).symm.trans h
    refine WX.condT rfl k3 ?_
    refine WX.skip ?_
    refine WX.seq ?_
    refine WX.block ?_
    refine WX.seq ?_
    refine WX.reg ?_
    obtain ⟨y4, hy4, h⟩ := Option.bind_eq_some_iff.1 h
    obtain ⟨b_y4, o_y4, _, i_y4, p_y4, r_y4⟩ := h2.at sl124 hy4 .i64
    obtain ⟨w5, rfl, hw5⟩ := r_y4
    obtain ⟨_, _, _, _, _, rfl⟩ := hw5.isl
    refine WO.q (.ia i_y4) rfl rfl ?_
    refine WO.q (.lp0 rfl p_y4 rfl ti44 rfl) rfl rfl ?_
    refine WO.q (.as (v := .sl _ _ _ _ _ _) rfl) rfl rfl ?_
    refine WO.nil ?_
    refine WX.seq ?_
    refine WX.reg ?_
    refine WO.q (.mv (v := .sl _ _ _ _ _ _) rfl) rfl rfl ?_
    refine WO.q (.len rfl rfl rfl (sl44.len hw5.isl)) rfl rfl ?_
    refine WO.q (.mv (v := .int _ _) rfl) rfl rfl ?_
    refine WO.nil ?_
    refine WX.block ?_
    refine WX.loop ?_
    obtain ⟨e38, he38, h⟩ := Option.bind_eq_some_iff.1 h
    refine WX.keep [3, 9, 10, 11, 15, 16, 17] (WX.pk [0] (by decide) ?_) rfl
    refine ext_together_l1_ok he38 ?_ _ _ _ ⟨hB, _, _, n1, _, _, _, h1, h2, hw5, rfl, rfl⟩
    · intro s41 he_
      subst he_
      replace h := h
      rintro _ B _ ⟨hB, v39, b39, n39, c39, v40, h39, h40, rfl, rfl⟩
      obtain ⟨_, _, _, _, _, rfl⟩ := h39.isl
      obtain ⟨_, _, _, _, _, rfl⟩ := h40.isl
      refine WX.reg ?_
      refine WO.q (.r fun _ => rfl) rfl rfl ?_
      refine WO.q (.mv (v := .int _ _) rfl) rfl rfl ?_
      refine WO.nil ?_
      refine WX.keepL [3, 9, 10, 11] (WX.pk [0] (by decide) ?_) rfl
      obtain rfl := Option.some.inj h
      exact hn _ hE _ _ _ ⟨hB, _, _, n39, _, _, h39, h40, rfl, rfl⟩
  · have q_k3 := of_decide_eq_false k3
    replace h := (if_neg q_k3).symm.trans h
    refine WX.condF rfl k3 ?_
    refine WX.exit rfl ?_
    refine WX.keep [3] (WX.pk [0] (by decide) ?_) rfl
    obtain rfl := Option.some.inj h
    exact hx0 _ hE _ _ _ ⟨hB, _, _, n1, _, h1, rfl, rfl⟩
theorem ext_together_l0_ok {B0 : Kn} {L : Own} {n0 : Nat} {x9 : List (List (Int × Int))} {x3 : List (Int × Int)} {x11 : Int} {Q : AV → St → Prop} {d : Nat} {e : (List (Int × Int))} (h : iter (fun (s : (List (Int × Int)) × Int) => ext_together_l0 x9 s.1 s.2) d (x3, x11) = some e) (g0 : ∀ s, e = s → WXI Try.prog 51 n0 (Fin Try.prog Try.f70.results.toList n0 Q) [.code (ct [1, 1, 1] (bodyOf Try.f70))] (ext_together_l0_X0 B0 s) L) : WXI Try.prog 51 n0 (Fin Try.prog Try.f70.results.toList n0 Q) [.code (ct [1, 1, 0, 1, 0, 0] (bodyOf Try.f70)), .lp (ct [1, 1, 0, 1, 0, 0] (bodyOf Try.f70)), .blk 0, .code (ct [1, 1, 1] (bodyOf Try.f70))] (ext_together_l0_I B0 x9 x3 x11) L :=
  iter_ok (I := fun s => ext_together_l0_I B0 x9 s.1 s.2) (D := fun e => (∀ s, e = s → WXI Try.prog 51 n0 (Fin Try.prog Try.f70.results.toList n0 Q) [.code (ct [1, 1, 1] (bodyOf Try.f70))] (ext_together_l0_X0 B0 s) L)) (fun E hn hx s o ho hE => ext_together_l0_s ho hn (fun s hs => (hx _ hs) _ rfl)  hE) h g0
theorem ext_together_ok {B0 : Kn} {L : Own} {a0 : List (List (Int × Int))} {v0_0 : AV} {r : (List (Int × Int))} (g0_0 : RSl ELPIi64Ii64Q B0 v0_0 a0) (h : ext_together a0 = some r) : ∀ st, Hp B0 L st → ASpec Try.prog 70 [v0_0] st (ext_together_P B0 L r) := by
  unfold ext_together at h
  refine bodyA (A := []) Try.func70 rfl (c := bodyOf Try.f70) rfl Try.ntmps70 (lb rfl) fun n0 => ?_
  have hB := KLe.refl B0
  obtain ⟨_, _, _, _, _, rfl⟩ := g0_0.isl
  refine WX.seq ?_
  refine WX.reg ?_
  refine WO.q (.as (v := .sl _ _ _ _ _ _) rfl) rfl rfl ?_
  refine WO.nil ?_
  refine WX.seq ?_
  refine WX.reg ?_
  refine WO.q (.as (v := .sl _ _ _ _ _ _) rfl) rfl rfl ?_
  refine WO.nil ?_
  refine WX.seq ?_
  refine WX.seq ?_
  refine WX.reg ?_
  refine WO.q (.mv (v := .sl _ _ _ _ _ _) rfl) rfl rfl ?_
  refine WO.q (.len rfl rfl rfl (sl124.len g0_0.isl)) rfl rfl ?_
  refine WO.q (.mv (v := .int _ _) rfl) rfl rfl ?_
  refine WO.nil ?_
  refine WX.block ?_
  refine WX.loop ?_
  obtain ⟨e43, he43, h⟩ := Option.bind_eq_some_iff.1 h
  refine WX.keep [3, 9, 10, 11] (WX.pk [] (by decide) (WX.addn [0] ?_)) rfl
  refine ext_together_l0_ok he43 ?_ _ _ _ ⟨hB, _, 0, true, [], _, OSl.none _ _, g0_0, rfl, rfl⟩
  · intro s45 he_
    subst he_
    replace h := h
    rintro _ B _ ⟨hB, v44, b44, n44, c44, h44, rfl, rfl⟩
    obtain ⟨_, _, _, _, _, rfl⟩ := h44.isl
    refine WX.seq ?_
    refine WX.reg ?_
    refine WO.q (.mv (v := .sl _ _ _ _ _ _) rfl) rfl rfl ?_
    refine WO.q (.as (v := .sl _ _ _ _ _ _) rfl) rfl rfl ?_
    refine WO.nil ?_
    obtain rfl := Option.some.inj h
    exact WX.ret (rs_ (rs_tmp rfl rs_nil)) fun st hp => ⟨_, _, hB, (hp.pk [0] (by decide)), _, _, n44, _, rfl, rfl, h44⟩
def ext_checked_P (B : Kn) (L : Own) (r : (List (Int × Int)) × Int) : AV → St → Prop := C0 B L fun B' v => ∃ w0, v = .tup [w0, .int .i64 r.2] ∧ RSl EPIi64Ii64Q B' w0 r.1
theorem ext_checked_ok {B0 : Kn} {L : Own} {a0 : List (Int × Int)} {v0_0 : AV} {r : (List (Int × Int)) × Int} (g0_0 : RSl EPIi64Ii64Q B0 v0_0 a0) (h : ext_checked a0 = some r) : ∀ st, Hp B0 L st → ASpec Try.prog 69 [v0_0] st (ext_checked_P B0 L r) := by
  unfold ext_checked at h
  refine bodyA (A := []) Try.func69 rfl (c := bodyOf Try.f69) rfl Try.ntmps69 (lb rfl) fun n0 => ?_
  have hB := KLe.refl B0
  obtain ⟨_, _, _, _, _, rfl⟩ := g0_0.isl
  refine WX.seq ?_
  refine WX.reg ?_
  refine WO.q (.as (v := .sl _ _ _ _ _ _) rfl) rfl rfl ?_
  refine WO.q (.as (v := .int _ _) rfl) rfl rfl ?_
  refine WO.nil ?_
  refine WX.seq ?_
  refine WX.seq ?_
  refine WX.reg ?_
  refine WO.q (.mv (v := .sl _ _ _ _ _ _) rfl) rfl rfl ?_
  obtain ⟨y1, hy1, h⟩ := Option.bind_eq_some_iff.1 h
  refine WO.cS rfl rfl (ext_List_Right_ok g0_0 hy1) rfl rfl rfl ?_
  rintro _ rfl
  refine WO.q (.r fun _ => rfl) rfl rfl ?_
  refine WO.nil ?_
  rcases bsp y1 with k2 | k2
  · replace h := (if_pos k2).symm.trans h
    refine WX.condF rfl (f_not k2) ?_
    refine WX.skip ?_
    refine WX.seq ?_
    refine WX.reg ?_
    refine WO.q (.mv (v := .sl _ _ _ _ _ _) rfl) rfl rfl ?_
    refine WO.q (.as (v := .sl _ _ _ _ _ _) rfl) rfl rfl ?_
    refine WO.q (.as (v := .int _ _) rfl) rfl rfl ?_
    refine WO.nil ?_
    obtain rfl := Option.some.inj h
    exact WX.ret (rs_ (rs_tmp rfl (rs_tmp rfl rs_nil))) fun st hp => ⟨_, hB, (hp.pk [] (by decide)), _, rfl, g0_0⟩
  · replace h := (if_neg (bnt k2)).symm.trans h
    refine WX.condT rfl (t_not k2) ?_
    refine WX.seq ?_
    refine WX.reg ?_
    refine WO.q (.as (v := .sl _ _ _ _ _ _) rfl) rfl rfl ?_
    refine WO.q (.as (v := .int _ _) rfl) rfl rfl ?_
    refine WO.nil ?_
    obtain rfl := Option.some.inj h
    exact WX.ret (rs_ (rs_tmp rfl (rs_tmp rfl rs_nil))) fun st hp => ⟨_, hB, (hp.pk [] (by decide)), .sl 0 0 0 0 0 true, rfl, (RSl.nil _ _)⟩
def ext_List_Append_P (B : Kn) (L : Own) (r : (List (Int × Int)) × Int) : AV → St → Prop := C0 B L fun B' v => ∃ w0, v = .tup [w0, .int .i64 r.2] ∧ RSl EPIi64Ii64Q B' w0 r.1
theorem ext_List_Append_ok {B0 : Kn} {L : Own} {a0 : List (Int × Int)} {a1 : Int × Int} {v0_0 : AV} {r : (List (Int × Int)) × Int} (g0_0 : RSl EPIi64Ii64Q B0 v0_0 a0) (h : ext_List_Append a0 a1 = some r) : ∀ st, Hp B0 L st → ASpec Try.prog 27 [v0_0, .agg [.int .i64 a1.1, .int .i64 a1.2]] st (ext_List_Append_P B0 L r) := by
  unfold ext_List_Append at h
  refine bodyA (A := []) Try.func27 rfl (c := bodyOf Try.f27) rfl Try.ntmps27 (lb rfl) fun n0 => ?_
  have hB := KLe.refl B0
  obtain ⟨_, _, _, _, _, rfl⟩ := g0_0.isl
  refine WX.seq ?_
  refine WX.reg ?_
  refine WO.md (MOp.box (cA rfl)) rfl rfl ?_
  rintro _ _ ⟨b1, rfl, rfl⟩
  refine WO.q (.as (v := .sl _ _ _ _ _ _) rfl) rfl rfl ?_
  refine WO.q (.as (v := .int _ _) rfl) rfl rfl ?_
  refine WO.nil ?_
  refine WX.seq ?_
  refine WX.seq ?_
  refine WX.reg ?_
  refine WO.q (.mv (v := .sl _ _ _ _ _ _) rfl) rfl rfl ?_
  obtain ⟨y2, hy2, h⟩ := Option.bind_eq_some_iff.1 h
  refine WO.cS rfl rfl (ext_List_Right_ok g0_0 hy2) rfl rfl rfl ?_
  rintro _ rfl
  refine WO.q (.r fun _ => rfl) rfl rfl ?_
  refine WO.nil ?_
  rcases bsp y2 with k3 | k3
  · replace h := (if_pos k3).symm.trans h
    refine WX.condF rfl (f_not k3) ?_
    refine WX.skip ?_
    refine WX.seq ?_
    refine WX.seq ?_
    refine WX.reg ?_
    refine WO.q (.ldA (i := 0) rfl rfl rfl ti35 rfl) rfl rfl ?_
    refine WO.md (MOp.bs (l := ([a1] : List (Int × Int))) sl44 (RL.cons (Rp Ri Ri) RL.nil) (lb rfl) rfl rfl) rfl rfl ?_
    rintro v6 _ ⟨b4, o5, rfl⟩
    obtain ⟨_, _, _, _, _, rfl⟩ := o5.isl
    obtain ⟨y8, hy8, h⟩ := Option.bind_eq_some_iff.1 h
    refine WO.cS rfl rfl (lendC (j := 0) o5 rfl fun _ K10 g9 => ext_List_Right_ok g9 hy8) rfl rfl rfl ?_
    rintro _ rfl
    refine WO.q (.r fun _ => rfl) rfl rfl ?_
    refine WO.nil ?_
    rcases bsp y8 with k11 | k11
    · replace h := (if_pos k11).symm.trans h
      refine WX.condF rfl (f_not k11) ?_
      refine WX.skip ?_
      refine WX.seq ?_
      refine WX.reg ?_
      refine WO.q (.mv (v := .sl _ _ _ _ _ _) rfl) rfl rfl ?_
      refine WO.q (.ldA (i := 1) rfl rfl rfl ti35 rfl) rfl rfl ?_
      refine WO.md (MOp.bs (l := ([a1] : List (Int × Int))) sl44 (RL.cons (Rp Ri Ri) RL.nil) (lb rfl) rfl rfl) rfl rfl ?_
      rintro v14 _ ⟨b12, o13, rfl⟩
      obtain ⟨_, _, _, _, _, rfl⟩ := o13.isl
      refine WO.fz (j := 0) o13 rfl ?_
      intro B hK g16
      replace g0_0 := g0_0.up hK
      replace o5 := o5.up hK
      replace hB := hB.trans hK
      refine WO.md (MOp.bs (l := ([a0, [a1]] : List (List (Int × Int)))) sl124 (RL.cons (Rl g0_0) (RL.cons (Rl g16) RL.nil)) (lb rfl) rfl rfl) rfl rfl ?_
      rintro v19 _ ⟨b17, o18, rfl⟩
      obtain ⟨_, _, _, _, _, rfl⟩ := o18.isl
      refine WO.fz (j := 0) o18 rfl ?_
      intro B hK g21
      replace g0_0 := g0_0.up hK
      replace g16 := g16.up hK
      replace o5 := o5.up hK
      replace hB := hB.trans hK
      obtain ⟨y22, hy22, h⟩ := Option.bind_eq_some_iff.1 h
      refine WO.c1 rfl rfl (ext_together_ok g21 hy22) rfl rfl rfl ?_
      rintro _ B _ hK ⟨v23, b24, n25, c26, rfl, rfl, h27⟩
      obtain ⟨_, _, _, _, _, rfl⟩ := h27.isl
      replace g0_0 := g0_0.up hK
      replace g16 := g16.up hK
      replace g21 := g21.up hK
      replace o5 := o5.up hK
      replace hB := hB.trans hK
      refine WO.fz (j := 0) h27 rfl ?_
      intro B hK g28
      replace g0_0 := g0_0.up hK
      replace g16 := g16.up hK
      replace g21 := g21.up hK
      replace o5 := o5.up hK
      replace hB := hB.trans hK
      obtain ⟨y29, hy29, h⟩ := Option.bind_eq_some_iff.1 h
      refine WO.c0 rfl rfl (ext_checked_ok g28 hy29) rfl rfl rfl ?_
      rintro _ B hK ⟨v30, rfl, h31⟩
      obtain ⟨_, _, _, _, _, rfl⟩ := h31.isl
      replace g0_0 := g0_0.up hK
      replace g16 := g16.up hK
      replace g21 := g21.up hK
      replace g28 := g28.up hK
      replace o5 := o5.up hK
      replace hB := hB.trans hK
      refine WO.q (.r fun _ => rfl) rfl rfl ?_
      refine WO.q (.r fun _ => rfl) rfl rfl ?_
      refine WO.q (.as (v := .sl _ _ _ _ _ _) rfl) rfl rfl ?_
      refine WO.q (.as (v := .int _ _) rfl) rfl rfl ?_
      refine WO.nil ?_
      obtain rfl := Option.some.inj h
      exact WX.ret (rs_ (rs_tmp rfl (rs_tmp rfl rs_nil))) fun st hp => ⟨_, hB, (hp.pk [] (by decide)), _, rfl, h31⟩
    · replace h := (if_neg (bnt k11)).symm.trans h
      refine WX.condT rfl (t_not k11) ?_
      refine WX.seq ?_
      refine WX.reg ?_
      refine WO.q (.as (v := .sl _ _ _ _ _ _) rfl) rfl rfl ?_
      refine WO.q (.as (v := .int _ _) rfl) rfl rfl ?_
      refine WO.nil ?_
      obtain rfl := Option.some.inj h
      exact WX.ret (rs_ (rs_tmp rfl (rs_tmp rfl rs_nil))) fun st hp => ⟨_, hB, (hp.pk [] (by decide)), .sl 0 0 0 0 0 true, rfl, (RSl.nil _ _)⟩
  · replace h := (if_neg (bnt k3)).symm.trans h
    refine WX.condT rfl (t_not k3) ?_
    refine WX.seq ?_
    refine WX.reg ?_
    refine WO.q (.as (v := .sl _ _ _ _ _ _) rfl) rfl rfl ?_
    refine WO.q (.as (v := .int _ _) rfl) rfl rfl ?_
    refine WO.nil ?_
    obtain rfl := Option.some.inj h
    exact WX.ret (rs_ (rs_tmp rfl (rs_tmp rfl rs_nil))) fun st hp => ⟨_, hB, (hp.pk [] (by decide)), .sl 0 0 0 0 0 true, rfl, (RSl.nil _ _)⟩
def slices_Clone_ext_List_alloc_Extent_P (B : Kn) (L : Own) (r : List (Int × Int)) : AV → St → Prop := C1 B L fun B' v e0 => ∃ w b0 n0 c0, v = w ∧ e0 = oe b0 n0 c0 ∧ OSl EPIi64Ii64Q B' w b0 n0 c0 r
theorem slices_Clone_ext_List_alloc_Extent_ok {B0 : Kn} {L : Own} {a0 : List (Int × Int)} {v0 : AV} {r : List (Int × Int)} (g : RSl EPIi64Ii64Q B0 v0 a0) (h : slices_Clone_ext_List_alloc_Extent a0 = some r) : ∀ st, Hp B0 L st → ASpec Try.prog 86 [v0] st (slices_Clone_ext_List_alloc_Extent_P B0 L r) := by
  unfold slices_Clone_ext_List_alloc_Extent at h
  refine bodyA (A := []) Try.func86 rfl (c := bodyOf Try.f86) rfl Try.ntmps86 (lb rfl) fun n0 => ?_
  have hB := KLe.refl B0
  obtain ⟨sz, b, off, mc, nl, rfl, g1, g2, g3, g4⟩ := id g
  repeat refine WX.seq ?_
  refine WX.reg ?_
  refine WO.q (.as (v := .sl _ _ _ _ _ _) rfl) rfl rfl ?_
  refine WO.nil ?_
  repeat refine WX.seq ?_
  refine WX.reg ?_
  refine WO.q (.mv (v := .sl _ _ _ _ _ _) rfl) rfl rfl ?_
  refine WO.q (.bin (evslnil ti44 rfl _ _ _ _ _ _)) rfl rfl ?_
  refine WO.nil ?_
  repeat refine WX.seq ?_
  refine WX.cond rfl (fun hc => ?_) (fun hc => ?_)
  · have ha := g2 hc
    subst ha
    obtain ⟨_, rfl⟩ := appL_some h
    repeat refine WX.seq ?_
    refine WX.reg ?_
    refine WO.q (.as (v := .sl _ _ _ _ _ _) rfl) rfl rfl ?_
    refine WO.nil ?_
    exact WX.ret (rs_ (rs_tmp rfl rs_nil)) fun st hp => ⟨_, _, hB, ((hp.pk [] (by decide)).skip 0), _, 0, true, [], rfl, rfl, OSl.none _ _⟩
  · refine WX.skip ?_
    repeat refine WX.seq ?_
    refine WX.reg ?_
    refine WO.md (MOp.bs (l := ([] : List (Int × Int))) sl44 RL.nil (lb rfl) rfl rfl) rfl rfl ?_
    rintro v1 _ ⟨b1, o1, rfl⟩
    obtain ⟨_, _, _, _, _, rfl⟩ := o1.isl
    refine WO.q (.mv (v := .sl _ _ _ _ _ _) rfl) rfl rfl ?_
    obtain ⟨_, hs⟩ := Src.r sl44 g
    refine WO.md (MOp.app rfl rfl rfl sl44 o1 (hs _) h rfl rfl (fun _ => .h)) rfl rfl ?_
    rintro v2 _ ⟨b2, n2, o2, rfl⟩
    obtain ⟨_, _, _, _, _, rfl⟩ := o2.isl
    refine WO.q (.as (v := .sl _ _ _ _ _ _) rfl) rfl rfl ?_
    refine WO.nil ?_
    exact WX.ret (rs_ (rs_tmp rfl rs_nil)) fun st hp => ⟨_, _, hB, (hp.pk [0] (by decide)), _, _, n2, _, rfl, rfl, o2⟩

def ext_part_P (B : Kn) (L : Own) (r : (Int × Int)) : AV → St → Prop := CS B L fun v => v = .agg [.int .i64 r.1, .int .i64 r.2]
def ext_part_j2_I (B0 : Kn) (x1 : Int) (zb2 : Int × Int) (zb4 : Int × Int) : Fr → Kn → Own → Prop := fun fr B A => KLe B0 B ∧ ∃ b4 b5, fr = [(1, .int .i64 x1), (2, .ptr b4 0), (4, .ptr b5 0)] ∧ A = [(b4, some [.int .i64 zb2.1, .int .i64 zb2.2]), (b5, some [.int .i64 zb4.1, .int .i64 zb4.2])]
theorem ext_part_j2_ok {B0 : Kn} {L : Own} {n0 : Nat} {x1 : Int} {zb2 : Int × Int} {zb4 : Int × Int} {r : (Int × Int)} (h : ext_part_j2 x1 zb2 zb4 = some r) : WXI Try.prog 19 n0 (Fin Try.prog Try.f87.results.toList n0 (ext_part_P B0 L r)) [.code (ct [1, 1] (bodyOf Try.f87))] (ext_part_j2_I B0 x1 zb2 zb4) L := by
  unfold ext_part_j2 at h
  rintro _ B _ ⟨hB, b4, b5, rfl, rfl⟩
  refine WX.seq ?_
  refine WX.reg ?_
  refine WO.q (.fa (fa35_1 _ _)) rfl rfl ?_
  refine WO.q (.ldS (i := 0) rfl rfl rfl ti3 rfl) rfl rfl ?_
  refine WO.q (.mv (v := .int _ _) rfl) rfl rfl ?_
  refine WO.q (.r fun _ => rfl) rfl rfl ?_
  refine WO.q (.fa (fa35_1 _ _)) rfl rfl ?_
  refine WO.mn (MOp.store (cs' := [.int .i64 zb2.1, .int .i64 (wi64 (zb2.2 - x1))]) rfl (cI rfl) .h ti3 rfl rfl (lb rfl) rfl) rfl ?_
  rintro _ _ rfl
  refine WO.nil ?_
  refine WX.seq ?_
  refine WX.reg ?_
  refine WO.q (.ldA (i := 0) rfl rfl rfl ti35 rfl) rfl rfl ?_
  refine WO.mn (MOp.storeW rfl (cA rfl) (.t .h) ti35 rfl rfl rfl) rfl ?_
  rintro _ _ rfl
  refine WO.nil ?_
  obtain rfl := Option.some.inj h
  exact WX.ret (rs_ (rs_cell (.ldA (i := 1) rfl rfl rfl ti35 rfl) rs_nil)) fun st hp => ⟨(hp.pk [] (by decide)).le hB, rfl⟩
theorem ext_part_ok {B0 : Kn} {L : Own} {a0 : Int × Int} {a1 : Int} {r : (Int × Int)} (h : ext_part a0 a1 = some r) : ∀ st, Hp B0 L st → ASpec Try.prog 87 [.agg [.int .i64 a0.1, .int .i64 a0.2], .int .i64 a1] st (ext_part_P B0 L r) := by
  unfold ext_part at h
  refine bodyA (A := []) Try.func87 rfl (c := bodyOf Try.f87) rfl Try.ntmps87 (lb rfl) fun n0 => ?_
  have hB := KLe.refl B0
  refine WX.seq ?_
  refine WX.reg ?_
  refine WO.md (MOp.box (cA rfl)) rfl rfl ?_
  rintro _ _ ⟨b1, rfl, rfl⟩
  refine WO.md (MOp.alloc ti35 rfl) rfl rfl ?_
  rintro _ _ ⟨b2, rfl, rfl⟩
  refine WO.nil ?_
  refine WX.seq ?_
  refine WX.seq ?_
  refine WX.reg ?_
  refine WO.q (.fa (fa35_0 _ _)) rfl rfl ?_
  refine WO.q (.ldS (i := 1) rfl rfl rfl ti3 rfl) rfl rfl ?_
  refine WO.q (.r fun _ => rfl) rfl rfl ?_
  refine WO.nil ?_
  rcases bsp (decide (a0.1 ≠ (-1))) with k3 | k3
  · have q_k3 := of_decide_eq_true k3
    replace h := (if_pos q_k3).symm.trans h
    refine WX.condT rfl k3 ?_
    refine WX.reg ?_
    refine WO.q (.fa (fa35_0 _ _)) rfl rfl ?_
    refine WO.q (.ldS (i := 1) rfl rfl rfl ti3 rfl) rfl rfl ?_
    refine WO.q (.mv (v := .int _ _) rfl) rfl rfl ?_
    refine WO.q (.r fun _ => rfl) rfl rfl ?_
    refine WO.q (.fa (fa35_0 _ _)) rfl rfl ?_
    refine WO.mn (MOp.store (cs' := [.int .i64 (wi64 (a0.1 + a1)), .int .i64 a0.2]) rfl (cI rfl) (.t .h) ti3 rfl rfl (lb rfl) rfl) rfl ?_
    rintro _ _ rfl
    refine WO.nil ?_
    refine WX.keep [1, 2, 4] (WX.pk [1, 0] (by decide) ?_) rfl
    exact ext_part_j2_ok h _ _ _ ⟨hB, _, _, rfl, rfl⟩
  · have q_k3 := of_decide_eq_false k3
    replace h := (if_neg q_k3).symm.trans h
    refine WX.condF rfl k3 ?_
    refine WX.skip ?_
    refine WX.keep [1, 2, 4] (WX.pk [1, 0] (by decide) ?_) rfl
    exact ext_part_j2_ok h _ _ _ ⟨hB, _, _, rfl, rfl⟩
def ext_List_split_P (B : Kn) (L : Own) (r : (List (Int × Int)) × (List (Int × Int))) : AV → St → Prop := C2 B L fun B' v e0 e1 => ∃ w0 b0 n0 c0 w1 b1 n1 c1, v = .tup [w0, w1] ∧ e0 = oe b0 n0 c0 ∧ OSl EPIi64Ii64Q B' w0 b0 n0 c0 r.1 ∧ e1 = oe b1 n1 c1 ∧ OSl EPIi64Ii64Q B' w1 b1 n1 c1 r.2
def ext_List_split_l0_I (B0 : Kn) (x0 : List (Int × Int)) (x10 : List (Int × Int)) (x1 : Int) (x12 : Int) : Fr → Kn → Own → Prop := fun fr B A => KLe B0 B ∧ ∃ v1 v2, RSl EPIi64Ii64Q B v1 x0 ∧ RSl EPIi64Ii64Q B v2 x10 ∧ fr = [(0, v1), (1, .int .i64 x1), (10, v2), (11, .int .i64 (x10.length : Int)), (12, .int .i64 x12)] ∧ A = []
def ext_List_split_l0_X0 (B0 : Kn) (x0 : List (Int × Int)) : Fr → Kn → Own → Prop := fun fr B A => KLe B0 B ∧ ∃ v47, RSl EPIi64Ii64Q B v47 x0 ∧ fr = [(0, v47)] ∧ A = []
theorem ext_List_split_l0_s {B0 : Kn} {L : Own} {n0 : Nat} {x0 : List (Int × Int)} {x10 : List (Int × Int)} {x1 : Int} {x12 : Int} {Q : AV → St → Prop} {E : (Int × Int) ⊕ (((List (Int × Int)) × (List (Int × Int))) ⊕ Unit) → Prop} {o : (Int × Int) ⊕ (((List (Int × Int)) × (List (Int × Int))) ⊕ Unit)} (h : ext_List_split_l0 x0 x10 x1 x12 = some o) (hn : ∀ s, E (.inl s) → WXI Try.prog 52 n0 (Fin Try.prog Try.f71.results.toList n0 Q) [.lp (ct [1, 0, 1, 0, 0] (bodyOf Try.f71)), .blk 0, .code (ct [1, 1] (bodyOf Try.f71))] (ext_List_split_l0_I B0 x0 x10 s.1 s.2) L) (hx0 : ∀ s, E (.inr (.inr s)) → WXI Try.prog 52 n0 (Fin Try.prog Try.f71.results.toList n0 Q) [.code (ct [1, 1] (bodyOf Try.f71))] (ext_List_split_l0_X0 B0 x0) L) (hr : ∀ r, E (.inr (.inl r)) → ∀ v st, ext_List_split_P B0 L r v st → Q v st) (hE : E o) : WXI Try.prog 52 n0 (Fin Try.prog Try.f71.results.toList n0 Q) [.code (ct [1, 0, 1, 0, 0] (bodyOf Try.f71)), .lp (ct [1, 0, 1, 0, 0] (bodyOf Try.f71)), .blk 0, .code (ct [1, 1] (bodyOf Try.f71))] (ext_List_split_l0_I B0 x0 x10 x1 x12) L := by
  unfold ext_List_split_l0 at h
  rintro _ B _ ⟨hB, v1, v2, h1, h2, rfl, rfl⟩
  obtain ⟨_, _, _, _, _, rfl⟩ := h1.isl
  obtain ⟨_, _, _, _, _, rfl⟩ := h2.isl
  refine WX.seq ?_
  refine WX.reg ?_
  refine WO.q (.r fun _ => rfl) rfl rfl ?_
  refine WO.nil ?_
  refine WX.seq ?_
  rcases bsp (decide (x12 < (x10.length : Int))) with k3 | k3
  · have q_k3 := of_decide_eq_true k3
    replace h := (if_pos q_k3).symm.trans h
    refine WX.condT rfl k3 ?_
    refine WX.skip ?_
    refine WX.seq ?_
    refine WX.block ?_
    refine WX.seq ?_
    refine WX.reg ?_
    refine WO.q (.mv (v := .int _ _) rfl) rfl rfl ?_
    obtain ⟨y4, hy4, h⟩ := Option.bind_eq_some_iff.1 h
    obtain ⟨b_y4, o_y4, _, i_y4, p_y4, r_y4⟩ := h2.at sl44 hy4 .i64
    obtain ⟨_, _, rfl, rfl, rfl⟩ := r_y4
    refine WO.q (.ia i_y4) rfl rfl ?_
    refine WO.q (.lpA rfl p_y4 ti35 rfl rfl) rfl rfl ?_
    refine WO.md (MOp.alloc ti35 rfl) rfl rfl ?_
    rintro _ _ ⟨b5, rfl, rfl⟩
    refine WO.q (.as (v := .int _ _) rfl) rfl rfl ?_
    refine WO.mn (MOp.storeW rfl (cA rfl) .h ti35 rfl rfl rfl) rfl ?_
    rintro _ _ rfl
    refine WO.nil ?_
    refine WX.seq ?_
    refine WX.seq ?_
    refine WX.reg ?_
    refine WO.q (.mv (v := .int _ _) rfl) rfl rfl ?_
    refine WO.q (.fa (fa35_1 _ _)) rfl rfl ?_
    refine WO.q (.ldS (i := 0) rfl rfl rfl ti3 rfl) rfl rfl ?_
    refine WO.q (.r fun _ => rfl) rfl rfl ?_
    refine WO.nil ?_
    rcases bsp (decide (y4.2 ≤ x1)) with k6 | k6
    · have q_k6 := of_decide_eq_true k6
      replace h := (if_pos q_k6).symm.trans h
      refine WX.condT rfl k6 ?_
      refine WX.seq ?_
      refine WX.reg ?_
      refine WO.q (.mv (v := .int _ _) rfl) rfl rfl ?_
      refine WO.q (.fa (fa35_1 _ _)) rfl rfl ?_
      refine WO.q (.ldS (i := 0) rfl rfl rfl ti3 rfl) rfl rfl ?_
      refine WO.q (.r fun _ => rfl) rfl rfl ?_
      refine WO.q (.as (v := .int _ _) rfl) rfl rfl ?_
      refine WO.nil ?_
      refine WX.exit rfl ?_
      refine WX.reg ?_
      refine WO.q (.r fun _ => rfl) rfl rfl ?_
      refine WO.q (.mv (v := .int _ _) rfl) rfl rfl ?_
      refine WO.nil ?_
      refine WX.keepL [0, 1, 10, 11, 12] (WX.pk [] (by decide) ?_) rfl
      obtain rfl := Option.some.inj h
      exact hn _ hE _ _ _ ⟨hB, _, _, h1, h2, rfl, rfl⟩
    · have q_k6 := of_decide_eq_false k6
      replace h := (if_neg q_k6).symm.trans h
      refine WX.condF rfl k6 ?_
      refine WX.skip ?_
      refine WX.seq ?_
      refine WX.drw (Plan.of [0, 1, 2, 4, 5, 6, 3, 7, 8, 9] .nil) _ mixed (by kernel_rfl) rfl (pk_sub [0]) ?_
      refine WP.q (i := 0) rfl (.mv (v := .sl _ _ _ _ _ _) rfl) rfl rfl rfl ?_
      refine WP.q (i := 1) rfl (.mv (v := .int _ _) rfl) rfl rfl rfl ?_
      obtain ⟨y7, hy7, h⟩ := Option.bind_eq_some_iff.1 h
      obtain ⟨v_y7, e_y7, g_y7⟩ := h1.cut sl44 hy7 (lo := none) (hi := some (.int .i64 x12)) bnd_none (bnd_int (Int.le_trans (cutL_some hy7).1.1 (cutL_some hy7).1.2.1))
      obtain ⟨_, _, _, _, _, rfl⟩ := g_y7.isl
      refine WP.q (i := 2) rfl (.sl e_y7) rfl rfl rfl ?_
      refine WP.q (i := 4) rfl (.mv (v := .sl _ _ _ _ _ _) rfl) rfl rfl rfl ?_
      refine WP.q (i := 5) rfl (.mv (v := .int _ _) rfl) rfl rfl rfl ?_
      obtain ⟨y8, hy8, h⟩ := Option.bind_eq_some_iff.1 h
      obtain ⟨v_y8, e_y8, g_y8⟩ := h1.cut sl44 hy8 (lo := some (.int .i64 x12)) (hi := none) (bnd_int (cutL_some hy8).1.1) rfl
      obtain ⟨_, _, _, _, _, rfl⟩ := g_y8.isl
      refine WP.q (i := 6) rfl (.sl e_y8) rfl rfl rfl ?_
      obtain ⟨y9, hy9, h⟩ := Option.bind_eq_some_iff.1 h
      refine WP.c1 (i := 3) rfl rfl rfl (slices_Clone_ext_List_alloc_Extent_ok g_y7 hy9) rfl rfl rfl ?_
      rintro _ B _ hK ⟨v10, b11, n12, c13, rfl, rfl, h14⟩
      obtain ⟨_, _, _, _, _, rfl⟩ := h14.isl
      replace h1 := h1.up hK
      replace h2 := h2.up hK
      replace g_y7 := g_y7.up hK
      replace g_y8 := g_y8.up hK
      replace hB := hB.trans hK
      obtain ⟨y15, hy15, h⟩ := Option.bind_eq_some_iff.1 h
      refine WP.c1 (i := 7) rfl rfl rfl (slices_Clone_ext_List_alloc_Extent_ok g_y8 hy15) rfl rfl rfl ?_
      rintro _ B _ hK ⟨v16, b17, n18, c19, rfl, rfl, h20⟩
      obtain ⟨_, _, _, _, _, rfl⟩ := h20.isl
      replace h1 := h1.up hK
      replace h2 := h2.up hK
      replace g_y7 := g_y7.up hK
      replace g_y8 := g_y8.up hK
      replace h14 := h14.up hK
      replace hB := hB.trans hK
      refine WP.q (i := 8) rfl (.as (v := .sl _ _ _ _ _ _) rfl) rfl rfl rfl ?_
      refine WP.q (i := 9) rfl (.as (v := .sl _ _ _ _ _ _) rfl) rfl rfl rfl ?_
      refine WP.nil ?_
      refine WX.seq ?_
      refine WX.seq ?_
      refine WX.reg ?_
      refine WO.q (.mv (v := .int _ _) rfl) rfl rfl ?_
      refine WO.q (.r fun _ => rfl) rfl rfl ?_
      refine WO.nil ?_
      rcases bsp (decide (0 < x1)) with k21 | k21
      · have q_k21 := of_decide_eq_true k21
        replace h := (if_pos q_k21).symm.trans h
        refine WX.condT rfl k21 ?_
        refine WX.seq ?_
        refine WX.reg ?_
        refine WO.q (.mv (v := .sl _ _ _ _ _ _) rfl) rfl rfl ?_
        refine WO.q (.fa (fa35_0 _ _)) rfl rfl ?_
        refine WO.q (.ldS (i := 2) rfl rfl rfl ti3 rfl) rfl rfl ?_
        refine WO.q (.mv (v := .int _ _) rfl) rfl rfl ?_
        refine WO.q (.bd (bd35_0_1 (cI rfl) (cI rfl))) rfl rfl ?_
        refine WO.md (MOp.bs (l := ([(y4.1, x1)] : List (Int × Int))) sl44 (RL.cons (Rp Ri Ri) RL.nil) (lb rfl) rfl rfl) rfl rfl ?_
        rintro v24 _ ⟨b22, o23, rfl⟩
        obtain ⟨_, _, _, _, _, rfl⟩ := o23.isl
        obtain ⟨y26, hy26, h⟩ := Option.bind_eq_some_iff.1 h
        refine WO.md (MOp.app rfl rfl rfl sl44 h14 (Src.o (i := 0) sl44 o23 rfl) hy26 rfl rfl (fun _ => (.t (.t .h)))) rfl rfl ?_
        rintro v30 _ ⟨b27, n28, o29, rfl⟩
        obtain ⟨_, _, _, _, _, rfl⟩ := o29.isl
        refine WO.q (.as (v := .sl _ _ _ _ _ _) rfl) rfl rfl ?_
        refine WO.nil ?_
        refine WX.reg ?_
        refine WO.q (.mv (v := .sl _ _ _ _ _ _) rfl) rfl rfl ?_
        refine WO.q (.ldA (i := 3) rfl rfl rfl ti35 rfl) rfl rfl ?_
        refine WO.q (.mv (v := .int _ _) rfl) rfl rfl ?_
        obtain ⟨y31, hy31, h⟩ := Option.bind_eq_some_iff.1 h
        refine WO.cS rfl rfl (ext_part_ok hy31) rfl rfl rfl ?_
        rintro _ rfl
        obtain ⟨y32, hy32, h⟩ := Option.bind_eq_some_iff.1 h
        obtain rfl := h20.nonnil hy32
        obtain ⟨_, i_y32, l_y32, r_y32⟩ := h20.at sl44 hy32 .i64
        obtain ⟨_, _, rfl, rfl, rfl⟩ := r_y32
        refine WO.q (.ia i_y32) rfl rfl ?_
        refine WO.mn (MOp.ostW (x' := y31) rfl (cA rfl) (fun _ => (.t .h)) ti35 rfl rfl h20 hy32 (Rp Ri Ri)) rfl ?_
        rintro _ _ ⟨c34, o33, rfl⟩
        refine WO.nil ?_
        refine WX.seq ?_
        refine WX.reg ?_
        refine WO.q (.mv (v := .sl _ _ _ _ _ _) rfl) rfl rfl ?_
        refine WO.q (.mv (v := .sl _ _ _ _ _ _) rfl) rfl rfl ?_
        refine WO.q (.as (v := .sl _ _ _ _ _ _) rfl) rfl rfl ?_
        refine WO.q (.as (v := .sl _ _ _ _ _ _) rfl) rfl rfl ?_
        refine WO.nil ?_
        obtain rfl := Option.some.inj h
        exact WX.ret (rs_ (rs_tmp rfl (rs_tmp rfl rs_nil))) fun st hp => hr _ hE _ _ ⟨_, _, _, hB, (hp.pk [2, 1] (by decide)), _, _, n28, _, _, _, false, _, rfl, rfl, o29, rfl, o33⟩
      · have q_k21 := of_decide_eq_false k21
        replace h := (if_neg q_k21).symm.trans h
        refine WX.condF rfl k21 ?_
        refine WX.skip ?_
        refine WX.seq ?_
        refine WX.reg ?_
        refine WO.q (.mv (v := .sl _ _ _ _ _ _) rfl) rfl rfl ?_
        refine WO.q (.mv (v := .sl _ _ _ _ _ _) rfl) rfl rfl ?_
        refine WO.q (.as (v := .sl _ _ _ _ _ _) rfl) rfl rfl ?_
        refine WO.q (.as (v := .sl _ _ _ _ _ _) rfl) rfl rfl ?_
        refine WO.nil ?_
        obtain rfl := Option.some.inj h
        exact WX.ret (rs_ (rs_tmp rfl (rs_tmp rfl rs_nil))) fun st hp => hr _ hE _ _ ⟨_, _, _, hB, (hp.pk [1, 0] (by decide)), _, _, n12, _, _, _, n18, _, rfl, rfl, h14, rfl, h20⟩
  · have q_k3 := of_decide_eq_false k3
    replace h := (if_neg q_k3).symm.trans h
    refine WX.condF rfl k3 ?_
    refine WX.exit rfl ?_
    refine WX.keep [0] (WX.pk [] (by decide) ?_) rfl
    obtain rfl := Option.some.inj h
    exact hx0 _ hE _ _ _ ⟨hB, _, h1, rfl, rfl⟩
theorem ext_List_split_l0_ok {B0 : Kn} {L : Own} {n0 : Nat} {x0 : List (Int × Int)} {x10 : List (Int × Int)} {x1 : Int} {x12 : Int} {Q : AV → St → Prop} {d : Nat} {e : ((List (Int × Int)) × (List (Int × Int))) ⊕ Unit} (h : iter (fun (s : Int × Int) => ext_List_split_l0 x0 x10 s.1 s.2) d (x1, x12) = some e) (g0 : ∀ r, e = (.inl r) → ∀ v st, ext_List_split_P B0 L r v st → Q v st) (g1 : ∀ s, e = (.inr s) → WXI Try.prog 52 n0 (Fin Try.prog Try.f71.results.toList n0 Q) [.code (ct [1, 1] (bodyOf Try.f71))] (ext_List_split_l0_X0 B0 x0) L) : WXI Try.prog 52 n0 (Fin Try.prog Try.f71.results.toList n0 Q) [.code (ct [1, 0, 1, 0, 0] (bodyOf Try.f71)), .lp (ct [1, 0, 1, 0, 0] (bodyOf Try.f71)), .blk 0, .code (ct [1, 1] (bodyOf Try.f71))] (ext_List_split_l0_I B0 x0 x10 x1 x12) L :=
  iter_ok (I := fun s => ext_List_split_l0_I B0 x0 x10 s.1 s.2) (D := fun e => (∀ r, e = (.inl r) → ∀ v st, ext_List_split_P B0 L r v st → Q v st) ∧ (∀ s, e = (.inr s) → WXI Try.prog 52 n0 (Fin Try.prog Try.f71.results.toList n0 Q) [.code (ct [1, 1] (bodyOf Try.f71))] (ext_List_split_l0_X0 B0 x0) L)) (fun E hn hx s o ho hE => ext_List_split_l0_s ho hn (fun s hs => (hx _ hs).2 _ rfl) (fun r hs => (hx _ hs).1 _ rfl) hE) h ⟨g0, g1⟩
theorem ext_List_split_ok {B0 : Kn} {L : Own} {a0 : List (Int × Int)} {a1 : Int} {v0_0 : AV} {r : (List (Int × Int)) × (List (Int × Int))} (g0_0 : RSl EPIi64Ii64Q B0 v0_0 a0) (h : ext_List_split a0 a1 = some r) : ∀ st, Hp B0 L st → ASpec Try.prog 71 [v0_0, .int .i64 a1] st (ext_List_split_P B0 L r) := by
  unfold ext_List_split at h
  refine bodyA (A := []) Try.func71 rfl (c := bodyOf Try.f71) rfl Try.ntmps71 (lb rfl) fun n0 => ?_
  have hB := KLe.refl B0
  obtain ⟨_, _, _, _, _, rfl⟩ := g0_0.isl
  refine WX.seq ?_
  refine WX.reg ?_
  refine WO.q (.as (v := .sl _ _ _ _ _ _) rfl) rfl rfl ?_
  refine WO.q (.as (v := .sl _ _ _ _ _ _) rfl) rfl rfl ?_
  refine WO.nil ?_
  refine WX.seq ?_
  refine WX.seq ?_
  refine WX.reg ?_
  refine WO.q (.mv (v := .sl _ _ _ _ _ _) rfl) rfl rfl ?_
  refine WO.q (.len rfl rfl rfl (sl44.len g0_0.isl)) rfl rfl ?_
  refine WO.q (.mv (v := .int _ _) rfl) rfl rfl ?_
  refine WO.nil ?_
  refine WX.block ?_
  refine WX.loop ?_
  obtain ⟨e36, he36, h⟩ := Option.bind_eq_some_iff.1 h
  refine WX.keep [0, 1, 10, 11, 12] (WX.pk [] (by decide) ?_) rfl
  refine ext_List_split_l0_ok he36 ?_ ?_ _ _ _ ⟨hB, _, _, g0_0, g0_0, rfl, rfl⟩
  · intro r38 he_
    subst he_
    replace h := (on_l h)
    obtain rfl := Option.some.inj h
    exact fun v st hp => hp
  · intro x39 he_
    subst he_
    replace h := (on_r h)
    rintro _ B _ ⟨hB, v40, h40, rfl, rfl⟩
    obtain ⟨_, _, _, _, _, rfl⟩ := h40.isl
    refine WX.seq ?_
    refine WX.reg ?_
    refine WO.q (.mv (v := .sl _ _ _ _ _ _) rfl) rfl rfl ?_
    obtain ⟨y41, hy41, h⟩ := Option.bind_eq_some_iff.1 h
    refine WO.c1 rfl rfl (slices_Clone_ext_List_alloc_Extent_ok h40 hy41) rfl rfl rfl ?_
    rintro _ B _ hK ⟨v42, b43, n44, c45, rfl, rfl, h46⟩
    obtain ⟨_, _, _, _, _, rfl⟩ := h46.isl
    replace h40 := h40.up hK
    replace hB := hB.trans hK
    refine WO.q (.as (v := .sl _ _ _ _ _ _) rfl) rfl rfl ?_
    refine WO.q (.as (v := .sl _ _ _ _ _ _) rfl) rfl rfl ?_
    refine WO.nil ?_
    obtain rfl := Option.some.inj h
    exact WX.ret (rs_ (rs_tmp rfl (rs_tmp rfl rs_nil))) fun st hp => ⟨_, _, _, hB, ((hp.pk [0] (by decide)).skip 0).swap2, _, _, n44, _, _, 0, true, [], rfl, rfl, h46, rfl, OSl.none _ _⟩
def ext_List_Held_P (B : Kn) (L : Own) (r : Int) : AV → St → Prop := CS B L fun v => v = .int .i64 r
def ext_List_Held_j7_I (B0 : Kn) (x3 : Int) (x6 : List (Int × Int)) (x8 : Int) : Fr → Kn → Own → Prop := fun fr B A => KLe B0 B ∧ ∃ v6, RSl EPIi64Ii64Q B v6 x6 ∧ fr = [(3, .int .i64 x3), (6, v6), (7, .int .i64 (x6.length : Int)), (8, .int .i64 x8)] ∧ A = []
def ext_List_Held_l0_I (B0 : Kn) (x6 : List (Int × Int)) (x3 : Int) (x8 : Int) : Fr → Kn → Own → Prop := fun fr B A => KLe B0 B ∧ ∃ v1, RSl EPIi64Ii64Q B v1 x6 ∧ fr = [(3, .int .i64 x3), (6, v1), (7, .int .i64 (x6.length : Int)), (8, .int .i64 x8)] ∧ A = []
def ext_List_Held_l0_X0 (B0 : Kn) (x3 : Int) : Fr → Kn → Own → Prop := fun fr B A => KLe B0 B ∧ fr = [(3, .int .i64 x3)] ∧ A = []
theorem ext_List_Held_j7_ok {B0 : Kn} {L : Own} {n0 : Nat} {x3 : Int} {x6 : List (Int × Int)} {x8 : Int} {Q : AV → St → Prop} {E : (Int × Int) ⊕ Int → Prop} {o : (Int × Int) ⊕ Int} (h : ext_List_Held_j7 x3 x6 x8 = some o) (hn : ∀ s, E (.inl s) → WXI Try.prog 21 n0 (Fin Try.prog Try.f36.results.toList n0 Q) [.lp (ct [1, 1, 0, 1, 0, 0] (bodyOf Try.f36)), .blk 0, .code (ct [1, 1, 1] (bodyOf Try.f36))] (ext_List_Held_l0_I B0 x6 s.1 s.2) L) (hx0 : ∀ s, E (.inr s) → WXI Try.prog 21 n0 (Fin Try.prog Try.f36.results.toList n0 Q) [.code (ct [1, 1, 1] (bodyOf Try.f36))] (ext_List_Held_l0_X0 B0 s) L) (hE : E o) : WXI Try.prog 21 n0 (Fin Try.prog Try.f36.results.toList n0 Q) [.code (ct [1, 1, 0, 1, 0, 0, 1, 1, 1] (bodyOf Try.f36)), .lp (ct [1, 1, 0, 1, 0, 0] (bodyOf Try.f36)), .blk 0, .code (ct [1, 1, 1] (bodyOf Try.f36))] (ext_List_Held_j7_I B0 x3 x6 x8) L := by
  unfold ext_List_Held_j7 at h
  rintro _ B _ ⟨hB, v6, h6, rfl, rfl⟩
  obtain ⟨_, _, _, _, _, rfl⟩ := h6.isl
  refine WX.reg ?_
  refine WO.q (.r fun _ => rfl) rfl rfl ?_
  refine WO.q (.mv (v := .int _ _) rfl) rfl rfl ?_
  refine WO.nil ?_
  refine WX.keepL [3, 6, 7, 8] (WX.pk [] (by decide) ?_) rfl
  obtain rfl := Option.some.inj h
  exact hn _ hE _ _ _ ⟨hB, _, h6, rfl, rfl⟩
theorem ext_List_Held_l0_s {B0 : Kn} {L : Own} {n0 : Nat} {x6 : List (Int × Int)} {x3 : Int} {x8 : Int} {Q : AV → St → Prop} {E : (Int × Int) ⊕ Int → Prop} {o : (Int × Int) ⊕ Int} (h : ext_List_Held_l0 x6 x3 x8 = some o) (hn : ∀ s, E (.inl s) → WXI Try.prog 21 n0 (Fin Try.prog Try.f36.results.toList n0 Q) [.lp (ct [1, 1, 0, 1, 0, 0] (bodyOf Try.f36)), .blk 0, .code (ct [1, 1, 1] (bodyOf Try.f36))] (ext_List_Held_l0_I B0 x6 s.1 s.2) L) (hx0 : ∀ s, E (.inr s) → WXI Try.prog 21 n0 (Fin Try.prog Try.f36.results.toList n0 Q) [.code (ct [1, 1, 1] (bodyOf Try.f36))] (ext_List_Held_l0_X0 B0 s) L) (hE : E o) : WXI Try.prog 21 n0 (Fin Try.prog Try.f36.results.toList n0 Q) [.code (ct [1, 1, 0, 1, 0, 0] (bodyOf Try.f36)), .lp (ct [1, 1, 0, 1, 0, 0] (bodyOf Try.f36)), .blk 0, .code (ct [1, 1, 1] (bodyOf Try.f36))] (ext_List_Held_l0_I B0 x6 x3 x8) L := by
  unfold ext_List_Held_l0 at h
  rintro _ B _ ⟨hB, v1, h1, rfl, rfl⟩
  obtain ⟨_, _, _, _, _, rfl⟩ := h1.isl
  refine WX.seq ?_
  refine WX.reg ?_
  refine WO.q (.r fun _ => rfl) rfl rfl ?_
  refine WO.nil ?_
  refine WX.seq ?_
  rcases bsp (decide (x8 < (x6.length : Int))) with k2 | k2
  · have q_k2 := of_decide_eq_true k2
    replace h := (if_pos q_k2).symm.trans h
    refine WX.condT rfl k2 ?_
    refine WX.skip ?_
    refine WX.seq ?_
    refine WX.block ?_
    refine WX.seq ?_
    refine WX.reg ?_
    obtain ⟨y3, hy3, h⟩ := Option.bind_eq_some_iff.1 h
    obtain ⟨b_y3, o_y3, _, i_y3, p_y3, r_y3⟩ := h1.at sl44 hy3 .i64
    obtain ⟨_, _, rfl, rfl, rfl⟩ := r_y3
    refine WO.q (.ia i_y3) rfl rfl ?_
    refine WO.q (.lpA rfl p_y3 ti35 rfl rfl) rfl rfl ?_
    refine WO.md (MOp.alloc ti35 rfl) rfl rfl ?_
    rintro _ _ ⟨b4, rfl, rfl⟩
    refine WO.mn (MOp.storeW rfl (cA rfl) .h ti35 rfl rfl rfl) rfl ?_
    rintro _ _ rfl
    refine WO.nil ?_
    refine WX.seq ?_
    refine WX.reg ?_
    refine WO.q (.fa (fa35_0 _ _)) rfl rfl ?_
    refine WO.q (.ldS (i := 0) rfl rfl rfl ti3 rfl) rfl rfl ?_
    refine WO.q (.r fun _ => rfl) rfl rfl ?_
    refine WO.nil ?_
    rcases bsp (decide (y3.1 ≠ (-1))) with k5 | k5
    · have q_k5 := of_decide_eq_true k5
      replace h := (if_pos q_k5).symm.trans h
      refine WX.condT rfl k5 ?_
      refine WX.reg ?_
      refine WO.q (.mv (v := .int _ _) rfl) rfl rfl ?_
      refine WO.q (.fa (fa35_1 _ _)) rfl rfl ?_
      refine WO.q (.ldS (i := 0) rfl rfl rfl ti3 rfl) rfl rfl ?_
      refine WO.q (.r fun _ => rfl) rfl rfl ?_
      refine WO.q (.as (v := .int _ _) rfl) rfl rfl ?_
      refine WO.nil ?_
      refine WX.pop ?_
      refine WX.keep [3, 6, 7, 8] (WX.pk [] (by decide) ?_) rfl
      exact ext_List_Held_j7_ok h hn hx0 hE _ _ _ ⟨hB, _, h1, rfl, rfl⟩
    · have q_k5 := of_decide_eq_false k5
      replace h := (if_neg q_k5).symm.trans h
      refine WX.condF rfl k5 ?_
      refine WX.skip ?_
      refine WX.pop ?_
      refine WX.keep [3, 6, 7, 8] (WX.pk [] (by decide) ?_) rfl
      exact ext_List_Held_j7_ok h hn hx0 hE _ _ _ ⟨hB, _, h1, rfl, rfl⟩
  · have q_k2 := of_decide_eq_false k2
    replace h := (if_neg q_k2).symm.trans h
    refine WX.condF rfl k2 ?_
    refine WX.exit rfl ?_
    refine WX.keep [3] (WX.pk [] (by decide) ?_) rfl
    obtain rfl := Option.some.inj h
    exact hx0 _ hE _ _ _ ⟨hB, rfl, rfl⟩
theorem ext_List_Held_l0_ok {B0 : Kn} {L : Own} {n0 : Nat} {x6 : List (Int × Int)} {x3 : Int} {x8 : Int} {Q : AV → St → Prop} {d : Nat} {e : Int} (h : iter (fun (s : Int × Int) => ext_List_Held_l0 x6 s.1 s.2) d (x3, x8) = some e) (g0 : ∀ s, e = s → WXI Try.prog 21 n0 (Fin Try.prog Try.f36.results.toList n0 Q) [.code (ct [1, 1, 1] (bodyOf Try.f36))] (ext_List_Held_l0_X0 B0 s) L) : WXI Try.prog 21 n0 (Fin Try.prog Try.f36.results.toList n0 Q) [.code (ct [1, 1, 0, 1, 0, 0] (bodyOf Try.f36)), .lp (ct [1, 1, 0, 1, 0, 0] (bodyOf Try.f36)), .blk 0, .code (ct [1, 1, 1] (bodyOf Try.f36))] (ext_List_Held_l0_I B0 x6 x3 x8) L :=
  iter_ok (I := fun s => ext_List_Held_l0_I B0 x6 s.1 s.2) (D := fun e => (∀ s, e = s → WXI Try.prog 21 n0 (Fin Try.prog Try.f36.results.toList n0 Q) [.code (ct [1, 1, 1] (bodyOf Try.f36))] (ext_List_Held_l0_X0 B0 s) L)) (fun E hn hx s o ho hE => ext_List_Held_l0_s ho hn (fun s hs => (hx _ hs) _ rfl)  hE) h g0
theorem ext_List_Held_ok {B0 : Kn} {L : Own} {a0 : List (Int × Int)} {v0_0 : AV} {r : Int} (g0_0 : RSl EPIi64Ii64Q B0 v0_0 a0) (h : ext_List_Held a0 = some r) : ∀ st, Hp B0 L st → ASpec Try.prog 36 [v0_0] st (ext_List_Held_P B0 L r) := by
  unfold ext_List_Held at h
  refine bodyA (A := []) Try.func36 rfl (c := bodyOf Try.f36) rfl Try.ntmps36 (lb rfl) fun n0 => ?_
  have hB := KLe.refl B0
  obtain ⟨_, _, _, _, _, rfl⟩ := g0_0.isl
  refine WX.seq ?_
  refine WX.reg ?_
  refine WO.q (.as (v := .int _ _) rfl) rfl rfl ?_
  refine WO.nil ?_
  refine WX.seq ?_
  refine WX.reg ?_
  refine WO.q (.as (v := .int _ _) rfl) rfl rfl ?_
  refine WO.nil ?_
  refine WX.seq ?_
  refine WX.seq ?_
  refine WX.reg ?_
  refine WO.q (.mv (v := .sl _ _ _ _ _ _) rfl) rfl rfl ?_
  refine WO.q (.len rfl rfl rfl (sl44.len g0_0.isl)) rfl rfl ?_
  refine WO.q (.mv (v := .int _ _) rfl) rfl rfl ?_
  refine WO.nil ?_
  refine WX.block ?_
  refine WX.loop ?_
  obtain ⟨e7, he7, h⟩ := Option.bind_eq_some_iff.1 h
  refine WX.keep [3, 6, 7, 8] (WX.pk [] (by decide) ?_) rfl
  refine ext_List_Held_l0_ok he7 ?_ _ _ _ ⟨hB, _, g0_0, rfl, rfl⟩
  · intro s8 he_
    subst he_
    replace h := h
    rintro _ B _ ⟨hB, rfl, rfl⟩
    refine WX.seq ?_
    refine WX.reg ?_
    refine WO.q (.mv (v := .int _ _) rfl) rfl rfl ?_
    refine WO.q (.as (v := .int _ _) rfl) rfl rfl ?_
    refine WO.nil ?_
    obtain rfl := Option.some.inj h
    exact WX.ret (rs_ (rs_tmp rfl rs_nil)) fun st hp => ⟨(hp.pk [] (by decide)).le hB, rfl⟩
def ext_List_Fill_P (B : Kn) (L : Own) (r : (List (Int × Int)) × Int) : AV → St → Prop := C0 B L fun B' v => ∃ w0, v = .tup [w0, .int .i64 r.2] ∧ RSl EPIi64Ii64Q B' w0 r.1
def ext_List_Fill_j1_I (B0 : Kn) (x0 : List (Int × Int)) (x1 : Int) (x44 : Bool) (zb5 : Int × Int) : Fr → Kn → Own → Prop := fun fr B A => KLe B0 B ∧ ∃ b5 v6, RSl EPIi64Ii64Q B v6 x0 ∧ fr = [(0, v6), (1, .int .i64 x1), (5, .ptr b5 0), (44, .bool x44)] ∧ A = [(b5, some [.int .i64 zb5.1, .int .i64 zb5.2])]
theorem ext_List_Fill_j1_ok {B0 : Kn} {L : Own} {n0 : Nat} {x0 : List (Int × Int)} {x1 : Int} {x44 : Bool} {zb5 : Int × Int} {r : (List (Int × Int)) × Int} (h : ext_List_Fill_j1 x0 x1 x44 zb5 = some r) : WXI Try.prog 70 n0 (Fin Try.prog Try.f30.results.toList n0 (ext_List_Fill_P B0 L r)) [.code (ct [1, 0, 1] (bodyOf Try.f30)), .code (ct [1, 1] (bodyOf Try.f30))] (ext_List_Fill_j1_I B0 x0 x1 x44 zb5) L := by
  unfold ext_List_Fill_j1 at h
  rintro _ B _ ⟨hB, b5, v6, h6, rfl, rfl⟩
  obtain ⟨_, _, _, _, _, rfl⟩ := h6.isl
  rcases bsp x44 with k7 | k7
  · replace h := (if_pos k7).symm.trans h
    refine WX.condT rfl k7 ?_
    refine WX.seq ?_
    refine WX.reg ?_
    refine WO.q (.as (v := .sl _ _ _ _ _ _) rfl) rfl rfl ?_
    refine WO.q (.as (v := .int _ _) rfl) rfl rfl ?_
    refine WO.nil ?_
    obtain rfl := Option.some.inj h
    exact WX.ret (rs_ (rs_tmp rfl (rs_tmp rfl rs_nil))) fun st hp => ⟨_, hB, (hp.pk [] (by decide)), .sl 0 0 0 0 0 true, rfl, (RSl.nil _ _)⟩
  · replace h := (if_neg (bnt k7)).symm.trans h
    refine WX.condF rfl k7 ?_
    refine WX.skip ?_
    refine WX.seq ?_
    refine WX.reg ?_
    refine WO.q (.mv (v := .sl _ _ _ _ _ _) rfl) rfl rfl ?_
    refine WO.q (.mv (v := .int _ _) rfl) rfl rfl ?_
    obtain ⟨y8, hy8, h⟩ := Option.bind_eq_some_iff.1 h
    refine WO.c2 rfl rfl (ext_List_split_ok h6 hy8) rfl rfl rfl ?_
    rintro _ B _ _ hK ⟨v9, b10, n11, c12, v14, b15, n16, c17, rfl, rfl, h13, rfl, h18⟩
    obtain ⟨_, _, _, _, _, rfl⟩ := h13.isl
    obtain ⟨_, _, _, _, _, rfl⟩ := h18.isl
    replace h6 := h6.up hK
    replace hB := hB.trans hK
    refine WO.q (.mv (v := .tup _) rfl) rfl rfl ?_
    refine WO.q (.r fun _ => rfl) rfl rfl ?_
    refine WO.q (.r fun _ => rfl) rfl rfl ?_
    refine WO.q (.as (v := .sl _ _ _ _ _ _) rfl) rfl rfl ?_
    refine WO.q (.as (v := .sl _ _ _ _ _ _) rfl) rfl rfl ?_
    refine WO.nil ?_
    refine WX.seq ?_
    refine WX.reg ?_
    refine WO.q (.mv (v := .sl _ _ _ _ _ _) rfl) rfl rfl ?_
    refine WO.q (.fa (fa35_1 _ _)) rfl rfl ?_
    refine WO.q (.ldS (i := 2) rfl rfl rfl ti3 rfl) rfl rfl ?_
    refine WO.fz (j := 1) h18 rfl ?_
    intro B hK g19
    replace h13 := h13.up hK
    replace hB := hB.trans hK
    obtain ⟨y20, hy20, h⟩ := Option.bind_eq_some_iff.1 h
    refine WO.c2 rfl rfl (ext_List_split_ok g19 hy20) rfl rfl rfl ?_
    rintro _ B _ _ hK ⟨v21, b22, n23, c24, v26, b27, n28, c29, rfl, rfl, h25, rfl, h30⟩
    obtain ⟨_, _, _, _, _, rfl⟩ := h25.isl
    obtain ⟨_, _, _, _, _, rfl⟩ := h30.isl
    replace g19 := g19.up hK
    replace h13 := h13.up hK
    replace hB := hB.trans hK
    refine WO.q (.mv (v := .tup _) rfl) rfl rfl ?_
    refine WO.q (.r fun _ => rfl) rfl rfl ?_
    refine WO.q (.r fun _ => rfl) rfl rfl ?_
    refine WO.q (.as (v := .sl _ _ _ _ _ _) rfl) rfl rfl ?_
    refine WO.q (.as (v := .sl _ _ _ _ _ _) rfl) rfl rfl ?_
    refine WO.nil ?_
    refine WX.seq ?_
    refine WX.seq ?_
    refine WX.reg ?_
    refine WO.q (.mv (v := .sl _ _ _ _ _ _) rfl) rfl rfl ?_
    obtain ⟨y31, hy31, h⟩ := Option.bind_eq_some_iff.1 h
    refine WO.cS rfl rfl (lendC (j := 0) h25 rfl fun _ K33 g32 => ext_List_Held_ok g32 hy31) rfl rfl rfl ?_
    rintro _ rfl
    refine WO.q (.r fun _ => rfl) rfl rfl ?_
    refine WO.nil ?_
    rcases bsp (decide (0 < y31)) with k34 | k34
    · have q_k34 := of_decide_eq_true k34
      replace h := (if_pos q_k34).symm.trans h
      refine WX.condT rfl k34 ?_
      refine WX.seq ?_
      refine WX.reg ?_
      refine WO.q (.as (v := .sl _ _ _ _ _ _) rfl) rfl rfl ?_
      refine WO.q (.as (v := .int _ _) rfl) rfl rfl ?_
      refine WO.nil ?_
      obtain rfl := Option.some.inj h
      exact WX.ret (rs_ (rs_tmp rfl (rs_tmp rfl rs_nil))) fun st hp => ⟨_, hB, (hp.pk [] (by decide)), .sl 0 0 0 0 0 true, rfl, (RSl.nil _ _)⟩
    · have q_k34 := of_decide_eq_false k34
      replace h := (if_neg q_k34).symm.trans h
      refine WX.condF rfl k34 ?_
      refine WX.skip ?_
      refine WX.seq ?_
      refine WX.reg ?_
      refine WO.q (.mv (v := .sl _ _ _ _ _ _) rfl) rfl rfl ?_
      refine WO.q (.ldA (i := 3) rfl rfl rfl ti35 rfl) rfl rfl ?_
      refine WO.md (MOp.bs (l := ([zb5] : List (Int × Int))) sl44 (RL.cons (Rp Ri Ri) RL.nil) (lb rfl) rfl rfl) rfl rfl ?_
      rintro v37 _ ⟨b35, o36, rfl⟩
      obtain ⟨_, _, _, _, _, rfl⟩ := o36.isl
      refine WO.q (.mv (v := .sl _ _ _ _ _ _) rfl) rfl rfl ?_
      refine WO.fz (j := 3) h13 rfl ?_
      intro B hK g39
      replace h30 := h30.up hK
      replace h25 := h25.up hK
      replace o36 := o36.up hK
      replace hB := hB.trans hK
      refine WO.fz (j := 0) o36 rfl ?_
      intro B hK g40
      replace g39 := g39.up hK
      replace h30 := h30.up hK
      replace h25 := h25.up hK
      replace hB := hB.trans hK
      refine WO.fz (j := 1) h30 rfl ?_
      intro B hK g41
      replace g39 := g39.up hK
      replace g40 := g40.up hK
      replace h25 := h25.up hK
      replace hB := hB.trans hK
      refine WO.md (MOp.bs (l := ([y8.1, [zb5], y20.2] : List (List (Int × Int)))) sl124 (RL.cons (Rl g39) (RL.cons (Rl g40) (RL.cons (Rl g41) RL.nil))) (lb rfl) rfl rfl) rfl rfl ?_
      rintro v44 _ ⟨b42, o43, rfl⟩
      obtain ⟨_, _, _, _, _, rfl⟩ := o43.isl
      refine WO.fz (j := 0) o43 rfl ?_
      intro B hK g46
      replace g39 := g39.up hK
      replace g41 := g41.up hK
      replace g40 := g40.up hK
      replace h25 := h25.up hK
      replace hB := hB.trans hK
      obtain ⟨y47, hy47, h⟩ := Option.bind_eq_some_iff.1 h
      refine WO.c1 rfl rfl (ext_together_ok g46 hy47) rfl rfl rfl ?_
      rintro _ B _ hK ⟨v48, b49, n50, c51, rfl, rfl, h52⟩
      obtain ⟨_, _, _, _, _, rfl⟩ := h52.isl
      replace g39 := g39.up hK
      replace g41 := g41.up hK
      replace g40 := g40.up hK
      replace g46 := g46.up hK
      replace h25 := h25.up hK
      replace hB := hB.trans hK
      refine WO.fz (j := 0) h52 rfl ?_
      intro B hK g53
      replace g39 := g39.up hK
      replace g41 := g41.up hK
      replace g40 := g40.up hK
      replace g46 := g46.up hK
      replace h25 := h25.up hK
      replace hB := hB.trans hK
      obtain ⟨y54, hy54, h⟩ := Option.bind_eq_some_iff.1 h
      refine WO.c0 rfl rfl (ext_checked_ok g53 hy54) rfl rfl rfl ?_
      rintro _ B hK ⟨v55, rfl, h56⟩
      obtain ⟨_, _, _, _, _, rfl⟩ := h56.isl
      replace g39 := g39.up hK
      replace g41 := g41.up hK
      replace g40 := g40.up hK
      replace g46 := g46.up hK
      replace g53 := g53.up hK
      replace h25 := h25.up hK
      replace hB := hB.trans hK
      refine WO.q (.r fun _ => rfl) rfl rfl ?_
      refine WO.q (.r fun _ => rfl) rfl rfl ?_
      refine WO.q (.as (v := .sl _ _ _ _ _ _) rfl) rfl rfl ?_
      refine WO.q (.as (v := .int _ _) rfl) rfl rfl ?_
      refine WO.nil ?_
      obtain rfl := Option.some.inj h
      exact WX.ret (rs_ (rs_tmp rfl (rs_tmp rfl rs_nil))) fun st hp => ⟨_, hB, (hp.pk [] (by decide)), _, rfl, h56⟩
theorem ext_List_Fill_ok {B0 : Kn} {L : Own} {a0 : List (Int × Int)} {a1 : Int} {a2 : Int × Int} {v0_0 : AV} {r : (List (Int × Int)) × Int} (g0_0 : RSl EPIi64Ii64Q B0 v0_0 a0) (h : ext_List_Fill a0 a1 a2 = some r) : ∀ st, Hp B0 L st → ASpec Try.prog 30 [v0_0, .int .i64 a1, .agg [.int .i64 a2.1, .int .i64 a2.2]] st (ext_List_Fill_P B0 L r) := by
  unfold ext_List_Fill at h
  refine bodyA (A := []) Try.func30 rfl (c := bodyOf Try.f30) rfl Try.ntmps30 (lb rfl) fun n0 => ?_
  have hB := KLe.refl B0
  obtain ⟨_, _, _, _, _, rfl⟩ := g0_0.isl
  refine WX.seq ?_
  refine WX.reg ?_
  refine WO.md (MOp.box (cA rfl)) rfl rfl ?_
  rintro _ _ ⟨b1, rfl, rfl⟩
  refine WO.q (.as (v := .sl _ _ _ _ _ _) rfl) rfl rfl ?_
  refine WO.q (.as (v := .int _ _) rfl) rfl rfl ?_
  refine WO.nil ?_
  refine WX.seq ?_
  refine WX.seq ?_
  refine WX.drw (Plan.of [0, 1, 2, 3, 4, 5, 6, 7, 8, 9, 10, 11, 12, 13, 14, 15, 16, 17, 18, 19, 20, 21, 22, 23, 24, 25, 26, 28, 29, 27, 30, 31, 32] .nil) _ mixed (by kernel_rfl) rfl (pk_sub [0]) ?_
  refine WP.q (i := 0) rfl (.mv (v := .sl _ _ _ _ _ _) rfl) rfl rfl rfl ?_
  obtain ⟨y2, hy2, h⟩ := Option.bind_eq_some_iff.1 h
  refine WP.cS (i := 1) rfl rfl rfl (ext_List_Right_ok g0_0 hy2) rfl rfl rfl ?_
  rintro _ rfl
  refine WP.q (i := 2) rfl (.r fun _ => rfl) rfl rfl rfl ?_
  refine WP.q (i := 3) rfl (.mv (v := .bool _) rfl) rfl rfl rfl ?_
  rcases bsp y2 with k3 | k3
  · replace h := (if_pos k3).symm.trans h
    refine WP.q (i := 4) rfl (.fa (fa35_0 _ _)) rfl (wg rfl rfl (gf (f_not k3))) rfl ?_
    refine WP.q (i := 5) rfl (.ldS (i := 0) rfl rfl rfl ti3 rfl) rfl (wg rfl rfl (gf (f_not k3))) rfl ?_
    refine WP.q (i := 6) rfl (.r fun _ => rfl) rfl (wg rfl rfl (gf (f_not k3))) rfl ?_
    refine WP.q (i := 7) rfl (.pfv (v := .bool _) rfl (f_not k3) rfl) rfl rfl rfl ?_
    refine WP.q (i := 8) rfl (.mv (v := .bool _) rfl) rfl rfl rfl ?_
    rcases bsp (decide (a2.1 < 0)) with k4 | k4
    · have q_k4 := of_decide_eq_true k4
      replace h := (if_pos q_k4).symm.trans h
      refine WP.sk (i := 9) rfl rfl (wg rfl rfl (gfn k4)) rfl ?_
      refine WP.sk (i := 10) rfl rfl (wg rfl rfl (gfn k4)) rfl ?_
      refine WP.sk (i := 11) rfl rfl (wg rfl rfl (gfn k4)) rfl ?_
      refine WP.q (i := 12) rfl (.ptv (v := .bool _) rfl k4 rfl) rfl rfl rfl ?_
      refine WP.q (i := 13) rfl (.mv (v := .bool _) rfl) rfl rfl rfl ?_
      refine WP.sk (i := 14) rfl rfl (wg rfl rfl (gfn rfl)) rfl ?_
      refine WP.sk (i := 15) rfl rfl (wg rfl rfl (gfn rfl)) rfl ?_
      refine WP.q (i := 16) rfl (.ptv (v := .bool _) rfl rfl rfl) rfl rfl rfl ?_
      refine WP.q (i := 17) rfl (.mv (v := .bool _) rfl) rfl rfl rfl ?_
      refine WP.sk (i := 18) rfl rfl (wg rfl rfl (gfn rfl)) rfl ?_
      refine WP.sk (i := 19) rfl rfl (wg rfl rfl (gfn rfl)) rfl ?_
      refine WP.sk (i := 20) rfl rfl (wg rfl rfl (gfn rfl)) rfl ?_
      refine WP.sd (i := 21) rfl rfl (wg rfl rfl (gfn rfl)) rfl ?_
      refine WP.sk (i := 22) rfl rfl (wg rfl rfl (gfn rfl)) rfl ?_
      refine WP.q (i := 23) rfl (.ptv (v := .bool _) rfl rfl rfl) rfl rfl rfl ?_
      refine WP.q (i := 24) rfl (.mv (v := .bool _) rfl) rfl rfl rfl ?_
      refine WP.sk (i := 25) rfl rfl (wg rfl rfl (gfn rfl)) rfl ?_
      refine WP.sk (i := 26) rfl rfl (wg rfl rfl (gfn rfl)) rfl ?_
      refine WP.sk (i := 28) rfl rfl (wg rfl rfl (gfn rfl)) rfl ?_
      refine WP.sk (i := 29) rfl rfl (wg rfl rfl (gfn rfl)) rfl ?_
      refine WP.sd (i := 27) rfl rfl (wg rfl rfl (gfn rfl)) rfl ?_
      refine WP.sk (i := 30) rfl rfl (wg rfl rfl (gfn rfl)) rfl ?_
      refine WP.sk (i := 31) rfl rfl (wg rfl rfl (gfn rfl)) rfl ?_
      refine WP.q (i := 32) rfl (.ptv (v := .bool _) rfl rfl rfl) rfl rfl rfl ?_
      refine WP.nil ?_
      refine WX.keep [0, 1, 5, 44] (WX.pk [0] (by decide) ?_) rfl
      exact ext_List_Fill_j1_ok h _ _ _ ⟨hB, _, _, g0_0, rfl, rfl⟩
    · have q_k4 := of_decide_eq_false k4
      replace h := (if_neg q_k4).symm.trans h
      refine WP.q (i := 9) rfl (.fa (fa35_1 _ _)) rfl (wg rfl rfl (gf k4)) rfl ?_
      refine WP.q (i := 10) rfl (.ldS (i := 0) rfl rfl rfl ti3 rfl) rfl (wg rfl rfl (gf k4)) rfl ?_
      refine WP.q (i := 11) rfl (.r fun _ => rfl) rfl (wg rfl rfl (gf k4)) rfl ?_
      refine WP.q (i := 12) rfl (.pfv (v := .bool _) rfl k4 rfl) rfl rfl rfl ?_
      refine WP.q (i := 13) rfl (.mv (v := .bool _) rfl) rfl rfl rfl ?_
      rcases bsp (decide (a2.2 < 1)) with k57 | k57
      · have q_k57 := of_decide_eq_true k57
        replace h := (if_pos q_k57).symm.trans h
        refine WP.sk (i := 14) rfl rfl (wg rfl rfl (gfn k57)) rfl ?_
        refine WP.sk (i := 15) rfl rfl (wg rfl rfl (gfn k57)) rfl ?_
        refine WP.q (i := 16) rfl (.ptv (v := .bool _) rfl k57 rfl) rfl rfl rfl ?_
        refine WP.q (i := 17) rfl (.mv (v := .bool _) rfl) rfl rfl rfl ?_
        refine WP.sk (i := 18) rfl rfl (wg rfl rfl (gfn rfl)) rfl ?_
        refine WP.sk (i := 19) rfl rfl (wg rfl rfl (gfn rfl)) rfl ?_
        refine WP.sk (i := 20) rfl rfl (wg rfl rfl (gfn rfl)) rfl ?_
        refine WP.sd (i := 21) rfl rfl (wg rfl rfl (gfn rfl)) rfl ?_
        refine WP.sk (i := 22) rfl rfl (wg rfl rfl (gfn rfl)) rfl ?_
        refine WP.q (i := 23) rfl (.ptv (v := .bool _) rfl rfl rfl) rfl rfl rfl ?_
        refine WP.q (i := 24) rfl (.mv (v := .bool _) rfl) rfl rfl rfl ?_
        refine WP.sk (i := 25) rfl rfl (wg rfl rfl (gfn rfl)) rfl ?_
        refine WP.sk (i := 26) rfl rfl (wg rfl rfl (gfn rfl)) rfl ?_
        refine WP.sk (i := 28) rfl rfl (wg rfl rfl (gfn rfl)) rfl ?_
        refine WP.sk (i := 29) rfl rfl (wg rfl rfl (gfn rfl)) rfl ?_
        refine WP.sd (i := 27) rfl rfl (wg rfl rfl (gfn rfl)) rfl ?_
        refine WP.sk (i := 30) rfl rfl (wg rfl rfl (gfn rfl)) rfl ?_
        refine WP.sk (i := 31) rfl rfl (wg rfl rfl (gfn rfl)) rfl ?_
        refine WP.q (i := 32) rfl (.ptv (v := .bool _) rfl rfl rfl) rfl rfl rfl ?_
        refine WP.nil ?_
        refine WX.keep [0, 1, 5, 44] (WX.pk [0] (by decide) ?_) rfl
        exact ext_List_Fill_j1_ok h _ _ _ ⟨hB, _, _, g0_0, rfl, rfl⟩
      · have q_k57 := of_decide_eq_false k57
        replace h := (if_neg q_k57).symm.trans h
        refine WP.q (i := 14) rfl (.mv (v := .int _ _) rfl) rfl (wg rfl rfl (gf k57)) rfl ?_
        refine WP.q (i := 15) rfl (.r fun _ => rfl) rfl (wg rfl rfl (gf k57)) rfl ?_
        refine WP.q (i := 16) rfl (.pfv (v := .bool _) rfl k57 rfl) rfl rfl rfl ?_
        refine WP.q (i := 17) rfl (.mv (v := .bool _) rfl) rfl rfl rfl ?_
        rcases bsp (decide (a1 < 0)) with k58 | k58
        · have q_k58 := of_decide_eq_true k58
          replace h := (if_pos q_k58).symm.trans h
          refine WP.sk (i := 18) rfl rfl (wg rfl rfl (gfn k58)) rfl ?_
          refine WP.sk (i := 19) rfl rfl (wg rfl rfl (gfn k58)) rfl ?_
          refine WP.sk (i := 20) rfl rfl (wg rfl rfl (gfn k58)) rfl ?_
          refine WP.sd (i := 21) rfl rfl (wg rfl rfl (gfn k58)) rfl ?_
          refine WP.sk (i := 22) rfl rfl (wg rfl rfl (gfn k58)) rfl ?_
          refine WP.q (i := 23) rfl (.ptv (v := .bool _) rfl k58 rfl) rfl rfl rfl ?_
          refine WP.q (i := 24) rfl (.mv (v := .bool _) rfl) rfl rfl rfl ?_
          refine WP.sk (i := 25) rfl rfl (wg rfl rfl (gfn rfl)) rfl ?_
          refine WP.sk (i := 26) rfl rfl (wg rfl rfl (gfn rfl)) rfl ?_
          refine WP.sk (i := 28) rfl rfl (wg rfl rfl (gfn rfl)) rfl ?_
          refine WP.sk (i := 29) rfl rfl (wg rfl rfl (gfn rfl)) rfl ?_
          refine WP.sd (i := 27) rfl rfl (wg rfl rfl (gfn rfl)) rfl ?_
          refine WP.sk (i := 30) rfl rfl (wg rfl rfl (gfn rfl)) rfl ?_
          refine WP.sk (i := 31) rfl rfl (wg rfl rfl (gfn rfl)) rfl ?_
          refine WP.q (i := 32) rfl (.ptv (v := .bool _) rfl rfl rfl) rfl rfl rfl ?_
          refine WP.nil ?_
          refine WX.keep [0, 1, 5, 44] (WX.pk [0] (by decide) ?_) rfl
          exact ext_List_Fill_j1_ok h _ _ _ ⟨hB, _, _, g0_0, rfl, rfl⟩
        · have q_k58 := of_decide_eq_false k58
          replace h := (if_neg q_k58).symm.trans h
          refine WP.q (i := 18) rfl (.fa (fa35_1 _ _)) rfl (wg rfl rfl (gf k58)) rfl ?_
          refine WP.q (i := 19) rfl (.ldS (i := 0) rfl rfl rfl ti3 rfl) rfl (wg rfl rfl (gf k58)) rfl ?_
          refine WP.q (i := 20) rfl (.mv (v := .sl _ _ _ _ _ _) rfl) rfl (wg rfl rfl (gf k58)) rfl ?_
          obtain ⟨y59, hy59, h⟩ := Option.bind_eq_some_iff.1 h
          refine WP.cS (i := 21) rfl rfl rfl (ext_List_Blocks_ok g0_0 hy59) rfl (wg rfl rfl (gf k58)) rfl ?_
          rintro _ rfl
          refine WP.q (i := 22) rfl (.r fun _ => rfl) rfl (wg rfl rfl (gf k58)) rfl ?_
          refine WP.q (i := 23) rfl (.pfv (v := .bool _) rfl k58 rfl) rfl rfl rfl ?_
          refine WP.q (i := 24) rfl (.mv (v := .bool _) rfl) rfl rfl rfl ?_
          rcases bsp (decide (y59 < a2.2)) with k60 | k60
          · have q_k60 := of_decide_eq_true k60
            replace h := (if_pos q_k60).symm.trans h
            refine WP.sk (i := 25) rfl rfl (wg rfl rfl (gfn k60)) rfl ?_
            refine WP.sk (i := 26) rfl rfl (wg rfl rfl (gfn k60)) rfl ?_
            refine WP.sk (i := 28) rfl rfl (wg rfl rfl (gfn k60)) rfl ?_
            refine WP.sk (i := 29) rfl rfl (wg rfl rfl (gfn k60)) rfl ?_
            refine WP.sd (i := 27) rfl rfl (wg rfl rfl (gfn k60)) rfl ?_
            refine WP.sk (i := 30) rfl rfl (wg rfl rfl (gfn k60)) rfl ?_
            refine WP.sk (i := 31) rfl rfl (wg rfl rfl (gfn k60)) rfl ?_
            refine WP.q (i := 32) rfl (.ptv (v := .bool _) rfl k60 rfl) rfl rfl rfl ?_
            refine WP.nil ?_
            refine WX.keep [0, 1, 5, 44] (WX.pk [0] (by decide) ?_) rfl
            exact ext_List_Fill_j1_ok h _ _ _ ⟨hB, _, _, g0_0, rfl, rfl⟩
          · have q_k60 := of_decide_eq_false k60
            replace h := (if_neg q_k60).symm.trans h
            refine WP.q (i := 25) rfl (.mv (v := .int _ _) rfl) rfl (wg rfl rfl (gf k60)) rfl ?_
            refine WP.q (i := 26) rfl (.mv (v := .sl _ _ _ _ _ _) rfl) rfl (wg rfl rfl (gf k60)) rfl ?_
            refine WP.q (i := 28) rfl (.fa (fa35_1 _ _)) rfl (wg rfl rfl (gf k60)) rfl ?_
            refine WP.q (i := 29) rfl (.ldS (i := 0) rfl rfl rfl ti3 rfl) rfl (wg rfl rfl (gf k60)) rfl ?_
            obtain ⟨y61, hy61, h⟩ := Option.bind_eq_some_iff.1 h
            refine WP.cS (i := 27) rfl rfl rfl (ext_List_Blocks_ok g0_0 hy61) rfl (wg rfl rfl (gf k60)) rfl ?_
            rintro _ rfl
            refine WP.q (i := 30) rfl (.r fun _ => rfl) rfl (wg rfl rfl (gf k60)) rfl ?_
            refine WP.q (i := 31) rfl (.r fun _ => rfl) rfl (wg rfl rfl (gf k60)) rfl ?_
            refine WP.q (i := 32) rfl (.pfv (v := .bool _) rfl k60 rfl) rfl rfl rfl ?_
            refine WP.nil ?_
            refine WX.keep [0, 1, 5, 44] (WX.pk [0] (by decide) ?_) rfl
            exact ext_List_Fill_j1_ok h _ _ _ ⟨hB, _, _, g0_0, rfl, rfl⟩
  · replace h := (if_neg (bnt k3)).symm.trans h
    refine WP.sk (i := 4) rfl rfl (wg rfl rfl (gfn (t_not k3))) rfl ?_
    refine WP.sk (i := 5) rfl rfl (wg rfl rfl (gfn (t_not k3))) rfl ?_
    refine WP.sk (i := 6) rfl rfl (wg rfl rfl (gfn (t_not k3))) rfl ?_
    refine WP.q (i := 7) rfl (.ptv (v := .bool _) rfl (t_not k3) rfl) rfl rfl rfl ?_
    refine WP.q (i := 8) rfl (.mv (v := .bool _) rfl) rfl rfl rfl ?_
    refine WP.sk (i := 9) rfl rfl (wg rfl rfl (gfn rfl)) rfl ?_
    refine WP.sk (i := 10) rfl rfl (wg rfl rfl (gfn rfl)) rfl ?_
    refine WP.sk (i := 11) rfl rfl (wg rfl rfl (gfn rfl)) rfl ?_
    refine WP.q (i := 12) rfl (.ptv (v := .bool _) rfl rfl rfl) rfl rfl rfl ?_
    refine WP.q (i := 13) rfl (.mv (v := .bool _) rfl) rfl rfl rfl ?_
    refine WP.sk (i := 14) rfl rfl (wg rfl rfl (gfn rfl)) rfl ?_
    refine WP.sk (i := 15) rfl rfl (wg rfl rfl (gfn rfl)) rfl ?_
    refine WP.q (i := 16) rfl (.ptv (v := .bool _) rfl rfl rfl) rfl rfl rfl ?_
    refine WP.q (i := 17) rfl (.mv (v := .bool _) rfl) rfl rfl rfl ?_
    refine WP.sk (i := 18) rfl rfl (wg rfl rfl (gfn rfl)) rfl ?_
    refine WP.sk (i := 19) rfl rfl (wg rfl rfl (gfn rfl)) rfl ?_
    refine WP.sk (i := 20) rfl rfl (wg rfl rfl (gfn rfl)) rfl ?_
    refine WP.sd (i := 21) rfl rfl (wg rfl rfl (gfn rfl)) rfl ?_
    refine WP.sk (i := 22) rfl rfl (wg rfl rfl (gfn rfl)) rfl ?_
    refine WP.q (i := 23) rfl (.ptv (v := .bool _) rfl rfl rfl) rfl rfl rfl ?_
    refine WP.q (i := 24) rfl (.mv (v := .bool _) rfl) rfl rfl rfl ?_
    refine WP.sk (i := 25) rfl rfl (wg rfl rfl (gfn rfl)) rfl ?_
    refine WP.sk (i := 26) rfl rfl (wg rfl rfl (gfn rfl)) rfl ?_
    refine WP.sk (i := 28) rfl rfl (wg rfl rfl (gfn rfl)) rfl ?_
    refine WP.sk (i := 29) rfl rfl (wg rfl rfl (gfn rfl)) rfl ?_
    refine WP.sd (i := 27) rfl rfl (wg rfl rfl (gfn rfl)) rfl ?_
    refine WP.sk (i := 30) rfl rfl (wg rfl rfl (gfn rfl)) rfl ?_
    refine WP.sk (i := 31) rfl rfl (wg rfl rfl (gfn rfl)) rfl ?_
    refine WP.q (i := 32) rfl (.ptv (v := .bool _) rfl rfl rfl) rfl rfl rfl ?_
    refine WP.nil ?_
    refine WX.keep [0, 1, 5, 44] (WX.pk [0] (by decide) ?_) rfl
    exact ext_List_Fill_j1_ok h _ _ _ ⟨hB, _, _, g0_0, rfl, rfl⟩
def slices_IndexFunc_ext_List_alloc_Extent_P (B : Kn) (L : Own) (r : Int) : AV → St → Prop := CS B L fun v => v = .int .i64 r
def slices_IndexFunc_ext_List_alloc_Extent_l0_I (B0 : Kn) (fg1 : Nat) (fc1 : List AV) (x0 : List (Int × Int)) (x8 : Int) : Fr → Kn → Own → Prop := fun fr B A => KLe B0 B ∧ ∃ v1, RSl EPIi64Ii64Q B v1 x0 ∧ fr = [(0, v1), (1, .fn (.func fg1) [] fc1), (7, .int .i64 (x0.length : Int)), (8, .int .i64 x8)] ∧ A = []
def slices_IndexFunc_ext_List_alloc_Extent_l0_X0 (B0 : Kn) (fg1 : Nat) (fc1 : List AV) : Fr → Kn → Own → Prop := fun fr B A => KLe B0 B ∧ fr = [] ∧ A = []
theorem slices_IndexFunc_ext_List_alloc_Extent_l0_s {B0 : Kn} {L : Own} {n0 : Nat} {fg1 : Nat} {fc1 : List AV} {a1 : (Int × Int) → Option Bool} {x0 : List (Int × Int)} {x8 : Int} {Q : AV → St → Prop} {E : Int ⊕ (Int ⊕ Unit) → Prop} {o : Int ⊕ (Int ⊕ Unit)} (h : slices_IndexFunc_ext_List_alloc_Extent_l0 a1 x0 x8 = some o) (hf1 : ∀ (x0 : Int × Int) (r : Bool), a1 x0 = some r → ∀ B, KLe B0 B → ∀ Lx st, Hp B (Lx ++ L) st → ASpec Try.prog fg1 ([.agg [.int .i64 x0.1, .int .i64 x0.2]] ++ fc1) st (CS B (Lx ++ L) fun v => v = .bool r)) (hn : ∀ s, E (.inl s) → WXI Try.prog 19 n0 (Fin Try.prog Try.f88.results.toList n0 Q) [.lp (ct [1, 0, 1, 0, 0] (bodyOf Try.f88)), .blk 0, .code (ct [1, 1] (bodyOf Try.f88))] (slices_IndexFunc_ext_List_alloc_Extent_l0_I B0 fg1 fc1 x0 s) L) (hx0 : ∀ s, E (.inr (.inr s)) → WXI Try.prog 19 n0 (Fin Try.prog Try.f88.results.toList n0 Q) [.code (ct [1, 1] (bodyOf Try.f88))] (slices_IndexFunc_ext_List_alloc_Extent_l0_X0 B0 fg1 fc1) L) (hr : ∀ r, E (.inr (.inl r)) → ∀ v st, slices_IndexFunc_ext_List_alloc_Extent_P B0 L r v st → Q v st) (hE : E o) : WXI Try.prog 19 n0 (Fin Try.prog Try.f88.results.toList n0 Q) [.code (ct [1, 0, 1, 0, 0] (bodyOf Try.f88)), .lp (ct [1, 0, 1, 0, 0] (bodyOf Try.f88)), .blk 0, .code (ct [1, 1] (bodyOf Try.f88))] (slices_IndexFunc_ext_List_alloc_Extent_l0_I B0 fg1 fc1 x0 x8) L := by
  unfold slices_IndexFunc_ext_List_alloc_Extent_l0 at h
  rintro _ B _ ⟨hB, v1, h1, rfl, rfl⟩
  obtain ⟨_, _, _, _, _, rfl⟩ := h1.isl
  refine WX.seq ?_
  refine WX.reg ?_
  refine WO.q (.r fun _ => rfl) rfl rfl ?_
  refine WO.nil ?_
  refine WX.seq ?_
  rcases bsp (decide (x8 < (x0.length : Int))) with k2 | k2
  · have q_k2 := of_decide_eq_true k2
    replace h := (if_pos q_k2).symm.trans h
    refine WX.condT rfl k2 ?_
    refine WX.skip ?_
    refine WX.seq ?_
    refine WX.block ?_
    refine WX.seq ?_
    refine WX.reg ?_
    refine WO.q (.mv (v := .int _ _) rfl) rfl rfl ?_
    refine WO.q (.as (v := .int _ _) rfl) rfl rfl ?_
    refine WO.nil ?_
    refine WX.seq ?_
    refine WX.reg ?_
    refine WO.q (.mv (v := .fn _ _ _) rfl) rfl rfl ?_
    refine WO.q (.mv (v := .sl _ _ _ _ _ _) rfl) rfl rfl ?_
    refine WO.q (.mv (v := .int _ _) rfl) rfl rfl ?_
    obtain ⟨y3, hy3, h⟩ := Option.bind_eq_some_iff.1 h
    obtain ⟨b_y3, o_y3, _, i_y3, p_y3, r_y3⟩ := h1.at sl44 hy3 .i64
    obtain ⟨_, _, rfl, rfl, rfl⟩ := r_y3
    refine WO.q (.ia i_y3) rfl rfl ?_
    refine WO.q (.lpA rfl p_y3 ti35 rfl rfl) rfl rfl ?_
    obtain ⟨y4, hy4, h⟩ := Option.bind_eq_some_iff.1 h
    refine WO.cS rfl rfl (hf1 _ _  hy4 _ hB _) rfl rfl rfl ?_
    rintro _ rfl
    refine WO.nil ?_
    rcases bsp y4 with k5 | k5
    · replace h := (if_pos k5).symm.trans h
      refine WX.condT rfl k5 ?_
      refine WX.seq ?_
      refine WX.reg ?_
      refine WO.q (.mv (v := .int _ _) rfl) rfl rfl ?_
      refine WO.q (.as (v := .int _ _) rfl) rfl rfl ?_
      refine WO.nil ?_
      obtain rfl := Option.some.inj h
      exact WX.ret (rs_ (rs_tmp rfl rs_nil)) fun st hp => hr _ hE _ _ ⟨(hp.pk [] (by decide)).le hB, rfl⟩
    · replace h := (if_neg (bnt k5)).symm.trans h
      refine WX.condF rfl k5 ?_
      refine WX.skip ?_
      refine WX.pop ?_
      refine WX.reg ?_
      refine WO.q (.r fun _ => rfl) rfl rfl ?_
      refine WO.q (.mv (v := .int _ _) rfl) rfl rfl ?_
      refine WO.nil ?_
      refine WX.keepL [0, 1, 7, 8] (WX.pk [] (by decide) ?_) rfl
      obtain rfl := Option.some.inj h
      exact hn _ hE _ _ _ ⟨hB, _, h1, rfl, rfl⟩
  · have q_k2 := of_decide_eq_false k2
    replace h := (if_neg q_k2).symm.trans h
    refine WX.condF rfl k2 ?_
    refine WX.exit rfl ?_
    refine WX.keep [] (WX.pk [] (by decide) ?_) rfl
    obtain rfl := Option.some.inj h
    exact hx0 _ hE _ _ _ ⟨hB, rfl, rfl⟩
theorem slices_IndexFunc_ext_List_alloc_Extent_l0_ok {B0 : Kn} {L : Own} {n0 : Nat} {fg1 : Nat} {fc1 : List AV} {a1 : (Int × Int) → Option Bool} {x0 : List (Int × Int)} {x8 : Int} {Q : AV → St → Prop} {d : Nat} {e : Int ⊕ Unit} (h : iter (fun (s : Int) => slices_IndexFunc_ext_List_alloc_Extent_l0 a1 x0 s) d x8 = some e) (hf1 : ∀ (x0 : Int × Int) (r : Bool), a1 x0 = some r → ∀ B, KLe B0 B → ∀ Lx st, Hp B (Lx ++ L) st → ASpec Try.prog fg1 ([.agg [.int .i64 x0.1, .int .i64 x0.2]] ++ fc1) st (CS B (Lx ++ L) fun v => v = .bool r)) (g0 : ∀ r, e = (.inl r) → ∀ v st, slices_IndexFunc_ext_List_alloc_Extent_P B0 L r v st → Q v st) (g1 : ∀ s, e = (.inr s) → WXI Try.prog 19 n0 (Fin Try.prog Try.f88.results.toList n0 Q) [.code (ct [1, 1] (bodyOf Try.f88))] (slices_IndexFunc_ext_List_alloc_Extent_l0_X0 B0 fg1 fc1) L) : WXI Try.prog 19 n0 (Fin Try.prog Try.f88.results.toList n0 Q) [.code (ct [1, 0, 1, 0, 0] (bodyOf Try.f88)), .lp (ct [1, 0, 1, 0, 0] (bodyOf Try.f88)), .blk 0, .code (ct [1, 1] (bodyOf Try.f88))] (slices_IndexFunc_ext_List_alloc_Extent_l0_I B0 fg1 fc1 x0 x8) L :=
  iter_ok (I := fun s => slices_IndexFunc_ext_List_alloc_Extent_l0_I B0 fg1 fc1 x0 s) (D := fun e => (∀ r, e = (.inl r) → ∀ v st, slices_IndexFunc_ext_List_alloc_Extent_P B0 L r v st → Q v st) ∧ (∀ s, e = (.inr s) → WXI Try.prog 19 n0 (Fin Try.prog Try.f88.results.toList n0 Q) [.code (ct [1, 1] (bodyOf Try.f88))] (slices_IndexFunc_ext_List_alloc_Extent_l0_X0 B0 fg1 fc1) L)) (fun E hn hx s o ho hE => slices_IndexFunc_ext_List_alloc_Extent_l0_s ho hf1 hn (fun s hs => (hx _ hs).2 _ rfl) (fun r hs => (hx _ hs).1 _ rfl) hE) h ⟨g0, g1⟩
theorem slices_IndexFunc_ext_List_alloc_Extent_ok {B0 : Kn} {L : Own} {fg1 : Nat} {fc1 : List AV} {a1 : (Int × Int) → Option Bool} {a0 : List (Int × Int)} {v0_0 : AV} {r : Int} (hf1 : ∀ (x0 : Int × Int) (r : Bool), a1 x0 = some r → ∀ B, KLe B0 B → ∀ Lx st, Hp B (Lx ++ L) st → ASpec Try.prog fg1 ([.agg [.int .i64 x0.1, .int .i64 x0.2]] ++ fc1) st (CS B (Lx ++ L) fun v => v = .bool r)) (g0_0 : RSl EPIi64Ii64Q B0 v0_0 a0) (h : slices_IndexFunc_ext_List_alloc_Extent a0 a1 = some r) : ∀ st, Hp B0 L st → ASpec Try.prog 88 [v0_0, .fn (.func fg1) [] fc1] st (slices_IndexFunc_ext_List_alloc_Extent_P B0 L r) := by
  unfold slices_IndexFunc_ext_List_alloc_Extent at h
  refine bodyA (A := []) Try.func88 rfl (c := bodyOf Try.f88) rfl Try.ntmps88 (lb rfl) fun n0 => ?_
  have hB := KLe.refl B0
  obtain ⟨_, _, _, _, _, rfl⟩ := g0_0.isl
  refine WX.seq ?_
  refine WX.reg ?_
  refine WO.q (.as (v := .int _ _) rfl) rfl rfl ?_
  refine WO.nil ?_
  refine WX.seq ?_
  refine WX.seq ?_
  refine WX.reg ?_
  refine WO.q (.mv (v := .sl _ _ _ _ _ _) rfl) rfl rfl ?_
  refine WO.q (.len rfl rfl rfl (sl44.len g0_0.isl)) rfl rfl ?_
  refine WO.q (.mv (v := .int _ _) rfl) rfl rfl ?_
  refine WO.nil ?_
  refine WX.block ?_
  refine WX.loop ?_
  obtain ⟨e6, he6, h⟩ := Option.bind_eq_some_iff.1 h
  refine WX.keep [0, 1, 7, 8] (WX.pk [] (by decide) ?_) rfl
  refine slices_IndexFunc_ext_List_alloc_Extent_l0_ok he6 hf1 ?_ ?_ _ _ _ ⟨hB, _, g0_0, rfl, rfl⟩
  · intro r8 he_
    subst he_
    replace h := (on_l h)
    obtain rfl := Option.some.inj h
    exact fun v st hp => hp
  · intro x9 he_
    subst he_
    replace h := (on_r h)
    rintro _ B _ ⟨hB, rfl, rfl⟩
    refine WX.seq ?_
    refine WX.reg ?_
    refine WO.q (.as (v := .int _ _) rfl) rfl rfl ?_
    refine WO.nil ?_
    obtain rfl := Option.some.inj h
    exact WX.ret (rs_ (rs_tmp rfl rs_nil)) fun st hp => ⟨(hp.pk [] (by decide)).le hB, rfl⟩
end Gab
