/- The Go code comes to what the Lean functions say. Written by a program (gp.py). -/
import Derived.Test.YtdkldojcpncnhaaFd
import Derived.Test.YtdkldojcpncnhaaTy
import Derived.Test.YtdkldojcpncnhaaFpRef010
import Derived.Test.YtdkldojcpncnhaaFpRef150
set_option linter.unusedSimpArgs false
set_option linter.unusedVariables false
set_option maxHeartbeats 4000000
set_option maxRecDepth 100000
namespace Gab
open Go Go.Proofs
def gabionref15_Text_P (B : Kn) (L : Own) (r : (List UInt8)) : AV → St → Prop := CS B L fun v => v = .str r
def gabionref15_Text_j4_I (B0 : Kn) (x0 : List (Int × Int)) (x3 : Bool) (x4 : List UInt8) (x5 : Int) (x16 : Bool) : Fr → Kn → Own → Prop := fun fr B A => KLe B0 B ∧ ∃ v4, RSl EPIi64Ii64Q B v4 x0 ∧ fr = [(0, v4), (3, .bool x3), (4, .str x4), (5, .int .i64 x5), (16, .bool x16)] ∧ A = []
def gabionref15_Text_l0_I (B0 : Kn) (x0 : List (Int × Int)) (x3 : Bool) (x4 : List UInt8) (x5 : Int) : Fr → Kn → Own → Prop := fun fr B A => KLe B0 B ∧ ∃ v2, RSl EPIi64Ii64Q B v2 x0 ∧ fr = [(0, v2), (3, .bool x3), (4, .str x4), (5, .int .i64 x5)] ∧ A = []
def gabionref15_Text_l0_X0 (B0 : Kn) (x4 : List UInt8) : Fr → Kn → Own → Prop := fun fr B A => KLe B0 B ∧ fr = [(4, .str x4)] ∧ A = []
theorem gabionref15_Text_j4_ok {B0 : Kn} {L : Own} {n0 : Nat} {x0 : List (Int × Int)} {x3 : Bool} {x4 : List UInt8} {x5 : Int} {x16 : Bool} {Q : AV → St → Prop} {E : ((List UInt8) × Int) ⊕ (List UInt8) → Prop} {o : ((List UInt8) × Int) ⊕ (List UInt8)} (h : gabionref15_Text_j4 x0 x3 x4 x5 x16 = some o) (hn : ∀ s, E (.inl s) → WXI Try.prog 40 n0 (Fin Try.prog Try.f43.results.toList n0 Q) [.lp (ct [1, 1, 1, 0, 1, 0, 0] (bodyOf Try.f43)), .blk 0, .code (ct [1, 1, 1, 1] (bodyOf Try.f43))] (gabionref15_Text_l0_I B0 x0 x3 s.1 s.2) L) (hx0 : ∀ s, E (.inr s) → WXI Try.prog 40 n0 (Fin Try.prog Try.f43.results.toList n0 Q) [.code (ct [1, 1, 1, 1] (bodyOf Try.f43))] (gabionref15_Text_l0_X0 B0 s) L) (hE : E o) : WXI Try.prog 40 n0 (Fin Try.prog Try.f43.results.toList n0 Q) [.code (ct [1, 1, 1, 0, 1, 0, 0, 0, 1] (bodyOf Try.f43)), .code (ct [1, 1, 1, 0, 1, 0, 0, 1] (bodyOf Try.f43)), .lp (ct [1, 1, 1, 0, 1, 0, 0] (bodyOf Try.f43)), .blk 0, .code (ct [1, 1, 1, 1] (bodyOf Try.f43))] (gabionref15_Text_j4_I B0 x0 x3 x4 x5 x16) L := by
  unfold gabionref15_Text_j4 at h
  rintro _ B _ ⟨hB, v4, h4, rfl, rfl⟩
  obtain ⟨_, _, _, _, _, rfl⟩ := h4.isl
  rcases bsp x16 with k5 | k5
  · replace h := (if_pos k5).symm.trans h
    refine WX.condT rfl k5 ?_
    refine WX.skip ?_
    refine WX.seq ?_
    refine WX.block ?_
    refine WX.seq ?_
    refine WX.reg ?_
    refine WO.q (.mv (v := .sl _ _ _ _ _ _) rfl) rfl rfl ?_
    refine WO.q (.mv (v := .int _ _) rfl) rfl rfl ?_
    obtain ⟨y6, hy6, h⟩ := Option.bind_eq_some_iff.1 h
    obtain ⟨b_y6, o_y6, _, i_y6, p_y6, r_y6⟩ := h4.at sl40 hy6 .i64
    obtain ⟨_, _, rfl, rfl, rfl⟩ := r_y6
    refine WO.q (.ia i_y6) rfl rfl ?_
    refine WO.q (.ia (ia41_0 _ _)) rfl rfl ?_
    refine WO.q (.lpS rfl p_y6 rfl ti3 rfl) rfl rfl ?_
    refine WO.q (.r fun _ => rfl) rfl rfl ?_
    refine WO.q (cvI ti3 ti119 rfl rfl) rfl rfl ?_
    obtain ⟨y7, hy7, h⟩ := Option.bind_eq_some_iff.1 h
    refine WO.cS rfl rfl (gabionref01_Put_ok hy7) rfl rfl rfl ?_
    rintro _ rfl
    refine WO.q (.as (v := .str _) rfl) rfl rfl ?_
    refine WO.nil ?_
    refine WX.seq ?_
    refine WX.reg ?_
    refine WO.q (.mv (v := .sl _ _ _ _ _ _) rfl) rfl rfl ?_
    refine WO.q (.mv (v := .int _ _) rfl) rfl rfl ?_
    obtain ⟨y8, hy8, h⟩ := Option.bind_eq_some_iff.1 h
    obtain ⟨b_y8, o_y8, _, i_y8, p_y8, r_y8⟩ := h4.at sl40 hy8 .i64
    obtain ⟨_, _, rfl, rfl, rfl⟩ := r_y8
    refine WO.q (.ia i_y8) rfl rfl ?_
    refine WO.q (.ia (ia41_1 _ _)) rfl rfl ?_
    refine WO.q (.lpS rfl p_y8 rfl ti3 rfl) rfl rfl ?_
    refine WO.q (cvI ti3 ti119 rfl rfl) rfl rfl ?_
    obtain ⟨y9, hy9, h⟩ := Option.bind_eq_some_iff.1 h
    refine WO.cS rfl rfl (gabionref01_Put_ok hy9) rfl rfl rfl ?_
    rintro _ rfl
    refine WO.q (.as (v := .str _) rfl) rfl rfl ?_
    refine WO.nil ?_
    refine WX.reg ?_
    refine WO.q (.mv (v := .str _) rfl) rfl rfl ?_
    refine WO.q (.mv (v := .str _) rfl) rfl rfl ?_
    obtain ⟨y10, hy10, h⟩ := Option.bind_eq_some_iff.1 h
    refine WO.q (.bin (evcat hy10)) rfl rfl ?_
    refine WO.q (.mv (v := .str _) rfl) rfl rfl ?_
    obtain ⟨y11, hy11, h⟩ := Option.bind_eq_some_iff.1 h
    refine WO.q (.bin (evcat hy11)) rfl rfl ?_
    refine WO.q (.as (v := .str _) rfl) rfl rfl ?_
    refine WO.nil ?_
    refine WX.pop ?_
    refine WX.reg ?_
    refine WO.q (.mv (v := .int _ _) rfl) rfl rfl ?_
    refine WO.q (.r fun _ => rfl) rfl rfl ?_
    refine WO.q (.as (v := .int _ _) rfl) rfl rfl ?_
    refine WO.nil ?_
    refine WX.keepL [0, 3, 4, 5] (WX.pk [] (by decide) ?_) rfl
    obtain rfl := Option.some.inj h
    exact hn _ hE _ _ _ ⟨hB, _, h4, rfl, rfl⟩
  · replace h := (if_neg (bnt k5)).symm.trans h
    refine WX.condF rfl k5 ?_
    refine WX.exit rfl ?_
    refine WX.keep [4] (WX.pk [] (by decide) ?_) rfl
    obtain rfl := Option.some.inj h
    exact hx0 _ hE _ _ _ ⟨hB, rfl, rfl⟩
theorem gabionref15_Text_l0_s {B0 : Kn} {L : Own} {n0 : Nat} {x0 : List (Int × Int)} {x3 : Bool} {x4 : List UInt8} {x5 : Int} {Q : AV → St → Prop} {E : ((List UInt8) × Int) ⊕ (List UInt8) → Prop} {o : ((List UInt8) × Int) ⊕ (List UInt8)} (h : gabionref15_Text_l0 x0 x3 x4 x5 = some o) (hn : ∀ s, E (.inl s) → WXI Try.prog 40 n0 (Fin Try.prog Try.f43.results.toList n0 Q) [.lp (ct [1, 1, 1, 0, 1, 0, 0] (bodyOf Try.f43)), .blk 0, .code (ct [1, 1, 1, 1] (bodyOf Try.f43))] (gabionref15_Text_l0_I B0 x0 x3 s.1 s.2) L) (hx0 : ∀ s, E (.inr s) → WXI Try.prog 40 n0 (Fin Try.prog Try.f43.results.toList n0 Q) [.code (ct [1, 1, 1, 1] (bodyOf Try.f43))] (gabionref15_Text_l0_X0 B0 s) L) (hE : E o) : WXI Try.prog 40 n0 (Fin Try.prog Try.f43.results.toList n0 Q) [.code (ct [1, 1, 1, 0, 1, 0, 0] (bodyOf Try.f43)), .lp (ct [1, 1, 1, 0, 1, 0, 0] (bodyOf Try.f43)), .blk 0, .code (ct [1, 1, 1, 1] (bodyOf Try.f43))] (gabionref15_Text_l0_I B0 x0 x3 x4 x5) L := by
  unfold gabionref15_Text_l0 at h
  rintro _ B _ ⟨hB, v2, h2, rfl, rfl⟩
  obtain ⟨_, _, _, _, _, rfl⟩ := h2.isl
  refine WX.seq ?_
  refine WX.seq ?_
  refine WX.reg ?_
  refine WO.q (.mv (v := .int _ _) rfl) rfl rfl ?_
  refine WO.q (.mv (v := .sl _ _ _ _ _ _) rfl) rfl rfl ?_
  refine WO.q (.len rfl rfl rfl (sl40.len h2.isl)) rfl rfl ?_
  refine WO.q (.r fun _ => rfl) rfl rfl ?_
  refine WO.q (.mv (v := .bool _) rfl) rfl rfl ?_
  rcases bsp (decide (x5 < (x0.length : Int))) with k3 | k3
  · have q_k3 := of_decide_eq_true k3
    replace h := (if_pos q_k3).symm.trans h
    refine WO.q (.mv (v := .bool _) rfl) (wg rfl rfl (gt k3)) rfl ?_
    refine WO.q (.ptv (v := .bool _) rfl k3 rfl) rfl rfl ?_
    refine WO.nil ?_
    refine WX.keep [0, 3, 4, 5, 16] (WX.pk [] (by decide) ?_) rfl
    exact gabionref15_Text_j4_ok h hn hx0 hE _ _ _ ⟨hB, _, h2, rfl, rfl⟩
  · have q_k3 := of_decide_eq_false k3
    replace h := (if_neg q_k3).symm.trans h
    refine WO.sd (wg rfl rfl (gtn k3)) rfl ?_
    refine WO.q (.pfv (v := .bool _) rfl k3 rfl) rfl rfl ?_
    refine WO.nil ?_
    refine WX.keep [0, 3, 4, 5, 16] (WX.pk [] (by decide) ?_) rfl
    exact gabionref15_Text_j4_ok h hn hx0 hE _ _ _ ⟨hB, _, h2, rfl, rfl⟩
theorem gabionref15_Text_l0_ok {B0 : Kn} {L : Own} {n0 : Nat} {x0 : List (Int × Int)} {x3 : Bool} {x4 : List UInt8} {x5 : Int} {Q : AV → St → Prop} {d : Nat} {e : (List UInt8)} (h : iter (fun (s : (List UInt8) × Int) => gabionref15_Text_l0 x0 x3 s.1 s.2) d (x4, x5) = some e) (g0 : ∀ s, e = s → WXI Try.prog 40 n0 (Fin Try.prog Try.f43.results.toList n0 Q) [.code (ct [1, 1, 1, 1] (bodyOf Try.f43))] (gabionref15_Text_l0_X0 B0 s) L) : WXI Try.prog 40 n0 (Fin Try.prog Try.f43.results.toList n0 Q) [.code (ct [1, 1, 1, 0, 1, 0, 0] (bodyOf Try.f43)), .lp (ct [1, 1, 1, 0, 1, 0, 0] (bodyOf Try.f43)), .blk 0, .code (ct [1, 1, 1, 1] (bodyOf Try.f43))] (gabionref15_Text_l0_I B0 x0 x3 x4 x5) L :=
  iter_ok (I := fun s => gabionref15_Text_l0_I B0 x0 x3 s.1 s.2) (D := fun e => (∀ s, e = s → WXI Try.prog 40 n0 (Fin Try.prog Try.f43.results.toList n0 Q) [.code (ct [1, 1, 1, 1] (bodyOf Try.f43))] (gabionref15_Text_l0_X0 B0 s) L)) (fun E hn hx s o ho hE => gabionref15_Text_l0_s ho hn (fun s hs => (hx _ hs) _ rfl)  hE) h g0
theorem gabionref15_Text_ok {B0 : Kn} {L : Own} {a0 : List (Int × Int)} {v0_0 : AV} {r : (List UInt8)} (g0_0 : RSl EPIi64Ii64Q B0 v0_0 a0) (h : gabionref15_Text a0 = some r) : ∀ st, Hp B0 L st → ASpec Try.prog 43 [v0_0] st (gabionref15_Text_P B0 L r) := by
  unfold gabionref15_Text at h
  refine bodyA (A := []) Try.func43 rfl (c := bodyOf Try.f43) rfl Try.ntmps43 (lb rfl) fun n0 => ?_
  have hB := KLe.refl B0
  obtain ⟨_, _, _, _, _, rfl⟩ := g0_0.isl
  refine WX.seq ?_
  refine WX.reg ?_
  refine WO.q (.as (v := .str _) rfl) rfl rfl ?_
  refine WO.nil ?_
  refine WX.seq ?_
  refine WX.reg ?_
  refine WO.q (.mv (v := .sl _ _ _ _ _ _) rfl) rfl rfl ?_
  obtain ⟨y1, hy1, h⟩ := Option.bind_eq_some_iff.1 h
  refine WO.cS rfl rfl (gabionref15_Right_ok g0_0 hy1) rfl rfl rfl ?_
  rintro _ rfl
  refine WO.q (.as (v := .bool _) rfl) rfl rfl ?_
  refine WO.nil ?_
  refine WX.seq ?_
  refine WX.reg ?_
  refine WO.q (.as (v := .str _) rfl) rfl rfl ?_
  refine WO.nil ?_
  refine WX.seq ?_
  refine WX.seq ?_
  refine WX.reg ?_
  refine WO.q (.as (v := .int _ _) rfl) rfl rfl ?_
  refine WO.nil ?_
  refine WX.block ?_
  refine WX.loop ?_
  obtain ⟨e12, he12, h⟩ := Option.bind_eq_some_iff.1 h
  refine WX.keep [0, 3, 4, 5] (WX.pk [] (by decide) ?_) rfl
  refine gabionref15_Text_l0_ok he12 ?_ _ _ _ ⟨hB, _, g0_0, rfl, rfl⟩
  · intro s13 he_
    subst he_
    replace h := h
    rintro _ B _ ⟨hB, rfl, rfl⟩
    refine WX.seq ?_
    refine WX.reg ?_
    refine WO.q (.mv (v := .str _) rfl) rfl rfl ?_
    refine WO.q (.as (v := .str _) rfl) rfl rfl ?_
    refine WO.nil ?_
    obtain rfl := Option.some.inj h
    exact WX.ret (rs_ (rs_tmp rfl rs_nil)) fun st hp => ⟨(hp.pk [] (by decide)).le hB, rfl⟩
end Gab
