/- The Go code comes to what the Lean functions say. Written by a program (gp.py). -/
import Derived.Test.YtdkldojcpncnhaaFd
import Derived.Test.YtdkldojcpncnhaaTy
import Derived.Test.YtdkldojcpncnhaaFpRef010
import Derived.Test.YtdkldojcpncnhaaFpRef150
set_option linter.unusedSimpArgs false
set_option linter.unusedVariables false
set_option maxHeartbeats 4000000
set_option maxRecDepth 100000
namespace Gab
open Go Go.Proofs
def gabionref16_Need_P (B : Kn) (L : Own) (r : Int) : AV → St → Prop := CS B L fun v => v = .int .i64 r
theorem gabionref16_Need_ok {B0 : Kn} {L : Own} {a0 : Int} {r : Int} (h : gabionref16_Need a0 = some r) : ∀ st, Hp B0 L st → ASpec Try.prog 55 [.int .i64 a0] st (gabionref16_Need_P B0 L r) := by
  unfold gabionref16_Need at h
  refine bodyA (A := []) Try.func55 rfl (c := bodyOf Try.f55) rfl Try.ntmps55 (lb rfl) fun n0 => ?_
  have hB := KLe.refl B0
  refine WX.seq ?_
  refine WX.reg ?_
  refine WO.q (.as (v := .int _ _) rfl) rfl rfl ?_
  refine WO.nil ?_
  refine WX.seq ?_
  refine WX.seq ?_
  refine WX.reg ?_
  refine WO.q (.mv (v := .int _ _) rfl) rfl rfl ?_
  refine WO.q (.r fun _ => rfl) rfl rfl ?_
  refine WO.nil ?_
  rcases bsp (decide (a0 < 1)) with k1 | k1
  · have q_k1 := of_decide_eq_true k1
    replace h := (if_pos q_k1).symm.trans h
    refine WX.condT rfl k1 ?_
    refine WX.seq ?_
    refine WX.reg ?_
    refine WO.q (.as (v := .int _ _) rfl) rfl rfl ?_
    refine WO.nil ?_
    obtain rfl := Option.some.inj h
    exact WX.ret (rs_ (rs_tmp rfl rs_nil)) fun st hp => ⟨(hp.pk [] (by decide)).le hB, rfl⟩
  · have q_k1 := of_decide_eq_false k1
    replace h := (if_neg q_k1).symm.trans h
    refine WX.condF rfl k1 ?_
    refine WX.skip ?_
    refine WX.seq ?_
    refine WX.reg ?_
    refine WO.q (.mv (v := .int _ _) rfl) rfl rfl ?_
    refine WO.q (.r fun _ => rfl) rfl rfl ?_
    refine WO.q (.as (v := .int _ _) rfl) rfl rfl ?_
    refine WO.nil ?_
    refine WX.seq ?_
    refine WX.seq ?_
    refine WX.reg ?_
    refine WO.q (.mv (v := .int _ _) rfl) rfl rfl ?_
    refine WO.q (.r fun _ => rfl) rfl rfl ?_
    refine WO.q (.r fun _ => rfl) rfl rfl ?_
    refine WO.nil ?_
    rcases bsp (decide (0 < (Int.tmod a0 64))) with k2 | k2
    · have q_k2 := of_decide_eq_true k2
      replace h := (if_pos q_k2).symm.trans h
      refine WX.condT rfl k2 ?_
      refine WX.reg ?_
      refine WO.q (.mv (v := .int _ _) rfl) rfl rfl ?_
      refine WO.q (.r fun _ => rfl) rfl rfl ?_
      refine WO.q (.as (v := .int _ _) rfl) rfl rfl ?_
      refine WO.nil ?_
      refine WX.seq ?_
      refine WX.reg ?_
      refine WO.q (.mv (v := .int _ _) rfl) rfl rfl ?_
      refine WO.q (.as (v := .int _ _) rfl) rfl rfl ?_
      refine WO.nil ?_
      obtain rfl := Option.some.inj h
      exact WX.ret (rs_ (rs_tmp rfl rs_nil)) fun st hp => ⟨(hp.pk [] (by decide)).le hB, rfl⟩
    · have q_k2 := of_decide_eq_false k2
      replace h := (if_neg q_k2).symm.trans h
      refine WX.condF rfl k2 ?_
      refine WX.skip ?_
      refine WX.seq ?_
      refine WX.reg ?_
      refine WO.q (.mv (v := .int _ _) rfl) rfl rfl ?_
      refine WO.q (.as (v := .int _ _) rfl) rfl rfl ?_
      refine WO.nil ?_
      obtain rfl := Option.some.inj h
      exact WX.ret (rs_ (rs_tmp rfl rs_nil)) fun st hp => ⟨(hp.pk [] (by decide)).le hB, rfl⟩
def gabionref16_Right_P (B : Kn) (L : Own) (r : Bool) : AV → St → Prop := CS B L fun v => v = .bool r
def gabionref16_Right_l0_I (B0 : Kn) (zb1 : Int × Int × Int × (List (Int × Int)) × (List UInt8)) (x4 : Int) (x5 : Int) : Fr → Kn → Own → Prop := fun fr B A => KLe B0 B ∧ ∃ b13 v14, RSl EPIi64Ii64Q B v14 zb1.2.2.2.1 ∧ fr = [(1, .ptr b13 0), (4, .int .i64 x4), (5, .int .i64 x5)] ∧ A = [(b13, some [.int .u8 zb1.1, .int .i64 zb1.2.1, .int .i64 zb1.2.2.1, v14, .str zb1.2.2.2.2])]
def gabionref16_Right_l0_X0 (B0 : Kn) (x4 : Int) (zb1 : Int × Int × Int × (List (Int × Int)) × (List UInt8)) : Fr → Kn → Own → Prop := fun fr B A => KLe B0 B ∧ ∃ b45 v46, RSl EPIi64Ii64Q B v46 zb1.2.2.2.1 ∧ fr = [(1, .ptr b45 0), (4, .int .i64 x4)] ∧ A = [(b45, some [.int .u8 zb1.1, .int .i64 zb1.2.1, .int .i64 zb1.2.2.1, v46, .str zb1.2.2.2.2])]
def gabionref16_Right_j6_I (B0 : Kn) (x39 : Bool) (zb1 : Int × Int × Int × (List (Int × Int)) × (List UInt8)) : Fr → Kn → Own → Prop := fun fr B A => KLe B0 B ∧ ∃ b10 v11, RSl EPIi64Ii64Q B v11 zb1.2.2.2.1 ∧ fr = [(1, .ptr b10 0), (39, .bool x39)] ∧ A = [(b10, some [.int .u8 zb1.1, .int .i64 zb1.2.1, .int .i64 zb1.2.2.1, v11, .str zb1.2.2.2.2])]
def gabionref16_Right_l1_I (B0 : Kn) (zb1 : Int × Int × Int × (List (Int × Int)) × (List UInt8)) (x7 : Int) : Fr → Kn → Own → Prop := fun fr B A => KLe B0 B ∧ ∃ b29 v30, RSl EPIi64Ii64Q B v30 zb1.2.2.2.1 ∧ fr = [(1, .ptr b29 0), (7, .int .i64 x7)] ∧ A = [(b29, some [.int .u8 zb1.1, .int .i64 zb1.2.1, .int .i64 zb1.2.2.1, v30, .str zb1.2.2.2.2])]
def gabionref16_Right_l1_X0 (B0 : Kn) (zb1 : Int × Int × Int × (List (Int × Int)) × (List UInt8)) : Fr → Kn → Own → Prop := fun fr B A => KLe B0 B ∧ ∃ b47 v48, RSl EPIi64Ii64Q B v48 zb1.2.2.2.1 ∧ fr = [(1, .ptr b47 0)] ∧ A = [(b47, some [.int .u8 zb1.1, .int .i64 zb1.2.1, .int .i64 zb1.2.2.1, v48, .str zb1.2.2.2.2])]
def gabionref16_Right_j1_I (B0 : Kn) (x15 : Bool) (zb1 : Int × Int × Int × (List (Int × Int)) × (List UInt8)) : Fr → Kn → Own → Prop := fun fr B A => KLe B0 B ∧ ∃ b3 v4, RSl EPIi64Ii64Q B v4 zb1.2.2.2.1 ∧ fr = [(1, .ptr b3 0), (15, .bool x15)] ∧ A = [(b3, some [.int .u8 zb1.1, .int .i64 zb1.2.1, .int .i64 zb1.2.2.1, v4, .str zb1.2.2.2.2])]
theorem gabionref16_Right_l0_s {B0 : Kn} {L : Own} {n0 : Nat} {zb1 : Int × Int × Int × (List (Int × Int)) × (List UInt8)} {x4 : Int} {x5 : Int} {Q : AV → St → Prop} {E : (Int × Int) ⊕ Int → Prop} {o : (Int × Int) ⊕ Int} (h : gabionref16_Right_l0 zb1 x4 x5 = some o) (hn : ∀ s, E (.inl s) → WXI Try.prog 115 n0 (Fin Try.prog Try.f50.results.toList n0 Q) [.lp (ct [1, 1, 0, 1, 0, 1, 0, 1, 1, 1, 0, 1, 0, 0] (bodyOf Try.f50)), .blk 1, .code (ct [1, 1, 0, 1, 0, 1, 0, 1, 1, 1, 1] (bodyOf Try.f50)), .blk 0, .code (ct [1, 1, 1] (bodyOf Try.f50))] (gabionref16_Right_l0_I B0 zb1 s.1 s.2) L) (hx0 : ∀ s, E (.inr s) → WXI Try.prog 115 n0 (Fin Try.prog Try.f50.results.toList n0 Q) [.code (ct [1, 1, 0, 1, 0, 1, 0, 1, 1, 1, 1] (bodyOf Try.f50)), .blk 0, .code (ct [1, 1, 1] (bodyOf Try.f50))] (gabionref16_Right_l0_X0 B0 s zb1) L) (hE : E o) : WXI Try.prog 115 n0 (Fin Try.prog Try.f50.results.toList n0 Q) [.code (ct [1, 1, 0, 1, 0, 1, 0, 1, 1, 1, 0, 1, 0, 0] (bodyOf Try.f50)), .lp (ct [1, 1, 0, 1, 0, 1, 0, 1, 1, 1, 0, 1, 0, 0] (bodyOf Try.f50)), .blk 1, .code (ct [1, 1, 0, 1, 0, 1, 0, 1, 1, 1, 1] (bodyOf Try.f50)), .blk 0, .code (ct [1, 1, 1] (bodyOf Try.f50))] (gabionref16_Right_l0_I B0 zb1 x4 x5) L := by
  unfold gabionref16_Right_l0 at h
  rintro _ B _ ⟨hB, b13, v14, h14, rfl, rfl⟩
  obtain ⟨_, _, _, _, _, rfl⟩ := h14.isl
  refine WX.seq ?_
  refine WX.seq ?_
  refine WX.reg ?_
  refine WO.q (.mv (v := .int _ _) rfl) rfl rfl ?_
  refine WO.q (.fa (fa88_3 _ _)) rfl rfl ?_
  refine WO.q (.ldS (i := 0) rfl rfl rfl ti40 rfl) rfl rfl ?_
  refine WO.q (.len rfl rfl rfl (sl40.len h14.isl)) rfl rfl ?_
  refine WO.q (.r fun _ => rfl) rfl rfl ?_
  refine WO.nil ?_
  rcases bsp (decide (x5 < (zb1.2.2.2.1.length : Int))) with k15 | k15
  · have q_k15 := of_decide_eq_true k15
    replace h := (if_pos q_k15).symm.trans h
    refine WX.condT rfl k15 ?_
    refine WX.skip ?_
    refine WX.seq ?_
    refine WX.block ?_
    refine WX.reg ?_
    refine WO.q (.mv (v := .int _ _) rfl) rfl rfl ?_
    refine WO.q (.fa (fa88_3 _ _)) rfl rfl ?_
    refine WO.q (.ldS (i := 0) rfl rfl rfl ti40 rfl) rfl rfl ?_
    refine WO.q (.mv (v := .int _ _) rfl) rfl rfl ?_
    obtain ⟨y16, hy16, h⟩ := Option.bind_eq_some_iff.1 h
    obtain ⟨b_y16, o_y16, _, i_y16, p_y16, r_y16⟩ := h14.at sl40 hy16 .i64
    obtain ⟨_, _, rfl, rfl, rfl⟩ := r_y16
    refine WO.q (.ia i_y16) rfl rfl ?_
    refine WO.q (.ia (ia41_1 _ _)) rfl rfl ?_
    refine WO.q (.lpS rfl p_y16 rfl ti3 rfl) rfl rfl ?_
    refine WO.q (.r fun _ => rfl) rfl rfl ?_
    refine WO.q (.as (v := .int _ _) rfl) rfl rfl ?_
    refine WO.nil ?_
    refine WX.pop ?_
    refine WX.reg ?_
    refine WO.q (.mv (v := .int _ _) rfl) rfl rfl ?_
    refine WO.q (.r fun _ => rfl) rfl rfl ?_
    refine WO.q (.as (v := .int _ _) rfl) rfl rfl ?_
    refine WO.nil ?_
    refine WX.keepL [1, 4, 5] (WX.pk [0] (by decide) ?_) rfl
    obtain rfl := Option.some.inj h
    exact hn _ hE _ _ _ ⟨hB, _, _, h14, rfl, rfl⟩
  · have q_k15 := of_decide_eq_false k15
    replace h := (if_neg q_k15).symm.trans h
    refine WX.condF rfl k15 ?_
    refine WX.exit rfl ?_
    refine WX.keep [1, 4] (WX.pk [0] (by decide) ?_) rfl
    obtain rfl := Option.some.inj h
    exact hx0 _ hE _ _ _ ⟨hB, _, _, h14, rfl, rfl⟩
theorem gabionref16_Right_l0_ok {B0 : Kn} {L : Own} {n0 : Nat} {zb1 : Int × Int × Int × (List (Int × Int)) × (List UInt8)} {x4 : Int} {x5 : Int} {Q : AV → St → Prop} {d : Nat} {e : Int} (h : iter (fun (s : Int × Int) => gabionref16_Right_l0 zb1 s.1 s.2) d (x4, x5) = some e) (g0 : ∀ s, e = s → WXI Try.prog 115 n0 (Fin Try.prog Try.f50.results.toList n0 Q) [.code (ct [1, 1, 0, 1, 0, 1, 0, 1, 1, 1, 1] (bodyOf Try.f50)), .blk 0, .code (ct [1, 1, 1] (bodyOf Try.f50))] (gabionref16_Right_l0_X0 B0 s zb1) L) : WXI Try.prog 115 n0 (Fin Try.prog Try.f50.results.toList n0 Q) [.code (ct [1, 1, 0, 1, 0, 1, 0, 1, 1, 1, 0, 1, 0, 0] (bodyOf Try.f50)), .lp (ct [1, 1, 0, 1, 0, 1, 0, 1, 1, 1, 0, 1, 0, 0] (bodyOf Try.f50)), .blk 1, .code (ct [1, 1, 0, 1, 0, 1, 0, 1, 1, 1, 1] (bodyOf Try.f50)), .blk 0, .code (ct [1, 1, 1] (bodyOf Try.f50))] (gabionref16_Right_l0_I B0 zb1 x4 x5) L :=
  iter_ok (I := fun s => gabionref16_Right_l0_I B0 zb1 s.1 s.2) (D := fun e => (∀ s, e = s → WXI Try.prog 115 n0 (Fin Try.prog Try.f50.results.toList n0 Q) [.code (ct [1, 1, 0, 1, 0, 1, 0, 1, 1, 1, 1] (bodyOf Try.f50)), .blk 0, .code (ct [1, 1, 1] (bodyOf Try.f50))] (gabionref16_Right_l0_X0 B0 s zb1) L)) (fun E hn hx s o ho hE => gabionref16_Right_l0_s ho hn (fun s hs => (hx _ hs) _ rfl)  hE) h g0
theorem gabionref16_Right_j6_ok {B0 : Kn} {L : Own} {n0 : Nat} {x39 : Bool} {zb1 : Int × Int × Int × (List (Int × Int)) × (List UInt8)} {r : Bool} (h : gabionref16_Right_j6 x39 zb1 = some r) : WXI Try.prog 115 n0 (Fin Try.prog Try.f50.results.toList n0 (gabionref16_Right_P B0 L r)) [.code (ct [1, 1, 0, 1, 0, 1, 0, 1, 0, 1] (bodyOf Try.f50)), .code (ct [1, 1, 0, 1, 0, 1, 0, 1, 1] (bodyOf Try.f50)), .blk 0, .code (ct [1, 1, 1] (bodyOf Try.f50))] (gabionref16_Right_j6_I B0 x39 zb1) L := by
  unfold gabionref16_Right_j6 at h
  rintro _ B _ ⟨hB, b10, v11, h11, rfl, rfl⟩
  obtain ⟨_, _, _, _, _, rfl⟩ := h11.isl
  rcases bsp x39 with k12 | k12
  · replace h := (if_pos k12).symm.trans h
    refine WX.condT rfl k12 ?_
    refine WX.seq ?_
    refine WX.reg ?_
    refine WO.q (.as (v := .bool _) rfl) rfl rfl ?_
    refine WO.nil ?_
    obtain rfl := Option.some.inj h
    exact WX.ret (rs_ (rs_tmp rfl rs_nil)) fun st hp => ⟨(hp.pk [] (by decide)).le hB, rfl⟩
  · replace h := (if_neg (bnt k12)).symm.trans h
    refine WX.condF rfl k12 ?_
    refine WX.skip ?_
    refine WX.seq ?_
    refine WX.reg ?_
    refine WO.q (.as (v := .int _ _) rfl) rfl rfl ?_
    refine WO.nil ?_
    refine WX.seq ?_
    refine WX.seq ?_
    refine WX.reg ?_
    refine WO.q (.as (v := .int _ _) rfl) rfl rfl ?_
    refine WO.nil ?_
    refine WX.block ?_
    refine WX.loop ?_
    obtain ⟨e19, he19, h⟩ := Option.bind_eq_some_iff.1 h
    refine WX.keep [1, 4, 5] (WX.pk [0] (by decide) ?_) rfl
    refine gabionref16_Right_l0_ok he19 ?_ _ _ _ ⟨hB, _, _, h11, rfl, rfl⟩
    · intro s23 he_
      subst he_
      replace h := h
      rintro _ B _ ⟨hB, b20, v21, h21, rfl, rfl⟩
      obtain ⟨_, _, _, _, _, rfl⟩ := h21.isl
      refine WX.seq ?_
      refine WX.reg ?_
      refine WO.q (.fa (fa88_2 _ _)) rfl rfl ?_
      refine WO.q (.ldS (i := 0) rfl rfl rfl ti3 rfl) rfl rfl ?_
      obtain ⟨y22, hy22, h⟩ := Option.bind_eq_some_iff.1 h
      refine WO.cS rfl rfl (gabionref16_Need_ok hy22) rfl rfl rfl ?_
      rintro _ rfl
      refine WO.q (.as (v := .int _ _) rfl) rfl rfl ?_
      refine WO.nil ?_
      refine WX.seq ?_
      refine WX.reg ?_
      refine WO.q (.mv (v := .int _ _) rfl) rfl rfl ?_
      refine WO.q (.mv (v := .int _ _) rfl) rfl rfl ?_
      refine WO.q (.r fun _ => rfl) rfl rfl ?_
      refine WO.q (.as (v := .bool _) rfl) rfl rfl ?_
      refine WO.nil ?_
      obtain rfl := Option.some.inj h
      exact WX.ret (rs_ (rs_tmp rfl rs_nil)) fun st hp => ⟨(hp.pk [] (by decide)).le hB, rfl⟩
theorem gabionref16_Right_l1_s {B0 : Kn} {L : Own} {n0 : Nat} {zb1 : Int × Int × Int × (List (Int × Int)) × (List UInt8)} {x7 : Int} {Q : AV → St → Prop} {E : Int ⊕ (Bool ⊕ Unit) → Prop} {o : Int ⊕ (Bool ⊕ Unit)} (h : gabionref16_Right_l1 zb1 x7 = some o) (hn : ∀ s, E (.inl s) → WXI Try.prog 115 n0 (Fin Try.prog Try.f50.results.toList n0 Q) [.lp (ct [1, 1, 0, 1, 0, 1, 1, 1, 1, 1, 0, 0, 1, 0, 0] (bodyOf Try.f50)), .blk 3, .code (ct [1, 1, 0, 1, 0, 1, 1, 1, 1, 1, 0, 1] (bodyOf Try.f50)), .blk 0, .code (ct [1, 1, 1] (bodyOf Try.f50))] (gabionref16_Right_l1_I B0 zb1 s) L) (hx0 : ∀ s, E (.inr (.inr s)) → WXI Try.prog 115 n0 (Fin Try.prog Try.f50.results.toList n0 Q) [.code (ct [1, 1, 0, 1, 0, 1, 1, 1, 1, 1, 0, 1] (bodyOf Try.f50)), .blk 0, .code (ct [1, 1, 1] (bodyOf Try.f50))] (gabionref16_Right_l1_X0 B0 zb1) L) (hr : ∀ r, E (.inr (.inl r)) → ∀ v st, gabionref16_Right_P B0 L r v st → Q v st) (hE : E o) : WXI Try.prog 115 n0 (Fin Try.prog Try.f50.results.toList n0 Q) [.code (ct [1, 1, 0, 1, 0, 1, 1, 1, 1, 1, 0, 0, 1, 0, 0] (bodyOf Try.f50)), .lp (ct [1, 1, 0, 1, 0, 1, 1, 1, 1, 1, 0, 0, 1, 0, 0] (bodyOf Try.f50)), .blk 3, .code (ct [1, 1, 0, 1, 0, 1, 1, 1, 1, 1, 0, 1] (bodyOf Try.f50)), .blk 0, .code (ct [1, 1, 1] (bodyOf Try.f50))] (gabionref16_Right_l1_I B0 zb1 x7) L := by
  unfold gabionref16_Right_l1 at h
  rintro _ B _ ⟨hB, b29, v30, h30, rfl, rfl⟩
  obtain ⟨_, _, _, _, _, rfl⟩ := h30.isl
  refine WX.seq ?_
  refine WX.seq ?_
  refine WX.reg ?_
  refine WO.q (.mv (v := .int _ _) rfl) rfl rfl ?_
  refine WO.q (.fa (fa88_4 _ _)) rfl rfl ?_
  refine WO.q (.ldS (i := 0) rfl rfl rfl ti9 rfl) rfl rfl ?_
  refine WO.q (.len rfl rfl rfl (evslen ti9 rfl _)) rfl rfl ?_
  refine WO.q (.r fun _ => rfl) rfl rfl ?_
  refine WO.nil ?_
  rcases bsp (decide (x7 < (zb1.2.2.2.2.length : Int))) with k31 | k31
  · have q_k31 := of_decide_eq_true k31
    replace h := (if_pos q_k31).symm.trans h
    refine WX.condT rfl k31 ?_
    refine WX.skip ?_
    refine WX.seq ?_
    refine WX.block ?_
    refine WX.seq ?_
    refine WX.reg ?_
    refine WO.q (.fa (fa88_4 _ _)) rfl rfl ?_
    refine WO.q (.ldS (i := 0) rfl rfl rfl ti9 rfl) rfl rfl ?_
    refine WO.q (.mv (v := .int _ _) rfl) rfl rfl ?_
    obtain ⟨y32, hy32, h⟩ := Option.bind_eq_some_iff.1 h
    refine WO.q (.ix (evsix ti9 rfl hy32 _)) rfl rfl ?_
    refine WO.q (.r fun _ => rfl) rfl rfl ?_
    refine WO.nil ?_
    rcases bsp (decide ((y32.toNat : Int) = 0)) with k33 | k33
    · have q_k33 := of_decide_eq_true k33
      replace h := (if_pos q_k33).symm.trans h
      refine WX.condT rfl k33 ?_
      refine WX.seq ?_
      refine WX.reg ?_
      refine WO.q (.as (v := .bool _) rfl) rfl rfl ?_
      refine WO.nil ?_
      obtain rfl := Option.some.inj h
      exact WX.ret (rs_ (rs_tmp rfl rs_nil)) fun st hp => hr _ hE _ _ ⟨(hp.pk [] (by decide)).le hB, rfl⟩
    · have q_k33 := of_decide_eq_false k33
      replace h := (if_neg q_k33).symm.trans h
      refine WX.condF rfl k33 ?_
      refine WX.skip ?_
      refine WX.pop ?_
      refine WX.reg ?_
      refine WO.q (.mv (v := .int _ _) rfl) rfl rfl ?_
      refine WO.q (.r fun _ => rfl) rfl rfl ?_
      refine WO.q (.as (v := .int _ _) rfl) rfl rfl ?_
      refine WO.nil ?_
      refine WX.keepL [1, 7] (WX.pk [0] (by decide) ?_) rfl
      obtain rfl := Option.some.inj h
      exact hn _ hE _ _ _ ⟨hB, _, _, h30, rfl, rfl⟩
  · have q_k31 := of_decide_eq_false k31
    replace h := (if_neg q_k31).symm.trans h
    refine WX.condF rfl k31 ?_
    refine WX.exit rfl ?_
    refine WX.keep [1] (WX.pk [0] (by decide) ?_) rfl
    obtain rfl := Option.some.inj h
    exact hx0 _ hE _ _ _ ⟨hB, _, _, h30, rfl, rfl⟩
theorem gabionref16_Right_l1_ok {B0 : Kn} {L : Own} {n0 : Nat} {zb1 : Int × Int × Int × (List (Int × Int)) × (List UInt8)} {x7 : Int} {Q : AV → St → Prop} {d : Nat} {e : Bool ⊕ Unit} (h : iter (fun (s : Int) => gabionref16_Right_l1 zb1 s) d x7 = some e) (g0 : ∀ r, e = (.inl r) → ∀ v st, gabionref16_Right_P B0 L r v st → Q v st) (g1 : ∀ s, e = (.inr s) → WXI Try.prog 115 n0 (Fin Try.prog Try.f50.results.toList n0 Q) [.code (ct [1, 1, 0, 1, 0, 1, 1, 1, 1, 1, 0, 1] (bodyOf Try.f50)), .blk 0, .code (ct [1, 1, 1] (bodyOf Try.f50))] (gabionref16_Right_l1_X0 B0 zb1) L) : WXI Try.prog 115 n0 (Fin Try.prog Try.f50.results.toList n0 Q) [.code (ct [1, 1, 0, 1, 0, 1, 1, 1, 1, 1, 0, 0, 1, 0, 0] (bodyOf Try.f50)), .lp (ct [1, 1, 0, 1, 0, 1, 1, 1, 1, 1, 0, 0, 1, 0, 0] (bodyOf Try.f50)), .blk 3, .code (ct [1, 1, 0, 1, 0, 1, 1, 1, 1, 1, 0, 1] (bodyOf Try.f50)), .blk 0, .code (ct [1, 1, 1] (bodyOf Try.f50))] (gabionref16_Right_l1_I B0 zb1 x7) L :=
  iter_ok (I := fun s => gabionref16_Right_l1_I B0 zb1 s) (D := fun e => (∀ r, e = (.inl r) → ∀ v st, gabionref16_Right_P B0 L r v st → Q v st) ∧ (∀ s, e = (.inr s) → WXI Try.prog 115 n0 (Fin Try.prog Try.f50.results.toList n0 Q) [.code (ct [1, 1, 0, 1, 0, 1, 1, 1, 1, 1, 0, 1] (bodyOf Try.f50)), .blk 0, .code (ct [1, 1, 1] (bodyOf Try.f50))] (gabionref16_Right_l1_X0 B0 zb1) L)) (fun E hn hx s o ho hE => gabionref16_Right_l1_s ho hn (fun s hs => (hx _ hs).2 _ rfl) (fun r hs => (hx _ hs).1 _ rfl) hE) h ⟨g0, g1⟩
theorem gabionref16_Right_j1_ok {B0 : Kn} {L : Own} {n0 : Nat} {x15 : Bool} {zb1 : Int × Int × Int × (List (Int × Int)) × (List UInt8)} {r : Bool} (h : gabionref16_Right_j1 x15 zb1 = some r) : WXI Try.prog 115 n0 (Fin Try.prog Try.f50.results.toList n0 (gabionref16_Right_P B0 L r)) [.code (ct [1, 0, 1] (bodyOf Try.f50)), .code (ct [1, 1] (bodyOf Try.f50))] (gabionref16_Right_j1_I B0 x15 zb1) L := by
  unfold gabionref16_Right_j1 at h
  rintro _ B _ ⟨hB, b3, v4, h4, rfl, rfl⟩
  obtain ⟨_, _, _, _, _, rfl⟩ := h4.isl
  rcases bsp x15 with k5 | k5
  · replace h := (if_pos k5).symm.trans h
    refine WX.condT rfl k5 ?_
    refine WX.seq ?_
    refine WX.reg ?_
    refine WO.q (.as (v := .bool _) rfl) rfl rfl ?_
    refine WO.nil ?_
    obtain rfl := Option.some.inj h
    exact WX.ret (rs_ (rs_tmp rfl rs_nil)) fun st hp => ⟨(hp.pk [] (by decide)).le hB, rfl⟩
  · replace h := (if_neg (bnt k5)).symm.trans h
    refine WX.condF rfl k5 ?_
    refine WX.skip ?_
    refine WX.seq ?_
    refine WX.seq ?_
    refine WX.reg ?_
    refine WO.q (.fa (fa88_0 _ _)) rfl rfl ?_
    refine WO.q (.ldS (i := 0) rfl rfl rfl ti5 rfl) rfl rfl ?_
    refine WO.nil ?_
    refine WX.block ?_
    refine WX.seq ?_
    refine WX.reg ?_
    refine WO.q (.r fun _ => rfl) rfl rfl ?_
    refine WO.q (.as (v := .bool _) rfl) rfl rfl ?_
    refine WO.nil ?_
    rcases bsp (decide (zb1.1 = 1)) with k6 | k6
    · have q_k6 := of_decide_eq_true k6
      replace h := (if_pos q_k6).symm.trans h
      refine WX.condT rfl k6 ?_
      refine WX.seq ?_
      refine WX.reg ?_
      refine WO.q (.fa (fa88_3 _ _)) rfl rfl ?_
      refine WO.q (.ldS (i := 0) rfl rfl rfl ti40 rfl) rfl rfl ?_
      obtain ⟨y7, hy7, h⟩ := Option.bind_eq_some_iff.1 h
      refine WO.cS rfl rfl (gabionref15_Right_ok h4 hy7) rfl rfl rfl ?_
      rintro _ rfl
      refine WO.q (.as (v := .bool _) rfl) rfl rfl ?_
      refine WO.nil ?_
      refine WX.seq ?_
      refine WX.seq ?_
      refine WX.reg ?_
      refine WO.q (.mv (v := .bool _) rfl) rfl rfl ?_
      refine WO.q (.r fun _ => rfl) rfl rfl ?_
      refine WO.q (.mv (v := .bool _) rfl) rfl rfl ?_
      rcases bsp y7 with k8 | k8
      · replace h := (if_pos k8).symm.trans h
        refine WO.q (.fa (fa88_2 _ _)) (wg rfl rfl (gf (f_not k8))) rfl ?_
        refine WO.q (.ldS (i := 0) rfl rfl rfl ti3 rfl) (wg rfl rfl (gf (f_not k8))) rfl ?_
        refine WO.q (.r fun _ => rfl) (wg rfl rfl (gf (f_not k8))) rfl ?_
        refine WO.q (.pfv (v := .bool _) rfl (f_not k8) rfl) rfl rfl ?_
        refine WO.q (.mv (v := .bool _) rfl) rfl rfl ?_
        rcases bsp (decide (zb1.2.2.1 < 0)) with k9 | k9
        · have q_k9 := of_decide_eq_true k9
          replace h := (if_pos q_k9).symm.trans h
          refine WO.sd (wg rfl rfl (gfn k9)) rfl ?_
          refine WO.sd (wg rfl rfl (gfn k9)) rfl ?_
          refine WO.sd (wg rfl rfl (gfn k9)) rfl ?_
          refine WO.q (.ptv (v := .bool _) rfl k9 rfl) rfl rfl ?_
          refine WO.q (.mv (v := .bool _) rfl) rfl rfl ?_
          refine WO.sd (wg rfl rfl (gfn rfl)) rfl ?_
          refine WO.sd (wg rfl rfl (gfn rfl)) rfl ?_
          refine WO.sd (wg rfl rfl (gfn rfl)) rfl ?_
          refine WO.q (.ptv (v := .bool _) rfl rfl rfl) rfl rfl ?_
          refine WO.nil ?_
          refine WX.keep [1, 39] (WX.pk [0] (by decide) ?_) rfl
          exact gabionref16_Right_j6_ok h _ _ _ ⟨hB, _, _, h4, rfl, rfl⟩
        · have q_k9 := of_decide_eq_false k9
          replace h := (if_neg q_k9).symm.trans h
          refine WO.q (.fa (fa88_2 _ _)) (wg rfl rfl (gf k9)) rfl ?_
          refine WO.q (.ldS (i := 0) rfl rfl rfl ti3 rfl) (wg rfl rfl (gf k9)) rfl ?_
          refine WO.q (.r fun _ => rfl) (wg rfl rfl (gf k9)) rfl ?_
          refine WO.q (.pfv (v := .bool _) rfl k9 rfl) rfl rfl ?_
          refine WO.q (.mv (v := .bool _) rfl) rfl rfl ?_
          rcases bsp (decide (4194304 < zb1.2.2.1)) with k24 | k24
          · have q_k24 := of_decide_eq_true k24
            replace h := (if_pos q_k24).symm.trans h
            refine WO.sd (wg rfl rfl (gfn k24)) rfl ?_
            refine WO.sd (wg rfl rfl (gfn k24)) rfl ?_
            refine WO.sd (wg rfl rfl (gfn k24)) rfl ?_
            refine WO.q (.ptv (v := .bool _) rfl k24 rfl) rfl rfl ?_
            refine WO.nil ?_
            refine WX.keep [1, 39] (WX.pk [0] (by decide) ?_) rfl
            exact gabionref16_Right_j6_ok h _ _ _ ⟨hB, _, _, h4, rfl, rfl⟩
          · have q_k24 := of_decide_eq_false k24
            replace h := (if_neg q_k24).symm.trans h
            refine WO.q (.fa (fa88_4 _ _)) (wg rfl rfl (gf k24)) rfl ?_
            refine WO.q (.ldS (i := 0) rfl rfl rfl ti9 rfl) (wg rfl rfl (gf k24)) rfl ?_
            refine WO.q (.r fun _ => rfl) (wg rfl rfl (gf k24)) rfl ?_
            refine WO.q (.pfv (v := .bool _) rfl k24 rfl) rfl rfl ?_
            refine WO.nil ?_
            refine WX.keep [1, 39] (WX.pk [0] (by decide) ?_) rfl
            exact gabionref16_Right_j6_ok h _ _ _ ⟨hB, _, _, h4, rfl, rfl⟩
      · replace h := (if_neg (bnt k8)).symm.trans h
        refine WO.sd (wg rfl rfl (gfn (t_not k8))) rfl ?_
        refine WO.sd (wg rfl rfl (gfn (t_not k8))) rfl ?_
        refine WO.sd (wg rfl rfl (gfn (t_not k8))) rfl ?_
        refine WO.q (.ptv (v := .bool _) rfl (t_not k8) rfl) rfl rfl ?_
        refine WO.q (.mv (v := .bool _) rfl) rfl rfl ?_
        refine WO.sd (wg rfl rfl (gfn rfl)) rfl ?_
        refine WO.sd (wg rfl rfl (gfn rfl)) rfl ?_
        refine WO.sd (wg rfl rfl (gfn rfl)) rfl ?_
        refine WO.q (.ptv (v := .bool _) rfl rfl rfl) rfl rfl ?_
        refine WO.q (.mv (v := .bool _) rfl) rfl rfl ?_
        refine WO.sd (wg rfl rfl (gfn rfl)) rfl ?_
        refine WO.sd (wg rfl rfl (gfn rfl)) rfl ?_
        refine WO.sd (wg rfl rfl (gfn rfl)) rfl ?_
        refine WO.q (.ptv (v := .bool _) rfl rfl rfl) rfl rfl ?_
        refine WO.nil ?_
        refine WX.keep [1, 39] (WX.pk [0] (by decide) ?_) rfl
        exact gabionref16_Right_j6_ok h _ _ _ ⟨hB, _, _, h4, rfl, rfl⟩
    · have q_k6 := of_decide_eq_false k6
      replace h := (if_neg q_k6).symm.trans h
      refine WX.condF rfl k6 ?_
      refine WX.seq ?_
      refine WX.reg ?_
      refine WO.q (.r fun _ => rfl) rfl rfl ?_
      refine WO.q (.as (v := .bool _) rfl) rfl rfl ?_
      refine WO.nil ?_
      rcases bsp (decide (zb1.1 = 2)) with k25 | k25
      · have q_k25 := of_decide_eq_true k25
        replace h := (if_pos q_k25).symm.trans h
        refine WX.condT rfl k25 ?_
        refine WX.seq ?_
        refine WX.reg ?_
        refine WO.q (.fa (fa88_2 _ _)) rfl rfl ?_
        refine WO.q (.ldS (i := 0) rfl rfl rfl ti3 rfl) rfl rfl ?_
        refine WO.q (.r fun _ => rfl) rfl rfl ?_
        refine WO.q (.mv (v := .bool _) rfl) rfl rfl ?_
        rcases bsp (decide (zb1.2.2.1 = 0)) with k26 | k26
        · have q_k26 := of_decide_eq_true k26
          replace h := (if_pos q_k26).symm.trans h
          refine WO.q (.fa (fa88_3 _ _)) (wg rfl rfl (gt k26)) rfl ?_
          refine WO.q (.ldS (i := 0) rfl rfl rfl ti40 rfl) (wg rfl rfl (gt k26)) rfl ?_
          refine WO.q (.len rfl rfl rfl (sl40.len h4.isl)) (wg rfl rfl (gt k26)) rfl ?_
          refine WO.q (.r fun _ => rfl) (wg rfl rfl (gt k26)) rfl ?_
          refine WO.q (.ptv (v := .bool _) rfl k26 rfl) rfl rfl ?_
          refine WO.q (.mv (v := .bool _) rfl) rfl rfl ?_
          rcases bsp (decide ((zb1.2.2.2.1.length : Int) = 0)) with k27 | k27
          · have q_k27 := of_decide_eq_true k27
            replace h := (if_pos q_k27).symm.trans h
            refine WO.q (.fa (fa88_4 _ _)) (wg rfl rfl (gt k27)) rfl ?_
            refine WO.q (.ldS (i := 0) rfl rfl rfl ti9 rfl) (wg rfl rfl (gt k27)) rfl ?_
            refine WO.q (.r fun _ => rfl) (wg rfl rfl (gt k27)) rfl ?_
            refine WO.q (.ptv (v := .bool _) rfl k27 rfl) rfl rfl ?_
            refine WO.q (.as (v := .bool _) rfl) rfl rfl ?_
            refine WO.nil ?_
            obtain rfl := Option.some.inj h
            exact WX.ret (rs_ (rs_tmp rfl rs_nil)) fun st hp => ⟨(hp.pk [] (by decide)).le hB, rfl⟩
          · have q_k27 := of_decide_eq_false k27
            replace h := (if_neg q_k27).symm.trans h
            refine WO.sd (wg rfl rfl (gtn k27)) rfl ?_
            refine WO.sd (wg rfl rfl (gtn k27)) rfl ?_
            refine WO.sd (wg rfl rfl (gtn k27)) rfl ?_
            refine WO.q (.pfv (v := .bool _) rfl k27 rfl) rfl rfl ?_
            refine WO.q (.as (v := .bool _) rfl) rfl rfl ?_
            refine WO.nil ?_
            obtain rfl := Option.some.inj h
            exact WX.ret (rs_ (rs_tmp rfl rs_nil)) fun st hp => ⟨(hp.pk [] (by decide)).le hB, rfl⟩
        · have q_k26 := of_decide_eq_false k26
          replace h := (if_neg q_k26).symm.trans h
          refine WO.sd (wg rfl rfl (gtn k26)) rfl ?_
          refine WO.sd (wg rfl rfl (gtn k26)) rfl ?_
          refine WO.sd (wg rfl rfl (gtn k26)) rfl ?_
          refine WO.sd (wg rfl rfl (gtn k26)) rfl ?_
          refine WO.q (.pfv (v := .bool _) rfl k26 rfl) rfl rfl ?_
          refine WO.q (.mv (v := .bool _) rfl) rfl rfl ?_
          refine WO.sd (wg rfl rfl (gtn rfl)) rfl ?_
          refine WO.sd (wg rfl rfl (gtn rfl)) rfl ?_
          refine WO.sd (wg rfl rfl (gtn rfl)) rfl ?_
          refine WO.q (.pfv (v := .bool _) rfl rfl rfl) rfl rfl ?_
          refine WO.q (.as (v := .bool _) rfl) rfl rfl ?_
          refine WO.nil ?_
          obtain rfl := Option.some.inj h
          exact WX.ret (rs_ (rs_tmp rfl rs_nil)) fun st hp => ⟨(hp.pk [] (by decide)).le hB, rfl⟩
      · have q_k25 := of_decide_eq_false k25
        replace h := (if_neg q_k25).symm.trans h
        refine WX.condF rfl k25 ?_
        refine WX.seq ?_
        refine WX.reg ?_
        refine WO.q (.r fun _ => rfl) rfl rfl ?_
        refine WO.q (.as (v := .bool _) rfl) rfl rfl ?_
        refine WO.nil ?_
        rcases bsp (decide (zb1.1 = 3)) with k28 | k28
        · have q_k28 := of_decide_eq_true k28
          replace h := (if_pos q_k28).symm.trans h
          refine WX.condT rfl k28 ?_
          refine WX.seq ?_
          refine WX.seq ?_
          refine WX.reg ?_
          refine WO.q (.as (v := .int _ _) rfl) rfl rfl ?_
          refine WO.nil ?_
          refine WX.block ?_
          refine WX.loop ?_
          obtain ⟨e36, he36, h⟩ := Option.bind_eq_some_iff.1 h
          refine WX.keep [1, 7] (WX.pk [0] (by decide) ?_) rfl
          refine gabionref16_Right_l1_ok he36 ?_ ?_ _ _ _ ⟨hB, _, _, h4, rfl, rfl⟩
          · intro r38 he_
            subst he_
            replace h := (on_l h)
            obtain rfl := Option.some.inj h
            exact fun v st hp => hp
          · intro x39 he_
            subst he_
            replace h := (on_r h)
            rintro _ B _ ⟨hB, b40, v41, h41, rfl, rfl⟩
            obtain ⟨_, _, _, _, _, rfl⟩ := h41.isl
            refine WX.seq ?_
            refine WX.reg ?_
            refine WO.q (.fa (fa88_4 _ _)) rfl rfl ?_
            refine WO.q (.ldS (i := 0) rfl rfl rfl ti9 rfl) rfl rfl ?_
            refine WO.q (.len rfl rfl rfl (evslen ti9 rfl _)) rfl rfl ?_
            refine WO.q (.r fun _ => rfl) rfl rfl ?_
            refine WO.q (.mv (v := .bool _) rfl) rfl rfl ?_
            rcases bsp (decide (1 ≤ (zb1.2.2.2.2.length : Int))) with k42 | k42
            · have q_k42 := of_decide_eq_true k42
              replace h := (if_pos q_k42).symm.trans h
              refine WO.q (.fa (fa88_4 _ _)) (wg rfl rfl (gt k42)) rfl ?_
              refine WO.q (.ldS (i := 0) rfl rfl rfl ti9 rfl) (wg rfl rfl (gt k42)) rfl ?_
              refine WO.q (.len rfl rfl rfl (evslen ti9 rfl _)) (wg rfl rfl (gt k42)) rfl ?_
              refine WO.q (.r fun _ => rfl) (wg rfl rfl (gt k42)) rfl ?_
              refine WO.q (.ptv (v := .bool _) rfl k42 rfl) rfl rfl ?_
              refine WO.q (.mv (v := .bool _) rfl) rfl rfl ?_
              rcases bsp (decide ((zb1.2.2.2.2.length : Int) ≤ 256)) with k43 | k43
              · have q_k43 := of_decide_eq_true k43
                replace h := (if_pos q_k43).symm.trans h
                refine WO.q (.fa (fa88_2 _ _)) (wg rfl rfl (gt k43)) rfl ?_
                refine WO.q (.ldS (i := 0) rfl rfl rfl ti3 rfl) (wg rfl rfl (gt k43)) rfl ?_
                refine WO.q (.fa (fa88_4 _ _)) (wg rfl rfl (gt k43)) rfl ?_
                refine WO.q (.ldS (i := 0) rfl rfl rfl ti9 rfl) (wg rfl rfl (gt k43)) rfl ?_
                refine WO.q (.len rfl rfl rfl (evslen ti9 rfl _)) (wg rfl rfl (gt k43)) rfl ?_
                refine WO.q (.r fun _ => rfl) (wg rfl rfl (gt k43)) rfl ?_
                refine WO.q (.ptv (v := .bool _) rfl k43 rfl) rfl rfl ?_
                refine WO.q (.mv (v := .bool _) rfl) rfl rfl ?_
                rcases bsp (decide (zb1.2.2.1 = (zb1.2.2.2.2.length : Int))) with k44 | k44
                · have q_k44 := of_decide_eq_true k44
                  replace h := (if_pos q_k44).symm.trans h
                  refine WO.q (.fa (fa88_3 _ _)) (wg rfl rfl (gt k44)) rfl ?_
                  refine WO.q (.ldS (i := 0) rfl rfl rfl ti40 rfl) (wg rfl rfl (gt k44)) rfl ?_
                  refine WO.q (.len rfl rfl rfl (sl40.len h41.isl)) (wg rfl rfl (gt k44)) rfl ?_
                  refine WO.q (.r fun _ => rfl) (wg rfl rfl (gt k44)) rfl ?_
                  refine WO.q (.ptv (v := .bool _) rfl k44 rfl) rfl rfl ?_
                  refine WO.q (.as (v := .bool _) rfl) rfl rfl ?_
                  refine WO.nil ?_
                  obtain rfl := Option.some.inj h
                  exact WX.ret (rs_ (rs_tmp rfl rs_nil)) fun st hp => ⟨(hp.pk [] (by decide)).le hB, rfl⟩
                · have q_k44 := of_decide_eq_false k44
                  replace h := (if_neg q_k44).symm.trans h
                  refine WO.sd (wg rfl rfl (gtn k44)) rfl ?_
                  refine WO.sd (wg rfl rfl (gtn k44)) rfl ?_
                  refine WO.sd (wg rfl rfl (gtn k44)) rfl ?_
                  refine WO.sd (wg rfl rfl (gtn k44)) rfl ?_
                  refine WO.q (.pfv (v := .bool _) rfl k44 rfl) rfl rfl ?_
                  refine WO.q (.as (v := .bool _) rfl) rfl rfl ?_
                  refine WO.nil ?_
                  obtain rfl := Option.some.inj h
                  exact WX.ret (rs_ (rs_tmp rfl rs_nil)) fun st hp => ⟨(hp.pk [] (by decide)).le hB, rfl⟩
              · have q_k43 := of_decide_eq_false k43
                replace h := (if_neg q_k43).symm.trans h
                refine WO.sd (wg rfl rfl (gtn k43)) rfl ?_
                refine WO.sd (wg rfl rfl (gtn k43)) rfl ?_
                refine WO.sd (wg rfl rfl (gtn k43)) rfl ?_
                refine WO.sd (wg rfl rfl (gtn k43)) rfl ?_
                refine WO.sd (wg rfl rfl (gtn k43)) rfl ?_
                refine WO.sd (wg rfl rfl (gtn k43)) rfl ?_
                refine WO.q (.pfv (v := .bool _) rfl k43 rfl) rfl rfl ?_
                refine WO.q (.mv (v := .bool _) rfl) rfl rfl ?_
                refine WO.sd (wg rfl rfl (gtn rfl)) rfl ?_
                refine WO.sd (wg rfl rfl (gtn rfl)) rfl ?_
                refine WO.sd (wg rfl rfl (gtn rfl)) rfl ?_
                refine WO.sd (wg rfl rfl (gtn rfl)) rfl ?_
                refine WO.q (.pfv (v := .bool _) rfl rfl rfl) rfl rfl ?_
                refine WO.q (.as (v := .bool _) rfl) rfl rfl ?_
                refine WO.nil ?_
                obtain rfl := Option.some.inj h
                exact WX.ret (rs_ (rs_tmp rfl rs_nil)) fun st hp => ⟨(hp.pk [] (by decide)).le hB, rfl⟩
            · have q_k42 := of_decide_eq_false k42
              replace h := (if_neg q_k42).symm.trans h
              refine WO.sd (wg rfl rfl (gtn k42)) rfl ?_
              refine WO.sd (wg rfl rfl (gtn k42)) rfl ?_
              refine WO.sd (wg rfl rfl (gtn k42)) rfl ?_
              refine WO.sd (wg rfl rfl (gtn k42)) rfl ?_
              refine WO.q (.pfv (v := .bool _) rfl k42 rfl) rfl rfl ?_
              refine WO.q (.mv (v := .bool _) rfl) rfl rfl ?_
              refine WO.sd (wg rfl rfl (gtn rfl)) rfl ?_
              refine WO.sd (wg rfl rfl (gtn rfl)) rfl ?_
              refine WO.sd (wg rfl rfl (gtn rfl)) rfl ?_
              refine WO.sd (wg rfl rfl (gtn rfl)) rfl ?_
              refine WO.sd (wg rfl rfl (gtn rfl)) rfl ?_
              refine WO.sd (wg rfl rfl (gtn rfl)) rfl ?_
              refine WO.q (.pfv (v := .bool _) rfl rfl rfl) rfl rfl ?_
              refine WO.q (.mv (v := .bool _) rfl) rfl rfl ?_
              refine WO.sd (wg rfl rfl (gtn rfl)) rfl ?_
              refine WO.sd (wg rfl rfl (gtn rfl)) rfl ?_
              refine WO.sd (wg rfl rfl (gtn rfl)) rfl ?_
              refine WO.sd (wg rfl rfl (gtn rfl)) rfl ?_
              refine WO.q (.pfv (v := .bool _) rfl rfl rfl) rfl rfl ?_
              refine WO.q (.as (v := .bool _) rfl) rfl rfl ?_
              refine WO.nil ?_
              obtain rfl := Option.some.inj h
              exact WX.ret (rs_ (rs_tmp rfl rs_nil)) fun st hp => ⟨(hp.pk [] (by decide)).le hB, rfl⟩
        · have q_k28 := of_decide_eq_false k28
          replace h := (if_neg q_k28).symm.trans h
          refine WX.condF rfl k28 ?_
          refine WX.skip ?_
          refine WX.pop ?_
          refine WX.seq ?_
          refine WX.reg ?_
          refine WO.q (.as (v := .bool _) rfl) rfl rfl ?_
          refine WO.nil ?_
          obtain rfl := Option.some.inj h
          exact WX.ret (rs_ (rs_tmp rfl rs_nil)) fun st hp => ⟨(hp.pk [] (by decide)).le hB, rfl⟩
theorem gabionref16_Right_ok {B0 : Kn} {L : Own} {a0 : Int × Int × Int × (List (Int × Int)) × (List UInt8)} {v0_0 : AV} {r : Bool} (g0_0 : RSl EPIi64Ii64Q B0 v0_0 a0.2.2.2.1) (h : gabionref16_Right a0 = some r) : ∀ st, Hp B0 L st → ASpec Try.prog 50 [.agg [.int .u8 a0.1, .int .i64 a0.2.1, .int .i64 a0.2.2.1, v0_0, .str a0.2.2.2.2]] st (gabionref16_Right_P B0 L r) := by
  unfold gabionref16_Right at h
  refine bodyA (A := []) Try.func50 rfl (c := bodyOf Try.f50) rfl Try.ntmps50 (lb rfl) fun n0 => ?_
  have hB := KLe.refl B0
  obtain ⟨_, _, _, _, _, rfl⟩ := g0_0.isl
  refine WX.seq ?_
  refine WX.reg ?_
  refine WO.md (MOp.box (cA rfl)) rfl rfl ?_
  rintro _ _ ⟨b1, rfl, rfl⟩
  refine WO.q (.as (v := .bool _) rfl) rfl rfl ?_
  refine WO.nil ?_
  refine WX.seq ?_
  refine WX.seq ?_
  refine WX.reg ?_
  refine WO.q (.fa (fa88_1 _ _)) rfl rfl ?_
  refine WO.q (.ldS (i := 0) rfl rfl rfl ti3 rfl) rfl rfl ?_
  refine WO.q (.r fun _ => rfl) rfl rfl ?_
  refine WO.q (.mv (v := .bool _) rfl) rfl rfl ?_
  rcases bsp (decide (a0.2.1 < 0)) with k2 | k2
  · have q_k2 := of_decide_eq_true k2
    replace h := (if_pos q_k2).symm.trans h
    refine WO.sd (wg rfl rfl (gfn k2)) rfl ?_
    refine WO.sd (wg rfl rfl (gfn k2)) rfl ?_
    refine WO.sd (wg rfl rfl (gfn k2)) rfl ?_
    refine WO.q (.ptv (v := .bool _) rfl k2 rfl) rfl rfl ?_
    refine WO.nil ?_
    refine WX.keep [1, 15] (WX.pk [0] (by decide) ?_) rfl
    exact gabionref16_Right_j1_ok h _ _ _ ⟨hB, _, _, g0_0, rfl, rfl⟩
  · have q_k2 := of_decide_eq_false k2
    replace h := (if_neg q_k2).symm.trans h
    refine WO.q (.fa (fa88_1 _ _)) (wg rfl rfl (gf k2)) rfl ?_
    refine WO.q (.ldS (i := 0) rfl rfl rfl ti3 rfl) (wg rfl rfl (gf k2)) rfl ?_
    refine WO.q (.r fun _ => rfl) (wg rfl rfl (gf k2)) rfl ?_
    refine WO.q (.pfv (v := .bool _) rfl k2 rfl) rfl rfl ?_
    refine WO.nil ?_
    refine WX.keep [1, 15] (WX.pk [0] (by decide) ?_) rfl
    exact gabionref16_Right_j1_ok h _ _ _ ⟨hB, _, _, g0_0, rfl, rfl⟩
def gabionref16_Text_P (B : Kn) (L : Own) (r : (List UInt8)) : AV → St → Prop := CS B L fun v => v = .str r
def gabionref16_Text_j2_I (B0 : Kn) (x1 : Int) (x21 : Bool) (zb2 : Int × Int × Int × (List (Int × Int)) × (List UInt8)) : Fr → Kn → Own → Prop := fun fr B A => KLe B0 B ∧ ∃ b5 v6, RSl EPIi64Ii64Q B v6 zb2.2.2.2.1 ∧ fr = [(1, .int .i64 x1), (2, .ptr b5 0), (21, .bool x21)] ∧ A = [(b5, some [.int .u8 zb2.1, .int .i64 zb2.2.1, .int .i64 zb2.2.2.1, v6, .str zb2.2.2.2.2])]
theorem gabionref16_Text_j2_ok {B0 : Kn} {L : Own} {n0 : Nat} {x1 : Int} {x21 : Bool} {zb2 : Int × Int × Int × (List (Int × Int)) × (List UInt8)} {r : (List UInt8)} (h : gabionref16_Text_j2 x1 x21 zb2 = some r) : WXI Try.prog 51 n0 (Fin Try.prog Try.f52.results.toList n0 (gabionref16_Text_P B0 L r)) [.code (ct [1, 1, 0, 1] (bodyOf Try.f52)), .code (ct [1, 1, 1] (bodyOf Try.f52))] (gabionref16_Text_j2_I B0 x1 x21 zb2) L := by
  unfold gabionref16_Text_j2 at h
  rintro _ B _ ⟨hB, b5, v6, h6, rfl, rfl⟩
  obtain ⟨_, _, _, _, _, rfl⟩ := h6.isl
  rcases bsp x21 with k7 | k7
  · replace h := (if_pos k7).symm.trans h
    refine WX.condT rfl k7 ?_
    refine WX.seq ?_
    refine WX.reg ?_
    refine WO.q (.as (v := .str _) rfl) rfl rfl ?_
    refine WO.nil ?_
    obtain rfl := Option.some.inj h
    exact WX.ret (rs_ (rs_tmp rfl rs_nil)) fun st hp => ⟨(hp.pk [] (by decide)).le hB, rfl⟩
  · replace h := (if_neg (bnt k7)).symm.trans h
    refine WX.condF rfl k7 ?_
    refine WX.skip ?_
    refine WX.seq ?_
    refine WX.reg ?_
    refine WO.q (.mv (v := .int _ _) rfl) rfl rfl ?_
    refine WO.q (cvI ti3 ti119 rfl rfl) rfl rfl ?_
    obtain ⟨y8, hy8, h⟩ := Option.bind_eq_some_iff.1 h
    refine WO.cS rfl rfl (gabionref01_Put_ok hy8) rfl rfl rfl ?_
    rintro _ rfl
    refine WO.q (.as (v := .str _) rfl) rfl rfl ?_
    refine WO.nil ?_
    refine WX.seq ?_
    refine WX.reg ?_
    refine WO.q (.fa (fa88_1 _ _)) rfl rfl ?_
    refine WO.q (.ldS (i := 0) rfl rfl rfl ti3 rfl) rfl rfl ?_
    refine WO.q (cvI ti3 ti119 rfl rfl) rfl rfl ?_
    obtain ⟨y9, hy9, h⟩ := Option.bind_eq_some_iff.1 h
    refine WO.cS rfl rfl (gabionref01_Put_ok hy9) rfl rfl rfl ?_
    rintro _ rfl
    refine WO.q (.as (v := .str _) rfl) rfl rfl ?_
    refine WO.nil ?_
    refine WX.seq ?_
    refine WX.reg ?_
    refine WO.q (.fa (fa88_2 _ _)) rfl rfl ?_
    refine WO.q (.ldS (i := 0) rfl rfl rfl ti3 rfl) rfl rfl ?_
    refine WO.q (cvI ti3 ti119 rfl rfl) rfl rfl ?_
    obtain ⟨y10, hy10, h⟩ := Option.bind_eq_some_iff.1 h
    refine WO.cS rfl rfl (gabionref01_Put_ok hy10) rfl rfl rfl ?_
    rintro _ rfl
    refine WO.q (.as (v := .str _) rfl) rfl rfl ?_
    refine WO.nil ?_
    refine WX.seq ?_
    refine WX.reg ?_
    refine WO.q (.fa (fa88_3 _ _)) rfl rfl ?_
    refine WO.q (.ldS (i := 0) rfl rfl rfl ti40 rfl) rfl rfl ?_
    obtain ⟨y11, hy11, h⟩ := Option.bind_eq_some_iff.1 h
    refine WO.cS rfl rfl (gabionref15_Text_ok h6 hy11) rfl rfl rfl ?_
    rintro _ rfl
    refine WO.q (.as (v := .str _) rfl) rfl rfl ?_
    refine WO.nil ?_
    refine WX.seq ?_
    refine WX.reg ?_
    refine WO.q (.mv (v := .str _) rfl) rfl rfl ?_
    refine WO.q (.fa (fa88_0 _ _)) rfl rfl ?_
    refine WO.q (.ldS (i := 0) rfl rfl rfl ti5 rfl) rfl rfl ?_
    refine WO.md (MOp.bs (l := ([zb2.1] : List Int)) sl32 (RL.cons Ri RL.nil) (lb rfl) rfl rfl) rfl rfl ?_
    rintro v14 _ ⟨b12, o13, rfl⟩
    obtain ⟨_, _, _, _, _, rfl⟩ := o13.isl
    refine WO.q (cvBo (j := 0) ⟨_, _, _, ti32, rfl, ti5, rfl⟩ ti9 rfl o13 rfl rfl) rfl rfl ?_
    obtain ⟨y16, hy16, h⟩ := Option.bind_eq_some_iff.1 h
    refine WO.q (.bin (evcat hy16)) rfl rfl ?_
    refine WO.q (.mv (v := .str _) rfl) rfl rfl ?_
    obtain ⟨y17, hy17, h⟩ := Option.bind_eq_some_iff.1 h
    refine WO.q (.bin (evcat hy17)) rfl rfl ?_
    refine WO.q (.mv (v := .str _) rfl) rfl rfl ?_
    obtain ⟨y18, hy18, h⟩ := Option.bind_eq_some_iff.1 h
    refine WO.q (.bin (evcat hy18)) rfl rfl ?_
    refine WO.q (.mv (v := .str _) rfl) rfl rfl ?_
    obtain ⟨y19, hy19, h⟩ := Option.bind_eq_some_iff.1 h
    refine WO.q (.bin (evcat hy19)) rfl rfl ?_
    refine WO.q (.fa (fa88_4 _ _)) rfl rfl ?_
    refine WO.q (.ldS (i := 1) rfl rfl rfl ti9 rfl) rfl rfl ?_
    obtain ⟨y20, hy20, h⟩ := Option.bind_eq_some_iff.1 h
    refine WO.q (.bin (evcat hy20)) rfl rfl ?_
    refine WO.q (.as (v := .str _) rfl) rfl rfl ?_
    refine WO.nil ?_
    obtain rfl := Option.some.inj h
    exact WX.ret (rs_ (rs_tmp rfl rs_nil)) fun st hp => ⟨(hp.pk [] (by decide)).le hB, rfl⟩
theorem gabionref16_Text_ok {B0 : Kn} {L : Own} {a0 : Int × Int × Int × (List (Int × Int)) × (List UInt8)} {a1 : Int} {v0_0 : AV} {r : (List UInt8)} (g0_0 : RSl EPIi64Ii64Q B0 v0_0 a0.2.2.2.1) (h : gabionref16_Text a0 a1 = some r) : ∀ st, Hp B0 L st → ASpec Try.prog 52 [.agg [.int .u8 a0.1, .int .i64 a0.2.1, .int .i64 a0.2.2.1, v0_0, .str a0.2.2.2.2], .int .i64 a1] st (gabionref16_Text_P B0 L r) := by
  unfold gabionref16_Text at h
  refine bodyA (A := []) Try.func52 rfl (c := bodyOf Try.f52) rfl Try.ntmps52 (lb rfl) fun n0 => ?_
  have hB := KLe.refl B0
  obtain ⟨_, _, _, _, _, rfl⟩ := g0_0.isl
  refine WX.seq ?_
  refine WX.reg ?_
  refine WO.md (MOp.box (cA rfl)) rfl rfl ?_
  rintro _ _ ⟨b1, rfl, rfl⟩
  refine WO.q (.as (v := .str _) rfl) rfl rfl ?_
  refine WO.nil ?_
  refine WX.seq ?_
  refine WX.reg ?_
  refine WO.q (.ldA (i := 0) rfl rfl rfl ti88 rfl) rfl rfl ?_
  obtain ⟨y2, hy2, h⟩ := Option.bind_eq_some_iff.1 h
  refine WO.cS rfl rfl (gabionref16_Right_ok g0_0 hy2) rfl rfl rfl ?_
  rintro _ rfl
  refine WO.q (.as (v := .bool _) rfl) rfl rfl ?_
  refine WO.nil ?_
  refine WX.seq ?_
  refine WX.seq ?_
  refine WX.reg ?_
  refine WO.q (.mv (v := .bool _) rfl) rfl rfl ?_
  refine WO.q (.r fun _ => rfl) rfl rfl ?_
  refine WO.q (.mv (v := .bool _) rfl) rfl rfl ?_
  rcases bsp y2 with k3 | k3
  · replace h := (if_pos k3).symm.trans h
    refine WO.q (.mv (v := .int _ _) rfl) (wg rfl rfl (gf (f_not k3))) rfl ?_
    refine WO.q (.r fun _ => rfl) (wg rfl rfl (gf (f_not k3))) rfl ?_
    refine WO.q (.pfv (v := .bool _) rfl (f_not k3) rfl) rfl rfl ?_
    refine WO.q (.mv (v := .bool _) rfl) rfl rfl ?_
    rcases bsp (decide (a1 < 0)) with k4 | k4
    · have q_k4 := of_decide_eq_true k4
      replace h := (if_pos q_k4).symm.trans h
      refine WO.sd (wg rfl rfl (gfn k4)) rfl ?_
      refine WO.sd (wg rfl rfl (gfn k4)) rfl ?_
      refine WO.q (.ptv (v := .bool _) rfl k4 rfl) rfl rfl ?_
      refine WO.nil ?_
      refine WX.keep [1, 2, 21] (WX.pk [0] (by decide) ?_) rfl
      exact gabionref16_Text_j2_ok h _ _ _ ⟨hB, _, _, g0_0, rfl, rfl⟩
    · have q_k4 := of_decide_eq_false k4
      replace h := (if_neg q_k4).symm.trans h
      refine WO.q (.mv (v := .int _ _) rfl) (wg rfl rfl (gf k4)) rfl ?_
      refine WO.q (.r fun _ => rfl) (wg rfl rfl (gf k4)) rfl ?_
      refine WO.q (.pfv (v := .bool _) rfl k4 rfl) rfl rfl ?_
      refine WO.nil ?_
      refine WX.keep [1, 2, 21] (WX.pk [0] (by decide) ?_) rfl
      exact gabionref16_Text_j2_ok h _ _ _ ⟨hB, _, _, g0_0, rfl, rfl⟩
  · replace h := (if_neg (bnt k3)).symm.trans h
    refine WO.sd (wg rfl rfl (gfn (t_not k3))) rfl ?_
    refine WO.sd (wg rfl rfl (gfn (t_not k3))) rfl ?_
    refine WO.q (.ptv (v := .bool _) rfl (t_not k3) rfl) rfl rfl ?_
    refine WO.q (.mv (v := .bool _) rfl) rfl rfl ?_
    refine WO.sd (wg rfl rfl (gfn rfl)) rfl ?_
    refine WO.sd (wg rfl rfl (gfn rfl)) rfl ?_
    refine WO.q (.ptv (v := .bool _) rfl rfl rfl) rfl rfl ?_
    refine WO.nil ?_
    refine WX.keep [1, 2, 21] (WX.pk [0] (by decide) ?_) rfl
    exact gabionref16_Text_j2_ok h _ _ _ ⟨hB, _, _, g0_0, rfl, rfl⟩
end Gab
