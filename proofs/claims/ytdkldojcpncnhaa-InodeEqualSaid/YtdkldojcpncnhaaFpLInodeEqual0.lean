/- The Go code comes to what the Lean functions say. Written by a program (gp.py). -/
import Derived.Test.YtdkldojcpncnhaaFd
import Derived.Test.YtdkldojcpncnhaaTy
import Derived.Test.YtdkldojcpncnhaaFpInode2
import Derived.Test.YtdkldojcpncnhaaFpLaw160
import Derived.Test.YtdkldojcpncnhaaFpLaw162
set_option linter.unusedSimpArgs false
set_option linter.unusedVariables false
set_option maxHeartbeats 4000000
set_option maxRecDepth 100000
namespace Gab
open Go Go.Proofs
def gabionlaw16_InodeEqual_P (B : Kn) (L : Own) (r : Bool) : AV → St → Prop := CS B L fun v => v = .bool r
def gabionlaw16_InodeEqual_j7_I (B0 : Kn) (x7 : Bool) (x51 : Int) (x52 : Int) (zb5 : Int × Int × Int × (List (Int × Int)) × (List UInt8)) (zb6 : Int × Int × Int × (List (Int × Int)) × (List UInt8)) : Fr → Kn → Own → Prop := fun fr B A => KLe B0 B ∧ ∃ b8023 v8024 b8025 v8026, RSl EPIi64Ii64Q B v8024 zb5.2.2.2.1 ∧ RSl EPIi64Ii64Q B v8026 zb6.2.2.2.1 ∧ fr = [(5, .ptr b8023 0), (6, .ptr b8025 0), (7, .bool x7), (51, .int .i64 x51), (52, .int .i64 x52)] ∧ A = [(b8023, some [.int .u8 zb5.1, .int .i64 zb5.2.1, .int .i64 zb5.2.2.1, v8024, .str zb5.2.2.2.2]), (b8025, some [.int .u8 zb6.1, .int .i64 zb6.2.1, .int .i64 zb6.2.2.1, v8026, .str zb6.2.2.2.2])]
def gabionlaw16_InodeEqual_l0_I (B0 : Kn) (x51 : Int) (zb5 : Int × Int × Int × (List (Int × Int)) × (List UInt8)) (zb6 : Int × Int × Int × (List (Int × Int)) × (List UInt8)) (x7 : Bool) (x52 : Int) : Fr → Kn → Own → Prop := fun fr B A => KLe B0 B ∧ ∃ b8015 v8016 b8017 v8018, RSl EPIi64Ii64Q B v8016 zb5.2.2.2.1 ∧ RSl EPIi64Ii64Q B v8018 zb6.2.2.2.1 ∧ fr = [(5, .ptr b8015 0), (6, .ptr b8017 0), (7, .bool x7), (51, .int .i64 x51), (52, .int .i64 x52)] ∧ A = [(b8015, some [.int .u8 zb5.1, .int .i64 zb5.2.1, .int .i64 zb5.2.2.1, v8016, .str zb5.2.2.2.2]), (b8017, some [.int .u8 zb6.1, .int .i64 zb6.2.1, .int .i64 zb6.2.2.1, v8018, .str zb6.2.2.2.2])]
def gabionlaw16_InodeEqual_l0_X0 (B0 : Kn) (x7 : Bool) (zb5 : Int × Int × Int × (List (Int × Int)) × (List UInt8)) (zb6 : Int × Int × Int × (List (Int × Int)) × (List UInt8)) : Fr → Kn → Own → Prop := fun fr B A => KLe B0 B ∧ ∃ b10003 v10004 b10005 v10006, RSl EPIi64Ii64Q B v10004 zb5.2.2.2.1 ∧ RSl EPIi64Ii64Q B v10006 zb6.2.2.2.1 ∧ fr = [(5, .ptr b10003 0), (6, .ptr b10005 0), (7, .bool x7)] ∧ A = [(b10003, some [.int .u8 zb5.1, .int .i64 zb5.2.1, .int .i64 zb5.2.2.1, v10004, .str zb5.2.2.2.2]), (b10005, some [.int .u8 zb6.1, .int .i64 zb6.2.1, .int .i64 zb6.2.2.1, v10006, .str zb6.2.2.2.2])]
def gabionlaw16_InodeEqual_j2_I (B0 : Kn) (x7 : Bool) (zb5 : Int × Int × Int × (List (Int × Int)) × (List UInt8)) (zb6 : Int × Int × Int × (List (Int × Int)) × (List UInt8)) : Fr → Kn → Own → Prop := fun fr B A => KLe B0 B ∧ ∃ b8011 v8012 b8013 v8014, RSl EPIi64Ii64Q B v8012 zb5.2.2.2.1 ∧ RSl EPIi64Ii64Q B v8014 zb6.2.2.2.1 ∧ fr = [(5, .ptr b8011 0), (6, .ptr b8013 0), (7, .bool x7)] ∧ A = [(b8011, some [.int .u8 zb5.1, .int .i64 zb5.2.1, .int .i64 zb5.2.2.1, v8012, .str zb5.2.2.2.2]), (b8013, some [.int .u8 zb6.1, .int .i64 zb6.2.1, .int .i64 zb6.2.2.1, v8014, .str zb6.2.2.2.2])]
def gabionlaw16_InodeEqual_j1_I (B0 : Kn) (zb5 : Int × Int × Int × (List (Int × Int)) × (List UInt8)) (zb6 : Int × Int × Int × (List (Int × Int)) × (List UInt8)) : Fr → Kn → Own → Prop := fun fr B A => KLe B0 B ∧ ∃ b8003 v8004 b8005 v8006, RSl EPIi64Ii64Q B v8004 zb5.2.2.2.1 ∧ RSl EPIi64Ii64Q B v8006 zb6.2.2.2.1 ∧ fr = [(5, .ptr b8003 0), (6, .ptr b8005 0)] ∧ A = [(b8003, some [.int .u8 zb5.1, .int .i64 zb5.2.1, .int .i64 zb5.2.2.1, v8004, .str zb5.2.2.2.2]), (b8005, some [.int .u8 zb6.1, .int .i64 zb6.2.1, .int .i64 zb6.2.2.1, v8006, .str zb6.2.2.2.2])]
theorem gabionlaw16_InodeEqual_j7_ok {B0 : Kn} {L : Own} {n0 : Nat} {x7 : Bool} {x51 : Int} {x52 : Int} {zb5 : Int × Int × Int × (List (Int × Int)) × (List UInt8)} {zb6 : Int × Int × Int × (List (Int × Int)) × (List UInt8)} {Q : AV → St → Prop} {E : (Bool × Int) ⊕ Bool → Prop} {o : (Bool × Int) ⊕ Bool} (h : gabionlaw16_InodeEqual_j7 x7 x51 x52 zb5 zb6 = some o) (hn : ∀ s, E (.inl s) → WXI Try.prog 100 n0 (Fin Try.prog Try.f13.results.toList n0 Q) [.lp (ct [1, 1, 1, 0, 1, 0, 0] (bodyOf Try.f13)), .blk 0, .code (ct [1, 1, 1, 1] (bodyOf Try.f13))] (gabionlaw16_InodeEqual_l0_I B0 x51 zb5 zb6 s.1 s.2) L) (hx0 : ∀ s, E (.inr s) → WXI Try.prog 100 n0 (Fin Try.prog Try.f13.results.toList n0 Q) [.code (ct [1, 1, 1, 1] (bodyOf Try.f13))] (gabionlaw16_InodeEqual_l0_X0 B0 s zb5 zb6) L) (hE : E o) : WXI Try.prog 100 n0 (Fin Try.prog Try.f13.results.toList n0 Q) [.code (ct [1, 1, 1, 0, 1, 0, 0, 1, 1, 1] (bodyOf Try.f13)), .lp (ct [1, 1, 1, 0, 1, 0, 0] (bodyOf Try.f13)), .blk 0, .code (ct [1, 1, 1, 1] (bodyOf Try.f13))] (gabionlaw16_InodeEqual_j7_I B0 x7 x51 x52 zb5 zb6) L := by
  unfold gabionlaw16_InodeEqual_j7 at h
  rintro _ B _ ⟨hB, b8023, v8024, b8025, v8026, h8024, h8026, rfl, rfl⟩
  obtain ⟨_, _, _, _, _, rfl⟩ := h8024.isl
  obtain ⟨_, _, _, _, _, rfl⟩ := h8026.isl
  refine WX.reg ?_
  refine WO.q (.r fun _ => rfl) rfl rfl ?_
  refine WO.q (.mv (v := .int _ _) rfl) rfl rfl ?_
  refine WO.nil ?_
  refine WX.keepL [5, 6, 7, 51, 52] (WX.pk [0, 1] (by decide) ?_) rfl
  obtain rfl := Option.some.inj h
  exact hn _ hE _ _ _ ⟨hB, _, _, _, _, h8024, h8026, rfl, rfl⟩
theorem gabionlaw16_InodeEqual_l0_s {B0 : Kn} {L : Own} {n0 : Nat} {x51 : Int} {zb5 : Int × Int × Int × (List (Int × Int)) × (List UInt8)} {zb6 : Int × Int × Int × (List (Int × Int)) × (List UInt8)} {x7 : Bool} {x52 : Int} {Q : AV → St → Prop} {E : (Bool × Int) ⊕ Bool → Prop} {o : (Bool × Int) ⊕ Bool} (h : gabionlaw16_InodeEqual_l0 x51 zb5 zb6 x7 x52 = some o) (hn : ∀ s, E (.inl s) → WXI Try.prog 100 n0 (Fin Try.prog Try.f13.results.toList n0 Q) [.lp (ct [1, 1, 1, 0, 1, 0, 0] (bodyOf Try.f13)), .blk 0, .code (ct [1, 1, 1, 1] (bodyOf Try.f13))] (gabionlaw16_InodeEqual_l0_I B0 x51 zb5 zb6 s.1 s.2) L) (hx0 : ∀ s, E (.inr s) → WXI Try.prog 100 n0 (Fin Try.prog Try.f13.results.toList n0 Q) [.code (ct [1, 1, 1, 1] (bodyOf Try.f13))] (gabionlaw16_InodeEqual_l0_X0 B0 s zb5 zb6) L) (hE : E o) : WXI Try.prog 100 n0 (Fin Try.prog Try.f13.results.toList n0 Q) [.code (ct [1, 1, 1, 0, 1, 0, 0] (bodyOf Try.f13)), .lp (ct [1, 1, 1, 0, 1, 0, 0] (bodyOf Try.f13)), .blk 0, .code (ct [1, 1, 1, 1] (bodyOf Try.f13))] (gabionlaw16_InodeEqual_l0_I B0 x51 zb5 zb6 x7 x52) L := by
  unfold gabionlaw16_InodeEqual_l0 at h
  rintro _ B _ ⟨hB, b8015, v8016, b8017, v8018, h8016, h8018, rfl, rfl⟩
  obtain ⟨_, _, _, _, _, rfl⟩ := h8016.isl
  obtain ⟨_, _, _, _, _, rfl⟩ := h8018.isl
  refine WX.seq ?_
  refine WX.reg ?_
  refine WO.q (.r fun _ => rfl) rfl rfl ?_
  refine WO.nil ?_
  refine WX.seq ?_
  rcases bsp (decide (x52 < x51)) with k8019 | k8019
  · have q_k8019 := of_decide_eq_true k8019
    replace h := (if_pos q_k8019).symm.trans h
    refine WX.condT rfl k8019 ?_
    refine WX.skip ?_
    refine WX.seq ?_
    refine WX.block ?_
    refine WX.seq ?_
    refine WX.reg ?_
    refine WO.q (.mv (v := .int _ _) rfl) rfl rfl ?_
    refine WO.q (.as (v := .int _ _) rfl) rfl rfl ?_
    refine WO.nil ?_
    refine WX.drw (Plan.of [0, 1, 2, 3, 4, 5, 6, 7, 8, 9, 10, 11, 12, 13, 14] .nil) _ mixed (by kernel_rfl) rfl (pk_sub [0, 1]) ?_
    refine WP.q (i := 0) rfl (.mv (v := .bool _) rfl) rfl rfl rfl ?_
    refine WP.q (i := 1) rfl (.mv (v := .bool _) rfl) rfl rfl rfl ?_
    rcases bsp x7 with k8020 | k8020
    · replace h := (if_pos k8020).symm.trans h
      refine WP.q (i := 2) rfl (.fa (fa81_3 _ _)) rfl (wg rfl rfl (gt k8020)) rfl ?_
      refine WP.q (i := 3) rfl (.ldS (i := 0) rfl rfl rfl ti40 rfl) rfl (wg rfl rfl (gt k8020)) rfl ?_
      refine WP.q (i := 4) rfl (.mv (v := .int _ _) rfl) rfl (wg rfl rfl (gt k8020)) rfl ?_
      obtain ⟨y8021, hy8021, h⟩ := Option.bind_eq_some_iff.1 h
      obtain ⟨b_y8021, o_y8021, _, i_y8021, p_y8021, r_y8021⟩ := h8016.at sl40 hy8021 .i64
      obtain ⟨_, _, rfl, rfl, rfl⟩ := r_y8021
      refine WP.q (i := 5) rfl (.ia i_y8021) rfl (wg rfl rfl (gt k8020)) rfl ?_
      refine WP.q (i := 6) rfl (.lpA rfl p_y8021 ti41 rfl rfl) rfl (wg rfl rfl (gt k8020)) rfl ?_
      refine WP.q (i := 7) rfl (.fa (fa81_3 _ _)) rfl (wg rfl rfl (gt k8020)) rfl ?_
      refine WP.q (i := 8) rfl (.ldS (i := 1) rfl rfl rfl ti40 rfl) rfl (wg rfl rfl (gt k8020)) rfl ?_
      refine WP.q (i := 9) rfl (.mv (v := .int _ _) rfl) rfl (wg rfl rfl (gt k8020)) rfl ?_
      obtain ⟨y8022, hy8022, h⟩ := Option.bind_eq_some_iff.1 h
      obtain ⟨b_y8022, o_y8022, _, i_y8022, p_y8022, r_y8022⟩ := h8018.at sl40 hy8022 .i64
      obtain ⟨_, _, rfl, rfl, rfl⟩ := r_y8022
      refine WP.q (i := 10) rfl (.ia i_y8022) rfl (wg rfl rfl (gt k8020)) rfl ?_
      refine WP.q (i := 11) rfl (.lpA rfl p_y8022 ti41 rfl rfl) rfl (wg rfl rfl (gt k8020)) rfl ?_
      refine WP.q (i := 12) rfl (.bin (eql41 _ _ _ _)) rfl (wg rfl rfl (gt k8020)) rfl ?_
      refine WP.q (i := 13) rfl (.ptv (v := .bool _) rfl k8020 rfl) rfl rfl rfl ?_
      refine WP.q (i := 14) rfl (.as (v := .bool _) rfl) rfl rfl rfl ?_
      refine WP.nil ?_
      refine WX.pop ?_
      refine WX.keep [5, 6, 7, 51, 52] (WX.pk [0, 1] (by decide) ?_) rfl
      exact gabionlaw16_InodeEqual_j7_ok h hn hx0 hE _ _ _ ⟨hB, _, _, _, _, h8016, h8018, rfl, rfl⟩
    · replace h := (if_neg (bnt k8020)).symm.trans h
      refine WP.sk (i := 2) rfl rfl (wg rfl rfl (gtn k8020)) rfl ?_
      refine WP.sk (i := 3) rfl rfl (wg rfl rfl (gtn k8020)) rfl ?_
      refine WP.sk (i := 4) rfl rfl (wg rfl rfl (gtn k8020)) rfl ?_
      refine WP.sk (i := 5) rfl rfl (wg rfl rfl (gtn k8020)) rfl ?_
      refine WP.sk (i := 6) rfl rfl (wg rfl rfl (gtn k8020)) rfl ?_
      refine WP.sk (i := 7) rfl rfl (wg rfl rfl (gtn k8020)) rfl ?_
      refine WP.sk (i := 8) rfl rfl (wg rfl rfl (gtn k8020)) rfl ?_
      refine WP.sk (i := 9) rfl rfl (wg rfl rfl (gtn k8020)) rfl ?_
      refine WP.sk (i := 10) rfl rfl (wg rfl rfl (gtn k8020)) rfl ?_
      refine WP.sk (i := 11) rfl rfl (wg rfl rfl (gtn k8020)) rfl ?_
      refine WP.sk (i := 12) rfl rfl (wg rfl rfl (gtn k8020)) rfl ?_
      refine WP.q (i := 13) rfl (.pfv (v := .bool _) rfl k8020 rfl) rfl rfl rfl ?_
      refine WP.q (i := 14) rfl (.as (v := .bool _) rfl) rfl rfl rfl ?_
      refine WP.nil ?_
      refine WX.pop ?_
      refine WX.keep [5, 6, 7, 51, 52] (WX.pk [0, 1] (by decide) ?_) rfl
      exact gabionlaw16_InodeEqual_j7_ok h hn hx0 hE _ _ _ ⟨hB, _, _, _, _, h8016, h8018, rfl, rfl⟩
  · have q_k8019 := of_decide_eq_false k8019
    replace h := (if_neg q_k8019).symm.trans h
    refine WX.condF rfl k8019 ?_
    refine WX.exit rfl ?_
    refine WX.keep [5, 6, 7] (WX.pk [0, 1] (by decide) ?_) rfl
    obtain rfl := Option.some.inj h
    exact hx0 _ hE _ _ _ ⟨hB, _, _, _, _, h8016, h8018, rfl, rfl⟩
theorem gabionlaw16_InodeEqual_l0_ok {B0 : Kn} {L : Own} {n0 : Nat} {x51 : Int} {zb5 : Int × Int × Int × (List (Int × Int)) × (List UInt8)} {zb6 : Int × Int × Int × (List (Int × Int)) × (List UInt8)} {x7 : Bool} {x52 : Int} {Q : AV → St → Prop} {d : Nat} {e : Bool} (h : iter (fun (s : Bool × Int) => gabionlaw16_InodeEqual_l0 x51 zb5 zb6 s.1 s.2) d (x7, x52) = some e) (g0 : ∀ s, e = s → WXI Try.prog 100 n0 (Fin Try.prog Try.f13.results.toList n0 Q) [.code (ct [1, 1, 1, 1] (bodyOf Try.f13))] (gabionlaw16_InodeEqual_l0_X0 B0 s zb5 zb6) L) : WXI Try.prog 100 n0 (Fin Try.prog Try.f13.results.toList n0 Q) [.code (ct [1, 1, 1, 0, 1, 0, 0] (bodyOf Try.f13)), .lp (ct [1, 1, 1, 0, 1, 0, 0] (bodyOf Try.f13)), .blk 0, .code (ct [1, 1, 1, 1] (bodyOf Try.f13))] (gabionlaw16_InodeEqual_l0_I B0 x51 zb5 zb6 x7 x52) L :=
  iter_ok (I := fun s => gabionlaw16_InodeEqual_l0_I B0 x51 zb5 zb6 s.1 s.2) (D := fun e => (∀ s, e = s → WXI Try.prog 100 n0 (Fin Try.prog Try.f13.results.toList n0 Q) [.code (ct [1, 1, 1, 1] (bodyOf Try.f13))] (gabionlaw16_InodeEqual_l0_X0 B0 s zb5 zb6) L)) (fun E hn hx s o ho hE => gabionlaw16_InodeEqual_l0_s ho hn (fun s hs => (hx _ hs) _ rfl)  hE) h g0
theorem gabionlaw16_InodeEqual_j2_ok {B0 : Kn} {L : Own} {n0 : Nat} {x7 : Bool} {zb5 : Int × Int × Int × (List (Int × Int)) × (List UInt8)} {zb6 : Int × Int × Int × (List (Int × Int)) × (List UInt8)} {r : Bool} (h : gabionlaw16_InodeEqual_j2 x7 zb5 zb6 = some r) : WXI Try.prog 100 n0 (Fin Try.prog Try.f13.results.toList n0 (gabionlaw16_InodeEqual_P B0 L r)) [.code (ct [1, 1, 1] (bodyOf Try.f13))] (gabionlaw16_InodeEqual_j2_I B0 x7 zb5 zb6) L := by
  unfold gabionlaw16_InodeEqual_j2 at h
  rintro _ B _ ⟨hB, b8011, v8012, b8013, v8014, h8012, h8014, rfl, rfl⟩
  obtain ⟨_, _, _, _, _, rfl⟩ := h8012.isl
  obtain ⟨_, _, _, _, _, rfl⟩ := h8014.isl
  refine WX.seq ?_
  refine WX.seq ?_
  refine WX.reg ?_
  refine WO.q (.fa (fa81_3 _ _)) rfl rfl ?_
  refine WO.q (.ldS (i := 0) rfl rfl rfl ti40 rfl) rfl rfl ?_
  refine WO.q (.len rfl rfl rfl (sl40.len h8012.isl)) rfl rfl ?_
  refine WO.q (.mv (v := .int _ _) rfl) rfl rfl ?_
  refine WO.nil ?_
  refine WX.block ?_
  refine WX.loop ?_
  obtain ⟨e8031, he8031, h⟩ := Option.bind_eq_some_iff.1 h
  refine WX.keep [5, 6, 7, 51, 52] (WX.pk [0, 1] (by decide) ?_) rfl
  refine gabionlaw16_InodeEqual_l0_ok he8031 ?_ _ _ _ ⟨hB, _, _, _, _, h8012, h8014, rfl, rfl⟩
  · intro s8092 he_
    subst he_
    replace h := h
    rintro _ B _ ⟨hB, b8032, v8033, b8034, v8035, h8033, h8035, rfl, rfl⟩
    obtain ⟨_, _, _, _, _, rfl⟩ := h8033.isl
    obtain ⟨_, _, _, _, _, rfl⟩ := h8035.isl
    refine WX.seq ?_
    refine WX.reg ?_
    refine WO.q (.ldA (i := 0) rfl rfl rfl ti81 rfl) rfl rfl ?_
    obtain ⟨y8036, hy8036, h⟩ := Option.bind_eq_some_iff.1 h
    refine WO.c1 rfl rfl (gabionlaw16_of_ok h8033 hy8036) rfl rfl rfl ?_
    rintro _ B _ hK ⟨v8037, b8038, n8039, c8040, rfl, rfl, h8041⟩
    obtain ⟨_, _, _, _, _, rfl⟩ := h8041.isl
    replace h8033 := h8033.up hK
    replace h8035 := h8035.up hK
    replace hB := hB.trans hK
    refine WO.md (MOp.alloc ti86 rfl) rfl rfl ?_
    rintro _ _ ⟨b8042, rfl, rfl⟩
    refine WO.mn (MOp.storeW rfl (cA rfl) .h ti86 rfl rfl rfl) rfl ?_
    rintro _ _ rfl
    refine WO.nil ?_
    refine WX.seq ?_
    refine WX.reg ?_
    refine WO.q (.fa (fa86_1 _ _)) rfl rfl ?_
    refine WO.q (.ldS (i := 0) rfl rfl rfl ti3 rfl) rfl rfl ?_
    refine WO.q (.r fun _ => rfl) rfl rfl ?_
    refine WO.q (.fa (fa86_1 _ _)) rfl rfl ?_
    refine WO.mn (MOp.store (cs' := [.int .u8 y8036.1, .int .i64 (wi64 (y8036.2.1 + 1)), .int .i64 y8036.2.2.1, _, .str y8036.2.2.2.2]) rfl (cI rfl) .h ti3 rfl rfl (lb rfl) rfl) rfl ?_
    rintro _ _ rfl
    refine WO.nil ?_
    refine WX.seq ?_
    refine WX.drw (Plan.of [0, 1, 2, 4, 7, 3, 5, 6, 8, 9, 10, 11, 13, 12, 14, 15, 16, 17, 18, 20, 19, 21, 22, 23, 24] .nil) _ mixed (by kernel_rfl) rfl (pk_sub [0, 1, 2, 3]) ?_
    obtain ⟨y8043, hy8043, h⟩ := Option.bind_eq_some_iff.1 h
    refine WP.cS (i := 0) rfl rfl rfl (gabionlaw16_wakes_ok hy8043) rfl rfl rfl ?_
    rintro _ rfl
    refine WP.q (i := 1) rfl (.mv (v := .bool _) rfl) rfl rfl rfl ?_
    rcases bsp y8043 with k8044 | k8044
    · replace h := (if_pos k8044).symm.trans h
      refine WP.q (i := 2) rfl (.ldA (i := 2) rfl rfl rfl ti81 rfl) rfl (wg rfl rfl (gt k8044)) rfl ?_
      refine WP.q (i := 4) rfl (.ldA (i := 3) rfl rfl rfl ti81 rfl) rfl (wg rfl rfl (gt k8044)) rfl ?_
      refine WP.q (i := 7) rfl (.mv (v := .bool _) rfl) rfl (wg rfl rfl (gt k8044)) rfl ?_
      obtain ⟨y8045, hy8045, h⟩ := Option.bind_eq_some_iff.1 h
      refine WP.c1 (i := 3) rfl rfl rfl (gabionlaw16_of_ok h8033 hy8045) rfl (wg rfl rfl (gt k8044)) rfl ?_
      rintro _ B _ hK ⟨v8046, b8047, n8048, c8049, rfl, rfl, h8050⟩
      obtain ⟨_, _, _, _, _, rfl⟩ := h8050.isl
      replace h8033 := h8033.up hK
      replace h8035 := h8035.up hK
      replace h8041 := h8041.up hK
      replace hB := hB.trans hK
      obtain ⟨y8051, hy8051, h⟩ := Option.bind_eq_some_iff.1 h
      refine WP.c1 (i := 5) rfl rfl rfl (gabionlaw16_of_ok h8035 hy8051) rfl (wg rfl rfl (gt k8044)) rfl ?_
      rintro _ B _ hK ⟨v8052, b8053, n8054, c8055, rfl, rfl, h8056⟩
      obtain ⟨_, _, _, _, _, rfl⟩ := h8056.isl
      replace h8033 := h8033.up hK
      replace h8035 := h8035.up hK
      replace h8041 := h8041.up hK
      replace h8050 := h8050.up hK
      replace hB := hB.trans hK
      obtain ⟨y8057, hy8057, h⟩ := Option.bind_eq_some_iff.1 h
      refine WP.cS (i := 6) rfl rfl rfl (lendC (j := 1) h8050 rfl fun _ K8059 g8058 => lendC (j := 0) (h8056.up K8059) rfl fun _ K8061 g8060 => inode_Equal_ok (g8058.up K8061) g8060 hy8057) rfl (wg rfl rfl (gt k8044)) rfl ?_
      rintro _ rfl
      refine WP.q (i := 8) rfl (.bin (evbooleql ti4 rfl)) rfl (wg rfl rfl (gt k8044)) rfl ?_
      refine WP.q (i := 9) rfl (.ptv (v := .bool _) rfl k8044 rfl) rfl rfl rfl ?_
      refine WP.q (i := 10) rfl (.mv (v := .bool _) rfl) rfl rfl rfl ?_
      rcases bsp (decide (y8057 = e8031)) with k8062 | k8062
      · have q_k8062 := of_decide_eq_true k8062
        replace h := (if_pos q_k8062).symm.trans h
        refine WP.q (i := 11) rfl (.ldA (i := 2) rfl rfl rfl ti81 rfl) rfl (wg rfl rfl (gt k8062)) rfl ?_
        refine WP.q (i := 13) rfl (.ldA (i := 2) rfl rfl rfl ti81 rfl) rfl (wg rfl rfl (gt k8062)) rfl ?_
        obtain ⟨y8063, hy8063, h⟩ := Option.bind_eq_some_iff.1 h
        refine WP.c1 (i := 12) rfl rfl rfl (gabionlaw16_of_ok h8033 hy8063) rfl (wg rfl rfl (gt k8062)) rfl ?_
        rintro _ B _ hK ⟨v8064, b8065, n8066, c8067, rfl, rfl, h8068⟩
        obtain ⟨_, _, _, _, _, rfl⟩ := h8068.isl
        replace h8033 := h8033.up hK
        replace h8035 := h8035.up hK
        replace h8041 := h8041.up hK
        replace h8050 := h8050.up hK
        replace h8056 := h8056.up hK
        replace hB := hB.trans hK
        obtain ⟨y8069, hy8069, h⟩ := Option.bind_eq_some_iff.1 h
        refine WP.c1 (i := 14) rfl rfl rfl (gabionlaw16_of_ok h8033 hy8069) rfl (wg rfl rfl (gt k8062)) rfl ?_
        rintro _ B _ hK ⟨v8070, b8071, n8072, c8073, rfl, rfl, h8074⟩
        obtain ⟨_, _, _, _, _, rfl⟩ := h8074.isl
        replace h8033 := h8033.up hK
        replace h8035 := h8035.up hK
        replace h8041 := h8041.up hK
        replace h8050 := h8050.up hK
        replace h8056 := h8056.up hK
        replace h8068 := h8068.up hK
        replace hB := hB.trans hK
        obtain ⟨y8075, hy8075, h⟩ := Option.bind_eq_some_iff.1 h
        refine WP.cS (i := 15) rfl rfl rfl (lendC (j := 1) h8068 rfl fun _ K8077 g8076 => lendC (j := 0) (h8074.up K8077) rfl fun _ K8079 g8078 => inode_Equal_ok (g8076.up K8079) g8078 hy8075) rfl (wg rfl rfl (gt k8062)) rfl ?_
        rintro _ rfl
        refine WP.q (i := 16) rfl (.ptv (v := .bool _) rfl k8062 rfl) rfl rfl rfl ?_
        refine WP.q (i := 17) rfl (.mv (v := .bool _) rfl) rfl rfl rfl ?_
        rcases bsp y8075 with k8080 | k8080
        · replace h := (if_pos k8080).symm.trans h
          refine WP.q (i := 18) rfl (.ldA (i := 2) rfl rfl rfl ti81 rfl) rfl (wg rfl rfl (gt k8080)) rfl ?_
          refine WP.q (i := 20) rfl (.ldA (i := 0) rfl rfl rfl ti86 rfl) rfl (wg rfl rfl (gt k8080)) rfl ?_
          obtain ⟨y8081, hy8081, h⟩ := Option.bind_eq_some_iff.1 h
          refine WP.c1 (i := 19) rfl rfl rfl (gabionlaw16_of_ok h8033 hy8081) rfl (wg rfl rfl (gt k8080)) rfl ?_
          rintro _ B _ hK ⟨v8082, b8083, n8084, c8085, rfl, rfl, h8086⟩
          obtain ⟨_, _, _, _, _, rfl⟩ := h8086.isl
          replace h8033 := h8033.up hK
          replace h8035 := h8035.up hK
          replace h8041 := h8041.up hK
          replace h8050 := h8050.up hK
          replace h8056 := h8056.up hK
          replace h8068 := h8068.up hK
          replace h8074 := h8074.up hK
          replace hB := hB.trans hK
          obtain ⟨y8087, hy8087, h⟩ := Option.bind_eq_some_iff.1 h
          refine WP.cS (i := 21) rfl rfl rfl (lendC (j := 0) h8086 rfl fun _ K8089 g8088 => lendC (j := 5) (h8041.up K8089) rfl fun _ K8091 g8090 => inode_Equal_ok (a1 := (y8036.1, (wi64 (y8036.2.1 + 1)), y8036.2.2.1, y8036.2.2.2.1, y8036.2.2.2.2)) (g8088.up K8091) g8090 hy8087) rfl (wg rfl rfl (gt k8080)) rfl ?_
          rintro _ rfl
          refine WP.q (i := 22) rfl (.r fun _ => rfl) rfl (wg rfl rfl (gt k8080)) rfl ?_
          refine WP.q (i := 23) rfl (.ptv (v := .bool _) rfl k8080 rfl) rfl rfl rfl ?_
          refine WP.q (i := 24) rfl (.as (v := .bool _) rfl) rfl rfl rfl ?_
          refine WP.nil ?_
          obtain rfl := Option.some.inj h
          exact WX.ret (rs_ (rs_tmp rfl rs_nil)) fun st hp => ⟨(hp.pk [] (by decide)).le hB, rfl⟩
        · replace h := (if_neg (bnt k8080)).symm.trans h
          refine WP.sk (i := 18) rfl rfl (wg rfl rfl (gtn k8080)) rfl ?_
          refine WP.sk (i := 20) rfl rfl (wg rfl rfl (gtn k8080)) rfl ?_
          refine WP.sd (i := 19) rfl rfl (wg rfl rfl (gtn k8080)) rfl ?_
          refine WP.sd (i := 21) rfl rfl (wg rfl rfl (gtn k8080)) rfl ?_
          refine WP.sk (i := 22) rfl rfl (wg rfl rfl (gtn k8080)) rfl ?_
          refine WP.q (i := 23) rfl (.pfv (v := .bool _) rfl k8080 rfl) rfl rfl rfl ?_
          refine WP.q (i := 24) rfl (.as (v := .bool _) rfl) rfl rfl rfl ?_
          refine WP.nil ?_
          obtain rfl := Option.some.inj h
          exact WX.ret (rs_ (rs_tmp rfl rs_nil)) fun st hp => ⟨(hp.pk [] (by decide)).le hB, rfl⟩
      · have q_k8062 := of_decide_eq_false k8062
        replace h := (if_neg q_k8062).symm.trans h
        refine WP.sk (i := 11) rfl rfl (wg rfl rfl (gtn k8062)) rfl ?_
        refine WP.sk (i := 13) rfl rfl (wg rfl rfl (gtn k8062)) rfl ?_
        refine WP.sd (i := 12) rfl rfl (wg rfl rfl (gtn k8062)) rfl ?_
        refine WP.sd (i := 14) rfl rfl (wg rfl rfl (gtn k8062)) rfl ?_
        refine WP.sd (i := 15) rfl rfl (wg rfl rfl (gtn k8062)) rfl ?_
        refine WP.q (i := 16) rfl (.pfv (v := .bool _) rfl k8062 rfl) rfl rfl rfl ?_
        refine WP.q (i := 17) rfl (.mv (v := .bool _) rfl) rfl rfl rfl ?_
        refine WP.sk (i := 18) rfl rfl (wg rfl rfl (gtn rfl)) rfl ?_
        refine WP.sk (i := 20) rfl rfl (wg rfl rfl (gtn rfl)) rfl ?_
        refine WP.sd (i := 19) rfl rfl (wg rfl rfl (gtn rfl)) rfl ?_
        refine WP.sd (i := 21) rfl rfl (wg rfl rfl (gtn rfl)) rfl ?_
        refine WP.sk (i := 22) rfl rfl (wg rfl rfl (gtn rfl)) rfl ?_
        refine WP.q (i := 23) rfl (.pfv (v := .bool _) rfl rfl rfl) rfl rfl rfl ?_
        refine WP.q (i := 24) rfl (.as (v := .bool _) rfl) rfl rfl rfl ?_
        refine WP.nil ?_
        obtain rfl := Option.some.inj h
        exact WX.ret (rs_ (rs_tmp rfl rs_nil)) fun st hp => ⟨(hp.pk [] (by decide)).le hB, rfl⟩
    · replace h := (if_neg (bnt k8044)).symm.trans h
      refine WP.sk (i := 2) rfl rfl (wg rfl rfl (gtn k8044)) rfl ?_
      refine WP.sk (i := 4) rfl rfl (wg rfl rfl (gtn k8044)) rfl ?_
      refine WP.sk (i := 7) rfl rfl (wg rfl rfl (gtn k8044)) rfl ?_
      refine WP.sd (i := 3) rfl rfl (wg rfl rfl (gtn k8044)) rfl ?_
      refine WP.sd (i := 5) rfl rfl (wg rfl rfl (gtn k8044)) rfl ?_
      refine WP.sd (i := 6) rfl rfl (wg rfl rfl (gtn k8044)) rfl ?_
      refine WP.sk (i := 8) rfl rfl (wg rfl rfl (gtn k8044)) rfl ?_
      refine WP.q (i := 9) rfl (.pfv (v := .bool _) rfl k8044 rfl) rfl rfl rfl ?_
      refine WP.q (i := 10) rfl (.mv (v := .bool _) rfl) rfl rfl rfl ?_
      refine WP.sk (i := 11) rfl rfl (wg rfl rfl (gtn rfl)) rfl ?_
      refine WP.sk (i := 13) rfl rfl (wg rfl rfl (gtn rfl)) rfl ?_
      refine WP.sd (i := 12) rfl rfl (wg rfl rfl (gtn rfl)) rfl ?_
      refine WP.sd (i := 14) rfl rfl (wg rfl rfl (gtn rfl)) rfl ?_
      refine WP.sd (i := 15) rfl rfl (wg rfl rfl (gtn rfl)) rfl ?_
      refine WP.q (i := 16) rfl (.pfv (v := .bool _) rfl rfl rfl) rfl rfl rfl ?_
      refine WP.q (i := 17) rfl (.mv (v := .bool _) rfl) rfl rfl rfl ?_
      refine WP.sk (i := 18) rfl rfl (wg rfl rfl (gtn rfl)) rfl ?_
      refine WP.sk (i := 20) rfl rfl (wg rfl rfl (gtn rfl)) rfl ?_
      refine WP.sd (i := 19) rfl rfl (wg rfl rfl (gtn rfl)) rfl ?_
      refine WP.sd (i := 21) rfl rfl (wg rfl rfl (gtn rfl)) rfl ?_
      refine WP.sk (i := 22) rfl rfl (wg rfl rfl (gtn rfl)) rfl ?_
      refine WP.q (i := 23) rfl (.pfv (v := .bool _) rfl rfl rfl) rfl rfl rfl ?_
      refine WP.q (i := 24) rfl (.as (v := .bool _) rfl) rfl rfl rfl ?_
      refine WP.nil ?_
      obtain rfl := Option.some.inj h
      exact WX.ret (rs_ (rs_tmp rfl rs_nil)) fun st hp => ⟨(hp.pk [] (by decide)).le hB, rfl⟩
theorem gabionlaw16_InodeEqual_j1_ok {B0 : Kn} {L : Own} {n0 : Nat} {zb5 : Int × Int × Int × (List (Int × Int)) × (List UInt8)} {zb6 : Int × Int × Int × (List (Int × Int)) × (List UInt8)} {r : Bool} (h : gabionlaw16_InodeEqual_j1 zb5 zb6 = some r) : WXI Try.prog 100 n0 (Fin Try.prog Try.f13.results.toList n0 (gabionlaw16_InodeEqual_P B0 L r)) [.code (ct [1, 1] (bodyOf Try.f13))] (gabionlaw16_InodeEqual_j1_I B0 zb5 zb6) L := by
  unfold gabionlaw16_InodeEqual_j1 at h
  rintro _ B _ ⟨hB, b8003, v8004, b8005, v8006, h8004, h8006, rfl, rfl⟩
  obtain ⟨_, _, _, _, _, rfl⟩ := h8004.isl
  obtain ⟨_, _, _, _, _, rfl⟩ := h8006.isl
  refine WX.seq ?_
  refine WX.reg ?_
  refine WO.q (.fa (fa81_0 _ _)) rfl rfl ?_
  refine WO.q (.ldS (i := 0) rfl rfl rfl ti5 rfl) rfl rfl ?_
  refine WO.q (.fa (fa81_0 _ _)) rfl rfl ?_
  refine WO.q (.ldS (i := 1) rfl rfl rfl ti5 rfl) rfl rfl ?_
  refine WO.q (.r fun _ => rfl) rfl rfl ?_
  refine WO.q (.mv (v := .bool _) rfl) rfl rfl ?_
  rcases bsp (decide (zb5.1 = zb6.1)) with k8007 | k8007
  · have q_k8007 := of_decide_eq_true k8007
    replace h := (if_pos q_k8007).symm.trans h
    refine WO.q (.fa (fa81_1 _ _)) (wg rfl rfl (gt k8007)) rfl ?_
    refine WO.q (.ldS (i := 0) rfl rfl rfl ti3 rfl) (wg rfl rfl (gt k8007)) rfl ?_
    refine WO.q (.fa (fa81_1 _ _)) (wg rfl rfl (gt k8007)) rfl ?_
    refine WO.q (.ldS (i := 1) rfl rfl rfl ti3 rfl) (wg rfl rfl (gt k8007)) rfl ?_
    refine WO.q (.r fun _ => rfl) (wg rfl rfl (gt k8007)) rfl ?_
    refine WO.q (.ptv (v := .bool _) rfl k8007 rfl) rfl rfl ?_
    refine WO.q (.mv (v := .bool _) rfl) rfl rfl ?_
    rcases bsp (decide (zb5.2.1 = zb6.2.1)) with k8008 | k8008
    · have q_k8008 := of_decide_eq_true k8008
      replace h := (if_pos q_k8008).symm.trans h
      refine WO.q (.fa (fa81_2 _ _)) (wg rfl rfl (gt k8008)) rfl ?_
      refine WO.q (.ldS (i := 0) rfl rfl rfl ti3 rfl) (wg rfl rfl (gt k8008)) rfl ?_
      refine WO.q (.fa (fa81_2 _ _)) (wg rfl rfl (gt k8008)) rfl ?_
      refine WO.q (.ldS (i := 1) rfl rfl rfl ti3 rfl) (wg rfl rfl (gt k8008)) rfl ?_
      refine WO.q (.r fun _ => rfl) (wg rfl rfl (gt k8008)) rfl ?_
      refine WO.q (.ptv (v := .bool _) rfl k8008 rfl) rfl rfl ?_
      refine WO.q (.mv (v := .bool _) rfl) rfl rfl ?_
      rcases bsp (decide (zb5.2.2.1 = zb6.2.2.1)) with k8009 | k8009
      · have q_k8009 := of_decide_eq_true k8009
        replace h := (if_pos q_k8009).symm.trans h
        refine WO.q (.fa (fa81_4 _ _)) (wg rfl rfl (gt k8009)) rfl ?_
        refine WO.q (.ldS (i := 0) rfl rfl rfl ti9 rfl) (wg rfl rfl (gt k8009)) rfl ?_
        refine WO.q (.fa (fa81_4 _ _)) (wg rfl rfl (gt k8009)) rfl ?_
        refine WO.q (.ldS (i := 1) rfl rfl rfl ti9 rfl) (wg rfl rfl (gt k8009)) rfl ?_
        refine WO.q (.r fun _ => rfl) (wg rfl rfl (gt k8009)) rfl ?_
        refine WO.q (.ptv (v := .bool _) rfl k8009 rfl) rfl rfl ?_
        refine WO.q (.mv (v := .bool _) rfl) rfl rfl ?_
        rcases bsp (decide (zb5.2.2.2.2 = zb6.2.2.2.2)) with k8010 | k8010
        · have q_k8010 := of_decide_eq_true k8010
          replace h := (if_pos q_k8010).symm.trans h
          refine WO.q (.fa (fa81_3 _ _)) (wg rfl rfl (gt k8010)) rfl ?_
          refine WO.q (.ldS (i := 0) rfl rfl rfl ti40 rfl) (wg rfl rfl (gt k8010)) rfl ?_
          refine WO.q (.len rfl rfl rfl (sl40.len h8004.isl)) (wg rfl rfl (gt k8010)) rfl ?_
          refine WO.q (.fa (fa81_3 _ _)) (wg rfl rfl (gt k8010)) rfl ?_
          refine WO.q (.ldS (i := 1) rfl rfl rfl ti40 rfl) (wg rfl rfl (gt k8010)) rfl ?_
          refine WO.q (.len rfl rfl rfl (sl40.len h8006.isl)) (wg rfl rfl (gt k8010)) rfl ?_
          refine WO.q (.r fun _ => rfl) (wg rfl rfl (gt k8010)) rfl ?_
          refine WO.q (.ptv (v := .bool _) rfl k8010 rfl) rfl rfl ?_
          refine WO.q (.as (v := .bool _) rfl) rfl rfl ?_
          refine WO.nil ?_
          refine WX.keep [5, 6, 7] (WX.pk [0, 1] (by decide) ?_) rfl
          exact gabionlaw16_InodeEqual_j2_ok h _ _ _ ⟨hB, _, _, _, _, h8004, h8006, rfl, rfl⟩
        · have q_k8010 := of_decide_eq_false k8010
          replace h := (if_neg q_k8010).symm.trans h
          refine WO.sd (wg rfl rfl (gtn k8010)) rfl ?_
          refine WO.sd (wg rfl rfl (gtn k8010)) rfl ?_
          refine WO.sd (wg rfl rfl (gtn k8010)) rfl ?_
          refine WO.sd (wg rfl rfl (gtn k8010)) rfl ?_
          refine WO.sd (wg rfl rfl (gtn k8010)) rfl ?_
          refine WO.sd (wg rfl rfl (gtn k8010)) rfl ?_
          refine WO.sd (wg rfl rfl (gtn k8010)) rfl ?_
          refine WO.q (.pfv (v := .bool _) rfl k8010 rfl) rfl rfl ?_
          refine WO.q (.as (v := .bool _) rfl) rfl rfl ?_
          refine WO.nil ?_
          refine WX.keep [5, 6, 7] (WX.pk [0, 1] (by decide) ?_) rfl
          exact gabionlaw16_InodeEqual_j2_ok h _ _ _ ⟨hB, _, _, _, _, h8004, h8006, rfl, rfl⟩
      · have q_k8009 := of_decide_eq_false k8009
        replace h := (if_neg q_k8009).symm.trans h
        refine WO.sd (wg rfl rfl (gtn k8009)) rfl ?_
        refine WO.sd (wg rfl rfl (gtn k8009)) rfl ?_
        refine WO.sd (wg rfl rfl (gtn k8009)) rfl ?_
        refine WO.sd (wg rfl rfl (gtn k8009)) rfl ?_
        refine WO.sd (wg rfl rfl (gtn k8009)) rfl ?_
        refine WO.q (.pfv (v := .bool _) rfl k8009 rfl) rfl rfl ?_
        refine WO.q (.mv (v := .bool _) rfl) rfl rfl ?_
        refine WO.sd (wg rfl rfl (gtn rfl)) rfl ?_
        refine WO.sd (wg rfl rfl (gtn rfl)) rfl ?_
        refine WO.sd (wg rfl rfl (gtn rfl)) rfl ?_
        refine WO.sd (wg rfl rfl (gtn rfl)) rfl ?_
        refine WO.sd (wg rfl rfl (gtn rfl)) rfl ?_
        refine WO.sd (wg rfl rfl (gtn rfl)) rfl ?_
        refine WO.sd (wg rfl rfl (gtn rfl)) rfl ?_
        refine WO.q (.pfv (v := .bool _) rfl rfl rfl) rfl rfl ?_
        refine WO.q (.as (v := .bool _) rfl) rfl rfl ?_
        refine WO.nil ?_
        refine WX.keep [5, 6, 7] (WX.pk [0, 1] (by decide) ?_) rfl
        exact gabionlaw16_InodeEqual_j2_ok h _ _ _ ⟨hB, _, _, _, _, h8004, h8006, rfl, rfl⟩
    · have q_k8008 := of_decide_eq_false k8008
      replace h := (if_neg q_k8008).symm.trans h
      refine WO.sd (wg rfl rfl (gtn k8008)) rfl ?_
      refine WO.sd (wg rfl rfl (gtn k8008)) rfl ?_
      refine WO.sd (wg rfl rfl (gtn k8008)) rfl ?_
      refine WO.sd (wg rfl rfl (gtn k8008)) rfl ?_
      refine WO.sd (wg rfl rfl (gtn k8008)) rfl ?_
      refine WO.q (.pfv (v := .bool _) rfl k8008 rfl) rfl rfl ?_
      refine WO.q (.mv (v := .bool _) rfl) rfl rfl ?_
      refine WO.sd (wg rfl rfl (gtn rfl)) rfl ?_
      refine WO.sd (wg rfl rfl (gtn rfl)) rfl ?_
      refine WO.sd (wg rfl rfl (gtn rfl)) rfl ?_
      refine WO.sd (wg rfl rfl (gtn rfl)) rfl ?_
      refine WO.sd (wg rfl rfl (gtn rfl)) rfl ?_
      refine WO.q (.pfv (v := .bool _) rfl rfl rfl) rfl rfl ?_
      refine WO.q (.mv (v := .bool _) rfl) rfl rfl ?_
      refine WO.sd (wg rfl rfl (gtn rfl)) rfl ?_
      refine WO.sd (wg rfl rfl (gtn rfl)) rfl ?_
      refine WO.sd (wg rfl rfl (gtn rfl)) rfl ?_
      refine WO.sd (wg rfl rfl (gtn rfl)) rfl ?_
      refine WO.sd (wg rfl rfl (gtn rfl)) rfl ?_
      refine WO.sd (wg rfl rfl (gtn rfl)) rfl ?_
      refine WO.sd (wg rfl rfl (gtn rfl)) rfl ?_
      refine WO.q (.pfv (v := .bool _) rfl rfl rfl) rfl rfl ?_
      refine WO.q (.as (v := .bool _) rfl) rfl rfl ?_
      refine WO.nil ?_
      refine WX.keep [5, 6, 7] (WX.pk [0, 1] (by decide) ?_) rfl
      exact gabionlaw16_InodeEqual_j2_ok h _ _ _ ⟨hB, _, _, _, _, h8004, h8006, rfl, rfl⟩
  · have q_k8007 := of_decide_eq_false k8007
    replace h := (if_neg q_k8007).symm.trans h
    refine WO.sd (wg rfl rfl (gtn k8007)) rfl ?_
    refine WO.sd (wg rfl rfl (gtn k8007)) rfl ?_
    refine WO.sd (wg rfl rfl (gtn k8007)) rfl ?_
    refine WO.sd (wg rfl rfl (gtn k8007)) rfl ?_
    refine WO.sd (wg rfl rfl (gtn k8007)) rfl ?_
    refine WO.q (.pfv (v := .bool _) rfl k8007 rfl) rfl rfl ?_
    refine WO.q (.mv (v := .bool _) rfl) rfl rfl ?_
    refine WO.sd (wg rfl rfl (gtn rfl)) rfl ?_
    refine WO.sd (wg rfl rfl (gtn rfl)) rfl ?_
    refine WO.sd (wg rfl rfl (gtn rfl)) rfl ?_
    refine WO.sd (wg rfl rfl (gtn rfl)) rfl ?_
    refine WO.sd (wg rfl rfl (gtn rfl)) rfl ?_
    refine WO.q (.pfv (v := .bool _) rfl rfl rfl) rfl rfl ?_
    refine WO.q (.mv (v := .bool _) rfl) rfl rfl ?_
    refine WO.sd (wg rfl rfl (gtn rfl)) rfl ?_
    refine WO.sd (wg rfl rfl (gtn rfl)) rfl ?_
    refine WO.sd (wg rfl rfl (gtn rfl)) rfl ?_
    refine WO.sd (wg rfl rfl (gtn rfl)) rfl ?_
    refine WO.sd (wg rfl rfl (gtn rfl)) rfl ?_
    refine WO.q (.pfv (v := .bool _) rfl rfl rfl) rfl rfl ?_
    refine WO.q (.mv (v := .bool _) rfl) rfl rfl ?_
    refine WO.sd (wg rfl rfl (gtn rfl)) rfl ?_
    refine WO.sd (wg rfl rfl (gtn rfl)) rfl ?_
    refine WO.sd (wg rfl rfl (gtn rfl)) rfl ?_
    refine WO.sd (wg rfl rfl (gtn rfl)) rfl ?_
    refine WO.sd (wg rfl rfl (gtn rfl)) rfl ?_
    refine WO.sd (wg rfl rfl (gtn rfl)) rfl ?_
    refine WO.sd (wg rfl rfl (gtn rfl)) rfl ?_
    refine WO.q (.pfv (v := .bool _) rfl rfl rfl) rfl rfl ?_
    refine WO.q (.as (v := .bool _) rfl) rfl rfl ?_
    refine WO.nil ?_
    refine WX.keep [5, 6, 7] (WX.pk [0, 1] (by decide) ?_) rfl
    exact gabionlaw16_InodeEqual_j2_ok h _ _ _ ⟨hB, _, _, _, _, h8004, h8006, rfl, rfl⟩
theorem gabionlaw16_InodeEqual_ok {B0 : Kn} {L : Own} {a0 : Int × Int × Int × (List (Int × Int)) × (List UInt8)} {a1 : Int × Int × Int × (List (Int × Int)) × (List UInt8)} {v0_0 : AV} {v1_0 : AV} {r : Bool} (g0_0 : RSl EPIi64Ii64Q B0 v0_0 a0.2.2.2.1) (g1_0 : RSl EPIi64Ii64Q B0 v1_0 a1.2.2.2.1) (h : gabionlaw16_InodeEqual a0 a1 = some r) : ∀ st, Hp B0 L st → ASpec Try.prog 13 [.agg [.int .u8 a0.1, .int .i64 a0.2.1, .int .i64 a0.2.2.1, v0_0, .str a0.2.2.2.2], .agg [.int .u8 a1.1, .int .i64 a1.2.1, .int .i64 a1.2.2.1, v1_0, .str a1.2.2.2.2]] st (gabionlaw16_InodeEqual_P B0 L r) := by
  unfold gabionlaw16_InodeEqual at h
  refine bodyA (A := []) Try.func13 rfl (c := bodyOf Try.f13) rfl Try.ntmps13 (lb rfl) fun n0 => ?_
  have hB := KLe.refl B0
  obtain ⟨_, _, _, _, _, rfl⟩ := g0_0.isl
  obtain ⟨_, _, _, _, _, rfl⟩ := g1_0.isl
  refine WX.seq ?_
  refine WX.reg ?_
  refine WO.md (MOp.box (cA rfl)) rfl rfl ?_
  rintro _ _ ⟨b1, rfl, rfl⟩
  refine WO.md (MOp.box (cA rfl)) rfl rfl ?_
  rintro _ _ ⟨b2, rfl, rfl⟩
  refine WO.q (.as (v := .bool _) rfl) rfl rfl ?_
  refine WO.nil ?_
  refine WX.seq ?_
  refine WX.drw (Plan.of [0, 2] (.alt (Plan.of [1] (.alt (Plan.of [3] (.alt (Plan.of [4, 5, 6, 7] .nil) (Plan.of [5, 4, 6, 7] .nil))) (.alt (Plan.of [4] (.alt (Plan.of [3, 5, 6, 7] .nil) (Plan.of [5, 3, 6, 7] .nil))) (Plan.of [5] (.alt (Plan.of [3, 4, 6, 7] .nil) (Plan.of [4, 3, 6, 7] .nil)))))) (.alt (Plan.of [4] (.alt (Plan.of [1] (.alt (Plan.of [3, 5, 6, 7] .nil) (Plan.of [5, 3, 6, 7] .nil))) (Plan.of [5, 1, 3, 6, 7] .nil))) (Plan.of [5] (.alt (Plan.of [1] (.alt (Plan.of [3, 4, 6, 7] .nil) (Plan.of [4, 3, 6, 7] .nil))) (Plan.of [4, 1, 3, 6, 7] .nil)))))) _ mixed (by kernel_rfl) rfl (pk_sub [0, 1]) ?_
  obtain ⟨y2003, hy2003, h⟩ := Option.bind_eq_some_iff.1 h
  obtain ⟨y4003, hy4003, h⟩ := Option.bind_eq_some_iff.1 h
  refine WP.q (i := 0) rfl (.ldA (i := 1) rfl rfl rfl ti81 rfl) rfl rfl rfl ?_
  refine WP.q (i := 2) rfl (.ldA (i := 0) rfl rfl rfl ti81 rfl) rfl rfl rfl ?_
  refine WP.alt ?_ ?_
  · refine WP.c0 (i := 1) rfl rfl rfl (gabionlaw16_cut_ok g0_0 hy2003) rfl rfl rfl ?_
    rintro _ B hK ⟨v2004, rfl, h2005⟩
    obtain ⟨_, _, _, _, _, rfl⟩ := h2005.isl
    replace g0_0 := g0_0.up hK
    replace g1_0 := g1_0.up hK
    replace hB := hB.trans hK
    refine WP.alt ?_ ?_
    · refine WP.c0 (i := 3) rfl rfl rfl (gabionlaw16_cut_ok g1_0 hy4003) rfl rfl rfl ?_
      rintro _ B hK ⟨v4004, rfl, h4005⟩
      obtain ⟨_, _, _, _, _, rfl⟩ := h4005.isl
      replace g0_0 := g0_0.up hK
      replace g1_0 := g1_0.up hK
      replace h2005 := h2005.up hK
      replace hB := hB.trans hK
      refine WP.alt ?_ ?_
      · refine WP.md (i := 4) rfl (MOp.alloc ti81 rfl) rfl rfl rfl ?_
        rintro _ _ ⟨b5003, rfl, rfl⟩
        refine ⟨fun e he _ => pk_in (jx := [1, 2]) rfl e he, ?_⟩
        refine WP.md (i := 5) rfl (MOp.alloc ti81 rfl) rfl rfl rfl ?_
        rintro _ _ ⟨b6003, rfl, rfl⟩
        refine ⟨fun e he _ => pk_in (jx := [2, 3]) rfl e he, ?_⟩
        refine WP.mn (i := 6) rfl (MOp.storeW rfl (cA rfl) (.t .h) ti81 rfl rfl rfl) rfl rfl ?_
        rintro _ _ rfl
        refine ⟨fun e he _ => pk_in (jx := [2, 3]) rfl e he, ?_⟩
        refine WP.msn (i := 7) rfl (MOp.storeW rfl (cA rfl) .h ti81 rfl rfl rfl) rfl (by kernel_rfl) rfl ?_
        rintro _ _ rfl
        refine WS.nil ?_
        refine WX.keep [5, 6] (WX.pk [1, 0] (by decide) ?_) rfl
        exact gabionlaw16_InodeEqual_j1_ok h _ _ _ ⟨hB, _, _, _, _, h2005, h4005, rfl, rfl⟩
      · refine WP.md (i := 5) rfl (MOp.alloc ti81 rfl) rfl rfl rfl ?_
        rintro _ _ ⟨b6003, rfl, rfl⟩
        refine ⟨fun e he _ => pk_in (jx := [1, 2]) rfl e he, ?_⟩
        refine WP.md (i := 4) rfl (MOp.alloc ti81 rfl) rfl rfl rfl ?_
        rintro _ _ ⟨b5003, rfl, rfl⟩
        refine ⟨fun e he _ => pk_in (jx := [2, 3]) rfl e he, ?_⟩
        refine WP.mn (i := 6) rfl (MOp.storeW rfl (cA rfl) .h ti81 rfl rfl rfl) rfl rfl ?_
        rintro _ _ rfl
        refine ⟨fun e he _ => pk_in (jx := [2, 3]) rfl e he, ?_⟩
        refine WP.msn (i := 7) rfl (MOp.storeW rfl (cA rfl) (.t .h) ti81 rfl rfl rfl) rfl (by kernel_rfl) rfl ?_
        rintro _ _ rfl
        refine WS.nil ?_
        refine WX.keep [5, 6] (WX.pk [0, 1] (by decide) ?_) rfl
        exact gabionlaw16_InodeEqual_j1_ok h _ _ _ ⟨hB, _, _, _, _, h2005, h4005, rfl, rfl⟩
    · refine WP.alt ?_ ?_
      · refine WP.md (i := 4) rfl (MOp.alloc ti81 rfl) rfl rfl rfl ?_
        rintro _ _ ⟨b5003, rfl, rfl⟩
        refine ⟨fun e he _ => pk_in (jx := [1, 2]) rfl e he, ?_⟩
        refine WP.alt ?_ ?_
        · refine WP.c0 (i := 3) rfl rfl rfl (gabionlaw16_cut_ok g1_0 hy4003) rfl rfl rfl ?_
          rintro _ B hK ⟨v4004, rfl, h4005⟩
          obtain ⟨_, _, _, _, _, rfl⟩ := h4005.isl
          replace g0_0 := g0_0.up hK
          replace g1_0 := g1_0.up hK
          replace h2005 := h2005.up hK
          replace hB := hB.trans hK
          refine WP.md (i := 5) rfl (MOp.alloc ti81 rfl) rfl rfl rfl ?_
          rintro _ _ ⟨b6003, rfl, rfl⟩
          refine ⟨fun e he _ => pk_in (jx := [2, 3]) rfl e he, ?_⟩
          refine WP.mn (i := 6) rfl (MOp.storeW rfl (cA rfl) (.t .h) ti81 rfl rfl rfl) rfl rfl ?_
          rintro _ _ rfl
          refine ⟨fun e he _ => pk_in (jx := [2, 3]) rfl e he, ?_⟩
          refine WP.msn (i := 7) rfl (MOp.storeW rfl (cA rfl) .h ti81 rfl rfl rfl) rfl (by kernel_rfl) rfl ?_
          rintro _ _ rfl
          refine WS.nil ?_
          refine WX.keep [5, 6] (WX.pk [1, 0] (by decide) ?_) rfl
          exact gabionlaw16_InodeEqual_j1_ok h _ _ _ ⟨hB, _, _, _, _, h2005, h4005, rfl, rfl⟩
        · refine WP.md (i := 5) rfl (MOp.alloc ti81 rfl) rfl rfl rfl ?_
          rintro _ _ ⟨b6003, rfl, rfl⟩
          refine ⟨fun e he _ => pk_in (jx := [2, 3]) rfl e he, ?_⟩
          refine WP.c0 (i := 3) rfl rfl rfl (gabionlaw16_cut_ok g1_0 hy4003) rfl rfl rfl ?_
          rintro _ B hK ⟨v4004, rfl, h4005⟩
          obtain ⟨_, _, _, _, _, rfl⟩ := h4005.isl
          replace g0_0 := g0_0.up hK
          replace g1_0 := g1_0.up hK
          replace h2005 := h2005.up hK
          replace hB := hB.trans hK
          refine WP.mn (i := 6) rfl (MOp.storeW rfl (cA rfl) (.t .h) ti81 rfl rfl rfl) rfl rfl ?_
          rintro _ _ rfl
          refine ⟨fun e he _ => pk_in (jx := [2, 3]) rfl e he, ?_⟩
          refine WP.msn (i := 7) rfl (MOp.storeW rfl (cA rfl) .h ti81 rfl rfl rfl) rfl (by kernel_rfl) rfl ?_
          rintro _ _ rfl
          refine WS.nil ?_
          refine WX.keep [5, 6] (WX.pk [1, 0] (by decide) ?_) rfl
          exact gabionlaw16_InodeEqual_j1_ok h _ _ _ ⟨hB, _, _, _, _, h2005, h4005, rfl, rfl⟩
      · refine WP.md (i := 5) rfl (MOp.alloc ti81 rfl) rfl rfl rfl ?_
        rintro _ _ ⟨b6003, rfl, rfl⟩
        refine ⟨fun e he _ => pk_in (jx := [1, 2]) rfl e he, ?_⟩
        refine WP.alt ?_ ?_
        · refine WP.c0 (i := 3) rfl rfl rfl (gabionlaw16_cut_ok g1_0 hy4003) rfl rfl rfl ?_
          rintro _ B hK ⟨v4004, rfl, h4005⟩
          obtain ⟨_, _, _, _, _, rfl⟩ := h4005.isl
          replace g0_0 := g0_0.up hK
          replace g1_0 := g1_0.up hK
          replace h2005 := h2005.up hK
          replace hB := hB.trans hK
          refine WP.md (i := 4) rfl (MOp.alloc ti81 rfl) rfl rfl rfl ?_
          rintro _ _ ⟨b5003, rfl, rfl⟩
          refine ⟨fun e he _ => pk_in (jx := [2, 3]) rfl e he, ?_⟩
          refine WP.mn (i := 6) rfl (MOp.storeW rfl (cA rfl) .h ti81 rfl rfl rfl) rfl rfl ?_
          rintro _ _ rfl
          refine ⟨fun e he _ => pk_in (jx := [2, 3]) rfl e he, ?_⟩
          refine WP.msn (i := 7) rfl (MOp.storeW rfl (cA rfl) (.t .h) ti81 rfl rfl rfl) rfl (by kernel_rfl) rfl ?_
          rintro _ _ rfl
          refine WS.nil ?_
          refine WX.keep [5, 6] (WX.pk [0, 1] (by decide) ?_) rfl
          exact gabionlaw16_InodeEqual_j1_ok h _ _ _ ⟨hB, _, _, _, _, h2005, h4005, rfl, rfl⟩
        · refine WP.md (i := 4) rfl (MOp.alloc ti81 rfl) rfl rfl rfl ?_
          rintro _ _ ⟨b5003, rfl, rfl⟩
          refine ⟨fun e he _ => pk_in (jx := [2, 3]) rfl e he, ?_⟩
          refine WP.c0 (i := 3) rfl rfl rfl (gabionlaw16_cut_ok g1_0 hy4003) rfl rfl rfl ?_
          rintro _ B hK ⟨v4004, rfl, h4005⟩
          obtain ⟨_, _, _, _, _, rfl⟩ := h4005.isl
          replace g0_0 := g0_0.up hK
          replace g1_0 := g1_0.up hK
          replace h2005 := h2005.up hK
          replace hB := hB.trans hK
          refine WP.mn (i := 6) rfl (MOp.storeW rfl (cA rfl) .h ti81 rfl rfl rfl) rfl rfl ?_
          rintro _ _ rfl
          refine ⟨fun e he _ => pk_in (jx := [2, 3]) rfl e he, ?_⟩
          refine WP.msn (i := 7) rfl (MOp.storeW rfl (cA rfl) (.t .h) ti81 rfl rfl rfl) rfl (by kernel_rfl) rfl ?_
          rintro _ _ rfl
          refine WS.nil ?_
          refine WX.keep [5, 6] (WX.pk [0, 1] (by decide) ?_) rfl
          exact gabionlaw16_InodeEqual_j1_ok h _ _ _ ⟨hB, _, _, _, _, h2005, h4005, rfl, rfl⟩
  · refine WP.alt ?_ ?_
    · refine WP.md (i := 4) rfl (MOp.alloc ti81 rfl) rfl rfl rfl ?_
      rintro _ _ ⟨b5003, rfl, rfl⟩
      refine ⟨fun e he _ => pk_in (jx := [1, 2]) rfl e he, ?_⟩
      refine WP.alt ?_ ?_
      · refine WP.c0 (i := 1) rfl rfl rfl (gabionlaw16_cut_ok g0_0 hy2003) rfl rfl rfl ?_
        rintro _ B hK ⟨v2004, rfl, h2005⟩
        obtain ⟨_, _, _, _, _, rfl⟩ := h2005.isl
        replace g0_0 := g0_0.up hK
        replace g1_0 := g1_0.up hK
        replace hB := hB.trans hK
        refine WP.alt ?_ ?_
        · refine WP.c0 (i := 3) rfl rfl rfl (gabionlaw16_cut_ok g1_0 hy4003) rfl rfl rfl ?_
          rintro _ B hK ⟨v4004, rfl, h4005⟩
          obtain ⟨_, _, _, _, _, rfl⟩ := h4005.isl
          replace g0_0 := g0_0.up hK
          replace g1_0 := g1_0.up hK
          replace h2005 := h2005.up hK
          replace hB := hB.trans hK
          refine WP.md (i := 5) rfl (MOp.alloc ti81 rfl) rfl rfl rfl ?_
          rintro _ _ ⟨b6003, rfl, rfl⟩
          refine ⟨fun e he _ => pk_in (jx := [2, 3]) rfl e he, ?_⟩
          refine WP.mn (i := 6) rfl (MOp.storeW rfl (cA rfl) (.t .h) ti81 rfl rfl rfl) rfl rfl ?_
          rintro _ _ rfl
          refine ⟨fun e he _ => pk_in (jx := [2, 3]) rfl e he, ?_⟩
          refine WP.msn (i := 7) rfl (MOp.storeW rfl (cA rfl) .h ti81 rfl rfl rfl) rfl (by kernel_rfl) rfl ?_
          rintro _ _ rfl
          refine WS.nil ?_
          refine WX.keep [5, 6] (WX.pk [1, 0] (by decide) ?_) rfl
          exact gabionlaw16_InodeEqual_j1_ok h _ _ _ ⟨hB, _, _, _, _, h2005, h4005, rfl, rfl⟩
        · refine WP.md (i := 5) rfl (MOp.alloc ti81 rfl) rfl rfl rfl ?_
          rintro _ _ ⟨b6003, rfl, rfl⟩
          refine ⟨fun e he _ => pk_in (jx := [2, 3]) rfl e he, ?_⟩
          refine WP.c0 (i := 3) rfl rfl rfl (gabionlaw16_cut_ok g1_0 hy4003) rfl rfl rfl ?_
          rintro _ B hK ⟨v4004, rfl, h4005⟩
          obtain ⟨_, _, _, _, _, rfl⟩ := h4005.isl
          replace g0_0 := g0_0.up hK
          replace g1_0 := g1_0.up hK
          replace h2005 := h2005.up hK
          replace hB := hB.trans hK
          refine WP.mn (i := 6) rfl (MOp.storeW rfl (cA rfl) (.t .h) ti81 rfl rfl rfl) rfl rfl ?_
          rintro _ _ rfl
          refine ⟨fun e he _ => pk_in (jx := [2, 3]) rfl e he, ?_⟩
          refine WP.msn (i := 7) rfl (MOp.storeW rfl (cA rfl) .h ti81 rfl rfl rfl) rfl (by kernel_rfl) rfl ?_
          rintro _ _ rfl
          refine WS.nil ?_
          refine WX.keep [5, 6] (WX.pk [1, 0] (by decide) ?_) rfl
          exact gabionlaw16_InodeEqual_j1_ok h _ _ _ ⟨hB, _, _, _, _, h2005, h4005, rfl, rfl⟩
      · refine WP.md (i := 5) rfl (MOp.alloc ti81 rfl) rfl rfl rfl ?_
        rintro _ _ ⟨b6003, rfl, rfl⟩
        refine ⟨fun e he _ => pk_in (jx := [2, 3]) rfl e he, ?_⟩
        refine WP.c0 (i := 1) rfl rfl rfl (gabionlaw16_cut_ok g0_0 hy2003) rfl rfl rfl ?_
        rintro _ B hK ⟨v2004, rfl, h2005⟩
        obtain ⟨_, _, _, _, _, rfl⟩ := h2005.isl
        replace g0_0 := g0_0.up hK
        replace g1_0 := g1_0.up hK
        replace hB := hB.trans hK
        refine WP.c0 (i := 3) rfl rfl rfl (gabionlaw16_cut_ok g1_0 hy4003) rfl rfl rfl ?_
        rintro _ B hK ⟨v4004, rfl, h4005⟩
        obtain ⟨_, _, _, _, _, rfl⟩ := h4005.isl
        replace g0_0 := g0_0.up hK
        replace g1_0 := g1_0.up hK
        replace h2005 := h2005.up hK
        replace hB := hB.trans hK
        refine WP.mn (i := 6) rfl (MOp.storeW rfl (cA rfl) (.t .h) ti81 rfl rfl rfl) rfl rfl ?_
        rintro _ _ rfl
        refine ⟨fun e he _ => pk_in (jx := [2, 3]) rfl e he, ?_⟩
        refine WP.msn (i := 7) rfl (MOp.storeW rfl (cA rfl) .h ti81 rfl rfl rfl) rfl (by kernel_rfl) rfl ?_
        rintro _ _ rfl
        refine WS.nil ?_
        refine WX.keep [5, 6] (WX.pk [1, 0] (by decide) ?_) rfl
        exact gabionlaw16_InodeEqual_j1_ok h _ _ _ ⟨hB, _, _, _, _, h2005, h4005, rfl, rfl⟩
    · refine WP.md (i := 5) rfl (MOp.alloc ti81 rfl) rfl rfl rfl ?_
      rintro _ _ ⟨b6003, rfl, rfl⟩
      refine ⟨fun e he _ => pk_in (jx := [1, 2]) rfl e he, ?_⟩
      refine WP.alt ?_ ?_
      · refine WP.c0 (i := 1) rfl rfl rfl (gabionlaw16_cut_ok g0_0 hy2003) rfl rfl rfl ?_
        rintro _ B hK ⟨v2004, rfl, h2005⟩
        obtain ⟨_, _, _, _, _, rfl⟩ := h2005.isl
        replace g0_0 := g0_0.up hK
        replace g1_0 := g1_0.up hK
        replace hB := hB.trans hK
        refine WP.alt ?_ ?_
        · refine WP.c0 (i := 3) rfl rfl rfl (gabionlaw16_cut_ok g1_0 hy4003) rfl rfl rfl ?_
          rintro _ B hK ⟨v4004, rfl, h4005⟩
          obtain ⟨_, _, _, _, _, rfl⟩ := h4005.isl
          replace g0_0 := g0_0.up hK
          replace g1_0 := g1_0.up hK
          replace h2005 := h2005.up hK
          replace hB := hB.trans hK
          refine WP.md (i := 4) rfl (MOp.alloc ti81 rfl) rfl rfl rfl ?_
          rintro _ _ ⟨b5003, rfl, rfl⟩
          refine ⟨fun e he _ => pk_in (jx := [2, 3]) rfl e he, ?_⟩
          refine WP.mn (i := 6) rfl (MOp.storeW rfl (cA rfl) .h ti81 rfl rfl rfl) rfl rfl ?_
          rintro _ _ rfl
          refine ⟨fun e he _ => pk_in (jx := [2, 3]) rfl e he, ?_⟩
          refine WP.msn (i := 7) rfl (MOp.storeW rfl (cA rfl) (.t .h) ti81 rfl rfl rfl) rfl (by kernel_rfl) rfl ?_
          rintro _ _ rfl
          refine WS.nil ?_
          refine WX.keep [5, 6] (WX.pk [0, 1] (by decide) ?_) rfl
          exact gabionlaw16_InodeEqual_j1_ok h _ _ _ ⟨hB, _, _, _, _, h2005, h4005, rfl, rfl⟩
        · refine WP.md (i := 4) rfl (MOp.alloc ti81 rfl) rfl rfl rfl ?_
          rintro _ _ ⟨b5003, rfl, rfl⟩
          refine ⟨fun e he _ => pk_in (jx := [2, 3]) rfl e he, ?_⟩
          refine WP.c0 (i := 3) rfl rfl rfl (gabionlaw16_cut_ok g1_0 hy4003) rfl rfl rfl ?_
          rintro _ B hK ⟨v4004, rfl, h4005⟩
          obtain ⟨_, _, _, _, _, rfl⟩ := h4005.isl
          replace g0_0 := g0_0.up hK
          replace g1_0 := g1_0.up hK
          replace h2005 := h2005.up hK
          replace hB := hB.trans hK
          refine WP.mn (i := 6) rfl (MOp.storeW rfl (cA rfl) .h ti81 rfl rfl rfl) rfl rfl ?_
          rintro _ _ rfl
          refine ⟨fun e he _ => pk_in (jx := [2, 3]) rfl e he, ?_⟩
          refine WP.msn (i := 7) rfl (MOp.storeW rfl (cA rfl) (.t .h) ti81 rfl rfl rfl) rfl (by kernel_rfl) rfl ?_
          rintro _ _ rfl
          refine WS.nil ?_
          refine WX.keep [5, 6] (WX.pk [0, 1] (by decide) ?_) rfl
          exact gabionlaw16_InodeEqual_j1_ok h _ _ _ ⟨hB, _, _, _, _, h2005, h4005, rfl, rfl⟩
      · refine WP.md (i := 4) rfl (MOp.alloc ti81 rfl) rfl rfl rfl ?_
        rintro _ _ ⟨b5003, rfl, rfl⟩
        refine ⟨fun e he _ => pk_in (jx := [2, 3]) rfl e he, ?_⟩
        refine WP.c0 (i := 1) rfl rfl rfl (gabionlaw16_cut_ok g0_0 hy2003) rfl rfl rfl ?_
        rintro _ B hK ⟨v2004, rfl, h2005⟩
        obtain ⟨_, _, _, _, _, rfl⟩ := h2005.isl
        replace g0_0 := g0_0.up hK
        replace g1_0 := g1_0.up hK
        replace hB := hB.trans hK
        refine WP.c0 (i := 3) rfl rfl rfl (gabionlaw16_cut_ok g1_0 hy4003) rfl rfl rfl ?_
        rintro _ B hK ⟨v4004, rfl, h4005⟩
        obtain ⟨_, _, _, _, _, rfl⟩ := h4005.isl
        replace g0_0 := g0_0.up hK
        replace g1_0 := g1_0.up hK
        replace h2005 := h2005.up hK
        replace hB := hB.trans hK
        refine WP.mn (i := 6) rfl (MOp.storeW rfl (cA rfl) .h ti81 rfl rfl rfl) rfl rfl ?_
        rintro _ _ rfl
        refine ⟨fun e he _ => pk_in (jx := [2, 3]) rfl e he, ?_⟩
        refine WP.msn (i := 7) rfl (MOp.storeW rfl (cA rfl) (.t .h) ti81 rfl rfl rfl) rfl (by kernel_rfl) rfl ?_
        rintro _ _ rfl
        refine WS.nil ?_
        refine WX.keep [5, 6] (WX.pk [0, 1] (by decide) ?_) rfl
        exact gabionlaw16_InodeEqual_j1_ok h _ _ _ ⟨hB, _, _, _, _, h2005, h4005, rfl, rfl⟩
end Gab
