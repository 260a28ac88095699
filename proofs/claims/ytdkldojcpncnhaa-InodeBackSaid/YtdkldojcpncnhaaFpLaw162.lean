/- The Go code comes to what the Lean functions say. Written by a program (gp.py). -/
import Derived.Test.YtdkldojcpncnhaaFd
import Derived.Test.YtdkldojcpncnhaaTy
import Derived.Test.YtdkldojcpncnhaaFpInode0
import Derived.Test.YtdkldojcpncnhaaFpInode1
import Derived.Test.YtdkldojcpncnhaaFpInode2
set_option linter.unusedSimpArgs false
set_option linter.unusedVariables false
set_option maxHeartbeats 4000000
set_option maxRecDepth 100000
namespace Gab
open Go Go.Proofs
def gabionlaw16_of_P (B : Kn) (L : Own) (r : (Int × Int × Int × (List (Int × Int)) × (List UInt8))) : AV → St → Prop := C1 B L fun B' v e0 => ∃ w0 b0 n0 c0, v = .agg [.int .u8 r.1, .int .i64 r.2.1, .int .i64 r.2.2.1, w0, .str r.2.2.2.2] ∧ e0 = oe b0 n0 c0 ∧ OSl EPIi64Ii64Q B' w0 b0 n0 c0 r.2.2.2.1
def gabionlaw16_of_l0_I (B0 : Kn) (x16 : List (Int × Int)) (zb2 : Int × Int × Int × (List (Int × Int)) × (List UInt8)) (x18 : Int) (zb3 : Int × Int × Int × (List (Int × Int)) × (List UInt8)) : Fr → Kn → Own → Prop := fun fr B A => KLe B0 B ∧ ∃ b4 v5 b5 n5 c5 b6 v7 b7 n7 c7 v8, OSl EPIi64Ii64Q B v5 b5 n5 c5 zb2.2.2.2.1 ∧ OSl EPIi64Ii64Q B v7 b7 n7 c7 zb3.2.2.2.1 ∧ RSl EPIi64Ii64Q B v8 x16 ∧ fr = [(2, .ptr b4 0), (3, .ptr b6 0), (16, v8), (17, .int .i64 (x16.length : Int)), (18, .int .i64 x18)] ∧ A = [(b4, some [.int .u8 zb2.1, .int .i64 zb2.2.1, .int .i64 zb2.2.2.1, v5, .str zb2.2.2.2.2]), (b6, some [.int .u8 zb3.1, .int .i64 zb3.2.1, .int .i64 zb3.2.2.1, v7, .str zb3.2.2.2.2]), oe b5 n5 c5, oe b7 n7 c7]
def gabionlaw16_of_l0_X0 (B0 : Kn) (zb2 : Int × Int × Int × (List (Int × Int)) × (List UInt8)) (zb3 : Int × Int × Int × (List (Int × Int)) × (List UInt8)) : Fr → Kn → Own → Prop := fun fr B A => KLe B0 B ∧ ∃ b31 v32 b32 n32 c32 b33 v34 b34 n34 c34, OSl EPIi64Ii64Q B v32 b32 n32 c32 zb2.2.2.2.1 ∧ OSl EPIi64Ii64Q B v34 b34 n34 c34 zb3.2.2.2.1 ∧ fr = [(2, .ptr b31 0), (3, .ptr b33 0)] ∧ A = [(b31, some [.int .u8 zb2.1, .int .i64 zb2.2.1, .int .i64 zb2.2.2.1, v32, .str zb2.2.2.2.2]), (b33, some [.int .u8 zb3.1, .int .i64 zb3.2.1, .int .i64 zb3.2.2.1, v34, .str zb3.2.2.2.2]), oe b32 n32 c32, oe b34 n34 c34]
theorem gabionlaw16_of_l0_s {B0 : Kn} {L : Own} {n0 : Nat} {x16 : List (Int × Int)} {zb2 : Int × Int × Int × (List (Int × Int)) × (List UInt8)} {x18 : Int} {zb3 : Int × Int × Int × (List (Int × Int)) × (List UInt8)} {Q : AV → St → Prop} {E : (Int × (Int × Int × Int × (List (Int × Int)) × (List UInt8))) ⊕ (Int × Int × Int × (List (Int × Int)) × (List UInt8)) → Prop} {o : (Int × (Int × Int × Int × (List (Int × Int)) × (List UInt8))) ⊕ (Int × Int × Int × (List (Int × Int)) × (List UInt8))} (h : gabionlaw16_of_l0 x16 zb2 x18 zb3 = some o) (hn : ∀ s, E (.inl s) → WXI Try.prog 34 n0 (Fin Try.prog Try.f48.results.toList n0 Q) [.lp (ct [1, 1, 0, 1, 0, 0] (bodyOf Try.f48)), .blk 0, .code (ct [1, 1, 1] (bodyOf Try.f48))] (gabionlaw16_of_l0_I B0 x16 zb2 s.1 s.2) L) (hx0 : ∀ s, E (.inr s) → WXI Try.prog 34 n0 (Fin Try.prog Try.f48.results.toList n0 Q) [.code (ct [1, 1, 1] (bodyOf Try.f48))] (gabionlaw16_of_l0_X0 B0 zb2 s) L) (hE : E o) : WXI Try.prog 34 n0 (Fin Try.prog Try.f48.results.toList n0 Q) [.code (ct [1, 1, 0, 1, 0, 0] (bodyOf Try.f48)), .lp (ct [1, 1, 0, 1, 0, 0] (bodyOf Try.f48)), .blk 0, .code (ct [1, 1, 1] (bodyOf Try.f48))] (gabionlaw16_of_l0_I B0 x16 zb2 x18 zb3) L := by
  unfold gabionlaw16_of_l0 at h
  rintro _ B _ ⟨hB, b4, v5, b5, n5, c5, b6, v7, b7, n7, c7, v8, h5, h7, h8, rfl, rfl⟩
  obtain ⟨_, _, _, _, _, rfl⟩ := h5.isl
  obtain ⟨_, _, _, _, _, rfl⟩ := h7.isl
  obtain ⟨_, _, _, _, _, rfl⟩ := h8.isl
  refine WX.seq ?_
  refine WX.reg ?_
  refine WO.q (.r fun _ => rfl) rfl rfl ?_
  refine WO.nil ?_
  refine WX.seq ?_
  rcases bsp (decide (x18 < (x16.length : Int))) with k9 | k9
  · have q_k9 := of_decide_eq_true k9
    replace h := (if_pos q_k9).symm.trans h
    refine WX.condT rfl k9 ?_
    refine WX.skip ?_
    refine WX.seq ?_
    refine WX.block ?_
    refine WX.seq ?_
    refine WX.reg ?_
    obtain ⟨y10, hy10, h⟩ := Option.bind_eq_some_iff.1 h
    obtain ⟨b_y10, o_y10, _, i_y10, p_y10, r_y10⟩ := h8.at sl40 hy10 .i64
    obtain ⟨_, _, rfl, rfl, rfl⟩ := r_y10
    refine WO.q (.ia i_y10) rfl rfl ?_
    refine WO.q (.lpA rfl p_y10 ti41 rfl rfl) rfl rfl ?_
    refine WO.md (MOp.alloc ti41 rfl) rfl rfl ?_
    rintro _ _ ⟨b11, rfl, rfl⟩
    refine WO.mn (MOp.storeW rfl (cA rfl) .h ti41 rfl rfl rfl) rfl ?_
    rintro _ _ rfl
    refine WO.nil ?_
    refine WX.reg ?_
    refine WO.q (.fa (fa86_3 _ _)) rfl rfl ?_
    refine WO.q (.ldS (i := 2) rfl rfl rfl ti44 rfl) rfl rfl ?_
    refine WO.q (.ia (ia41_0 _ _)) rfl rfl ?_
    refine WO.q (.ldS (i := 0) rfl rfl rfl ti3 rfl) rfl rfl ?_
    refine WO.q (.ia (ia41_1 _ _)) rfl rfl ?_
    refine WO.q (.ldS (i := 0) rfl rfl rfl ti3 rfl) rfl rfl ?_
    refine WO.q (.bd (bd35_0_1 (cI rfl) (cI rfl))) rfl rfl ?_
    refine WO.md (MOp.bs (l := ([y10] : List (Int × Int))) sl44 (RL.cons (Rp Ri Ri) RL.nil) (lb rfl) rfl rfl) rfl rfl ?_
    rintro v14 _ ⟨b12, o13, rfl⟩
    obtain ⟨_, _, _, _, _, rfl⟩ := o13.isl
    obtain ⟨y16, hy16, h⟩ := Option.bind_eq_some_iff.1 h
    refine WO.md (MOp.app rfl rfl rfl sl44 h7 (Src.o (i := 0) sl44 o13 rfl) hy16 rfl rfl (fun _ => (.t (.t (.t (.t (.t .h))))))) rfl rfl ?_
    rintro v20 _ ⟨b17, n18, o19, rfl⟩
    obtain ⟨_, _, _, _, _, rfl⟩ := o19.isl
    refine WO.q (.fa (fa86_3 _ _)) rfl rfl ?_
    refine WO.mn (MOp.store (cs' := [.int .u8 zb3.1, .int .i64 zb3.2.1, .int .i64 zb3.2.2.1, _, .str zb3.2.2.2.2]) rfl (cL rfl) (.t (.t (.t .h))) ti44 rfl rfl (lb rfl) rfl) rfl ?_
    rintro _ _ rfl
    refine WO.nil ?_
    refine WX.pop ?_
    refine WX.reg ?_
    refine WO.q (.r fun _ => rfl) rfl rfl ?_
    refine WO.q (.mv (v := .int _ _) rfl) rfl rfl ?_
    refine WO.nil ?_
    refine WX.keepL [2, 3, 16, 17, 18] (WX.pk [2, 3, 4, 5] (by decide) ?_) rfl
    obtain rfl := Option.some.inj h
    exact hn _ hE _ _ _ ⟨hB, _, _, _, n5, _, _, _, _, n18, _, _, h5, o19, h8, rfl, rfl⟩
  · have q_k9 := of_decide_eq_false k9
    replace h := (if_neg q_k9).symm.trans h
    refine WX.condF rfl k9 ?_
    refine WX.exit rfl ?_
    refine WX.keep [2, 3] (WX.pk [0, 1, 2, 3] (by decide) ?_) rfl
    obtain rfl := Option.some.inj h
    exact hx0 _ hE _ _ _ ⟨hB, _, _, _, n5, _, _, _, _, n7, _, h5, h7, rfl, rfl⟩
theorem gabionlaw16_of_l0_ok {B0 : Kn} {L : Own} {n0 : Nat} {x16 : List (Int × Int)} {zb2 : Int × Int × Int × (List (Int × Int)) × (List UInt8)} {x18 : Int} {zb3 : Int × Int × Int × (List (Int × Int)) × (List UInt8)} {Q : AV → St → Prop} {d : Nat} {e : (Int × Int × Int × (List (Int × Int)) × (List UInt8))} (h : iter (fun (s : Int × (Int × Int × Int × (List (Int × Int)) × (List UInt8))) => gabionlaw16_of_l0 x16 zb2 s.1 s.2) d (x18, zb3) = some e) (g0 : ∀ s, e = s → WXI Try.prog 34 n0 (Fin Try.prog Try.f48.results.toList n0 Q) [.code (ct [1, 1, 1] (bodyOf Try.f48))] (gabionlaw16_of_l0_X0 B0 zb2 s) L) : WXI Try.prog 34 n0 (Fin Try.prog Try.f48.results.toList n0 Q) [.code (ct [1, 1, 0, 1, 0, 0] (bodyOf Try.f48)), .lp (ct [1, 1, 0, 1, 0, 0] (bodyOf Try.f48)), .blk 0, .code (ct [1, 1, 1] (bodyOf Try.f48))] (gabionlaw16_of_l0_I B0 x16 zb2 x18 zb3) L :=
  iter_ok (I := fun s => gabionlaw16_of_l0_I B0 x16 zb2 s.1 s.2) (D := fun e => (∀ s, e = s → WXI Try.prog 34 n0 (Fin Try.prog Try.f48.results.toList n0 Q) [.code (ct [1, 1, 1] (bodyOf Try.f48))] (gabionlaw16_of_l0_X0 B0 zb2 s) L)) (fun E hn hx s o ho hE => gabionlaw16_of_l0_s ho hn (fun s hs => (hx _ hs) _ rfl)  hE) h g0
theorem gabionlaw16_of_ok {B0 : Kn} {L : Own} {a0 : Int × Int × Int × (List (Int × Int)) × (List UInt8)} {v0_0 : AV} {r : (Int × Int × Int × (List (Int × Int)) × (List UInt8))} (g0_0 : RSl EPIi64Ii64Q B0 v0_0 a0.2.2.2.1) (h : gabionlaw16_of a0 = some r) : ∀ st, Hp B0 L st → ASpec Try.prog 48 [.agg [.int .u8 a0.1, .int .i64 a0.2.1, .int .i64 a0.2.2.1, v0_0, .str a0.2.2.2.2]] st (gabionlaw16_of_P B0 L r) := by
  unfold gabionlaw16_of at h
  refine bodyA (A := []) Try.func48 rfl (c := bodyOf Try.f48) rfl Try.ntmps48 (lb rfl) fun n0 => ?_
  have hB := KLe.refl B0
  obtain ⟨_, _, _, _, _, rfl⟩ := g0_0.isl
  refine WX.seq ?_
  refine WX.reg ?_
  refine WO.md (MOp.box (cA rfl)) rfl rfl ?_
  rintro _ _ ⟨b1, rfl, rfl⟩
  refine WO.md (MOp.alloc ti86 rfl) rfl rfl ?_
  rintro _ _ ⟨b2, rfl, rfl⟩
  refine WO.nil ?_
  refine WX.seq ?_
  refine WX.reg ?_
  refine WO.q (.fa (fa81_0 _ _)) rfl rfl ?_
  refine WO.q (.ldS (i := 1) rfl rfl rfl ti5 rfl) rfl rfl ?_
  refine WO.q (.fa (fa81_1 _ _)) rfl rfl ?_
  refine WO.q (.ldS (i := 1) rfl rfl rfl ti3 rfl) rfl rfl ?_
  refine WO.q (.fa (fa81_2 _ _)) rfl rfl ?_
  refine WO.q (.ldS (i := 1) rfl rfl rfl ti3 rfl) rfl rfl ?_
  refine WO.q (.fa (fa81_4 _ _)) rfl rfl ?_
  refine WO.q (.ldS (i := 1) rfl rfl rfl ti9 rfl) rfl rfl ?_
  refine WO.q (.bd (bd86_0_1_2_4 (cI rfl) (cI rfl) (cI rfl) (cS rfl))) rfl rfl ?_
  refine WO.md (MOp.alloc ti86 rfl) rfl rfl ?_
  rintro _ _ ⟨b3, rfl, rfl⟩
  refine WO.mn (MOp.storeW rfl (cA rfl) .h ti86 rfl rfl rfl) rfl ?_
  rintro _ _ rfl
  refine WO.nil ?_
  refine WX.seq ?_
  refine WX.seq ?_
  refine WX.reg ?_
  refine WO.q (.fa (fa81_3 _ _)) rfl rfl ?_
  refine WO.q (.ldS (i := 2) rfl rfl rfl ti40 rfl) rfl rfl ?_
  refine WO.q (.len rfl rfl rfl (sl40.len g0_0.isl)) rfl rfl ?_
  refine WO.q (.mv (v := .int _ _) rfl) rfl rfl ?_
  refine WO.nil ?_
  refine WX.block ?_
  refine WX.loop ?_
  obtain ⟨e25, he25, h⟩ := Option.bind_eq_some_iff.1 h
  refine WX.keep [2, 3, 16, 17, 18] (WX.pk [1, 0] (by decide) (WX.addn [2, 3] ?_)) rfl
  refine gabionlaw16_of_l0_ok he25 ?_ _ _ _ ⟨hB, _, _, 0, true, [], _, _, 0, true, [], _, OSl.none _ _, OSl.none _ _, g0_0, rfl, rfl⟩
  · intro s30 he_
    subst he_
    replace h := h
    rintro _ B _ ⟨hB, b26, v27, b27, n27, c27, b28, v29, b29, n29, c29, h27, h29, rfl, rfl⟩
    obtain ⟨_, _, _, _, _, rfl⟩ := h27.isl
    obtain ⟨_, _, _, _, _, rfl⟩ := h29.isl
    refine WX.seq ?_
    refine WX.reg ?_
    refine WO.q (.ldA (i := 1) rfl rfl rfl ti86 rfl) rfl rfl ?_
    refine WO.mn (MOp.storeW rfl (cA rfl) .h ti86 rfl rfl rfl) rfl ?_
    rintro _ _ rfl
    refine WO.nil ?_
    obtain rfl := Option.some.inj h
    exact WX.ret (rs_ (rs_cell (.ldA (i := 0) rfl rfl rfl ti86 rfl) rs_nil)) fun st hp => ⟨_, _, hB, (hp.pk [3] (by decide)), _, _, n29, _, rfl, rfl, h29⟩
def gabionlaw16_wakes_P (B : Kn) (L : Own) (r : Bool) : AV → St → Prop := CS B L fun v => v = .bool r
theorem gabionlaw16_wakes_ok {B0 : Kn} {L : Own} {r : Bool} (h : gabionlaw16_wakes = some r) : ∀ st, Hp B0 L st → ASpec Try.prog 53 [] st (gabionlaw16_wakes_P B0 L r) := by
  unfold gabionlaw16_wakes at h
  refine bodyA (A := []) Try.func53 rfl (c := bodyOf Try.f53) rfl Try.ntmps53 (lb rfl) fun n0 => ?_
  have hB := KLe.refl B0
  refine WX.seq ?_
  refine WX.reg ?_
  refine WO.q (.as (v := .bool _) rfl) rfl rfl ?_
  refine WO.nil ?_
  refine WX.seq ?_
  refine WX.reg ?_
  refine WO.q (.bd (bd86_0_1 (cI rfl) (cI rfl))) rfl rfl ?_
  refine WO.md (MOp.alloc ti86 rfl) rfl rfl ?_
  rintro _ _ ⟨b1, rfl, rfl⟩
  refine WO.mn (MOp.storeW rfl (cA rfl) .h ti86 rfl rfl rfl) rfl ?_
  rintro _ _ rfl
  refine WO.nil ?_
  refine WX.seq ?_
  refine WX.reg ?_
  obtain ⟨y2, hy2, h⟩ := Option.bind_eq_some_iff.1 h
  refine WO.c1 rfl rfl (inode_Parse_ok hy2) rfl rfl rfl ?_
  rintro _ B _ hK ⟨v3, b4, n5, c6, rfl, rfl, h7⟩
  obtain ⟨_, _, _, _, _, rfl⟩ := h7.isl
  replace hB := hB.trans hK
  refine WO.q (.mv (v := .tup _) rfl) rfl rfl ?_
  refine WO.q (.r fun _ => rfl) rfl rfl ?_
  refine WO.q (.r fun _ => rfl) rfl rfl ?_
  refine WO.q (.r fun _ => rfl) rfl rfl ?_
  refine WO.md (MOp.alloc ti86 rfl) rfl rfl ?_
  rintro _ _ ⟨b8, rfl, rfl⟩
  refine WO.q (.as (v := .int _ _) rfl) rfl rfl ?_
  refine WO.mn (MOp.storeW rfl (cA rfl) .h ti86 rfl rfl rfl) rfl ?_
  rintro _ _ rfl
  refine WO.q (.as (v := .int _ _) rfl) rfl rfl ?_
  refine WO.nil ?_
  refine WX.seq ?_
  refine WX.reg ?_
  refine WO.q (.bd (bd35_0_1 (cI rfl) (cI rfl))) rfl rfl ?_
  refine WO.md (MOp.bs (l := ([((3, 2) : Int × Int)] : List (Int × Int))) sl44 (RL.cons (Rp Ri Ri) RL.nil) (lb rfl) rfl rfl) rfl rfl ?_
  rintro v11 _ ⟨b9, o10, rfl⟩
  obtain ⟨_, _, _, _, _, rfl⟩ := o10.isl
  refine WO.q (.bd (bd86_0_2_3 (cI rfl) (cI rfl) (cL rfl))) rfl rfl ?_
  refine WO.md (MOp.alloc ti86 rfl) rfl rfl ?_
  rintro _ _ ⟨b13, rfl, rfl⟩
  refine WO.mn (MOp.storeW rfl (cA rfl) .h ti86 rfl rfl rfl) rfl ?_
  rintro _ _ rfl
  refine WO.nil ?_
  refine WX.seq ?_
  refine WX.reg ?_
  refine WO.q (.ldA (i := 4) rfl rfl rfl ti86 rfl) rfl rfl ?_
  obtain ⟨y14, hy14, h⟩ := Option.bind_eq_some_iff.1 h
  refine WO.cS rfl rfl (inode_Inode_Right_ok (a0 := ((2, 2, 0, [], ([] : List UInt8)) : Int × Int × Int × (List (Int × Int)) × (List UInt8))) (RSl.nil _ _) hy14) rfl rfl rfl ?_
  rintro _ rfl
  refine WO.q (.mv (v := .bool _) rfl) rfl rfl ?_
  rcases bsp y14 with k15 | k15
  · replace h := (if_pos k15).symm.trans h
    refine WO.q (.ldA (i := 4) rfl rfl rfl ti86 rfl) (wg rfl rfl (gt k15)) rfl ?_
    obtain ⟨y16, hy16, h⟩ := Option.bind_eq_some_iff.1 h
    refine WO.cS rfl rfl (inode_Inode_Text_ok (a0 := ((2, 2, 0, [], ([] : List UInt8)) : Int × Int × Int × (List (Int × Int)) × (List UInt8))) (RSl.nil _ _) hy16) rfl (wg rfl rfl (gt k15)) rfl ?_
    rintro _ rfl
    refine WO.q (.r fun _ => rfl) (wg rfl rfl (gt k15)) rfl ?_
    refine WO.q (.ptv (v := .bool _) rfl k15 rfl) rfl rfl ?_
    refine WO.q (.mv (v := .bool _) rfl) rfl rfl ?_
    rcases bsp (decide (y16 = ([1, 0, 2, 2, 0, 0, 0, 0, 0] : List UInt8))) with k17 | k17
    · have q_k17 := of_decide_eq_true k17
      replace h := (if_pos q_k17).symm.trans h
      refine WO.q (.mv (v := .int _ _) rfl) (wg rfl rfl (gt k17)) rfl ?_
      refine WO.q (.r fun _ => rfl) (wg rfl rfl (gt k17)) rfl ?_
      refine WO.q (.ptv (v := .bool _) rfl k17 rfl) rfl rfl ?_
      refine WO.q (.mv (v := .bool _) rfl) rfl rfl ?_
      rcases bsp (decide (y2.2.2 = 0)) with k18 | k18
      · have q_k18 := of_decide_eq_true k18
        replace h := (if_pos q_k18).symm.trans h
        refine WO.q (.mv (v := .int _ _) rfl) (wg rfl rfl (gt k18)) rfl ?_
        refine WO.q (.r fun _ => rfl) (wg rfl rfl (gt k18)) rfl ?_
        refine WO.q (.ptv (v := .bool _) rfl k18 rfl) rfl rfl ?_
        refine WO.q (.mv (v := .bool _) rfl) rfl rfl ?_
        rcases bsp (decide (y2.1 = 1)) with k19 | k19
        · have q_k19 := of_decide_eq_true k19
          replace h := (if_pos q_k19).symm.trans h
          refine WO.q (.ldA (i := 2) rfl rfl rfl ti86 rfl) (wg rfl rfl (gt k19)) rfl ?_
          refine WO.q (.ldA (i := 4) rfl rfl rfl ti86 rfl) (wg rfl rfl (gt k19)) rfl ?_
          obtain ⟨y20, hy20, h⟩ := Option.bind_eq_some_iff.1 h
          refine WO.cS rfl rfl (lendC (j := 3) h7 rfl fun _ K22 g21 => inode_Equal_ok (a1 := ((2, 2, 0, [], ([] : List UInt8)) : Int × Int × Int × (List (Int × Int)) × (List UInt8))) g21 (RSl.nil _ _) hy20) rfl (wg rfl rfl (gt k19)) rfl ?_
          rintro _ rfl
          refine WO.q (.ptv (v := .bool _) rfl k19 rfl) rfl rfl ?_
          refine WO.q (.mv (v := .bool _) rfl) rfl rfl ?_
          rcases bsp y20 with k23 | k23
          · replace h := (if_pos k23).symm.trans h
            refine WO.q (.ldA (i := 0) rfl rfl rfl ti86 rfl) (wg rfl rfl (gt k23)) rfl ?_
            obtain ⟨y24, hy24, h⟩ := Option.bind_eq_some_iff.1 h
            refine WO.cS rfl rfl (lendC (j := 1) o10 rfl fun _ K26 g25 => inode_Inode_Right_ok (a0 := ((1, 0, 65, [((3, 2) : Int × Int)], ([] : List UInt8)) : Int × Int × Int × (List (Int × Int)) × (List UInt8))) g25 hy24) rfl (wg rfl rfl (gt k23)) rfl ?_
            rintro _ rfl
            refine WO.q (.ptv (v := .bool _) rfl k23 rfl) rfl rfl ?_
            refine WO.q (.mv (v := .bool _) rfl) rfl rfl ?_
            rcases bsp y24 with k27 | k27
            · replace h := (if_pos k27).symm.trans h
              obtain ⟨y28, hy28, h⟩ := Option.bind_eq_some_iff.1 h
              refine WO.cS rfl rfl (inode_Need_ok hy28) rfl (wg rfl rfl (gt k27)) rfl ?_
              rintro _ rfl
              refine WO.q (.r fun _ => rfl) (wg rfl rfl (gt k27)) rfl ?_
              refine WO.q (.ptv (v := .bool _) rfl k27 rfl) rfl rfl ?_
              refine WO.q (.as (v := .bool _) rfl) rfl rfl ?_
              refine WO.nil ?_
              obtain rfl := Option.some.inj h
              exact WX.ret (rs_ (rs_tmp rfl rs_nil)) fun st hp => ⟨(hp.pk [] (by decide)).le hB, rfl⟩
            · replace h := (if_neg (bnt k27)).symm.trans h
              refine WO.sd (wg rfl rfl (gtn k27)) rfl ?_
              refine WO.sd (wg rfl rfl (gtn k27)) rfl ?_
              refine WO.q (.pfv (v := .bool _) rfl k27 rfl) rfl rfl ?_
              refine WO.q (.as (v := .bool _) rfl) rfl rfl ?_
              refine WO.nil ?_
              obtain rfl := Option.some.inj h
              exact WX.ret (rs_ (rs_tmp rfl rs_nil)) fun st hp => ⟨(hp.pk [] (by decide)).le hB, rfl⟩
          · replace h := (if_neg (bnt k23)).symm.trans h
            refine WO.sd (wg rfl rfl (gtn k23)) rfl ?_
            refine WO.sd (wg rfl rfl (gtn k23)) rfl ?_
            refine WO.q (.pfv (v := .bool _) rfl k23 rfl) rfl rfl ?_
            refine WO.q (.mv (v := .bool _) rfl) rfl rfl ?_
            refine WO.sd (wg rfl rfl (gtn rfl)) rfl ?_
            refine WO.sd (wg rfl rfl (gtn rfl)) rfl ?_
            refine WO.q (.pfv (v := .bool _) rfl rfl rfl) rfl rfl ?_
            refine WO.q (.as (v := .bool _) rfl) rfl rfl ?_
            refine WO.nil ?_
            obtain rfl := Option.some.inj h
            exact WX.ret (rs_ (rs_tmp rfl rs_nil)) fun st hp => ⟨(hp.pk [] (by decide)).le hB, rfl⟩
        · have q_k19 := of_decide_eq_false k19
          replace h := (if_neg q_k19).symm.trans h
          refine WO.sd (wg rfl rfl (gtn k19)) rfl ?_
          refine WO.sd (wg rfl rfl (gtn k19)) rfl ?_
          refine WO.sd (wg rfl rfl (gtn k19)) rfl ?_
          refine WO.q (.pfv (v := .bool _) rfl k19 rfl) rfl rfl ?_
          refine WO.q (.mv (v := .bool _) rfl) rfl rfl ?_
          refine WO.sd (wg rfl rfl (gtn rfl)) rfl ?_
          refine WO.sd (wg rfl rfl (gtn rfl)) rfl ?_
          refine WO.q (.pfv (v := .bool _) rfl rfl rfl) rfl rfl ?_
          refine WO.q (.mv (v := .bool _) rfl) rfl rfl ?_
          refine WO.sd (wg rfl rfl (gtn rfl)) rfl ?_
          refine WO.sd (wg rfl rfl (gtn rfl)) rfl ?_
          refine WO.q (.pfv (v := .bool _) rfl rfl rfl) rfl rfl ?_
          refine WO.q (.as (v := .bool _) rfl) rfl rfl ?_
          refine WO.nil ?_
          obtain rfl := Option.some.inj h
          exact WX.ret (rs_ (rs_tmp rfl rs_nil)) fun st hp => ⟨(hp.pk [] (by decide)).le hB, rfl⟩
      · have q_k18 := of_decide_eq_false k18
        replace h := (if_neg q_k18).symm.trans h
        refine WO.sd (wg rfl rfl (gtn k18)) rfl ?_
        refine WO.sd (wg rfl rfl (gtn k18)) rfl ?_
        refine WO.q (.pfv (v := .bool _) rfl k18 rfl) rfl rfl ?_
        refine WO.q (.mv (v := .bool _) rfl) rfl rfl ?_
        refine WO.sd (wg rfl rfl (gtn rfl)) rfl ?_
        refine WO.sd (wg rfl rfl (gtn rfl)) rfl ?_
        refine WO.sd (wg rfl rfl (gtn rfl)) rfl ?_
        refine WO.q (.pfv (v := .bool _) rfl rfl rfl) rfl rfl ?_
        refine WO.q (.mv (v := .bool _) rfl) rfl rfl ?_
        refine WO.sd (wg rfl rfl (gtn rfl)) rfl ?_
        refine WO.sd (wg rfl rfl (gtn rfl)) rfl ?_
        refine WO.q (.pfv (v := .bool _) rfl rfl rfl) rfl rfl ?_
        refine WO.q (.mv (v := .bool _) rfl) rfl rfl ?_
        refine WO.sd (wg rfl rfl (gtn rfl)) rfl ?_
        refine WO.sd (wg rfl rfl (gtn rfl)) rfl ?_
        refine WO.q (.pfv (v := .bool _) rfl rfl rfl) rfl rfl ?_
        refine WO.q (.as (v := .bool _) rfl) rfl rfl ?_
        refine WO.nil ?_
        obtain rfl := Option.some.inj h
        exact WX.ret (rs_ (rs_tmp rfl rs_nil)) fun st hp => ⟨(hp.pk [] (by decide)).le hB, rfl⟩
    · have q_k17 := of_decide_eq_false k17
      replace h := (if_neg q_k17).symm.trans h
      refine WO.sd (wg rfl rfl (gtn k17)) rfl ?_
      refine WO.sd (wg rfl rfl (gtn k17)) rfl ?_
      refine WO.q (.pfv (v := .bool _) rfl k17 rfl) rfl rfl ?_
      refine WO.q (.mv (v := .bool _) rfl) rfl rfl ?_
      refine WO.sd (wg rfl rfl (gtn rfl)) rfl ?_
      refine WO.sd (wg rfl rfl (gtn rfl)) rfl ?_
      refine WO.q (.pfv (v := .bool _) rfl rfl rfl) rfl rfl ?_
      refine WO.q (.mv (v := .bool _) rfl) rfl rfl ?_
      refine WO.sd (wg rfl rfl (gtn rfl)) rfl ?_
      refine WO.sd (wg rfl rfl (gtn rfl)) rfl ?_
      refine WO.sd (wg rfl rfl (gtn rfl)) rfl ?_
      refine WO.q (.pfv (v := .bool _) rfl rfl rfl) rfl rfl ?_
      refine WO.q (.mv (v := .bool _) rfl) rfl rfl ?_
      refine WO.sd (wg rfl rfl (gtn rfl)) rfl ?_
      refine WO.sd (wg rfl rfl (gtn rfl)) rfl ?_
      refine WO.q (.pfv (v := .bool _) rfl rfl rfl) rfl rfl ?_
      refine WO.q (.mv (v := .bool _) rfl) rfl rfl ?_
      refine WO.sd (wg rfl rfl (gtn rfl)) rfl ?_
      refine WO.sd (wg rfl rfl (gtn rfl)) rfl ?_
      refine WO.q (.pfv (v := .bool _) rfl rfl rfl) rfl rfl ?_
      refine WO.q (.as (v := .bool _) rfl) rfl rfl ?_
      refine WO.nil ?_
      obtain rfl := Option.some.inj h
      exact WX.ret (rs_ (rs_tmp rfl rs_nil)) fun st hp => ⟨(hp.pk [] (by decide)).le hB, rfl⟩
  · replace h := (if_neg (bnt k15)).symm.trans h
    refine WO.sd (wg rfl rfl (gtn k15)) rfl ?_
    refine WO.sd (wg rfl rfl (gtn k15)) rfl ?_
    refine WO.sd (wg rfl rfl (gtn k15)) rfl ?_
    refine WO.q (.pfv (v := .bool _) rfl k15 rfl) rfl rfl ?_
    refine WO.q (.mv (v := .bool _) rfl) rfl rfl ?_
    refine WO.sd (wg rfl rfl (gtn rfl)) rfl ?_
    refine WO.sd (wg rfl rfl (gtn rfl)) rfl ?_
    refine WO.q (.pfv (v := .bool _) rfl rfl rfl) rfl rfl ?_
    refine WO.q (.mv (v := .bool _) rfl) rfl rfl ?_
    refine WO.sd (wg rfl rfl (gtn rfl)) rfl ?_
    refine WO.sd (wg rfl rfl (gtn rfl)) rfl ?_
    refine WO.q (.pfv (v := .bool _) rfl rfl rfl) rfl rfl ?_
    refine WO.q (.mv (v := .bool _) rfl) rfl rfl ?_
    refine WO.sd (wg rfl rfl (gtn rfl)) rfl ?_
    refine WO.sd (wg rfl rfl (gtn rfl)) rfl ?_
    refine WO.sd (wg rfl rfl (gtn rfl)) rfl ?_
    refine WO.q (.pfv (v := .bool _) rfl rfl rfl) rfl rfl ?_
    refine WO.q (.mv (v := .bool _) rfl) rfl rfl ?_
    refine WO.sd (wg rfl rfl (gtn rfl)) rfl ?_
    refine WO.sd (wg rfl rfl (gtn rfl)) rfl ?_
    refine WO.q (.pfv (v := .bool _) rfl rfl rfl) rfl rfl ?_
    refine WO.q (.mv (v := .bool _) rfl) rfl rfl ?_
    refine WO.sd (wg rfl rfl (gtn rfl)) rfl ?_
    refine WO.sd (wg rfl rfl (gtn rfl)) rfl ?_
    refine WO.q (.pfv (v := .bool _) rfl rfl rfl) rfl rfl ?_
    refine WO.q (.as (v := .bool _) rfl) rfl rfl ?_
    refine WO.nil ?_
    obtain rfl := Option.some.inj h
    exact WX.ret (rs_ (rs_tmp rfl rs_nil)) fun st hp => ⟨(hp.pk [] (by decide)).le hB, rfl⟩
end Gab
