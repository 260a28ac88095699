/- The Go code comes to what the Lean functions say. Written by a program (gp.py). -/
import Derived.Test.YtdkldojcpncnhaaFd
import Derived.Test.YtdkldojcpncnhaaTy
import Derived.Test.YtdkldojcpncnhaaFpInode0
import Derived.Test.YtdkldojcpncnhaaFpLaw160
import Derived.Test.YtdkldojcpncnhaaFpRef160
set_option linter.unusedSimpArgs false
set_option linter.unusedVariables false
set_option maxHeartbeats 4000000
set_option maxRecDepth 100000
namespace Gab
open Go Go.Proofs
def gabionlaw16_InodeRight_P (B : Kn) (L : Own) (r : Bool) : AV → St → Prop := CS B L fun v => v = .bool r
def gabionlaw16_InodeRight_j7_I (B0 : Kn) (x1 : Int) (x13 : List (Int × Int × Int × (List (Int × Int)) × (List UInt8))) (x15 : Int) (x48 : Bool) (zb2 : Int × Int × Int × (List (Int × Int)) × (List UInt8)) : Fr → Kn → Own → Prop := fun fr B A => KLe B0 B ∧ ∃ b46 v47 v48, RSl EPIi64Ii64Q B v47 zb2.2.2.2.1 ∧ RSl EPIu8Ii64Ii64LPIi64Ii64QStQ B v48 x13 ∧ fr = [(1, .int .i64 x1), (2, .ptr b46 0), (13, v48), (14, .int .i64 (x13.length : Int)), (15, .int .i64 x15), (48, .bool x48)] ∧ A = [(b46, some [.int .u8 zb2.1, .int .i64 zb2.2.1, .int .i64 zb2.2.2.1, v47, .str zb2.2.2.2.2])]
def gabionlaw16_InodeRight_l0_I (B0 : Kn) (x1 : Int) (x13 : List (Int × Int × Int × (List (Int × Int)) × (List UInt8))) (zb2 : Int × Int × Int × (List (Int × Int)) × (List UInt8)) (x15 : Int) : Fr → Kn → Own → Prop := fun fr B A => KLe B0 B ∧ ∃ b17 v18 v19, RSl EPIi64Ii64Q B v18 zb2.2.2.2.1 ∧ RSl EPIu8Ii64Ii64LPIi64Ii64QStQ B v19 x13 ∧ fr = [(1, .int .i64 x1), (2, .ptr b17 0), (13, v19), (14, .int .i64 (x13.length : Int)), (15, .int .i64 x15)] ∧ A = [(b17, some [.int .u8 zb2.1, .int .i64 zb2.2.1, .int .i64 zb2.2.2.1, v18, .str zb2.2.2.2.2])]
def gabionlaw16_InodeRight_l0_X0 (B0 : Kn) (x1 : Int) (zb2 : Int × Int × Int × (List (Int × Int)) × (List UInt8)) : Fr → Kn → Own → Prop := fun fr B A => KLe B0 B ∧ ∃ b75 v76, RSl EPIi64Ii64Q B v76 zb2.2.2.2.1 ∧ fr = [(1, .int .i64 x1), (2, .ptr b75 0)] ∧ A = [(b75, some [.int .u8 zb2.1, .int .i64 zb2.2.1, .int .i64 zb2.2.2.1, v76, .str zb2.2.2.2.2])]
theorem gabionlaw16_InodeRight_j7_ok {B0 : Kn} {L : Own} {n0 : Nat} {x1 : Int} {x13 : List (Int × Int × Int × (List (Int × Int)) × (List UInt8))} {x15 : Int} {x48 : Bool} {zb2 : Int × Int × Int × (List (Int × Int)) × (List UInt8)} {Q : AV → St → Prop} {E : Int ⊕ (Bool ⊕ Unit) → Prop} {o : Int ⊕ (Bool ⊕ Unit)} (h : gabionlaw16_InodeRight_j7 x1 x13 x15 x48 zb2 = some o) (hn : ∀ s, E (.inl s) → WXI Try.prog 72 n0 (Fin Try.prog Try.f11.results.toList n0 Q) [.lp (ct [1, 0, 1, 0, 0] (bodyOf Try.f11)), .blk 0, .code (ct [1, 1] (bodyOf Try.f11))] (gabionlaw16_InodeRight_l0_I B0 x1 x13 zb2 s) L) (hx0 : ∀ s, E (.inr (.inr s)) → WXI Try.prog 72 n0 (Fin Try.prog Try.f11.results.toList n0 Q) [.code (ct [1, 1] (bodyOf Try.f11))] (gabionlaw16_InodeRight_l0_X0 B0 x1 zb2) L) (hr : ∀ r, E (.inr (.inl r)) → ∀ v st, gabionlaw16_InodeRight_P B0 L r v st → Q v st) (hE : E o) : WXI Try.prog 72 n0 (Fin Try.prog Try.f11.results.toList n0 Q) [.code (ct [1, 0, 1, 0, 0, 1, 1, 0, 0, 1, 1, 1, 1] (bodyOf Try.f11)), .blk 1, .code (ct [1, 0, 1, 0, 0, 1, 1, 1] (bodyOf Try.f11)), .lp (ct [1, 0, 1, 0, 0] (bodyOf Try.f11)), .blk 0, .code (ct [1, 1] (bodyOf Try.f11))] (gabionlaw16_InodeRight_j7_I B0 x1 x13 x15 x48 zb2) L := by
  unfold gabionlaw16_InodeRight_j7 at h
  rintro _ B _ ⟨hB, b46, v47, v48, h47, h48, rfl, rfl⟩
  obtain ⟨_, _, _, _, _, rfl⟩ := h47.isl
  obtain ⟨_, _, _, _, _, rfl⟩ := h48.isl
  rcases bsp x48 with k49 | k49
  · replace h := (if_pos k49).symm.trans h
    refine WX.condT rfl k49 ?_
    refine WX.seq ?_
    refine WX.reg ?_
    refine WO.q (.as (v := .bool _) rfl) rfl rfl ?_
    refine WO.nil ?_
    obtain rfl := Option.some.inj h
    exact WX.ret (rs_ (rs_tmp rfl rs_nil)) fun st hp => hr _ hE _ _ ⟨(hp.pk [] (by decide)).le hB, rfl⟩
  · replace h := (if_neg (bnt k49)).symm.trans h
    refine WX.condF rfl k49 ?_
    refine WX.skip ?_
    refine WX.pop ?_
    refine WX.reg ?_
    refine WO.q (.r fun _ => rfl) rfl rfl ?_
    refine WO.q (.mv (v := .int _ _) rfl) rfl rfl ?_
    refine WO.nil ?_
    refine WX.keepL [1, 2, 13, 14, 15] (WX.pk [0] (by decide) ?_) rfl
    obtain rfl := Option.some.inj h
    exact hn _ hE _ _ _ ⟨hB, _, _, _, h47, h48, rfl, rfl⟩
theorem gabionlaw16_InodeRight_l0_s {B0 : Kn} {L : Own} {n0 : Nat} {x1 : Int} {x13 : List (Int × Int × Int × (List (Int × Int)) × (List UInt8))} {zb2 : Int × Int × Int × (List (Int × Int)) × (List UInt8)} {x15 : Int} {Q : AV → St → Prop} {E : Int ⊕ (Bool ⊕ Unit) → Prop} {o : Int ⊕ (Bool ⊕ Unit)} (h : gabionlaw16_InodeRight_l0 x1 x13 zb2 x15 = some o) (hn : ∀ s, E (.inl s) → WXI Try.prog 72 n0 (Fin Try.prog Try.f11.results.toList n0 Q) [.lp (ct [1, 0, 1, 0, 0] (bodyOf Try.f11)), .blk 0, .code (ct [1, 1] (bodyOf Try.f11))] (gabionlaw16_InodeRight_l0_I B0 x1 x13 zb2 s) L) (hx0 : ∀ s, E (.inr (.inr s)) → WXI Try.prog 72 n0 (Fin Try.prog Try.f11.results.toList n0 Q) [.code (ct [1, 1] (bodyOf Try.f11))] (gabionlaw16_InodeRight_l0_X0 B0 x1 zb2) L) (hr : ∀ r, E (.inr (.inl r)) → ∀ v st, gabionlaw16_InodeRight_P B0 L r v st → Q v st) (hE : E o) : WXI Try.prog 72 n0 (Fin Try.prog Try.f11.results.toList n0 Q) [.code (ct [1, 0, 1, 0, 0] (bodyOf Try.f11)), .lp (ct [1, 0, 1, 0, 0] (bodyOf Try.f11)), .blk 0, .code (ct [1, 1] (bodyOf Try.f11))] (gabionlaw16_InodeRight_l0_I B0 x1 x13 zb2 x15) L := by
  unfold gabionlaw16_InodeRight_l0 at h
  rintro _ B _ ⟨hB, b17, v18, v19, h18, h19, rfl, rfl⟩
  obtain ⟨_, _, _, _, _, rfl⟩ := h18.isl
  obtain ⟨_, _, _, _, _, rfl⟩ := h19.isl
  refine WX.seq ?_
  refine WX.reg ?_
  refine WO.q (.r fun _ => rfl) rfl rfl ?_
  refine WO.nil ?_
  refine WX.seq ?_
  rcases bsp (decide (x15 < (x13.length : Int))) with k20 | k20
  · have q_k20 := of_decide_eq_true k20
    replace h := (if_pos q_k20).symm.trans h
    refine WX.condT rfl k20 ?_
    refine WX.skip ?_
    refine WX.seq ?_
    refine WX.block ?_
    refine WX.seq ?_
    refine WX.reg ?_
    obtain ⟨y21, hy21, h⟩ := Option.bind_eq_some_iff.1 h
    obtain ⟨b_y21, o_y21, _, i_y21, p_y21, r_y21⟩ := h19.at sl83 hy21 .i64
    obtain ⟨_, _, rfl, rfl, ⟨_, _, rfl, rfl, ⟨_, _, rfl, rfl, ⟨_, _, rfl, ⟨w22, rfl, hw22⟩, rfl⟩⟩⟩⟩ := r_y21
    obtain ⟨_, _, _, _, _, rfl⟩ := hw22.isl
    refine WO.q (.ia i_y21) rfl rfl ?_
    refine WO.q (.lpA rfl p_y21 ti81 rfl rfl) rfl rfl ?_
    refine WO.md (MOp.alloc ti81 rfl) rfl rfl ?_
    rintro _ _ ⟨b23, rfl, rfl⟩
    refine WO.mn (MOp.storeW rfl (cA rfl) .h ti81 rfl rfl rfl) rfl ?_
    rintro _ _ rfl
    refine WO.nil ?_
    refine WX.seq ?_
    refine WX.reg ?_
    refine WO.q (.ldA (i := 0) rfl rfl rfl ti81 rfl) rfl rfl ?_
    obtain ⟨y24, hy24, h⟩ := Option.bind_eq_some_iff.1 h
    refine WO.c1 rfl rfl (gabionlaw16_of_ok hw22 hy24) rfl rfl rfl ?_
    rintro _ B _ hK ⟨v25, b26, n27, c28, rfl, rfl, h29⟩
    obtain ⟨_, _, _, _, _, rfl⟩ := h29.isl
    replace h19 := h19.up hK
    replace hw22 := hw22.up hK
    replace h18 := h18.up hK
    replace hB := hB.trans hK
    refine WO.md (MOp.alloc ti86 rfl) rfl rfl ?_
    rintro _ _ ⟨b30, rfl, rfl⟩
    refine WO.mn (MOp.storeW rfl (cA rfl) .h ti86 rfl rfl rfl) rfl ?_
    rintro _ _ rfl
    refine WO.nil ?_
    refine WX.seq ?_
    refine WX.reg ?_
    refine WO.q (.ldA (i := 2) rfl rfl rfl ti81 rfl) rfl rfl ?_
    refine WO.md (MOp.alloc ti88 rfl) rfl rfl ?_
    rintro _ _ ⟨b31, rfl, rfl⟩
    refine WO.mn (MOp.storeW rfl (cA rfl) .h ti88 rfl rfl rfl) rfl ?_
    rintro _ _ rfl
    refine WO.nil ?_
    refine WX.seq ?_
    refine WX.drw (Plan.of [0, 2, 1, 3, 4, 5, 6, 7, 9, 10, 8, 11, 12, 13, 14, 15, 16, 17, 18, 20, 21, 22, 23, 19, 24, 25, 26] .nil) _ mixed (by kernel_rfl) rfl (pk_sub [0, 1, 2, 3, 4]) ?_
    refine WP.q (i := 0) rfl (.ldA (i := 1) rfl rfl rfl ti86 rfl) rfl rfl rfl ?_
    refine WP.q (i := 2) rfl (.ldA (i := 0) rfl rfl rfl ti88 rfl) rfl rfl rfl ?_
    obtain ⟨y32, hy32, h⟩ := Option.bind_eq_some_iff.1 h
    refine WP.cS (i := 1) rfl rfl rfl (lendC (j := 2) h29 rfl fun _ K34 g33 => inode_Inode_Right_ok g33 hy32) rfl rfl rfl ?_
    rintro _ rfl
    obtain ⟨y35, hy35, h⟩ := Option.bind_eq_some_iff.1 h
    refine WP.cS (i := 3) rfl rfl rfl (gabionref16_Right_ok hw22 hy35) rfl rfl rfl ?_
    rintro _ rfl
    refine WP.q (i := 4) rfl (.bin (evboolneq ti4 rfl)) rfl rfl rfl ?_
    refine WP.q (i := 5) rfl (.mv (v := .bool _) rfl) rfl rfl rfl ?_
    rcases bsp (decide (y32 = y35)) with k36 | k36
    · have q_k36 := of_decide_eq_true k36
      replace h := (if_pos q_k36).symm.trans h
      refine WP.q (i := 6) rfl (.ldA (i := 1) rfl rfl rfl ti86 rfl) rfl (wg rfl rfl (gf (f_not k36))) rfl ?_
      refine WP.q (i := 7) rfl (.mv (v := .int _ _) rfl) rfl (wg rfl rfl (gf (f_not k36))) rfl ?_
      refine WP.q (i := 9) rfl (.ldA (i := 0) rfl rfl rfl ti88 rfl) rfl (wg rfl rfl (gf (f_not k36))) rfl ?_
      refine WP.q (i := 10) rfl (.mv (v := .int _ _) rfl) rfl (wg rfl rfl (gf (f_not k36))) rfl ?_
      obtain ⟨y37, hy37, h⟩ := Option.bind_eq_some_iff.1 h
      refine WP.cS (i := 8) rfl rfl rfl (lendC (j := 2) h29 rfl fun _ K39 g38 => inode_Inode_Text_ok g38 hy37) rfl (wg rfl rfl (gf (f_not k36))) rfl ?_
      rintro _ rfl
      obtain ⟨y40, hy40, h⟩ := Option.bind_eq_some_iff.1 h
      refine WP.cS (i := 11) rfl rfl rfl (gabionref16_Text_ok hw22 hy40) rfl (wg rfl rfl (gf (f_not k36))) rfl ?_
      rintro _ rfl
      refine WP.q (i := 12) rfl (.r fun _ => rfl) rfl (wg rfl rfl (gf (f_not k36))) rfl ?_
      refine WP.q (i := 13) rfl (.pfv (v := .bool _) rfl (f_not k36) rfl) rfl rfl rfl ?_
      refine WP.q (i := 14) rfl (.mv (v := .bool _) rfl) rfl rfl rfl ?_
      rcases bsp (decide (y37 = y40)) with k41 | k41
      · have q_k41 := of_decide_eq_true k41
        replace h := (if_pos q_k41).symm.trans h
        refine WP.q (i := 15) rfl (.ldA (i := 1) rfl rfl rfl ti86 rfl) rfl (wg rfl rfl (gf (f_not k41))) rfl ?_
        refine WP.q (i := 16) rfl (.mv (v := .int _ _) rfl) rfl (wg rfl rfl (gf (f_not k41))) rfl ?_
        refine WP.q (i := 17) rfl (.r fun _ => rfl) rfl (wg rfl rfl (gf (f_not k41))) rfl ?_
        refine WP.q (i := 18) rfl (.r fun _ => rfl) rfl (wg rfl rfl (gf (f_not k41))) rfl ?_
        refine WP.q (i := 20) rfl (.ldA (i := 0) rfl rfl rfl ti88 rfl) rfl (wg rfl rfl (gf (f_not k41))) rfl ?_
        refine WP.q (i := 21) rfl (.mv (v := .int _ _) rfl) rfl (wg rfl rfl (gf (f_not k41))) rfl ?_
        refine WP.q (i := 22) rfl (.r fun _ => rfl) rfl (wg rfl rfl (gf (f_not k41))) rfl ?_
        refine WP.q (i := 23) rfl (.r fun _ => rfl) rfl (wg rfl rfl (gf (f_not k41))) rfl ?_
        obtain ⟨y42, hy42, h⟩ := Option.bind_eq_some_iff.1 h
        refine WP.cS (i := 19) rfl rfl rfl (lendC (j := 2) h29 rfl fun _ K44 g43 => inode_Inode_Text_ok g43 hy42) rfl (wg rfl rfl (gf (f_not k41))) rfl ?_
        rintro _ rfl
        obtain ⟨y45, hy45, h⟩ := Option.bind_eq_some_iff.1 h
        refine WP.cS (i := 24) rfl rfl rfl (gabionref16_Text_ok hw22 hy45) rfl (wg rfl rfl (gf (f_not k41))) rfl ?_
        rintro _ rfl
        refine WP.q (i := 25) rfl (.r fun _ => rfl) rfl (wg rfl rfl (gf (f_not k41))) rfl ?_
        refine WP.q (i := 26) rfl (.pfv (v := .bool _) rfl (f_not k41) rfl) rfl rfl rfl ?_
        refine WP.nil ?_
        refine WX.keep [1, 2, 13, 14, 15, 48] (WX.pk [4] (by decide) ?_) rfl
        exact gabionlaw16_InodeRight_j7_ok h hn hx0 hr hE _ _ _ ⟨hB, _, _, _, h18, h19, rfl, rfl⟩
      · have q_k41 := of_decide_eq_false k41
        replace h := (if_neg q_k41).symm.trans h
        refine WP.sk (i := 15) rfl rfl (wg rfl rfl (gfn (t_not k41))) rfl ?_
        refine WP.sk (i := 16) rfl rfl (wg rfl rfl (gfn (t_not k41))) rfl ?_
        refine WP.sk (i := 17) rfl rfl (wg rfl rfl (gfn (t_not k41))) rfl ?_
        refine WP.sk (i := 18) rfl rfl (wg rfl rfl (gfn (t_not k41))) rfl ?_
        refine WP.sk (i := 20) rfl rfl (wg rfl rfl (gfn (t_not k41))) rfl ?_
        refine WP.sk (i := 21) rfl rfl (wg rfl rfl (gfn (t_not k41))) rfl ?_
        refine WP.sk (i := 22) rfl rfl (wg rfl rfl (gfn (t_not k41))) rfl ?_
        refine WP.sk (i := 23) rfl rfl (wg rfl rfl (gfn (t_not k41))) rfl ?_
        refine WP.sd (i := 19) rfl rfl (wg rfl rfl (gfn (t_not k41))) rfl ?_
        refine WP.sd (i := 24) rfl rfl (wg rfl rfl (gfn (t_not k41))) rfl ?_
        refine WP.sk (i := 25) rfl rfl (wg rfl rfl (gfn (t_not k41))) rfl ?_
        refine WP.q (i := 26) rfl (.ptv (v := .bool _) rfl (t_not k41) rfl) rfl rfl rfl ?_
        refine WP.nil ?_
        refine WX.keep [1, 2, 13, 14, 15, 48] (WX.pk [4] (by decide) ?_) rfl
        exact gabionlaw16_InodeRight_j7_ok h hn hx0 hr hE _ _ _ ⟨hB, _, _, _, h18, h19, rfl, rfl⟩
    · have q_k36 := of_decide_eq_false k36
      replace h := (if_neg q_k36).symm.trans h
      refine WP.sk (i := 6) rfl rfl (wg rfl rfl (gfn (t_not k36))) rfl ?_
      refine WP.sk (i := 7) rfl rfl (wg rfl rfl (gfn (t_not k36))) rfl ?_
      refine WP.sk (i := 9) rfl rfl (wg rfl rfl (gfn (t_not k36))) rfl ?_
      refine WP.sk (i := 10) rfl rfl (wg rfl rfl (gfn (t_not k36))) rfl ?_
      refine WP.sd (i := 8) rfl rfl (wg rfl rfl (gfn (t_not k36))) rfl ?_
      refine WP.sd (i := 11) rfl rfl (wg rfl rfl (gfn (t_not k36))) rfl ?_
      refine WP.sk (i := 12) rfl rfl (wg rfl rfl (gfn (t_not k36))) rfl ?_
      refine WP.q (i := 13) rfl (.ptv (v := .bool _) rfl (t_not k36) rfl) rfl rfl rfl ?_
      refine WP.q (i := 14) rfl (.mv (v := .bool _) rfl) rfl rfl rfl ?_
      refine WP.sk (i := 15) rfl rfl (wg rfl rfl (gfn rfl)) rfl ?_
      refine WP.sk (i := 16) rfl rfl (wg rfl rfl (gfn rfl)) rfl ?_
      refine WP.sk (i := 17) rfl rfl (wg rfl rfl (gfn rfl)) rfl ?_
      refine WP.sk (i := 18) rfl rfl (wg rfl rfl (gfn rfl)) rfl ?_
      refine WP.sk (i := 20) rfl rfl (wg rfl rfl (gfn rfl)) rfl ?_
      refine WP.sk (i := 21) rfl rfl (wg rfl rfl (gfn rfl)) rfl ?_
      refine WP.sk (i := 22) rfl rfl (wg rfl rfl (gfn rfl)) rfl ?_
      refine WP.sk (i := 23) rfl rfl (wg rfl rfl (gfn rfl)) rfl ?_
      refine WP.sd (i := 19) rfl rfl (wg rfl rfl (gfn rfl)) rfl ?_
      refine WP.sd (i := 24) rfl rfl (wg rfl rfl (gfn rfl)) rfl ?_
      refine WP.sk (i := 25) rfl rfl (wg rfl rfl (gfn rfl)) rfl ?_
      refine WP.q (i := 26) rfl (.ptv (v := .bool _) rfl rfl rfl) rfl rfl rfl ?_
      refine WP.nil ?_
      refine WX.keep [1, 2, 13, 14, 15, 48] (WX.pk [4] (by decide) ?_) rfl
      exact gabionlaw16_InodeRight_j7_ok h hn hx0 hr hE _ _ _ ⟨hB, _, _, _, h18, h19, rfl, rfl⟩
  · have q_k20 := of_decide_eq_false k20
    replace h := (if_neg q_k20).symm.trans h
    refine WX.condF rfl k20 ?_
    refine WX.exit rfl ?_
    refine WX.keep [1, 2] (WX.pk [0] (by decide) ?_) rfl
    obtain rfl := Option.some.inj h
    exact hx0 _ hE _ _ _ ⟨hB, _, _, h18, rfl, rfl⟩
theorem gabionlaw16_InodeRight_l0_ok {B0 : Kn} {L : Own} {n0 : Nat} {x1 : Int} {x13 : List (Int × Int × Int × (List (Int × Int)) × (List UInt8))} {zb2 : Int × Int × Int × (List (Int × Int)) × (List UInt8)} {x15 : Int} {Q : AV → St → Prop} {d : Nat} {e : Bool ⊕ Unit} (h : iter (fun (s : Int) => gabionlaw16_InodeRight_l0 x1 x13 zb2 s) d x15 = some e) (g0 : ∀ r, e = (.inl r) → ∀ v st, gabionlaw16_InodeRight_P B0 L r v st → Q v st) (g1 : ∀ s, e = (.inr s) → WXI Try.prog 72 n0 (Fin Try.prog Try.f11.results.toList n0 Q) [.code (ct [1, 1] (bodyOf Try.f11))] (gabionlaw16_InodeRight_l0_X0 B0 x1 zb2) L) : WXI Try.prog 72 n0 (Fin Try.prog Try.f11.results.toList n0 Q) [.code (ct [1, 0, 1, 0, 0] (bodyOf Try.f11)), .lp (ct [1, 0, 1, 0, 0] (bodyOf Try.f11)), .blk 0, .code (ct [1, 1] (bodyOf Try.f11))] (gabionlaw16_InodeRight_l0_I B0 x1 x13 zb2 x15) L :=
  iter_ok (I := fun s => gabionlaw16_InodeRight_l0_I B0 x1 x13 zb2 s) (D := fun e => (∀ r, e = (.inl r) → ∀ v st, gabionlaw16_InodeRight_P B0 L r v st → Q v st) ∧ (∀ s, e = (.inr s) → WXI Try.prog 72 n0 (Fin Try.prog Try.f11.results.toList n0 Q) [.code (ct [1, 1] (bodyOf Try.f11))] (gabionlaw16_InodeRight_l0_X0 B0 x1 zb2) L)) (fun E hn hx s o ho hE => gabionlaw16_InodeRight_l0_s ho hn (fun s hs => (hx _ hs).2 _ rfl) (fun r hs => (hx _ hs).1 _ rfl) hE) h ⟨g0, g1⟩
theorem gabionlaw16_InodeRight_ok {B0 : Kn} {L : Own} {a0 : Int × Int × Int × (List (Int × Int)) × (List UInt8)} {a1 : Int} {v0_0 : AV} {r : Bool} (g0_0 : RSl EPIi64Ii64Q B0 v0_0 a0.2.2.2.1) (h : gabionlaw16_InodeRight a0 a1 = some r) : ∀ st, Hp B0 L st → ASpec Try.prog 11 [.agg [.int .u8 a0.1, .int .i64 a0.2.1, .int .i64 a0.2.2.1, v0_0, .str a0.2.2.2.2], .int .i64 a1] st (gabionlaw16_InodeRight_P B0 L r) := by
  unfold gabionlaw16_InodeRight at h
  refine bodyA (A := []) Try.func11 rfl (c := bodyOf Try.f11) rfl Try.ntmps11 (lb rfl) fun n0 => ?_
  have hB := KLe.refl B0
  obtain ⟨_, _, _, _, _, rfl⟩ := g0_0.isl
  refine WX.seq ?_
  refine WX.reg ?_
  refine WO.md (MOp.box (cA rfl)) rfl rfl ?_
  rintro _ _ ⟨b1, rfl, rfl⟩
  refine WO.q (.as (v := .bool _) rfl) rfl rfl ?_
  refine WO.nil ?_
  refine WX.seq ?_
  refine WX.seq ?_
  refine WX.drw (Plan.of [0, 2, 6, 1, 3, 4, 5] .nil) _ mixed (by kernel_rfl) rfl (pk_sub [0]) ?_
  refine WP.q (i := 0) rfl (.ldA (i := 0) rfl rfl rfl ti81 rfl) rfl rfl rfl ?_
  refine WP.q (i := 2) rfl (.ldA (i := 0) rfl rfl rfl ti81 rfl) rfl rfl rfl ?_
  refine WP.q (i := 6) rfl (.mv (v := .int _ _) rfl) rfl rfl rfl ?_
  obtain ⟨y2, hy2, h⟩ := Option.bind_eq_some_iff.1 h
  refine WP.c0 (i := 1) rfl rfl rfl (gabionlaw16_cut_ok g0_0 hy2) rfl rfl rfl ?_
  rintro _ B hK ⟨v3, rfl, h4⟩
  obtain ⟨_, _, _, _, _, rfl⟩ := h4.isl
  replace g0_0 := g0_0.up hK
  replace hB := hB.trans hK
  obtain ⟨y5, hy5, h⟩ := Option.bind_eq_some_iff.1 h
  refine WP.c1 (i := 3) rfl rfl rfl (gabionlaw16_tame_ok g0_0 hy5) rfl rfl rfl ?_
  rintro _ B _ hK ⟨v6, b7, n8, c9, rfl, rfl, h10⟩
  obtain ⟨_, _, _, _, _, rfl⟩ := h10.isl
  replace g0_0 := g0_0.up hK
  replace h4 := h4.up hK
  replace hB := hB.trans hK
  refine WP.fz (j := 0) h10 rfl (fun e he => pk_in (jx := [0]) rfl e he) ?_
  intro B hK g11
  replace g0_0 := g0_0.up hK
  replace h4 := h4.up hK
  replace hB := hB.trans hK
  refine WP.md (i := 4) rfl (MOp.bs (l := ([y2, y5] : List (Int × Int × Int × (List (Int × Int)) × (List UInt8)))) sl83 (RL.cons (Rp Ri (Rp Ri (Rp Ri (Rp (Rl h4) Rs)))) (RL.cons (Rp Ri (Rp Ri (Rp Ri (Rp (Rl g11) Rs)))) RL.nil)) (lb rfl) rfl rfl) rfl rfl rfl ?_
  rintro v14 _ ⟨b12, o13, rfl⟩
  obtain ⟨_, _, _, _, _, rfl⟩ := o13.isl
  refine ⟨fun e he _ => pk_in (jx := [1]) rfl e he, ?_⟩
  refine WP.q (i := 5) rfl (.len rfl rfl rfl (sl83.len o13.isl)) rfl rfl rfl ?_
  refine WP.nil ?_
  refine WX.block ?_
  refine WX.loop ?_
  obtain ⟨e52, he52, h⟩ := Option.bind_eq_some_iff.1 h
  refine WX.fz (j := 0) o13 rfl ?_
  intro B hK g16
  replace g0_0 := g0_0.up hK
  replace hB := hB.trans hK
  refine WX.keep [1, 2, 13, 14, 15] (WX.pk [0] (by decide) ?_) rfl
  refine gabionlaw16_InodeRight_l0_ok he52 ?_ ?_ _ _ _ ⟨hB, _, _, _, g0_0, g16, rfl, rfl⟩
  · intro r54 he_
    subst he_
    replace h := (on_l h)
    obtain rfl := Option.some.inj h
    exact fun v st hp => hp
  · intro x55 he_
    subst he_
    replace h := (on_r h)
    rintro _ B _ ⟨hB, b56, v57, h57, rfl, rfl⟩
    obtain ⟨_, _, _, _, _, rfl⟩ := h57.isl
    refine WX.seq ?_
    refine WX.drw (Plan.of [0, 1, 2, 3, 4, 5, 6, 7, 8, 10, 11, 9, 12, 13, 14, 15, 16, 18, 17, 19, 20, 21, 22] .nil) _ mixed (by kernel_rfl) rfl (pk_sub [0]) ?_
    obtain ⟨y58, hy58, h⟩ := Option.bind_eq_some_iff.1 h
    refine WP.cS (i := 0) rfl rfl rfl (gabionlaw16_wakes_ok hy58) rfl rfl rfl ?_
    rintro _ rfl
    refine WP.q (i := 1) rfl (.mv (v := .bool _) rfl) rfl rfl rfl ?_
    rcases bsp y58 with k59 | k59
    · replace h := (if_pos k59).symm.trans h
      refine WP.q (i := 2) rfl (.ldA (i := 0) rfl rfl rfl ti81 rfl) rfl (wg rfl rfl (gt k59)) rfl ?_
      obtain ⟨y60, hy60, h⟩ := Option.bind_eq_some_iff.1 h
      refine WP.c1 (i := 3) rfl rfl rfl (gabionlaw16_tame_ok h57 hy60) rfl (wg rfl rfl (gt k59)) rfl ?_
      rintro _ B _ hK ⟨v61, b62, n63, c64, rfl, rfl, h65⟩
      obtain ⟨_, _, _, _, _, rfl⟩ := h65.isl
      replace h57 := h57.up hK
      replace hB := hB.trans hK
      obtain ⟨y66, hy66, h⟩ := Option.bind_eq_some_iff.1 h
      refine WP.cS (i := 4) rfl rfl rfl (lendC (j := 0) h65 rfl fun _ K68 g67 => gabionref16_Right_ok g67 hy66) rfl (wg rfl rfl (gt k59)) rfl ?_
      rintro _ rfl
      refine WP.q (i := 5) rfl (.ptv (v := .bool _) rfl k59 rfl) rfl rfl rfl ?_
      refine WP.q (i := 6) rfl (.mv (v := .bool _) rfl) rfl rfl rfl ?_
      rcases bsp y66 with k69 | k69
      · replace h := (if_pos k69).symm.trans h
        refine WP.q (i := 7) rfl (.fa (fa81_2 _ _)) rfl (wg rfl rfl (gt k69)) rfl ?_
        refine WP.q (i := 8) rfl (.ldS (i := 0) rfl rfl rfl ti3 rfl) rfl (wg rfl rfl (gt k69)) rfl ?_
        refine WP.q (i := 10) rfl (.fa (fa81_2 _ _)) rfl (wg rfl rfl (gt k69)) rfl ?_
        refine WP.q (i := 11) rfl (.ldS (i := 0) rfl rfl rfl ti3 rfl) rfl (wg rfl rfl (gt k69)) rfl ?_
        obtain ⟨y70, hy70, h⟩ := Option.bind_eq_some_iff.1 h
        refine WP.cS (i := 9) rfl rfl rfl (inode_Need_ok hy70) rfl (wg rfl rfl (gt k69)) rfl ?_
        rintro _ rfl
        obtain ⟨y71, hy71, h⟩ := Option.bind_eq_some_iff.1 h
        refine WP.cS (i := 12) rfl rfl rfl (gabionref16_Need_ok hy71) rfl (wg rfl rfl (gt k69)) rfl ?_
        rintro _ rfl
        refine WP.q (i := 13) rfl (.r fun _ => rfl) rfl (wg rfl rfl (gt k69)) rfl ?_
        refine WP.q (i := 14) rfl (.ptv (v := .bool _) rfl k69 rfl) rfl rfl rfl ?_
        refine WP.q (i := 15) rfl (.mv (v := .bool _) rfl) rfl rfl rfl ?_
        rcases bsp (decide (y70 = y71)) with k72 | k72
        · have q_k72 := of_decide_eq_true k72
          replace h := (if_pos q_k72).symm.trans h
          refine WP.q (i := 16) rfl (.mv (v := .int _ _) rfl) rfl (wg rfl rfl (gt k72)) rfl ?_
          refine WP.q (i := 18) rfl (.mv (v := .int _ _) rfl) rfl (wg rfl rfl (gt k72)) rfl ?_
          obtain ⟨y73, hy73, h⟩ := Option.bind_eq_some_iff.1 h
          refine WP.cS (i := 17) rfl rfl rfl (inode_Need_ok hy73) rfl (wg rfl rfl (gt k72)) rfl ?_
          rintro _ rfl
          obtain ⟨y74, hy74, h⟩ := Option.bind_eq_some_iff.1 h
          refine WP.cS (i := 19) rfl rfl rfl (gabionref16_Need_ok hy74) rfl (wg rfl rfl (gt k72)) rfl ?_
          rintro _ rfl
          refine WP.q (i := 20) rfl (.r fun _ => rfl) rfl (wg rfl rfl (gt k72)) rfl ?_
          refine WP.q (i := 21) rfl (.ptv (v := .bool _) rfl k72 rfl) rfl rfl rfl ?_
          refine WP.q (i := 22) rfl (.as (v := .bool _) rfl) rfl rfl rfl ?_
          refine WP.nil ?_
          obtain rfl := Option.some.inj h
          exact WX.ret (rs_ (rs_tmp rfl rs_nil)) fun st hp => ⟨(hp.pk [] (by decide)).le hB, rfl⟩
        · have q_k72 := of_decide_eq_false k72
          replace h := (if_neg q_k72).symm.trans h
          refine WP.sk (i := 16) rfl rfl (wg rfl rfl (gtn k72)) rfl ?_
          refine WP.sk (i := 18) rfl rfl (wg rfl rfl (gtn k72)) rfl ?_
          refine WP.sd (i := 17) rfl rfl (wg rfl rfl (gtn k72)) rfl ?_
          refine WP.sd (i := 19) rfl rfl (wg rfl rfl (gtn k72)) rfl ?_
          refine WP.sk (i := 20) rfl rfl (wg rfl rfl (gtn k72)) rfl ?_
          refine WP.q (i := 21) rfl (.pfv (v := .bool _) rfl k72 rfl) rfl rfl rfl ?_
          refine WP.q (i := 22) rfl (.as (v := .bool _) rfl) rfl rfl rfl ?_
          refine WP.nil ?_
          obtain rfl := Option.some.inj h
          exact WX.ret (rs_ (rs_tmp rfl rs_nil)) fun st hp => ⟨(hp.pk [] (by decide)).le hB, rfl⟩
      · replace h := (if_neg (bnt k69)).symm.trans h
        refine WP.sk (i := 7) rfl rfl (wg rfl rfl (gtn k69)) rfl ?_
        refine WP.sk (i := 8) rfl rfl (wg rfl rfl (gtn k69)) rfl ?_
        refine WP.sk (i := 10) rfl rfl (wg rfl rfl (gtn k69)) rfl ?_
        refine WP.sk (i := 11) rfl rfl (wg rfl rfl (gtn k69)) rfl ?_
        refine WP.sd (i := 9) rfl rfl (wg rfl rfl (gtn k69)) rfl ?_
        refine WP.sd (i := 12) rfl rfl (wg rfl rfl (gtn k69)) rfl ?_
        refine WP.sk (i := 13) rfl rfl (wg rfl rfl (gtn k69)) rfl ?_
        refine WP.q (i := 14) rfl (.pfv (v := .bool _) rfl k69 rfl) rfl rfl rfl ?_
        refine WP.q (i := 15) rfl (.mv (v := .bool _) rfl) rfl rfl rfl ?_
        refine WP.sk (i := 16) rfl rfl (wg rfl rfl (gtn rfl)) rfl ?_
        refine WP.sk (i := 18) rfl rfl (wg rfl rfl (gtn rfl)) rfl ?_
        refine WP.sd (i := 17) rfl rfl (wg rfl rfl (gtn rfl)) rfl ?_
        refine WP.sd (i := 19) rfl rfl (wg rfl rfl (gtn rfl)) rfl ?_
        refine WP.sk (i := 20) rfl rfl (wg rfl rfl (gtn rfl)) rfl ?_
        refine WP.q (i := 21) rfl (.pfv (v := .bool _) rfl rfl rfl) rfl rfl rfl ?_
        refine WP.q (i := 22) rfl (.as (v := .bool _) rfl) rfl rfl rfl ?_
        refine WP.nil ?_
        obtain rfl := Option.some.inj h
        exact WX.ret (rs_ (rs_tmp rfl rs_nil)) fun st hp => ⟨(hp.pk [] (by decide)).le hB, rfl⟩
    · replace h := (if_neg (bnt k59)).symm.trans h
      refine WP.sk (i := 2) rfl rfl (wg rfl rfl (gtn k59)) rfl ?_
      refine WP.sd (i := 3) rfl rfl (wg rfl rfl (gtn k59)) rfl ?_
      refine WP.sd (i := 4) rfl rfl (wg rfl rfl (gtn k59)) rfl ?_
      refine WP.q (i := 5) rfl (.pfv (v := .bool _) rfl k59 rfl) rfl rfl rfl ?_
      refine WP.q (i := 6) rfl (.mv (v := .bool _) rfl) rfl rfl rfl ?_
      refine WP.sk (i := 7) rfl rfl (wg rfl rfl (gtn rfl)) rfl ?_
      refine WP.sk (i := 8) rfl rfl (wg rfl rfl (gtn rfl)) rfl ?_
      refine WP.sk (i := 10) rfl rfl (wg rfl rfl (gtn rfl)) rfl ?_
      refine WP.sk (i := 11) rfl rfl (wg rfl rfl (gtn rfl)) rfl ?_
      refine WP.sd (i := 9) rfl rfl (wg rfl rfl (gtn rfl)) rfl ?_
      refine WP.sd (i := 12) rfl rfl (wg rfl rfl (gtn rfl)) rfl ?_
      refine WP.sk (i := 13) rfl rfl (wg rfl rfl (gtn rfl)) rfl ?_
      refine WP.q (i := 14) rfl (.pfv (v := .bool _) rfl rfl rfl) rfl rfl rfl ?_
      refine WP.q (i := 15) rfl (.mv (v := .bool _) rfl) rfl rfl rfl ?_
      refine WP.sk (i := 16) rfl rfl (wg rfl rfl (gtn rfl)) rfl ?_
      refine WP.sk (i := 18) rfl rfl (wg rfl rfl (gtn rfl)) rfl ?_
      refine WP.sd (i := 17) rfl rfl (wg rfl rfl (gtn rfl)) rfl ?_
      refine WP.sd (i := 19) rfl rfl (wg rfl rfl (gtn rfl)) rfl ?_
      refine WP.sk (i := 20) rfl rfl (wg rfl rfl (gtn rfl)) rfl ?_
      refine WP.q (i := 21) rfl (.pfv (v := .bool _) rfl rfl rfl) rfl rfl rfl ?_
      refine WP.q (i := 22) rfl (.as (v := .bool _) rfl) rfl rfl rfl ?_
      refine WP.nil ?_
      obtain rfl := Option.some.inj h
      exact WX.ret (rs_ (rs_tmp rfl rs_nil)) fun st hp => ⟨(hp.pk [] (by decide)).le hB, rfl⟩
end Gab
