/- The Go code comes to what the Lean functions say. Written by a program (gp.py). -/
import Derived.Test.YtdkldojcpncnhaaFd
import Derived.Test.YtdkldojcpncnhaaFp4
set_option linter.unusedSimpArgs false
set_option linter.unusedVariables false
set_option maxHeartbeats 4000000
set_option maxRecDepth 100000
namespace Gab
open Go Go.Proofs
def gabionlaw14_AllocAll_P (B : Kn) (L : Own) (r : Bool) : AV → St → Prop := CS B L fun v => v = .bool r
def gabionlaw14_AllocAll_j10_I (B0 : Kn) (x32 : List Int) (x34 : Int) (zb3 : Int × (List (Int × Int))) : Fr → Kn → Own → Prop := fun fr B A => KLe B0 B ∧ ∃ b30 v31 v32, RSl EPIi64Ii64Q B v31 zb3.2 ∧ RSl (Ty.int .u8) B v32 x32 ∧ fr = [(3, .ptr b30 0), (32, v32), (33, .int .i64 (x32.length : Int)), (34, .int .i64 x34)] ∧ A = [(b30, some [.int .i64 zb3.1, v31])]
def gabionlaw14_AllocAll_l0_I (B0 : Kn) (x32 : List Int) (x34 : Int) (zb3 : Int × (List (Int × Int))) : Fr → Kn → Own → Prop := fun fr B A => KLe B0 B ∧ ∃ b16 v17 v18, RSl EPIi64Ii64Q B v17 zb3.2 ∧ RSl (Ty.int .u8) B v18 x32 ∧ fr = [(3, .ptr b16 0), (32, v18), (33, .int .i64 (x32.length : Int)), (34, .int .i64 x34)] ∧ A = [(b16, some [.int .i64 zb3.1, v17])]
def gabionlaw14_AllocAll_l0_X0 (B0 : Kn) (zb3 : Int × (List (Int × Int))) : Fr → Kn → Own → Prop := fun fr B A => KLe B0 B ∧ ∃ b80 v81, RSl EPIi64Ii64Q B v81 zb3.2 ∧ fr = [(3, .ptr b80 0)] ∧ A = [(b80, some [.int .i64 zb3.1, v81])]
def gabionlaw14_AllocAll_l1_I (B0 : Kn) (x10 : List (Int × Int)) (x15 : List (Int × Int)) (x97 : Int) : Fr → Kn → Own → Prop := fun fr B A => KLe B0 B ∧ ∃ v67 b67 n67 c67 v68, OSl EPIi64Ii64Q B v67 b67 n67 c67 x10 ∧ RSl EPIi64Ii64Q B v68 x15 ∧ fr = [(10, v67), (15, v68), (96, .int .i64 (x10.length : Int)), (97, .int .i64 x97)] ∧ A = [oe b67 n67 c67]
def gabionlaw14_AllocAll_l1_X0 (B0 : Kn) : Fr → Kn → Own → Prop := fun fr B A => KLe B0 B ∧ fr = [] ∧ A = []
def gabionlaw14_AllocAll_j20_I (B0 : Kn) (x10 : List (Int × Int)) (x15 : List (Int × Int)) (x94 : Bool) : Fr → Kn → Own → Prop := fun fr B A => KLe B0 B ∧ ∃ v64 b64 n64 c64 v65, OSl EPIi64Ii64Q B v64 b64 n64 c64 x10 ∧ RSl EPIi64Ii64Q B v65 x15 ∧ fr = [(10, v64), (15, v65), (94, .bool x94)] ∧ A = [oe b64 n64 c64]
def gabionlaw14_AllocAll_j15_I (B0 : Kn) (x9 : Int) (x10 : List (Int × Int)) (x69 : Bool) (zb3 : Int × (List (Int × Int))) : Fr → Kn → Own → Prop := fun fr B A => KLe B0 B ∧ ∃ b52 v53 v54 b54 n54 c54, RSl EPIi64Ii64Q B v53 zb3.2 ∧ OSl EPIi64Ii64Q B v54 b54 n54 c54 x10 ∧ fr = [(3, .ptr b52 0), (9, .int .i64 x9), (10, v54), (69, .bool x69)] ∧ A = [(b52, some [.int .i64 zb3.1, v53]), oe b54 n54 c54]
def gabionlaw14_AllocAll_j2_I (B0 : Kn) (x0 : List Int) (x27 : Bool) (zb3 : Int × (List (Int × Int))) : Fr → Kn → Own → Prop := fun fr B A => KLe B0 B ∧ ∃ b10 v11 b11 n11 c11 v12, OSl EPIi64Ii64Q B v11 b11 n11 c11 zb3.2 ∧ RSl (Ty.int .u8) B v12 x0 ∧ fr = [(0, v12), (3, .ptr b10 0), (27, .bool x27)] ∧ A = [(b10, some [.int .i64 zb3.1, v11]), oe b11 n11 c11]
theorem gabionlaw14_AllocAll_j10_ok {B0 : Kn} {L : Own} {n0 : Nat} {x32 : List Int} {x34 : Int} {zb3 : Int × (List (Int × Int))} {Q : AV → St → Prop} {E : (Int × (Int × (List (Int × Int)))) ⊕ (Int × (List (Int × Int))) → Prop} {o : (Int × (Int × (List (Int × Int)))) ⊕ (Int × (List (Int × Int)))} (h : gabionlaw14_AllocAll_j10 x32 x34 zb3 = some o) (hn : ∀ s, E (.inl s) → WXI Try.prog 110 n0 (Fin Try.prog Try.f4.results.toList n0 Q) [.lp (ct [1, 1, 1, 0, 1, 0, 0] (bodyOf Try.f4)), .blk 0, .code (ct [1, 1, 1, 1] (bodyOf Try.f4))] (gabionlaw14_AllocAll_l0_I B0 x32 s.1 s.2) L) (hx0 : ∀ s, E (.inr s) → WXI Try.prog 110 n0 (Fin Try.prog Try.f4.results.toList n0 Q) [.code (ct [1, 1, 1, 1] (bodyOf Try.f4))] (gabionlaw14_AllocAll_l0_X0 B0 s) L) (hE : E o) : WXI Try.prog 110 n0 (Fin Try.prog Try.f4.results.toList n0 Q) [.code (ct [1, 1, 1, 0, 1, 0, 0, 1, 1, 1] (bodyOf Try.f4)), .lp (ct [1, 1, 1, 0, 1, 0, 0] (bodyOf Try.f4)), .blk 0, .code (ct [1, 1, 1, 1] (bodyOf Try.f4))] (gabionlaw14_AllocAll_j10_I B0 x32 x34 zb3) L := by
  unfold gabionlaw14_AllocAll_j10 at h
  rintro _ B _ ⟨hB, b30, v31, v32, h31, h32, rfl, rfl⟩
  obtain ⟨_, _, _, _, _, rfl⟩ := h31.isl
  obtain ⟨_, _, _, _, _, rfl⟩ := h32.isl
  refine WX.reg ?_
  refine WO.q (.r fun _ => rfl) rfl rfl ?_
  refine WO.q (.mv (v := .int _ _) rfl) rfl rfl ?_
  refine WO.nil ?_
  refine WX.keepL [3, 32, 33, 34] (WX.pk [0] (by decide) ?_) rfl
  obtain rfl := Option.some.inj h
  exact hn _ hE _ _ _ ⟨hB, _, _, _, h31, h32, rfl, rfl⟩
theorem gabionlaw14_AllocAll_l0_s {B0 : Kn} {L : Own} {n0 : Nat} {x32 : List Int} {x34 : Int} {zb3 : Int × (List (Int × Int))} {Q : AV → St → Prop} {E : (Int × (Int × (List (Int × Int)))) ⊕ (Int × (List (Int × Int))) → Prop} {o : (Int × (Int × (List (Int × Int)))) ⊕ (Int × (List (Int × Int)))} (h : gabionlaw14_AllocAll_l0 x32 x34 zb3 = some o) (hn : ∀ s, E (.inl s) → WXI Try.prog 110 n0 (Fin Try.prog Try.f4.results.toList n0 Q) [.lp (ct [1, 1, 1, 0, 1, 0, 0] (bodyOf Try.f4)), .blk 0, .code (ct [1, 1, 1, 1] (bodyOf Try.f4))] (gabionlaw14_AllocAll_l0_I B0 x32 s.1 s.2) L) (hx0 : ∀ s, E (.inr s) → WXI Try.prog 110 n0 (Fin Try.prog Try.f4.results.toList n0 Q) [.code (ct [1, 1, 1, 1] (bodyOf Try.f4))] (gabionlaw14_AllocAll_l0_X0 B0 s) L) (hE : E o) : WXI Try.prog 110 n0 (Fin Try.prog Try.f4.results.toList n0 Q) [.code (ct [1, 1, 1, 0, 1, 0, 0] (bodyOf Try.f4)), .lp (ct [1, 1, 1, 0, 1, 0, 0] (bodyOf Try.f4)), .blk 0, .code (ct [1, 1, 1, 1] (bodyOf Try.f4))] (gabionlaw14_AllocAll_l0_I B0 x32 x34 zb3) L := by
  unfold gabionlaw14_AllocAll_l0 at h
  rintro _ B _ ⟨hB, b16, v17, v18, h17, h18, rfl, rfl⟩
  obtain ⟨_, _, _, _, _, rfl⟩ := h17.isl
  obtain ⟨_, _, _, _, _, rfl⟩ := h18.isl
  refine WX.seq ?_
  refine WX.reg ?_
  refine WO.q (.r fun _ => rfl) rfl rfl ?_
  refine WO.nil ?_
  refine WX.seq ?_
  rcases bsp (decide (x34 < (x32.length : Int))) with k19 | k19
  · have q_k19 := of_decide_eq_true k19
    replace h := (if_pos q_k19).symm.trans h
    refine WX.condT rfl k19 ?_
    refine WX.skip ?_
    refine WX.seq ?_
    refine WX.block ?_
    refine WX.seq ?_
    refine WX.reg ?_
    obtain ⟨y20, hy20, h⟩ := Option.bind_eq_some_iff.1 h
    obtain ⟨b_y20, o_y20, _, i_y20, p_y20, r_y20⟩ := h18.at sl32 hy20 .i64
    obtain rfl := r_y20
    refine WO.q (.ia i_y20) rfl rfl ?_
    refine WO.q (.lp0 rfl p_y20 rfl ti5 rfl) rfl rfl ?_
    refine WO.q (.as (v := .int _ _) rfl) rfl rfl ?_
    refine WO.nil ?_
    refine WX.seq ?_
    refine WX.reg ?_
    refine WO.q (.ldA (i := 0) rfl rfl rfl ti25 rfl) rfl rfl ?_
    refine WO.q (.mv (v := .int _ _) rfl) rfl rfl ?_
    refine WO.q (.r fun _ => rfl) rfl rfl ?_
    refine WO.q (cvI ti5 ti3 rfl rfl) rfl rfl ?_
    refine WO.q (.bd (bd35_0_1 (cI rfl) (cI rfl))) rfl rfl ?_
    obtain ⟨y21, hy21, h⟩ := Option.bind_eq_some_iff.1 h
    refine WO.c1 rfl rfl (alloc_Set_Use_ok h17 hy21) rfl rfl rfl ?_
    rintro _ B _ hK ⟨v22, b23, n24, c25, rfl, rfl, h26⟩
    obtain ⟨_, _, _, _, _, rfl⟩ := h26.isl
    replace h18 := h18.up hK
    replace h17 := h17.up hK
    replace hB := hB.trans hK
    refine WO.q (.mv (v := .tup _) rfl) rfl rfl ?_
    refine WO.q (.r fun _ => rfl) rfl rfl ?_
    refine WO.q (.r fun _ => rfl) rfl rfl ?_
    refine WO.md (MOp.alloc ti25 rfl) rfl rfl ?_
    rintro _ _ ⟨b27, rfl, rfl⟩
    refine WO.mn (MOp.storeW rfl (cA rfl) .h ti25 rfl rfl rfl) rfl ?_
    rintro _ _ rfl
    refine WO.q (.as (v := .int _ _) rfl) rfl rfl ?_
    refine WO.nil ?_
    refine WX.seq ?_
    refine WX.reg ?_
    refine WO.q (.mv (v := .int _ _) rfl) rfl rfl ?_
    refine WO.q (.r fun _ => rfl) rfl rfl ?_
    refine WO.nil ?_
    rcases bsp (decide (y21.2 = 0)) with k28 | k28
    · have q_k28 := of_decide_eq_true k28
      replace h := (if_pos q_k28).symm.trans h
      refine WX.condT rfl k28 ?_
      refine WX.reg ?_
      refine WO.q (.ldA (i := 0) rfl rfl rfl ti25 rfl) rfl rfl ?_
      refine WO.mn (MOp.storeW rfl (cA rfl) (.t (.t .h)) ti25 rfl rfl rfl) rfl ?_
      rintro _ _ rfl
      refine WO.nil ?_
      refine WX.pop ?_
      refine WX.fz (j := 1) h26 rfl ?_
      intro B hK g29
      replace h18 := h18.up hK
      replace hB := hB.trans hK
      refine WX.keep [3, 32, 33, 34] (WX.pk [1] (by decide) ?_) rfl
      exact gabionlaw14_AllocAll_j10_ok h hn hx0 hE _ _ _ ⟨hB, _, _, _, g29, h18, rfl, rfl⟩
    · have q_k28 := of_decide_eq_false k28
      replace h := (if_neg q_k28).symm.trans h
      refine WX.condF rfl k28 ?_
      refine WX.skip ?_
      refine WX.pop ?_
      refine WX.keep [3, 32, 33, 34] (WX.pk [2] (by decide) ?_) rfl
      exact gabionlaw14_AllocAll_j10_ok h hn hx0 hE _ _ _ ⟨hB, _, _, _, h17, h18, rfl, rfl⟩
  · have q_k19 := of_decide_eq_false k19
    replace h := (if_neg q_k19).symm.trans h
    refine WX.condF rfl k19 ?_
    refine WX.exit rfl ?_
    refine WX.keep [3] (WX.pk [0] (by decide) ?_) rfl
    obtain rfl := Option.some.inj h
    exact hx0 _ hE _ _ _ ⟨hB, _, _, h17, rfl, rfl⟩
theorem gabionlaw14_AllocAll_l0_ok {B0 : Kn} {L : Own} {n0 : Nat} {x32 : List Int} {x34 : Int} {zb3 : Int × (List (Int × Int))} {Q : AV → St → Prop} {d : Nat} {e : (Int × (List (Int × Int)))} (h : iter (fun (s : Int × (Int × (List (Int × Int)))) => gabionlaw14_AllocAll_l0 x32 s.1 s.2) d (x34, zb3) = some e) (g0 : ∀ s, e = s → WXI Try.prog 110 n0 (Fin Try.prog Try.f4.results.toList n0 Q) [.code (ct [1, 1, 1, 1] (bodyOf Try.f4))] (gabionlaw14_AllocAll_l0_X0 B0 s) L) : WXI Try.prog 110 n0 (Fin Try.prog Try.f4.results.toList n0 Q) [.code (ct [1, 1, 1, 0, 1, 0, 0] (bodyOf Try.f4)), .lp (ct [1, 1, 1, 0, 1, 0, 0] (bodyOf Try.f4)), .blk 0, .code (ct [1, 1, 1, 1] (bodyOf Try.f4))] (gabionlaw14_AllocAll_l0_I B0 x32 x34 zb3) L :=
  iter_ok (I := fun s => gabionlaw14_AllocAll_l0_I B0 x32 s.1 s.2) (D := fun e => (∀ s, e = s → WXI Try.prog 110 n0 (Fin Try.prog Try.f4.results.toList n0 Q) [.code (ct [1, 1, 1, 1] (bodyOf Try.f4))] (gabionlaw14_AllocAll_l0_X0 B0 s) L)) (fun E hn hx s o ho hE => gabionlaw14_AllocAll_l0_s ho hn (fun s hs => (hx _ hs) _ rfl)  hE) h g0
theorem gabionlaw14_AllocAll_l1_s {B0 : Kn} {L : Own} {n0 : Nat} {x10 : List (Int × Int)} {x15 : List (Int × Int)} {x97 : Int} {Q : AV → St → Prop} {E : Int ⊕ (Bool ⊕ Unit) → Prop} {o : Int ⊕ (Bool ⊕ Unit)} (h : gabionlaw14_AllocAll_l1 x10 x15 x97 = some o) (hn : ∀ s, E (.inl s) → WXI Try.prog 110 n0 (Fin Try.prog Try.f4.results.toList n0 Q) [.lp (ct [1, 1, 1, 1, 1, 1, 1, 1, 1, 1, 0, 1, 0, 0] (bodyOf Try.f4)), .blk 2, .code (ct [1, 1, 1, 1, 1, 1, 1, 1, 1, 1, 1] (bodyOf Try.f4))] (gabionlaw14_AllocAll_l1_I B0 x10 x15 s) L) (hx0 : ∀ s, E (.inr (.inr s)) → WXI Try.prog 110 n0 (Fin Try.prog Try.f4.results.toList n0 Q) [.code (ct [1, 1, 1, 1, 1, 1, 1, 1, 1, 1, 1] (bodyOf Try.f4))] (gabionlaw14_AllocAll_l1_X0 B0) L) (hr : ∀ r, E (.inr (.inl r)) → ∀ v st, gabionlaw14_AllocAll_P B0 L r v st → Q v st) (hE : E o) : WXI Try.prog 110 n0 (Fin Try.prog Try.f4.results.toList n0 Q) [.code (ct [1, 1, 1, 1, 1, 1, 1, 1, 1, 1, 0, 1, 0, 0] (bodyOf Try.f4)), .lp (ct [1, 1, 1, 1, 1, 1, 1, 1, 1, 1, 0, 1, 0, 0] (bodyOf Try.f4)), .blk 2, .code (ct [1, 1, 1, 1, 1, 1, 1, 1, 1, 1, 1] (bodyOf Try.f4))] (gabionlaw14_AllocAll_l1_I B0 x10 x15 x97) L := by
  unfold gabionlaw14_AllocAll_l1 at h
  rintro _ B _ ⟨hB, v67, b67, n67, c67, v68, h67, h68, rfl, rfl⟩
  obtain ⟨_, _, _, _, _, rfl⟩ := h67.isl
  obtain ⟨_, _, _, _, _, rfl⟩ := h68.isl
  refine WX.seq ?_
  refine WX.reg ?_
  refine WO.q (.r fun _ => rfl) rfl rfl ?_
  refine WO.nil ?_
  refine WX.seq ?_
  rcases bsp (decide (x97 < (x10.length : Int))) with k69 | k69
  · have q_k69 := of_decide_eq_true k69
    replace h := (if_pos q_k69).symm.trans h
    refine WX.condT rfl k69 ?_
    refine WX.skip ?_
    refine WX.seq ?_
    refine WX.block ?_
    refine WX.seq ?_
    refine WX.reg ?_
    refine WO.q (.mv (v := .int _ _) rfl) rfl rfl ?_
    refine WO.q (.as (v := .int _ _) rfl) rfl rfl ?_
    refine WO.nil ?_
    refine WX.seq ?_
    refine WX.drw [0, 1, 2, 3, 4, 5, 6, 7, 8] _ mixed (by kernel_rfl) rfl (pk_sub [0]) ?_
    refine WP.q (i := 0) rfl (.mv (v := .sl _ _ _ _ _ _) rfl) rfl rfl rfl ?_
    refine WP.q (i := 1) rfl (.mv (v := .int _ _) rfl) rfl rfl rfl ?_
    obtain ⟨y70, hy70, h⟩ := Option.bind_eq_some_iff.1 h
    obtain ⟨b_y70, o_y70, _, i_y70, p_y70, r_y70⟩ := h68.at sl23 hy70 .i64
    obtain ⟨_, _, rfl, rfl, rfl⟩ := r_y70
    refine WP.q (i := 2) rfl (.ia i_y70) rfl rfl rfl ?_
    refine WP.q (i := 3) rfl (.lpA rfl p_y70 ti35 rfl rfl) rfl rfl rfl ?_
    refine WP.q (i := 4) rfl (.mv (v := .sl _ _ _ _ _ _) rfl) rfl rfl rfl ?_
    refine WP.q (i := 5) rfl (.mv (v := .int _ _) rfl) rfl rfl rfl ?_
    obtain ⟨y71, hy71, h⟩ := Option.bind_eq_some_iff.1 h
    obtain rfl := h67.nonnil hy71
    obtain ⟨_, i_y71, l_y71, r_y71⟩ := h67.at sl23 hy71 .i64
    obtain ⟨_, _, rfl, rfl, rfl⟩ := r_y71
    refine WP.q (i := 6) rfl (.ia i_y71) rfl rfl rfl ?_
    refine WP.q (i := 7) rfl (.leA (i := 0) rfl rfl l_y71 ti35 rfl rfl) rfl rfl rfl ?_
    refine WP.q (i := 8) rfl (.bin (neq35 _ _ _ _)) rfl rfl rfl ?_
    refine WP.nil ?_
    rcases bsp (decide (y70.1 = y71.1) && (decide (y70.2 = y71.2) && true)) with k72 | k72
    · replace h := (if_pos k72).symm.trans h
      refine WX.condF rfl (f_not k72) ?_
      refine WX.skip ?_
      refine WX.pop ?_
      refine WX.reg ?_
      refine WO.q (.r fun _ => rfl) rfl rfl ?_
      refine WO.q (.mv (v := .int _ _) rfl) rfl rfl ?_
      refine WO.nil ?_
      refine WX.keepL [10, 15, 96, 97] (WX.pk [0] (by decide) ?_) rfl
      obtain rfl := Option.some.inj h
      exact hn _ hE _ _ _ ⟨hB, _, _, false, _, _, h67, h68, rfl, rfl⟩
    · replace h := (if_neg (bnt k72)).symm.trans h
      refine WX.condT rfl (t_not k72) ?_
      refine WX.seq ?_
      refine WX.reg ?_
      refine WO.q (.as (v := .bool _) rfl) rfl rfl ?_
      refine WO.nil ?_
      obtain rfl := Option.some.inj h
      exact WX.ret (rs_ (rs_tmp rfl rs_nil)) fun st hp => hr _ hE _ _ ⟨(hp.pk [] (by decide)).le hB, rfl⟩
  · have q_k69 := of_decide_eq_false k69
    replace h := (if_neg q_k69).symm.trans h
    refine WX.condF rfl k69 ?_
    refine WX.exit rfl ?_
    refine WX.keep [] (WX.pk [] (by decide) ?_) rfl
    obtain rfl := Option.some.inj h
    exact hx0 _ hE _ _ _ ⟨hB, rfl, rfl⟩
theorem gabionlaw14_AllocAll_l1_ok {B0 : Kn} {L : Own} {n0 : Nat} {x10 : List (Int × Int)} {x15 : List (Int × Int)} {x97 : Int} {Q : AV → St → Prop} {d : Nat} {e : Bool ⊕ Unit} (h : iter (fun (s : Int) => gabionlaw14_AllocAll_l1 x10 x15 s) d x97 = some e) (g0 : ∀ r, e = (.inl r) → ∀ v st, gabionlaw14_AllocAll_P B0 L r v st → Q v st) (g1 : ∀ s, e = (.inr s) → WXI Try.prog 110 n0 (Fin Try.prog Try.f4.results.toList n0 Q) [.code (ct [1, 1, 1, 1, 1, 1, 1, 1, 1, 1, 1] (bodyOf Try.f4))] (gabionlaw14_AllocAll_l1_X0 B0) L) : WXI Try.prog 110 n0 (Fin Try.prog Try.f4.results.toList n0 Q) [.code (ct [1, 1, 1, 1, 1, 1, 1, 1, 1, 1, 0, 1, 0, 0] (bodyOf Try.f4)), .lp (ct [1, 1, 1, 1, 1, 1, 1, 1, 1, 1, 0, 1, 0, 0] (bodyOf Try.f4)), .blk 2, .code (ct [1, 1, 1, 1, 1, 1, 1, 1, 1, 1, 1] (bodyOf Try.f4))] (gabionlaw14_AllocAll_l1_I B0 x10 x15 x97) L :=
  iter_ok (I := fun s => gabionlaw14_AllocAll_l1_I B0 x10 x15 s) (D := fun e => (∀ r, e = (.inl r) → ∀ v st, gabionlaw14_AllocAll_P B0 L r v st → Q v st) ∧ (∀ s, e = (.inr s) → WXI Try.prog 110 n0 (Fin Try.prog Try.f4.results.toList n0 Q) [.code (ct [1, 1, 1, 1, 1, 1, 1, 1, 1, 1, 1] (bodyOf Try.f4))] (gabionlaw14_AllocAll_l1_X0 B0) L)) (fun E hn hx s o ho hE => gabionlaw14_AllocAll_l1_s ho hn (fun s hs => (hx _ hs).2 _ rfl) (fun r hs => (hx _ hs).1 _ rfl) hE) h ⟨g0, g1⟩
theorem gabionlaw14_AllocAll_j20_ok {B0 : Kn} {L : Own} {n0 : Nat} {x10 : List (Int × Int)} {x15 : List (Int × Int)} {x94 : Bool} {r : Bool} (h : gabionlaw14_AllocAll_j20 x10 x15 x94 = some r) : WXI Try.prog 110 n0 (Fin Try.prog Try.f4.results.toList n0 (gabionlaw14_AllocAll_P B0 L r)) [.code (ct [1, 1, 1, 1, 1, 1, 1, 1, 1, 0, 1] (bodyOf Try.f4)), .code (ct [1, 1, 1, 1, 1, 1, 1, 1, 1, 1] (bodyOf Try.f4))] (gabionlaw14_AllocAll_j20_I B0 x10 x15 x94) L := by
  unfold gabionlaw14_AllocAll_j20 at h
  rintro _ B _ ⟨hB, v64, b64, n64, c64, v65, h64, h65, rfl, rfl⟩
  obtain ⟨_, _, _, _, _, rfl⟩ := h64.isl
  obtain ⟨_, _, _, _, _, rfl⟩ := h65.isl
  rcases bsp x94 with k66 | k66
  · replace h := (if_pos k66).symm.trans h
    refine WX.condT rfl k66 ?_
    refine WX.seq ?_
    refine WX.reg ?_
    refine WO.q (.as (v := .bool _) rfl) rfl rfl ?_
    refine WO.nil ?_
    obtain rfl := Option.some.inj h
    exact WX.ret (rs_ (rs_tmp rfl rs_nil)) fun st hp => ⟨(hp.pk [] (by decide)).le hB, rfl⟩
  · replace h := (if_neg (bnt k66)).symm.trans h
    refine WX.condF rfl k66 ?_
    refine WX.skip ?_
    refine WX.seq ?_
    refine WX.seq ?_
    refine WX.reg ?_
    refine WO.q (.mv (v := .sl _ _ _ _ _ _) rfl) rfl rfl ?_
    refine WO.q (.len rfl rfl rfl (sl23.len h64.isl)) rfl rfl ?_
    refine WO.q (.mv (v := .int _ _) rfl) rfl rfl ?_
    refine WO.nil ?_
    refine WX.block ?_
    refine WX.loop ?_
    obtain ⟨e73, he73, h⟩ := Option.bind_eq_some_iff.1 h
    refine WX.keep [10, 15, 96, 97] (WX.pk [0] (by decide) ?_) rfl
    refine gabionlaw14_AllocAll_l1_ok he73 ?_ ?_ _ _ _ ⟨hB, _, _, n64, _, _, h64, h65, rfl, rfl⟩
    · intro r75 he_
      subst he_
      replace h := (on_l h)
      obtain rfl := Option.some.inj h
      exact fun v st hp => hp
    · intro x76 he_
      subst he_
      replace h := (on_r h)
      rintro _ B _ ⟨hB, rfl, rfl⟩
      refine WX.seq ?_
      refine WX.reg ?_
      refine WO.q (.as (v := .bool _) rfl) rfl rfl ?_
      refine WO.nil ?_
      obtain rfl := Option.some.inj h
      exact WX.ret (rs_ (rs_tmp rfl rs_nil)) fun st hp => ⟨(hp.pk [] (by decide)).le hB, rfl⟩
theorem gabionlaw14_AllocAll_j15_ok {B0 : Kn} {L : Own} {n0 : Nat} {x9 : Int} {x10 : List (Int × Int)} {x69 : Bool} {zb3 : Int × (List (Int × Int))} {r : Bool} (h : gabionlaw14_AllocAll_j15 x9 x10 x69 zb3 = some r) : WXI Try.prog 110 n0 (Fin Try.prog Try.f4.results.toList n0 (gabionlaw14_AllocAll_P B0 L r)) [.code (ct [1, 1, 1, 1, 1, 1, 0, 1, 1] (bodyOf Try.f4)), .code (ct [1, 1, 1, 1, 1, 1, 1] (bodyOf Try.f4))] (gabionlaw14_AllocAll_j15_I B0 x9 x10 x69 zb3) L := by
  unfold gabionlaw14_AllocAll_j15 at h
  rintro _ B _ ⟨hB, b52, v53, v54, b54, n54, c54, h53, h54, rfl, rfl⟩
  obtain ⟨_, _, _, _, _, rfl⟩ := h53.isl
  obtain ⟨_, _, _, _, _, rfl⟩ := h54.isl
  rcases bsp x69 with k55 | k55
  · replace h := (if_pos k55).symm.trans h
    refine WX.condT rfl k55 ?_
    refine WX.seq ?_
    refine WX.reg ?_
    refine WO.q (.as (v := .bool _) rfl) rfl rfl ?_
    refine WO.nil ?_
    obtain rfl := Option.some.inj h
    exact WX.ret (rs_ (rs_tmp rfl rs_nil)) fun st hp => ⟨(hp.pk [] (by decide)).le hB, rfl⟩
  · replace h := (if_neg (bnt k55)).symm.trans h
    refine WX.condF rfl k55 ?_
    refine WX.skip ?_
    refine WX.seq ?_
    refine WX.reg ?_
    refine WO.q (.ldA (i := 0) rfl rfl rfl ti25 rfl) rfl rfl ?_
    refine WO.q (.mv (v := .int _ _) rfl) rfl rfl ?_
    obtain ⟨y56, hy56, h⟩ := Option.bind_eq_some_iff.1 h
    refine WO.c0 rfl rfl (alloc_Set_Take_ok h53 hy56) rfl rfl rfl ?_
    rintro _ B hK ⟨v57, v59, rfl, h58, h60⟩
    obtain ⟨_, _, _, _, _, rfl⟩ := h58.isl
    obtain ⟨_, _, _, _, _, rfl⟩ := h60.isl
    replace h53 := h53.up hK
    replace h54 := h54.up hK
    replace hB := hB.trans hK
    refine WO.q (.mv (v := .tup _) rfl) rfl rfl ?_
    refine WO.q (.r fun _ => rfl) rfl rfl ?_
    refine WO.q (.r fun _ => rfl) rfl rfl ?_
    refine WO.q (.r fun _ => rfl) rfl rfl ?_
    refine WO.md (MOp.alloc ti25 rfl) rfl rfl ?_
    rintro _ _ ⟨b61, rfl, rfl⟩
    refine WO.mn (MOp.storeW rfl (cA rfl) .h ti25 rfl rfl rfl) rfl ?_
    rintro _ _ rfl
    refine WO.q (.as (v := .sl _ _ _ _ _ _) rfl) rfl rfl ?_
    refine WO.q (.as (v := .int _ _) rfl) rfl rfl ?_
    refine WO.nil ?_
    refine WX.seq ?_
    refine WX.seq ?_
    refine WX.reg ?_
    refine WO.q (.mv (v := .int _ _) rfl) rfl rfl ?_
    refine WO.q (.r fun _ => rfl) rfl rfl ?_
    refine WO.nil ?_
    rcases bsp (decide (x9 = 0)) with k62 | k62
    · have q_k62 := of_decide_eq_true k62
      replace h := (if_pos q_k62).symm.trans h
      refine WX.condT rfl k62 ?_
      refine WX.seq ?_
      refine WX.reg ?_
      refine WO.q (.mv (v := .int _ _) rfl) rfl rfl ?_
      refine WO.q (.r fun _ => rfl) rfl rfl ?_
      refine WO.q (.as (v := .bool _) rfl) rfl rfl ?_
      refine WO.nil ?_
      obtain rfl := Option.some.inj h
      exact WX.ret (rs_ (rs_tmp rfl rs_nil)) fun st hp => ⟨(hp.pk [] (by decide)).le hB, rfl⟩
    · have q_k62 := of_decide_eq_false k62
      replace h := (if_neg q_k62).symm.trans h
      refine WX.condF rfl k62 ?_
      refine WX.skip ?_
      refine WX.seq ?_
      refine WX.seq ?_
      refine WX.reg ?_
      refine WO.q (.mv (v := .int _ _) rfl) rfl rfl ?_
      refine WO.q (.r fun _ => rfl) rfl rfl ?_
      refine WO.q (.mv (v := .bool _) rfl) rfl rfl ?_
      rcases bsp (decide (y56.2.2 ≠ 0)) with k63 | k63
      · have q_k63 := of_decide_eq_true k63
        replace h := (if_pos q_k63).symm.trans h
        refine WO.sd (wg rfl rfl (gfn k63)) rfl ?_
        refine WO.sd (wg rfl rfl (gfn k63)) rfl ?_
        refine WO.sd (wg rfl rfl (gfn k63)) rfl ?_
        refine WO.q (.ptv (v := .bool _) rfl k63 rfl) rfl rfl ?_
        refine WO.q (.mv (v := .bool _) rfl) rfl rfl ?_
        refine WO.sd (wg rfl rfl (gfn rfl)) rfl ?_
        refine WO.sd (wg rfl rfl (gfn rfl)) rfl ?_
        refine WO.sd (wg rfl rfl (gfn rfl)) rfl ?_
        refine WO.sd (wg rfl rfl (gfn rfl)) rfl ?_
        refine WO.sd (wg rfl rfl (gfn rfl)) rfl ?_
        refine WO.q (.ptv (v := .bool _) rfl rfl rfl) rfl rfl ?_
        refine WO.nil ?_
        refine WX.keep [10, 15, 94] (WX.pk [2] (by decide) ?_) rfl
        exact gabionlaw14_AllocAll_j20_ok h _ _ _ ⟨hB, _, _, n54, _, _, h54, h60, rfl, rfl⟩
      · have q_k63 := of_decide_eq_false k63
        replace h := (if_neg q_k63).symm.trans h
        refine WO.q (.ldA (i := 0) rfl rfl rfl ti25 rfl) (wg rfl rfl (gf k63)) rfl ?_
        obtain ⟨y77, hy77, h⟩ := Option.bind_eq_some_iff.1 h
        refine WO.cS rfl rfl (alloc_Set_Free_ok h58 hy77) rfl (wg rfl rfl (gf k63)) rfl ?_
        rintro _ rfl
        refine WO.q (.r fun _ => rfl) (wg rfl rfl (gf k63)) rfl ?_
        refine WO.q (.pfv (v := .bool _) rfl k63 rfl) rfl rfl ?_
        refine WO.q (.mv (v := .bool _) rfl) rfl rfl ?_
        rcases bsp (decide (y77 ≠ 0)) with k78 | k78
        · have q_k78 := of_decide_eq_true k78
          replace h := (if_pos q_k78).symm.trans h
          refine WO.sd (wg rfl rfl (gfn k78)) rfl ?_
          refine WO.sd (wg rfl rfl (gfn k78)) rfl ?_
          refine WO.sd (wg rfl rfl (gfn k78)) rfl ?_
          refine WO.sd (wg rfl rfl (gfn k78)) rfl ?_
          refine WO.sd (wg rfl rfl (gfn k78)) rfl ?_
          refine WO.q (.ptv (v := .bool _) rfl k78 rfl) rfl rfl ?_
          refine WO.nil ?_
          refine WX.keep [10, 15, 94] (WX.pk [2] (by decide) ?_) rfl
          exact gabionlaw14_AllocAll_j20_ok h _ _ _ ⟨hB, _, _, n54, _, _, h54, h60, rfl, rfl⟩
        · have q_k78 := of_decide_eq_false k78
          replace h := (if_neg q_k78).symm.trans h
          refine WO.q (.mv (v := .sl _ _ _ _ _ _) rfl) (wg rfl rfl (gf k78)) rfl ?_
          refine WO.q (.len rfl rfl rfl (sl23.len h60.isl)) (wg rfl rfl (gf k78)) rfl ?_
          refine WO.q (.mv (v := .sl _ _ _ _ _ _) rfl) (wg rfl rfl (gf k78)) rfl ?_
          refine WO.q (.len rfl rfl rfl (sl23.len h54.isl)) (wg rfl rfl (gf k78)) rfl ?_
          refine WO.q (.r fun _ => rfl) (wg rfl rfl (gf k78)) rfl ?_
          refine WO.q (.pfv (v := .bool _) rfl k78 rfl) rfl rfl ?_
          refine WO.nil ?_
          refine WX.keep [10, 15, 94] (WX.pk [2] (by decide) ?_) rfl
          exact gabionlaw14_AllocAll_j20_ok h _ _ _ ⟨hB, _, _, n54, _, _, h54, h60, rfl, rfl⟩
theorem gabionlaw14_AllocAll_j2_ok {B0 : Kn} {L : Own} {n0 : Nat} {x0 : List Int} {x27 : Bool} {zb3 : Int × (List (Int × Int))} {r : Bool} (h : gabionlaw14_AllocAll_j2 x0 x27 zb3 = some r) : WXI Try.prog 110 n0 (Fin Try.prog Try.f4.results.toList n0 (gabionlaw14_AllocAll_P B0 L r)) [.code (ct [1, 1, 0, 1] (bodyOf Try.f4)), .code (ct [1, 1, 1] (bodyOf Try.f4))] (gabionlaw14_AllocAll_j2_I B0 x0 x27 zb3) L := by
  unfold gabionlaw14_AllocAll_j2 at h
  rintro _ B _ ⟨hB, b10, v11, b11, n11, c11, v12, h11, h12, rfl, rfl⟩
  obtain ⟨_, _, _, _, _, rfl⟩ := h11.isl
  obtain ⟨_, _, _, _, _, rfl⟩ := h12.isl
  rcases bsp x27 with k13 | k13
  · replace h := (if_pos k13).symm.trans h
    refine WX.condT rfl k13 ?_
    refine WX.seq ?_
    refine WX.reg ?_
    refine WO.q (.as (v := .bool _) rfl) rfl rfl ?_
    refine WO.nil ?_
    obtain rfl := Option.some.inj h
    exact WX.ret (rs_ (rs_tmp rfl rs_nil)) fun st hp => ⟨(hp.pk [] (by decide)).le hB, rfl⟩
  · replace h := (if_neg (bnt k13)).symm.trans h
    refine WX.condF rfl k13 ?_
    refine WX.skip ?_
    refine WX.seq ?_
    refine WX.seq ?_
    refine WX.reg ?_
    refine WO.q (.mv (v := .sl _ _ _ _ _ _) rfl) rfl rfl ?_
    refine WO.q (.mv (v := .sl _ _ _ _ _ _) rfl) rfl rfl ?_
    refine WO.q (.len rfl rfl rfl (sl32.len h12.isl)) rfl rfl ?_
    refine WO.q (.r fun _ => rfl) rfl rfl ?_
    obtain ⟨y14, hy14, h⟩ := Option.bind_eq_some_iff.1 h
    obtain ⟨v_y14, e_y14, g_y14⟩ := h12.cut sl32 hy14 (lo := none) (hi := some (.int .i64 (mn (x0.length : Int) 59))) bnd_none (bnd_int (Int.le_trans (cutL_some hy14).1.1 (cutL_some hy14).1.2.1))
    obtain ⟨_, _, _, _, _, rfl⟩ := g_y14.isl
    refine WO.q (.sl e_y14) rfl rfl ?_
    refine WO.q (.len rfl rfl rfl (sl32.len g_y14.isl)) rfl rfl ?_
    refine WO.q (.mv (v := .int _ _) rfl) rfl rfl ?_
    refine WO.nil ?_
    refine WX.block ?_
    refine WX.loop ?_
    obtain ⟨e35, he35, h⟩ := Option.bind_eq_some_iff.1 h
    refine WX.fz (j := 1) h11 rfl ?_
    intro B hK g15
    replace g_y14 := g_y14.up hK
    replace hB := hB.trans hK
    refine WX.keep [3, 32, 33, 34] (WX.pk [0] (by decide) ?_) rfl
    refine gabionlaw14_AllocAll_l0_ok he35 ?_ _ _ _ ⟨hB, _, _, _, g15, g_y14, rfl, rfl⟩
    · intro s79 he_
      subst he_
      replace h := h
      rintro _ B _ ⟨hB, b36, v37, h37, rfl, rfl⟩
      obtain ⟨_, _, _, _, _, rfl⟩ := h37.isl
      refine WX.seq ?_
      refine WX.reg ?_
      refine WO.q (.ldA (i := 0) rfl rfl rfl ti25 rfl) rfl rfl ?_
      obtain ⟨y38, hy38, h⟩ := Option.bind_eq_some_iff.1 h
      refine WO.cS rfl rfl (alloc_Set_Free_ok h37 hy38) rfl rfl rfl ?_
      rintro _ rfl
      refine WO.q (.as (v := .int _ _) rfl) rfl rfl ?_
      refine WO.nil ?_
      refine WX.seq ?_
      refine WX.reg ?_
      refine WO.q (.ldA (i := 0) rfl rfl rfl ti25 rfl) rfl rfl ?_
      obtain ⟨y39, hy39, h⟩ := Option.bind_eq_some_iff.1 h
      refine WO.c1 rfl rfl (alloc_Set_List_ok h37 hy39) rfl rfl rfl ?_
      rintro _ B _ hK ⟨v40, b41, n42, c43, rfl, rfl, h44⟩
      obtain ⟨_, _, _, _, _, rfl⟩ := h44.isl
      replace h37 := h37.up hK
      replace hB := hB.trans hK
      refine WO.q (.as (v := .sl _ _ _ _ _ _) rfl) rfl rfl ?_
      refine WO.nil ?_
      refine WX.seq ?_
      refine WX.seq ?_
      refine WX.reg ?_
      refine WO.q (.ldA (i := 1) rfl rfl rfl ti25 rfl) rfl rfl ?_
      refine WO.q (.mv (v := .int _ _) rfl) rfl rfl ?_
      refine WO.q (.r fun _ => rfl) rfl rfl ?_
      obtain ⟨y45, hy45, h⟩ := Option.bind_eq_some_iff.1 h
      refine WO.c0 rfl rfl (alloc_Set_Take_ok h37 hy45) rfl rfl rfl ?_
      rintro _ B hK ⟨v46, v48, rfl, h47, h49⟩
      obtain ⟨_, _, _, _, _, rfl⟩ := h47.isl
      obtain ⟨_, _, _, _, _, rfl⟩ := h49.isl
      replace h37 := h37.up hK
      replace h44 := h44.up hK
      replace hB := hB.trans hK
      refine WO.q (.mv (v := .tup _) rfl) rfl rfl ?_
      refine WO.q (.r fun _ => rfl) rfl rfl ?_
      refine WO.q (.r fun _ => rfl) rfl rfl ?_
      refine WO.q (.r fun _ => rfl) rfl rfl ?_
      refine WO.md (MOp.alloc ti25 rfl) rfl rfl ?_
      rintro _ _ ⟨b50, rfl, rfl⟩
      refine WO.mn (MOp.storeW rfl (cA rfl) .h ti25 rfl rfl rfl) rfl ?_
      rintro _ _ rfl
      refine WO.q (.as (v := .sl _ _ _ _ _ _) rfl) rfl rfl ?_
      refine WO.q (.as (v := .int _ _) rfl) rfl rfl ?_
      refine WO.nil ?_
      refine WX.seq ?_
      refine WX.reg ?_
      refine WO.q (.mv (v := .int _ _) rfl) rfl rfl ?_
      refine WO.q (.r fun _ => rfl) rfl rfl ?_
      refine WO.q (.mv (v := .bool _) rfl) rfl rfl ?_
      rcases bsp (decide (y45.2.2 ≠ 12)) with k51 | k51
      · have q_k51 := of_decide_eq_true k51
        replace h := (if_pos q_k51).symm.trans h
        refine WO.sd (wg rfl rfl (gfn k51)) rfl ?_
        refine WO.sd (wg rfl rfl (gfn k51)) rfl ?_
        refine WO.sd (wg rfl rfl (gfn k51)) rfl ?_
        refine WO.q (.ptv (v := .bool _) rfl k51 rfl) rfl rfl ?_
        refine WO.nil ?_
        refine WX.keep [3, 9, 10, 69] (WX.pk [2, 1] (by decide) ?_) rfl
        exact gabionlaw14_AllocAll_j15_ok h _ _ _ ⟨hB, _, _, _, _, n42, _, h37, h44, rfl, rfl⟩
      · have q_k51 := of_decide_eq_false k51
        replace h := (if_neg q_k51).symm.trans h
        refine WO.q (.mv (v := .sl _ _ _ _ _ _) rfl) (wg rfl rfl (gf k51)) rfl ?_
        refine WO.q (.len rfl rfl rfl (sl23.len h49.isl)) (wg rfl rfl (gf k51)) rfl ?_
        refine WO.q (.r fun _ => rfl) (wg rfl rfl (gf k51)) rfl ?_
        refine WO.q (.pfv (v := .bool _) rfl k51 rfl) rfl rfl ?_
        refine WO.nil ?_
        refine WX.keep [3, 9, 10, 69] (WX.pk [2, 1] (by decide) ?_) rfl
        exact gabionlaw14_AllocAll_j15_ok h _ _ _ ⟨hB, _, _, _, _, n42, _, h37, h44, rfl, rfl⟩
theorem gabionlaw14_AllocAll_ok {B0 : Kn} {L : Own} {a0 : List Int} {v0_0 : AV} {r : Bool} (g0_0 : RSl (Ty.int .u8) B0 v0_0 a0) (h : gabionlaw14_AllocAll a0 = some r) : ∀ st, Hp B0 L st → ASpec Try.prog 4 [v0_0] st (gabionlaw14_AllocAll_P B0 L r) := by
  unfold gabionlaw14_AllocAll at h
  refine bodyA (A := []) Try.func4 rfl (c := bodyOf Try.f4) rfl Try.ntmps4 (lb rfl) fun n0 => ?_
  have hB := KLe.refl B0
  obtain ⟨_, _, _, _, _, rfl⟩ := g0_0.isl
  refine WX.seq ?_
  refine WX.reg ?_
  refine WO.q (.as (v := .bool _) rfl) rfl rfl ?_
  refine WO.nil ?_
  refine WX.seq ?_
  refine WX.reg ?_
  obtain ⟨y1, hy1, h⟩ := Option.bind_eq_some_iff.1 h
  refine WO.c1 rfl rfl (alloc_New_ok hy1) rfl rfl rfl ?_
  rintro _ B _ hK ⟨v2, b3, n4, c5, rfl, rfl, h6⟩
  obtain ⟨_, _, _, _, _, rfl⟩ := h6.isl
  replace g0_0 := g0_0.up hK
  replace hB := hB.trans hK
  refine WO.q (.mv (v := .tup _) rfl) rfl rfl ?_
  refine WO.q (.r fun _ => rfl) rfl rfl ?_
  refine WO.q (.r fun _ => rfl) rfl rfl ?_
  refine WO.md (MOp.alloc ti25 rfl) rfl rfl ?_
  rintro _ _ ⟨b7, rfl, rfl⟩
  refine WO.mn (MOp.storeW rfl (cA rfl) .h ti25 rfl rfl rfl) rfl ?_
  rintro _ _ rfl
  refine WO.q (.as (v := .int _ _) rfl) rfl rfl ?_
  refine WO.nil ?_
  refine WX.seq ?_
  refine WX.seq ?_
  refine WX.reg ?_
  obtain ⟨y8, hy8, h⟩ := Option.bind_eq_some_iff.1 h
  refine WO.cS rfl rfl (gabionlaw14_wakes_ok hy8) rfl rfl rfl ?_
  rintro _ rfl
  refine WO.q (.r fun _ => rfl) rfl rfl ?_
  refine WO.q (.mv (v := .bool _) rfl) rfl rfl ?_
  rcases bsp y8 with k9 | k9
  · replace h := (if_pos k9).symm.trans h
    refine WO.q (.mv (v := .int _ _) rfl) (wg rfl rfl (gf (f_not k9))) rfl ?_
    refine WO.q (.r fun _ => rfl) (wg rfl rfl (gf (f_not k9))) rfl ?_
    refine WO.q (.pfv (v := .bool _) rfl (f_not k9) rfl) rfl rfl ?_
    refine WO.nil ?_
    refine WX.keep [0, 3, 27] (WX.pk [0, 1] (by decide) ?_) rfl
    exact gabionlaw14_AllocAll_j2_ok h _ _ _ ⟨hB, _, _, _, n4, _, _, h6, g0_0, rfl, rfl⟩
  · replace h := (if_neg (bnt k9)).symm.trans h
    refine WO.sd (wg rfl rfl (gfn (t_not k9))) rfl ?_
    refine WO.sd (wg rfl rfl (gfn (t_not k9))) rfl ?_
    refine WO.q (.ptv (v := .bool _) rfl (t_not k9) rfl) rfl rfl ?_
    refine WO.nil ?_
    refine WX.keep [0, 3, 27] (WX.pk [0, 1] (by decide) ?_) rfl
    exact gabionlaw14_AllocAll_j2_ok h _ _ _ ⟨hB, _, _, _, n4, _, _, h6, g0_0, rfl, rfl⟩
def gabionref15_joins_P (B : Kn) (L : Own) (r : Bool) : AV → St → Prop := CS B L fun v => v = .bool r
def gabionref15_joins_j1_I (B0 : Kn) (x12 : Bool) (zb2 : Int × Int) (zb3 : Int × Int) : Fr → Kn → Own → Prop := fun fr B A => KLe B0 B ∧ ∃ b4 b5, fr = [(2, .ptr b4 0), (3, .ptr b5 0), (12, .bool x12)] ∧ A = [(b4, some [.int .i64 zb2.1, .int .i64 zb2.2]), (b5, some [.int .i64 zb3.1, .int .i64 zb3.2])]
theorem gabionref15_joins_j1_ok {B0 : Kn} {L : Own} {n0 : Nat} {x12 : Bool} {zb2 : Int × Int} {zb3 : Int × Int} {r : Bool} (h : gabionref15_joins_j1 x12 zb2 zb3 = some r) : WXI Try.prog 29 n0 (Fin Try.prog Try.f68.results.toList n0 (gabionref15_joins_P B0 L r)) [.code (ct [1, 0, 1] (bodyOf Try.f68)), .code (ct [1, 1] (bodyOf Try.f68))] (gabionref15_joins_j1_I B0 x12 zb2 zb3) L := by
  unfold gabionref15_joins_j1 at h
  rintro _ B _ ⟨hB, b4, b5, rfl, rfl⟩
  rcases bsp x12 with k6 | k6
  · replace h := (if_pos k6).symm.trans h
    refine WX.condT rfl k6 ?_
    refine WX.seq ?_
    refine WX.reg ?_
    refine WO.q (.ia (ia41_0 _ _)) rfl rfl ?_
    refine WO.q (.ldS (i := 0) rfl rfl rfl ti3 rfl) rfl rfl ?_
    refine WO.q (.r fun _ => rfl) rfl rfl ?_
    refine WO.q (.mv (v := .bool _) rfl) rfl rfl ?_
    rcases bsp (decide (zb2.1 = (-1))) with k7 | k7
    · have q_k7 := of_decide_eq_true k7
      replace h := (if_pos q_k7).symm.trans h
      refine WO.q (.ia (ia41_0 _ _)) (wg rfl rfl (gt k7)) rfl ?_
      refine WO.q (.ldS (i := 1) rfl rfl rfl ti3 rfl) (wg rfl rfl (gt k7)) rfl ?_
      refine WO.q (.r fun _ => rfl) (wg rfl rfl (gt k7)) rfl ?_
      refine WO.q (.ptv (v := .bool _) rfl k7 rfl) rfl rfl ?_
      refine WO.q (.as (v := .bool _) rfl) rfl rfl ?_
      refine WO.nil ?_
      obtain rfl := Option.some.inj h
      exact WX.ret (rs_ (rs_tmp rfl rs_nil)) fun st hp => ⟨(hp.pk [] (by decide)).le hB, rfl⟩
    · have q_k7 := of_decide_eq_false k7
      replace h := (if_neg q_k7).symm.trans h
      refine WO.sd (wg rfl rfl (gtn k7)) rfl ?_
      refine WO.sd (wg rfl rfl (gtn k7)) rfl ?_
      refine WO.sd (wg rfl rfl (gtn k7)) rfl ?_
      refine WO.q (.pfv (v := .bool _) rfl k7 rfl) rfl rfl ?_
      refine WO.q (.as (v := .bool _) rfl) rfl rfl ?_
      refine WO.nil ?_
      obtain rfl := Option.some.inj h
      exact WX.ret (rs_ (rs_tmp rfl rs_nil)) fun st hp => ⟨(hp.pk [] (by decide)).le hB, rfl⟩
  · replace h := (if_neg (bnt k6)).symm.trans h
    refine WX.condF rfl k6 ?_
    refine WX.skip ?_
    refine WX.seq ?_
    refine WX.reg ?_
    refine WO.q (.ia (ia41_0 _ _)) rfl rfl ?_
    refine WO.q (.ldS (i := 0) rfl rfl rfl ti3 rfl) rfl rfl ?_
    refine WO.q (.ia (ia41_1 _ _)) rfl rfl ?_
    refine WO.q (.ldS (i := 0) rfl rfl rfl ti3 rfl) rfl rfl ?_
    refine WO.q (.r fun _ => rfl) rfl rfl ?_
    refine WO.q (.ia (ia41_0 _ _)) rfl rfl ?_
    refine WO.q (.ldS (i := 1) rfl rfl rfl ti3 rfl) rfl rfl ?_
    refine WO.q (.r fun _ => rfl) rfl rfl ?_
    refine WO.q (.as (v := .bool _) rfl) rfl rfl ?_
    refine WO.nil ?_
    obtain rfl := Option.some.inj h
    exact WX.ret (rs_ (rs_tmp rfl rs_nil)) fun st hp => ⟨(hp.pk [] (by decide)).le hB, rfl⟩
theorem gabionref15_joins_ok {B0 : Kn} {L : Own} {a0 : Int × Int} {a1 : Int × Int} {r : Bool} (h : gabionref15_joins a0 a1 = some r) : ∀ st, Hp B0 L st → ASpec Try.prog 68 [.agg [.int .i64 a0.1, .int .i64 a0.2], .agg [.int .i64 a1.1, .int .i64 a1.2]] st (gabionref15_joins_P B0 L r) := by
  unfold gabionref15_joins at h
  refine bodyA (A := []) Try.func68 rfl (c := bodyOf Try.f68) rfl Try.ntmps68 (lb rfl) fun n0 => ?_
  have hB := KLe.refl B0
  refine WX.seq ?_
  refine WX.reg ?_
  refine WO.md (MOp.box (cA rfl)) rfl rfl ?_
  rintro _ _ ⟨b1, rfl, rfl⟩
  refine WO.md (MOp.box (cA rfl)) rfl rfl ?_
  rintro _ _ ⟨b2, rfl, rfl⟩
  refine WO.q (.as (v := .bool _) rfl) rfl rfl ?_
  refine WO.nil ?_
  refine WX.seq ?_
  refine WX.seq ?_
  refine WX.reg ?_
  refine WO.q (.ia (ia41_0 _ _)) rfl rfl ?_
  refine WO.q (.ldS (i := 1) rfl rfl rfl ti3 rfl) rfl rfl ?_
  refine WO.q (.r fun _ => rfl) rfl rfl ?_
  refine WO.q (.mv (v := .bool _) rfl) rfl rfl ?_
  rcases bsp (decide (a0.1 = (-1))) with k3 | k3
  · have q_k3 := of_decide_eq_true k3
    replace h := (if_pos q_k3).symm.trans h
    refine WO.sd (wg rfl rfl (gfn k3)) rfl ?_
    refine WO.sd (wg rfl rfl (gfn k3)) rfl ?_
    refine WO.sd (wg rfl rfl (gfn k3)) rfl ?_
    refine WO.q (.ptv (v := .bool _) rfl k3 rfl) rfl rfl ?_
    refine WO.nil ?_
    refine WX.keep [2, 3, 12] (WX.pk [1, 0] (by decide) ?_) rfl
    exact gabionref15_joins_j1_ok h _ _ _ ⟨hB, _, _, rfl, rfl⟩
  · have q_k3 := of_decide_eq_false k3
    replace h := (if_neg q_k3).symm.trans h
    refine WO.q (.ia (ia41_0 _ _)) (wg rfl rfl (gf k3)) rfl ?_
    refine WO.q (.ldS (i := 0) rfl rfl rfl ti3 rfl) (wg rfl rfl (gf k3)) rfl ?_
    refine WO.q (.r fun _ => rfl) (wg rfl rfl (gf k3)) rfl ?_
    refine WO.q (.pfv (v := .bool _) rfl k3 rfl) rfl rfl ?_
    refine WO.nil ?_
    refine WX.keep [2, 3, 12] (WX.pk [1, 0] (by decide) ?_) rfl
    exact gabionref15_joins_j1_ok h _ _ _ ⟨hB, _, _, rfl, rfl⟩
end Gab
