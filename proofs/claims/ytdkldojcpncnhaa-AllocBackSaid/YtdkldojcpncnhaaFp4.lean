/- The Go code comes to what the Lean functions say. Written by a program (gp.py). -/
import Derived.Test.YtdkldojcpncnhaaFd
import Derived.Test.YtdkldojcpncnhaaFp3
set_option linter.unusedSimpArgs false
set_option linter.unusedVariables false
set_option maxHeartbeats 4000000
set_option maxRecDepth 100000
namespace Gab
open Go Go.Proofs
def gabionlaw14_AllocMakes_P (B : Kn) (L : Own) (r : Bool) : AV → St → Prop := CS B L fun v => v = .bool r
def gabionlaw14_AllocMakes_j7_I (B0 : Kn) (x12 : List Int) (x14 : Int) (x60 : Bool) : Fr → Kn → Own → Prop := fun fr B A => KLe B0 B ∧ ∃ v25 b25 n25 c25, OSl (Ty.int .i64) B v25 b25 n25 c25 x12 ∧ fr = [(12, v25), (13, .int .i64 (x12.length : Int)), (14, .int .i64 x14), (60, .bool x60)] ∧ A = [oe b25 n25 c25]
def gabionlaw14_AllocMakes_j6_I (B0 : Kn) (x4 : Int) (x6 : Int) (x7 : Bool) (x12 : List Int) (x14 : Int) (zb5 : Int × (List (Int × Int))) : Fr → Kn → Own → Prop := fun fr B A => KLe B0 B ∧ ∃ b16 v17 b17 n17 c17 v18 b18 n18 c18, OSl EPIi64Ii64Q B v17 b17 n17 c17 zb5.2 ∧ OSl (Ty.int .i64) B v18 b18 n18 c18 x12 ∧ fr = [(4, .int .i64 x4), (5, .ptr b16 0), (6, .int .i64 x6), (7, .bool x7), (12, v18), (13, .int .i64 (x12.length : Int)), (14, .int .i64 x14)] ∧ A = [(b16, some [.int .i64 zb5.1, v17]), oe b17 n17 c17, oe b18 n18 c18]
def gabionlaw14_AllocMakes_l0_I (B0 : Kn) (x12 : List Int) (x14 : Int) : Fr → Kn → Own → Prop := fun fr B A => KLe B0 B ∧ ∃ v5 b5 n5 c5, OSl (Ty.int .i64) B v5 b5 n5 c5 x12 ∧ fr = [(12, v5), (13, .int .i64 (x12.length : Int)), (14, .int .i64 x14)] ∧ A = [oe b5 n5 c5]
def gabionlaw14_AllocMakes_l0_X0 (B0 : Kn) : Fr → Kn → Own → Prop := fun fr B A => KLe B0 B ∧ fr = [] ∧ A = []
theorem gabionlaw14_AllocMakes_j7_ok {B0 : Kn} {L : Own} {n0 : Nat} {x12 : List Int} {x14 : Int} {x60 : Bool} {Q : AV → St → Prop} {E : Int ⊕ (Bool ⊕ Unit) → Prop} {o : Int ⊕ (Bool ⊕ Unit)} (h : gabionlaw14_AllocMakes_j7 x12 x14 x60 = some o) (hn : ∀ s, E (.inl s) → WXI Try.prog 63 n0 (Fin Try.prog Try.f3.results.toList n0 Q) [.lp (ct [1, 0, 1, 0, 0] (bodyOf Try.f3)), .blk 0, .code (ct [1, 1] (bodyOf Try.f3))] (gabionlaw14_AllocMakes_l0_I B0 x12 s) L) (hx0 : ∀ s, E (.inr (.inr s)) → WXI Try.prog 63 n0 (Fin Try.prog Try.f3.results.toList n0 Q) [.code (ct [1, 1] (bodyOf Try.f3))] (gabionlaw14_AllocMakes_l0_X0 B0) L) (hr : ∀ r, E (.inr (.inl r)) → ∀ v st, gabionlaw14_AllocMakes_P B0 L r v st → Q v st) (hE : E o) : WXI Try.prog 63 n0 (Fin Try.prog Try.f3.results.toList n0 Q) [.code (ct [1, 0, 1, 0, 0, 1, 1, 0, 0, 1, 1, 1, 1] (bodyOf Try.f3)), .blk 1, .code (ct [1, 0, 1, 0, 0, 1, 1, 1] (bodyOf Try.f3)), .lp (ct [1, 0, 1, 0, 0] (bodyOf Try.f3)), .blk 0, .code (ct [1, 1] (bodyOf Try.f3))] (gabionlaw14_AllocMakes_j7_I B0 x12 x14 x60) L := by
  unfold gabionlaw14_AllocMakes_j7 at h
  rintro _ B _ ⟨hB, v25, b25, n25, c25, h25, rfl, rfl⟩
  obtain ⟨_, _, _, _, _, rfl⟩ := h25.isl
  rcases bsp x60 with k26 | k26
  · replace h := (if_pos k26).symm.trans h
    refine WX.condT rfl k26 ?_
    refine WX.seq ?_
    refine WX.reg ?_
    refine WO.q (.as (v := .bool _) rfl) rfl rfl ?_
    refine WO.nil ?_
    obtain rfl := Option.some.inj h
    exact WX.ret (rs_ (rs_tmp rfl rs_nil)) fun st hp => hr _ hE _ _ ⟨(hp.pk [] (by decide)).le hB, rfl⟩
  · replace h := (if_neg (bnt k26)).symm.trans h
    refine WX.condF rfl k26 ?_
    refine WX.skip ?_
    refine WX.pop ?_
    refine WX.reg ?_
    refine WO.q (.r fun _ => rfl) rfl rfl ?_
    refine WO.q (.mv (v := .int _ _) rfl) rfl rfl ?_
    refine WO.nil ?_
    refine WX.keepL [12, 13, 14] (WX.pk [0] (by decide) ?_) rfl
    obtain rfl := Option.some.inj h
    exact hn _ hE _ _ _ ⟨hB, _, _, n25, _, h25, rfl, rfl⟩
theorem gabionlaw14_AllocMakes_j6_ok {B0 : Kn} {L : Own} {n0 : Nat} {x4 : Int} {x6 : Int} {x7 : Bool} {x12 : List Int} {x14 : Int} {zb5 : Int × (List (Int × Int))} {Q : AV → St → Prop} {E : Int ⊕ (Bool ⊕ Unit) → Prop} {o : Int ⊕ (Bool ⊕ Unit)} (h : gabionlaw14_AllocMakes_j6 x4 x6 x7 x12 x14 zb5 = some o) (hn : ∀ s, E (.inl s) → WXI Try.prog 63 n0 (Fin Try.prog Try.f3.results.toList n0 Q) [.lp (ct [1, 0, 1, 0, 0] (bodyOf Try.f3)), .blk 0, .code (ct [1, 1] (bodyOf Try.f3))] (gabionlaw14_AllocMakes_l0_I B0 x12 s) L) (hx0 : ∀ s, E (.inr (.inr s)) → WXI Try.prog 63 n0 (Fin Try.prog Try.f3.results.toList n0 Q) [.code (ct [1, 1] (bodyOf Try.f3))] (gabionlaw14_AllocMakes_l0_X0 B0) L) (hr : ∀ r, E (.inr (.inl r)) → ∀ v st, gabionlaw14_AllocMakes_P B0 L r v st → Q v st) (hE : E o) : WXI Try.prog 63 n0 (Fin Try.prog Try.f3.results.toList n0 Q) [.code (ct [1, 0, 1, 0, 0, 1, 1, 0, 0, 1, 1, 1] (bodyOf Try.f3)), .blk 1, .code (ct [1, 0, 1, 0, 0, 1, 1, 1] (bodyOf Try.f3)), .lp (ct [1, 0, 1, 0, 0] (bodyOf Try.f3)), .blk 0, .code (ct [1, 1] (bodyOf Try.f3))] (gabionlaw14_AllocMakes_j6_I B0 x4 x6 x7 x12 x14 zb5) L := by
  unfold gabionlaw14_AllocMakes_j6 at h
  rintro _ B _ ⟨hB, b16, v17, b17, n17, c17, v18, b18, n18, c18, h17, h18, rfl, rfl⟩
  obtain ⟨_, _, _, _, _, rfl⟩ := h17.isl
  obtain ⟨_, _, _, _, _, rfl⟩ := h18.isl
  refine WX.seq ?_
  refine WX.reg ?_
  refine WO.q (.mv (v := .bool _) rfl) rfl rfl ?_
  refine WO.q (.mv (v := .int _ _) rfl) rfl rfl ?_
  refine WO.q (.r fun _ => rfl) rfl rfl ?_
  refine WO.q (.bin (evboolneq ti4 rfl)) rfl rfl ?_
  refine WO.q (.mv (v := .bool _) rfl) rfl rfl ?_
  rcases bsp (decide (x7 = (decide (x6 = 0)))) with k19 | k19
  · have q_k19 := of_decide_eq_true k19
    replace h := (if_pos q_k19).symm.trans h
    refine WO.q (.mv (v := .bool _) rfl) (wg rfl rfl (gf (f_not k19))) rfl ?_
    refine WO.q (.r fun _ => rfl) (wg rfl rfl (gf (f_not k19))) rfl ?_
    refine WO.q (.mv (v := .bool _) rfl) (wg rfl rfl (gf (f_not k19))) rfl ?_
    rcases bsp x7 with k20 | k20
    · replace h := (if_pos k20).symm.trans h
      refine WO.sd (wg rfl rfl (gtn (f_not k20))) rfl ?_
      refine WO.sd (wg rfl rfl (gtn (f_not k20))) rfl ?_
      refine WO.q (.pfv (v := .bool _) rfl (f_not k20) rfl) (wg rfl rfl (gf (f_not k19))) rfl ?_
      refine WO.q (.pfv (v := .bool _) rfl (f_not k19) rfl) rfl rfl ?_
      refine WO.q (.mv (v := .bool _) rfl) rfl rfl ?_
      refine WO.q (.mv (v := .bool _) rfl) (wg rfl rfl (gf rfl)) rfl ?_
      refine WO.q (.mv (v := .bool _) rfl) (wg rfl rfl (gf rfl)) rfl ?_
      refine WO.q (.ldA (i := 0) rfl rfl rfl ti25 rfl) (wg rfl rfl (gt k20)) rfl ?_
      obtain ⟨y21, hy21, h⟩ := Option.bind_eq_some_iff.1 h
      refine WO.cS rfl rfl (lendC (j := 1) h17 rfl fun _ K23 g22 => alloc_Set_Free_ok g22 hy21) rfl (wg rfl rfl (gt k20)) rfl ?_
      rintro _ rfl
      refine WO.q (.mv (v := .int _ _) rfl) (wg rfl rfl (gt k20)) rfl ?_
      refine WO.q (.r fun _ => rfl) (wg rfl rfl (gt k20)) rfl ?_
      refine WO.q (.mv (v := .bool _) rfl) (wg rfl rfl (gt k20)) rfl ?_
      rcases bsp (decide (y21 ≠ x4)) with k24 | k24
      · have q_k24 := of_decide_eq_true k24
        replace h := (if_pos q_k24).symm.trans h
        refine WO.sd (wg rfl rfl (gfn k24)) rfl ?_
        refine WO.sd (wg rfl rfl (gfn k24)) rfl ?_
        refine WO.sd (wg rfl rfl (gfn k24)) rfl ?_
        refine WO.sd (wg rfl rfl (gfn k24)) rfl ?_
        refine WO.q (.ptv (v := .bool _) rfl k24 rfl) (wg rfl rfl (gt k20)) rfl ?_
        refine WO.q (.mv (v := .bool _) rfl) (wg rfl rfl (gt k20)) rfl ?_
        refine WO.sd (wg rfl rfl (gfn rfl)) rfl ?_
        refine WO.sd (wg rfl rfl (gfn rfl)) rfl ?_
        refine WO.sd (wg rfl rfl (gfn rfl)) rfl ?_
        refine WO.q (.ptv (v := .bool _) rfl rfl rfl) (wg rfl rfl (gt k20)) rfl ?_
        refine WO.q (.ptv (v := .bool _) rfl k20 rfl) (wg rfl rfl (gf rfl)) rfl ?_
        refine WO.q (.pfv (v := .bool _) rfl rfl rfl) rfl rfl ?_
        refine WO.nil ?_
        refine WX.keep [12, 13, 14, 60] (WX.pk [2] (by decide) ?_) rfl
        exact gabionlaw14_AllocMakes_j7_ok h hn hx0 hr hE _ _ _ ⟨hB, _, _, n18, _, h18, rfl, rfl⟩
      · have q_k24 := of_decide_eq_false k24
        replace h := (if_neg q_k24).symm.trans h
        refine WO.q (.ldA (i := 0) rfl rfl rfl ti25 rfl) (wg rfl rfl (gf k24)) rfl ?_
        obtain ⟨y27, hy27, h⟩ := Option.bind_eq_some_iff.1 h
        refine WO.cS rfl rfl (lendC (j := 1) h17 rfl fun _ K29 g28 => alloc_Set_Size_ok g28 hy27) rfl (wg rfl rfl (gf k24)) rfl ?_
        rintro _ rfl
        refine WO.q (.mv (v := .int _ _) rfl) (wg rfl rfl (gf k24)) rfl ?_
        refine WO.q (.r fun _ => rfl) (wg rfl rfl (gf k24)) rfl ?_
        refine WO.q (.pfv (v := .bool _) rfl k24 rfl) (wg rfl rfl (gt k20)) rfl ?_
        refine WO.q (.mv (v := .bool _) rfl) (wg rfl rfl (gt k20)) rfl ?_
        rcases bsp (decide (y27 ≠ x4)) with k30 | k30
        · have q_k30 := of_decide_eq_true k30
          replace h := (if_pos q_k30).symm.trans h
          refine WO.sd (wg rfl rfl (gfn k30)) rfl ?_
          refine WO.sd (wg rfl rfl (gfn k30)) rfl ?_
          refine WO.sd (wg rfl rfl (gfn k30)) rfl ?_
          refine WO.q (.ptv (v := .bool _) rfl k30 rfl) (wg rfl rfl (gt k20)) rfl ?_
          refine WO.q (.ptv (v := .bool _) rfl k20 rfl) (wg rfl rfl (gf rfl)) rfl ?_
          refine WO.q (.pfv (v := .bool _) rfl rfl rfl) rfl rfl ?_
          refine WO.nil ?_
          refine WX.keep [12, 13, 14, 60] (WX.pk [2] (by decide) ?_) rfl
          exact gabionlaw14_AllocMakes_j7_ok h hn hx0 hr hE _ _ _ ⟨hB, _, _, n18, _, h18, rfl, rfl⟩
        · have q_k30 := of_decide_eq_false k30
          replace h := (if_neg q_k30).symm.trans h
          refine WO.q (.ldA (i := 0) rfl rfl rfl ti25 rfl) (wg rfl rfl (gf k30)) rfl ?_
          refine WO.q (.mv (v := .int _ _) rfl) (wg rfl rfl (gf k30)) rfl ?_
          obtain ⟨y31, hy31, h⟩ := Option.bind_eq_some_iff.1 h
          refine WO.cS rfl rfl (lendC (j := 1) h17 rfl fun _ K33 g32 => alloc_Set_Has_ok g32 hy31) rfl (wg rfl rfl (gf k30)) rfl ?_
          rintro _ rfl
          refine WO.q (.pfv (v := .bool _) rfl k30 rfl) (wg rfl rfl (gt k20)) rfl ?_
          refine WO.q (.ptv (v := .bool _) rfl k20 rfl) (wg rfl rfl (gf rfl)) rfl ?_
          refine WO.q (.pfv (v := .bool _) rfl rfl rfl) rfl rfl ?_
          refine WO.nil ?_
          refine WX.keep [12, 13, 14, 60] (WX.pk [2] (by decide) ?_) rfl
          exact gabionlaw14_AllocMakes_j7_ok h hn hx0 hr hE _ _ _ ⟨hB, _, _, n18, _, h18, rfl, rfl⟩
    · replace h := (if_neg (bnt k20)).symm.trans h
      refine WO.q (.mv (v := .int _ _) rfl) (wg rfl rfl (gt (t_not k20))) rfl ?_
      refine WO.q (.r fun _ => rfl) (wg rfl rfl (gt (t_not k20))) rfl ?_
      refine WO.q (.ptv (v := .bool _) rfl (t_not k20) rfl) (wg rfl rfl (gf (f_not k19))) rfl ?_
      refine WO.q (.pfv (v := .bool _) rfl (f_not k19) rfl) rfl rfl ?_
      refine WO.q (.mv (v := .bool _) rfl) rfl rfl ?_
      rcases bsp (decide (x6 ≠ 2)) with k34 | k34
      · have q_k34 := of_decide_eq_true k34
        replace h := (if_pos q_k34).symm.trans h
        refine WO.sd (wg rfl rfl (gfn k34)) rfl ?_
        refine WO.sd (wg rfl rfl (gfn k34)) rfl ?_
        refine WO.sd (wgu rfl rfl) rfl ?_
        refine WO.sd (wgu rfl rfl) rfl ?_
        refine WO.sd (wgu rfl rfl) rfl ?_
        refine WO.sd (wgu rfl rfl) rfl ?_
        refine WO.sd (wgu rfl rfl) rfl ?_
        refine WO.sd (wgu rfl rfl) rfl ?_
        refine WO.sd (wgu rfl rfl) rfl ?_
        refine WO.sd (wgu rfl rfl) rfl ?_
        refine WO.sd (wgu rfl rfl) rfl ?_
        refine WO.sd (wgu rfl rfl) rfl ?_
        refine WO.sd (wgu rfl rfl) rfl ?_
        refine WO.sd (wgu rfl rfl) rfl ?_
        refine WO.sd (wgu rfl rfl) rfl ?_
        refine WO.sd (wgu rfl rfl) rfl ?_
        refine WO.sd (wgu rfl rfl) rfl ?_
        refine WO.sd (wg rfl rfl (gfn k34)) rfl ?_
        refine WO.q (.ptv (v := .bool _) rfl k34 rfl) rfl rfl ?_
        refine WO.nil ?_
        refine WX.keep [12, 13, 14, 60] (WX.pk [2] (by decide) ?_) rfl
        exact gabionlaw14_AllocMakes_j7_ok h hn hx0 hr hE _ _ _ ⟨hB, _, _, n18, _, h18, rfl, rfl⟩
      · have q_k34 := of_decide_eq_false k34
        replace h := (if_neg q_k34).symm.trans h
        refine WO.q (.mv (v := .bool _) rfl) (wg rfl rfl (gf k34)) rfl ?_
        refine WO.q (.mv (v := .bool _) rfl) (wg rfl rfl (gf k34)) rfl ?_
        refine WO.sd (wg rfl rfl (gtn k20)) rfl ?_
        refine WO.sd (wg rfl rfl (gtn k20)) rfl ?_
        refine WO.sd (wg rfl rfl (gtn k20)) rfl ?_
        refine WO.sd (wg rfl rfl (gtn k20)) rfl ?_
        refine WO.sd (wg rfl rfl (gtn k20)) rfl ?_
        refine WO.sd (wgu rfl rfl) rfl ?_
        refine WO.sd (wgu rfl rfl) rfl ?_
        refine WO.sd (wgu rfl rfl) rfl ?_
        refine WO.sd (wgu rfl rfl) rfl ?_
        refine WO.sd (wg rfl rfl (gtn k20)) rfl ?_
        refine WO.sd (wg rfl rfl (gtn k20)) rfl ?_
        refine WO.sd (wgu rfl rfl) rfl ?_
        refine WO.sd (wgu rfl rfl) rfl ?_
        refine WO.sd (wgu rfl rfl) rfl ?_
        refine WO.sd (wg rfl rfl (gtn k20)) rfl ?_
        refine WO.q (.pfv (v := .bool _) rfl k20 rfl) (wg rfl rfl (gf k34)) rfl ?_
        refine WO.q (.pfv (v := .bool _) rfl k34 rfl) rfl rfl ?_
        refine WO.nil ?_
        refine WX.keep [12, 13, 14, 60] (WX.pk [2] (by decide) ?_) rfl
        exact gabionlaw14_AllocMakes_j7_ok h hn hx0 hr hE _ _ _ ⟨hB, _, _, n18, _, h18, rfl, rfl⟩
  · have q_k19 := of_decide_eq_false k19
    replace h := (if_neg q_k19).symm.trans h
    refine WO.sd (wg rfl rfl (gfn (t_not k19))) rfl ?_
    refine WO.sd (wg rfl rfl (gfn (t_not k19))) rfl ?_
    refine WO.sd (wg rfl rfl (gfn (t_not k19))) rfl ?_
    refine WO.sd (wgu rfl rfl) rfl ?_
    refine WO.sd (wgu rfl rfl) rfl ?_
    refine WO.sd (wg rfl rfl (gfn (t_not k19))) rfl ?_
    refine WO.q (.ptv (v := .bool _) rfl (t_not k19) rfl) rfl rfl ?_
    refine WO.q (.mv (v := .bool _) rfl) rfl rfl ?_
    refine WO.sd (wg rfl rfl (gfn rfl)) rfl ?_
    refine WO.sd (wg rfl rfl (gfn rfl)) rfl ?_
    refine WO.sd (wgu rfl rfl) rfl ?_
    refine WO.sd (wgu rfl rfl) rfl ?_
    refine WO.sd (wgu rfl rfl) rfl ?_
    refine WO.sd (wgu rfl rfl) rfl ?_
    refine WO.sd (wgu rfl rfl) rfl ?_
    refine WO.sd (wgu rfl rfl) rfl ?_
    refine WO.sd (wgu rfl rfl) rfl ?_
    refine WO.sd (wgu rfl rfl) rfl ?_
    refine WO.sd (wgu rfl rfl) rfl ?_
    refine WO.sd (wgu rfl rfl) rfl ?_
    refine WO.sd (wgu rfl rfl) rfl ?_
    refine WO.sd (wgu rfl rfl) rfl ?_
    refine WO.sd (wgu rfl rfl) rfl ?_
    refine WO.sd (wgu rfl rfl) rfl ?_
    refine WO.sd (wgu rfl rfl) rfl ?_
    refine WO.sd (wg rfl rfl (gfn rfl)) rfl ?_
    refine WO.q (.ptv (v := .bool _) rfl rfl rfl) rfl rfl ?_
    refine WO.nil ?_
    refine WX.keep [12, 13, 14, 60] (WX.pk [2] (by decide) ?_) rfl
    exact gabionlaw14_AllocMakes_j7_ok h hn hx0 hr hE _ _ _ ⟨hB, _, _, n18, _, h18, rfl, rfl⟩
theorem gabionlaw14_AllocMakes_l0_s {B0 : Kn} {L : Own} {n0 : Nat} {x12 : List Int} {x14 : Int} {Q : AV → St → Prop} {E : Int ⊕ (Bool ⊕ Unit) → Prop} {o : Int ⊕ (Bool ⊕ Unit)} (h : gabionlaw14_AllocMakes_l0 x12 x14 = some o) (hn : ∀ s, E (.inl s) → WXI Try.prog 63 n0 (Fin Try.prog Try.f3.results.toList n0 Q) [.lp (ct [1, 0, 1, 0, 0] (bodyOf Try.f3)), .blk 0, .code (ct [1, 1] (bodyOf Try.f3))] (gabionlaw14_AllocMakes_l0_I B0 x12 s) L) (hx0 : ∀ s, E (.inr (.inr s)) → WXI Try.prog 63 n0 (Fin Try.prog Try.f3.results.toList n0 Q) [.code (ct [1, 1] (bodyOf Try.f3))] (gabionlaw14_AllocMakes_l0_X0 B0) L) (hr : ∀ r, E (.inr (.inl r)) → ∀ v st, gabionlaw14_AllocMakes_P B0 L r v st → Q v st) (hE : E o) : WXI Try.prog 63 n0 (Fin Try.prog Try.f3.results.toList n0 Q) [.code (ct [1, 0, 1, 0, 0] (bodyOf Try.f3)), .lp (ct [1, 0, 1, 0, 0] (bodyOf Try.f3)), .blk 0, .code (ct [1, 1] (bodyOf Try.f3))] (gabionlaw14_AllocMakes_l0_I B0 x12 x14) L := by
  unfold gabionlaw14_AllocMakes_l0 at h
  rintro _ B _ ⟨hB, v5, b5, n5, c5, h5, rfl, rfl⟩
  obtain ⟨_, _, _, _, _, rfl⟩ := h5.isl
  refine WX.seq ?_
  refine WX.reg ?_
  refine WO.q (.r fun _ => rfl) rfl rfl ?_
  refine WO.nil ?_
  refine WX.seq ?_
  rcases bsp (decide (x14 < (x12.length : Int))) with k6 | k6
  · have q_k6 := of_decide_eq_true k6
    replace h := (if_pos q_k6).symm.trans h
    refine WX.condT rfl k6 ?_
    refine WX.skip ?_
    refine WX.seq ?_
    refine WX.block ?_
    refine WX.seq ?_
    refine WX.reg ?_
    obtain ⟨y7, hy7, h⟩ := Option.bind_eq_some_iff.1 h
    obtain rfl := h5.nonnil hy7
    obtain ⟨_, i_y7, l_y7, r_y7⟩ := h5.at sl22 hy7 .i64
    obtain rfl := r_y7
    refine WO.q (.ia i_y7) rfl rfl ?_
    refine WO.q (.ldS (i := 0) rfl rfl (l_y7.g0 rfl) ti3 rfl) rfl rfl ?_
    refine WO.q (.as (v := .int _ _) rfl) rfl rfl ?_
    refine WO.nil ?_
    refine WX.seq ?_
    refine WX.reg ?_
    refine WO.q (.mv (v := .int _ _) rfl) rfl rfl ?_
    obtain ⟨y8, hy8, h⟩ := Option.bind_eq_some_iff.1 h
    refine WO.c1 rfl rfl (alloc_New_ok hy8) rfl rfl rfl ?_
    rintro _ B _ hK ⟨v9, b10, n11, c12, rfl, rfl, h13⟩
    obtain ⟨_, _, _, _, _, rfl⟩ := h13.isl
    replace h5 := h5.up hK
    replace hB := hB.trans hK
    refine WO.q (.mv (v := .tup _) rfl) rfl rfl ?_
    refine WO.q (.r fun _ => rfl) rfl rfl ?_
    refine WO.q (.r fun _ => rfl) rfl rfl ?_
    refine WO.md (MOp.alloc ti25 rfl) rfl rfl ?_
    rintro _ _ ⟨b14, rfl, rfl⟩
    refine WO.mn (MOp.storeW rfl (cA rfl) .h ti25 rfl rfl rfl) rfl ?_
    rintro _ _ rfl
    refine WO.q (.as (v := .int _ _) rfl) rfl rfl ?_
    refine WO.nil ?_
    refine WX.seq ?_
    refine WX.reg ?_
    refine WO.q (.mv (v := .int _ _) rfl) rfl rfl ?_
    refine WO.q (.r fun _ => rfl) rfl rfl ?_
    refine WO.q (.mv (v := .bool _) rfl) rfl rfl ?_
    rcases bsp (decide (0 ≤ y7)) with k15 | k15
    · have q_k15 := of_decide_eq_true k15
      replace h := (if_pos q_k15).symm.trans h
      refine WO.q (.mv (v := .int _ _) rfl) (wg rfl rfl (gt k15)) rfl ?_
      refine WO.q (.r fun _ => rfl) (wg rfl rfl (gt k15)) rfl ?_
      refine WO.q (.ptv (v := .bool _) rfl k15 rfl) rfl rfl ?_
      refine WO.q (.as (v := .bool _) rfl) rfl rfl ?_
      refine WO.nil ?_
      refine WX.keep [4, 5, 6, 7, 12, 13, 14] (WX.pk [0, 1, 2] (by decide) ?_) rfl
      exact gabionlaw14_AllocMakes_j6_ok h hn hx0 hr hE _ _ _ ⟨hB, _, _, _, n11, _, _, _, false, _, h13, h5, rfl, rfl⟩
    · have q_k15 := of_decide_eq_false k15
      replace h := (if_neg q_k15).symm.trans h
      refine WO.sd (wg rfl rfl (gtn k15)) rfl ?_
      refine WO.sd (wg rfl rfl (gtn k15)) rfl ?_
      refine WO.q (.pfv (v := .bool _) rfl k15 rfl) rfl rfl ?_
      refine WO.q (.as (v := .bool _) rfl) rfl rfl ?_
      refine WO.nil ?_
      refine WX.keep [4, 5, 6, 7, 12, 13, 14] (WX.pk [0, 1, 2] (by decide) ?_) rfl
      exact gabionlaw14_AllocMakes_j6_ok h hn hx0 hr hE _ _ _ ⟨hB, _, _, _, n11, _, _, _, false, _, h13, h5, rfl, rfl⟩
  · have q_k6 := of_decide_eq_false k6
    replace h := (if_neg q_k6).symm.trans h
    refine WX.condF rfl k6 ?_
    refine WX.exit rfl ?_
    refine WX.keep [] (WX.pk [] (by decide) ?_) rfl
    obtain rfl := Option.some.inj h
    exact hx0 _ hE _ _ _ ⟨hB, rfl, rfl⟩
theorem gabionlaw14_AllocMakes_l0_ok {B0 : Kn} {L : Own} {n0 : Nat} {x12 : List Int} {x14 : Int} {Q : AV → St → Prop} {d : Nat} {e : Bool ⊕ Unit} (h : iter (fun (s : Int) => gabionlaw14_AllocMakes_l0 x12 s) d x14 = some e) (g0 : ∀ r, e = (.inl r) → ∀ v st, gabionlaw14_AllocMakes_P B0 L r v st → Q v st) (g1 : ∀ s, e = (.inr s) → WXI Try.prog 63 n0 (Fin Try.prog Try.f3.results.toList n0 Q) [.code (ct [1, 1] (bodyOf Try.f3))] (gabionlaw14_AllocMakes_l0_X0 B0) L) : WXI Try.prog 63 n0 (Fin Try.prog Try.f3.results.toList n0 Q) [.code (ct [1, 0, 1, 0, 0] (bodyOf Try.f3)), .lp (ct [1, 0, 1, 0, 0] (bodyOf Try.f3)), .blk 0, .code (ct [1, 1] (bodyOf Try.f3))] (gabionlaw14_AllocMakes_l0_I B0 x12 x14) L :=
  iter_ok (I := fun s => gabionlaw14_AllocMakes_l0_I B0 x12 s) (D := fun e => (∀ r, e = (.inl r) → ∀ v st, gabionlaw14_AllocMakes_P B0 L r v st → Q v st) ∧ (∀ s, e = (.inr s) → WXI Try.prog 63 n0 (Fin Try.prog Try.f3.results.toList n0 Q) [.code (ct [1, 1] (bodyOf Try.f3))] (gabionlaw14_AllocMakes_l0_X0 B0) L)) (fun E hn hx s o ho hE => gabionlaw14_AllocMakes_l0_s ho hn (fun s hs => (hx _ hs).2 _ rfl) (fun r hs => (hx _ hs).1 _ rfl) hE) h ⟨g0, g1⟩
theorem gabionlaw14_AllocMakes_ok {B0 : Kn} {L : Own} {a0 : Int} {r : Bool} (h : gabionlaw14_AllocMakes a0 = some r) : ∀ st, Hp B0 L st → ASpec Try.prog 3 [.int .i64 a0] st (gabionlaw14_AllocMakes_P B0 L r) := by
  unfold gabionlaw14_AllocMakes at h
  refine bodyA (A := []) Try.func3 rfl (c := bodyOf Try.f3) rfl Try.ntmps3 (lb rfl) fun n0 => ?_
  have hB := KLe.refl B0
  refine WX.seq ?_
  refine WX.reg ?_
  refine WO.q (.as (v := .bool _) rfl) rfl rfl ?_
  refine WO.nil ?_
  refine WX.seq ?_
  refine WX.seq ?_
  refine WX.reg ?_
  refine WO.q (.mv (v := .int _ _) rfl) rfl rfl ?_
  refine WO.q (.mv (v := .int _ _) rfl) rfl rfl ?_
  refine WO.q (.r fun _ => rfl) rfl rfl ?_
  refine WO.q (.r fun _ => rfl) rfl rfl ?_
  refine WO.md (MOp.bs (l := ([a0, (Int.tmod (mx 0 a0) 70000)] : List Int)) sl22 (RL.cons Ri (RL.cons Ri RL.nil)) (lb rfl) rfl rfl) rfl rfl ?_
  rintro v3 _ ⟨b1, o2, rfl⟩
  obtain ⟨_, _, _, _, _, rfl⟩ := o2.isl
  refine WO.q (.len rfl rfl rfl (sl22.len o2.isl)) rfl rfl ?_
  refine WO.q (.mv (v := .int _ _) rfl) rfl rfl ?_
  refine WO.nil ?_
  refine WX.block ?_
  refine WX.loop ?_
  obtain ⟨e35, he35, h⟩ := Option.bind_eq_some_iff.1 h
  refine WX.keep [12, 13, 14] (WX.pk [0] (by decide) ?_) rfl
  refine gabionlaw14_AllocMakes_l0_ok he35 ?_ ?_ _ _ _ ⟨hB, _, _, false, _, o2, rfl, rfl⟩
  · intro r37 he_
    subst he_
    replace h := (on_l h)
    obtain rfl := Option.some.inj h
    exact fun v st hp => hp
  · intro x38 he_
    subst he_
    replace h := (on_r h)
    rintro _ B _ ⟨hB, rfl, rfl⟩
    refine WX.seq ?_
    refine WX.reg ?_
    obtain ⟨y39, hy39, h⟩ := Option.bind_eq_some_iff.1 h
    refine WO.cS rfl rfl (gabionlaw14_wakes_ok hy39) rfl rfl rfl ?_
    rintro _ rfl
    refine WO.q (.as (v := .bool _) rfl) rfl rfl ?_
    refine WO.nil ?_
    obtain rfl := Option.some.inj h
    exact WX.ret (rs_ (rs_tmp rfl rs_nil)) fun st hp => ⟨(hp.pk [] (by decide)).le hB, rfl⟩
def slices_Clone_alloc_Extent_P (B : Kn) (L : Own) (r : List (Int × Int)) : AV → St → Prop := C1 B L fun B' v e0 => ∃ w b0 n0 c0, v = w ∧ e0 = oe b0 n0 c0 ∧ OSl EPIi64Ii64Q B' w b0 n0 c0 r
theorem slices_Clone_alloc_Extent_ok {B0 : Kn} {L : Own} {a0 : List (Int × Int)} {v0 : AV} {r : List (Int × Int)} (g : RSl EPIi64Ii64Q B0 v0 a0) (h : slices_Clone_alloc_Extent a0 = some r) : ∀ st, Hp B0 L st → ASpec Try.prog 65 [v0] st (slices_Clone_alloc_Extent_P B0 L r) := by
  unfold slices_Clone_alloc_Extent at h
  refine bodyA (A := []) Try.func65 rfl (c := bodyOf Try.f65) rfl Try.ntmps65 (lb rfl) fun n0 => ?_
  have hB := KLe.refl B0
  obtain ⟨sz, b, off, mc, nl, rfl, g1, g2, g3, g4⟩ := id g
  repeat refine WX.seq ?_
  refine WX.reg ?_
  refine WO.q (.as (v := .sl _ _ _ _ _ _) rfl) rfl rfl ?_
  refine WO.nil ?_
  repeat refine WX.seq ?_
  refine WX.reg ?_
  refine WO.q (.mv (v := .sl _ _ _ _ _ _) rfl) rfl rfl ?_
  refine WO.q (.bin (evslnil ti23 rfl _ _ _ _ _ _)) rfl rfl ?_
  refine WO.nil ?_
  repeat refine WX.seq ?_
  refine WX.cond rfl (fun hc => ?_) (fun hc => ?_)
  · have ha := g2 hc
    subst ha
    obtain ⟨_, rfl⟩ := appL_some h
    repeat refine WX.seq ?_
    refine WX.reg ?_
    refine WO.q (.as (v := .sl _ _ _ _ _ _) rfl) rfl rfl ?_
    refine WO.nil ?_
    exact WX.ret (rs_ (rs_tmp rfl rs_nil)) fun st hp => ⟨_, _, hB, ((hp.pk [] (by decide)).skip 0), _, 0, true, [], rfl, rfl, OSl.none _ _⟩
  · refine WX.skip ?_
    repeat refine WX.seq ?_
    refine WX.reg ?_
    refine WO.md (MOp.bs (l := ([] : List (Int × Int))) sl23 RL.nil (lb rfl) rfl rfl) rfl rfl ?_
    rintro v1 _ ⟨b1, o1, rfl⟩
    obtain ⟨_, _, _, _, _, rfl⟩ := o1.isl
    refine WO.q (.mv (v := .sl _ _ _ _ _ _) rfl) rfl rfl ?_
    obtain ⟨_, hs⟩ := Src.r sl23 g
    refine WO.md (MOp.app rfl rfl rfl sl23 o1 (hs _) h rfl rfl (fun _ => .h)) rfl rfl ?_
    rintro v2 _ ⟨b2, n2, o2, rfl⟩
    obtain ⟨_, _, _, _, _, rfl⟩ := o2.isl
    refine WO.q (.as (v := .sl _ _ _ _ _ _) rfl) rfl rfl ?_
    refine WO.nil ?_
    exact WX.ret (rs_ (rs_tmp rfl rs_nil)) fun st hp => ⟨_, _, hB, (hp.pk [0] (by decide)), _, _, n2, _, rfl, rfl, o2⟩

def alloc_Set_List_P (B : Kn) (L : Own) (r : (List (Int × Int))) : AV → St → Prop := C1 B L fun B' v e0 => ∃ w0 b0 n0 c0, v = w0 ∧ e0 = oe b0 n0 c0 ∧ OSl EPIi64Ii64Q B' w0 b0 n0 c0 r
theorem alloc_Set_List_ok {B0 : Kn} {L : Own} {a0 : Int × (List (Int × Int))} {v0_0 : AV} {r : (List (Int × Int))} (g0_0 : RSl EPIi64Ii64Q B0 v0_0 a0.2) (h : alloc_Set_List a0 = some r) : ∀ st, Hp B0 L st → ASpec Try.prog 21 [.agg [.int .i64 a0.1, v0_0]] st (alloc_Set_List_P B0 L r) := by
  unfold alloc_Set_List at h
  refine bodyA (A := []) Try.func21 rfl (c := bodyOf Try.f21) rfl Try.ntmps21 (lb rfl) fun n0 => ?_
  have hB := KLe.refl B0
  obtain ⟨_, _, _, _, _, rfl⟩ := g0_0.isl
  refine WX.seq ?_
  refine WX.reg ?_
  refine WO.md (MOp.box (cA rfl)) rfl rfl ?_
  rintro _ _ ⟨b1, rfl, rfl⟩
  refine WO.q (.as (v := .sl _ _ _ _ _ _) rfl) rfl rfl ?_
  refine WO.nil ?_
  refine WX.seq ?_
  refine WX.reg ?_
  refine WO.q (.fa (fa25_1 _ _)) rfl rfl ?_
  refine WO.q (.ldS (i := 0) rfl rfl rfl ti23 rfl) rfl rfl ?_
  obtain ⟨y2, hy2, h⟩ := Option.bind_eq_some_iff.1 h
  refine WO.c1 rfl rfl (slices_Clone_alloc_Extent_ok g0_0 hy2) rfl rfl rfl ?_
  rintro _ B _ hK ⟨v3, b4, n5, c6, rfl, rfl, h7⟩
  obtain ⟨_, _, _, _, _, rfl⟩ := h7.isl
  replace g0_0 := g0_0.up hK
  replace hB := hB.trans hK
  refine WO.q (.as (v := .sl _ _ _ _ _ _) rfl) rfl rfl ?_
  refine WO.nil ?_
  obtain rfl := Option.some.inj h
  exact WX.ret (rs_ (rs_tmp rfl rs_nil)) fun st hp => ⟨_, _, hB, (hp.pk [0] (by decide)), _, _, n5, _, rfl, rfl, h7⟩
end Gab
