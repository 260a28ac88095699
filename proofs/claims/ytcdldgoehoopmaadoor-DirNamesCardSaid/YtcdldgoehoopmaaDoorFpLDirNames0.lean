/- The Go code comes to what the Lean functions say. Written by a program (gp.py). -/
import Derived.Test.YtcdldgoehoopmaaDoorFd
import Derived.Test.YtcdldgoehoopmaaDoorTy
import Derived.Test.YtcdldgoehoopmaaDoorFpDir0
import Derived.Test.YtcdldgoehoopmaaDoorFpLaw170
import Derived.Test.YtcdldgoehoopmaaDoorFpRef170
import Derived.Test.YtcdldgoehoopmaaDoorHand
set_option linter.unusedSimpArgs false
set_option linter.unusedVariables false
set_option maxHeartbeats 4000000
set_option maxRecDepth 100000
namespace Gab
open Go Go.Proofs
def gabionlaw17_DirNames_P (B : Kn) (L : Own) (r : Heap × Bool) : AV → St → Prop := CH B L fun B' X E' v => v = .bool r.2 ∧ X = [] ∧ HR B' r.1 E'
def gabionlaw17_DirNames_j14_I (B0 : Kn) (H : Heap) (x88 : List (List UInt8)) (x90 : Int) : Fr → Kn → Own → Own → Prop := fun fr B A E => KLw B0 B ∧ HR B H E ∧ ∃ v26 b26 n26 c26, OSl Ty.str B v26 b26 n26 c26 x88 ∧ fr = [(88, v26), (89, .int .i64 (x88.length : Int)), (90, .int .i64 x90)] ∧ A = [oe b26 n26 c26]
def gabionlaw17_DirNames_j13_I (B0 : Kn) (H : Heap) (x88 : List (List UInt8)) (x90 : Int) (x123 : Bool) : Fr → Kn → Own → Own → Prop := fun fr B A E => KLw B0 B ∧ HR B H E ∧ ∃ v24 b24 n24 c24, OSl Ty.str B v24 b24 n24 c24 x88 ∧ fr = [(88, v24), (89, .int .i64 (x88.length : Int)), (90, .int .i64 x90), (123, .bool x123)] ∧ A = [oe b24 n24 c24]
def gabionlaw17_DirNames_j15_I (B0 : Kn) (H : Heap) (x88 : List (List UInt8)) (x90 : Int) (x135 : Bool) : Fr → Kn → Own → Own → Prop := fun fr B A E => KLw B0 B ∧ HR B H E ∧ ∃ v36 b36 n36 c36, OSl Ty.str B v36 b36 n36 c36 x88 ∧ fr = [(88, v36), (89, .int .i64 (x88.length : Int)), (90, .int .i64 x90), (135, .bool x135)] ∧ A = [oe b36 n36 c36]
def gabionlaw17_DirNames_l0_I (B0 : Kn) (H : Heap) (x88 : List (List UInt8)) (x90 : Int) : Fr → Kn → Own → Own → Prop := fun fr B A E => KLw B0 B ∧ HR B H E ∧ ∃ v17 b17 n17 c17, OSl Ty.str B v17 b17 n17 c17 x88 ∧ fr = [(88, v17), (89, .int .i64 (x88.length : Int)), (90, .int .i64 x90)] ∧ A = [oe b17 n17 c17]
def gabionlaw17_DirNames_l0_X0 (B0 : Kn) (H : Heap) : Fr → Kn → Own → Own → Prop := fun fr B A E => KLw B0 B ∧ HR B H E ∧ fr = [] ∧ A = []
def gabionlaw17_DirNames_j5_I (B0 : Kn) (H : Heap) (x0 : List UInt8) (x2 : Int) (x81 : Bool) (zb7 : (List UInt8) × Int) : Fr → Kn → Own → Own → Prop := fun fr B A E => KLw B0 B ∧ HR B H E ∧ ∃ b9, fr = [(0, .str x0), (2, .int .i64 x2), (7, .ptr b9 0), (81, .bool x81)] ∧ A = [(b9, some (.c [.str zb7.1, .int .i64 zb7.2]))]
theorem gabionlaw17_DirNames_j14_ok {B0 : Kn} {L : Own} {n0 : Nat} {H : Heap} {x88 : List (List UInt8)} {x90 : Int} {Q : AV → St → Prop} {E : Int ⊕ ((Heap × Bool) ⊕ Unit) → Prop} {o : Int ⊕ ((Heap × Bool) ⊕ Unit)} (h : gabionlaw17_DirNames_j14 H x88 x90 = some o) (hn : ∀ s, E (.inl s) → WXH Tryd.prog 137 n0 (Fin Tryd.prog Tryd.f6.results.toList n0 Q) [.lp (ct [1, 1, 1, 1, 1, 1, 0, 1, 0, 0] (bodyOf Tryd.f6)), .blk 0, .code (ct [1, 1, 1, 1, 1, 1, 1] (bodyOf Tryd.f6))] (gabionlaw17_DirNames_l0_I B0 H x88 s) L) (hx0 : ∀ s, E (.inr (.inr s)) → WXH Tryd.prog 137 n0 (Fin Tryd.prog Tryd.f6.results.toList n0 Q) [.code (ct [1, 1, 1, 1, 1, 1, 1] (bodyOf Tryd.f6))] (gabionlaw17_DirNames_l0_X0 B0 H) L) (hr : ∀ r, E (.inr (.inl r)) → ∀ v st, gabionlaw17_DirNames_P B0 L r v st → Q v st) (hE : E o) : WXH Tryd.prog 137 n0 (Fin Tryd.prog Tryd.f6.results.toList n0 Q) [.code (ct [1, 1, 1, 1, 1, 1, 0, 1, 0, 0, 1, 1, 1] (bodyOf Tryd.f6)), .lp (ct [1, 1, 1, 1, 1, 1, 0, 1, 0, 0] (bodyOf Tryd.f6)), .blk 0, .code (ct [1, 1, 1, 1, 1, 1, 1] (bodyOf Tryd.f6))] (gabionlaw17_DirNames_j14_I B0 H x88 x90) L := by
  unfold gabionlaw17_DirNames_j14 at h
  rintro _ B _ E ⟨hB, hH, v26, b26, n26, c26, h26, rfl, rfl⟩
  obtain ⟨_, _, _, _, _, rfl⟩ := h26.isl
  refine WX.reg ?_
  refine WO.q (.r fun _ => rfl) rfl rfl ?_
  refine WO.q (.mv (v := .int _ _) rfl) rfl rfl ?_
  refine WO.nil ?_
  refine WX.keepL [88, 89, 90] (WX.pk [0] (by decide) ?_) rfl
  obtain rfl := Option.some.inj h
  exact hn _ hE _ _ _ _ ⟨hB, hH, _, _, n26, _, h26, rfl, rfl⟩
theorem gabionlaw17_DirNames_j13_ok {B0 : Kn} {L : Own} {n0 : Nat} {H : Heap} {x88 : List (List UInt8)} {x90 : Int} {x123 : Bool} {Q : AV → St → Prop} {E : Int ⊕ ((Heap × Bool) ⊕ Unit) → Prop} {o : Int ⊕ ((Heap × Bool) ⊕ Unit)} (h : gabionlaw17_DirNames_j13 H x88 x90 x123 = some o) (hn : ∀ s, E (.inl s) → WXH Tryd.prog 137 n0 (Fin Tryd.prog Tryd.f6.results.toList n0 Q) [.lp (ct [1, 1, 1, 1, 1, 1, 0, 1, 0, 0] (bodyOf Tryd.f6)), .blk 0, .code (ct [1, 1, 1, 1, 1, 1, 1] (bodyOf Tryd.f6))] (gabionlaw17_DirNames_l0_I B0 H x88 s) L) (hx0 : ∀ s, E (.inr (.inr s)) → WXH Tryd.prog 137 n0 (Fin Tryd.prog Tryd.f6.results.toList n0 Q) [.code (ct [1, 1, 1, 1, 1, 1, 1] (bodyOf Tryd.f6))] (gabionlaw17_DirNames_l0_X0 B0 H) L) (hr : ∀ r, E (.inr (.inl r)) → ∀ v st, gabionlaw17_DirNames_P B0 L r v st → Q v st) (hE : E o) : WXH Tryd.prog 137 n0 (Fin Tryd.prog Tryd.f6.results.toList n0 Q) [.code (ct [1, 1, 1, 1, 1, 1, 0, 1, 0, 0, 1, 1, 0, 0, 1, 1, 1, 0, 1] (bodyOf Tryd.f6)), .blk 1, .code (ct [1, 1, 1, 1, 1, 1, 0, 1, 0, 0, 1, 1, 1] (bodyOf Tryd.f6)), .lp (ct [1, 1, 1, 1, 1, 1, 0, 1, 0, 0] (bodyOf Tryd.f6)), .blk 0, .code (ct [1, 1, 1, 1, 1, 1, 1] (bodyOf Tryd.f6))] (gabionlaw17_DirNames_j13_I B0 H x88 x90 x123) L := by
  unfold gabionlaw17_DirNames_j13 at h
  rintro _ B _ E ⟨hB, hH, v24, b24, n24, c24, h24, rfl, rfl⟩
  obtain ⟨_, _, _, _, _, rfl⟩ := h24.isl
  rcases bsp x123 with k25 | k25
  · replace h := (if_pos k25).symm.trans h
    refine WX.condT rfl k25 ?_
    refine WX.seq ?_
    refine WX.reg ?_
    refine WO.q (.as (v := .bool _) rfl) rfl rfl ?_
    refine WO.nil ?_
    obtain rfl := Option.some.inj h
    exact WX.ret (rs_ (rs_tmp rfl rs_nil)) fun st hp => hr _ hE _ _ ⟨_, _, _, hB, (hp.pk [] (by decide)), rfl, rfl, hH⟩
  · replace h := (if_neg (bnt k25)).symm.trans h
    refine WX.condF rfl k25 ?_
    refine WX.skip ?_
    refine WX.pop ?_
    refine WX.keep [88, 89, 90] (WX.pk [0] (by decide) ?_) rfl
    exact gabionlaw17_DirNames_j14_ok h hn hx0 hr hE _ _ _ _ ⟨hB, hH, _, _, n24, _, h24, rfl, rfl⟩
theorem gabionlaw17_DirNames_j15_ok {B0 : Kn} {L : Own} {n0 : Nat} {H : Heap} {x88 : List (List UInt8)} {x90 : Int} {x135 : Bool} {Q : AV → St → Prop} {E : Int ⊕ ((Heap × Bool) ⊕ Unit) → Prop} {o : Int ⊕ ((Heap × Bool) ⊕ Unit)} (h : gabionlaw17_DirNames_j15 H x88 x90 x135 = some o) (hn : ∀ s, E (.inl s) → WXH Tryd.prog 137 n0 (Fin Tryd.prog Tryd.f6.results.toList n0 Q) [.lp (ct [1, 1, 1, 1, 1, 1, 0, 1, 0, 0] (bodyOf Tryd.f6)), .blk 0, .code (ct [1, 1, 1, 1, 1, 1, 1] (bodyOf Tryd.f6))] (gabionlaw17_DirNames_l0_I B0 H x88 s) L) (hx0 : ∀ s, E (.inr (.inr s)) → WXH Tryd.prog 137 n0 (Fin Tryd.prog Tryd.f6.results.toList n0 Q) [.code (ct [1, 1, 1, 1, 1, 1, 1] (bodyOf Tryd.f6))] (gabionlaw17_DirNames_l0_X0 B0 H) L) (hr : ∀ r, E (.inr (.inl r)) → ∀ v st, gabionlaw17_DirNames_P B0 L r v st → Q v st) (hE : E o) : WXH Tryd.prog 137 n0 (Fin Tryd.prog Tryd.f6.results.toList n0 Q) [.code (ct [1, 1, 1, 1, 1, 1, 0, 1, 0, 0, 1, 1, 0, 0, 1, 1, 1, 1, 1] (bodyOf Tryd.f6)), .blk 1, .code (ct [1, 1, 1, 1, 1, 1, 0, 1, 0, 0, 1, 1, 1] (bodyOf Tryd.f6)), .lp (ct [1, 1, 1, 1, 1, 1, 0, 1, 0, 0] (bodyOf Tryd.f6)), .blk 0, .code (ct [1, 1, 1, 1, 1, 1, 1] (bodyOf Tryd.f6))] (gabionlaw17_DirNames_j15_I B0 H x88 x90 x135) L := by
  unfold gabionlaw17_DirNames_j15 at h
  rintro _ B _ E ⟨hB, hH, v36, b36, n36, c36, h36, rfl, rfl⟩
  obtain ⟨_, _, _, _, _, rfl⟩ := h36.isl
  rcases bsp x135 with k37 | k37
  · replace h := (if_pos k37).symm.trans h
    refine WX.condT rfl k37 ?_
    refine WX.seq ?_
    refine WX.reg ?_
    refine WO.q (.as (v := .bool _) rfl) rfl rfl ?_
    refine WO.nil ?_
    obtain rfl := Option.some.inj h
    exact WX.ret (rs_ (rs_tmp rfl rs_nil)) fun st hp => hr _ hE _ _ ⟨_, _, _, hB, (hp.pk [] (by decide)), rfl, rfl, hH⟩
  · replace h := (if_neg (bnt k37)).symm.trans h
    refine WX.condF rfl k37 ?_
    refine WX.skip ?_
    refine WX.pop ?_
    refine WX.keep [88, 89, 90] (WX.pk [0] (by decide) ?_) rfl
    exact gabionlaw17_DirNames_j14_ok h hn hx0 hr hE _ _ _ _ ⟨hB, hH, _, _, n36, _, h36, rfl, rfl⟩
theorem gabionlaw17_DirNames_l0_s {B0 : Kn} {L : Own} {n0 : Nat} {H : Heap} {x88 : List (List UInt8)} {x90 : Int} {Q : AV → St → Prop} {E : Int ⊕ ((Heap × Bool) ⊕ Unit) → Prop} {o : Int ⊕ ((Heap × Bool) ⊕ Unit)} (h : gabionlaw17_DirNames_l0 H x88 x90 = some o) (hn : ∀ s, E (.inl s) → WXH Tryd.prog 137 n0 (Fin Tryd.prog Tryd.f6.results.toList n0 Q) [.lp (ct [1, 1, 1, 1, 1, 1, 0, 1, 0, 0] (bodyOf Tryd.f6)), .blk 0, .code (ct [1, 1, 1, 1, 1, 1, 1] (bodyOf Tryd.f6))] (gabionlaw17_DirNames_l0_I B0 H x88 s) L) (hx0 : ∀ s, E (.inr (.inr s)) → WXH Tryd.prog 137 n0 (Fin Tryd.prog Tryd.f6.results.toList n0 Q) [.code (ct [1, 1, 1, 1, 1, 1, 1] (bodyOf Tryd.f6))] (gabionlaw17_DirNames_l0_X0 B0 H) L) (hr : ∀ r, E (.inr (.inl r)) → ∀ v st, gabionlaw17_DirNames_P B0 L r v st → Q v st) (hE : E o) : WXH Tryd.prog 137 n0 (Fin Tryd.prog Tryd.f6.results.toList n0 Q) [.code (ct [1, 1, 1, 1, 1, 1, 0, 1, 0, 0] (bodyOf Tryd.f6)), .lp (ct [1, 1, 1, 1, 1, 1, 0, 1, 0, 0] (bodyOf Tryd.f6)), .blk 0, .code (ct [1, 1, 1, 1, 1, 1, 1] (bodyOf Tryd.f6))] (gabionlaw17_DirNames_l0_I B0 H x88 x90) L := by
  unfold gabionlaw17_DirNames_l0 at h
  rintro _ B _ E ⟨hB, hH, v17, b17, n17, c17, h17, rfl, rfl⟩
  obtain ⟨_, _, _, _, _, rfl⟩ := h17.isl
  refine WX.seq ?_
  refine WX.reg ?_
  refine WO.q (.r fun _ => rfl) rfl rfl ?_
  refine WO.nil ?_
  refine WX.seq ?_
  rcases bsp (decide (x90 < (x88.length : Int))) with k18 | k18
  · have q_k18 := of_decide_eq_true k18
    replace h := (if_pos q_k18).symm.trans h
    refine WX.condT rfl k18 ?_
    refine WX.skip ?_
    refine WX.seq ?_
    refine WX.block ?_
    refine WX.seq ?_
    refine WX.reg ?_
    obtain ⟨y19, hy19, h⟩ := Option.bind_eq_some_iff.1 h
    obtain rfl := h17.nonnil hy19
    obtain ⟨_, i_y19, l_y19, r_y19⟩ := h17.at sl59 hy19 .i64
    obtain rfl := r_y19
    refine WO.q (.ia i_y19) rfl rfl ?_
    refine WO.q (.ldS (i := 0) rfl rfl (l_y19.g0 rfl) ti9 rfl) rfl rfl ?_
    refine WO.q (.as (v := .str _) rfl) rfl rfl ?_
    refine WO.nil ?_
    refine WX.seq ?_
    refine WX.reg ?_
    refine WO.q (.mv (v := .str _) rfl) rfl rfl ?_
    obtain ⟨y20, hy20, h⟩ := Option.bind_eq_some_iff.1 h
    refine WO.cS rfl rfl (dir_Parse_ok hy20) rfl rfl rfl ?_
    rintro _ rfl
    refine WO.q (.mv (v := .tup _) rfl) rfl rfl ?_
    refine WO.q (.r fun _ => rfl) rfl rfl ?_
    refine WO.q (.r fun _ => rfl) rfl rfl ?_
    refine WO.q (.r fun _ => rfl) rfl rfl ?_
    refine WO.md (MOp.alloc ti42 rfl) rfl rfl ?_
    rintro _ _ ⟨b21, rfl, rfl⟩
    refine WO.q (.as (v := .int _ _) rfl) rfl rfl ?_
    refine WO.mn (MOp.storeW rfl (cA rfl) .h ti42 rfl rfl rfl) rfl ?_
    rintro _ _ rfl
    refine WO.q (.as (v := .int _ _) rfl) rfl rfl ?_
    refine WO.nil ?_
    refine WX.seq ?_
    refine WX.reg ?_
    refine WO.q (.mv (v := .int _ _) rfl) rfl rfl ?_
    refine WO.q (.r fun _ => rfl) rfl rfl ?_
    refine WO.nil ?_
    rcases bsp (decide (y20.2.2 ≠ 0)) with k22 | k22
    · have q_k22 := of_decide_eq_true k22
      replace h := (if_pos q_k22).symm.trans h
      refine WX.condT rfl k22 ?_
      refine WX.seq ?_
      refine WX.reg ?_
      refine WO.q (.mv (v := .int _ _) rfl) rfl rfl ?_
      refine WO.q (.r fun _ => rfl) rfl rfl ?_
      refine WO.q (.mv (v := .bool _) rfl) rfl rfl ?_
      rcases bsp (decide (y20.2.2 ≠ 4)) with k23 | k23
      · have q_k23 := of_decide_eq_true k23
        replace h := (if_pos q_k23).symm.trans h
        refine WO.sd (wg rfl rfl (gfn k23)) rfl ?_
        refine WO.sd (wg rfl rfl (gfn k23)) rfl ?_
        refine WO.sd (wg rfl rfl (gfn k23)) rfl ?_
        refine WO.sd (wg rfl rfl (gfn k23)) rfl ?_
        refine WO.sd (wgu rfl rfl) rfl ?_
        refine WO.sd (wgu rfl rfl) rfl ?_
        refine WO.sd (wgu rfl rfl) rfl ?_
        refine WO.sd (wgu rfl rfl) rfl ?_
        refine WO.sd (wg rfl rfl (gfn k23)) rfl ?_
        refine WO.q (.ptv (v := .bool _) rfl k23 rfl) rfl rfl ?_
        refine WO.q (.mv (v := .bool _) rfl) rfl rfl ?_
        refine WO.sd (wg rfl rfl (gfn rfl)) rfl ?_
        refine WO.sd (wg rfl rfl (gfn rfl)) rfl ?_
        refine WO.sd (wg rfl rfl (gfn rfl)) rfl ?_
        refine WO.q (.ptv (v := .bool _) rfl rfl rfl) rfl rfl ?_
        refine WO.q (.mv (v := .bool _) rfl) rfl rfl ?_
        refine WO.sd (wg rfl rfl (gfn rfl)) rfl ?_
        refine WO.sd (wg rfl rfl (gfn rfl)) rfl ?_
        refine WO.q (.ptv (v := .bool _) rfl rfl rfl) rfl rfl ?_
        refine WO.nil ?_
        refine WX.keep [88, 89, 90, 123] (WX.pk [1] (by decide) ?_) rfl
        exact gabionlaw17_DirNames_j13_ok h hn hx0 hr hE _ _ _ _ ⟨hB, hH, _, _, false, _, h17, rfl, rfl⟩
      · have q_k23 := of_decide_eq_false k23
        replace h := (if_neg q_k23).symm.trans h
        refine WO.q (.mv (v := .str _) rfl) (wg rfl rfl (gf k23)) rfl ?_
        refine WO.q (.len rfl rfl rfl (evslen ti9 rfl _)) (wg rfl rfl (gf k23)) rfl ?_
        refine WO.q (.r fun _ => rfl) (wg rfl rfl (gf k23)) rfl ?_
        refine WO.q (.mv (v := .bool _) rfl) (wg rfl rfl (gf k23)) rfl ?_
        rcases bsp (decide (4 < (y19.length : Int))) with k27 | k27
        · have q_k27 := of_decide_eq_true k27
          replace h := (if_pos q_k27).symm.trans h
          refine WO.q (.mv (v := .str _) rfl) (wg rfl rfl (gt k27)) rfl ?_
          obtain ⟨y28, hy28, h⟩ := Option.bind_eq_some_iff.1 h
          refine WO.q (.sl (evscut ti9 rfl hy28 (bnd_int (cutL_some hy28).1.1) rfl)) (wg rfl rfl (gt k27)) rfl ?_
          obtain ⟨y29, hy29, h⟩ := Option.bind_eq_some_iff.1 h
          refine WO.cS rfl rfl (gabionref17_Name_ok hy29) rfl (wg rfl rfl (gt k27)) rfl ?_
          rintro _ rfl
          refine WO.q (.r fun _ => rfl) (wg rfl rfl (gt k27)) rfl ?_
          refine WO.q (.ptv (v := .bool _) rfl k27 rfl) (wg rfl rfl (gf k23)) rfl ?_
          refine WO.q (.pfv (v := .bool _) rfl k23 rfl) rfl rfl ?_
          refine WO.q (.mv (v := .bool _) rfl) rfl rfl ?_
          rcases bsp (decide (y29 = 0)) with k30 | k30
          · have q_k30 := of_decide_eq_true k30
            replace h := (if_pos q_k30).symm.trans h
            refine WO.sd (wg rfl rfl (gfn k30)) rfl ?_
            refine WO.sd (wg rfl rfl (gfn k30)) rfl ?_
            refine WO.sd (wg rfl rfl (gfn k30)) rfl ?_
            refine WO.q (.ptv (v := .bool _) rfl k30 rfl) rfl rfl ?_
            refine WO.q (.mv (v := .bool _) rfl) rfl rfl ?_
            refine WO.sd (wg rfl rfl (gfn rfl)) rfl ?_
            refine WO.sd (wg rfl rfl (gfn rfl)) rfl ?_
            refine WO.q (.ptv (v := .bool _) rfl rfl rfl) rfl rfl ?_
            refine WO.nil ?_
            refine WX.keep [88, 89, 90, 123] (WX.pk [1] (by decide) ?_) rfl
            exact gabionlaw17_DirNames_j13_ok h hn hx0 hr hE _ _ _ _ ⟨hB, hH, _, _, false, _, h17, rfl, rfl⟩
          · have q_k30 := of_decide_eq_false k30
            replace h := (if_neg q_k30).symm.trans h
            refine WO.q (.ldA (i := 0) rfl rfl rfl ti42 rfl) (wg rfl rfl (gf k30)) rfl ?_
            refine WO.q (.bd (bd42_n)) (wg rfl rfl (gf k30)) rfl ?_
            refine WO.q (.bin (neq42 _ _ _ _)) (wg rfl rfl (gf k30)) rfl ?_
            refine WO.q (.pfv (v := .bool _) rfl k30 rfl) rfl rfl ?_
            refine WO.q (.mv (v := .bool _) rfl) rfl rfl ?_
            rcases bsp (decide (y20.2.1.1 = ([] : List UInt8)) && (decide (y20.2.1.2 = 0) && true)) with k31 | k31
            · replace h := (if_pos k31).symm.trans h
              refine WO.q (.mv (v := .int _ _) rfl) (wg rfl rfl (gf (f_not k31))) rfl ?_
              refine WO.q (.r fun _ => rfl) (wg rfl rfl (gf (f_not k31))) rfl ?_
              refine WO.q (.pfv (v := .bool _) rfl (f_not k31) rfl) rfl rfl ?_
              refine WO.nil ?_
              refine WX.keep [88, 89, 90, 123] (WX.pk [1] (by decide) ?_) rfl
              exact gabionlaw17_DirNames_j13_ok h hn hx0 hr hE _ _ _ _ ⟨hB, hH, _, _, false, _, h17, rfl, rfl⟩
            · replace h := (if_neg (bnt k31)).symm.trans h
              refine WO.sd (wg rfl rfl (gfn (t_not k31))) rfl ?_
              refine WO.sd (wg rfl rfl (gfn (t_not k31))) rfl ?_
              refine WO.q (.ptv (v := .bool _) rfl (t_not k31) rfl) rfl rfl ?_
              refine WO.nil ?_
              refine WX.keep [88, 89, 90, 123] (WX.pk [1] (by decide) ?_) rfl
              exact gabionlaw17_DirNames_j13_ok h hn hx0 hr hE _ _ _ _ ⟨hB, hH, _, _, false, _, h17, rfl, rfl⟩
        · have q_k27 := of_decide_eq_false k27
          replace h := (if_neg q_k27).symm.trans h
          refine WO.sd (wg rfl rfl (gtn k27)) rfl ?_
          refine WO.sd (wg rfl rfl (gtn k27)) rfl ?_
          refine WO.sd (wg rfl rfl (gtn k27)) rfl ?_
          refine WO.sd (wg rfl rfl (gtn k27)) rfl ?_
          refine WO.q (.pfv (v := .bool _) rfl k27 rfl) (wg rfl rfl (gf k23)) rfl ?_
          refine WO.q (.pfv (v := .bool _) rfl k23 rfl) rfl rfl ?_
          refine WO.q (.mv (v := .bool _) rfl) rfl rfl ?_
          refine WO.q (.ldA (i := 0) rfl rfl rfl ti42 rfl) (wg rfl rfl (gf rfl)) rfl ?_
          refine WO.q (.bd (bd42_n)) (wg rfl rfl (gf rfl)) rfl ?_
          refine WO.q (.bin (neq42 _ _ _ _)) (wg rfl rfl (gf rfl)) rfl ?_
          refine WO.q (.pfv (v := .bool _) rfl rfl rfl) rfl rfl ?_
          refine WO.q (.mv (v := .bool _) rfl) rfl rfl ?_
          rcases bsp (decide (y20.2.1.1 = ([] : List UInt8)) && (decide (y20.2.1.2 = 0) && true)) with k32 | k32
          · replace h := (if_pos k32).symm.trans h
            refine WO.q (.mv (v := .int _ _) rfl) (wg rfl rfl (gf (f_not k32))) rfl ?_
            refine WO.q (.r fun _ => rfl) (wg rfl rfl (gf (f_not k32))) rfl ?_
            refine WO.q (.pfv (v := .bool _) rfl (f_not k32) rfl) rfl rfl ?_
            refine WO.nil ?_
            refine WX.keep [88, 89, 90, 123] (WX.pk [1] (by decide) ?_) rfl
            exact gabionlaw17_DirNames_j13_ok h hn hx0 hr hE _ _ _ _ ⟨hB, hH, _, _, false, _, h17, rfl, rfl⟩
          · replace h := (if_neg (bnt k32)).symm.trans h
            refine WO.sd (wg rfl rfl (gfn (t_not k32))) rfl ?_
            refine WO.sd (wg rfl rfl (gfn (t_not k32))) rfl ?_
            refine WO.q (.ptv (v := .bool _) rfl (t_not k32) rfl) rfl rfl ?_
            refine WO.nil ?_
            refine WX.keep [88, 89, 90, 123] (WX.pk [1] (by decide) ?_) rfl
            exact gabionlaw17_DirNames_j13_ok h hn hx0 hr hE _ _ _ _ ⟨hB, hH, _, _, false, _, h17, rfl, rfl⟩
    · have q_k22 := of_decide_eq_false k22
      replace h := (if_neg q_k22).symm.trans h
      refine WX.condF rfl k22 ?_
      refine WX.seq ?_
      refine WX.reg ?_
      refine WO.q (.ldA (i := 0) rfl rfl rfl ti42 rfl) rfl rfl ?_
      refine WO.q (.mv (v := .int _ _) rfl) rfl rfl ?_
      obtain ⟨y33, hy33, h⟩ := Option.bind_eq_some_iff.1 h
      refine WO.cS rfl rfl (dir_Entry_Text_ok hy33) rfl rfl rfl ?_
      rintro _ rfl
      refine WO.q (.mv (v := .str _) rfl) rfl rfl ?_
      refine WO.q (.r fun _ => rfl) rfl rfl ?_
      refine WO.q (.mv (v := .bool _) rfl) rfl rfl ?_
      rcases bsp (decide (y33 = y19)) with k34 | k34
      · have q_k34 := of_decide_eq_true k34
        replace h := (if_pos q_k34).symm.trans h
        refine WO.q (.ldA (i := 0) rfl rfl rfl ti42 rfl) (wg rfl rfl (gf (f_not k34))) rfl ?_
        refine WO.q (.mv (v := .int _ _) rfl) (wg rfl rfl (gf (f_not k34))) rfl ?_
        obtain ⟨y35, hy35, h⟩ := Option.bind_eq_some_iff.1 h
        refine WO.cS rfl rfl (gabionref17_Text_ok hy35) rfl (wg rfl rfl (gf (f_not k34))) rfl ?_
        rintro _ rfl
        refine WO.q (.mv (v := .str _) rfl) (wg rfl rfl (gf (f_not k34))) rfl ?_
        refine WO.q (.r fun _ => rfl) (wg rfl rfl (gf (f_not k34))) rfl ?_
        refine WO.q (.pfv (v := .bool _) rfl (f_not k34) rfl) rfl rfl ?_
        refine WO.nil ?_
        refine WX.keep [88, 89, 90, 135] (WX.pk [1] (by decide) ?_) rfl
        exact gabionlaw17_DirNames_j15_ok h hn hx0 hr hE _ _ _ _ ⟨hB, hH, _, _, false, _, h17, rfl, rfl⟩
      · have q_k34 := of_decide_eq_false k34
        replace h := (if_neg q_k34).symm.trans h
        refine WO.sd (wg rfl rfl (gfn (t_not k34))) rfl ?_
        refine WO.sd (wg rfl rfl (gfn (t_not k34))) rfl ?_
        refine WO.sd (wg rfl rfl (gfn (t_not k34))) rfl ?_
        refine WO.sd (wg rfl rfl (gfn (t_not k34))) rfl ?_
        refine WO.sd (wg rfl rfl (gfn (t_not k34))) rfl ?_
        refine WO.q (.ptv (v := .bool _) rfl (t_not k34) rfl) rfl rfl ?_
        refine WO.nil ?_
        refine WX.keep [88, 89, 90, 135] (WX.pk [1] (by decide) ?_) rfl
        exact gabionlaw17_DirNames_j15_ok h hn hx0 hr hE _ _ _ _ ⟨hB, hH, _, _, false, _, h17, rfl, rfl⟩
  · have q_k18 := of_decide_eq_false k18
    replace h := (if_neg q_k18).symm.trans h
    refine WX.condF rfl k18 ?_
    refine WX.exit rfl ?_
    refine WX.keep [] (WX.pk [] (by decide) ?_) rfl
    obtain rfl := Option.some.inj h
    exact hx0 _ hE _ _ _ _ ⟨hB, hH, rfl, rfl⟩
theorem gabionlaw17_DirNames_l0_ok {B0 : Kn} {L : Own} {n0 : Nat} {H : Heap} {x88 : List (List UInt8)} {x90 : Int} {Q : AV → St → Prop} {d : Nat} {e : (Heap × Bool) ⊕ Unit} (h : iter (fun (s : Int) => gabionlaw17_DirNames_l0 H x88 s) d x90 = some e) (g0 : ∀ r, e = (.inl r) → ∀ v st, gabionlaw17_DirNames_P B0 L r v st → Q v st) (g1 : ∀ s, e = (.inr s) → WXH Tryd.prog 137 n0 (Fin Tryd.prog Tryd.f6.results.toList n0 Q) [.code (ct [1, 1, 1, 1, 1, 1, 1] (bodyOf Tryd.f6))] (gabionlaw17_DirNames_l0_X0 B0 H) L) : WXH Tryd.prog 137 n0 (Fin Tryd.prog Tryd.f6.results.toList n0 Q) [.code (ct [1, 1, 1, 1, 1, 1, 0, 1, 0, 0] (bodyOf Tryd.f6)), .lp (ct [1, 1, 1, 1, 1, 1, 0, 1, 0, 0] (bodyOf Tryd.f6)), .blk 0, .code (ct [1, 1, 1, 1, 1, 1, 1] (bodyOf Tryd.f6))] (gabionlaw17_DirNames_l0_I B0 H x88 x90) L :=
  iter_okH (I := fun s => gabionlaw17_DirNames_l0_I B0 H x88 s) (D := fun e => (∀ r, e = (.inl r) → ∀ v st, gabionlaw17_DirNames_P B0 L r v st → Q v st) ∧ (∀ s, e = (.inr s) → WXH Tryd.prog 137 n0 (Fin Tryd.prog Tryd.f6.results.toList n0 Q) [.code (ct [1, 1, 1, 1, 1, 1, 1] (bodyOf Tryd.f6))] (gabionlaw17_DirNames_l0_X0 B0 H) L)) (fun E hn hx s o ho hE => gabionlaw17_DirNames_l0_s (x90 := s) ho hn (fun s hs => (hx _ hs).2 _ rfl) (fun r hs => (hx _ hs).1 _ rfl) hE) h ⟨g0, g1⟩
theorem gabionlaw17_DirNames_j5_ok {B0 : Kn} {L : Own} {n0 : Nat} {H : Heap} {x0 : List UInt8} {x2 : Int} {x81 : Bool} {zb7 : (List UInt8) × Int} {r : Heap × Bool} (h : gabionlaw17_DirNames_j5 H x0 x2 x81 zb7 = some r) : WXH Tryd.prog 137 n0 (Fin Tryd.prog Tryd.f6.results.toList n0 (gabionlaw17_DirNames_P B0 L r)) [.code (ct [1, 1, 1, 1, 1, 0, 1] (bodyOf Tryd.f6)), .code (ct [1, 1, 1, 1, 1, 1] (bodyOf Tryd.f6))] (gabionlaw17_DirNames_j5_I B0 H x0 x2 x81 zb7) L := by
  unfold gabionlaw17_DirNames_j5 at h
  rintro _ B _ E ⟨hB, hH, b9, rfl, rfl⟩
  rcases bsp x81 with k10 | k10
  · replace h := (if_pos k10).symm.trans h
    refine WX.condT rfl k10 ?_
    refine WX.seq ?_
    refine WX.reg ?_
    refine WO.q (.as (v := .bool _) rfl) rfl rfl ?_
    refine WO.nil ?_
    obtain rfl := Option.some.inj h
    exact WX.ret (rs_ (rs_tmp rfl rs_nil)) fun st hp => ⟨_, _, _, hB, (hp.pk [] (by decide)), rfl, rfl, hH⟩
  · replace h := (if_neg (bnt k10)).symm.trans h
    refine WX.condF rfl k10 ?_
    refine WX.skip ?_
    refine WX.seq ?_
    refine WX.seq ?_
    refine WX.reg ?_
    refine WO.q (.mv (v := .str _) rfl) rfl rfl ?_
    refine WO.q (.ldA (i := 0) rfl rfl rfl ti42 rfl) rfl rfl ?_
    refine WO.q (.mv (v := .int _ _) rfl) rfl rfl ?_
    obtain ⟨y11, hy11, h⟩ := Option.bind_eq_some_iff.1 h
    refine WO.cS rfl rfl (dir_Entry_Text_ok hy11) rfl rfl rfl ?_
    rintro _ rfl
    refine WO.q (.mv (v := .str _) rfl) rfl rfl ?_
    obtain ⟨y12, hy12, h⟩ := Option.bind_eq_some_iff.1 h
    refine WO.q (.bin (evcat hy12)) rfl rfl ?_
    refine WO.md (MOp.bs (l := ([x0, y11, y12] : List (List UInt8))) sl59 (RL.cons Rs (RL.cons Rs (RL.cons Rs RL.nil))) (lb rfl) rfl rfl) rfl rfl ?_
    rintro v15 _ ⟨b13, o14, rfl⟩
    obtain ⟨_, _, _, _, _, rfl⟩ := o14.isl
    refine WO.q (.len rfl rfl rfl (sl59.len o14.isl)) rfl rfl ?_
    refine WO.q (.mv (v := .int _ _) rfl) rfl rfl ?_
    refine WO.nil ?_
    refine WX.block ?_
    refine WX.loop ?_
    obtain ⟨e38, he38, h⟩ := Option.bind_eq_some_iff.1 h
    refine WX.keep [88, 89, 90] (WX.pk [0] (by decide) ?_) rfl
    refine gabionlaw17_DirNames_l0_ok he38 ?_ ?_ _ _ _ _ ⟨hB, hH, _, _, false, _, o14, rfl, rfl⟩
    · intro r40 he_
      subst he_
      replace h := (on_l h)
      obtain rfl := Option.some.inj h
      exact fun v st hp => hp
    · intro x41 he_
      subst he_
      replace h := (on_r h)
      rintro _ B _ E ⟨hB, hH, rfl, rfl⟩
      refine WX.seq ?_
      refine WX.reg ?_
      refine WO.q (.as (v := .bool _) rfl) rfl rfl ?_
      refine WO.nil ?_
      obtain rfl := Option.some.inj h
      exact WX.ret (rs_ (rs_tmp rfl rs_nil)) fun st hp => ⟨_, _, _, hB, (hp.pk [] (by decide)), rfl, rfl, hH⟩
theorem gabionlaw17_DirNames_ok {B0 : Kn} {L : Own} {H : Heap} {E : Own} (hH : HR B0 H E) {a0 : List UInt8} {a1 : Int} {a2 : Int} {r : Heap × Bool} (h : gabionlaw17_DirNames H a0 a1 a2 = some r) : ∀ st, Hp B0 (E ++ L) st → ASpec Tryd.prog 6 [.str a0, .int .i64 a1, .int .i64 a2] st (gabionlaw17_DirNames_P B0 L r) := by
  unfold gabionlaw17_DirNames at h
  refine bodyA (A := []) (L := E ++ L) Tryd.func6 rfl (c := bodyOf Tryd.f6) rfl Tryd.ntmps6 (lb rfl) fun n0 => ?_
  have hB := KLw.refl B0
  refine WX.seq ?_
  refine WX.reg ?_
  refine WO.q (.as (v := .bool _) rfl) rfl rfl ?_
  refine WO.nil ?_
  refine WX.seq ?_
  refine WX.reg ?_
  refine WO.q (.mv (v := .str _) rfl) rfl rfl ?_
  refine WO.q (.mv (v := .str _) rfl) rfl rfl ?_
  refine WO.q (.len rfl rfl rfl (evslen ti9 rfl _)) rfl rfl ?_
  refine WO.q (.r fun _ => rfl) rfl rfl ?_
  obtain ⟨y1, hy1, h⟩ := Option.bind_eq_some_iff.1 h
  refine WO.q (.sl (evscut ti9 rfl hy1 bnd_none (bnd_int (Int.le_trans (cutL_some hy1).1.1 (cutL_some hy1).1.2.1)))) rfl rfl ?_
  refine WO.q (.as (v := .str _) rfl) rfl rfl ?_
  refine WO.nil ?_
  refine WX.seq ?_
  refine WX.reg ?_
  refine WO.q (.mv (v := .str _) rfl) rfl rfl ?_
  refine WO.q (.mv (v := .int _ _) rfl) rfl rfl ?_
  refine WO.q (.bd (bd42_0_1 (cS rfl) (cI rfl))) rfl rfl ?_
  refine WO.md (MOp.alloc ti42 rfl) rfl rfl ?_
  rintro _ _ ⟨b2, rfl, rfl⟩
  refine WO.mn (MOp.storeW rfl (cA rfl) .h ti42 rfl rfl rfl) rfl ?_
  rintro _ _ rfl
  refine WO.nil ?_
  refine WX.seq ?_
  refine WX.reg ?_
  refine WO.q (.as (v := .nilptr) rfl) rfl rfl ?_
  refine WO.nil ?_
  refine WX.seq ?_
  refine WX.reg ?_
  refine WO.q (.mv (v := .nilptr) rfl) rfl rfl ?_
  refine WO.q (.mv (v := .str _) rfl) rfl rfl ?_
  obtain ⟨y3, hy3, h⟩ := Option.bind_eq_some_iff.1 h
  refine WO.ch rfl rfl (dir_Dir_Get_ok hH HPt.nil hy3) rfl rfl rfl ?_
  rintro _ B _ E hK ⟨rfl, rfl, hH⟩
  replace hB := hB.trans hK
  refine WO.q (.mv (v := .tup _) rfl) rfl rfl ?_
  refine WO.q (.r fun _ => rfl) rfl rfl ?_
  refine WO.q (.r fun _ => rfl) rfl rfl ?_
  refine WO.q (.as (v := .int _ _) rfl) rfl rfl ?_
  refine WO.q (.as (v := .bool _) rfl) rfl rfl ?_
  refine WO.nil ?_
  refine WX.seq ?_
  refine WX.seq ?_
  refine WX.drw (Plan.of [0, 1, 2, 3, 5, 4, 6, 7, 8, 9, 10, 11, 13, 14, 12, 15, 16, 17, 18, 19, 20, 21, 22, 23, 24, 25, 26, 27, 28, 29, 30, 31, 32, 33, 34, 35, 36, 37, 38, 39, 40, 42, 46, 41, 43, 44, 45, 47, 48, 49, 50, 51] .nil) _ mixed (by kernel_rfl) rfl (subL (pk_sub [0])) ?_
  obtain ⟨y4, hy4, h⟩ := Option.bind_eq_some_iff.1 h
  refine WP.ch (i := 0) rfl rfl rfl (gabionlaw17_wakes_ok hH hy4) rfl rfl rfl (pk_in (jx := [0]) rfl) ?_
  rintro _ B _ E hK ⟨rfl, rfl, hH⟩
  replace hB := hB.trans hK
  refine WP.q (i := 1) rfl (.r fun _ => rfl) rfl rfl rfl ?_
  refine WP.q (i := 2) rfl (.mv (v := .bool _) rfl) rfl rfl rfl ?_
  rcases bsp y4.2 with k5 | k5
  · replace h := (if_pos k5).symm.trans h
    refine WP.q (i := 3) rfl (.mv (v := .str _) rfl) rfl (wg rfl rfl (gf (f_not k5))) rfl ?_
    refine WP.q (i := 5) rfl (.mv (v := .str _) rfl) rfl (wg rfl rfl (gf (f_not k5))) rfl ?_
    obtain ⟨y6, hy6, h⟩ := Option.bind_eq_some_iff.1 h
    refine WP.cS (i := 4) rfl rfl rfl (dir_Name_ok hy6) rfl (wg rfl rfl (gf (f_not k5))) rfl ?_
    rintro _ rfl
    obtain ⟨y7, hy7, h⟩ := Option.bind_eq_some_iff.1 h
    refine WP.cS (i := 6) rfl rfl rfl (gabionref17_Name_ok hy7) rfl (wg rfl rfl (gf (f_not k5))) rfl ?_
    rintro _ rfl
    refine WP.q (i := 7) rfl (.r fun _ => rfl) rfl (wg rfl rfl (gf (f_not k5))) rfl ?_
    refine WP.q (i := 8) rfl (.pfv (v := .bool _) rfl (f_not k5) rfl) rfl rfl rfl ?_
    refine WP.q (i := 9) rfl (.mv (v := .bool _) rfl) rfl rfl rfl ?_
    rcases bsp (decide (y6 ≠ y7)) with k8 | k8
    · have q_k8 := of_decide_eq_true k8
      replace h := (if_pos q_k8).symm.trans h
      refine WP.sk (i := 10) rfl rfl (wg rfl rfl (gfn k8)) rfl ?_
      refine WP.sk (i := 11) rfl rfl (wg rfl rfl (gfn k8)) rfl ?_
      refine WP.sk (i := 13) rfl rfl (wg rfl rfl (gfn k8)) rfl ?_
      refine WP.sk (i := 14) rfl rfl (wg rfl rfl (gfn k8)) rfl ?_
      refine WP.sd (i := 12) rfl rfl (wg rfl rfl (gfn k8)) rfl ?_
      refine WP.sd (i := 15) rfl rfl (wg rfl rfl (gfn k8)) rfl ?_
      refine WP.sk (i := 16) rfl rfl (wg rfl rfl (gfn k8)) rfl ?_
      refine WP.q (i := 17) rfl (.ptv (v := .bool _) rfl k8 rfl) rfl rfl rfl ?_
      refine WP.q (i := 18) rfl (.mv (v := .bool _) rfl) rfl rfl rfl ?_
      refine WP.sk (i := 19) rfl rfl (wg rfl rfl (gfn rfl)) rfl ?_
      refine WP.q (i := 20) rfl (.ptv (v := .bool _) rfl rfl rfl) rfl rfl rfl ?_
      refine WP.q (i := 21) rfl (.mv (v := .bool _) rfl) rfl rfl rfl ?_
      refine WP.sk (i := 22) rfl rfl (wg rfl rfl (gfn rfl)) rfl ?_
      refine WP.sk (i := 23) rfl rfl (wg rfl rfl (gfn rfl)) rfl ?_
      refine WP.sk (i := 24) rfl rfl (wg rfl rfl (gfn rfl)) rfl ?_
      refine WP.sd (i := 25) rfl rfl (wg rfl rfl (gfn rfl)) rfl ?_
      refine WP.sk (i := 26) rfl rfl (wg rfl rfl (gfn rfl)) rfl ?_
      refine WP.q (i := 27) rfl (.ptv (v := .bool _) rfl rfl rfl) rfl rfl rfl ?_
      refine WP.q (i := 28) rfl (.mv (v := .bool _) rfl) rfl rfl rfl ?_
      refine WP.sk (i := 29) rfl rfl (wg rfl rfl (gfn rfl)) rfl ?_
      refine WP.sk (i := 30) rfl rfl (wg rfl rfl (gfn rfl)) rfl ?_
      refine WP.sd (i := 31) rfl rfl (wg rfl rfl (gfn rfl)) rfl ?_
      refine WP.sk (i := 32) rfl rfl (wg rfl rfl (gfn rfl)) rfl ?_
      refine WP.q (i := 33) rfl (.ptv (v := .bool _) rfl rfl rfl) rfl rfl rfl ?_
      refine WP.q (i := 34) rfl (.mv (v := .bool _) rfl) rfl rfl rfl ?_
      refine WP.sk (i := 35) rfl rfl (wg rfl rfl (gfn rfl)) rfl ?_
      refine WP.sd (i := 36) rfl rfl (wg rfl rfl (gfn rfl)) rfl ?_
      refine WP.sk (i := 37) rfl rfl (wg rfl rfl (gfn rfl)) rfl ?_
      refine WP.q (i := 38) rfl (.ptv (v := .bool _) rfl rfl rfl) rfl rfl rfl ?_
      refine WP.q (i := 39) rfl (.mv (v := .bool _) rfl) rfl rfl rfl ?_
      refine WP.sk (i := 40) rfl rfl (wg rfl rfl (gfn rfl)) rfl ?_
      refine WP.sk (i := 42) rfl rfl (wg rfl rfl (gfn rfl)) rfl ?_
      refine WP.sk (i := 46) rfl rfl (wg rfl rfl (gfn rfl)) rfl ?_
      refine WP.sd (i := 41) rfl rfl (wg rfl rfl (gfn rfl)) rfl ?_
      refine WP.sd (i := 43) rfl rfl (wg rfl rfl (gfn rfl)) rfl ?_
      refine WP.sk (i := 44) rfl rfl (wg rfl rfl (gfn rfl)) rfl ?_
      refine WP.sk (i := 45) rfl rfl (wg rfl rfl (gfn rfl)) rfl ?_
      refine WP.sd (i := 47) rfl rfl (wg rfl rfl (gfn rfl)) rfl ?_
      refine WP.sk (i := 48) rfl rfl (wg rfl rfl (gfn rfl)) rfl ?_
      refine WP.sk (i := 49) rfl rfl (wg rfl rfl (gfn rfl)) rfl ?_
      refine WP.sk (i := 50) rfl rfl (wg rfl rfl (gfn rfl)) rfl ?_
      refine WP.q (i := 51) rfl (.ptv (v := .bool _) rfl rfl rfl) rfl rfl rfl ?_
      refine WP.nil ?_
      refine WX.keep [0, 2, 7, 81] (WX.pk [0] (by decide) ?_) rfl
      exact gabionlaw17_DirNames_j5_ok h _ _ _ _ ⟨hB, hH, _, rfl, rfl⟩
    · have q_k8 := of_decide_eq_false k8
      replace h := (if_neg q_k8).symm.trans h
      refine WP.q (i := 10) rfl (.ldA (i := 0) rfl rfl rfl ti42 rfl) rfl (wg rfl rfl (gf k8)) rfl ?_
      refine WP.q (i := 11) rfl (.mv (v := .int _ _) rfl) rfl (wg rfl rfl (gf k8)) rfl ?_
      refine WP.q (i := 13) rfl (.ldA (i := 0) rfl rfl rfl ti42 rfl) rfl (wg rfl rfl (gf k8)) rfl ?_
      refine WP.q (i := 14) rfl (.mv (v := .int _ _) rfl) rfl (wg rfl rfl (gf k8)) rfl ?_
      obtain ⟨y42, hy42, h⟩ := Option.bind_eq_some_iff.1 h
      refine WP.cS (i := 12) rfl rfl rfl (dir_Entry_Text_ok hy42) rfl (wg rfl rfl (gf k8)) rfl ?_
      rintro _ rfl
      obtain ⟨y43, hy43, h⟩ := Option.bind_eq_some_iff.1 h
      refine WP.cS (i := 15) rfl rfl rfl (gabionref17_Text_ok hy43) rfl (wg rfl rfl (gf k8)) rfl ?_
      rintro _ rfl
      refine WP.q (i := 16) rfl (.r fun _ => rfl) rfl (wg rfl rfl (gf k8)) rfl ?_
      refine WP.q (i := 17) rfl (.pfv (v := .bool _) rfl k8 rfl) rfl rfl rfl ?_
      refine WP.q (i := 18) rfl (.mv (v := .bool _) rfl) rfl rfl rfl ?_
      rcases bsp (decide (y42 = y43)) with k44 | k44
      · have q_k44 := of_decide_eq_true k44
        replace h := (if_pos q_k44).symm.trans h
        refine WP.q (i := 19) rfl (.mv (v := .bool _) rfl) rfl (wg rfl rfl (gf (f_not k44))) rfl ?_
        refine WP.q (i := 20) rfl (.pfv (v := .bool _) rfl (f_not k44) rfl) rfl rfl rfl ?_
        refine WP.q (i := 21) rfl (.mv (v := .bool _) rfl) rfl rfl rfl ?_
        rcases bsp y3.2.2 with k45 | k45
        · replace h := (if_pos k45).symm.trans h
          refine WP.sk (i := 22) rfl rfl (wg rfl rfl (gfn k45)) rfl ?_
          refine WP.sk (i := 23) rfl rfl (wg rfl rfl (gfn k45)) rfl ?_
          refine WP.sk (i := 24) rfl rfl (wg rfl rfl (gfn k45)) rfl ?_
          refine WP.sd (i := 25) rfl rfl (wg rfl rfl (gfn k45)) rfl ?_
          refine WP.sk (i := 26) rfl rfl (wg rfl rfl (gfn k45)) rfl ?_
          refine WP.q (i := 27) rfl (.ptv (v := .bool _) rfl k45 rfl) rfl rfl rfl ?_
          refine WP.q (i := 28) rfl (.mv (v := .bool _) rfl) rfl rfl rfl ?_
          refine WP.sk (i := 29) rfl rfl (wg rfl rfl (gfn rfl)) rfl ?_
          refine WP.sk (i := 30) rfl rfl (wg rfl rfl (gfn rfl)) rfl ?_
          refine WP.sd (i := 31) rfl rfl (wg rfl rfl (gfn rfl)) rfl ?_
          refine WP.sk (i := 32) rfl rfl (wg rfl rfl (gfn rfl)) rfl ?_
          refine WP.q (i := 33) rfl (.ptv (v := .bool _) rfl rfl rfl) rfl rfl rfl ?_
          refine WP.q (i := 34) rfl (.mv (v := .bool _) rfl) rfl rfl rfl ?_
          refine WP.sk (i := 35) rfl rfl (wg rfl rfl (gfn rfl)) rfl ?_
          refine WP.sd (i := 36) rfl rfl (wg rfl rfl (gfn rfl)) rfl ?_
          refine WP.sk (i := 37) rfl rfl (wg rfl rfl (gfn rfl)) rfl ?_
          refine WP.q (i := 38) rfl (.ptv (v := .bool _) rfl rfl rfl) rfl rfl rfl ?_
          refine WP.q (i := 39) rfl (.mv (v := .bool _) rfl) rfl rfl rfl ?_
          refine WP.sk (i := 40) rfl rfl (wg rfl rfl (gfn rfl)) rfl ?_
          refine WP.sk (i := 42) rfl rfl (wg rfl rfl (gfn rfl)) rfl ?_
          refine WP.sk (i := 46) rfl rfl (wg rfl rfl (gfn rfl)) rfl ?_
          refine WP.sd (i := 41) rfl rfl (wg rfl rfl (gfn rfl)) rfl ?_
          refine WP.sd (i := 43) rfl rfl (wg rfl rfl (gfn rfl)) rfl ?_
          refine WP.sk (i := 44) rfl rfl (wg rfl rfl (gfn rfl)) rfl ?_
          refine WP.sk (i := 45) rfl rfl (wg rfl rfl (gfn rfl)) rfl ?_
          refine WP.sd (i := 47) rfl rfl (wg rfl rfl (gfn rfl)) rfl ?_
          refine WP.sk (i := 48) rfl rfl (wg rfl rfl (gfn rfl)) rfl ?_
          refine WP.sk (i := 49) rfl rfl (wg rfl rfl (gfn rfl)) rfl ?_
          refine WP.sk (i := 50) rfl rfl (wg rfl rfl (gfn rfl)) rfl ?_
          refine WP.q (i := 51) rfl (.ptv (v := .bool _) rfl rfl rfl) rfl rfl rfl ?_
          refine WP.nil ?_
          refine WX.keep [0, 2, 7, 81] (WX.pk [0] (by decide) ?_) rfl
          exact gabionlaw17_DirNames_j5_ok h _ _ _ _ ⟨hB, hH, _, rfl, rfl⟩
        · replace h := (if_neg (bnt k45)).symm.trans h
          refine WP.q (i := 22) rfl (.mv (v := .nilptr) rfl) rfl (wg rfl rfl (gf k45)) rfl ?_
          refine WP.q (i := 23) rfl (.mv (v := .str _) rfl) rfl (wg rfl rfl (gf k45)) rfl ?_
          refine WP.q (i := 24) rfl (.mv (v := .int _ _) rfl) rfl (wg rfl rfl (gf k45)) rfl ?_
          obtain ⟨y46, hy46, h⟩ := Option.bind_eq_some_iff.1 h
          refine WP.ch (i := 25) rfl rfl rfl (dir_Dir_Put_ok hH HPt.nil hy46) rfl (wg rfl rfl (gf k45)) rfl (pk_in (jx := [0]) rfl) ?_
          rintro _ B _ E hK ⟨rfl, rfl, hH⟩
          replace hB := hB.trans hK
          refine WP.q (i := 26) rfl (.r fun _ => rfl) rfl (wg rfl rfl (gf k45)) rfl ?_
          refine WP.q (i := 27) rfl (.pfv (v := .bool _) rfl k45 rfl) rfl rfl rfl ?_
          refine WP.q (i := 28) rfl (.mv (v := .bool _) rfl) rfl rfl rfl ?_
          rcases bsp (decide (y46.2 ≠ 1)) with k47 | k47
          · have q_k47 := of_decide_eq_true k47
            replace h := (if_pos q_k47).symm.trans h
            refine WP.sk (i := 29) rfl rfl (wg rfl rfl (gfn k47)) rfl ?_
            refine WP.sk (i := 30) rfl rfl (wg rfl rfl (gfn k47)) rfl ?_
            refine WP.sd (i := 31) rfl rfl (wg rfl rfl (gfn k47)) rfl ?_
            refine WP.sk (i := 32) rfl rfl (wg rfl rfl (gfn k47)) rfl ?_
            refine WP.q (i := 33) rfl (.ptv (v := .bool _) rfl k47 rfl) rfl rfl rfl ?_
            refine WP.q (i := 34) rfl (.mv (v := .bool _) rfl) rfl rfl rfl ?_
            refine WP.sk (i := 35) rfl rfl (wg rfl rfl (gfn rfl)) rfl ?_
            refine WP.sd (i := 36) rfl rfl (wg rfl rfl (gfn rfl)) rfl ?_
            refine WP.sk (i := 37) rfl rfl (wg rfl rfl (gfn rfl)) rfl ?_
            refine WP.q (i := 38) rfl (.ptv (v := .bool _) rfl rfl rfl) rfl rfl rfl ?_
            refine WP.q (i := 39) rfl (.mv (v := .bool _) rfl) rfl rfl rfl ?_
            refine WP.sk (i := 40) rfl rfl (wg rfl rfl (gfn rfl)) rfl ?_
            refine WP.sk (i := 42) rfl rfl (wg rfl rfl (gfn rfl)) rfl ?_
            refine WP.sk (i := 46) rfl rfl (wg rfl rfl (gfn rfl)) rfl ?_
            refine WP.sd (i := 41) rfl rfl (wg rfl rfl (gfn rfl)) rfl ?_
            refine WP.sd (i := 43) rfl rfl (wg rfl rfl (gfn rfl)) rfl ?_
            refine WP.sk (i := 44) rfl rfl (wg rfl rfl (gfn rfl)) rfl ?_
            refine WP.sk (i := 45) rfl rfl (wg rfl rfl (gfn rfl)) rfl ?_
            refine WP.sd (i := 47) rfl rfl (wg rfl rfl (gfn rfl)) rfl ?_
            refine WP.sk (i := 48) rfl rfl (wg rfl rfl (gfn rfl)) rfl ?_
            refine WP.sk (i := 49) rfl rfl (wg rfl rfl (gfn rfl)) rfl ?_
            refine WP.sk (i := 50) rfl rfl (wg rfl rfl (gfn rfl)) rfl ?_
            refine WP.q (i := 51) rfl (.ptv (v := .bool _) rfl rfl rfl) rfl rfl rfl ?_
            refine WP.nil ?_
            refine WX.keep [0, 2, 7, 81] (WX.pk [0] (by decide) ?_) rfl
            exact gabionlaw17_DirNames_j5_ok h _ _ _ _ ⟨hB, hH, _, rfl, rfl⟩
          · have q_k47 := of_decide_eq_false k47
            replace h := (if_neg q_k47).symm.trans h
            refine WP.q (i := 29) rfl (.mv (v := .nilptr) rfl) rfl (wg rfl rfl (gf k47)) rfl ?_
            refine WP.q (i := 30) rfl (.mv (v := .str _) rfl) rfl (wg rfl rfl (gf k47)) rfl ?_
            obtain ⟨y48, hy48, h⟩ := Option.bind_eq_some_iff.1 h
            refine WP.ch (i := 31) rfl rfl rfl (dir_Dir_Drop_ok hH HPt.nil hy48) rfl (wg rfl rfl (gf k47)) rfl (pk_in (jx := [0]) rfl) ?_
            rintro _ B _ E hK ⟨rfl, rfl, hH⟩
            replace hB := hB.trans hK
            refine WP.q (i := 32) rfl (.r fun _ => rfl) rfl (wg rfl rfl (gf k47)) rfl ?_
            refine WP.q (i := 33) rfl (.pfv (v := .bool _) rfl k47 rfl) rfl rfl rfl ?_
            refine WP.q (i := 34) rfl (.mv (v := .bool _) rfl) rfl rfl rfl ?_
            rcases bsp (decide (y48.2 ≠ 1)) with k49 | k49
            · have q_k49 := of_decide_eq_true k49
              replace h := (if_pos q_k49).symm.trans h
              refine WP.sk (i := 35) rfl rfl (wg rfl rfl (gfn k49)) rfl ?_
              refine WP.sd (i := 36) rfl rfl (wg rfl rfl (gfn k49)) rfl ?_
              refine WP.sk (i := 37) rfl rfl (wg rfl rfl (gfn k49)) rfl ?_
              refine WP.q (i := 38) rfl (.ptv (v := .bool _) rfl k49 rfl) rfl rfl rfl ?_
              refine WP.q (i := 39) rfl (.mv (v := .bool _) rfl) rfl rfl rfl ?_
              refine WP.sk (i := 40) rfl rfl (wg rfl rfl (gfn rfl)) rfl ?_
              refine WP.sk (i := 42) rfl rfl (wg rfl rfl (gfn rfl)) rfl ?_
              refine WP.sk (i := 46) rfl rfl (wg rfl rfl (gfn rfl)) rfl ?_
              refine WP.sd (i := 41) rfl rfl (wg rfl rfl (gfn rfl)) rfl ?_
              refine WP.sd (i := 43) rfl rfl (wg rfl rfl (gfn rfl)) rfl ?_
              refine WP.sk (i := 44) rfl rfl (wg rfl rfl (gfn rfl)) rfl ?_
              refine WP.sk (i := 45) rfl rfl (wg rfl rfl (gfn rfl)) rfl ?_
              refine WP.sd (i := 47) rfl rfl (wg rfl rfl (gfn rfl)) rfl ?_
              refine WP.sk (i := 48) rfl rfl (wg rfl rfl (gfn rfl)) rfl ?_
              refine WP.sk (i := 49) rfl rfl (wg rfl rfl (gfn rfl)) rfl ?_
              refine WP.sk (i := 50) rfl rfl (wg rfl rfl (gfn rfl)) rfl ?_
              refine WP.q (i := 51) rfl (.ptv (v := .bool _) rfl rfl rfl) rfl rfl rfl ?_
              refine WP.nil ?_
              refine WX.keep [0, 2, 7, 81] (WX.pk [0] (by decide) ?_) rfl
              exact gabionlaw17_DirNames_j5_ok h _ _ _ _ ⟨hB, hH, _, rfl, rfl⟩
            · have q_k49 := of_decide_eq_false k49
              replace h := (if_neg q_k49).symm.trans h
              refine WP.q (i := 35) rfl (.mv (v := .nilptr) rfl) rfl (wg rfl rfl (gf k49)) rfl ?_
              obtain ⟨y50, hy50, h⟩ := Option.bind_eq_some_iff.1 h
              refine WP.ch (i := 36) rfl rfl rfl (dir_Dir_Copy_ok hH HPt.nil hy50) rfl (wg rfl rfl (gf k49)) rfl (pk_in (jx := [0]) rfl) ?_
              rintro v51 B _ E hK ⟨_, rfl, rfl, hH, h52⟩
              replace hB := hB.trans hK
              refine WP.q (i := 37) rfl (.bin (evneqnil h52 ti24 rfl)) rfl (wg rfl rfl (gf k49)) rfl ?_
              refine WP.q (i := 38) rfl (.pfv (v := .bool _) rfl k49 rfl) rfl rfl rfl ?_
              refine WP.q (i := 39) rfl (.mv (v := .bool _) rfl) rfl rfl rfl ?_
              rcases bsp (decide (y50.2 = 0)) with k53 | k53
              · have q_k53 := of_decide_eq_true k53
                replace h := (if_pos q_k53).symm.trans h
                refine WP.q (i := 40) rfl (.mv (v := .nilptr) rfl) rfl (wg rfl rfl (gf (f_not k53))) rfl ?_
                refine WP.q (i := 42) rfl (.mv (v := .nilptr) rfl) rfl (wg rfl rfl (gf (f_not k53))) rfl ?_
                refine WP.q (i := 46) rfl (.mv (v := .nilptr) rfl) rfl (wg rfl rfl (gf (f_not k53))) rfl ?_
                obtain ⟨y54, hy54, h⟩ := Option.bind_eq_some_iff.1 h
                refine WP.ch (i := 41) rfl rfl rfl (dir_Dir_Len_ok hH HPt.nil hy54) rfl (wg rfl rfl (gf (f_not k53))) rfl (pk_in (jx := [0]) rfl) ?_
                rintro _ B _ E hK ⟨rfl, rfl, hH⟩
                replace h52 := h52.upw hK
                replace hB := hB.trans hK
                obtain ⟨y55, hy55, h⟩ := Option.bind_eq_some_iff.1 h
                refine WP.ch (i := 43) rfl rfl rfl (dir_Dir_List_ok hH HPt.nil hy55) rfl (wg rfl rfl (gf (f_not k53))) rfl (pk_in (jx := [0]) rfl) ?_
                rintro _ B _ E hK ⟨v56, b57, n58, c59, rfl, rfl, hH, h60⟩
                obtain ⟨_, _, _, _, _, rfl⟩ := h60.isl
                replace h52 := h52.upw hK
                replace hB := hB.trans hK
                refine WP.q (i := 44) rfl (.len rfl rfl rfl (sl38.len h60.isl)) (isQl rfl rfl ti38 rfl) (wg rfl rfl (gf (f_not k53))) rfl ?_
                refine WP.q (i := 45) rfl (.r fun _ => rfl) rfl (wg rfl rfl (gf (f_not k53))) rfl ?_
                obtain ⟨y61, hy61, h⟩ := Option.bind_eq_some_iff.1 h
                refine WP.ch (i := 47) rfl rfl rfl (dir_Dir_Buckets_ok hH HPt.nil hy61) rfl (wg rfl rfl (gf (f_not k53))) rfl (pk_in (jx := [1]) rfl) ?_
                rintro _ B _ E hK ⟨v62, b63, n64, c65, rfl, rfl, hH, h66⟩
                obtain ⟨_, _, _, _, _, rfl⟩ := h66.isl
                replace h52 := h52.upw hK
                replace h60 := h60.upw hK
                replace hB := hB.trans hK
                refine WP.q (i := 48) rfl (.len rfl rfl rfl (sl32.len h66.isl)) (isQl rfl rfl ti32 rfl) (wg rfl rfl (gf (f_not k53))) rfl ?_
                refine WP.q (i := 49) rfl (.r fun _ => rfl) rfl (wg rfl rfl (gf (f_not k53))) rfl ?_
                refine WP.q (i := 50) rfl (.r fun _ => rfl) rfl (wg rfl rfl (gf (f_not k53))) rfl ?_
                refine WP.q (i := 51) rfl (.pfv (v := .bool _) rfl (f_not k53) rfl) rfl rfl rfl ?_
                refine WP.nil ?_
                refine WX.keep [0, 2, 7, 81] (WX.pk [2] (by decide) ?_) rfl
                exact gabionlaw17_DirNames_j5_ok h _ _ _ _ ⟨hB, hH, _, rfl, rfl⟩
              · have q_k53 := of_decide_eq_false k53
                replace h := (if_neg q_k53).symm.trans h
                refine WP.sk (i := 40) rfl rfl (wg rfl rfl (gfn (t_not k53))) rfl ?_
                refine WP.sk (i := 42) rfl rfl (wg rfl rfl (gfn (t_not k53))) rfl ?_
                refine WP.sk (i := 46) rfl rfl (wg rfl rfl (gfn (t_not k53))) rfl ?_
                refine WP.sd (i := 41) rfl rfl (wg rfl rfl (gfn (t_not k53))) rfl ?_
                refine WP.sd (i := 43) rfl rfl (wg rfl rfl (gfn (t_not k53))) rfl ?_
                refine WP.sk (i := 44) rfl rfl (wg rfl rfl (gfn (t_not k53))) rfl ?_
                refine WP.sk (i := 45) rfl rfl (wg rfl rfl (gfn (t_not k53))) rfl ?_
                refine WP.sd (i := 47) rfl rfl (wg rfl rfl (gfn (t_not k53))) rfl ?_
                refine WP.sk (i := 48) rfl rfl (wg rfl rfl (gfn (t_not k53))) rfl ?_
                refine WP.sk (i := 49) rfl rfl (wg rfl rfl (gfn (t_not k53))) rfl ?_
                refine WP.sk (i := 50) rfl rfl (wg rfl rfl (gfn (t_not k53))) rfl ?_
                refine WP.q (i := 51) rfl (.ptv (v := .bool _) rfl (t_not k53) rfl) rfl rfl rfl ?_
                refine WP.nil ?_
                refine WX.keep [0, 2, 7, 81] (WX.pk [0] (by decide) ?_) rfl
                exact gabionlaw17_DirNames_j5_ok h _ _ _ _ ⟨hB, hH, _, rfl, rfl⟩
      · have q_k44 := of_decide_eq_false k44
        replace h := (if_neg q_k44).symm.trans h
        refine WP.sk (i := 19) rfl rfl (wg rfl rfl (gfn (t_not k44))) rfl ?_
        refine WP.q (i := 20) rfl (.ptv (v := .bool _) rfl (t_not k44) rfl) rfl rfl rfl ?_
        refine WP.q (i := 21) rfl (.mv (v := .bool _) rfl) rfl rfl rfl ?_
        refine WP.sk (i := 22) rfl rfl (wg rfl rfl (gfn rfl)) rfl ?_
        refine WP.sk (i := 23) rfl rfl (wg rfl rfl (gfn rfl)) rfl ?_
        refine WP.sk (i := 24) rfl rfl (wg rfl rfl (gfn rfl)) rfl ?_
        refine WP.sd (i := 25) rfl rfl (wg rfl rfl (gfn rfl)) rfl ?_
        refine WP.sk (i := 26) rfl rfl (wg rfl rfl (gfn rfl)) rfl ?_
        refine WP.q (i := 27) rfl (.ptv (v := .bool _) rfl rfl rfl) rfl rfl rfl ?_
        refine WP.q (i := 28) rfl (.mv (v := .bool _) rfl) rfl rfl rfl ?_
        refine WP.sk (i := 29) rfl rfl (wg rfl rfl (gfn rfl)) rfl ?_
        refine WP.sk (i := 30) rfl rfl (wg rfl rfl (gfn rfl)) rfl ?_
        refine WP.sd (i := 31) rfl rfl (wg rfl rfl (gfn rfl)) rfl ?_
        refine WP.sk (i := 32) rfl rfl (wg rfl rfl (gfn rfl)) rfl ?_
        refine WP.q (i := 33) rfl (.ptv (v := .bool _) rfl rfl rfl) rfl rfl rfl ?_
        refine WP.q (i := 34) rfl (.mv (v := .bool _) rfl) rfl rfl rfl ?_
        refine WP.sk (i := 35) rfl rfl (wg rfl rfl (gfn rfl)) rfl ?_
        refine WP.sd (i := 36) rfl rfl (wg rfl rfl (gfn rfl)) rfl ?_
        refine WP.sk (i := 37) rfl rfl (wg rfl rfl (gfn rfl)) rfl ?_
        refine WP.q (i := 38) rfl (.ptv (v := .bool _) rfl rfl rfl) rfl rfl rfl ?_
        refine WP.q (i := 39) rfl (.mv (v := .bool _) rfl) rfl rfl rfl ?_
        refine WP.sk (i := 40) rfl rfl (wg rfl rfl (gfn rfl)) rfl ?_
        refine WP.sk (i := 42) rfl rfl (wg rfl rfl (gfn rfl)) rfl ?_
        refine WP.sk (i := 46) rfl rfl (wg rfl rfl (gfn rfl)) rfl ?_
        refine WP.sd (i := 41) rfl rfl (wg rfl rfl (gfn rfl)) rfl ?_
        refine WP.sd (i := 43) rfl rfl (wg rfl rfl (gfn rfl)) rfl ?_
        refine WP.sk (i := 44) rfl rfl (wg rfl rfl (gfn rfl)) rfl ?_
        refine WP.sk (i := 45) rfl rfl (wg rfl rfl (gfn rfl)) rfl ?_
        refine WP.sd (i := 47) rfl rfl (wg rfl rfl (gfn rfl)) rfl ?_
        refine WP.sk (i := 48) rfl rfl (wg rfl rfl (gfn rfl)) rfl ?_
        refine WP.sk (i := 49) rfl rfl (wg rfl rfl (gfn rfl)) rfl ?_
        refine WP.sk (i := 50) rfl rfl (wg rfl rfl (gfn rfl)) rfl ?_
        refine WP.q (i := 51) rfl (.ptv (v := .bool _) rfl rfl rfl) rfl rfl rfl ?_
        refine WP.nil ?_
        refine WX.keep [0, 2, 7, 81] (WX.pk [0] (by decide) ?_) rfl
        exact gabionlaw17_DirNames_j5_ok h _ _ _ _ ⟨hB, hH, _, rfl, rfl⟩
  · replace h := (if_neg (bnt k5)).symm.trans h
    refine WP.sk (i := 3) rfl rfl (wg rfl rfl (gfn (t_not k5))) rfl ?_
    refine WP.sk (i := 5) rfl rfl (wg rfl rfl (gfn (t_not k5))) rfl ?_
    refine WP.sd (i := 4) rfl rfl (wg rfl rfl (gfn (t_not k5))) rfl ?_
    refine WP.sd (i := 6) rfl rfl (wg rfl rfl (gfn (t_not k5))) rfl ?_
    refine WP.sk (i := 7) rfl rfl (wg rfl rfl (gfn (t_not k5))) rfl ?_
    refine WP.q (i := 8) rfl (.ptv (v := .bool _) rfl (t_not k5) rfl) rfl rfl rfl ?_
    refine WP.q (i := 9) rfl (.mv (v := .bool _) rfl) rfl rfl rfl ?_
    refine WP.sk (i := 10) rfl rfl (wg rfl rfl (gfn rfl)) rfl ?_
    refine WP.sk (i := 11) rfl rfl (wg rfl rfl (gfn rfl)) rfl ?_
    refine WP.sk (i := 13) rfl rfl (wg rfl rfl (gfn rfl)) rfl ?_
    refine WP.sk (i := 14) rfl rfl (wg rfl rfl (gfn rfl)) rfl ?_
    refine WP.sd (i := 12) rfl rfl (wg rfl rfl (gfn rfl)) rfl ?_
    refine WP.sd (i := 15) rfl rfl (wg rfl rfl (gfn rfl)) rfl ?_
    refine WP.sk (i := 16) rfl rfl (wg rfl rfl (gfn rfl)) rfl ?_
    refine WP.q (i := 17) rfl (.ptv (v := .bool _) rfl rfl rfl) rfl rfl rfl ?_
    refine WP.q (i := 18) rfl (.mv (v := .bool _) rfl) rfl rfl rfl ?_
    refine WP.sk (i := 19) rfl rfl (wg rfl rfl (gfn rfl)) rfl ?_
    refine WP.q (i := 20) rfl (.ptv (v := .bool _) rfl rfl rfl) rfl rfl rfl ?_
    refine WP.q (i := 21) rfl (.mv (v := .bool _) rfl) rfl rfl rfl ?_
    refine WP.sk (i := 22) rfl rfl (wg rfl rfl (gfn rfl)) rfl ?_
    refine WP.sk (i := 23) rfl rfl (wg rfl rfl (gfn rfl)) rfl ?_
    refine WP.sk (i := 24) rfl rfl (wg rfl rfl (gfn rfl)) rfl ?_
    refine WP.sd (i := 25) rfl rfl (wg rfl rfl (gfn rfl)) rfl ?_
    refine WP.sk (i := 26) rfl rfl (wg rfl rfl (gfn rfl)) rfl ?_
    refine WP.q (i := 27) rfl (.ptv (v := .bool _) rfl rfl rfl) rfl rfl rfl ?_
    refine WP.q (i := 28) rfl (.mv (v := .bool _) rfl) rfl rfl rfl ?_
    refine WP.sk (i := 29) rfl rfl (wg rfl rfl (gfn rfl)) rfl ?_
    refine WP.sk (i := 30) rfl rfl (wg rfl rfl (gfn rfl)) rfl ?_
    refine WP.sd (i := 31) rfl rfl (wg rfl rfl (gfn rfl)) rfl ?_
    refine WP.sk (i := 32) rfl rfl (wg rfl rfl (gfn rfl)) rfl ?_
    refine WP.q (i := 33) rfl (.ptv (v := .bool _) rfl rfl rfl) rfl rfl rfl ?_
    refine WP.q (i := 34) rfl (.mv (v := .bool _) rfl) rfl rfl rfl ?_
    refine WP.sk (i := 35) rfl rfl (wg rfl rfl (gfn rfl)) rfl ?_
    refine WP.sd (i := 36) rfl rfl (wg rfl rfl (gfn rfl)) rfl ?_
    refine WP.sk (i := 37) rfl rfl (wg rfl rfl (gfn rfl)) rfl ?_
    refine WP.q (i := 38) rfl (.ptv (v := .bool _) rfl rfl rfl) rfl rfl rfl ?_
    refine WP.q (i := 39) rfl (.mv (v := .bool _) rfl) rfl rfl rfl ?_
    refine WP.sk (i := 40) rfl rfl (wg rfl rfl (gfn rfl)) rfl ?_
    refine WP.sk (i := 42) rfl rfl (wg rfl rfl (gfn rfl)) rfl ?_
    refine WP.sk (i := 46) rfl rfl (wg rfl rfl (gfn rfl)) rfl ?_
    refine WP.sd (i := 41) rfl rfl (wg rfl rfl (gfn rfl)) rfl ?_
    refine WP.sd (i := 43) rfl rfl (wg rfl rfl (gfn rfl)) rfl ?_
    refine WP.sk (i := 44) rfl rfl (wg rfl rfl (gfn rfl)) rfl ?_
    refine WP.sk (i := 45) rfl rfl (wg rfl rfl (gfn rfl)) rfl ?_
    refine WP.sd (i := 47) rfl rfl (wg rfl rfl (gfn rfl)) rfl ?_
    refine WP.sk (i := 48) rfl rfl (wg rfl rfl (gfn rfl)) rfl ?_
    refine WP.sk (i := 49) rfl rfl (wg rfl rfl (gfn rfl)) rfl ?_
    refine WP.sk (i := 50) rfl rfl (wg rfl rfl (gfn rfl)) rfl ?_
    refine WP.q (i := 51) rfl (.ptv (v := .bool _) rfl rfl rfl) rfl rfl rfl ?_
    refine WP.nil ?_
    refine WX.keep [0, 2, 7, 81] (WX.pk [0] (by decide) ?_) rfl
    exact gabionlaw17_DirNames_j5_ok h _ _ _ _ ⟨hB, hH, _, rfl, rfl⟩
end Gab
