/- The Go code comes to what the Lean functions say. Written by a program (gp.py). -/
import Derived.Test.YtcdldgoehoopmaaDoorFd
import Derived.Test.YtcdldgoehoopmaaDoorTy
import Derived.Test.YtcdldgoehoopmaaDoorFpDir0
import Derived.Test.YtcdldgoehoopmaaDoorFpLaw170
import Derived.Test.YtcdldgoehoopmaaDoorHand
set_option linter.unusedSimpArgs false
set_option linter.unusedVariables false
set_option maxHeartbeats 4000000
set_option maxRecDepth 100000
namespace Gab
open Go Go.Proofs
def gabionlaw17_DirOrder_P (B : Kn) (L : Own) (r : Heap × Bool) : AV → St → Prop := CH B L fun B' X E' v => v = .bool r.2 ∧ X = [] ∧ HR B' r.1 E'
def gabionlaw17_DirOrder_j8_I (B0 : Kn) (H : Heap) (x0 : List Int) (x1 : Int) (x5 : Nat) (x6 : Nat) (x24 : Int) (x62 : Bool) : Fr → Kn → Own → Own → Prop := fun fr B A E => KLw B0 B ∧ HR B H E ∧ ∃ v20 v21 v22, RSl (Ty.int .u16) B v20 x0 ∧ HPt B 66 v21 x5 ∧ HPt B 66 v22 x6 ∧ fr = [(0, v20), (1, .int .u8 x1), (5, v21), (6, v22), (23, .int .i64 (x0.length : Int)), (24, .int .i64 x24), (62, .bool x62)] ∧ A = []
def gabionlaw17_DirOrder_l0_I (B0 : Kn) (x0 : List Int) (x1 : Int) (x5 : Nat) (x6 : Nat) (H : Heap) (x24 : Int) : Fr → Kn → Own → Own → Prop := fun fr B A E => KLw B0 B ∧ HR B H E ∧ ∃ v8 v9 v10, RSl (Ty.int .u16) B v8 x0 ∧ HPt B 66 v9 x5 ∧ HPt B 66 v10 x6 ∧ fr = [(0, v8), (1, .int .u8 x1), (5, v9), (6, v10), (23, .int .i64 (x0.length : Int)), (24, .int .i64 x24)] ∧ A = []
def gabionlaw17_DirOrder_l0_X0 (B0 : Kn) (H : Heap) (x5 : Nat) (x6 : Nat) : Fr → Kn → Own → Own → Prop := fun fr B A E => KLw B0 B ∧ HR B H E ∧ ∃ v93 v94, HPt B 66 v93 x5 ∧ HPt B 66 v94 x6 ∧ fr = [(5, v93), (6, v94)] ∧ A = []
def gabionlaw17_DirOrder_l1_I (B0 : Kn) (H : Heap) (x9 : List ((List UInt8) × Int)) (x10 : List ((List UInt8) × Int)) (x11 : List Int) (x12 : List Int) (x90 : Int) : Fr → Kn → Own → Own → Prop := fun fr B A E => KLw B0 B ∧ HR B H E ∧ ∃ v67 b67 n67 c67 v68 b68 n68 c68 v69 b69 n69 c69 v70 b70 n70 c70, OSl EPStIi64Q B v67 b67 n67 c67 x9 ∧ OSl EPStIi64Q B v68 b68 n68 c68 x10 ∧ OSl (Ty.int .i64) B v69 b69 n69 c69 x11 ∧ OSl (Ty.int .i64) B v70 b70 n70 c70 x12 ∧ fr = [(9, v67), (10, v68), (11, v69), (12, v70), (89, .int .i64 (x9.length : Int)), (90, .int .i64 x90)] ∧ A = [oe b67 n67 c67, oe b68 n68 c68, oe b69 n69 c69, oe b70 n70 c70]
def gabionlaw17_DirOrder_l1_X0 (B0 : Kn) (H : Heap) (x11 : List Int) (x12 : List Int) : Fr → Kn → Own → Own → Prop := fun fr B A E => KLw B0 B ∧ HR B H E ∧ ∃ v95 b95 n95 c95 v96 b96 n96 c96, OSl (Ty.int .i64) B v95 b95 n95 c95 x11 ∧ OSl (Ty.int .i64) B v96 b96 n96 c96 x12 ∧ fr = [(11, v95), (12, v96)] ∧ A = [oe b95 n95 c95, oe b96 n96 c96]
def gabionlaw17_DirOrder_l2_I (B0 : Kn) (H : Heap) (x11 : List Int) (x12 : List Int) (x105 : Int) : Fr → Kn → Own → Own → Prop := fun fr B A E => KLw B0 B ∧ HR B H E ∧ ∃ v83 b83 n83 c83 v84 b84 n84 c84, OSl (Ty.int .i64) B v83 b83 n83 c83 x11 ∧ OSl (Ty.int .i64) B v84 b84 n84 c84 x12 ∧ fr = [(11, v83), (12, v84), (104, .int .i64 (x11.length : Int)), (105, .int .i64 x105)] ∧ A = [oe b83 n83 c83, oe b84 n84 c84]
def gabionlaw17_DirOrder_l2_X0 (B0 : Kn) (H : Heap) : Fr → Kn → Own → Own → Prop := fun fr B A E => KLw B0 B ∧ HR B H E ∧ fr = [] ∧ A = []
def gabionlaw17_DirOrder_j13_I (B0 : Kn) (H : Heap) (x9 : List ((List UInt8) × Int)) (x10 : List ((List UInt8) × Int)) (x11 : List Int) (x12 : List Int) (x87 : Bool) : Fr → Kn → Own → Own → Prop := fun fr B A E => KLw B0 B ∧ HR B H E ∧ ∃ v62 b62 n62 c62 v63 b63 n63 c63 v64 b64 n64 c64 v65 b65 n65 c65, OSl EPStIi64Q B v62 b62 n62 c62 x9 ∧ OSl EPStIi64Q B v63 b63 n63 c63 x10 ∧ OSl (Ty.int .i64) B v64 b64 n64 c64 x11 ∧ OSl (Ty.int .i64) B v65 b65 n65 c65 x12 ∧ fr = [(9, v62), (10, v63), (11, v64), (12, v65), (87, .bool x87)] ∧ A = [oe b62 n62 c62, oe b63 n63 c63, oe b64 n64 c64, oe b65 n65 c65]
theorem gabionlaw17_DirOrder_j8_ok {B0 : Kn} {L : Own} {n0 : Nat} {H : Heap} {x0 : List Int} {x1 : Int} {x5 : Nat} {x6 : Nat} {x24 : Int} {x62 : Bool} {Q : AV → St → Prop} {E : (Heap × Int) ⊕ ((Heap × Bool) ⊕ Heap) → Prop} {o : (Heap × Int) ⊕ ((Heap × Bool) ⊕ Heap)} (h : gabionlaw17_DirOrder_j8 H x0 x1 x5 x6 x24 x62 = some o) (hn : ∀ s, E (.inl s) → WXH Tryd.prog 118 n0 (Fin Tryd.prog Tryd.f4.results.toList n0 Q) [.lp (ct [1, 1, 1, 0, 1, 0, 0] (bodyOf Tryd.f4)), .blk 0, .code (ct [1, 1, 1, 1] (bodyOf Tryd.f4))] (gabionlaw17_DirOrder_l0_I B0 x0 x1 x5 x6 s.1 s.2) L) (hx0 : ∀ s, E (.inr (.inr s)) → WXH Tryd.prog 118 n0 (Fin Tryd.prog Tryd.f4.results.toList n0 Q) [.code (ct [1, 1, 1, 1] (bodyOf Tryd.f4))] (gabionlaw17_DirOrder_l0_X0 B0 s x5 x6) L) (hr : ∀ r, E (.inr (.inl r)) → ∀ v st, gabionlaw17_DirOrder_P B0 L r v st → Q v st) (hE : E o) : WXH Tryd.prog 118 n0 (Fin Tryd.prog Tryd.f4.results.toList n0 Q) [.code (ct [1, 1, 1, 0, 1, 0, 0, 1, 1, 0, 0, 1, 1, 1] (bodyOf Tryd.f4)), .blk 1, .code (ct [1, 1, 1, 0, 1, 0, 0, 1, 1, 1] (bodyOf Tryd.f4)), .lp (ct [1, 1, 1, 0, 1, 0, 0] (bodyOf Tryd.f4)), .blk 0, .code (ct [1, 1, 1, 1] (bodyOf Tryd.f4))] (gabionlaw17_DirOrder_j8_I B0 H x0 x1 x5 x6 x24 x62) L := by
  unfold gabionlaw17_DirOrder_j8 at h
  rintro _ B _ E ⟨hB, hH, v20, v21, v22, h20, h21, h22, rfl, rfl⟩
  obtain ⟨_, _, _, _, _, rfl⟩ := h20.isl
  rcases bsp x62 with k23 | k23
  · replace h := (if_pos k23).symm.trans h
    refine WX.condT rfl k23 ?_
    refine WX.seq ?_
    refine WX.reg ?_
    refine WO.q (.as (v := .bool _) rfl) rfl rfl ?_
    refine WO.nil ?_
    obtain rfl := Option.some.inj h
    exact WX.ret (rs_ (rs_tmp rfl rs_nil)) fun st hp => hr _ hE _ _ ⟨_, _, _, hB, (hp.pk [] (by decide)), rfl, rfl, hH⟩
  · replace h := (if_neg (bnt k23)).symm.trans h
    refine WX.condF rfl k23 ?_
    refine WX.skip ?_
    refine WX.pop ?_
    refine WX.reg ?_
    refine WO.q (.r fun _ => rfl) rfl rfl ?_
    refine WO.q (.mv (v := .int _ _) rfl) rfl rfl ?_
    refine WO.nil ?_
    refine WX.keepL [0, 1, 5, 6, 23, 24] (WX.pk [] (by decide) ?_) rfl
    obtain rfl := Option.some.inj h
    exact hn _ hE _ _ _ _ ⟨hB, hH, _, _, _, h20, h21, h22, rfl, rfl⟩
theorem gabionlaw17_DirOrder_l0_s {B0 : Kn} {L : Own} {n0 : Nat} {x0 : List Int} {x1 : Int} {x5 : Nat} {x6 : Nat} {H : Heap} {x24 : Int} {Q : AV → St → Prop} {E : (Heap × Int) ⊕ ((Heap × Bool) ⊕ Heap) → Prop} {o : (Heap × Int) ⊕ ((Heap × Bool) ⊕ Heap)} (h : gabionlaw17_DirOrder_l0 x0 x1 x5 x6 H x24 = some o) (hn : ∀ s, E (.inl s) → WXH Tryd.prog 118 n0 (Fin Tryd.prog Tryd.f4.results.toList n0 Q) [.lp (ct [1, 1, 1, 0, 1, 0, 0] (bodyOf Tryd.f4)), .blk 0, .code (ct [1, 1, 1, 1] (bodyOf Tryd.f4))] (gabionlaw17_DirOrder_l0_I B0 x0 x1 x5 x6 s.1 s.2) L) (hx0 : ∀ s, E (.inr (.inr s)) → WXH Tryd.prog 118 n0 (Fin Tryd.prog Tryd.f4.results.toList n0 Q) [.code (ct [1, 1, 1, 1] (bodyOf Tryd.f4))] (gabionlaw17_DirOrder_l0_X0 B0 s x5 x6) L) (hr : ∀ r, E (.inr (.inl r)) → ∀ v st, gabionlaw17_DirOrder_P B0 L r v st → Q v st) (hE : E o) : WXH Tryd.prog 118 n0 (Fin Tryd.prog Tryd.f4.results.toList n0 Q) [.code (ct [1, 1, 1, 0, 1, 0, 0] (bodyOf Tryd.f4)), .lp (ct [1, 1, 1, 0, 1, 0, 0] (bodyOf Tryd.f4)), .blk 0, .code (ct [1, 1, 1, 1] (bodyOf Tryd.f4))] (gabionlaw17_DirOrder_l0_I B0 x0 x1 x5 x6 H x24) L := by
  unfold gabionlaw17_DirOrder_l0 at h
  rintro _ B _ E ⟨hB, hH, v8, v9, v10, h8, h9, h10, rfl, rfl⟩
  obtain ⟨_, _, _, _, _, rfl⟩ := h8.isl
  refine WX.seq ?_
  refine WX.reg ?_
  refine WO.q (.r fun _ => rfl) rfl rfl ?_
  refine WO.nil ?_
  refine WX.seq ?_
  rcases bsp (decide (x24 < (x0.length : Int))) with k11 | k11
  · have q_k11 := of_decide_eq_true k11
    replace h := (if_pos q_k11).symm.trans h
    refine WX.condT rfl k11 ?_
    refine WX.skip ?_
    refine WX.seq ?_
    refine WX.block ?_
    refine WX.seq ?_
    refine WX.reg ?_
    refine WO.q (.mv (v := .int _ _) rfl) rfl rfl ?_
    refine WO.q (.as (v := .int _ _) rfl) rfl rfl ?_
    refine WO.nil ?_
    refine WX.seq ?_
    refine WX.reg ?_
    refine WO.q (.mv (v := .sl _ _ _ _ _ _) rfl) rfl rfl ?_
    refine WO.q (.mv (v := .int _ _) rfl) rfl rfl ?_
    refine WO.q (.mv (v := .int _ _) rfl) rfl rfl ?_
    refine WO.q (cvI ti5 ti3 rfl rfl) rfl rfl ?_
    refine WO.q (.r fun _ => rfl) rfl rfl ?_
    refine WO.q (.mv (v := .sl _ _ _ _ _ _) rfl) rfl rfl ?_
    refine WO.q (.len rfl rfl rfl (sl22.len h8.isl)) rfl rfl ?_
    obtain ⟨hk12, h⟩ := ifS_some h
    refine WO.q (.bin (evrem hk12)) rfl rfl ?_
    obtain ⟨y13, hy13, h⟩ := Option.bind_eq_some_iff.1 h
    obtain ⟨b_y13, o_y13, _, i_y13, p_y13, r_y13⟩ := h8.at sl22 hy13 .i64
    obtain rfl := r_y13
    refine WO.q (.ia i_y13) rfl rfl ?_
    refine WO.q (.lp0 rfl p_y13 rfl ti27 rfl) rfl rfl ?_
    refine WO.q (.as (v := .int _ _) rfl) rfl rfl ?_
    refine WO.nil ?_
    refine WX.seq ?_
    refine WX.drw (Plan.of [0, 1, 2, 3, 4, 5, 8, 9, 10, 11, 12, 6, 7, 13, 14, 15, 16, 17, 18, 21, 22, 19, 20, 23, 24, 25] .nil) _ mixed (by kernel_rfl) rfl (subL (pk_sub [])) ?_
    refine WP.q (i := 0) rfl (.mv (v := v9) rfl) rfl rfl rfl ?_
    refine WP.q (i := 1) rfl (.mv (v := .sl _ _ _ _ _ _) rfl) rfl rfl rfl ?_
    refine WP.q (i := 2) rfl (.mv (v := .int _ _) rfl) rfl rfl rfl ?_
    obtain ⟨y14, hy14, h⟩ := Option.bind_eq_some_iff.1 h
    obtain ⟨b_y14, o_y14, _, i_y14, p_y14, r_y14⟩ := h8.at sl22 hy14 .i64
    obtain rfl := r_y14
    refine WP.q (i := 3) rfl (.ia i_y14) rfl rfl rfl ?_
    refine WP.q (i := 4) rfl (.lp0 rfl p_y14 rfl ti27 rfl) rfl rfl rfl ?_
    refine WP.q (i := 5) rfl (cvI ti27 ti3 rfl rfl) (isQc ti27 ti3 rfl) rfl rfl ?_
    refine WP.q (i := 8) rfl (.mv (v := .sl _ _ _ _ _ _) rfl) rfl rfl rfl ?_
    refine WP.q (i := 9) rfl (.mv (v := .int _ _) rfl) rfl rfl rfl ?_
    obtain ⟨y15, hy15, h⟩ := Option.bind_eq_some_iff.1 h
    obtain ⟨b_y15, o_y15, _, i_y15, p_y15, r_y15⟩ := h8.at sl22 hy15 .i64
    obtain rfl := r_y15
    refine WP.q (i := 10) rfl (.ia i_y15) rfl rfl rfl ?_
    refine WP.q (i := 11) rfl (.lp0 rfl p_y15 rfl ti27 rfl) rfl rfl rfl ?_
    refine WP.q (i := 12) rfl (cvI ti27 ti3 rfl rfl) (isQc ti27 ti3 rfl) rfl rfl ?_
    obtain ⟨y16, hy16, h⟩ := Option.bind_eq_some_iff.1 h
    refine WP.cS (i := 6) rfl rfl rfl (strconv_Itoa_ok hy16) rfl rfl rfl ?_
    rintro _ rfl
    obtain ⟨y17, hy17, h⟩ := Option.bind_eq_some_iff.1 h
    refine WP.q (i := 7) rfl (.bin (evcat hy17)) rfl rfl rfl ?_
    obtain ⟨y18, hy18, h⟩ := Option.bind_eq_some_iff.1 h
    refine WP.ch (i := 13) rfl rfl rfl (dir_Dir_Put_ok hH h9 hy18) rfl rfl rfl (pk_in (jx := []) rfl) ?_
    rintro _ B _ E hK ⟨rfl, rfl, hH⟩
    replace h8 := h8.upw hK
    replace h9 := h9.upw hK
    replace h10 := h10.upw hK
    replace p_y14 := p_y14.upw hK
    replace p_y15 := p_y15.upw hK
    replace hB := hB.trans hK
    refine WP.q (i := 14) rfl (.r fun _ => rfl) rfl rfl rfl ?_
    refine WP.q (i := 15) rfl (.mv (v := .bool _) rfl) rfl rfl rfl ?_
    rcases bsp (decide (y18.2 ≠ 0)) with k19 | k19
    · have q_k19 := of_decide_eq_true k19
      replace h := (if_pos q_k19).symm.trans h
      refine WP.sk (i := 16) rfl rfl (wg rfl rfl (gfn k19)) rfl ?_
      refine WP.sk (i := 17) rfl rfl (wg rfl rfl (gfn k19)) rfl ?_
      refine WP.sk (i := 18) rfl rfl (wg rfl rfl (gfn k19)) rfl ?_
      refine WP.sk (i := 21) rfl rfl (wg rfl rfl (gfn k19)) rfl ?_
      refine WP.sk (i := 22) rfl rfl (wg rfl rfl (gfn k19)) rfl ?_
      refine WP.sd (i := 19) rfl rfl (wg rfl rfl (gfn k19)) rfl ?_
      refine WP.sk (i := 20) rfl rfl (wg rfl rfl (gfn k19)) rfl ?_
      refine WP.sd (i := 23) rfl rfl (wg rfl rfl (gfn k19)) rfl ?_
      refine WP.sk (i := 24) rfl rfl (wg rfl rfl (gfn k19)) rfl ?_
      refine WP.q (i := 25) rfl (.ptv (v := .bool _) rfl k19 rfl) rfl rfl rfl ?_
      refine WP.nil ?_
      refine WX.keep [0, 1, 5, 6, 23, 24, 62] (WX.pk [] (by decide) ?_) rfl
      exact gabionlaw17_DirOrder_j8_ok h hn hx0 hr hE _ _ _ _ ⟨hB, hH, _, _, _, h8, h9, h10, rfl, rfl⟩
    · have q_k19 := of_decide_eq_false k19
      replace h := (if_neg q_k19).symm.trans h
      refine WP.q (i := 16) rfl (.mv (v := v10) rfl) rfl (wg rfl rfl (gf k19)) rfl ?_
      refine WP.q (i := 17) rfl (.mv (v := .int _ _) rfl) rfl (wg rfl rfl (gf k19)) rfl ?_
      refine WP.q (i := 18) rfl (cvI ti27 ti3 rfl rfl) (isQc ti27 ti3 rfl) (wg rfl rfl (gf k19)) rfl ?_
      refine WP.q (i := 21) rfl (.mv (v := .int _ _) rfl) rfl (wg rfl rfl (gf k19)) rfl ?_
      refine WP.q (i := 22) rfl (cvI ti27 ti3 rfl rfl) (isQc ti27 ti3 rfl) (wg rfl rfl (gf k19)) rfl ?_
      obtain ⟨y24, hy24, h⟩ := Option.bind_eq_some_iff.1 h
      refine WP.cS (i := 19) rfl rfl rfl (strconv_Itoa_ok hy24) rfl (wg rfl rfl (gf k19)) rfl ?_
      rintro _ rfl
      obtain ⟨y25, hy25, h⟩ := Option.bind_eq_some_iff.1 h
      refine WP.q (i := 20) rfl (.bin (evcat hy25)) rfl (wg rfl rfl (gf k19)) rfl ?_
      obtain ⟨y26, hy26, h⟩ := Option.bind_eq_some_iff.1 h
      refine WP.ch (i := 23) rfl rfl rfl (dir_Dir_Put_ok hH h10 hy26) rfl (wg rfl rfl (gf k19)) rfl (pk_in (jx := []) rfl) ?_
      rintro _ B _ E hK ⟨rfl, rfl, hH⟩
      replace h8 := h8.upw hK
      replace h9 := h9.upw hK
      replace h10 := h10.upw hK
      replace p_y14 := p_y14.upw hK
      replace p_y15 := p_y15.upw hK
      replace hB := hB.trans hK
      refine WP.q (i := 24) rfl (.r fun _ => rfl) rfl (wg rfl rfl (gf k19)) rfl ?_
      refine WP.q (i := 25) rfl (.pfv (v := .bool _) rfl k19 rfl) rfl rfl rfl ?_
      refine WP.nil ?_
      refine WX.keep [0, 1, 5, 6, 23, 24, 62] (WX.pk [] (by decide) ?_) rfl
      exact gabionlaw17_DirOrder_j8_ok h hn hx0 hr hE _ _ _ _ ⟨hB, hH, _, _, _, h8, h9, h10, rfl, rfl⟩
  · have q_k11 := of_decide_eq_false k11
    replace h := (if_neg q_k11).symm.trans h
    refine WX.condF rfl k11 ?_
    refine WX.exit rfl ?_
    refine WX.keep [5, 6] (WX.pk [] (by decide) ?_) rfl
    obtain rfl := Option.some.inj h
    exact hx0 _ hE _ _ _ _ ⟨hB, hH, _, _, h9, h10, rfl, rfl⟩
theorem gabionlaw17_DirOrder_l0_ok {B0 : Kn} {L : Own} {n0 : Nat} {x0 : List Int} {x1 : Int} {x5 : Nat} {x6 : Nat} {H : Heap} {x24 : Int} {Q : AV → St → Prop} {d : Nat} {e : (Heap × Bool) ⊕ Heap} (h : iter (fun (s : Heap × Int) => gabionlaw17_DirOrder_l0 x0 x1 x5 x6 s.1 s.2) d (H, x24) = some e) (g0 : ∀ r, e = (.inl r) → ∀ v st, gabionlaw17_DirOrder_P B0 L r v st → Q v st) (g1 : ∀ s, e = (.inr s) → WXH Tryd.prog 118 n0 (Fin Tryd.prog Tryd.f4.results.toList n0 Q) [.code (ct [1, 1, 1, 1] (bodyOf Tryd.f4))] (gabionlaw17_DirOrder_l0_X0 B0 s x5 x6) L) : WXH Tryd.prog 118 n0 (Fin Tryd.prog Tryd.f4.results.toList n0 Q) [.code (ct [1, 1, 1, 0, 1, 0, 0] (bodyOf Tryd.f4)), .lp (ct [1, 1, 1, 0, 1, 0, 0] (bodyOf Tryd.f4)), .blk 0, .code (ct [1, 1, 1, 1] (bodyOf Tryd.f4))] (gabionlaw17_DirOrder_l0_I B0 x0 x1 x5 x6 H x24) L :=
  iter_okH (I := fun s => gabionlaw17_DirOrder_l0_I B0 x0 x1 x5 x6 s.1 s.2) (D := fun e => (∀ r, e = (.inl r) → ∀ v st, gabionlaw17_DirOrder_P B0 L r v st → Q v st) ∧ (∀ s, e = (.inr s) → WXH Tryd.prog 118 n0 (Fin Tryd.prog Tryd.f4.results.toList n0 Q) [.code (ct [1, 1, 1, 1] (bodyOf Tryd.f4))] (gabionlaw17_DirOrder_l0_X0 B0 s x5 x6) L)) (fun E hn hx s o ho hE => gabionlaw17_DirOrder_l0_s (H := s.1) (x24 := s.2) ho hn (fun s hs => (hx _ hs).2 _ rfl) (fun r hs => (hx _ hs).1 _ rfl) hE) h ⟨g0, g1⟩
theorem gabionlaw17_DirOrder_l1_s {B0 : Kn} {L : Own} {n0 : Nat} {H : Heap} {x9 : List ((List UInt8) × Int)} {x10 : List ((List UInt8) × Int)} {x11 : List Int} {x12 : List Int} {x90 : Int} {Q : AV → St → Prop} {E : Int ⊕ ((Heap × Bool) ⊕ Unit) → Prop} {o : Int ⊕ ((Heap × Bool) ⊕ Unit)} (h : gabionlaw17_DirOrder_l1 H x9 x10 x11 x12 x90 = some o) (hn : ∀ s, E (.inl s) → WXH Tryd.prog 118 n0 (Fin Tryd.prog Tryd.f4.results.toList n0 Q) [.lp (ct [1, 1, 1, 1, 1, 1, 1, 0, 1, 0, 0] (bodyOf Tryd.f4)), .blk 2, .code (ct [1, 1, 1, 1, 1, 1, 1, 1] (bodyOf Tryd.f4))] (gabionlaw17_DirOrder_l1_I B0 H x9 x10 x11 x12 s) L) (hx0 : ∀ s, E (.inr (.inr s)) → WXH Tryd.prog 118 n0 (Fin Tryd.prog Tryd.f4.results.toList n0 Q) [.code (ct [1, 1, 1, 1, 1, 1, 1, 1] (bodyOf Tryd.f4))] (gabionlaw17_DirOrder_l1_X0 B0 H x11 x12) L) (hr : ∀ r, E (.inr (.inl r)) → ∀ v st, gabionlaw17_DirOrder_P B0 L r v st → Q v st) (hE : E o) : WXH Tryd.prog 118 n0 (Fin Tryd.prog Tryd.f4.results.toList n0 Q) [.code (ct [1, 1, 1, 1, 1, 1, 1, 0, 1, 0, 0] (bodyOf Tryd.f4)), .lp (ct [1, 1, 1, 1, 1, 1, 1, 0, 1, 0, 0] (bodyOf Tryd.f4)), .blk 2, .code (ct [1, 1, 1, 1, 1, 1, 1, 1] (bodyOf Tryd.f4))] (gabionlaw17_DirOrder_l1_I B0 H x9 x10 x11 x12 x90) L := by
  unfold gabionlaw17_DirOrder_l1 at h
  rintro _ B _ E ⟨hB, hH, v67, b67, n67, c67, v68, b68, n68, c68, v69, b69, n69, c69, v70, b70, n70, c70, h67, h68, h69, h70, rfl, rfl⟩
  obtain ⟨_, _, _, _, _, rfl⟩ := h67.isl
  obtain ⟨_, _, _, _, _, rfl⟩ := h68.isl
  obtain ⟨_, _, _, _, _, rfl⟩ := h69.isl
  obtain ⟨_, _, _, _, _, rfl⟩ := h70.isl
  refine WX.seq ?_
  refine WX.reg ?_
  refine WO.q (.r fun _ => rfl) rfl rfl ?_
  refine WO.nil ?_
  refine WX.seq ?_
  rcases bsp (decide (x90 < (x9.length : Int))) with k71 | k71
  · have q_k71 := of_decide_eq_true k71
    replace h := (if_pos q_k71).symm.trans h
    refine WX.condT rfl k71 ?_
    refine WX.skip ?_
    refine WX.seq ?_
    refine WX.block ?_
    refine WX.seq ?_
    refine WX.reg ?_
    refine WO.q (.mv (v := .int _ _) rfl) rfl rfl ?_
    refine WO.q (.as (v := .int _ _) rfl) rfl rfl ?_
    refine WO.nil ?_
    refine WX.seq ?_
    refine WX.drw (Plan.of [0, 1, 2, 3, 4, 5, 6, 7, 8] .nil) _ mixed (by kernel_rfl) rfl (subE (pk_sub [0, 1, 2, 3])) ?_
    refine WP.q (i := 0) rfl (.mv (v := .sl _ _ _ _ _ _) rfl) rfl rfl rfl ?_
    refine WP.q (i := 1) rfl (.mv (v := .int _ _) rfl) rfl rfl rfl ?_
    obtain ⟨y72, hy72, h⟩ := Option.bind_eq_some_iff.1 h
    obtain rfl := h67.nonnil hy72
    obtain ⟨_, i_y72, l_y72, r_y72⟩ := h67.at sl38 hy72 .i64
    obtain ⟨_, _, rfl, rfl, rfl⟩ := r_y72
    refine WP.q (i := 2) rfl (.ia i_y72) rfl rfl rfl ?_
    refine WP.q (i := 3) rfl (.leA (i := 0) rfl rfl l_y72 ti42 rfl rfl) rfl rfl rfl ?_
    refine WP.q (i := 4) rfl (.mv (v := .sl _ _ _ _ _ _) rfl) rfl rfl rfl ?_
    refine WP.q (i := 5) rfl (.mv (v := .int _ _) rfl) rfl rfl rfl ?_
    obtain ⟨y73, hy73, h⟩ := Option.bind_eq_some_iff.1 h
    obtain rfl := h68.nonnil hy73
    obtain ⟨_, i_y73, l_y73, r_y73⟩ := h68.at sl38 hy73 .i64
    obtain ⟨_, _, rfl, rfl, rfl⟩ := r_y73
    refine WP.q (i := 6) rfl (.ia i_y73) rfl rfl rfl ?_
    refine WP.q (i := 7) rfl (.leA (i := 1) rfl rfl l_y73 ti42 rfl rfl) rfl rfl rfl ?_
    refine WP.q (i := 8) rfl (.bin (neq42 _ _ _ _)) rfl rfl rfl ?_
    refine WP.nil ?_
    rcases bsp (decide (y72.1 = y73.1) && (decide (y72.2 = y73.2) && true)) with k74 | k74
    · replace h := (if_pos k74).symm.trans h
      refine WX.condF rfl (f_not k74) ?_
      refine WX.skip ?_
      refine WX.pop ?_
      refine WX.reg ?_
      refine WO.q (.r fun _ => rfl) rfl rfl ?_
      refine WO.q (.mv (v := .int _ _) rfl) rfl rfl ?_
      refine WO.nil ?_
      refine WX.keepL [9, 10, 11, 12, 89, 90] (WX.pk [0, 1, 2, 3] (by decide) ?_) rfl
      obtain rfl := Option.some.inj h
      exact hn _ hE _ _ _ _ ⟨hB, hH, _, _, false, _, _, _, false, _, _, _, n69, _, _, _, n70, _, h67, h68, h69, h70, rfl, rfl⟩
    · replace h := (if_neg (bnt k74)).symm.trans h
      refine WX.condT rfl (t_not k74) ?_
      refine WX.seq ?_
      refine WX.reg ?_
      refine WO.q (.as (v := .bool _) rfl) rfl rfl ?_
      refine WO.nil ?_
      obtain rfl := Option.some.inj h
      exact WX.ret (rs_ (rs_tmp rfl rs_nil)) fun st hp => hr _ hE _ _ ⟨_, _, _, hB, (hp.pk [] (by decide)), rfl, rfl, hH⟩
  · have q_k71 := of_decide_eq_false k71
    replace h := (if_neg q_k71).symm.trans h
    refine WX.condF rfl k71 ?_
    refine WX.exit rfl ?_
    refine WX.keep [11, 12] (WX.pk [2, 3] (by decide) ?_) rfl
    obtain rfl := Option.some.inj h
    exact hx0 _ hE _ _ _ _ ⟨hB, hH, _, _, n69, _, _, _, n70, _, h69, h70, rfl, rfl⟩
theorem gabionlaw17_DirOrder_l1_ok {B0 : Kn} {L : Own} {n0 : Nat} {H : Heap} {x9 : List ((List UInt8) × Int)} {x10 : List ((List UInt8) × Int)} {x11 : List Int} {x12 : List Int} {x90 : Int} {Q : AV → St → Prop} {d : Nat} {e : (Heap × Bool) ⊕ Unit} (h : iter (fun (s : Int) => gabionlaw17_DirOrder_l1 H x9 x10 x11 x12 s) d x90 = some e) (g0 : ∀ r, e = (.inl r) → ∀ v st, gabionlaw17_DirOrder_P B0 L r v st → Q v st) (g1 : ∀ s, e = (.inr s) → WXH Tryd.prog 118 n0 (Fin Tryd.prog Tryd.f4.results.toList n0 Q) [.code (ct [1, 1, 1, 1, 1, 1, 1, 1] (bodyOf Tryd.f4))] (gabionlaw17_DirOrder_l1_X0 B0 H x11 x12) L) : WXH Tryd.prog 118 n0 (Fin Tryd.prog Tryd.f4.results.toList n0 Q) [.code (ct [1, 1, 1, 1, 1, 1, 1, 0, 1, 0, 0] (bodyOf Tryd.f4)), .lp (ct [1, 1, 1, 1, 1, 1, 1, 0, 1, 0, 0] (bodyOf Tryd.f4)), .blk 2, .code (ct [1, 1, 1, 1, 1, 1, 1, 1] (bodyOf Tryd.f4))] (gabionlaw17_DirOrder_l1_I B0 H x9 x10 x11 x12 x90) L :=
  iter_okH (I := fun s => gabionlaw17_DirOrder_l1_I B0 H x9 x10 x11 x12 s) (D := fun e => (∀ r, e = (.inl r) → ∀ v st, gabionlaw17_DirOrder_P B0 L r v st → Q v st) ∧ (∀ s, e = (.inr s) → WXH Tryd.prog 118 n0 (Fin Tryd.prog Tryd.f4.results.toList n0 Q) [.code (ct [1, 1, 1, 1, 1, 1, 1, 1] (bodyOf Tryd.f4))] (gabionlaw17_DirOrder_l1_X0 B0 H x11 x12) L)) (fun E hn hx s o ho hE => gabionlaw17_DirOrder_l1_s (x90 := s) ho hn (fun s hs => (hx _ hs).2 _ rfl) (fun r hs => (hx _ hs).1 _ rfl) hE) h ⟨g0, g1⟩
theorem gabionlaw17_DirOrder_l2_s {B0 : Kn} {L : Own} {n0 : Nat} {H : Heap} {x11 : List Int} {x12 : List Int} {x105 : Int} {Q : AV → St → Prop} {E : Int ⊕ ((Heap × Bool) ⊕ Unit) → Prop} {o : Int ⊕ ((Heap × Bool) ⊕ Unit)} (h : gabionlaw17_DirOrder_l2 H x11 x12 x105 = some o) (hn : ∀ s, E (.inl s) → WXH Tryd.prog 118 n0 (Fin Tryd.prog Tryd.f4.results.toList n0 Q) [.lp (ct [1, 1, 1, 1, 1, 1, 1, 1, 0, 1, 0, 0] (bodyOf Tryd.f4)), .blk 4, .code (ct [1, 1, 1, 1, 1, 1, 1, 1, 1] (bodyOf Tryd.f4))] (gabionlaw17_DirOrder_l2_I B0 H x11 x12 s) L) (hx0 : ∀ s, E (.inr (.inr s)) → WXH Tryd.prog 118 n0 (Fin Tryd.prog Tryd.f4.results.toList n0 Q) [.code (ct [1, 1, 1, 1, 1, 1, 1, 1, 1] (bodyOf Tryd.f4))] (gabionlaw17_DirOrder_l2_X0 B0 H) L) (hr : ∀ r, E (.inr (.inl r)) → ∀ v st, gabionlaw17_DirOrder_P B0 L r v st → Q v st) (hE : E o) : WXH Tryd.prog 118 n0 (Fin Tryd.prog Tryd.f4.results.toList n0 Q) [.code (ct [1, 1, 1, 1, 1, 1, 1, 1, 0, 1, 0, 0] (bodyOf Tryd.f4)), .lp (ct [1, 1, 1, 1, 1, 1, 1, 1, 0, 1, 0, 0] (bodyOf Tryd.f4)), .blk 4, .code (ct [1, 1, 1, 1, 1, 1, 1, 1, 1] (bodyOf Tryd.f4))] (gabionlaw17_DirOrder_l2_I B0 H x11 x12 x105) L := by
  unfold gabionlaw17_DirOrder_l2 at h
  rintro _ B _ E ⟨hB, hH, v83, b83, n83, c83, v84, b84, n84, c84, h83, h84, rfl, rfl⟩
  obtain ⟨_, _, _, _, _, rfl⟩ := h83.isl
  obtain ⟨_, _, _, _, _, rfl⟩ := h84.isl
  refine WX.seq ?_
  refine WX.reg ?_
  refine WO.q (.r fun _ => rfl) rfl rfl ?_
  refine WO.nil ?_
  refine WX.seq ?_
  rcases bsp (decide (x105 < (x11.length : Int))) with k85 | k85
  · have q_k85 := of_decide_eq_true k85
    replace h := (if_pos q_k85).symm.trans h
    refine WX.condT rfl k85 ?_
    refine WX.skip ?_
    refine WX.seq ?_
    refine WX.block ?_
    refine WX.seq ?_
    refine WX.reg ?_
    refine WO.q (.mv (v := .int _ _) rfl) rfl rfl ?_
    refine WO.q (.as (v := .int _ _) rfl) rfl rfl ?_
    refine WO.nil ?_
    refine WX.seq ?_
    refine WX.drw (Plan.of [0, 1, 2, 3, 4, 5, 6, 7, 8] .nil) _ mixed (by kernel_rfl) rfl (subE (pk_sub [0, 1])) ?_
    refine WP.q (i := 0) rfl (.mv (v := .sl _ _ _ _ _ _) rfl) rfl rfl rfl ?_
    refine WP.q (i := 1) rfl (.mv (v := .int _ _) rfl) rfl rfl rfl ?_
    obtain ⟨y86, hy86, h⟩ := Option.bind_eq_some_iff.1 h
    obtain rfl := h83.nonnil hy86
    obtain ⟨_, i_y86, l_y86, r_y86⟩ := h83.at sl32 hy86 .i64
    obtain rfl := r_y86
    refine WP.q (i := 2) rfl (.ia i_y86) rfl rfl rfl ?_
    refine WP.q (i := 3) rfl (.ldS (i := 0) rfl rfl (l_y86.g0 rfl) ti3 rfl) rfl rfl rfl ?_
    refine WP.q (i := 4) rfl (.mv (v := .sl _ _ _ _ _ _) rfl) rfl rfl rfl ?_
    refine WP.q (i := 5) rfl (.mv (v := .int _ _) rfl) rfl rfl rfl ?_
    obtain ⟨y87, hy87, h⟩ := Option.bind_eq_some_iff.1 h
    obtain rfl := h84.nonnil hy87
    obtain ⟨_, i_y87, l_y87, r_y87⟩ := h84.at sl32 hy87 .i64
    obtain rfl := r_y87
    refine WP.q (i := 6) rfl (.ia i_y87) rfl rfl rfl ?_
    refine WP.q (i := 7) rfl (.ldS (i := 1) rfl rfl (l_y87.g0 rfl) ti3 rfl) rfl rfl rfl ?_
    refine WP.q (i := 8) rfl (.r fun _ => rfl) rfl rfl rfl ?_
    refine WP.nil ?_
    rcases bsp (decide (y86 ≠ y87)) with k88 | k88
    · have q_k88 := of_decide_eq_true k88
      replace h := (if_pos q_k88).symm.trans h
      refine WX.condT rfl k88 ?_
      refine WX.seq ?_
      refine WX.reg ?_
      refine WO.q (.as (v := .bool _) rfl) rfl rfl ?_
      refine WO.nil ?_
      obtain rfl := Option.some.inj h
      exact WX.ret (rs_ (rs_tmp rfl rs_nil)) fun st hp => hr _ hE _ _ ⟨_, _, _, hB, (hp.pk [] (by decide)), rfl, rfl, hH⟩
    · have q_k88 := of_decide_eq_false k88
      replace h := (if_neg q_k88).symm.trans h
      refine WX.condF rfl k88 ?_
      refine WX.skip ?_
      refine WX.pop ?_
      refine WX.reg ?_
      refine WO.q (.r fun _ => rfl) rfl rfl ?_
      refine WO.q (.mv (v := .int _ _) rfl) rfl rfl ?_
      refine WO.nil ?_
      refine WX.keepL [11, 12, 104, 105] (WX.pk [0, 1] (by decide) ?_) rfl
      obtain rfl := Option.some.inj h
      exact hn _ hE _ _ _ _ ⟨hB, hH, _, _, false, _, _, _, false, _, h83, h84, rfl, rfl⟩
  · have q_k85 := of_decide_eq_false k85
    replace h := (if_neg q_k85).symm.trans h
    refine WX.condF rfl k85 ?_
    refine WX.exit rfl ?_
    refine WX.keep [] (WX.pk [] (by decide) ?_) rfl
    obtain rfl := Option.some.inj h
    exact hx0 _ hE _ _ _ _ ⟨hB, hH, rfl, rfl⟩
theorem gabionlaw17_DirOrder_l2_ok {B0 : Kn} {L : Own} {n0 : Nat} {H : Heap} {x11 : List Int} {x12 : List Int} {x105 : Int} {Q : AV → St → Prop} {d : Nat} {e : (Heap × Bool) ⊕ Unit} (h : iter (fun (s : Int) => gabionlaw17_DirOrder_l2 H x11 x12 s) d x105 = some e) (g0 : ∀ r, e = (.inl r) → ∀ v st, gabionlaw17_DirOrder_P B0 L r v st → Q v st) (g1 : ∀ s, e = (.inr s) → WXH Tryd.prog 118 n0 (Fin Tryd.prog Tryd.f4.results.toList n0 Q) [.code (ct [1, 1, 1, 1, 1, 1, 1, 1, 1] (bodyOf Tryd.f4))] (gabionlaw17_DirOrder_l2_X0 B0 H) L) : WXH Tryd.prog 118 n0 (Fin Tryd.prog Tryd.f4.results.toList n0 Q) [.code (ct [1, 1, 1, 1, 1, 1, 1, 1, 0, 1, 0, 0] (bodyOf Tryd.f4)), .lp (ct [1, 1, 1, 1, 1, 1, 1, 1, 0, 1, 0, 0] (bodyOf Tryd.f4)), .blk 4, .code (ct [1, 1, 1, 1, 1, 1, 1, 1, 1] (bodyOf Tryd.f4))] (gabionlaw17_DirOrder_l2_I B0 H x11 x12 x105) L :=
  iter_okH (I := fun s => gabionlaw17_DirOrder_l2_I B0 H x11 x12 s) (D := fun e => (∀ r, e = (.inl r) → ∀ v st, gabionlaw17_DirOrder_P B0 L r v st → Q v st) ∧ (∀ s, e = (.inr s) → WXH Tryd.prog 118 n0 (Fin Tryd.prog Tryd.f4.results.toList n0 Q) [.code (ct [1, 1, 1, 1, 1, 1, 1, 1, 1] (bodyOf Tryd.f4))] (gabionlaw17_DirOrder_l2_X0 B0 H) L)) (fun E hn hx s o ho hE => gabionlaw17_DirOrder_l2_s (x105 := s) ho hn (fun s hs => (hx _ hs).2 _ rfl) (fun r hs => (hx _ hs).1 _ rfl) hE) h ⟨g0, g1⟩
theorem gabionlaw17_DirOrder_j13_ok {B0 : Kn} {L : Own} {n0 : Nat} {H : Heap} {x9 : List ((List UInt8) × Int)} {x10 : List ((List UInt8) × Int)} {x11 : List Int} {x12 : List Int} {x87 : Bool} {r : Heap × Bool} (h : gabionlaw17_DirOrder_j13 H x9 x10 x11 x12 x87 = some r) : WXH Tryd.prog 118 n0 (Fin Tryd.prog Tryd.f4.results.toList n0 (gabionlaw17_DirOrder_P B0 L r)) [.code (ct [1, 1, 1, 1, 1, 1, 0, 1] (bodyOf Tryd.f4)), .code (ct [1, 1, 1, 1, 1, 1, 1] (bodyOf Tryd.f4))] (gabionlaw17_DirOrder_j13_I B0 H x9 x10 x11 x12 x87) L := by
  unfold gabionlaw17_DirOrder_j13 at h
  rintro _ B _ E ⟨hB, hH, v62, b62, n62, c62, v63, b63, n63, c63, v64, b64, n64, c64, v65, b65, n65, c65, h62, h63, h64, h65, rfl, rfl⟩
  obtain ⟨_, _, _, _, _, rfl⟩ := h62.isl
  obtain ⟨_, _, _, _, _, rfl⟩ := h63.isl
  obtain ⟨_, _, _, _, _, rfl⟩ := h64.isl
  obtain ⟨_, _, _, _, _, rfl⟩ := h65.isl
  rcases bsp x87 with k66 | k66
  · replace h := (if_pos k66).symm.trans h
    refine WX.condT rfl k66 ?_
    refine WX.seq ?_
    refine WX.reg ?_
    refine WO.q (.as (v := .bool _) rfl) rfl rfl ?_
    refine WO.nil ?_
    obtain rfl := Option.some.inj h
    exact WX.ret (rs_ (rs_tmp rfl rs_nil)) fun st hp => ⟨_, _, _, hB, (hp.pk [] (by decide)), rfl, rfl, hH⟩
  · replace h := (if_neg (bnt k66)).symm.trans h
    refine WX.condF rfl k66 ?_
    refine WX.skip ?_
    refine WX.seq ?_
    refine WX.seq ?_
    refine WX.reg ?_
    refine WO.q (.mv (v := .sl _ _ _ _ _ _) rfl) rfl rfl ?_
    refine WO.q (.len rfl rfl rfl (sl38.len h62.isl)) rfl rfl ?_
    refine WO.q (.mv (v := .int _ _) rfl) rfl rfl ?_
    refine WO.nil ?_
    refine WX.block ?_
    refine WX.loop ?_
    obtain ⟨e77, he77, h⟩ := Option.bind_eq_some_iff.1 h
    refine WX.keep [9, 10, 11, 12, 89, 90] (WX.pk [0, 1, 2, 3] (by decide) ?_) rfl
    refine gabionlaw17_DirOrder_l1_ok he77 ?_ ?_ _ _ _ _ ⟨hB, hH, _, _, n62, _, _, _, n63, _, _, _, n64, _, _, _, n65, _, h62, h63, h64, h65, rfl, rfl⟩
    · intro r79 he_
      subst he_
      replace h := (on_l h)
      obtain rfl := Option.some.inj h
      exact fun v st hp => hp
    · intro x80 he_
      subst he_
      replace h := (on_r h)
      rintro _ B _ E ⟨hB, hH, v81, b81, n81, c81, v82, b82, n82, c82, h81, h82, rfl, rfl⟩
      obtain ⟨_, _, _, _, _, rfl⟩ := h81.isl
      obtain ⟨_, _, _, _, _, rfl⟩ := h82.isl
      refine WX.seq ?_
      refine WX.seq ?_
      refine WX.reg ?_
      refine WO.q (.mv (v := .sl _ _ _ _ _ _) rfl) rfl rfl ?_
      refine WO.q (.len rfl rfl rfl (sl32.len h81.isl)) rfl rfl ?_
      refine WO.q (.mv (v := .int _ _) rfl) rfl rfl ?_
      refine WO.nil ?_
      refine WX.block ?_
      refine WX.loop ?_
      obtain ⟨e89, he89, h⟩ := Option.bind_eq_some_iff.1 h
      refine WX.keep [11, 12, 104, 105] (WX.pk [0, 1] (by decide) ?_) rfl
      refine gabionlaw17_DirOrder_l2_ok he89 ?_ ?_ _ _ _ _ ⟨hB, hH, _, _, n81, _, _, _, n82, _, h81, h82, rfl, rfl⟩
      · intro r91 he_
        subst he_
        replace h := (on_l h)
        obtain rfl := Option.some.inj h
        exact fun v st hp => hp
      · intro x92 he_
        subst he_
        replace h := (on_r h)
        rintro _ B _ E ⟨hB, hH, rfl, rfl⟩
        refine WX.seq ?_
        refine WX.reg ?_
        refine WO.q (.as (v := .bool _) rfl) rfl rfl ?_
        refine WO.nil ?_
        obtain rfl := Option.some.inj h
        exact WX.ret (rs_ (rs_tmp rfl rs_nil)) fun st hp => ⟨_, _, _, hB, (hp.pk [] (by decide)), rfl, rfl, hH⟩
theorem gabionlaw17_DirOrder_ok {B0 : Kn} {L : Own} {H : Heap} {E : Own} (hH : HR B0 H E) {a0 : List Int} {a1 : Int} {v0_0 : AV} {r : Heap × Bool} (g0_0 : RSl (Ty.int .u16) B0 v0_0 a0) (h : gabionlaw17_DirOrder H a0 a1 = some r) : ∀ st, Hp B0 (E ++ L) st → ASpec Tryd.prog 4 [v0_0, .int .u8 a1] st (gabionlaw17_DirOrder_P B0 L r) := by
  unfold gabionlaw17_DirOrder at h
  refine bodyA (A := []) (L := E ++ L) Tryd.func4 rfl (c := bodyOf Tryd.f4) rfl Tryd.ntmps4 (lb rfl) fun n0 => ?_
  have hB := KLw.refl B0
  obtain ⟨_, _, _, _, _, rfl⟩ := g0_0.isl
  refine WX.seq ?_
  refine WX.reg ?_
  refine WO.q (.as (v := .bool _) rfl) rfl rfl ?_
  refine WO.nil ?_
  refine WX.seq ?_
  refine WX.reg ?_
  refine WO.q (.mv (v := .sl _ _ _ _ _ _) rfl) rfl rfl ?_
  refine WO.q (.mv (v := .sl _ _ _ _ _ _) rfl) rfl rfl ?_
  refine WO.q (.len rfl rfl rfl (sl22.len g0_0.isl)) rfl rfl ?_
  refine WO.q (.r fun _ => rfl) rfl rfl ?_
  obtain ⟨y1, hy1, h⟩ := Option.bind_eq_some_iff.1 h
  obtain ⟨v_y1, e_y1, g_y1⟩ := g0_0.cut sl22 hy1 (lo := none) (hi := some (.int .i64 (mn (a0.length : Int) 80))) bnd_none (bnd_int (Int.le_trans (cutL_some hy1).1.1 (cutL_some hy1).1.2.1))
  obtain ⟨_, _, _, _, _, rfl⟩ := g_y1.isl
  refine WO.q (.sl e_y1) rfl rfl ?_
  refine WO.q (.as (v := .sl _ _ _ _ _ _) rfl) rfl rfl ?_
  refine WO.nil ?_
  refine WX.seq ?_
  refine WX.reg ?_
  obtain ⟨y2, hy2, h⟩ := Option.bind_eq_some_iff.1 h
  refine WO.ch rfl rfl (dir_New_ok hH hy2) rfl rfl rfl ?_
  rintro v3 B _ E hK ⟨_, rfl, rfl, hH, h4⟩
  replace g_y1 := g_y1.upw hK
  replace hB := hB.trans hK
  obtain ⟨y5, hy5, h⟩ := Option.bind_eq_some_iff.1 h
  refine WO.ch rfl rfl (dir_New_ok hH hy5) rfl rfl rfl ?_
  rintro v6 B _ E hK ⟨_, rfl, rfl, hH, h7⟩
  replace g_y1 := g_y1.upw hK
  replace h4 := h4.upw hK
  replace hB := hB.trans hK
  refine WO.q (.as (v := v3) rfl) rfl rfl ?_
  refine WO.q (.as (v := v6) rfl) rfl rfl ?_
  refine WO.nil ?_
  refine WX.seq ?_
  refine WX.seq ?_
  refine WX.reg ?_
  refine WO.q (.mv (v := .sl _ _ _ _ _ _) rfl) rfl rfl ?_
  refine WO.q (.len rfl rfl rfl (sl22.len g_y1.isl)) rfl rfl ?_
  refine WO.q (.mv (v := .int _ _) rfl) rfl rfl ?_
  refine WO.nil ?_
  refine WX.block ?_
  refine WX.loop ?_
  obtain ⟨e29, he29, h⟩ := Option.bind_eq_some_iff.1 h
  refine WX.keep [0, 1, 5, 6, 23, 24] (WX.pk [] (by decide) ?_) rfl
  refine gabionlaw17_DirOrder_l0_ok he29 ?_ ?_ _ _ _ _ ⟨hB, hH, _, _, _, g_y1, h4, h7, rfl, rfl⟩
  · intro r31 he_
    subst he_
    replace h := (on_l h)
    obtain rfl := Option.some.inj h
    exact fun v st hp => hp
  · intro x32 he_
    subst he_
    replace h := (on_r h)
    rintro _ B _ E ⟨hB, hH, v33, v34, h33, h34, rfl, rfl⟩
    refine WX.seq ?_
    refine WX.reg ?_
    refine WO.q (.mv (v := v33) rfl) rfl rfl ?_
    obtain ⟨y35, hy35, h⟩ := Option.bind_eq_some_iff.1 h
    refine WO.ch rfl rfl (dir_Dir_List_ok hH h33 hy35) rfl rfl rfl ?_
    rintro _ B _ E hK ⟨v36, b37, n38, c39, rfl, rfl, hH, h40⟩
    obtain ⟨_, _, _, _, _, rfl⟩ := h40.isl
    replace h33 := h33.upw hK
    replace h34 := h34.upw hK
    replace hB := hB.trans hK
    refine WO.q (.mv (v := v34) rfl) rfl rfl ?_
    obtain ⟨y41, hy41, h⟩ := Option.bind_eq_some_iff.1 h
    refine WO.ch rfl rfl (dir_Dir_List_ok hH h34 hy41) rfl rfl rfl ?_
    rintro _ B _ E hK ⟨v42, b43, n44, c45, rfl, rfl, hH, h46⟩
    obtain ⟨_, _, _, _, _, rfl⟩ := h46.isl
    replace h33 := h33.upw hK
    replace h34 := h34.upw hK
    replace h40 := h40.upw hK
    replace hB := hB.trans hK
    refine WO.q (.as (v := .sl _ _ _ _ _ _) rfl) rfl rfl ?_
    refine WO.q (.as (v := .sl _ _ _ _ _ _) rfl) rfl rfl ?_
    refine WO.nil ?_
    refine WX.seq ?_
    refine WX.reg ?_
    refine WO.q (.mv (v := v33) rfl) rfl rfl ?_
    obtain ⟨y47, hy47, h⟩ := Option.bind_eq_some_iff.1 h
    refine WO.ch rfl rfl (dir_Dir_Buckets_ok hH h33 hy47) rfl rfl rfl ?_
    rintro _ B _ E hK ⟨v48, b49, n50, c51, rfl, rfl, hH, h52⟩
    obtain ⟨_, _, _, _, _, rfl⟩ := h52.isl
    replace h33 := h33.upw hK
    replace h34 := h34.upw hK
    replace h40 := h40.upw hK
    replace h46 := h46.upw hK
    replace hB := hB.trans hK
    refine WO.q (.mv (v := v34) rfl) rfl rfl ?_
    obtain ⟨y53, hy53, h⟩ := Option.bind_eq_some_iff.1 h
    refine WO.ch rfl rfl (dir_Dir_Buckets_ok hH h34 hy53) rfl rfl rfl ?_
    rintro _ B _ E hK ⟨v54, b55, n56, c57, rfl, rfl, hH, h58⟩
    obtain ⟨_, _, _, _, _, rfl⟩ := h58.isl
    replace h33 := h33.upw hK
    replace h34 := h34.upw hK
    replace h40 := h40.upw hK
    replace h46 := h46.upw hK
    replace h52 := h52.upw hK
    replace hB := hB.trans hK
    refine WO.q (.as (v := .sl _ _ _ _ _ _) rfl) rfl rfl ?_
    refine WO.q (.as (v := .sl _ _ _ _ _ _) rfl) rfl rfl ?_
    refine WO.nil ?_
    refine WX.seq ?_
    refine WX.seq ?_
    refine WX.reg ?_
    obtain ⟨y59, hy59, h⟩ := Option.bind_eq_some_iff.1 h
    refine WO.ch rfl rfl (gabionlaw17_wakes_ok hH hy59) rfl rfl rfl ?_
    rintro _ B _ E hK ⟨rfl, rfl, hH⟩
    replace h40 := h40.upw hK
    replace h46 := h46.upw hK
    replace h52 := h52.upw hK
    replace h58 := h58.upw hK
    replace hB := hB.trans hK
    refine WO.q (.r fun _ => rfl) rfl rfl ?_
    refine WO.q (.mv (v := .bool _) rfl) rfl rfl ?_
    rcases bsp y59.2 with k60 | k60
    · replace h := (if_pos k60).symm.trans h
      refine WO.q (.mv (v := .sl _ _ _ _ _ _) rfl) (wg rfl rfl (gf (f_not k60))) rfl ?_
      refine WO.q (.len rfl rfl rfl (sl38.len h40.isl)) (wg rfl rfl (gf (f_not k60))) rfl ?_
      refine WO.q (.mv (v := .sl _ _ _ _ _ _) rfl) (wg rfl rfl (gf (f_not k60))) rfl ?_
      refine WO.q (.len rfl rfl rfl (sl38.len h46.isl)) (wg rfl rfl (gf (f_not k60))) rfl ?_
      refine WO.q (.r fun _ => rfl) (wg rfl rfl (gf (f_not k60))) rfl ?_
      refine WO.q (.pfv (v := .bool _) rfl (f_not k60) rfl) rfl rfl ?_
      refine WO.q (.mv (v := .bool _) rfl) rfl rfl ?_
      rcases bsp (decide ((y35.2.length : Int) ≠ (y41.2.length : Int))) with k61 | k61
      · have q_k61 := of_decide_eq_true k61
        replace h := (if_pos q_k61).symm.trans h
        refine WO.sd (wg rfl rfl (gfn k61)) rfl ?_
        refine WO.sd (wg rfl rfl (gfn k61)) rfl ?_
        refine WO.sd (wg rfl rfl (gfn k61)) rfl ?_
        refine WO.sd (wg rfl rfl (gfn k61)) rfl ?_
        refine WO.sd (wg rfl rfl (gfn k61)) rfl ?_
        refine WO.q (.ptv (v := .bool _) rfl k61 rfl) rfl rfl ?_
        refine WO.nil ?_
        refine WX.keep [9, 10, 11, 12, 87] (WX.pk [3, 2, 1, 0] (by decide) ?_) rfl
        exact gabionlaw17_DirOrder_j13_ok h _ _ _ _ ⟨hB, hH, _, _, n38, _, _, _, n44, _, _, _, n50, _, _, _, n56, _, h40, h46, h52, h58, rfl, rfl⟩
      · have q_k61 := of_decide_eq_false k61
        replace h := (if_neg q_k61).symm.trans h
        refine WO.q (.mv (v := .sl _ _ _ _ _ _) rfl) (wg rfl rfl (gf k61)) rfl ?_
        refine WO.q (.len rfl rfl rfl (sl32.len h52.isl)) (wg rfl rfl (gf k61)) rfl ?_
        refine WO.q (.mv (v := .sl _ _ _ _ _ _) rfl) (wg rfl rfl (gf k61)) rfl ?_
        refine WO.q (.len rfl rfl rfl (sl32.len h58.isl)) (wg rfl rfl (gf k61)) rfl ?_
        refine WO.q (.r fun _ => rfl) (wg rfl rfl (gf k61)) rfl ?_
        refine WO.q (.pfv (v := .bool _) rfl k61 rfl) rfl rfl ?_
        refine WO.nil ?_
        refine WX.keep [9, 10, 11, 12, 87] (WX.pk [3, 2, 1, 0] (by decide) ?_) rfl
        exact gabionlaw17_DirOrder_j13_ok h _ _ _ _ ⟨hB, hH, _, _, n38, _, _, _, n44, _, _, _, n50, _, _, _, n56, _, h40, h46, h52, h58, rfl, rfl⟩
    · replace h := (if_neg (bnt k60)).symm.trans h
      refine WO.sd (wg rfl rfl (gfn (t_not k60))) rfl ?_
      refine WO.sd (wg rfl rfl (gfn (t_not k60))) rfl ?_
      refine WO.sd (wg rfl rfl (gfn (t_not k60))) rfl ?_
      refine WO.sd (wg rfl rfl (gfn (t_not k60))) rfl ?_
      refine WO.sd (wg rfl rfl (gfn (t_not k60))) rfl ?_
      refine WO.q (.ptv (v := .bool _) rfl (t_not k60) rfl) rfl rfl ?_
      refine WO.q (.mv (v := .bool _) rfl) rfl rfl ?_
      refine WO.sd (wg rfl rfl (gfn rfl)) rfl ?_
      refine WO.sd (wg rfl rfl (gfn rfl)) rfl ?_
      refine WO.sd (wg rfl rfl (gfn rfl)) rfl ?_
      refine WO.sd (wg rfl rfl (gfn rfl)) rfl ?_
      refine WO.sd (wg rfl rfl (gfn rfl)) rfl ?_
      refine WO.q (.ptv (v := .bool _) rfl rfl rfl) rfl rfl ?_
      refine WO.nil ?_
      refine WX.keep [9, 10, 11, 12, 87] (WX.pk [3, 2, 1, 0] (by decide) ?_) rfl
      exact gabionlaw17_DirOrder_j13_ok h _ _ _ _ ⟨hB, hH, _, _, n38, _, _, _, n44, _, _, _, n50, _, _, _, n56, _, h40, h46, h52, h58, rfl, rfl⟩
end Gab
