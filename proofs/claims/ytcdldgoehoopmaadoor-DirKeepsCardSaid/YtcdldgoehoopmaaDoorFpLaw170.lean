/- The Go code comes to what the Lean functions say. Written by a program (gp.py). -/
import Derived.Test.YtcdldgoehoopmaaDoorFd
import Derived.Test.YtcdldgoehoopmaaDoorTy
import Derived.Test.YtcdldgoehoopmaaDoorFpDir0
import Derived.Test.YtcdldgoehoopmaaDoorFpRef170
import Derived.Test.YtcdldgoehoopmaaDoorHand
set_option linter.unusedSimpArgs false
set_option linter.unusedVariables false
set_option maxHeartbeats 4000000
set_option maxRecDepth 100000
namespace Gab
open Go Go.Proofs
def gabionlaw17_wakes_P (B : Kn) (L : Own) (r : Heap × Bool) : AV → St → Prop := CH B L fun B' X E' v => v = .bool r.2 ∧ X = [] ∧ HR B' r.1 E'
def gabionlaw17_wakes_l0_I (B0 : Kn) (x1 : Nat) (H : Heap) (x6 : Int) : Fr → Kn → Own → Own → Prop := fun fr B A E => KLw B0 B ∧ HR B H E ∧ ∃ v4, HPt B 66 v4 x1 ∧ fr = [(1, v4), (6, .int .i64 x6)] ∧ A = []
def gabionlaw17_wakes_l0_X0 (B0 : Kn) (H : Heap) (x1 : Nat) : Fr → Kn → Own → Own → Prop := fun fr B A E => KLw B0 B ∧ HR B H E ∧ ∃ v31, HPt B 66 v31 x1 ∧ fr = [(1, v31)] ∧ A = []
theorem gabionlaw17_wakes_l0_s {B0 : Kn} {L : Own} {n0 : Nat} {x1 : Nat} {H : Heap} {x6 : Int} {Q : AV → St → Prop} {E : (Heap × Int) ⊕ ((Heap × Bool) ⊕ Heap) → Prop} {o : (Heap × Int) ⊕ ((Heap × Bool) ⊕ Heap)} (h : gabionlaw17_wakes_l0 x1 H x6 = some o) (hn : ∀ s, E (.inl s) → WXH Tryd.prog 48 n0 (Fin Tryd.prog Tryd.f13.results.toList n0 Q) [.lp (ct [1, 1, 0, 1, 0, 0] (bodyOf Tryd.f13)), .blk 0, .code (ct [1, 1, 1] (bodyOf Tryd.f13))] (gabionlaw17_wakes_l0_I B0 x1 s.1 s.2) L) (hx0 : ∀ s, E (.inr (.inr s)) → WXH Tryd.prog 48 n0 (Fin Tryd.prog Tryd.f13.results.toList n0 Q) [.code (ct [1, 1, 1] (bodyOf Tryd.f13))] (gabionlaw17_wakes_l0_X0 B0 s x1) L) (hr : ∀ r, E (.inr (.inl r)) → ∀ v st, gabionlaw17_wakes_P B0 L r v st → Q v st) (hE : E o) : WXH Tryd.prog 48 n0 (Fin Tryd.prog Tryd.f13.results.toList n0 Q) [.code (ct [1, 1, 0, 1, 0, 0] (bodyOf Tryd.f13)), .lp (ct [1, 1, 0, 1, 0, 0] (bodyOf Tryd.f13)), .blk 0, .code (ct [1, 1, 1] (bodyOf Tryd.f13))] (gabionlaw17_wakes_l0_I B0 x1 H x6) L := by
  unfold gabionlaw17_wakes_l0 at h
  rintro _ B _ E ⟨hB, hH, v4, h4, rfl, rfl⟩
  refine WX.seq ?_
  refine WX.reg ?_
  refine WO.q (.r fun _ => rfl) rfl rfl ?_
  refine WO.nil ?_
  refine WX.seq ?_
  rcases bsp (decide (x6 < 17)) with k5 | k5
  · have q_k5 := of_decide_eq_true k5
    replace h := (if_pos q_k5).symm.trans h
    refine WX.condT rfl k5 ?_
    refine WX.skip ?_
    refine WX.seq ?_
    refine WX.block ?_
    refine WX.seq ?_
    refine WX.reg ?_
    refine WO.q (.mv (v := .int _ _) rfl) rfl rfl ?_
    refine WO.q (.as (v := .int _ _) rfl) rfl rfl ?_
    refine WO.nil ?_
    refine WX.seq ?_
    refine WX.reg ?_
    refine WO.q (.mv (v := v4) rfl) rfl rfl ?_
    refine WO.q (.mv (v := .int _ _) rfl) rfl rfl ?_
    obtain ⟨y6, hy6, h⟩ := Option.bind_eq_some_iff.1 h
    refine WO.cS rfl rfl (strconv_Itoa_ok hy6) rfl rfl rfl ?_
    rintro _ rfl
    obtain ⟨y7, hy7, h⟩ := Option.bind_eq_some_iff.1 h
    refine WO.q (.bin (evcat hy7)) rfl rfl ?_
    refine WO.q (.mv (v := .int _ _) rfl) rfl rfl ?_
    obtain ⟨y8, hy8, h⟩ := Option.bind_eq_some_iff.1 h
    refine WO.ch rfl rfl (dir_Dir_Put_ok hH h4 hy8) rfl rfl rfl ?_
    rintro _ B _ E hK ⟨rfl, rfl, hH⟩
    replace h4 := h4.upw hK
    replace hB := hB.trans hK
    refine WO.q (.r fun _ => rfl) rfl rfl ?_
    refine WO.nil ?_
    rcases bsp (decide (y8.2 ≠ 0)) with k9 | k9
    · have q_k9 := of_decide_eq_true k9
      replace h := (if_pos q_k9).symm.trans h
      refine WX.condT rfl k9 ?_
      refine WX.seq ?_
      refine WX.reg ?_
      refine WO.q (.as (v := .bool _) rfl) rfl rfl ?_
      refine WO.nil ?_
      obtain rfl := Option.some.inj h
      exact WX.ret (rs_ (rs_tmp rfl rs_nil)) fun st hp => hr _ hE _ _ ⟨_, _, _, hB, (hp.pk [] (by decide)), rfl, rfl, hH⟩
    · have q_k9 := of_decide_eq_false k9
      replace h := (if_neg q_k9).symm.trans h
      refine WX.condF rfl k9 ?_
      refine WX.skip ?_
      refine WX.pop ?_
      refine WX.reg ?_
      refine WO.q (.r fun _ => rfl) rfl rfl ?_
      refine WO.q (.mv (v := .int _ _) rfl) rfl rfl ?_
      refine WO.nil ?_
      refine WX.keepL [1, 6] (WX.pk [] (by decide) ?_) rfl
      obtain rfl := Option.some.inj h
      exact hn _ hE _ _ _ _ ⟨hB, hH, _, h4, rfl, rfl⟩
  · have q_k5 := of_decide_eq_false k5
    replace h := (if_neg q_k5).symm.trans h
    refine WX.condF rfl k5 ?_
    refine WX.exit rfl ?_
    refine WX.keep [1] (WX.pk [] (by decide) ?_) rfl
    obtain rfl := Option.some.inj h
    exact hx0 _ hE _ _ _ _ ⟨hB, hH, _, h4, rfl, rfl⟩
theorem gabionlaw17_wakes_l0_ok {B0 : Kn} {L : Own} {n0 : Nat} {x1 : Nat} {H : Heap} {x6 : Int} {Q : AV → St → Prop} {d : Nat} {e : (Heap × Bool) ⊕ Heap} (h : iter (fun (s : Heap × Int) => gabionlaw17_wakes_l0 x1 s.1 s.2) d (H, x6) = some e) (g0 : ∀ r, e = (.inl r) → ∀ v st, gabionlaw17_wakes_P B0 L r v st → Q v st) (g1 : ∀ s, e = (.inr s) → WXH Tryd.prog 48 n0 (Fin Tryd.prog Tryd.f13.results.toList n0 Q) [.code (ct [1, 1, 1] (bodyOf Tryd.f13))] (gabionlaw17_wakes_l0_X0 B0 s x1) L) : WXH Tryd.prog 48 n0 (Fin Tryd.prog Tryd.f13.results.toList n0 Q) [.code (ct [1, 1, 0, 1, 0, 0] (bodyOf Tryd.f13)), .lp (ct [1, 1, 0, 1, 0, 0] (bodyOf Tryd.f13)), .blk 0, .code (ct [1, 1, 1] (bodyOf Tryd.f13))] (gabionlaw17_wakes_l0_I B0 x1 H x6) L :=
  iter_okH (I := fun s => gabionlaw17_wakes_l0_I B0 x1 s.1 s.2) (D := fun e => (∀ r, e = (.inl r) → ∀ v st, gabionlaw17_wakes_P B0 L r v st → Q v st) ∧ (∀ s, e = (.inr s) → WXH Tryd.prog 48 n0 (Fin Tryd.prog Tryd.f13.results.toList n0 Q) [.code (ct [1, 1, 1] (bodyOf Tryd.f13))] (gabionlaw17_wakes_l0_X0 B0 s x1) L)) (fun E hn hx s o ho hE => gabionlaw17_wakes_l0_s (H := s.1) (x6 := s.2) ho hn (fun s hs => (hx _ hs).2 _ rfl) (fun r hs => (hx _ hs).1 _ rfl) hE) h ⟨g0, g1⟩
theorem gabionlaw17_wakes_ok {B0 : Kn} {L : Own} {H : Heap} {E : Own} (hH : HR B0 H E) {r : Heap × Bool} (h : gabionlaw17_wakes H = some r) : ∀ st, Hp B0 (E ++ L) st → ASpec Tryd.prog 13 [] st (gabionlaw17_wakes_P B0 L r) := by
  unfold gabionlaw17_wakes at h
  refine bodyA (A := []) (L := E ++ L) Tryd.func13 rfl (c := bodyOf Tryd.f13) rfl Tryd.ntmps13 (lb rfl) fun n0 => ?_
  have hB := KLw.refl B0
  refine WX.seq ?_
  refine WX.reg ?_
  refine WO.q (.as (v := .bool _) rfl) rfl rfl ?_
  refine WO.nil ?_
  refine WX.seq ?_
  refine WX.reg ?_
  obtain ⟨y1, hy1, h⟩ := Option.bind_eq_some_iff.1 h
  refine WO.ch rfl rfl (dir_New_ok hH hy1) rfl rfl rfl ?_
  rintro v2 B _ E hK ⟨_, rfl, rfl, hH, h3⟩
  replace hB := hB.trans hK
  refine WO.q (.as (v := v2) rfl) rfl rfl ?_
  refine WO.nil ?_
  refine WX.seq ?_
  refine WX.seq ?_
  refine WX.reg ?_
  refine WO.q (.mv (v := .int _ _) rfl) rfl rfl ?_
  refine WO.nil ?_
  refine WX.block ?_
  refine WX.loop ?_
  obtain ⟨e11, he11, h⟩ := Option.bind_eq_some_iff.1 h
  refine WX.keep [1, 6] (WX.pk [] (by decide) ?_) rfl
  refine gabionlaw17_wakes_l0_ok he11 ?_ ?_ _ _ _ _ ⟨hB, hH, _, h3, rfl, rfl⟩
  · intro r13 he_
    subst he_
    replace h := (on_l h)
    obtain rfl := Option.some.inj h
    exact fun v st hp => hp
  · intro x14 he_
    subst he_
    replace h := (on_r h)
    rintro _ B _ E ⟨hB, hH, v15, h15, rfl, rfl⟩
    refine WX.seq ?_
    refine WX.reg ?_
    refine WO.q (.mv (v := v15) rfl) rfl rfl ?_
    obtain ⟨y16, hy16, h⟩ := Option.bind_eq_some_iff.1 h
    refine WO.cS rfl rfl (rdS (dir_Dir_Get_ok hH h15 hy16)) rfl rfl rfl ?_
    rintro _ rfl
    refine WO.q (.mv (v := .tup _) rfl) rfl rfl ?_
    refine WO.q (.r fun _ => rfl) rfl rfl ?_
    refine WO.q (.r fun _ => rfl) rfl rfl ?_
    refine WO.q (.as (v := .int _ _) rfl) rfl rfl ?_
    refine WO.q (.as (v := .bool _) rfl) rfl rfl ?_
    refine WO.nil ?_
    refine WX.seq ?_
    refine WX.reg ?_
    refine WO.q (.mv (v := .bool _) rfl) rfl rfl ?_
    refine WO.q (.mv (v := .bool _) rfl) rfl rfl ?_
    rcases bsp y16.2 with k17 | k17
    · replace h := (if_pos k17).symm.trans h
      refine WO.q (.mv (v := .int _ _) rfl) (wg rfl rfl (gt k17)) rfl ?_
      refine WO.q (.r fun _ => rfl) (wg rfl rfl (gt k17)) rfl ?_
      refine WO.q (.ptv (v := .bool _) rfl k17 rfl) rfl rfl ?_
      refine WO.q (.mv (v := .bool _) rfl) rfl rfl ?_
      rcases bsp (decide (y16.1 = 5)) with k18 | k18
      · have q_k18 := of_decide_eq_true k18
        replace h := (if_pos q_k18).symm.trans h
        refine WO.q (.mv (v := v15) rfl) (wg rfl rfl (gt k18)) rfl ?_
        obtain ⟨y19, hy19, h⟩ := Option.bind_eq_some_iff.1 h
        refine WO.cS rfl rfl (rdS (dir_Dir_Len_ok hH h15 hy19)) rfl (wg rfl rfl (gt k18)) rfl ?_
        rintro _ rfl
        refine WO.q (.r fun _ => rfl) (wg rfl rfl (gt k18)) rfl ?_
        refine WO.q (.ptv (v := .bool _) rfl k18 rfl) rfl rfl ?_
        refine WO.q (.mv (v := .bool _) rfl) rfl rfl ?_
        rcases bsp (decide (y19 = 17)) with k20 | k20
        · have q_k20 := of_decide_eq_true k20
          replace h := (if_pos q_k20).symm.trans h
          refine WO.q (.mv (v := v15) rfl) (wg rfl rfl (gt k20)) rfl ?_
          obtain ⟨y21, hy21, h⟩ := Option.bind_eq_some_iff.1 h
          refine WO.c1 rfl rfl (rd1 (dir_Dir_Buckets_ok hH h15 hy21)) rfl (wg rfl rfl (gt k20)) rfl ?_
          rintro _ B _ hK ⟨v22, b23, n24, c25, rfl, rfl, h26⟩
          obtain ⟨_, _, _, _, _, rfl⟩ := h26.isl
          replace h15 := h15.up hK
          replace hH := hH.up hK
          replace hB := hB.trans hK.w
          refine WO.q (.len rfl rfl rfl (sl32.len h26.isl)) (wg rfl rfl (gt k20)) rfl ?_
          refine WO.q (.r fun _ => rfl) (wg rfl rfl (gt k20)) rfl ?_
          refine WO.q (.ptv (v := .bool _) rfl k20 rfl) rfl rfl ?_
          refine WO.q (.mv (v := .bool _) rfl) rfl rfl ?_
          rcases bsp (decide ((y21.length : Int) = 8)) with k27 | k27
          · have q_k27 := of_decide_eq_true k27
            replace h := (if_pos q_k27).symm.trans h
            refine WO.q (.mv (v := v15) rfl) (wg rfl rfl (gt k27)) rfl ?_
            obtain ⟨y28, hy28, h⟩ := Option.bind_eq_some_iff.1 h
            refine WO.ch rfl rfl (dir_Dir_Drop_ok hH h15 hy28) rfl (wg rfl rfl (gt k27)) rfl ?_
            rintro _ B _ E hK ⟨rfl, rfl, hH⟩
            replace h15 := h15.upw hK
            replace h26 := h26.upw hK
            replace hB := hB.trans hK
            refine WO.q (.r fun _ => rfl) (wg rfl rfl (gt k27)) rfl ?_
            refine WO.q (.ptv (v := .bool _) rfl k27 rfl) rfl rfl ?_
            refine WO.q (.mv (v := .bool _) rfl) rfl rfl ?_
            rcases bsp (decide (y28.2 = 13)) with k29 | k29
            · have q_k29 := of_decide_eq_true k29
              replace h := (if_pos q_k29).symm.trans h
              refine WO.q (.mv (v := v15) rfl) (wg rfl rfl (gt k29)) rfl ?_
              obtain ⟨y30, hy30, h⟩ := Option.bind_eq_some_iff.1 h
              refine WO.ch rfl rfl (dir_Dir_Put_ok hH h15 hy30) rfl (wg rfl rfl (gt k29)) rfl ?_
              rintro _ B _ E hK ⟨rfl, rfl, hH⟩
              replace h15 := h15.upw hK
              replace h26 := h26.upw hK
              replace hB := hB.trans hK
              refine WO.q (.r fun _ => rfl) (wg rfl rfl (gt k29)) rfl ?_
              refine WO.q (.ptv (v := .bool _) rfl k29 rfl) rfl rfl ?_
              refine WO.q (.as (v := .bool _) rfl) rfl rfl ?_
              refine WO.nil ?_
              obtain rfl := Option.some.inj h
              exact WX.ret (rs_ (rs_tmp rfl rs_nil)) fun st hp => ⟨_, _, _, hB, (hp.pk [] (by decide)), rfl, rfl, hH⟩
            · have q_k29 := of_decide_eq_false k29
              replace h := (if_neg q_k29).symm.trans h
              refine WO.sd (wg rfl rfl (gtn k29)) rfl ?_
              refine WO.sd (wg rfl rfl (gtn k29)) rfl ?_
              refine WO.sd (wg rfl rfl (gtn k29)) rfl ?_
              refine WO.q (.pfv (v := .bool _) rfl k29 rfl) rfl rfl ?_
              refine WO.q (.as (v := .bool _) rfl) rfl rfl ?_
              refine WO.nil ?_
              obtain rfl := Option.some.inj h
              exact WX.ret (rs_ (rs_tmp rfl rs_nil)) fun st hp => ⟨_, _, _, hB, (hp.pk [] (by decide)), rfl, rfl, hH⟩
          · have q_k27 := of_decide_eq_false k27
            replace h := (if_neg q_k27).symm.trans h
            refine WO.sd (wg rfl rfl (gtn k27)) rfl ?_
            refine WO.sd (wg rfl rfl (gtn k27)) rfl ?_
            refine WO.sd (wg rfl rfl (gtn k27)) rfl ?_
            refine WO.q (.pfv (v := .bool _) rfl k27 rfl) rfl rfl ?_
            refine WO.q (.mv (v := .bool _) rfl) rfl rfl ?_
            refine WO.sd (wg rfl rfl (gtn rfl)) rfl ?_
            refine WO.sd (wg rfl rfl (gtn rfl)) rfl ?_
            refine WO.sd (wg rfl rfl (gtn rfl)) rfl ?_
            refine WO.q (.pfv (v := .bool _) rfl rfl rfl) rfl rfl ?_
            refine WO.q (.as (v := .bool _) rfl) rfl rfl ?_
            refine WO.nil ?_
            obtain rfl := Option.some.inj h
            exact WX.ret (rs_ (rs_tmp rfl rs_nil)) fun st hp => ⟨_, _, _, hB, (hp.pk [] (by decide)), rfl, rfl, hH⟩
        · have q_k20 := of_decide_eq_false k20
          replace h := (if_neg q_k20).symm.trans h
          refine WO.sd (wg rfl rfl (gtn k20)) rfl ?_
          refine WO.sd (wg rfl rfl (gtn k20)) rfl ?_
          refine WO.sd (wg rfl rfl (gtn k20)) rfl ?_
          refine WO.sd (wg rfl rfl (gtn k20)) rfl ?_
          refine WO.q (.pfv (v := .bool _) rfl k20 rfl) rfl rfl ?_
          refine WO.q (.mv (v := .bool _) rfl) rfl rfl ?_
          refine WO.sd (wg rfl rfl (gtn rfl)) rfl ?_
          refine WO.sd (wg rfl rfl (gtn rfl)) rfl ?_
          refine WO.sd (wg rfl rfl (gtn rfl)) rfl ?_
          refine WO.q (.pfv (v := .bool _) rfl rfl rfl) rfl rfl ?_
          refine WO.q (.mv (v := .bool _) rfl) rfl rfl ?_
          refine WO.sd (wg rfl rfl (gtn rfl)) rfl ?_
          refine WO.sd (wg rfl rfl (gtn rfl)) rfl ?_
          refine WO.sd (wg rfl rfl (gtn rfl)) rfl ?_
          refine WO.q (.pfv (v := .bool _) rfl rfl rfl) rfl rfl ?_
          refine WO.q (.as (v := .bool _) rfl) rfl rfl ?_
          refine WO.nil ?_
          obtain rfl := Option.some.inj h
          exact WX.ret (rs_ (rs_tmp rfl rs_nil)) fun st hp => ⟨_, _, _, hB, (hp.pk [] (by decide)), rfl, rfl, hH⟩
      · have q_k18 := of_decide_eq_false k18
        replace h := (if_neg q_k18).symm.trans h
        refine WO.sd (wg rfl rfl (gtn k18)) rfl ?_
        refine WO.sd (wg rfl rfl (gtn k18)) rfl ?_
        refine WO.sd (wg rfl rfl (gtn k18)) rfl ?_
        refine WO.q (.pfv (v := .bool _) rfl k18 rfl) rfl rfl ?_
        refine WO.q (.mv (v := .bool _) rfl) rfl rfl ?_
        refine WO.sd (wg rfl rfl (gtn rfl)) rfl ?_
        refine WO.sd (wg rfl rfl (gtn rfl)) rfl ?_
        refine WO.sd (wg rfl rfl (gtn rfl)) rfl ?_
        refine WO.sd (wg rfl rfl (gtn rfl)) rfl ?_
        refine WO.q (.pfv (v := .bool _) rfl rfl rfl) rfl rfl ?_
        refine WO.q (.mv (v := .bool _) rfl) rfl rfl ?_
        refine WO.sd (wg rfl rfl (gtn rfl)) rfl ?_
        refine WO.sd (wg rfl rfl (gtn rfl)) rfl ?_
        refine WO.sd (wg rfl rfl (gtn rfl)) rfl ?_
        refine WO.q (.pfv (v := .bool _) rfl rfl rfl) rfl rfl ?_
        refine WO.q (.mv (v := .bool _) rfl) rfl rfl ?_
        refine WO.sd (wg rfl rfl (gtn rfl)) rfl ?_
        refine WO.sd (wg rfl rfl (gtn rfl)) rfl ?_
        refine WO.sd (wg rfl rfl (gtn rfl)) rfl ?_
        refine WO.q (.pfv (v := .bool _) rfl rfl rfl) rfl rfl ?_
        refine WO.q (.as (v := .bool _) rfl) rfl rfl ?_
        refine WO.nil ?_
        obtain rfl := Option.some.inj h
        exact WX.ret (rs_ (rs_tmp rfl rs_nil)) fun st hp => ⟨_, _, _, hB, (hp.pk [] (by decide)), rfl, rfl, hH⟩
    · replace h := (if_neg (bnt k17)).symm.trans h
      refine WO.sd (wg rfl rfl (gtn k17)) rfl ?_
      refine WO.sd (wg rfl rfl (gtn k17)) rfl ?_
      refine WO.q (.pfv (v := .bool _) rfl k17 rfl) rfl rfl ?_
      refine WO.q (.mv (v := .bool _) rfl) rfl rfl ?_
      refine WO.sd (wg rfl rfl (gtn rfl)) rfl ?_
      refine WO.sd (wg rfl rfl (gtn rfl)) rfl ?_
      refine WO.sd (wg rfl rfl (gtn rfl)) rfl ?_
      refine WO.q (.pfv (v := .bool _) rfl rfl rfl) rfl rfl ?_
      refine WO.q (.mv (v := .bool _) rfl) rfl rfl ?_
      refine WO.sd (wg rfl rfl (gtn rfl)) rfl ?_
      refine WO.sd (wg rfl rfl (gtn rfl)) rfl ?_
      refine WO.sd (wg rfl rfl (gtn rfl)) rfl ?_
      refine WO.sd (wg rfl rfl (gtn rfl)) rfl ?_
      refine WO.q (.pfv (v := .bool _) rfl rfl rfl) rfl rfl ?_
      refine WO.q (.mv (v := .bool _) rfl) rfl rfl ?_
      refine WO.sd (wg rfl rfl (gtn rfl)) rfl ?_
      refine WO.sd (wg rfl rfl (gtn rfl)) rfl ?_
      refine WO.sd (wg rfl rfl (gtn rfl)) rfl ?_
      refine WO.q (.pfv (v := .bool _) rfl rfl rfl) rfl rfl ?_
      refine WO.q (.mv (v := .bool _) rfl) rfl rfl ?_
      refine WO.sd (wg rfl rfl (gtn rfl)) rfl ?_
      refine WO.sd (wg rfl rfl (gtn rfl)) rfl ?_
      refine WO.sd (wg rfl rfl (gtn rfl)) rfl ?_
      refine WO.q (.pfv (v := .bool _) rfl rfl rfl) rfl rfl ?_
      refine WO.q (.as (v := .bool _) rfl) rfl rfl ?_
      refine WO.nil ?_
      obtain rfl := Option.some.inj h
      exact WX.ret (rs_ (rs_tmp rfl rs_nil)) fun st hp => ⟨_, _, _, hB, (hp.pk [] (by decide)), rfl, rfl, hH⟩
def gabionlaw17_same_P (B : Kn) (L : Own) (r : Bool) : AV → St → Prop := CS B L fun v => v = .bool r
def gabionlaw17_same_j8_I (B0 : Kn) (x6 : List Int) (x7 : List Int) (x38 : List ((List UInt8) × Int)) (x40 : Int) (x64 : Bool) (zb3 : (List ((List UInt8) × Int)) × Int) : Fr → Kn → Own → Prop := fun fr B A => KLe B0 B ∧ ∃ b38 v39 v40 b40 n40 c40 v41 b41 n41 c41 v42 b42 n42 c42, RSl EPStIi64Q B v39 zb3.1 ∧ OSl (Ty.int .i64) B v40 b40 n40 c40 x6 ∧ OSl (Ty.int .i64) B v41 b41 n41 c41 x7 ∧ OSl EPStIi64Q B v42 b42 n42 c42 x38 ∧ fr = [(3, .ptr b38 0), (6, v40), (7, v41), (38, v42), (39, .int .i64 (x38.length : Int)), (40, .int .i64 x40), (64, .bool x64)] ∧ A = [(b38, some (.c [v39, .int .i64 zb3.2])), oe b40 n40 c40, oe b41 n41 c41, oe b42 n42 c42]
def gabionlaw17_same_l0_I (B0 : Kn) (x6 : List Int) (x7 : List Int) (x38 : List ((List UInt8) × Int)) (zb3 : (List ((List UInt8) × Int)) × Int) (x40 : Int) : Fr → Kn → Own → Prop := fun fr B A => KLe B0 B ∧ ∃ b27 v28 v29 b29 n29 c29 v30 b30 n30 c30 v31 b31 n31 c31, RSl EPStIi64Q B v28 zb3.1 ∧ OSl (Ty.int .i64) B v29 b29 n29 c29 x6 ∧ OSl (Ty.int .i64) B v30 b30 n30 c30 x7 ∧ OSl EPStIi64Q B v31 b31 n31 c31 x38 ∧ fr = [(3, .ptr b27 0), (6, v29), (7, v30), (38, v31), (39, .int .i64 (x38.length : Int)), (40, .int .i64 x40)] ∧ A = [(b27, some (.c [v28, .int .i64 zb3.2])), oe b29 n29 c29, oe b30 n30 c30, oe b31 n31 c31]
def gabionlaw17_same_l0_X0 (B0 : Kn) (x6 : List Int) (x7 : List Int) : Fr → Kn → Own → Prop := fun fr B A => KLe B0 B ∧ ∃ v64 b64 n64 c64 v65 b65 n65 c65, OSl (Ty.int .i64) B v64 b64 n64 c64 x6 ∧ OSl (Ty.int .i64) B v65 b65 n65 c65 x7 ∧ fr = [(6, v64), (7, v65)] ∧ A = [oe b64 n64 c64, oe b65 n65 c65]
def gabionlaw17_same_l1_I (B0 : Kn) (x6 : List Int) (x7 : List Int) (x68 : Int) : Fr → Kn → Own → Prop := fun fr B A => KLe B0 B ∧ ∃ v52 b52 n52 c52 v53 b53 n53 c53, OSl (Ty.int .i64) B v52 b52 n52 c52 x6 ∧ OSl (Ty.int .i64) B v53 b53 n53 c53 x7 ∧ fr = [(6, v52), (7, v53), (67, .int .i64 (x6.length : Int)), (68, .int .i64 x68)] ∧ A = [oe b52 n52 c52, oe b53 n53 c53]
def gabionlaw17_same_l1_X0 (B0 : Kn) : Fr → Kn → Own → Prop := fun fr B A => KLe B0 B ∧ fr = [] ∧ A = []
def gabionlaw17_same_j2_I (B0 : Kn) (x5 : List ((List UInt8) × Int)) (x6 : List Int) (x7 : List Int) (x37 : Bool) (zb3 : (List ((List UInt8) × Int)) × Int) : Fr → Kn → Own → Prop := fun fr B A => KLe B0 B ∧ ∃ b21 v22 v23 b23 n23 c23 v24 b24 n24 c24 v25 b25 n25 c25, RSl EPStIi64Q B v22 zb3.1 ∧ OSl EPStIi64Q B v23 b23 n23 c23 x5 ∧ OSl (Ty.int .i64) B v24 b24 n24 c24 x6 ∧ OSl (Ty.int .i64) B v25 b25 n25 c25 x7 ∧ fr = [(3, .ptr b21 0), (5, v23), (6, v24), (7, v25), (37, .bool x37)] ∧ A = [(b21, some (.c [v22, .int .i64 zb3.2])), oe b23 n23 c23, oe b24 n24 c24, oe b25 n25 c25]
theorem gabionlaw17_same_j8_ok {B0 : Kn} {L : Own} {n0 : Nat} {H : Heap} {Eh : Own} {x6 : List Int} {x7 : List Int} {x38 : List ((List UInt8) × Int)} {x40 : Int} {x64 : Bool} {zb3 : (List ((List UInt8) × Int)) × Int} {Q : AV → St → Prop} {E : Int ⊕ (Bool ⊕ Unit) → Prop} {o : Int ⊕ (Bool ⊕ Unit)} (h : gabionlaw17_same_j8 H x6 x7 x38 x40 x64 zb3 = some o) (hH0 : HR B0 H Eh) (hn : ∀ s, E (.inl s) → WXI Tryd.prog 81 n0 (Fin Tryd.prog Tryd.f20.results.toList n0 Q) [.lp (ct [1, 1, 1, 0, 1, 0, 0] (bodyOf Tryd.f20)), .blk 0, .code (ct [1, 1, 1, 1] (bodyOf Tryd.f20))] (gabionlaw17_same_l0_I B0 x6 x7 x38 zb3 s) (Eh ++ L)) (hx0 : ∀ s, E (.inr (.inr s)) → WXI Tryd.prog 81 n0 (Fin Tryd.prog Tryd.f20.results.toList n0 Q) [.code (ct [1, 1, 1, 1] (bodyOf Tryd.f20))] (gabionlaw17_same_l0_X0 B0 x6 x7) (Eh ++ L)) (hr : ∀ r, E (.inr (.inl r)) → ∀ v st, gabionlaw17_same_P B0 (Eh ++ L) r v st → Q v st) (hE : E o) : WXI Tryd.prog 81 n0 (Fin Tryd.prog Tryd.f20.results.toList n0 Q) [.code (ct [1, 1, 1, 0, 1, 0, 0, 1, 1, 0, 0, 1, 1] (bodyOf Tryd.f20)), .blk 1, .code (ct [1, 1, 1, 0, 1, 0, 0, 1, 1, 1] (bodyOf Tryd.f20)), .lp (ct [1, 1, 1, 0, 1, 0, 0] (bodyOf Tryd.f20)), .blk 0, .code (ct [1, 1, 1, 1] (bodyOf Tryd.f20))] (gabionlaw17_same_j8_I B0 x6 x7 x38 x40 x64 zb3) (Eh ++ L) := by
  unfold gabionlaw17_same_j8 at h
  rintro _ B _ ⟨hB, b38, v39, v40, b40, n40, c40, v41, b41, n41, c41, v42, b42, n42, c42, h39, h40, h41, h42, rfl, rfl⟩
  have hH := hH0.up hB
  obtain ⟨_, _, _, _, _, rfl⟩ := h39.isl
  obtain ⟨_, _, _, _, _, rfl⟩ := h40.isl
  obtain ⟨_, _, _, _, _, rfl⟩ := h41.isl
  obtain ⟨_, _, _, _, _, rfl⟩ := h42.isl
  rcases bsp x64 with k43 | k43
  · replace h := (if_pos k43).symm.trans h
    refine WX.condT rfl k43 ?_
    refine WX.seq ?_
    refine WX.reg ?_
    refine WO.q (.as (v := .bool _) rfl) rfl rfl ?_
    refine WO.nil ?_
    obtain rfl := Option.some.inj h
    exact WX.ret (rs_ (rs_tmp rfl rs_nil)) fun st hp => hr _ hE _ _ ⟨(hp.pk [] (by decide)).le hB, rfl⟩
  · replace h := (if_neg (bnt k43)).symm.trans h
    refine WX.condF rfl k43 ?_
    refine WX.skip ?_
    refine WX.pop ?_
    refine WX.reg ?_
    refine WO.q (.r fun _ => rfl) rfl rfl ?_
    refine WO.q (.mv (v := .int _ _) rfl) rfl rfl ?_
    refine WO.nil ?_
    refine WX.keepL [3, 6, 7, 38, 39, 40] (WX.pk [0, 1, 2, 3] (by decide) ?_) rfl
    obtain rfl := Option.some.inj h
    exact hn _ hE _ _ _ ⟨hB, _, _, _, _, n40, _, _, _, n41, _, _, _, n42, _, h39, h40, h41, h42, rfl, rfl⟩
theorem gabionlaw17_same_l0_s {B0 : Kn} {L : Own} {n0 : Nat} {H : Heap} {Eh : Own} {x6 : List Int} {x7 : List Int} {x38 : List ((List UInt8) × Int)} {zb3 : (List ((List UInt8) × Int)) × Int} {x40 : Int} {Q : AV → St → Prop} {E : Int ⊕ (Bool ⊕ Unit) → Prop} {o : Int ⊕ (Bool ⊕ Unit)} (h : gabionlaw17_same_l0 H x6 x7 x38 zb3 x40 = some o) (hH0 : HR B0 H Eh) (hn : ∀ s, E (.inl s) → WXI Tryd.prog 81 n0 (Fin Tryd.prog Tryd.f20.results.toList n0 Q) [.lp (ct [1, 1, 1, 0, 1, 0, 0] (bodyOf Tryd.f20)), .blk 0, .code (ct [1, 1, 1, 1] (bodyOf Tryd.f20))] (gabionlaw17_same_l0_I B0 x6 x7 x38 zb3 s) (Eh ++ L)) (hx0 : ∀ s, E (.inr (.inr s)) → WXI Tryd.prog 81 n0 (Fin Tryd.prog Tryd.f20.results.toList n0 Q) [.code (ct [1, 1, 1, 1] (bodyOf Tryd.f20))] (gabionlaw17_same_l0_X0 B0 x6 x7) (Eh ++ L)) (hr : ∀ r, E (.inr (.inl r)) → ∀ v st, gabionlaw17_same_P B0 (Eh ++ L) r v st → Q v st) (hE : E o) : WXI Tryd.prog 81 n0 (Fin Tryd.prog Tryd.f20.results.toList n0 Q) [.code (ct [1, 1, 1, 0, 1, 0, 0] (bodyOf Tryd.f20)), .lp (ct [1, 1, 1, 0, 1, 0, 0] (bodyOf Tryd.f20)), .blk 0, .code (ct [1, 1, 1, 1] (bodyOf Tryd.f20))] (gabionlaw17_same_l0_I B0 x6 x7 x38 zb3 x40) (Eh ++ L) := by
  unfold gabionlaw17_same_l0 at h
  rintro _ B _ ⟨hB, b27, v28, v29, b29, n29, c29, v30, b30, n30, c30, v31, b31, n31, c31, h28, h29, h30, h31, rfl, rfl⟩
  have hH := hH0.up hB
  obtain ⟨_, _, _, _, _, rfl⟩ := h28.isl
  obtain ⟨_, _, _, _, _, rfl⟩ := h29.isl
  obtain ⟨_, _, _, _, _, rfl⟩ := h30.isl
  obtain ⟨_, _, _, _, _, rfl⟩ := h31.isl
  refine WX.seq ?_
  refine WX.reg ?_
  refine WO.q (.r fun _ => rfl) rfl rfl ?_
  refine WO.nil ?_
  refine WX.seq ?_
  rcases bsp (decide (x40 < (x38.length : Int))) with k32 | k32
  · have q_k32 := of_decide_eq_true k32
    replace h := (if_pos q_k32).symm.trans h
    refine WX.condT rfl k32 ?_
    refine WX.skip ?_
    refine WX.seq ?_
    refine WX.block ?_
    refine WX.seq ?_
    refine WX.reg ?_
    refine WO.q (.mv (v := .int _ _) rfl) rfl rfl ?_
    obtain ⟨y33, hy33, h⟩ := Option.bind_eq_some_iff.1 h
    obtain rfl := h31.nonnil hy33
    obtain ⟨_, i_y33, l_y33, r_y33⟩ := h31.at sl38 hy33 .i64
    obtain ⟨_, _, rfl, rfl, rfl⟩ := r_y33
    refine WO.q (.ia i_y33) rfl rfl ?_
    refine WO.q (.leA (i := 3) rfl rfl l_y33 ti42 rfl rfl) rfl rfl ?_
    refine WO.md (MOp.alloc ti42 rfl) rfl rfl ?_
    rintro _ _ ⟨b34, rfl, rfl⟩
    refine WO.q (.as (v := .int _ _) rfl) rfl rfl ?_
    refine WO.mn (MOp.storeW rfl (cA rfl) .h ti42 rfl rfl rfl) rfl ?_
    rintro _ _ rfl
    refine WO.nil ?_
    refine WX.seq ?_
    refine WX.drw (Plan.of [0, 1, 2, 3, 4, 5, 6, 7, 8, 9, 10, 11, 12, 13, 14, 15, 16, 17, 18, 19] .nil) _ mixed (by kernel_rfl) rfl (subE (pk_sub [0, 1, 2, 3, 4])) ?_
    refine WP.q (i := 0) rfl (.fa (fa42_0 _ _)) rfl rfl rfl ?_
    refine WP.q (i := 1) rfl (.ldS (i := 0) rfl rfl rfl ti9 rfl) rfl rfl rfl ?_
    refine WP.q (i := 2) rfl (.fa (fa47_0 _ _)) rfl rfl rfl ?_
    refine WP.q (i := 3) rfl (.ldS (i := 1) rfl rfl rfl ti45 rfl) rfl rfl rfl ?_
    refine WP.q (i := 4) rfl (.mv (v := .int _ _) rfl) rfl rfl rfl ?_
    obtain ⟨y35, hy35, h⟩ := Option.bind_eq_some_iff.1 h
    obtain ⟨b_y35, o_y35, _, i_y35, p_y35, r_y35⟩ := h28.at sl45 hy35 .i64
    obtain ⟨_, _, rfl, rfl, rfl⟩ := r_y35
    refine WP.q (i := 5) rfl (.ia i_y35) rfl rfl rfl ?_
    refine WP.q (i := 6) rfl (.fa (fa54_0 _ _)) rfl rfl rfl ?_
    refine WP.q (i := 7) rfl (.lpS rfl p_y35 rfl ti9 rfl) rfl rfl rfl ?_
    refine WP.q (i := 8) rfl (.r fun _ => rfl) rfl rfl rfl ?_
    refine WP.q (i := 9) rfl (.mv (v := .bool _) rfl) rfl rfl rfl ?_
    rcases bsp (decide (y33.1 = y35.1)) with k36 | k36
    · have q_k36 := of_decide_eq_true k36
      replace h := (if_pos q_k36).symm.trans h
      refine WP.q (i := 10) rfl (.fa (fa42_1 _ _)) rfl (wg rfl rfl (gf (f_not k36))) rfl ?_
      refine WP.q (i := 11) rfl (.ldS (i := 0) rfl rfl rfl ti3 rfl) rfl (wg rfl rfl (gf (f_not k36))) rfl ?_
      refine WP.q (i := 12) rfl (.fa (fa47_0 _ _)) rfl (wg rfl rfl (gf (f_not k36))) rfl ?_
      refine WP.q (i := 13) rfl (.ldS (i := 1) rfl rfl rfl ti45 rfl) rfl (wg rfl rfl (gf (f_not k36))) rfl ?_
      refine WP.q (i := 14) rfl (.mv (v := .int _ _) rfl) rfl (wg rfl rfl (gf (f_not k36))) rfl ?_
      obtain ⟨y37, hy37, h⟩ := Option.bind_eq_some_iff.1 h
      obtain ⟨b_y37, o_y37, _, i_y37, p_y37, r_y37⟩ := h28.at sl45 hy37 .i64
      obtain ⟨_, _, rfl, rfl, rfl⟩ := r_y37
      refine WP.q (i := 15) rfl (.ia i_y37) rfl (wg rfl rfl (gf (f_not k36))) rfl ?_
      refine WP.q (i := 16) rfl (.fa (fa54_1 _ _)) rfl (wg rfl rfl (gf (f_not k36))) rfl ?_
      refine WP.q (i := 17) rfl (.lpS rfl p_y37 rfl ti3 rfl) rfl (wg rfl rfl (gf (f_not k36))) rfl ?_
      refine WP.q (i := 18) rfl (.r fun _ => rfl) rfl (wg rfl rfl (gf (f_not k36))) rfl ?_
      refine WP.q (i := 19) rfl (.pfv (v := .bool _) rfl (f_not k36) rfl) rfl rfl rfl ?_
      refine WP.nil ?_
      refine WX.keep [3, 6, 7, 38, 39, 40, 64] (WX.pk [1, 2, 3, 4] (by decide) ?_) rfl
      exact gabionlaw17_same_j8_ok h hH0 hn hx0 hr hE _ _ _ ⟨hB, _, _, _, _, n29, _, _, _, n30, _, _, _, false, _, h28, h29, h30, h31, rfl, rfl⟩
    · have q_k36 := of_decide_eq_false k36
      replace h := (if_neg q_k36).symm.trans h
      refine WP.sk (i := 10) rfl rfl (wg rfl rfl (gfn (t_not k36))) rfl ?_
      refine WP.sk (i := 11) rfl rfl (wg rfl rfl (gfn (t_not k36))) rfl ?_
      refine WP.sk (i := 12) rfl rfl (wg rfl rfl (gfn (t_not k36))) rfl ?_
      refine WP.sk (i := 13) rfl rfl (wg rfl rfl (gfn (t_not k36))) rfl ?_
      refine WP.sk (i := 14) rfl rfl (wg rfl rfl (gfn (t_not k36))) rfl ?_
      refine WP.sk (i := 15) rfl rfl (wg rfl rfl (gfn (t_not k36))) rfl ?_
      refine WP.sk (i := 16) rfl rfl (wg rfl rfl (gfn (t_not k36))) rfl ?_
      refine WP.sk (i := 17) rfl rfl (wg rfl rfl (gfn (t_not k36))) rfl ?_
      refine WP.sk (i := 18) rfl rfl (wg rfl rfl (gfn (t_not k36))) rfl ?_
      refine WP.q (i := 19) rfl (.ptv (v := .bool _) rfl (t_not k36) rfl) rfl rfl rfl ?_
      refine WP.nil ?_
      refine WX.keep [3, 6, 7, 38, 39, 40, 64] (WX.pk [1, 2, 3, 4] (by decide) ?_) rfl
      exact gabionlaw17_same_j8_ok h hH0 hn hx0 hr hE _ _ _ ⟨hB, _, _, _, _, n29, _, _, _, n30, _, _, _, false, _, h28, h29, h30, h31, rfl, rfl⟩
  · have q_k32 := of_decide_eq_false k32
    replace h := (if_neg q_k32).symm.trans h
    refine WX.condF rfl k32 ?_
    refine WX.exit rfl ?_
    refine WX.keep [6, 7] (WX.pk [1, 2] (by decide) ?_) rfl
    obtain rfl := Option.some.inj h
    exact hx0 _ hE _ _ _ ⟨hB, _, _, n29, _, _, _, n30, _, h29, h30, rfl, rfl⟩
theorem gabionlaw17_same_l0_ok {B0 : Kn} {L : Own} {n0 : Nat} {H : Heap} {Eh : Own} {x6 : List Int} {x7 : List Int} {x38 : List ((List UInt8) × Int)} {zb3 : (List ((List UInt8) × Int)) × Int} {x40 : Int} {Q : AV → St → Prop} {d : Nat} {e : Bool ⊕ Unit} (h : iter (fun (s : Int) => gabionlaw17_same_l0 H x6 x7 x38 zb3 s) d x40 = some e) (hH0 : HR B0 H Eh) (g0 : ∀ r, e = (.inl r) → ∀ v st, gabionlaw17_same_P B0 (Eh ++ L) r v st → Q v st) (g1 : ∀ s, e = (.inr s) → WXI Tryd.prog 81 n0 (Fin Tryd.prog Tryd.f20.results.toList n0 Q) [.code (ct [1, 1, 1, 1] (bodyOf Tryd.f20))] (gabionlaw17_same_l0_X0 B0 x6 x7) (Eh ++ L)) : WXI Tryd.prog 81 n0 (Fin Tryd.prog Tryd.f20.results.toList n0 Q) [.code (ct [1, 1, 1, 0, 1, 0, 0] (bodyOf Tryd.f20)), .lp (ct [1, 1, 1, 0, 1, 0, 0] (bodyOf Tryd.f20)), .blk 0, .code (ct [1, 1, 1, 1] (bodyOf Tryd.f20))] (gabionlaw17_same_l0_I B0 x6 x7 x38 zb3 x40) (Eh ++ L) :=
  iter_ok (I := fun s => gabionlaw17_same_l0_I B0 x6 x7 x38 zb3 s) (D := fun e => (∀ r, e = (.inl r) → ∀ v st, gabionlaw17_same_P B0 (Eh ++ L) r v st → Q v st) ∧ (∀ s, e = (.inr s) → WXI Tryd.prog 81 n0 (Fin Tryd.prog Tryd.f20.results.toList n0 Q) [.code (ct [1, 1, 1, 1] (bodyOf Tryd.f20))] (gabionlaw17_same_l0_X0 B0 x6 x7) (Eh ++ L))) (fun E hn hx s o ho hE => gabionlaw17_same_l0_s (x40 := s) ho hH0 hn (fun s hs => (hx _ hs).2 _ rfl) (fun r hs => (hx _ hs).1 _ rfl) hE) h ⟨g0, g1⟩
theorem gabionlaw17_same_l1_s {B0 : Kn} {L : Own} {n0 : Nat} {H : Heap} {Eh : Own} {x6 : List Int} {x7 : List Int} {x68 : Int} {Q : AV → St → Prop} {E : Int ⊕ (Bool ⊕ Unit) → Prop} {o : Int ⊕ (Bool ⊕ Unit)} (h : gabionlaw17_same_l1 H x6 x7 x68 = some o) (hH0 : HR B0 H Eh) (hn : ∀ s, E (.inl s) → WXI Tryd.prog 81 n0 (Fin Tryd.prog Tryd.f20.results.toList n0 Q) [.lp (ct [1, 1, 1, 1, 0, 1, 0, 0] (bodyOf Tryd.f20)), .blk 2, .code (ct [1, 1, 1, 1, 1] (bodyOf Tryd.f20))] (gabionlaw17_same_l1_I B0 x6 x7 s) (Eh ++ L)) (hx0 : ∀ s, E (.inr (.inr s)) → WXI Tryd.prog 81 n0 (Fin Tryd.prog Tryd.f20.results.toList n0 Q) [.code (ct [1, 1, 1, 1, 1] (bodyOf Tryd.f20))] (gabionlaw17_same_l1_X0 B0) (Eh ++ L)) (hr : ∀ r, E (.inr (.inl r)) → ∀ v st, gabionlaw17_same_P B0 (Eh ++ L) r v st → Q v st) (hE : E o) : WXI Tryd.prog 81 n0 (Fin Tryd.prog Tryd.f20.results.toList n0 Q) [.code (ct [1, 1, 1, 1, 0, 1, 0, 0] (bodyOf Tryd.f20)), .lp (ct [1, 1, 1, 1, 0, 1, 0, 0] (bodyOf Tryd.f20)), .blk 2, .code (ct [1, 1, 1, 1, 1] (bodyOf Tryd.f20))] (gabionlaw17_same_l1_I B0 x6 x7 x68) (Eh ++ L) := by
  unfold gabionlaw17_same_l1 at h
  rintro _ B _ ⟨hB, v52, b52, n52, c52, v53, b53, n53, c53, h52, h53, rfl, rfl⟩
  have hH := hH0.up hB
  obtain ⟨_, _, _, _, _, rfl⟩ := h52.isl
  obtain ⟨_, _, _, _, _, rfl⟩ := h53.isl
  refine WX.seq ?_
  refine WX.reg ?_
  refine WO.q (.r fun _ => rfl) rfl rfl ?_
  refine WO.nil ?_
  refine WX.seq ?_
  rcases bsp (decide (x68 < (x6.length : Int))) with k54 | k54
  · have q_k54 := of_decide_eq_true k54
    replace h := (if_pos q_k54).symm.trans h
    refine WX.condT rfl k54 ?_
    refine WX.skip ?_
    refine WX.seq ?_
    refine WX.block ?_
    refine WX.seq ?_
    refine WX.reg ?_
    refine WO.q (.mv (v := .int _ _) rfl) rfl rfl ?_
    refine WO.q (.as (v := .int _ _) rfl) rfl rfl ?_
    refine WO.nil ?_
    refine WX.seq ?_
    refine WX.drw (Plan.of [0, 1, 2, 3, 4, 5, 6, 7, 8] .nil) _ mixed (by kernel_rfl) rfl (subE (pk_sub [0, 1])) ?_
    refine WP.q (i := 0) rfl (.mv (v := .sl _ _ _ _ _ _) rfl) rfl rfl rfl ?_
    refine WP.q (i := 1) rfl (.mv (v := .int _ _) rfl) rfl rfl rfl ?_
    obtain ⟨y55, hy55, h⟩ := Option.bind_eq_some_iff.1 h
    obtain rfl := h52.nonnil hy55
    obtain ⟨_, i_y55, l_y55, r_y55⟩ := h52.at sl32 hy55 .i64
    obtain rfl := r_y55
    refine WP.q (i := 2) rfl (.ia i_y55) rfl rfl rfl ?_
    refine WP.q (i := 3) rfl (.ldS (i := 0) rfl rfl (l_y55.g0 rfl) ti3 rfl) rfl rfl rfl ?_
    refine WP.q (i := 4) rfl (.mv (v := .sl _ _ _ _ _ _) rfl) rfl rfl rfl ?_
    refine WP.q (i := 5) rfl (.mv (v := .int _ _) rfl) rfl rfl rfl ?_
    obtain ⟨y56, hy56, h⟩ := Option.bind_eq_some_iff.1 h
    obtain rfl := h53.nonnil hy56
    obtain ⟨_, i_y56, l_y56, r_y56⟩ := h53.at sl32 hy56 .i64
    obtain rfl := r_y56
    refine WP.q (i := 6) rfl (.ia i_y56) rfl rfl rfl ?_
    refine WP.q (i := 7) rfl (.ldS (i := 1) rfl rfl (l_y56.g0 rfl) ti3 rfl) rfl rfl rfl ?_
    refine WP.q (i := 8) rfl (.r fun _ => rfl) rfl rfl rfl ?_
    refine WP.nil ?_
    rcases bsp (decide (y55 ≠ y56)) with k57 | k57
    · have q_k57 := of_decide_eq_true k57
      replace h := (if_pos q_k57).symm.trans h
      refine WX.condT rfl k57 ?_
      refine WX.seq ?_
      refine WX.reg ?_
      refine WO.q (.as (v := .bool _) rfl) rfl rfl ?_
      refine WO.nil ?_
      obtain rfl := Option.some.inj h
      exact WX.ret (rs_ (rs_tmp rfl rs_nil)) fun st hp => hr _ hE _ _ ⟨(hp.pk [] (by decide)).le hB, rfl⟩
    · have q_k57 := of_decide_eq_false k57
      replace h := (if_neg q_k57).symm.trans h
      refine WX.condF rfl k57 ?_
      refine WX.skip ?_
      refine WX.pop ?_
      refine WX.reg ?_
      refine WO.q (.r fun _ => rfl) rfl rfl ?_
      refine WO.q (.mv (v := .int _ _) rfl) rfl rfl ?_
      refine WO.nil ?_
      refine WX.keepL [6, 7, 67, 68] (WX.pk [0, 1] (by decide) ?_) rfl
      obtain rfl := Option.some.inj h
      exact hn _ hE _ _ _ ⟨hB, _, _, false, _, _, _, false, _, h52, h53, rfl, rfl⟩
  · have q_k54 := of_decide_eq_false k54
    replace h := (if_neg q_k54).symm.trans h
    refine WX.condF rfl k54 ?_
    refine WX.exit rfl ?_
    refine WX.keep [] (WX.pk [] (by decide) ?_) rfl
    obtain rfl := Option.some.inj h
    exact hx0 _ hE _ _ _ ⟨hB, rfl, rfl⟩
theorem gabionlaw17_same_l1_ok {B0 : Kn} {L : Own} {n0 : Nat} {H : Heap} {Eh : Own} {x6 : List Int} {x7 : List Int} {x68 : Int} {Q : AV → St → Prop} {d : Nat} {e : Bool ⊕ Unit} (h : iter (fun (s : Int) => gabionlaw17_same_l1 H x6 x7 s) d x68 = some e) (hH0 : HR B0 H Eh) (g0 : ∀ r, e = (.inl r) → ∀ v st, gabionlaw17_same_P B0 (Eh ++ L) r v st → Q v st) (g1 : ∀ s, e = (.inr s) → WXI Tryd.prog 81 n0 (Fin Tryd.prog Tryd.f20.results.toList n0 Q) [.code (ct [1, 1, 1, 1, 1] (bodyOf Tryd.f20))] (gabionlaw17_same_l1_X0 B0) (Eh ++ L)) : WXI Tryd.prog 81 n0 (Fin Tryd.prog Tryd.f20.results.toList n0 Q) [.code (ct [1, 1, 1, 1, 0, 1, 0, 0] (bodyOf Tryd.f20)), .lp (ct [1, 1, 1, 1, 0, 1, 0, 0] (bodyOf Tryd.f20)), .blk 2, .code (ct [1, 1, 1, 1, 1] (bodyOf Tryd.f20))] (gabionlaw17_same_l1_I B0 x6 x7 x68) (Eh ++ L) :=
  iter_ok (I := fun s => gabionlaw17_same_l1_I B0 x6 x7 s) (D := fun e => (∀ r, e = (.inl r) → ∀ v st, gabionlaw17_same_P B0 (Eh ++ L) r v st → Q v st) ∧ (∀ s, e = (.inr s) → WXI Tryd.prog 81 n0 (Fin Tryd.prog Tryd.f20.results.toList n0 Q) [.code (ct [1, 1, 1, 1, 1] (bodyOf Tryd.f20))] (gabionlaw17_same_l1_X0 B0) (Eh ++ L))) (fun E hn hx s o ho hE => gabionlaw17_same_l1_s (x68 := s) ho hH0 hn (fun s hs => (hx _ hs).2 _ rfl) (fun r hs => (hx _ hs).1 _ rfl) hE) h ⟨g0, g1⟩
theorem gabionlaw17_same_j2_ok {B0 : Kn} {L : Own} {n0 : Nat} {H : Heap} {Eh : Own} {x5 : List ((List UInt8) × Int)} {x6 : List Int} {x7 : List Int} {x37 : Bool} {zb3 : (List ((List UInt8) × Int)) × Int} {r : Bool} (h : gabionlaw17_same_j2 H x5 x6 x7 x37 zb3 = some r) (hH0 : HR B0 H Eh) : WXI Tryd.prog 81 n0 (Fin Tryd.prog Tryd.f20.results.toList n0 (gabionlaw17_same_P B0 (Eh ++ L) r)) [.code (ct [1, 1, 0, 1] (bodyOf Tryd.f20)), .code (ct [1, 1, 1] (bodyOf Tryd.f20))] (gabionlaw17_same_j2_I B0 x5 x6 x7 x37 zb3) (Eh ++ L) := by
  unfold gabionlaw17_same_j2 at h
  rintro _ B _ ⟨hB, b21, v22, v23, b23, n23, c23, v24, b24, n24, c24, v25, b25, n25, c25, h22, h23, h24, h25, rfl, rfl⟩
  have hH := hH0.up hB
  obtain ⟨_, _, _, _, _, rfl⟩ := h22.isl
  obtain ⟨_, _, _, _, _, rfl⟩ := h23.isl
  obtain ⟨_, _, _, _, _, rfl⟩ := h24.isl
  obtain ⟨_, _, _, _, _, rfl⟩ := h25.isl
  rcases bsp x37 with k26 | k26
  · replace h := (if_pos k26).symm.trans h
    refine WX.condT rfl k26 ?_
    refine WX.seq ?_
    refine WX.reg ?_
    refine WO.q (.as (v := .bool _) rfl) rfl rfl ?_
    refine WO.nil ?_
    obtain rfl := Option.some.inj h
    exact WX.ret (rs_ (rs_tmp rfl rs_nil)) fun st hp => ⟨(hp.pk [] (by decide)).le hB, rfl⟩
  · replace h := (if_neg (bnt k26)).symm.trans h
    refine WX.condF rfl k26 ?_
    refine WX.skip ?_
    refine WX.seq ?_
    refine WX.seq ?_
    refine WX.reg ?_
    refine WO.q (.mv (v := .sl _ _ _ _ _ _) rfl) rfl rfl ?_
    refine WO.q (.len rfl rfl rfl (sl38.len h23.isl)) rfl rfl ?_
    refine WO.q (.mv (v := .int _ _) rfl) rfl rfl ?_
    refine WO.nil ?_
    refine WX.block ?_
    refine WX.loop ?_
    obtain ⟨e46, he46, h⟩ := Option.bind_eq_some_iff.1 h
    refine WX.keep [3, 6, 7, 38, 39, 40] (WX.pk [0, 2, 3, 1] (by decide) ?_) rfl
    refine gabionlaw17_same_l0_ok he46 hH0 ?_ ?_ _ _ _ ⟨hB, _, _, _, _, n24, _, _, _, n25, _, _, _, n23, _, h22, h24, h25, h23, rfl, rfl⟩
    · intro r48 he_
      subst he_
      replace h := (on_l h)
      obtain rfl := Option.some.inj h
      exact fun v st hp => hp
    · intro x49 he_
      subst he_
      replace h := (on_r h)
      rintro _ B _ ⟨hB, v50, b50, n50, c50, v51, b51, n51, c51, h50, h51, rfl, rfl⟩
      have hH := hH0.up hB
      obtain ⟨_, _, _, _, _, rfl⟩ := h50.isl
      obtain ⟨_, _, _, _, _, rfl⟩ := h51.isl
      refine WX.seq ?_
      refine WX.seq ?_
      refine WX.reg ?_
      refine WO.q (.mv (v := .sl _ _ _ _ _ _) rfl) rfl rfl ?_
      refine WO.q (.len rfl rfl rfl (sl32.len h50.isl)) rfl rfl ?_
      refine WO.q (.mv (v := .int _ _) rfl) rfl rfl ?_
      refine WO.nil ?_
      refine WX.block ?_
      refine WX.loop ?_
      obtain ⟨e58, he58, h⟩ := Option.bind_eq_some_iff.1 h
      refine WX.keep [6, 7, 67, 68] (WX.pk [0, 1] (by decide) ?_) rfl
      refine gabionlaw17_same_l1_ok he58 hH0 ?_ ?_ _ _ _ ⟨hB, _, _, n50, _, _, _, n51, _, h50, h51, rfl, rfl⟩
      · intro r60 he_
        subst he_
        replace h := (on_l h)
        obtain rfl := Option.some.inj h
        exact fun v st hp => hp
      · intro x61 he_
        subst he_
        replace h := (on_r h)
        rintro _ B _ ⟨hB, rfl, rfl⟩
        have hH := hH0.up hB
        refine WX.seq ?_
        refine WX.reg ?_
        refine WO.q (.as (v := .bool _) rfl) rfl rfl ?_
        refine WO.nil ?_
        obtain rfl := Option.some.inj h
        exact WX.ret (rs_ (rs_tmp rfl rs_nil)) fun st hp => ⟨(hp.pk [] (by decide)).le hB, rfl⟩
theorem gabionlaw17_same_ok {B0 : Kn} {L : Own} {H : Heap} {Eh : Own} (hH : HR B0 H Eh) {a0 : Nat} {a1 : (List ((List UInt8) × Int)) × Int} {v0_0 : AV} {v1_0 : AV} (g0_0 : HPt B0 66 v0_0 a0) (g1_0 : RSl EPStIi64Q B0 v1_0 a1.1) {r : Bool} (h : gabionlaw17_same H a0 a1 = some r) : ∀ st, Hp B0 (Eh ++ L) st → ASpec Tryd.prog 20 [v0_0, .agg [v1_0, .int .i64 a1.2]] st (gabionlaw17_same_P B0 (Eh ++ L) r) := by
  unfold gabionlaw17_same at h
  refine bodyA (A := []) (L := Eh ++ L) Tryd.func20 rfl (c := bodyOf Tryd.f20) rfl Tryd.ntmps20 (lb rfl) fun n0 => ?_
  have hB := KLe.refl B0
  have hH0 := hH
  obtain ⟨_, _, _, _, _, rfl⟩ := g1_0.isl
  refine WX.seq ?_
  refine WX.reg ?_
  refine WO.md (MOp.box (cA rfl)) rfl rfl ?_
  rintro _ _ ⟨b1, rfl, rfl⟩
  refine WO.q (.as (v := .bool _) rfl) rfl rfl ?_
  refine WO.nil ?_
  refine WX.seq ?_
  refine WX.drw (Plan.of [0, 2, 4, 1, 3, 5, 6, 7, 8] .nil) _ mixed (by kernel_rfl) rfl (subE (pk_sub [0])) ?_
  refine WP.q (i := 0) rfl (.mv (v := v0_0) rfl) rfl rfl rfl ?_
  refine WP.q (i := 2) rfl (.mv (v := v0_0) rfl) rfl rfl rfl ?_
  refine WP.q (i := 4) rfl (.ldA (i := 0) rfl rfl rfl ti47 rfl) rfl rfl rfl ?_
  obtain ⟨y2, hy2, h⟩ := Option.bind_eq_some_iff.1 h
  refine WP.c1 (i := 1) rfl rfl rfl (rd1 (dir_Dir_List_ok hH g0_0 hy2)) rfl rfl rfl ?_
  rintro _ B _ hK ⟨v3, b4, n5, c6, rfl, rfl, h7⟩
  obtain ⟨_, _, _, _, _, rfl⟩ := h7.isl
  replace g0_0 := g0_0.up hK
  replace g1_0 := g1_0.up hK
  replace hH := hH.up hK
  replace hB := hB.trans hK
  obtain ⟨y8, hy8, h⟩ := Option.bind_eq_some_iff.1 h
  refine WP.c1 (i := 3) rfl rfl rfl (rd1 (dir_Dir_Buckets_ok hH g0_0 hy8)) rfl rfl rfl ?_
  rintro _ B _ hK ⟨v9, b10, n11, c12, rfl, rfl, h13⟩
  obtain ⟨_, _, _, _, _, rfl⟩ := h13.isl
  replace g0_0 := g0_0.up hK
  replace g1_0 := g1_0.up hK
  replace h7 := h7.up hK
  replace hH := hH.up hK
  replace hB := hB.trans hK
  obtain ⟨y14, hy14, h⟩ := Option.bind_eq_some_iff.1 h
  refine WP.c1 (i := 5) rfl rfl rfl (gabionref17_Counts_ok g1_0 hy14) rfl rfl rfl ?_
  rintro _ B _ hK ⟨v15, b16, n17, c18, rfl, rfl, h19⟩
  obtain ⟨_, _, _, _, _, rfl⟩ := h19.isl
  replace g0_0 := g0_0.up hK
  replace g1_0 := g1_0.up hK
  replace h7 := h7.up hK
  replace h13 := h13.up hK
  replace hH := hH.up hK
  replace hB := hB.trans hK
  refine WP.q (i := 6) rfl (.as (v := .sl _ _ _ _ _ _) rfl) rfl rfl rfl ?_
  refine WP.q (i := 7) rfl (.as (v := .sl _ _ _ _ _ _) rfl) rfl rfl rfl ?_
  refine WP.q (i := 8) rfl (.as (v := .sl _ _ _ _ _ _) rfl) rfl rfl rfl ?_
  refine WP.nil ?_
  refine WX.seq ?_
  refine WX.seq ?_
  refine WX.drw (Plan.of [0, 1, 2, 3, 4, 5, 6, 7, 9, 10, 11, 8, 12, 13, 14, 15, 16, 17, 18, 19, 20] .nil) _ mixed (by kernel_rfl) rfl (subE (pk_sub [0, 1, 2, 3])) ?_
  refine WP.q (i := 0) rfl (.mv (v := .sl _ _ _ _ _ _) rfl) rfl rfl rfl ?_
  refine WP.q (i := 1) rfl (.len rfl rfl rfl (sl38.len h7.isl)) (isQl rfl rfl ti38 rfl) rfl rfl ?_
  refine WP.q (i := 2) rfl (.fa (fa47_0 _ _)) rfl rfl rfl ?_
  refine WP.q (i := 3) rfl (.ldS (i := 3) rfl rfl rfl ti45 rfl) rfl rfl rfl ?_
  refine WP.q (i := 4) rfl (.len rfl rfl rfl (sl45.len g1_0.isl)) (isQl rfl rfl ti45 rfl) rfl rfl ?_
  refine WP.q (i := 5) rfl (.r fun _ => rfl) rfl rfl rfl ?_
  refine WP.q (i := 6) rfl (.mv (v := .bool _) rfl) rfl rfl rfl ?_
  rcases bsp (decide ((y2.length : Int) ≠ (a1.1.length : Int))) with k20 | k20
  · have q_k20 := of_decide_eq_true k20
    replace h := (if_pos q_k20).symm.trans h
    refine WP.sk (i := 7) rfl rfl (wg rfl rfl (gfn k20)) rfl ?_
    refine WP.sk (i := 9) rfl rfl (wg rfl rfl (gfn k20)) rfl ?_
    refine WP.sk (i := 10) rfl rfl (wg rfl rfl (gfn k20)) rfl ?_
    refine WP.sk (i := 11) rfl rfl (wg rfl rfl (gfn k20)) rfl ?_
    refine WP.sd (i := 8) rfl rfl (wg rfl rfl (gfn k20)) rfl ?_
    refine WP.sk (i := 12) rfl rfl (wg rfl rfl (gfn k20)) rfl ?_
    refine WP.q (i := 13) rfl (.ptv (v := .bool _) rfl k20 rfl) rfl rfl rfl ?_
    refine WP.q (i := 14) rfl (.mv (v := .bool _) rfl) rfl rfl rfl ?_
    refine WP.sk (i := 15) rfl rfl (wg rfl rfl (gfn rfl)) rfl ?_
    refine WP.sk (i := 16) rfl rfl (wg rfl rfl (gfn rfl)) rfl ?_
    refine WP.sk (i := 17) rfl rfl (wg rfl rfl (gfn rfl)) rfl ?_
    refine WP.sk (i := 18) rfl rfl (wg rfl rfl (gfn rfl)) rfl ?_
    refine WP.sk (i := 19) rfl rfl (wg rfl rfl (gfn rfl)) rfl ?_
    refine WP.q (i := 20) rfl (.ptv (v := .bool _) rfl rfl rfl) rfl rfl rfl ?_
    refine WP.nil ?_
    refine WX.keep [3, 5, 6, 7, 37] (WX.pk [3, 2, 1, 0] (by decide) ?_) rfl
    exact gabionlaw17_same_j2_ok h hH0 _ _ _ ⟨hB, _, _, _, _, n5, _, _, _, n11, _, _, _, n17, _, g1_0, h7, h13, h19, rfl, rfl⟩
  · have q_k20 := of_decide_eq_false k20
    replace h := (if_neg q_k20).symm.trans h
    refine WP.q (i := 7) rfl (.mv (v := v0_0) rfl) rfl (wg rfl rfl (gf k20)) rfl ?_
    refine WP.q (i := 9) rfl (.fa (fa47_0 _ _)) rfl (wg rfl rfl (gf k20)) rfl ?_
    refine WP.q (i := 10) rfl (.ldS (i := 3) rfl rfl rfl ti45 rfl) rfl (wg rfl rfl (gf k20)) rfl ?_
    refine WP.q (i := 11) rfl (.len rfl rfl rfl (sl45.len g1_0.isl)) (isQl rfl rfl ti45 rfl) (wg rfl rfl (gf k20)) rfl ?_
    obtain ⟨y62, hy62, h⟩ := Option.bind_eq_some_iff.1 h
    refine WP.cS (i := 8) rfl rfl rfl (rdS (dir_Dir_Len_ok hH g0_0 hy62)) rfl (wg rfl rfl (gf k20)) rfl ?_
    rintro _ rfl
    refine WP.q (i := 12) rfl (.r fun _ => rfl) rfl (wg rfl rfl (gf k20)) rfl ?_
    refine WP.q (i := 13) rfl (.pfv (v := .bool _) rfl k20 rfl) rfl rfl rfl ?_
    refine WP.q (i := 14) rfl (.mv (v := .bool _) rfl) rfl rfl rfl ?_
    rcases bsp (decide (y62 ≠ (a1.1.length : Int))) with k63 | k63
    · have q_k63 := of_decide_eq_true k63
      replace h := (if_pos q_k63).symm.trans h
      refine WP.sk (i := 15) rfl rfl (wg rfl rfl (gfn k63)) rfl ?_
      refine WP.sk (i := 16) rfl rfl (wg rfl rfl (gfn k63)) rfl ?_
      refine WP.sk (i := 17) rfl rfl (wg rfl rfl (gfn k63)) rfl ?_
      refine WP.sk (i := 18) rfl rfl (wg rfl rfl (gfn k63)) rfl ?_
      refine WP.sk (i := 19) rfl rfl (wg rfl rfl (gfn k63)) rfl ?_
      refine WP.q (i := 20) rfl (.ptv (v := .bool _) rfl k63 rfl) rfl rfl rfl ?_
      refine WP.nil ?_
      refine WX.keep [3, 5, 6, 7, 37] (WX.pk [3, 2, 1, 0] (by decide) ?_) rfl
      exact gabionlaw17_same_j2_ok h hH0 _ _ _ ⟨hB, _, _, _, _, n5, _, _, _, n11, _, _, _, n17, _, g1_0, h7, h13, h19, rfl, rfl⟩
    · have q_k63 := of_decide_eq_false k63
      replace h := (if_neg q_k63).symm.trans h
      refine WP.q (i := 15) rfl (.mv (v := .sl _ _ _ _ _ _) rfl) rfl (wg rfl rfl (gf k63)) rfl ?_
      refine WP.q (i := 16) rfl (.len rfl rfl rfl (sl32.len h13.isl)) (isQl rfl rfl ti32 rfl) (wg rfl rfl (gf k63)) rfl ?_
      refine WP.q (i := 17) rfl (.mv (v := .sl _ _ _ _ _ _) rfl) rfl (wg rfl rfl (gf k63)) rfl ?_
      refine WP.q (i := 18) rfl (.len rfl rfl rfl (sl32.len h19.isl)) (isQl rfl rfl ti32 rfl) (wg rfl rfl (gf k63)) rfl ?_
      refine WP.q (i := 19) rfl (.r fun _ => rfl) rfl (wg rfl rfl (gf k63)) rfl ?_
      refine WP.q (i := 20) rfl (.pfv (v := .bool _) rfl k63 rfl) rfl rfl rfl ?_
      refine WP.nil ?_
      refine WX.keep [3, 5, 6, 7, 37] (WX.pk [3, 2, 1, 0] (by decide) ?_) rfl
      exact gabionlaw17_same_j2_ok h hH0 _ _ _ ⟨hB, _, _, _, _, n5, _, _, _, n11, _, _, _, n17, _, g1_0, h7, h13, h19, rfl, rfl⟩
end Gab
