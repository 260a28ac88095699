/- Directories: the walk of List, by hand. -/
import Derived.Test.YtcdldgoehoopmaaDoorHa
import Derived.Test.YtcdldgoehoopmaaDoorHq
set_option linter.unusedSimpArgs false
set_option linter.unusedVariables false
set_option maxHeartbeats 4000000
set_option maxRecDepth 100000
namespace Gab
open Go Go.Proofs
def dir_Dir_List_P (B : Kn) (L : Own) (r : List (List UInt8 × Int)) : AV → St → Prop := C1 B L fun B' v e0 => ∃ w0 b0 n0 c0, v = w0 ∧ e0 = oe b0 n0 c0 ∧ OSl EPStIi64Q B' w0 b0 n0 c0 r
theorem dir_Dir_List_ok {B0 : Kn} {L : Own} {H : Heap} {E : Own} (hH : HR B0 H E) {a0 : Nat} {v0_0 : AV} {r : List (List UInt8 × Int)} (g0_0 : HPt B0 66 v0_0 a0) (h : dir_Dir_List H a0 = some r) : ∀ st, Hp B0 (E ++ L) st → ASpec Tryd.prog 15 [v0_0] st (dir_Dir_List_P B0 (E ++ L) r) := by
  unfold dir_Dir_List at h
  refine bodyA (A := []) (L := E ++ L) Tryd.func15 rfl (c := bodyOf Tryd.f15) rfl Tryd.ntmps15 (lb rfl) fun n0 => ?_
  have hB := KLe.refl B0
  refine WX.seq ?_
  refine WX.reg ?_
  refine WO.q (.as (v := .sl _ _ _ _ _ _) rfl) rfl rfl ?_
  refine WO.nil ?_
  refine WX.seq ?_
  refine WX.seq ?_
  refine WX.reg ?_
  refine WO.q (.mv (v := v0_0) rfl) rfl rfl ?_
  refine WO.q (.bin (eveqlnil g0_0 ti24 rfl)) rfl rfl ?_
  refine WO.nil ?_
  rcases bsp (decide (a0 = 0)) with k1 | k1
  · have q_k1 := of_decide_eq_true k1
    replace h := (if_pos q_k1).symm.trans h
    refine WX.condT rfl k1 ?_
    refine WX.seq ?_
    refine WX.reg ?_
    refine WO.q (.as (v := .sl _ _ _ _ _ _) rfl) rfl rfl ?_
    refine WO.nil ?_
    obtain rfl := Option.some.inj h
    exact WX.ret (rs_ (rs_tmp rfl rs_nil)) fun st hp => ⟨_, _, hB, ((hp.pk [] (by decide)).skip 0), _, 0, true, [], rfl, rfl, OSl.none _ _⟩
  · have q_k1 := of_decide_eq_false k1
    replace h := (if_neg q_k1).symm.trans h
    obtain ⟨d, hd, h⟩ := Option.bind_eq_some_iff.1 h
    obtain ⟨ms, hms, h⟩ := Option.bind_eq_some_iff.1 h
    obtain ⟨hnd, h⟩ := ifS_some h
    obtain ⟨⟨hbig, hbig2⟩, h⟩ := ifS_some h
    obtain rfl := Option.some.inj h
    obtain ⟨hmsl, hmsa⟩ := mapM_at hms
    refine WX.condF rfl k1 ?_
    refine WX.skip ?_
    refine WX.seq ?_
    refine WX.reg ?_
    refine WO.q (.as (v := .sl _ _ _ _ _ _) rfl) rfl rfl ?_
    refine WO.nil ?_
    refine WX.seq ?_
    refine WX.seq ?_
    refine WX.reg ?_
    refine WO.q (.mv (v := v0_0) rfl) rfl rfl ?_
    obtain ⟨b_y2, c_y2, e_y2, m_y2, r_y2, u_y2⟩ := hgetS (foc66 hH) g0_0 hd
    subst e_y2
    obtain ⟨_, _, rfl, ⟨w3, rfl, hw3⟩, rfl⟩ := r_y2
    obtain ⟨_, _, _, _, _, rfl⟩ := hw3.isl
    refine WO.q (.r fun _ => rfl) rfl rfl ?_
    refine WO.q (.fa (fa66_0 _ _)) rfl rfl ?_
    refine WO.ql (.ldSm rfl (inE m_y2) rfl ti63 rfl) rfl rfl ?_
    refine WO.q (.len rfl rfl rfl (sl63.len hw3.isl)) rfl rfl ?_
    refine WO.q (.mv (v := .int _ _) rfl) rfl rfl ?_
    refine WO.nil ?_
    refine WX.block ?_
    refine WX.loop ?_
    refine WX.keep [3, 13, 14, 15] (WX.pk [] (by decide) (WX.addn [0] ?_)) rfl
    refine WX.loopN (I := fun n fr B1 A E1 => B0 = B1 ∧ E = E1 ∧ ∃ (i : Nat) (acc : List (List UInt8 × Int)) (v4 : AV) (b4 : Nat) (n4 : Bool) (c4 : List AV) (v : AV), n + i = d.1.length ∧ OSl EPStIi64Q B0 v4 b4 n4 c4 acc ∧ RSl (Ty.hm 26) B0 v d.1 ∧ (acc ++ (ms.drop i).flatten).Perm ms.flatten ∧ fr = [(3, v4), (13, v), (14, .int .i64 (d.1.length : Int)), (15, .int .i64 (i : Int))] ∧ A = [oe b4 n4 c4]) ?_ d.1.length _ _ _ _ ⟨rfl, rfl, 0, [], _, 0, true, [], _, by omega, OSl.none _ _, hw3, by simp, rfl, rfl⟩
    rintro n _ _ _ _ ⟨rfl, rfl, i, acc, v4, b4, n4, c4, v, hn, ho, hs, hperm, rfl, rfl⟩ ih
    obtain ⟨_, _, _, _, _, rfl⟩ := ho.isl
    obtain ⟨_, _, _, _, _, rfl⟩ := hs.isl
    refine WX.seq ?_
    refine WX.reg ?_
    refine WO.q (.r fun _ => rfl) rfl rfl ?_
    refine WO.nil ?_
    refine WX.seq ?_
    rcases bsp (decide ((i : Int) < (d.1.length : Int))) with k6 | k6
    · have q_k6 := of_decide_eq_true k6
      refine WX.condT rfl k6 ?_
      refine WX.skip ?_
      refine WX.seq ?_
      refine WX.block ?_
      refine WX.seq ?_
      refine WX.reg ?_
      obtain ⟨m, hm⟩ : ∃ m, d.1[i]? = some m := ⟨_, List.getElem?_eq_getElem (by omega)⟩
      obtain ⟨y, hy, hym⟩ := hmsa i m hm
      obtain ⟨b_7, o_7, _, i_7, p_7, r_7⟩ := hs.at sl63 (rd_ok hm) .i64
      obtain ⟨w8, rfl, hw8⟩ := r_7
      refine WO.q (.ia i_7) rfl rfl ?_
      refine WO.q (.lp0 rfl p_7 rfl ti26 rfl) rfl rfl ?_
      refine WO.q (.as (v := w8) rfl) rfl rfl ?_
      refine WO.nil ?_
      obtain ⟨j, rfl, hj⟩ := hobj_some hym
      rcases hw8 with ⟨e, _⟩ | ⟨bm, j', hj', hbm, rfl⟩
      · omega
      obtain rfl : j = j' := by omega
      obtain ⟨u, y', hy', hmem, ⟨es, c, rfl, hr⟩, _⟩ := (foc26 hH).get hbm
      obtain rfl : y' = y := Option.some.inj (hy'.symm.trans hj)
      obtain ⟨⟨ps, hps, hlen, hrel⟩, hnk, hnb, hlb⟩ := hr
      have hrel' : ∀ (i : Nat) (e : AV × AV × Nat), es[i]? = some e → ∃ p : List UInt8 × Int, ps[i]? = some p ∧ e.1 = .str p.1 ∧ e.2.1 = .int .i64 p.2 := fun i e he => by
        obtain ⟨p, h1, h2, h3⟩ := hrel i e.1 e.2.1 e.2.2 he
        have h2 : [e.1] = [AV.str p.1] := h2
        have h3 : [e.2.1] = [AV.int .i64 p.2] := h3
        simp at h2 h3
        exact ⟨p, h1, h2, h3⟩
      refine WX.seq ?_
      refine WX.reg ?_
      refine WO.q (.mv (v := .map bm) rfl) rfl rfl ?_
      refine WO.md (MOp.range mt26 (inE hmem) rfl) rfl rfl ?_
      rintro _ _ ⟨bi, rfl, rfl⟩
      refine WO.nil ?_
      refine WX.block ?_
      refine WX.loop ?_
      refine WX.keep [3, 13, 14, 15, 20] (WX.pk [0, 1] (by decide) ?_) rfl
      have hrest : ms.drop i = y' :: ms.drop (i + 1) := by
        obtain ⟨h1, h2⟩ := List.getElem?_eq_some_iff.1 hy
        rw [List.drop_eq_getElem_cons h1, h2]
      refine WX.loopN (I := fun n fr B1 A E1 => B0 = B1 ∧ E = E1 ∧ ∃ (acc : List (List UInt8 × Int)) (seen : List Nat) (v4 : AV) (b4 : Nat) (n4 : Bool) (c4 : List AV), n = (Lft es ps seen).length ∧ OSl EPStIi64Q B0 v4 b4 n4 c4 acc ∧ (acc ++ (Lft es ps seen ++ (ms.drop (i + 1)).flatten)).Perm ms.flatten ∧ fr = [(3, v4), (13, .sl _ _ _ d.1.length _ _), (14, .int .i64 (d.1.length : Int)), (15, .int .i64 (i : Int)), (20, .ptr bi 0)] ∧ A = [(bi, some (OV.i (some bm) c seen c)), oe b4 n4 c4]) ?_ (Lft es ps []).length _ _ _ _ ⟨rfl, rfl, acc, [], _, _, _, _, rfl, ho, ?_, rfl, rfl⟩
      · clear ho hperm
        rintro k _ _ _ _ ⟨rfl, rfl, acc, seen, v4, b4, n4, c4, hk, ho, hperm, rfl, rfl⟩ ih2
        obtain ⟨_, _, _, _, _, rfl⟩ := ho.isl
        refine WX.seq ?_
        refine WX.reg ?_
        refine WO.next (inE (A := [_]) hmem) rfl hlb (Nat.le_refl _) rfl rfl (fun hall => ?_) (fun e he hse => ?_)
        · refine WO.q (.r fun _ => rfl) rfl rfl ?_
          refine WO.nil ?_
          refine WX.seq ?_
          refine WX.condF rfl rfl ?_
          refine WX.exit rfl ?_
          refine WX.reg ?_
          refine WO.q (.r fun _ => rfl) rfl rfl ?_
          refine WO.q (.mv (v := .int _ _) rfl) rfl rfl ?_
          refine WO.nil ?_
          refine WX.keepL [3, 13, 14, 15] (WX.pk [1] (by decide) ?_) rfl
          refine ih (n - 1) _ _ _ _ (by omega) ⟨rfl, rfl, i + 1, acc, _, _, _, _, _, by omega, ho, hs, ?_, ?_, rfl⟩
          · rw [Lft.none hall] at hperm; exact hperm
          · have e1 : wi64 ((i : Int) + 1) = ((i + 1 : Nat) : Int) := by rw [w64 (by omega) (by omega)]; omega
            exact congrArg (fun z : Int => ([(3, _), (13, _), (14, _), (15, AV.int .i64 z)] : Fr)) e1
        · obtain ⟨q, hq⟩ := List.mem_iff_getElem?.1 he
          obtain ⟨p, hp1, hp2, hp3⟩ := hrel' q e hq
          have hpick := Lft.pick (p := p) hnb hq hp1 hse
          obtain ⟨ek, ev, eb⟩ := e
          dsimp only at hp2 hp3 hpick hse
          subst hp2; subst hp3
          refine WO.q (.r fun _ => rfl) rfl rfl ?_
          refine WO.nil ?_
          refine WX.seq ?_
          refine WX.condT rfl rfl ?_
          refine WX.skip ?_
          refine WX.block ?_
          refine WX.seq ?_
          refine WX.reg ?_
          refine WO.ql (QOp.entry rfl (List.mem_cons_self) (inE (A := [_, _]) hmem) hnb he) rfl rfl ?_
          refine WO.q (.r fun _ => rfl) rfl rfl ?_
          refine WO.q (.r fun _ => rfl) rfl rfl ?_
          refine WO.q (.as (v := .str _) rfl) rfl rfl ?_
          refine WO.q (.as (v := .int _ _) rfl) rfl rfl ?_
          refine WO.nil ?_
          refine WX.reg ?_
          refine WO.q (.mv (v := .sl _ _ _ _ _ _) rfl) rfl rfl ?_
          refine WO.q (.mv (v := .str _) rfl) rfl rfl ?_
          refine WO.q (.mv (v := .int _ _) rfl) rfl rfl ?_
          refine WO.q (.bd (bd42_0_1 (cS rfl) (cI rfl))) rfl rfl ?_
          refine WO.md (MOp.bs (l := ([p] : List ((List UInt8) × Int))) sl38 (RL.cons (Rp Rs Ri) RL.nil) (lb rfl) rfl rfl) rfl rfl ?_
          rintro v12 _ ⟨b10, o11, rfl⟩
          obtain ⟨_, _, _, _, _, rfl⟩ := o11.isl
          have hperm' : ((acc ++ [p]) ++ (Lft es ps (seen ++ [eb]) ++ (ms.drop (i + 1)).flatten)).Perm ms.flatten := by
            refine List.Perm.trans ?_ hperm
            rw [List.append_assoc]
            exact List.Perm.append_left _ ((hpick.append_right _).symm)
          have happ : appL 5864062014805 acc [p] = some (acc ++ [p]) := appL_ok (by have := hperm'.length_eq; simp only [List.length_append, List.length_singleton] at this ⊢; omega)
          refine WO.md (MOp.app rfl rfl rfl sl38 ho (Src.o (i := 0) sl38 o11 rfl) happ rfl rfl (fun _ => (.t (.t .h)))) rfl rfl ?_
          rintro v18 _ ⟨b15, n16, o17, rfl⟩
          obtain ⟨_, _, _, _, _, rfl⟩ := o17.isl
          refine WO.q (.as (v := .sl _ _ _ _ _ _) rfl) rfl rfl ?_
          refine WO.nil ?_
          refine WX.keepL [3, 13, 14, 15, 20] (WX.pk [1, 2] (by decide) ?_) rfl
          exact ih2 (k - 1) _ _ _ _ (by have := hpick.length_eq; rw [List.length_cons] at this; omega) ⟨rfl, rfl, acc ++ [p], seen ++ [eb], _, _, _, _, by have := hpick.length_eq; rw [List.length_cons] at this; omega, o17, hperm', rfl, rfl⟩
      · rw [Lft.zero hlen]
        refine List.Perm.trans ?_ hperm
        rw [hrest, List.flatten_cons]
        exact List.Perm.append_left _ (hps.append_right _)
    · have q_k6 := of_decide_eq_false k6
      refine WX.condF rfl k6 ?_
      refine WX.exit rfl ?_
      rw [List.drop_of_length_le (by omega), List.flatten_nil, List.append_nil] at hperm
      refine WX.keep [3] (WX.pk [0] (by decide) ?_) rfl
      refine WX.seq ?_
      refine WX.reg ?_
      refine WO.q (.mv (v := .sl _ _ _ _ _ _) rfl) rfl rfl ?_
      have hacc : (acc.map (·.1)).Nodup := (hperm.map _).nodup_iff.2 hnd
      have hle : acc.length ≤ 1000000 := by rw [hperm.length_eq]; exact hbig
      refine WO.sort rfl rfl (sort_ok ho hacc hle) rfl rfl rfl ?_
      intro c5 ho5
      rw [sortE_perm hperm hacc] at ho5
      refine WO.nil ?_
      refine WX.seq ?_
      refine WX.reg ?_
      refine WO.q (.mv (v := .sl _ _ _ _ _ _) rfl) rfl rfl ?_
      refine WO.q (.as (v := .sl _ _ _ _ _ _) rfl) rfl rfl ?_
      refine WO.nil ?_
      exact WX.ret (rs_ (rs_tmp rfl rs_nil)) fun st hp => ⟨_, _, hB, (hp.pk [0] (by decide)), _, _, n4, _, rfl, rfl, ho5⟩
end Gab
