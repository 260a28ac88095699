/- The Go code comes to what the Lean functions say. Written by a program (gp.py). -/
import Derived.Test.YtdkldojcpncnhaaFd
import Derived.Test.YtdkldojcpncnhaaTy
import Derived.Test.YtdkldojcpncnhaaFpExt0
import Derived.Test.YtdkldojcpncnhaaFpLe0
set_option linter.unusedSimpArgs false
set_option linter.unusedVariables false
set_option maxHeartbeats 4000000
set_option maxRecDepth 100000
namespace Gab
open Go Go.Proofs
def slices_DeleteFunc_ext_List_alloc_Extent_P (B : Kn) (L : Own) (r : (List (Int × Int))) : AV → St → Prop := C0 B L fun B' v => ∃ w0, v = w0 ∧ RSl EPIi64Ii64Q B' w0 r
def slices_DeleteFunc_ext_List_alloc_Extent_j10_I (B0 : Kn) (fg1 : Nat) (fc1 : List AV) (x0 : List (Int × Int)) (x5 : Int) (x6 : Int) : Fr → Kn → Own → Prop := fun fr B A => KLe B0 B ∧ ∃ v12 b12 n12 c12, OSl EPIi64Ii64Q B v12 b12 n12 c12 x0 ∧ fr = [(0, v12), (1, .fn (.func fg1) [] fc1), (5, .int .i64 x5), (6, .int .i64 x6)] ∧ A = [oe b12 n12 c12]
def slices_DeleteFunc_ext_List_alloc_Extent_l0_I (B0 : Kn) (fg1 : Nat) (fc1 : List AV) (x0 : List (Int × Int)) (x5 : Int) (x6 : Int) : Fr → Kn → Own → Prop := fun fr B A => KLe B0 B ∧ ∃ v6 b6 n6 c6, OSl EPIi64Ii64Q B v6 b6 n6 c6 x0 ∧ fr = [(0, v6), (1, .fn (.func fg1) [] fc1), (5, .int .i64 x5), (6, .int .i64 x6)] ∧ A = [oe b6 n6 c6]
def slices_DeleteFunc_ext_List_alloc_Extent_l0_X0 (B0 : Kn) (fg1 : Nat) (fc1 : List AV) (x0 : List (Int × Int)) (x5 : Int) : Fr → Kn → Own → Prop := fun fr B A => KLe B0 B ∧ ∃ v25 b25 n25 c25, OSl EPIi64Ii64Q B v25 b25 n25 c25 x0 ∧ fr = [(0, v25), (5, .int .i64 x5)] ∧ A = [oe b25 n25 c25]
theorem slices_DeleteFunc_ext_List_alloc_Extent_j10_ok {B0 : Kn} {L : Own} {n0 : Nat} {fg1 : Nat} {fc1 : List AV} {a1 : (Int × Int) → Option Bool} {x0 : List (Int × Int)} {x5 : Int} {x6 : Int} {Q : AV → St → Prop} {E : ((List (Int × Int)) × Int × Int) ⊕ ((List (Int × Int)) × Int) → Prop} {o : ((List (Int × Int)) × Int × Int) ⊕ ((List (Int × Int)) × Int)} (h : slices_DeleteFunc_ext_List_alloc_Extent_j10 a1 x0 x5 x6 = some o) (hf1 : ∀ (x0 : Int × Int) (r : Bool), a1 x0 = some r → ∀ B, KLe B0 B → ∀ Lx st, Hp B (Lx ++ L) st → ASpec Try.prog fg1 ([.agg [.int .i64 x0.1, .int .i64 x0.2]] ++ fc1) st (CS B (Lx ++ L) fun v => v = .bool r)) (hn : ∀ s, E (.inl s) → WXI Try.prog 42 n0 (Fin Try.prog Try.f72.results.toList n0 Q) [.lp (ct [1, 1, 1, 0, 1, 0, 0] (bodyOf Try.f72)), .blk 0, .code (ct [1, 1, 1, 1] (bodyOf Try.f72))] (slices_DeleteFunc_ext_List_alloc_Extent_l0_I B0 fg1 fc1 s.1 s.2.1 s.2.2) L) (hx0 : ∀ s, E (.inr s) → WXI Try.prog 42 n0 (Fin Try.prog Try.f72.results.toList n0 Q) [.code (ct [1, 1, 1, 1] (bodyOf Try.f72))] (slices_DeleteFunc_ext_List_alloc_Extent_l0_X0 B0 fg1 fc1 s.1 s.2) L) (hE : E o) : WXI Try.prog 42 n0 (Fin Try.prog Try.f72.results.toList n0 Q) [.code (ct [1, 1, 1, 0, 1, 0, 0, 1, 1] (bodyOf Try.f72)), .lp (ct [1, 1, 1, 0, 1, 0, 0] (bodyOf Try.f72)), .blk 0, .code (ct [1, 1, 1, 1] (bodyOf Try.f72))] (slices_DeleteFunc_ext_List_alloc_Extent_j10_I B0 fg1 fc1 x0 x5 x6) L := by
  unfold slices_DeleteFunc_ext_List_alloc_Extent_j10 at h
  rintro _ B _ ⟨hB, v12, b12, n12, c12, h12, rfl, rfl⟩
  obtain ⟨_, _, _, _, _, rfl⟩ := h12.isl
  refine WX.reg ?_
  refine WO.q (.mv (v := .int _ _) rfl) rfl rfl ?_
  refine WO.q (.r fun _ => rfl) rfl rfl ?_
  refine WO.q (.as (v := .int _ _) rfl) rfl rfl ?_
  refine WO.nil ?_
  refine WX.keepL [0, 1, 5, 6] (WX.pk [0] (by decide) ?_) rfl
  obtain rfl := Option.some.inj h
  exact hn _ hE _ _ _ ⟨hB, _, _, n12, _, h12, rfl, rfl⟩
theorem slices_DeleteFunc_ext_List_alloc_Extent_l0_s {B0 : Kn} {L : Own} {n0 : Nat} {fg1 : Nat} {fc1 : List AV} {a1 : (Int × Int) → Option Bool} {x0 : List (Int × Int)} {x5 : Int} {x6 : Int} {Q : AV → St → Prop} {E : ((List (Int × Int)) × Int × Int) ⊕ ((List (Int × Int)) × Int) → Prop} {o : ((List (Int × Int)) × Int × Int) ⊕ ((List (Int × Int)) × Int)} (h : slices_DeleteFunc_ext_List_alloc_Extent_l0 a1 x0 x5 x6 = some o) (hf1 : ∀ (x0 : Int × Int) (r : Bool), a1 x0 = some r → ∀ B, KLe B0 B → ∀ Lx st, Hp B (Lx ++ L) st → ASpec Try.prog fg1 ([.agg [.int .i64 x0.1, .int .i64 x0.2]] ++ fc1) st (CS B (Lx ++ L) fun v => v = .bool r)) (hn : ∀ s, E (.inl s) → WXI Try.prog 42 n0 (Fin Try.prog Try.f72.results.toList n0 Q) [.lp (ct [1, 1, 1, 0, 1, 0, 0] (bodyOf Try.f72)), .blk 0, .code (ct [1, 1, 1, 1] (bodyOf Try.f72))] (slices_DeleteFunc_ext_List_alloc_Extent_l0_I B0 fg1 fc1 s.1 s.2.1 s.2.2) L) (hx0 : ∀ s, E (.inr s) → WXI Try.prog 42 n0 (Fin Try.prog Try.f72.results.toList n0 Q) [.code (ct [1, 1, 1, 1] (bodyOf Try.f72))] (slices_DeleteFunc_ext_List_alloc_Extent_l0_X0 B0 fg1 fc1 s.1 s.2) L) (hE : E o) : WXI Try.prog 42 n0 (Fin Try.prog Try.f72.results.toList n0 Q) [.code (ct [1, 1, 1, 0, 1, 0, 0] (bodyOf Try.f72)), .lp (ct [1, 1, 1, 0, 1, 0, 0] (bodyOf Try.f72)), .blk 0, .code (ct [1, 1, 1, 1] (bodyOf Try.f72))] (slices_DeleteFunc_ext_List_alloc_Extent_l0_I B0 fg1 fc1 x0 x5 x6) L := by
  unfold slices_DeleteFunc_ext_List_alloc_Extent_l0 at h
  rintro _ B _ ⟨hB, v6, b6, n6, c6, h6, rfl, rfl⟩
  obtain ⟨_, _, _, _, _, rfl⟩ := h6.isl
  refine WX.seq ?_
  refine WX.seq ?_
  refine WX.reg ?_
  refine WO.q (.mv (v := .int _ _) rfl) rfl rfl ?_
  refine WO.q (.mv (v := .sl _ _ _ _ _ _) rfl) rfl rfl ?_
  refine WO.q (.len rfl rfl rfl (sl44.len h6.isl)) rfl rfl ?_
  refine WO.q (.r fun _ => rfl) rfl rfl ?_
  refine WO.nil ?_
  rcases bsp (decide (x6 < (x0.length : Int))) with k7 | k7
  · have q_k7 := of_decide_eq_true k7
    replace h := (if_pos q_k7).symm.trans h
    refine WX.condT rfl k7 ?_
    refine WX.skip ?_
    refine WX.seq ?_
    refine WX.block ?_
    refine WX.seq ?_
    refine WX.reg ?_
    refine WO.q (.mv (v := .sl _ _ _ _ _ _) rfl) rfl rfl ?_
    refine WO.q (.mv (v := .int _ _) rfl) rfl rfl ?_
    obtain ⟨y8, hy8, h⟩ := Option.bind_eq_some_iff.1 h
    obtain rfl := h6.nonnil hy8
    obtain ⟨_, i_y8, l_y8, r_y8⟩ := h6.at sl44 hy8 .i64
    obtain ⟨_, _, rfl, rfl, rfl⟩ := r_y8
    refine WO.q (.ia i_y8) rfl rfl ?_
    refine WO.q (.leA (i := 0) rfl rfl l_y8 ti35 rfl rfl) rfl rfl ?_
    refine WO.md (MOp.alloc ti35 rfl) rfl rfl ?_
    rintro _ _ ⟨b9, rfl, rfl⟩
    refine WO.mn (MOp.storeW rfl (cA rfl) .h ti35 rfl rfl rfl) rfl ?_
    rintro _ _ rfl
    refine WO.nil ?_
    refine WX.seq ?_
    refine WX.reg ?_
    refine WO.q (.mv (v := .fn _ _ _) rfl) rfl rfl ?_
    refine WO.q (.ldA (i := 0) rfl rfl rfl ti35 rfl) rfl rfl ?_
    obtain ⟨y10, hy10, h⟩ := Option.bind_eq_some_iff.1 h
    refine WO.cS rfl rfl (hf1 _ _  hy10 _ hB _) rfl rfl rfl ?_
    rintro _ rfl
    refine WO.q (.r fun _ => rfl) rfl rfl ?_
    refine WO.nil ?_
    rcases bsp y10 with k11 | k11
    · replace h := (if_pos k11).symm.trans h
      refine WX.condF rfl (f_not k11) ?_
      refine WX.skip ?_
      refine WX.pop ?_
      refine WX.keep [0, 1, 5, 6] (WX.pk [1] (by decide) ?_) rfl
      exact slices_DeleteFunc_ext_List_alloc_Extent_j10_ok h hf1 hn hx0 hE _ _ _ ⟨hB, _, _, false, _, h6, rfl, rfl⟩
    · replace h := (if_neg (bnt k11)).symm.trans h
      refine WX.condT rfl (t_not k11) ?_
      refine WX.seq ?_
      refine WX.reg ?_
      refine WO.q (.mv (v := .sl _ _ _ _ _ _) rfl) rfl rfl ?_
      refine WO.q (.mv (v := .int _ _) rfl) rfl rfl ?_
      refine WO.q (.ldA (i := 0) rfl rfl rfl ti35 rfl) rfl rfl ?_
      obtain ⟨y13, hy13, h⟩ := Option.bind_eq_some_iff.1 h
      obtain ⟨_, i_y13, l_y13, r_y13⟩ := h6.at sl44 hy13 .i64
      obtain ⟨_, _, rfl, rfl, rfl⟩ := r_y13
      refine WO.q (.ia i_y13) rfl rfl ?_
      refine WO.mn (MOp.ostW (x' := y8) rfl (cA rfl) (fun _ => (.t .h)) ti35 rfl rfl h6 hy13 (Rp Ri Ri)) rfl ?_
      rintro _ _ ⟨c15, o14, rfl⟩
      refine WO.nil ?_
      refine WX.reg ?_
      refine WO.q (.mv (v := .int _ _) rfl) rfl rfl ?_
      refine WO.q (.r fun _ => rfl) rfl rfl ?_
      refine WO.q (.as (v := .int _ _) rfl) rfl rfl ?_
      refine WO.nil ?_
      refine WX.pop ?_
      refine WX.keep [0, 1, 5, 6] (WX.pk [1] (by decide) ?_) rfl
      exact slices_DeleteFunc_ext_List_alloc_Extent_j10_ok h hf1 hn hx0 hE _ _ _ ⟨hB, _, _, false, _, o14, rfl, rfl⟩
  · have q_k7 := of_decide_eq_false k7
    replace h := (if_neg q_k7).symm.trans h
    refine WX.condF rfl k7 ?_
    refine WX.exit rfl ?_
    refine WX.keep [0, 5] (WX.pk [0] (by decide) ?_) rfl
    obtain rfl := Option.some.inj h
    exact hx0 _ hE _ _ _ ⟨hB, _, _, n6, _, h6, rfl, rfl⟩
theorem slices_DeleteFunc_ext_List_alloc_Extent_l0_ok {B0 : Kn} {L : Own} {n0 : Nat} {fg1 : Nat} {fc1 : List AV} {a1 : (Int × Int) → Option Bool} {x0 : List (Int × Int)} {x5 : Int} {x6 : Int} {Q : AV → St → Prop} {d : Nat} {e : ((List (Int × Int)) × Int)} (h : iter (fun (s : (List (Int × Int)) × Int × Int) => slices_DeleteFunc_ext_List_alloc_Extent_l0 a1 s.1 s.2.1 s.2.2) d (x0, x5, x6) = some e) (hf1 : ∀ (x0 : Int × Int) (r : Bool), a1 x0 = some r → ∀ B, KLe B0 B → ∀ Lx st, Hp B (Lx ++ L) st → ASpec Try.prog fg1 ([.agg [.int .i64 x0.1, .int .i64 x0.2]] ++ fc1) st (CS B (Lx ++ L) fun v => v = .bool r)) (g0 : ∀ s, e = s → WXI Try.prog 42 n0 (Fin Try.prog Try.f72.results.toList n0 Q) [.code (ct [1, 1, 1, 1] (bodyOf Try.f72))] (slices_DeleteFunc_ext_List_alloc_Extent_l0_X0 B0 fg1 fc1 s.1 s.2) L) : WXI Try.prog 42 n0 (Fin Try.prog Try.f72.results.toList n0 Q) [.code (ct [1, 1, 1, 0, 1, 0, 0] (bodyOf Try.f72)), .lp (ct [1, 1, 1, 0, 1, 0, 0] (bodyOf Try.f72)), .blk 0, .code (ct [1, 1, 1, 1] (bodyOf Try.f72))] (slices_DeleteFunc_ext_List_alloc_Extent_l0_I B0 fg1 fc1 x0 x5 x6) L :=
  iter_ok (I := fun s => slices_DeleteFunc_ext_List_alloc_Extent_l0_I B0 fg1 fc1 s.1 s.2.1 s.2.2) (D := fun e => (∀ s, e = s → WXI Try.prog 42 n0 (Fin Try.prog Try.f72.results.toList n0 Q) [.code (ct [1, 1, 1, 1] (bodyOf Try.f72))] (slices_DeleteFunc_ext_List_alloc_Extent_l0_X0 B0 fg1 fc1 s.1 s.2) L)) (fun E hn hx s o ho hE => slices_DeleteFunc_ext_List_alloc_Extent_l0_s ho hf1 hn (fun s hs => (hx _ hs) _ rfl)  hE) h g0
theorem slices_DeleteFunc_ext_List_alloc_Extent_ok {B0 : Kn} {L : Own} {fg1 : Nat} {fc1 : List AV} {a1 : (Int × Int) → Option Bool} {a0 : List (Int × Int)} {v0_0 : AV} {pb0 : Nat} {pn0 : Bool} {pc0 : List AV} {r : (List (Int × Int))} (hf1 : ∀ (x0 : Int × Int) (r : Bool), a1 x0 = some r → ∀ B, KLe B0 B → ∀ Lx st, Hp B (Lx ++ L) st → ASpec Try.prog fg1 ([.agg [.int .i64 x0.1, .int .i64 x0.2]] ++ fc1) st (CS B (Lx ++ L) fun v => v = .bool r)) (g0_0 : OSl EPIi64Ii64Q B0 v0_0 pb0 pn0 pc0 a0) (h : slices_DeleteFunc_ext_List_alloc_Extent a0 a1 = some r) : ∀ st, Hp B0 (oe pb0 pn0 pc0 :: L) st → ASpec Try.prog 72 [v0_0, .fn (.func fg1) [] fc1] st (slices_DeleteFunc_ext_List_alloc_Extent_P B0 L r) := by
  unfold slices_DeleteFunc_ext_List_alloc_Extent at h
  refine bodyA (A := [oe pb0 pn0 pc0]) Try.func72 rfl (c := bodyOf Try.f72) rfl Try.ntmps72 (lb rfl) fun n0 => ?_
  have hB := KLe.refl B0
  obtain ⟨_, _, _, _, _, rfl⟩ := g0_0.isl
  refine WX.seq ?_
  refine WX.reg ?_
  refine WO.q (.as (v := .sl _ _ _ _ _ _) rfl) rfl rfl ?_
  refine WO.nil ?_
  refine WX.seq ?_
  refine WX.reg ?_
  refine WO.q (.mv (v := .sl _ _ _ _ _ _) rfl) rfl rfl ?_
  refine WO.q (.mv (v := .fn _ _ _) rfl) rfl rfl ?_
  obtain ⟨y1, hy1, h⟩ := Option.bind_eq_some_iff.1 h
  refine WO.cS rfl rfl (lendC (j := 0) g0_0 rfl fun _ K3 g2 => slices_IndexFunc_ext_List_alloc_Extent_ok (fun x_ r hx B1 hB1 Lx st hp => by have := hf1 _ _ hx B1 ((hB.trans K3).trans hB1) (Lx ++ _) st (by rw [List.append_assoc]; exact hp); rw [List.append_assoc] at this; exact this) g2 hy1) rfl rfl rfl ?_
  rintro _ rfl
  refine WO.q (.as (v := .int _ _) rfl) rfl rfl ?_
  refine WO.nil ?_
  refine WX.seq ?_
  refine WX.seq ?_
  refine WX.reg ?_
  refine WO.q (.mv (v := .int _ _) rfl) rfl rfl ?_
  refine WO.q (.r fun _ => rfl) rfl rfl ?_
  refine WO.nil ?_
  rcases bsp (decide (y1 = (-1))) with k4 | k4
  · have q_k4 := of_decide_eq_true k4
    replace h := (if_pos q_k4).symm.trans h
    refine WX.condT rfl k4 ?_
    refine WX.seq ?_
    refine WX.reg ?_
    refine WO.q (.mv (v := .sl _ _ _ _ _ _) rfl) rfl rfl ?_
    refine WO.q (.as (v := .sl _ _ _ _ _ _) rfl) rfl rfl ?_
    refine WO.nil ?_
    refine WX.fz (j := 0) g0_0 rfl ?_
    intro B hK g5
    replace hB := hB.trans hK
    obtain rfl := Option.some.inj h
    exact WX.ret (rs_ (rs_tmp rfl rs_nil)) fun st hp => ⟨_, hB, (hp.pk [] (by decide)), _, rfl, g5⟩
  · have q_k4 := of_decide_eq_false k4
    replace h := (if_neg q_k4).symm.trans h
    refine WX.condF rfl k4 ?_
    refine WX.skip ?_
    refine WX.seq ?_
    refine WX.seq ?_
    refine WX.reg ?_
    refine WO.q (.mv (v := .int _ _) rfl) rfl rfl ?_
    refine WO.q (.r fun _ => rfl) rfl rfl ?_
    refine WO.q (.as (v := .int _ _) rfl) rfl rfl ?_
    refine WO.nil ?_
    refine WX.block ?_
    refine WX.loop ?_
    obtain ⟨e17, he17, h⟩ := Option.bind_eq_some_iff.1 h
    refine WX.keep [0, 1, 5, 6] (WX.pk [0] (by decide) ?_) rfl
    refine slices_DeleteFunc_ext_List_alloc_Extent_l0_ok he17 hf1 ?_ _ _ _ ⟨hB, _, _, pn0, _, g0_0, rfl, rfl⟩
    · intro s24 he_
      subst he_
      replace h := h
      rintro _ B _ ⟨hB, v18, b18, n18, c18, h18, rfl, rfl⟩
      obtain ⟨_, _, _, _, _, rfl⟩ := h18.isl
      refine WX.seq ?_
      refine WX.reg ?_
      refine WO.q (.mv (v := .sl _ _ _ _ _ _) rfl) rfl rfl ?_
      refine WO.q (.mv (v := .int _ _) rfl) rfl rfl ?_
      obtain ⟨y19, hy19, h⟩ := Option.bind_eq_some_iff.1 h
      obtain ⟨v_y19, e_y19, g_y19⟩ := h18.end_ sl44 hy19 (kd := .i64)
      refine WO.q (.sl e_y19) rfl rfl ?_
      refine WO.mn (MOp.clr (x := ((0, 0) : Int × Int)) rfl rfl rfl sl44 (Rp Ri Ri) h18 g_y19 hy19 (fun _ => .h)) rfl ?_
      rintro _ _ ⟨c21, o20, rfl⟩
      refine WO.nil ?_
      refine WX.seq ?_
      refine WX.reg ?_
      refine WO.q (.mv (v := .sl _ _ _ _ _ _) rfl) rfl rfl ?_
      refine WO.q (.mv (v := .int _ _) rfl) rfl rfl ?_
      refine WO.fz (j := 0) o20 rfl ?_
      intro B hK g22
      replace hB := hB.trans hK
      obtain ⟨y23, hy23, h⟩ := Option.bind_eq_some_iff.1 h
      obtain ⟨v_y23, e_y23, g_y23⟩ := g22.cut sl44 hy23 (lo := none) (hi := some (.int .i64 e17.2)) bnd_none (bnd_int (Int.le_trans (cutL_some hy23).1.1 (cutL_some hy23).1.2.1))
      obtain ⟨_, _, _, _, _, rfl⟩ := g_y23.isl
      refine WO.q (.sl e_y23) rfl rfl ?_
      refine WO.q (.as (v := .sl _ _ _ _ _ _) rfl) rfl rfl ?_
      refine WO.nil ?_
      obtain rfl := Option.some.inj h
      exact WX.ret (rs_ (rs_tmp rfl rs_nil)) fun st hp => ⟨_, hB, (hp.pk [] (by decide)), _, rfl, g_y23⟩
def ext_List_Cut_1_P (B : Kn) (L : Own) (r : Bool) : AV → St → Prop := CS B L fun v => v = .bool r
theorem ext_List_Cut_1_ok {B0 : Kn} {L : Own} {a0 : Int × Int} {r : Bool} (h : ext_List_Cut_1 a0 = some r) : ∀ st, Hp B0 L st → ASpec Try.prog 73 [.agg [.int .i64 a0.1, .int .i64 a0.2]] st (ext_List_Cut_1_P B0 L r) := by
  unfold ext_List_Cut_1 at h
  refine bodyA (A := []) Try.func73 rfl (c := bodyOf Try.f73) rfl Try.ntmps73 (lb rfl) fun n0 => ?_
  have hB := KLe.refl B0
  refine WX.seq ?_
  refine WX.reg ?_
  refine WO.md (MOp.box (cA rfl)) rfl rfl ?_
  rintro _ _ ⟨b1, rfl, rfl⟩
  refine WO.q (.as (v := .bool _) rfl) rfl rfl ?_
  refine WO.nil ?_
  refine WX.seq ?_
  refine WX.reg ?_
  refine WO.q (.fa (fa35_0 _ _)) rfl rfl ?_
  refine WO.q (.ldS (i := 0) rfl rfl rfl ti3 rfl) rfl rfl ?_
  refine WO.q (.r fun _ => rfl) rfl rfl ?_
  refine WO.q (.as (v := .bool _) rfl) rfl rfl ?_
  refine WO.nil ?_
  obtain rfl := Option.some.inj h
  exact WX.ret (rs_ (rs_tmp rfl rs_nil)) fun st hp => ⟨(hp.pk [] (by decide)).le hB, rfl⟩
def ext_List_Cut_P (B : Kn) (L : Own) (r : (List (Int × Int)) × (List (Int × Int)) × Int) : AV → St → Prop := C1 B L fun B' v e0 => ∃ w1 w0 b0 n0 c0, v = .tup [w0, w1, .int .i64 r.2.2] ∧ RSl EPIi64Ii64Q B' w1 r.2.1 ∧ e0 = oe b0 n0 c0 ∧ OSl EPIi64Ii64Q B' w0 b0 n0 c0 r.1
def ext_List_Cut_j1_I (B0 : Kn) (x0 : List (Int × Int)) (x1 : Int) (x22 : Bool) : Fr → Kn → Own → Prop := fun fr B A => KLe B0 B ∧ ∃ v4, RSl EPIi64Ii64Q B v4 x0 ∧ fr = [(0, v4), (1, .int .i64 x1), (22, .bool x22)] ∧ A = []
theorem ext_List_Cut_j1_ok {B0 : Kn} {L : Own} {n0 : Nat} {x0 : List (Int × Int)} {x1 : Int} {x22 : Bool} {r : (List (Int × Int)) × (List (Int × Int)) × Int} (h : ext_List_Cut_j1 x0 x1 x22 = some r) : WXI Try.prog 33 n0 (Fin Try.prog Try.f32.results.toList n0 (ext_List_Cut_P B0 L r)) [.code (ct [1, 0, 1] (bodyOf Try.f32)), .code (ct [1, 1] (bodyOf Try.f32))] (ext_List_Cut_j1_I B0 x0 x1 x22) L := by
  unfold ext_List_Cut_j1 at h
  rintro _ B _ ⟨hB, v4, h4, rfl, rfl⟩
  obtain ⟨_, _, _, _, _, rfl⟩ := h4.isl
  rcases bsp x22 with k5 | k5
  · replace h := (if_pos k5).symm.trans h
    refine WX.condT rfl k5 ?_
    refine WX.seq ?_
    refine WX.reg ?_
    refine WO.q (.as (v := .sl _ _ _ _ _ _) rfl) rfl rfl ?_
    refine WO.q (.as (v := .sl _ _ _ _ _ _) rfl) rfl rfl ?_
    refine WO.q (.as (v := .int _ _) rfl) rfl rfl ?_
    refine WO.nil ?_
    obtain rfl := Option.some.inj h
    exact WX.ret (rs_ (rs_tmp rfl (rs_tmp rfl (rs_tmp rfl rs_nil)))) fun st hp => ⟨_, _, hB, ((hp.pk [] (by decide)).skip 0), .sl 0 0 0 0 0 true, _, 0, true, [], rfl, (RSl.nil _ _), rfl, OSl.none _ _⟩
  · replace h := (if_neg (bnt k5)).symm.trans h
    refine WX.condF rfl k5 ?_
    refine WX.skip ?_
    refine WX.seq ?_
    refine WX.reg ?_
    refine WO.q (.mv (v := .sl _ _ _ _ _ _) rfl) rfl rfl ?_
    refine WO.q (.mv (v := .int _ _) rfl) rfl rfl ?_
    obtain ⟨y6, hy6, h⟩ := Option.bind_eq_some_iff.1 h
    refine WO.c2 rfl rfl (ext_List_split_ok h4 hy6) rfl rfl rfl ?_
    rintro _ B _ _ hK ⟨v7, b8, n9, c10, v12, b13, n14, c15, rfl, rfl, h11, rfl, h16⟩
    obtain ⟨_, _, _, _, _, rfl⟩ := h11.isl
    obtain ⟨_, _, _, _, _, rfl⟩ := h16.isl
    replace h4 := h4.up hK
    replace hB := hB.trans hK
    refine WO.q (.mv (v := .tup _) rfl) rfl rfl ?_
    refine WO.q (.r fun _ => rfl) rfl rfl ?_
    refine WO.q (.r fun _ => rfl) rfl rfl ?_
    refine WO.q (.as (v := .sl _ _ _ _ _ _) rfl) rfl rfl ?_
    refine WO.q (.as (v := .sl _ _ _ _ _ _) rfl) rfl rfl ?_
    refine WO.nil ?_
    refine WX.seq ?_
    refine WX.reg ?_
    refine WO.q (.mv (v := .sl _ _ _ _ _ _) rfl) rfl rfl ?_
    obtain ⟨y17, hy17, h⟩ := Option.bind_eq_some_iff.1 h
    refine WO.t0 (j := 1) rfl rfl rfl (slices_DeleteFunc_ext_List_alloc_Extent_ok (fun _ _ hx _ _ _ => ext_List_Cut_1_ok hx) h16 hy17) rfl rfl rfl ?_
    rintro _ B hK ⟨v18, rfl, h19⟩
    obtain ⟨_, _, _, _, _, rfl⟩ := h19.isl
    replace h11 := h11.up hK
    replace hB := hB.trans hK
    refine WO.q (.as (v := .sl _ _ _ _ _ _) rfl) rfl rfl ?_
    refine WO.nil ?_
    refine WX.seq ?_
    refine WX.reg ?_
    refine WO.q (.mv (v := .sl _ _ _ _ _ _) rfl) rfl rfl ?_
    refine WO.q (.mv (v := .sl _ _ _ _ _ _) rfl) rfl rfl ?_
    refine WO.q (.as (v := .sl _ _ _ _ _ _) rfl) rfl rfl ?_
    refine WO.q (.as (v := .sl _ _ _ _ _ _) rfl) rfl rfl ?_
    refine WO.q (.as (v := .int _ _) rfl) rfl rfl ?_
    refine WO.nil ?_
    obtain rfl := Option.some.inj h
    exact WX.ret (rs_ (rs_tmp rfl (rs_tmp rfl (rs_tmp rfl rs_nil)))) fun st hp => ⟨_, _, hB, (hp.pk [0] (by decide)), _, _, _, n9, _, rfl, h19, rfl, h11⟩
theorem ext_List_Cut_ok {B0 : Kn} {L : Own} {a0 : List (Int × Int)} {a1 : Int} {v0_0 : AV} {r : (List (Int × Int)) × (List (Int × Int)) × Int} (g0_0 : RSl EPIi64Ii64Q B0 v0_0 a0) (h : ext_List_Cut a0 a1 = some r) : ∀ st, Hp B0 L st → ASpec Try.prog 32 [v0_0, .int .i64 a1] st (ext_List_Cut_P B0 L r) := by
  unfold ext_List_Cut at h
  refine bodyA (A := []) Try.func32 rfl (c := bodyOf Try.f32) rfl Try.ntmps32 (lb rfl) fun n0 => ?_
  have hB := KLe.refl B0
  obtain ⟨_, _, _, _, _, rfl⟩ := g0_0.isl
  refine WX.seq ?_
  refine WX.reg ?_
  refine WO.q (.as (v := .sl _ _ _ _ _ _) rfl) rfl rfl ?_
  refine WO.q (.as (v := .sl _ _ _ _ _ _) rfl) rfl rfl ?_
  refine WO.q (.as (v := .int _ _) rfl) rfl rfl ?_
  refine WO.nil ?_
  refine WX.seq ?_
  refine WX.seq ?_
  refine WX.reg ?_
  refine WO.q (.mv (v := .sl _ _ _ _ _ _) rfl) rfl rfl ?_
  obtain ⟨y1, hy1, h⟩ := Option.bind_eq_some_iff.1 h
  refine WO.cS rfl rfl (ext_List_Right_ok g0_0 hy1) rfl rfl rfl ?_
  rintro _ rfl
  refine WO.q (.r fun _ => rfl) rfl rfl ?_
  refine WO.q (.mv (v := .bool _) rfl) rfl rfl ?_
  rcases bsp y1 with k2 | k2
  · replace h := (if_pos k2).symm.trans h
    refine WO.q (.mv (v := .int _ _) rfl) (wg rfl rfl (gf (f_not k2))) rfl ?_
    refine WO.q (.r fun _ => rfl) (wg rfl rfl (gf (f_not k2))) rfl ?_
    refine WO.q (.pfv (v := .bool _) rfl (f_not k2) rfl) rfl rfl ?_
    refine WO.q (.mv (v := .bool _) rfl) rfl rfl ?_
    rcases bsp (decide (a1 < 0)) with k3 | k3
    · have q_k3 := of_decide_eq_true k3
      replace h := (if_pos q_k3).symm.trans h
      refine WO.sd (wg rfl rfl (gfn k3)) rfl ?_
      refine WO.sd (wg rfl rfl (gfn k3)) rfl ?_
      refine WO.sd (wg rfl rfl (gfn k3)) rfl ?_
      refine WO.sd (wg rfl rfl (gfn k3)) rfl ?_
      refine WO.q (.ptv (v := .bool _) rfl k3 rfl) rfl rfl ?_
      refine WO.nil ?_
      refine WX.keep [0, 1, 22] (WX.pk [] (by decide) ?_) rfl
      exact ext_List_Cut_j1_ok h _ _ _ ⟨hB, _, g0_0, rfl, rfl⟩
    · have q_k3 := of_decide_eq_false k3
      replace h := (if_neg q_k3).symm.trans h
      refine WO.q (.mv (v := .int _ _) rfl) (wg rfl rfl (gf k3)) rfl ?_
      refine WO.q (.mv (v := .sl _ _ _ _ _ _) rfl) (wg rfl rfl (gf k3)) rfl ?_
      obtain ⟨y20, hy20, h⟩ := Option.bind_eq_some_iff.1 h
      refine WO.cS rfl rfl (ext_List_Blocks_ok g0_0 hy20) rfl (wg rfl rfl (gf k3)) rfl ?_
      rintro _ rfl
      refine WO.q (.r fun _ => rfl) (wg rfl rfl (gf k3)) rfl ?_
      refine WO.q (.pfv (v := .bool _) rfl k3 rfl) rfl rfl ?_
      refine WO.nil ?_
      refine WX.keep [0, 1, 22] (WX.pk [] (by decide) ?_) rfl
      exact ext_List_Cut_j1_ok h _ _ _ ⟨hB, _, g0_0, rfl, rfl⟩
  · replace h := (if_neg (bnt k2)).symm.trans h
    refine WO.sd (wg rfl rfl (gfn (t_not k2))) rfl ?_
    refine WO.sd (wg rfl rfl (gfn (t_not k2))) rfl ?_
    refine WO.q (.ptv (v := .bool _) rfl (t_not k2) rfl) rfl rfl ?_
    refine WO.q (.mv (v := .bool _) rfl) rfl rfl ?_
    refine WO.sd (wg rfl rfl (gfn rfl)) rfl ?_
    refine WO.sd (wg rfl rfl (gfn rfl)) rfl ?_
    refine WO.sd (wg rfl rfl (gfn rfl)) rfl ?_
    refine WO.sd (wg rfl rfl (gfn rfl)) rfl ?_
    refine WO.q (.ptv (v := .bool _) rfl rfl rfl) rfl rfl ?_
    refine WO.nil ?_
    refine WX.keep [0, 1, 22] (WX.pk [] (by decide) ?_) rfl
    exact ext_List_Cut_j1_ok h _ _ _ ⟨hB, _, g0_0, rfl, rfl⟩
def ext_List_Map_P (B : Kn) (L : Own) (r : Int × Bool) : AV → St → Prop := CS B L fun v => v = .tup [.int .i64 r.1, .bool r.2]
def ext_List_Map_l0_I (B0 : Kn) (x10 : List (Int × Int)) (x1 : Int) (x12 : Int) : Fr → Kn → Own → Prop := fun fr B A => KLe B0 B ∧ ∃ v2, RSl EPIi64Ii64Q B v2 x10 ∧ fr = [(1, .int .i64 x1), (10, v2), (11, .int .i64 (x10.length : Int)), (12, .int .i64 x12)] ∧ A = []
def ext_List_Map_l0_X0 (B0 : Kn) : Fr → Kn → Own → Prop := fun fr B A => KLe B0 B ∧ fr = [] ∧ A = []
theorem ext_List_Map_l0_s {B0 : Kn} {L : Own} {n0 : Nat} {x10 : List (Int × Int)} {x1 : Int} {x12 : Int} {Q : AV → St → Prop} {E : (Int × Int) ⊕ ((Int × Bool) ⊕ Unit) → Prop} {o : (Int × Int) ⊕ ((Int × Bool) ⊕ Unit)} (h : ext_List_Map_l0 x10 x1 x12 = some o) (hn : ∀ s, E (.inl s) → WXI Try.prog 34 n0 (Fin Try.prog Try.f37.results.toList n0 Q) [.lp (ct [1, 1, 0, 1, 0, 0] (bodyOf Try.f37)), .blk 0, .code (ct [1, 1, 1] (bodyOf Try.f37))] (ext_List_Map_l0_I B0 x10 s.1 s.2) L) (hx0 : ∀ s, E (.inr (.inr s)) → WXI Try.prog 34 n0 (Fin Try.prog Try.f37.results.toList n0 Q) [.code (ct [1, 1, 1] (bodyOf Try.f37))] (ext_List_Map_l0_X0 B0) L) (hr : ∀ r, E (.inr (.inl r)) → ∀ v st, ext_List_Map_P B0 L r v st → Q v st) (hE : E o) : WXI Try.prog 34 n0 (Fin Try.prog Try.f37.results.toList n0 Q) [.code (ct [1, 1, 0, 1, 0, 0] (bodyOf Try.f37)), .lp (ct [1, 1, 0, 1, 0, 0] (bodyOf Try.f37)), .blk 0, .code (ct [1, 1, 1] (bodyOf Try.f37))] (ext_List_Map_l0_I B0 x10 x1 x12) L := by
  unfold ext_List_Map_l0 at h
  rintro _ B _ ⟨hB, v2, h2, rfl, rfl⟩
  obtain ⟨_, _, _, _, _, rfl⟩ := h2.isl
  refine WX.seq ?_
  refine WX.reg ?_
  refine WO.q (.r fun _ => rfl) rfl rfl ?_
  refine WO.nil ?_
  refine WX.seq ?_
  rcases bsp (decide (x12 < (x10.length : Int))) with k3 | k3
  · have q_k3 := of_decide_eq_true k3
    replace h := (if_pos q_k3).symm.trans h
    refine WX.condT rfl k3 ?_
    refine WX.skip ?_
    refine WX.seq ?_
    refine WX.block ?_
    refine WX.seq ?_
    refine WX.reg ?_
    obtain ⟨y4, hy4, h⟩ := Option.bind_eq_some_iff.1 h
    obtain ⟨b_y4, o_y4, _, i_y4, p_y4, r_y4⟩ := h2.at sl44 hy4 .i64
    obtain ⟨_, _, rfl, rfl, rfl⟩ := r_y4
    refine WO.q (.ia i_y4) rfl rfl ?_
    refine WO.q (.lpA rfl p_y4 ti35 rfl rfl) rfl rfl ?_
    refine WO.md (MOp.alloc ti35 rfl) rfl rfl ?_
    rintro _ _ ⟨b5, rfl, rfl⟩
    refine WO.mn (MOp.storeW rfl (cA rfl) .h ti35 rfl rfl rfl) rfl ?_
    rintro _ _ rfl
    refine WO.nil ?_
    refine WX.block ?_
    refine WX.seq ?_
    refine WX.reg ?_
    refine WO.q (.mv (v := .int _ _) rfl) rfl rfl ?_
    refine WO.q (.fa (fa35_1 _ _)) rfl rfl ?_
    refine WO.q (.ldS (i := 0) rfl rfl rfl ti3 rfl) rfl rfl ?_
    refine WO.q (.r fun _ => rfl) rfl rfl ?_
    refine WO.q (.as (v := .bool _) rfl) rfl rfl ?_
    refine WO.nil ?_
    rcases bsp (decide (y4.2 ≤ x1)) with k6 | k6
    · have q_k6 := of_decide_eq_true k6
      replace h := (if_pos q_k6).symm.trans h
      refine WX.condT rfl k6 ?_
      refine WX.reg ?_
      refine WO.q (.mv (v := .int _ _) rfl) rfl rfl ?_
      refine WO.q (.fa (fa35_1 _ _)) rfl rfl ?_
      refine WO.q (.ldS (i := 0) rfl rfl rfl ti3 rfl) rfl rfl ?_
      refine WO.q (.r fun _ => rfl) rfl rfl ?_
      refine WO.q (.as (v := .int _ _) rfl) rfl rfl ?_
      refine WO.nil ?_
      refine WX.pop ?_
      refine WX.pop ?_
      refine WX.reg ?_
      refine WO.q (.r fun _ => rfl) rfl rfl ?_
      refine WO.q (.mv (v := .int _ _) rfl) rfl rfl ?_
      refine WO.nil ?_
      refine WX.keepL [1, 10, 11, 12] (WX.pk [] (by decide) ?_) rfl
      obtain rfl := Option.some.inj h
      exact hn _ hE _ _ _ ⟨hB, _, h2, rfl, rfl⟩
    · have q_k6 := of_decide_eq_false k6
      replace h := (if_neg q_k6).symm.trans h
      refine WX.condF rfl k6 ?_
      refine WX.seq ?_
      refine WX.reg ?_
      refine WO.q (.fa (fa35_0 _ _)) rfl rfl ?_
      refine WO.q (.ldS (i := 0) rfl rfl rfl ti3 rfl) rfl rfl ?_
      refine WO.q (.r fun _ => rfl) rfl rfl ?_
      refine WO.q (.as (v := .bool _) rfl) rfl rfl ?_
      refine WO.nil ?_
      rcases bsp (decide (y4.1 = (-1))) with k7 | k7
      · have q_k7 := of_decide_eq_true k7
        replace h := (if_pos q_k7).symm.trans h
        refine WX.condT rfl k7 ?_
        refine WX.seq ?_
        refine WX.reg ?_
        refine WO.q (.as (v := .int _ _) rfl) rfl rfl ?_
        refine WO.q (.as (v := .bool _) rfl) rfl rfl ?_
        refine WO.nil ?_
        obtain rfl := Option.some.inj h
        exact WX.ret (rs_ (rs_tmp rfl (rs_tmp rfl rs_nil))) fun st hp => hr _ hE _ _ ⟨(hp.pk [] (by decide)).le hB, rfl⟩
      · have q_k7 := of_decide_eq_false k7
        replace h := (if_neg q_k7).symm.trans h
        refine WX.condF rfl k7 ?_
        refine WX.seq ?_
        refine WX.reg ?_
        refine WO.q (.fa (fa35_0 _ _)) rfl rfl ?_
        refine WO.q (.ldS (i := 0) rfl rfl rfl ti3 rfl) rfl rfl ?_
        refine WO.q (.mv (v := .int _ _) rfl) rfl rfl ?_
        refine WO.q (.r fun _ => rfl) rfl rfl ?_
        refine WO.q (.as (v := .int _ _) rfl) rfl rfl ?_
        refine WO.q (.as (v := .bool _) rfl) rfl rfl ?_
        refine WO.nil ?_
        obtain rfl := Option.some.inj h
        exact WX.ret (rs_ (rs_tmp rfl (rs_tmp rfl rs_nil))) fun st hp => hr _ hE _ _ ⟨(hp.pk [] (by decide)).le hB, rfl⟩
  · have q_k3 := of_decide_eq_false k3
    replace h := (if_neg q_k3).symm.trans h
    refine WX.condF rfl k3 ?_
    refine WX.exit rfl ?_
    refine WX.keep [] (WX.pk [] (by decide) ?_) rfl
    obtain rfl := Option.some.inj h
    exact hx0 _ hE _ _ _ ⟨hB, rfl, rfl⟩
theorem ext_List_Map_l0_ok {B0 : Kn} {L : Own} {n0 : Nat} {x10 : List (Int × Int)} {x1 : Int} {x12 : Int} {Q : AV → St → Prop} {d : Nat} {e : (Int × Bool) ⊕ Unit} (h : iter (fun (s : Int × Int) => ext_List_Map_l0 x10 s.1 s.2) d (x1, x12) = some e) (g0 : ∀ r, e = (.inl r) → ∀ v st, ext_List_Map_P B0 L r v st → Q v st) (g1 : ∀ s, e = (.inr s) → WXI Try.prog 34 n0 (Fin Try.prog Try.f37.results.toList n0 Q) [.code (ct [1, 1, 1] (bodyOf Try.f37))] (ext_List_Map_l0_X0 B0) L) : WXI Try.prog 34 n0 (Fin Try.prog Try.f37.results.toList n0 Q) [.code (ct [1, 1, 0, 1, 0, 0] (bodyOf Try.f37)), .lp (ct [1, 1, 0, 1, 0, 0] (bodyOf Try.f37)), .blk 0, .code (ct [1, 1, 1] (bodyOf Try.f37))] (ext_List_Map_l0_I B0 x10 x1 x12) L :=
  iter_ok (I := fun s => ext_List_Map_l0_I B0 x10 s.1 s.2) (D := fun e => (∀ r, e = (.inl r) → ∀ v st, ext_List_Map_P B0 L r v st → Q v st) ∧ (∀ s, e = (.inr s) → WXI Try.prog 34 n0 (Fin Try.prog Try.f37.results.toList n0 Q) [.code (ct [1, 1, 1] (bodyOf Try.f37))] (ext_List_Map_l0_X0 B0) L)) (fun E hn hx s o ho hE => ext_List_Map_l0_s ho hn (fun s hs => (hx _ hs).2 _ rfl) (fun r hs => (hx _ hs).1 _ rfl) hE) h ⟨g0, g1⟩
theorem ext_List_Map_ok {B0 : Kn} {L : Own} {a0 : List (Int × Int)} {a1 : Int} {v0_0 : AV} {r : Int × Bool} (g0_0 : RSl EPIi64Ii64Q B0 v0_0 a0) (h : ext_List_Map a0 a1 = some r) : ∀ st, Hp B0 L st → ASpec Try.prog 37 [v0_0, .int .i64 a1] st (ext_List_Map_P B0 L r) := by
  unfold ext_List_Map at h
  refine bodyA (A := []) Try.func37 rfl (c := bodyOf Try.f37) rfl Try.ntmps37 (lb rfl) fun n0 => ?_
  have hB := KLe.refl B0
  obtain ⟨_, _, _, _, _, rfl⟩ := g0_0.isl
  refine WX.seq ?_
  refine WX.reg ?_
  refine WO.q (.as (v := .int _ _) rfl) rfl rfl ?_
  refine WO.q (.as (v := .bool _) rfl) rfl rfl ?_
  refine WO.nil ?_
  refine WX.seq ?_
  refine WX.seq ?_
  refine WX.reg ?_
  refine WO.q (.mv (v := .int _ _) rfl) rfl rfl ?_
  refine WO.q (.r fun _ => rfl) rfl rfl ?_
  refine WO.nil ?_
  rcases bsp (decide (a1 < 0)) with k1 | k1
  · have q_k1 := of_decide_eq_true k1
    replace h := (if_pos q_k1).symm.trans h
    refine WX.condT rfl k1 ?_
    refine WX.seq ?_
    refine WX.reg ?_
    refine WO.q (.as (v := .int _ _) rfl) rfl rfl ?_
    refine WO.q (.as (v := .bool _) rfl) rfl rfl ?_
    refine WO.nil ?_
    obtain rfl := Option.some.inj h
    exact WX.ret (rs_ (rs_tmp rfl (rs_tmp rfl rs_nil))) fun st hp => ⟨(hp.pk [] (by decide)).le hB, rfl⟩
  · have q_k1 := of_decide_eq_false k1
    replace h := (if_neg q_k1).symm.trans h
    refine WX.condF rfl k1 ?_
    refine WX.skip ?_
    refine WX.seq ?_
    refine WX.seq ?_
    refine WX.reg ?_
    refine WO.q (.mv (v := .sl _ _ _ _ _ _) rfl) rfl rfl ?_
    refine WO.q (.len rfl rfl rfl (sl44.len g0_0.isl)) rfl rfl ?_
    refine WO.q (.mv (v := .int _ _) rfl) rfl rfl ?_
    refine WO.nil ?_
    refine WX.block ?_
    refine WX.loop ?_
    obtain ⟨e8, he8, h⟩ := Option.bind_eq_some_iff.1 h
    refine WX.keep [1, 10, 11, 12] (WX.pk [] (by decide) ?_) rfl
    refine ext_List_Map_l0_ok he8 ?_ ?_ _ _ _ ⟨hB, _, g0_0, rfl, rfl⟩
    · intro r10 he_
      subst he_
      replace h := (on_l h)
      obtain rfl := Option.some.inj h
      exact fun v st hp => hp
    · intro x11 he_
      subst he_
      replace h := (on_r h)
      rintro _ B _ ⟨hB, rfl, rfl⟩
      refine WX.seq ?_
      refine WX.reg ?_
      refine WO.q (.as (v := .int _ _) rfl) rfl rfl ?_
      refine WO.q (.as (v := .bool _) rfl) rfl rfl ?_
      refine WO.nil ?_
      obtain rfl := Option.some.inj h
      exact WX.ret (rs_ (rs_tmp rfl (rs_tmp rfl rs_nil))) fun st hp => ⟨(hp.pk [] (by decide)).le hB, rfl⟩
def ext_List_Text_P (B : Kn) (L : Own) (r : (List UInt8)) : AV → St → Prop := CS B L fun v => v = .str r
def ext_List_Text_l0_I (B0 : Kn) (x9 : List (Int × Int)) (x3 : List UInt8) (x11 : Int) : Fr → Kn → Own → Prop := fun fr B A => KLe B0 B ∧ ∃ v3, RSl EPIi64Ii64Q B v3 x9 ∧ fr = [(3, .str x3), (9, v3), (10, .int .i64 (x9.length : Int)), (11, .int .i64 x11)] ∧ A = []
def ext_List_Text_l0_X0 (B0 : Kn) (x3 : List UInt8) : Fr → Kn → Own → Prop := fun fr B A => KLe B0 B ∧ fr = [(3, .str x3)] ∧ A = []
theorem ext_List_Text_l0_s {B0 : Kn} {L : Own} {n0 : Nat} {x9 : List (Int × Int)} {x3 : List UInt8} {x11 : Int} {Q : AV → St → Prop} {E : ((List UInt8) × Int) ⊕ (List UInt8) → Prop} {o : ((List UInt8) × Int) ⊕ (List UInt8)} (h : ext_List_Text_l0 x9 x3 x11 = some o) (hn : ∀ s, E (.inl s) → WXI Try.prog 29 n0 (Fin Try.prog Try.f42.results.toList n0 Q) [.lp (ct [1, 1, 1, 0, 1, 0, 0] (bodyOf Try.f42)), .blk 0, .code (ct [1, 1, 1, 1] (bodyOf Try.f42))] (ext_List_Text_l0_I B0 x9 s.1 s.2) L) (hx0 : ∀ s, E (.inr s) → WXI Try.prog 29 n0 (Fin Try.prog Try.f42.results.toList n0 Q) [.code (ct [1, 1, 1, 1] (bodyOf Try.f42))] (ext_List_Text_l0_X0 B0 s) L) (hE : E o) : WXI Try.prog 29 n0 (Fin Try.prog Try.f42.results.toList n0 Q) [.code (ct [1, 1, 1, 0, 1, 0, 0] (bodyOf Try.f42)), .lp (ct [1, 1, 1, 0, 1, 0, 0] (bodyOf Try.f42)), .blk 0, .code (ct [1, 1, 1, 1] (bodyOf Try.f42))] (ext_List_Text_l0_I B0 x9 x3 x11) L := by
  unfold ext_List_Text_l0 at h
  rintro _ B _ ⟨hB, v3, h3, rfl, rfl⟩
  obtain ⟨_, _, _, _, _, rfl⟩ := h3.isl
  refine WX.seq ?_
  refine WX.reg ?_
  refine WO.q (.r fun _ => rfl) rfl rfl ?_
  refine WO.nil ?_
  refine WX.seq ?_
  rcases bsp (decide (x11 < (x9.length : Int))) with k4 | k4
  · have q_k4 := of_decide_eq_true k4
    replace h := (if_pos q_k4).symm.trans h
    refine WX.condT rfl k4 ?_
    refine WX.skip ?_
    refine WX.seq ?_
    refine WX.block ?_
    refine WX.seq ?_
    refine WX.reg ?_
    obtain ⟨y5, hy5, h⟩ := Option.bind_eq_some_iff.1 h
    obtain ⟨b_y5, o_y5, _, i_y5, p_y5, r_y5⟩ := h3.at sl44 hy5 .i64
    obtain ⟨_, _, rfl, rfl, rfl⟩ := r_y5
    refine WO.q (.ia i_y5) rfl rfl ?_
    refine WO.q (.lpA rfl p_y5 ti35 rfl rfl) rfl rfl ?_
    refine WO.md (MOp.alloc ti35 rfl) rfl rfl ?_
    rintro _ _ ⟨b6, rfl, rfl⟩
    refine WO.mn (MOp.storeW rfl (cA rfl) .h ti35 rfl rfl rfl) rfl ?_
    rintro _ _ rfl
    refine WO.nil ?_
    refine WX.drw (Plan.of [0, 1, 2, 3, 4, 6, 7, 8, 5, 9, 10, 11, 12] .nil) _ mixed (by kernel_rfl) rfl (pk_sub [0]) ?_
    refine WP.q (i := 0) rfl (.mv (v := .str _) rfl) rfl rfl rfl ?_
    refine WP.q (i := 1) rfl (.fa (fa35_0 _ _)) rfl rfl rfl ?_
    refine WP.q (i := 2) rfl (.ldS (i := 0) rfl rfl rfl ti3 rfl) rfl rfl rfl ?_
    refine WP.q (i := 3) rfl (.r fun _ => rfl) rfl rfl rfl ?_
    refine WP.q (i := 4) rfl (cvI ti3 ti119 rfl rfl) (isQc ti3 ti119 rfl) rfl rfl ?_
    refine WP.q (i := 6) rfl (.fa (fa35_1 _ _)) rfl rfl rfl ?_
    refine WP.q (i := 7) rfl (.ldS (i := 0) rfl rfl rfl ti3 rfl) rfl rfl rfl ?_
    refine WP.q (i := 8) rfl (cvI ti3 ti119 rfl rfl) (isQc ti3 ti119 rfl) rfl rfl ?_
    obtain ⟨y7, hy7, h⟩ := Option.bind_eq_some_iff.1 h
    refine WP.cS (i := 5) rfl rfl rfl (le_Put_ok hy7) rfl rfl rfl ?_
    rintro _ rfl
    obtain ⟨y8, hy8, h⟩ := Option.bind_eq_some_iff.1 h
    refine WP.cS (i := 9) rfl rfl rfl (le_Put_ok hy8) rfl rfl rfl ?_
    rintro _ rfl
    obtain ⟨y9, hy9, h⟩ := Option.bind_eq_some_iff.1 h
    refine WP.q (i := 10) rfl (.bin (evcat hy9)) rfl rfl rfl ?_
    obtain ⟨y10, hy10, h⟩ := Option.bind_eq_some_iff.1 h
    refine WP.q (i := 11) rfl (.bin (evcat hy10)) rfl rfl rfl ?_
    refine WP.q (i := 12) rfl (.as (v := .str _) rfl) rfl rfl rfl ?_
    refine WP.nil ?_
    refine WX.pop ?_
    refine WX.reg ?_
    refine WO.q (.r fun _ => rfl) rfl rfl ?_
    refine WO.q (.mv (v := .int _ _) rfl) rfl rfl ?_
    refine WO.nil ?_
    refine WX.keepL [3, 9, 10, 11] (WX.pk [] (by decide) ?_) rfl
    obtain rfl := Option.some.inj h
    exact hn _ hE _ _ _ ⟨hB, _, h3, rfl, rfl⟩
  · have q_k4 := of_decide_eq_false k4
    replace h := (if_neg q_k4).symm.trans h
    refine WX.condF rfl k4 ?_
    refine WX.exit rfl ?_
    refine WX.keep [3] (WX.pk [] (by decide) ?_) rfl
    obtain rfl := Option.some.inj h
    exact hx0 _ hE _ _ _ ⟨hB, rfl, rfl⟩
theorem ext_List_Text_l0_ok {B0 : Kn} {L : Own} {n0 : Nat} {x9 : List (Int × Int)} {x3 : List UInt8} {x11 : Int} {Q : AV → St → Prop} {d : Nat} {e : (List UInt8)} (h : iter (fun (s : (List UInt8) × Int) => ext_List_Text_l0 x9 s.1 s.2) d (x3, x11) = some e) (g0 : ∀ s, e = s → WXI Try.prog 29 n0 (Fin Try.prog Try.f42.results.toList n0 Q) [.code (ct [1, 1, 1, 1] (bodyOf Try.f42))] (ext_List_Text_l0_X0 B0 s) L) : WXI Try.prog 29 n0 (Fin Try.prog Try.f42.results.toList n0 Q) [.code (ct [1, 1, 1, 0, 1, 0, 0] (bodyOf Try.f42)), .lp (ct [1, 1, 1, 0, 1, 0, 0] (bodyOf Try.f42)), .blk 0, .code (ct [1, 1, 1, 1] (bodyOf Try.f42))] (ext_List_Text_l0_I B0 x9 x3 x11) L :=
  iter_ok (I := fun s => ext_List_Text_l0_I B0 x9 s.1 s.2) (D := fun e => (∀ s, e = s → WXI Try.prog 29 n0 (Fin Try.prog Try.f42.results.toList n0 Q) [.code (ct [1, 1, 1, 1] (bodyOf Try.f42))] (ext_List_Text_l0_X0 B0 s) L)) (fun E hn hx s o ho hE => ext_List_Text_l0_s ho hn (fun s hs => (hx _ hs) _ rfl)  hE) h g0
theorem ext_List_Text_ok {B0 : Kn} {L : Own} {a0 : List (Int × Int)} {v0_0 : AV} {r : (List UInt8)} (g0_0 : RSl EPIi64Ii64Q B0 v0_0 a0) (h : ext_List_Text a0 = some r) : ∀ st, Hp B0 L st → ASpec Try.prog 42 [v0_0] st (ext_List_Text_P B0 L r) := by
  unfold ext_List_Text at h
  refine bodyA (A := []) Try.func42 rfl (c := bodyOf Try.f42) rfl Try.ntmps42 (lb rfl) fun n0 => ?_
  have hB := KLe.refl B0
  obtain ⟨_, _, _, _, _, rfl⟩ := g0_0.isl
  refine WX.seq ?_
  refine WX.reg ?_
  refine WO.q (.as (v := .str _) rfl) rfl rfl ?_
  refine WO.nil ?_
  refine WX.seq ?_
  refine WX.seq ?_
  refine WX.reg ?_
  refine WO.q (.mv (v := .sl _ _ _ _ _ _) rfl) rfl rfl ?_
  obtain ⟨y1, hy1, h⟩ := Option.bind_eq_some_iff.1 h
  refine WO.cS rfl rfl (ext_List_Right_ok g0_0 hy1) rfl rfl rfl ?_
  rintro _ rfl
  refine WO.q (.r fun _ => rfl) rfl rfl ?_
  refine WO.nil ?_
  rcases bsp y1 with k2 | k2
  · replace h := (if_pos k2).symm.trans h
    refine WX.condF rfl (f_not k2) ?_
    refine WX.skip ?_
    refine WX.seq ?_
    refine WX.reg ?_
    refine WO.q (.as (v := .str _) rfl) rfl rfl ?_
    refine WO.nil ?_
    refine WX.seq ?_
    refine WX.seq ?_
    refine WX.reg ?_
    refine WO.q (.mv (v := .sl _ _ _ _ _ _) rfl) rfl rfl ?_
    refine WO.q (.len rfl rfl rfl (sl44.len g0_0.isl)) rfl rfl ?_
    refine WO.q (.mv (v := .int _ _) rfl) rfl rfl ?_
    refine WO.nil ?_
    refine WX.block ?_
    refine WX.loop ?_
    obtain ⟨e11, he11, h⟩ := Option.bind_eq_some_iff.1 h
    refine WX.keep [3, 9, 10, 11] (WX.pk [] (by decide) ?_) rfl
    refine ext_List_Text_l0_ok he11 ?_ _ _ _ ⟨hB, _, g0_0, rfl, rfl⟩
    · intro s12 he_
      subst he_
      replace h := h
      rintro _ B _ ⟨hB, rfl, rfl⟩
      refine WX.seq ?_
      refine WX.reg ?_
      refine WO.q (.mv (v := .str _) rfl) rfl rfl ?_
      refine WO.q (.as (v := .str _) rfl) rfl rfl ?_
      refine WO.nil ?_
      obtain rfl := Option.some.inj h
      exact WX.ret (rs_ (rs_tmp rfl rs_nil)) fun st hp => ⟨(hp.pk [] (by decide)).le hB, rfl⟩
  · replace h := (if_neg (bnt k2)).symm.trans h
    refine WX.condT rfl (t_not k2) ?_
    refine WX.seq ?_
    refine WX.reg ?_
    refine WO.q (.as (v := .str _) rfl) rfl rfl ?_
    refine WO.nil ?_
    obtain rfl := Option.some.inj h
    exact WX.ret (rs_ (rs_tmp rfl rs_nil)) fun st hp => ⟨(hp.pk [] (by decide)).le hB, rfl⟩
def ext_Parse_P (B : Kn) (L : Own) (r : (List (Int × Int)) × Int) : AV → St → Prop := C1 B L fun B' v e0 => ∃ w0 b0 n0 c0, v = .tup [w0, .int .i64 r.2] ∧ e0 = oe b0 n0 c0 ∧ OSl EPIi64Ii64Q B' w0 b0 n0 c0 r.1
def ext_Parse_l0_I (B0 : Kn) (x0 : List UInt8) (x4 : List (Int × Int)) (x5 : Int) : Fr → Kn → Own → Prop := fun fr B A => KLe B0 B ∧ ∃ v1 b1 n1 c1, OSl EPIi64Ii64Q B v1 b1 n1 c1 x4 ∧ fr = [(0, .str x0), (4, v1), (5, .int .i64 x5)] ∧ A = [oe b1 n1 c1]
def ext_Parse_l0_X0 (B0 : Kn) (x0 : List UInt8) (x4 : List (Int × Int)) : Fr → Kn → Own → Prop := fun fr B A => KLe B0 B ∧ ∃ v26 b26 n26 c26, OSl EPIi64Ii64Q B v26 b26 n26 c26 x4 ∧ fr = [(0, .str x0), (4, v26)] ∧ A = [oe b26 n26 c26]
def ext_Parse_j7_I (B0 : Kn) (x4 : List (Int × Int)) (x41 : Bool) : Fr → Kn → Own → Prop := fun fr B A => KLe B0 B ∧ ∃ v20 b20 n20 c20, OSl EPIi64Ii64Q B v20 b20 n20 c20 x4 ∧ fr = [(4, v20), (41, .bool x41)] ∧ A = [oe b20 n20 c20]
theorem ext_Parse_l0_s {B0 : Kn} {L : Own} {n0 : Nat} {x0 : List UInt8} {x4 : List (Int × Int)} {x5 : Int} {Q : AV → St → Prop} {E : ((List (Int × Int)) × Int) ⊕ (List (Int × Int)) → Prop} {o : ((List (Int × Int)) × Int) ⊕ (List (Int × Int))} (h : ext_Parse_l0 x0 x4 x5 = some o) (hn : ∀ s, E (.inl s) → WXI Try.prog 43 n0 (Fin Try.prog Try.f45.results.toList n0 Q) [.lp (ct [1, 1, 0, 1, 0, 0] (bodyOf Try.f45)), .blk 0, .code (ct [1, 1, 1] (bodyOf Try.f45))] (ext_Parse_l0_I B0 x0 s.1 s.2) L) (hx0 : ∀ s, E (.inr s) → WXI Try.prog 43 n0 (Fin Try.prog Try.f45.results.toList n0 Q) [.code (ct [1, 1, 1] (bodyOf Try.f45))] (ext_Parse_l0_X0 B0 x0 s) L) (hE : E o) : WXI Try.prog 43 n0 (Fin Try.prog Try.f45.results.toList n0 Q) [.code (ct [1, 1, 0, 1, 0, 0] (bodyOf Try.f45)), .lp (ct [1, 1, 0, 1, 0, 0] (bodyOf Try.f45)), .blk 0, .code (ct [1, 1, 1] (bodyOf Try.f45))] (ext_Parse_l0_I B0 x0 x4 x5) L := by
  unfold ext_Parse_l0 at h
  rintro _ B _ ⟨hB, v1, b1, n1, c1, h1, rfl, rfl⟩
  obtain ⟨_, _, _, _, _, rfl⟩ := h1.isl
  refine WX.seq ?_
  refine WX.seq ?_
  refine WX.reg ?_
  refine WO.q (.mv (v := .int _ _) rfl) rfl rfl ?_
  refine WO.q (.r fun _ => rfl) rfl rfl ?_
  refine WO.q (.mv (v := .str _) rfl) rfl rfl ?_
  refine WO.q (.len rfl rfl rfl (evslen ti9 rfl _)) rfl rfl ?_
  refine WO.q (.r fun _ => rfl) rfl rfl ?_
  refine WO.nil ?_
  rcases bsp (decide ((wi64 (x5 + 8)) ≤ (x0.length : Int))) with k2 | k2
  · have q_k2 := of_decide_eq_true k2
    replace h := (if_pos q_k2).symm.trans h
    refine WX.condT rfl k2 ?_
    refine WX.skip ?_
    refine WX.seq ?_
    refine WX.block ?_
    refine WX.drw (Plan.of [0, 1, 2, 3, 4, 5, 9, 10, 11, 12, 13, 14, 6, 7, 8, 15, 16, 17, 18, 19, 20] .nil) _ mixed (by kernel_rfl) rfl (pk_sub []) ?_
    refine WP.q (i := 0) rfl (.mv (v := .sl _ _ _ _ _ _) rfl) rfl rfl rfl ?_
    refine WP.q (i := 1) rfl (.mv (v := .str _) rfl) rfl rfl rfl ?_
    refine WP.q (i := 2) rfl (.mv (v := .int _ _) rfl) rfl rfl rfl ?_
    refine WP.q (i := 3) rfl (.mv (v := .int _ _) rfl) rfl rfl rfl ?_
    refine WP.q (i := 4) rfl (.r fun _ => rfl) rfl rfl rfl ?_
    obtain ⟨y3, hy3, h⟩ := Option.bind_eq_some_iff.1 h
    refine WP.q (i := 5) rfl (.sl (evscut ti9 rfl hy3 (bnd_int (cutL_some hy3).1.1) (bnd_int (Int.le_trans (cutL_some hy3).1.1 (cutL_some hy3).1.2.1)))) rfl rfl rfl ?_
    refine WP.q (i := 9) rfl (.mv (v := .str _) rfl) rfl rfl rfl ?_
    refine WP.q (i := 10) rfl (.mv (v := .int _ _) rfl) rfl rfl rfl ?_
    refine WP.q (i := 11) rfl (.r fun _ => rfl) rfl rfl rfl ?_
    refine WP.q (i := 12) rfl (.mv (v := .int _ _) rfl) rfl rfl rfl ?_
    refine WP.q (i := 13) rfl (.r fun _ => rfl) rfl rfl rfl ?_
    obtain ⟨y4, hy4, h⟩ := Option.bind_eq_some_iff.1 h
    refine WP.q (i := 14) rfl (.sl (evscut ti9 rfl hy4 (bnd_int (cutL_some hy4).1.1) (bnd_int (Int.le_trans (cutL_some hy4).1.1 (cutL_some hy4).1.2.1)))) rfl rfl rfl ?_
    obtain ⟨y5, hy5, h⟩ := Option.bind_eq_some_iff.1 h
    refine WP.cS (i := 6) rfl rfl rfl (le_Get_ok hy5) rfl rfl rfl ?_
    rintro _ rfl
    refine WP.q (i := 7) rfl (cvI ti119 ti3 rfl rfl) (isQc ti119 ti3 rfl) rfl rfl ?_
    refine WP.q (i := 8) rfl (.r fun _ => rfl) rfl rfl rfl ?_
    obtain ⟨y6, hy6, h⟩ := Option.bind_eq_some_iff.1 h
    refine WP.cS (i := 15) rfl rfl rfl (le_Get_ok hy6) rfl rfl rfl ?_
    rintro _ rfl
    refine WP.q (i := 16) rfl (cvI ti119 ti3 rfl rfl) (isQc ti119 ti3 rfl) rfl rfl ?_
    refine WP.q (i := 17) rfl (.bd (bd35_0_1 (cI rfl) (cI rfl))) rfl rfl rfl ?_
    refine WP.md (i := 18) rfl (MOp.bs (l := ([((wi64 ((wi64 y5) - 1)), (wi64 y6))] : List (Int × Int))) sl44 (RL.cons (Rp Ri Ri) RL.nil) (lb rfl) rfl rfl) rfl rfl rfl ?_
    rintro v9 _ ⟨b7, o8, rfl⟩
    obtain ⟨_, _, _, _, _, rfl⟩ := o8.isl
    refine ⟨fun e he _ => pk_in (jx := []) rfl e he, ?_⟩
    obtain ⟨y11, hy11, h⟩ := Option.bind_eq_some_iff.1 h
    refine WP.md (i := 19) rfl (MOp.app rfl rfl rfl sl44 h1 (Src.o (i := 0) sl44 o8 rfl) hy11 rfl rfl (fun _ => (.t .h))) rfl rfl rfl ?_
    rintro v15 _ ⟨b12, n13, o14, rfl⟩
    obtain ⟨_, _, _, _, _, rfl⟩ := o14.isl
    refine ⟨fun e he _ => pk_in (jx := []) rfl e he, ?_⟩
    refine WP.q (i := 20) rfl (.as (v := .sl _ _ _ _ _ _) rfl) rfl rfl rfl ?_
    refine WP.nil ?_
    refine WX.pop ?_
    refine WX.reg ?_
    refine WO.q (.mv (v := .int _ _) rfl) rfl rfl ?_
    refine WO.q (.r fun _ => rfl) rfl rfl ?_
    refine WO.q (.as (v := .int _ _) rfl) rfl rfl ?_
    refine WO.nil ?_
    refine WX.keepL [0, 4, 5] (WX.pk [1] (by decide) ?_) rfl
    obtain rfl := Option.some.inj h
    exact hn _ hE _ _ _ ⟨hB, _, _, n13, _, o14, rfl, rfl⟩
  · have q_k2 := of_decide_eq_false k2
    replace h := (if_neg q_k2).symm.trans h
    refine WX.condF rfl k2 ?_
    refine WX.exit rfl ?_
    refine WX.keep [0, 4] (WX.pk [0] (by decide) ?_) rfl
    obtain rfl := Option.some.inj h
    exact hx0 _ hE _ _ _ ⟨hB, _, _, n1, _, h1, rfl, rfl⟩
theorem ext_Parse_l0_ok {B0 : Kn} {L : Own} {n0 : Nat} {x0 : List UInt8} {x4 : List (Int × Int)} {x5 : Int} {Q : AV → St → Prop} {d : Nat} {e : (List (Int × Int))} (h : iter (fun (s : (List (Int × Int)) × Int) => ext_Parse_l0 x0 s.1 s.2) d (x4, x5) = some e) (g0 : ∀ s, e = s → WXI Try.prog 43 n0 (Fin Try.prog Try.f45.results.toList n0 Q) [.code (ct [1, 1, 1] (bodyOf Try.f45))] (ext_Parse_l0_X0 B0 x0 s) L) : WXI Try.prog 43 n0 (Fin Try.prog Try.f45.results.toList n0 Q) [.code (ct [1, 1, 0, 1, 0, 0] (bodyOf Try.f45)), .lp (ct [1, 1, 0, 1, 0, 0] (bodyOf Try.f45)), .blk 0, .code (ct [1, 1, 1] (bodyOf Try.f45))] (ext_Parse_l0_I B0 x0 x4 x5) L :=
  iter_ok (I := fun s => ext_Parse_l0_I B0 x0 s.1 s.2) (D := fun e => (∀ s, e = s → WXI Try.prog 43 n0 (Fin Try.prog Try.f45.results.toList n0 Q) [.code (ct [1, 1, 1] (bodyOf Try.f45))] (ext_Parse_l0_X0 B0 x0 s) L)) (fun E hn hx s o ho hE => ext_Parse_l0_s ho hn (fun s hs => (hx _ hs) _ rfl)  hE) h g0
theorem ext_Parse_j7_ok {B0 : Kn} {L : Own} {n0 : Nat} {x4 : List (Int × Int)} {x41 : Bool} {r : (List (Int × Int)) × Int} (h : ext_Parse_j7 x4 x41 = some r) : WXI Try.prog 43 n0 (Fin Try.prog Try.f45.results.toList n0 (ext_Parse_P B0 L r)) [.code (ct [1, 1, 1, 0, 1] (bodyOf Try.f45)), .code (ct [1, 1, 1, 1] (bodyOf Try.f45))] (ext_Parse_j7_I B0 x4 x41) L := by
  unfold ext_Parse_j7 at h
  rintro _ B _ ⟨hB, v20, b20, n20, c20, h20, rfl, rfl⟩
  obtain ⟨_, _, _, _, _, rfl⟩ := h20.isl
  rcases bsp x41 with k21 | k21
  · replace h := (if_pos k21).symm.trans h
    refine WX.condT rfl k21 ?_
    refine WX.seq ?_
    refine WX.reg ?_
    refine WO.q (.as (v := .sl _ _ _ _ _ _) rfl) rfl rfl ?_
    refine WO.q (.as (v := .int _ _) rfl) rfl rfl ?_
    refine WO.nil ?_
    obtain rfl := Option.some.inj h
    exact WX.ret (rs_ (rs_tmp rfl (rs_tmp rfl rs_nil))) fun st hp => ⟨_, _, hB, ((hp.pk [] (by decide)).skip 0), _, 0, true, [], rfl, rfl, OSl.none _ _⟩
  · replace h := (if_neg (bnt k21)).symm.trans h
    refine WX.condF rfl k21 ?_
    refine WX.skip ?_
    refine WX.seq ?_
    refine WX.reg ?_
    refine WO.q (.mv (v := .sl _ _ _ _ _ _) rfl) rfl rfl ?_
    refine WO.q (.as (v := .sl _ _ _ _ _ _) rfl) rfl rfl ?_
    refine WO.q (.as (v := .int _ _) rfl) rfl rfl ?_
    refine WO.nil ?_
    obtain rfl := Option.some.inj h
    exact WX.ret (rs_ (rs_tmp rfl (rs_tmp rfl rs_nil))) fun st hp => ⟨_, _, hB, (hp.pk [0] (by decide)), _, _, n20, _, rfl, rfl, h20⟩
theorem ext_Parse_ok {B0 : Kn} {L : Own} {a0 : List UInt8} {r : (List (Int × Int)) × Int} (h : ext_Parse a0 = some r) : ∀ st, Hp B0 L st → ASpec Try.prog 45 [.str a0] st (ext_Parse_P B0 L r) := by
  unfold ext_Parse at h
  refine bodyA (A := []) Try.func45 rfl (c := bodyOf Try.f45) rfl Try.ntmps45 (lb rfl) fun n0 => ?_
  have hB := KLe.refl B0
  refine WX.seq ?_
  refine WX.reg ?_
  refine WO.q (.as (v := .sl _ _ _ _ _ _) rfl) rfl rfl ?_
  refine WO.q (.as (v := .int _ _) rfl) rfl rfl ?_
  refine WO.nil ?_
  refine WX.seq ?_
  refine WX.reg ?_
  refine WO.q (.as (v := .sl _ _ _ _ _ _) rfl) rfl rfl ?_
  refine WO.nil ?_
  refine WX.seq ?_
  refine WX.seq ?_
  refine WX.reg ?_
  refine WO.q (.as (v := .int _ _) rfl) rfl rfl ?_
  refine WO.nil ?_
  refine WX.block ?_
  refine WX.loop ?_
  obtain ⟨e17, he17, h⟩ := Option.bind_eq_some_iff.1 h
  refine WX.keep [0, 4, 5] (WX.pk [] (by decide) (WX.addn [0] ?_)) rfl
  refine ext_Parse_l0_ok he17 ?_ _ _ _ ⟨hB, _, 0, true, [], OSl.none _ _, rfl, rfl⟩
  · intro s25 he_
    subst he_
    replace h := h
    rintro _ B _ ⟨hB, v18, b18, n18, c18, h18, rfl, rfl⟩
    obtain ⟨_, _, _, _, _, rfl⟩ := h18.isl
    refine WX.seq ?_
    refine WX.seq ?_
    refine WX.reg ?_
    refine WO.q (.mv (v := .str _) rfl) rfl rfl ?_
    refine WO.q (.len rfl rfl rfl (evslen ti9 rfl _)) rfl rfl ?_
    refine WO.q (.r fun _ => rfl) rfl rfl ?_
    refine WO.q (.r fun _ => rfl) rfl rfl ?_
    refine WO.q (.mv (v := .bool _) rfl) rfl rfl ?_
    rcases bsp (decide ((Int.tmod (a0.length : Int) 8) ≠ 0)) with k19 | k19
    · have q_k19 := of_decide_eq_true k19
      replace h := (if_pos q_k19).symm.trans h
      refine WO.sd (wg rfl rfl (gfn k19)) rfl ?_
      refine WO.sd (wg rfl rfl (gfn k19)) rfl ?_
      refine WO.sd (wg rfl rfl (gfn k19)) rfl ?_
      refine WO.q (.ptv (v := .bool _) rfl k19 rfl) rfl rfl ?_
      refine WO.nil ?_
      refine WX.keep [4, 41] (WX.pk [0] (by decide) ?_) rfl
      exact ext_Parse_j7_ok h _ _ _ ⟨hB, _, _, n18, _, h18, rfl, rfl⟩
    · have q_k19 := of_decide_eq_false k19
      replace h := (if_neg q_k19).symm.trans h
      refine WO.q (.mv (v := .sl _ _ _ _ _ _) rfl) (wg rfl rfl (gf k19)) rfl ?_
      obtain ⟨y22, hy22, h⟩ := Option.bind_eq_some_iff.1 h
      refine WO.cS rfl rfl (lendC (j := 0) h18 rfl fun _ K24 g23 => ext_List_Right_ok g23 hy22) rfl (wg rfl rfl (gf k19)) rfl ?_
      rintro _ rfl
      refine WO.q (.r fun _ => rfl) (wg rfl rfl (gf k19)) rfl ?_
      refine WO.q (.pfv (v := .bool _) rfl k19 rfl) rfl rfl ?_
      refine WO.nil ?_
      refine WX.keep [4, 41] (WX.pk [0] (by decide) ?_) rfl
      exact ext_Parse_j7_ok h _ _ _ ⟨hB, _, _, n18, _, h18, rfl, rfl⟩
def slices_Equal_ext_List_alloc_Extent_P (B : Kn) (L : Own) (r : Bool) : AV → St → Prop := CS B L fun v => v = .bool r
def slices_Equal_ext_List_alloc_Extent_l0_I (B0 : Kn) (x0 : List (Int × Int)) (x1 : List (Int × Int)) (x13 : Int) : Fr → Kn → Own → Prop := fun fr B A => KLe B0 B ∧ ∃ v2 v3, RSl EPIi64Ii64Q B v2 x0 ∧ RSl EPIi64Ii64Q B v3 x1 ∧ fr = [(0, v2), (1, v3), (12, .int .i64 (x0.length : Int)), (13, .int .i64 x13)] ∧ A = []
def slices_Equal_ext_List_alloc_Extent_l0_X0 (B0 : Kn) : Fr → Kn → Own → Prop := fun fr B A => KLe B0 B ∧ fr = [] ∧ A = []
theorem slices_Equal_ext_List_alloc_Extent_l0_s {B0 : Kn} {L : Own} {n0 : Nat} {x0 : List (Int × Int)} {x1 : List (Int × Int)} {x13 : Int} {Q : AV → St → Prop} {E : Int ⊕ (Bool ⊕ Unit) → Prop} {o : Int ⊕ (Bool ⊕ Unit)} (h : slices_Equal_ext_List_alloc_Extent_l0 x0 x1 x13 = some o) (hn : ∀ s, E (.inl s) → WXI Try.prog 26 n0 (Fin Try.prog Try.f83.results.toList n0 Q) [.lp (ct [1, 1, 0, 1, 0, 0] (bodyOf Try.f83)), .blk 0, .code (ct [1, 1, 1] (bodyOf Try.f83))] (slices_Equal_ext_List_alloc_Extent_l0_I B0 x0 x1 s) L) (hx0 : ∀ s, E (.inr (.inr s)) → WXI Try.prog 26 n0 (Fin Try.prog Try.f83.results.toList n0 Q) [.code (ct [1, 1, 1] (bodyOf Try.f83))] (slices_Equal_ext_List_alloc_Extent_l0_X0 B0) L) (hr : ∀ r, E (.inr (.inl r)) → ∀ v st, slices_Equal_ext_List_alloc_Extent_P B0 L r v st → Q v st) (hE : E o) : WXI Try.prog 26 n0 (Fin Try.prog Try.f83.results.toList n0 Q) [.code (ct [1, 1, 0, 1, 0, 0] (bodyOf Try.f83)), .lp (ct [1, 1, 0, 1, 0, 0] (bodyOf Try.f83)), .blk 0, .code (ct [1, 1, 1] (bodyOf Try.f83))] (slices_Equal_ext_List_alloc_Extent_l0_I B0 x0 x1 x13) L := by
  unfold slices_Equal_ext_List_alloc_Extent_l0 at h
  rintro _ B _ ⟨hB, v2, v3, h2, h3, rfl, rfl⟩
  obtain ⟨_, _, _, _, _, rfl⟩ := h2.isl
  obtain ⟨_, _, _, _, _, rfl⟩ := h3.isl
  refine WX.seq ?_
  refine WX.reg ?_
  refine WO.q (.r fun _ => rfl) rfl rfl ?_
  refine WO.nil ?_
  refine WX.seq ?_
  rcases bsp (decide (x13 < (x0.length : Int))) with k4 | k4
  · have q_k4 := of_decide_eq_true k4
    replace h := (if_pos q_k4).symm.trans h
    refine WX.condT rfl k4 ?_
    refine WX.skip ?_
    refine WX.seq ?_
    refine WX.block ?_
    refine WX.seq ?_
    refine WX.reg ?_
    refine WO.q (.mv (v := .int _ _) rfl) rfl rfl ?_
    refine WO.q (.as (v := .int _ _) rfl) rfl rfl ?_
    refine WO.nil ?_
    refine WX.seq ?_
    refine WX.drw (Plan.of [0, 1, 2, 3, 4, 5, 6, 7, 8] .nil) _ mixed (by kernel_rfl) rfl (pk_sub []) ?_
    refine WP.q (i := 0) rfl (.mv (v := .sl _ _ _ _ _ _) rfl) rfl rfl rfl ?_
    refine WP.q (i := 1) rfl (.mv (v := .int _ _) rfl) rfl rfl rfl ?_
    obtain ⟨y5, hy5, h⟩ := Option.bind_eq_some_iff.1 h
    obtain ⟨b_y5, o_y5, _, i_y5, p_y5, r_y5⟩ := h2.at sl44 hy5 .i64
    obtain ⟨_, _, rfl, rfl, rfl⟩ := r_y5
    refine WP.q (i := 2) rfl (.ia i_y5) rfl rfl rfl ?_
    refine WP.q (i := 3) rfl (.lpA rfl p_y5 ti35 rfl rfl) rfl rfl rfl ?_
    refine WP.q (i := 4) rfl (.mv (v := .sl _ _ _ _ _ _) rfl) rfl rfl rfl ?_
    refine WP.q (i := 5) rfl (.mv (v := .int _ _) rfl) rfl rfl rfl ?_
    obtain ⟨y6, hy6, h⟩ := Option.bind_eq_some_iff.1 h
    obtain ⟨b_y6, o_y6, _, i_y6, p_y6, r_y6⟩ := h3.at sl44 hy6 .i64
    obtain ⟨_, _, rfl, rfl, rfl⟩ := r_y6
    refine WP.q (i := 6) rfl (.ia i_y6) rfl rfl rfl ?_
    refine WP.q (i := 7) rfl (.lpA rfl p_y6 ti35 rfl rfl) rfl rfl rfl ?_
    refine WP.q (i := 8) rfl (.bin (neq35 _ _ _ _)) rfl rfl rfl ?_
    refine WP.nil ?_
    rcases bsp (decide (y5.1 = y6.1) && (decide (y5.2 = y6.2) && true)) with k7 | k7
    · replace h := (if_pos k7).symm.trans h
      refine WX.condF rfl (f_not k7) ?_
      refine WX.skip ?_
      refine WX.pop ?_
      refine WX.reg ?_
      refine WO.q (.r fun _ => rfl) rfl rfl ?_
      refine WO.q (.mv (v := .int _ _) rfl) rfl rfl ?_
      refine WO.nil ?_
      refine WX.keepL [0, 1, 12, 13] (WX.pk [] (by decide) ?_) rfl
      obtain rfl := Option.some.inj h
      exact hn _ hE _ _ _ ⟨hB, _, _, h2, h3, rfl, rfl⟩
    · replace h := (if_neg (bnt k7)).symm.trans h
      refine WX.condT rfl (t_not k7) ?_
      refine WX.seq ?_
      refine WX.reg ?_
      refine WO.q (.as (v := .bool _) rfl) rfl rfl ?_
      refine WO.nil ?_
      obtain rfl := Option.some.inj h
      exact WX.ret (rs_ (rs_tmp rfl rs_nil)) fun st hp => hr _ hE _ _ ⟨(hp.pk [] (by decide)).le hB, rfl⟩
  · have q_k4 := of_decide_eq_false k4
    replace h := (if_neg q_k4).symm.trans h
    refine WX.condF rfl k4 ?_
    refine WX.exit rfl ?_
    refine WX.keep [] (WX.pk [] (by decide) ?_) rfl
    obtain rfl := Option.some.inj h
    exact hx0 _ hE _ _ _ ⟨hB, rfl, rfl⟩
theorem slices_Equal_ext_List_alloc_Extent_l0_ok {B0 : Kn} {L : Own} {n0 : Nat} {x0 : List (Int × Int)} {x1 : List (Int × Int)} {x13 : Int} {Q : AV → St → Prop} {d : Nat} {e : Bool ⊕ Unit} (h : iter (fun (s : Int) => slices_Equal_ext_List_alloc_Extent_l0 x0 x1 s) d x13 = some e) (g0 : ∀ r, e = (.inl r) → ∀ v st, slices_Equal_ext_List_alloc_Extent_P B0 L r v st → Q v st) (g1 : ∀ s, e = (.inr s) → WXI Try.prog 26 n0 (Fin Try.prog Try.f83.results.toList n0 Q) [.code (ct [1, 1, 1] (bodyOf Try.f83))] (slices_Equal_ext_List_alloc_Extent_l0_X0 B0) L) : WXI Try.prog 26 n0 (Fin Try.prog Try.f83.results.toList n0 Q) [.code (ct [1, 1, 0, 1, 0, 0] (bodyOf Try.f83)), .lp (ct [1, 1, 0, 1, 0, 0] (bodyOf Try.f83)), .blk 0, .code (ct [1, 1, 1] (bodyOf Try.f83))] (slices_Equal_ext_List_alloc_Extent_l0_I B0 x0 x1 x13) L :=
  iter_ok (I := fun s => slices_Equal_ext_List_alloc_Extent_l0_I B0 x0 x1 s) (D := fun e => (∀ r, e = (.inl r) → ∀ v st, slices_Equal_ext_List_alloc_Extent_P B0 L r v st → Q v st) ∧ (∀ s, e = (.inr s) → WXI Try.prog 26 n0 (Fin Try.prog Try.f83.results.toList n0 Q) [.code (ct [1, 1, 1] (bodyOf Try.f83))] (slices_Equal_ext_List_alloc_Extent_l0_X0 B0) L)) (fun E hn hx s o ho hE => slices_Equal_ext_List_alloc_Extent_l0_s ho hn (fun s hs => (hx _ hs).2 _ rfl) (fun r hs => (hx _ hs).1 _ rfl) hE) h ⟨g0, g1⟩
theorem slices_Equal_ext_List_alloc_Extent_ok {B0 : Kn} {L : Own} {a0 : List (Int × Int)} {a1 : List (Int × Int)} {v0_0 : AV} {v1_0 : AV} {r : Bool} (g0_0 : RSl EPIi64Ii64Q B0 v0_0 a0) (g1_0 : RSl EPIi64Ii64Q B0 v1_0 a1) (h : slices_Equal_ext_List_alloc_Extent a0 a1 = some r) : ∀ st, Hp B0 L st → ASpec Try.prog 83 [v0_0, v1_0] st (slices_Equal_ext_List_alloc_Extent_P B0 L r) := by
  unfold slices_Equal_ext_List_alloc_Extent at h
  refine bodyA (A := []) Try.func83 rfl (c := bodyOf Try.f83) rfl Try.ntmps83 (lb rfl) fun n0 => ?_
  have hB := KLe.refl B0
  obtain ⟨_, _, _, _, _, rfl⟩ := g0_0.isl
  obtain ⟨_, _, _, _, _, rfl⟩ := g1_0.isl
  refine WX.seq ?_
  refine WX.reg ?_
  refine WO.q (.as (v := .bool _) rfl) rfl rfl ?_
  refine WO.nil ?_
  refine WX.seq ?_
  refine WX.seq ?_
  refine WX.reg ?_
  refine WO.q (.mv (v := .sl _ _ _ _ _ _) rfl) rfl rfl ?_
  refine WO.q (.len rfl rfl rfl (sl44.len g0_0.isl)) rfl rfl ?_
  refine WO.q (.mv (v := .sl _ _ _ _ _ _) rfl) rfl rfl ?_
  refine WO.q (.len rfl rfl rfl (sl44.len g1_0.isl)) rfl rfl ?_
  refine WO.q (.r fun _ => rfl) rfl rfl ?_
  refine WO.nil ?_
  rcases bsp (decide ((a0.length : Int) ≠ (a1.length : Int))) with k1 | k1
  · have q_k1 := of_decide_eq_true k1
    replace h := (if_pos q_k1).symm.trans h
    refine WX.condT rfl k1 ?_
    refine WX.seq ?_
    refine WX.reg ?_
    refine WO.q (.as (v := .bool _) rfl) rfl rfl ?_
    refine WO.nil ?_
    obtain rfl := Option.some.inj h
    exact WX.ret (rs_ (rs_tmp rfl rs_nil)) fun st hp => ⟨(hp.pk [] (by decide)).le hB, rfl⟩
  · have q_k1 := of_decide_eq_false k1
    replace h := (if_neg q_k1).symm.trans h
    refine WX.condF rfl k1 ?_
    refine WX.skip ?_
    refine WX.seq ?_
    refine WX.seq ?_
    refine WX.reg ?_
    refine WO.q (.mv (v := .sl _ _ _ _ _ _) rfl) rfl rfl ?_
    refine WO.q (.len rfl rfl rfl (sl44.len g0_0.isl)) rfl rfl ?_
    refine WO.q (.mv (v := .int _ _) rfl) rfl rfl ?_
    refine WO.nil ?_
    refine WX.block ?_
    refine WX.loop ?_
    obtain ⟨e8, he8, h⟩ := Option.bind_eq_some_iff.1 h
    refine WX.keep [0, 1, 12, 13] (WX.pk [] (by decide) ?_) rfl
    refine slices_Equal_ext_List_alloc_Extent_l0_ok he8 ?_ ?_ _ _ _ ⟨hB, _, _, g0_0, g1_0, rfl, rfl⟩
    · intro r10 he_
      subst he_
      replace h := (on_l h)
      obtain rfl := Option.some.inj h
      exact fun v st hp => hp
    · intro x11 he_
      subst he_
      replace h := (on_r h)
      rintro _ B _ ⟨hB, rfl, rfl⟩
      refine WX.seq ?_
      refine WX.reg ?_
      refine WO.q (.as (v := .bool _) rfl) rfl rfl ?_
      refine WO.nil ?_
      obtain rfl := Option.some.inj h
      exact WX.ret (rs_ (rs_tmp rfl rs_nil)) fun st hp => ⟨(hp.pk [] (by decide)).le hB, rfl⟩
end Gab
