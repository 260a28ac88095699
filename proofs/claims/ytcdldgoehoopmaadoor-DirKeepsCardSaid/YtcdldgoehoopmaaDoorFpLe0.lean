/- The Go code comes to what the Lean functions say. Written by a program (gp.py). -/
import Derived.Test.YtcdldgoehoopmaaDoorFd
import Derived.Test.YtcdldgoehoopmaaDoorTy
set_option linter.unusedSimpArgs false
set_option linter.unusedVariables false
set_option maxHeartbeats 4000000
set_option maxRecDepth 100000
namespace Gab
open Go Go.Proofs
def le_Put_P (B : Kn) (L : Own) (r : (List UInt8)) : AV → St → Prop := CS B L fun v => v = .str r
def le_Put_l0_I (B0 : Kn) (x8 : Int) (x0 : Int) (x5 : List Int) (x9 : Int) : Fr → Kn → Own → Prop := fun fr B A => KLe B0 B ∧ ∃ v1 b1 n1 c1, OSl (Ty.int .u8) B v1 b1 n1 c1 x5 ∧ fr = [(0, .int .u64 x0), (5, v1), (8, .int .i64 x8), (9, .int .i64 x9)] ∧ A = [oe b1 n1 c1]
def le_Put_l0_X0 (B0 : Kn) (x5 : List Int) : Fr → Kn → Own → Prop := fun fr B A => KLe B0 B ∧ ∃ v16 b16 n16 c16, OSl (Ty.int .u8) B v16 b16 n16 c16 x5 ∧ fr = [(5, v16)] ∧ A = [oe b16 n16 c16]
theorem le_Put_l0_s {B0 : Kn} {L : Own} {n0 : Nat} {x8 : Int} {x0 : Int} {x5 : List Int} {x9 : Int} {Q : AV → St → Prop} {E : (Int × (List Int) × Int) ⊕ (List Int) → Prop} {o : (Int × (List Int) × Int) ⊕ (List Int)} (h : le_Put_l0 x8 x0 x5 x9 = some o) (hn : ∀ s, E (.inl s) → WXI Tryd.prog 21 n0 (Fin Tryd.prog Tryd.f37.results.toList n0 Q) [.lp (ct [1, 1, 0, 1, 0, 0] (bodyOf Tryd.f37)), .blk 0, .code (ct [1, 1, 1] (bodyOf Tryd.f37))] (le_Put_l0_I B0 x8 s.1 s.2.1 s.2.2) L) (hx0 : ∀ s, E (.inr s) → WXI Tryd.prog 21 n0 (Fin Tryd.prog Tryd.f37.results.toList n0 Q) [.code (ct [1, 1, 1] (bodyOf Tryd.f37))] (le_Put_l0_X0 B0 s) L) (hE : E o) : WXI Tryd.prog 21 n0 (Fin Tryd.prog Tryd.f37.results.toList n0 Q) [.code (ct [1, 1, 0, 1, 0, 0] (bodyOf Tryd.f37)), .lp (ct [1, 1, 0, 1, 0, 0] (bodyOf Tryd.f37)), .blk 0, .code (ct [1, 1, 1] (bodyOf Tryd.f37))] (le_Put_l0_I B0 x8 x0 x5 x9) L := by
  unfold le_Put_l0 at h
  rintro _ B _ ⟨hB, v1, b1, n1, c1, h1, rfl, rfl⟩
  obtain ⟨_, _, _, _, _, rfl⟩ := h1.isl
  refine WX.seq ?_
  refine WX.reg ?_
  refine WO.q (.r fun _ => rfl) rfl rfl ?_
  refine WO.nil ?_
  refine WX.seq ?_
  rcases bsp (decide (x9 < x8)) with k2 | k2
  · have q_k2 := of_decide_eq_true k2
    replace h := (if_pos q_k2).symm.trans h
    refine WX.condT rfl k2 ?_
    refine WX.skip ?_
    refine WX.seq ?_
    refine WX.block ?_
    refine WX.seq ?_
    refine WX.reg ?_
    refine WO.q (.mv (v := .sl _ _ _ _ _ _) rfl) rfl rfl ?_
    refine WO.q (.mv (v := .int _ _) rfl) rfl rfl ?_
    refine WO.q (cvI ti76 ti5 rfl rfl) rfl rfl ?_
    refine WO.md (MOp.bs (l := ([(wu8 x0)] : List Int)) sl85 (RL.cons Ri RL.nil) (lb rfl) rfl rfl) rfl rfl ?_
    rintro v5 _ ⟨b3, o4, rfl⟩
    obtain ⟨_, _, _, _, _, rfl⟩ := o4.isl
    obtain ⟨y7, hy7, h⟩ := Option.bind_eq_some_iff.1 h
    refine WO.md (MOp.app rfl rfl rfl sl85 h1 (Src.o (i := 0) sl85 o4 rfl) hy7 rfl rfl (fun _ => (.t .h))) rfl rfl ?_
    rintro v11 _ ⟨b8, n9, o10, rfl⟩
    obtain ⟨_, _, _, _, _, rfl⟩ := o10.isl
    refine WO.q (.as (v := .sl _ _ _ _ _ _) rfl) rfl rfl ?_
    refine WO.nil ?_
    refine WX.reg ?_
    refine WO.q (.mv (v := .int _ _) rfl) rfl rfl ?_
    refine WO.q (.r fun _ => rfl) rfl rfl ?_
    refine WO.q (.as (v := .int _ _) rfl) rfl rfl ?_
    refine WO.nil ?_
    refine WX.pop ?_
    refine WX.reg ?_
    refine WO.q (.r fun _ => rfl) rfl rfl ?_
    refine WO.q (.mv (v := .int _ _) rfl) rfl rfl ?_
    refine WO.nil ?_
    refine WX.keepL [0, 5, 8, 9] (WX.pk [1] (by decide) ?_) rfl
    obtain rfl := Option.some.inj h
    exact hn _ hE _ _ _ ⟨hB, _, _, n9, _, o10, rfl, rfl⟩
  · have q_k2 := of_decide_eq_false k2
    replace h := (if_neg q_k2).symm.trans h
    refine WX.condF rfl k2 ?_
    refine WX.exit rfl ?_
    refine WX.keep [5] (WX.pk [0] (by decide) ?_) rfl
    obtain rfl := Option.some.inj h
    exact hx0 _ hE _ _ _ ⟨hB, _, _, n1, _, h1, rfl, rfl⟩
theorem le_Put_l0_ok {B0 : Kn} {L : Own} {n0 : Nat} {x8 : Int} {x0 : Int} {x5 : List Int} {x9 : Int} {Q : AV → St → Prop} {d : Nat} {e : (List Int)} (h : iter (fun (s : Int × (List Int) × Int) => le_Put_l0 x8 s.1 s.2.1 s.2.2) d (x0, x5, x9) = some e) (g0 : ∀ s, e = s → WXI Tryd.prog 21 n0 (Fin Tryd.prog Tryd.f37.results.toList n0 Q) [.code (ct [1, 1, 1] (bodyOf Tryd.f37))] (le_Put_l0_X0 B0 s) L) : WXI Tryd.prog 21 n0 (Fin Tryd.prog Tryd.f37.results.toList n0 Q) [.code (ct [1, 1, 0, 1, 0, 0] (bodyOf Tryd.f37)), .lp (ct [1, 1, 0, 1, 0, 0] (bodyOf Tryd.f37)), .blk 0, .code (ct [1, 1, 1] (bodyOf Tryd.f37))] (le_Put_l0_I B0 x8 x0 x5 x9) L :=
  iter_ok (I := fun s => le_Put_l0_I B0 x8 s.1 s.2.1 s.2.2) (D := fun e => (∀ s, e = s → WXI Tryd.prog 21 n0 (Fin Tryd.prog Tryd.f37.results.toList n0 Q) [.code (ct [1, 1, 1] (bodyOf Tryd.f37))] (le_Put_l0_X0 B0 s) L)) (fun E hn hx s o ho hE => le_Put_l0_s (x0 := s.1) (x5 := s.2.1) (x9 := s.2.2) ho hn (fun s hs => (hx _ hs) _ rfl)  hE) h g0
theorem le_Put_ok {B0 : Kn} {L : Own} {a0 : Int} {a1 : Int} {r : (List UInt8)} (h : le_Put a0 a1 = some r) : ∀ st, Hp B0 L st → ASpec Tryd.prog 37 [.int .u64 a0, .int .i64 a1] st (le_Put_P B0 L r) := by
  unfold le_Put at h
  refine bodyA (A := []) Tryd.func37 rfl (c := bodyOf Tryd.f37) rfl Tryd.ntmps37 (lb rfl) fun n0 => ?_
  have hB := KLe.refl B0
  refine WX.seq ?_
  refine WX.reg ?_
  refine WO.q (.as (v := .str _) rfl) rfl rfl ?_
  refine WO.nil ?_
  refine WX.seq ?_
  refine WX.reg ?_
  refine WO.q (.as (v := .sl _ _ _ _ _ _) rfl) rfl rfl ?_
  refine WO.nil ?_
  refine WX.seq ?_
  refine WX.seq ?_
  refine WX.reg ?_
  refine WO.q (.mv (v := .int _ _) rfl) rfl rfl ?_
  refine WO.q (.r fun _ => rfl) rfl rfl ?_
  refine WO.q (.r fun _ => rfl) rfl rfl ?_
  refine WO.q (.mv (v := .int _ _) rfl) rfl rfl ?_
  refine WO.nil ?_
  refine WX.block ?_
  refine WX.loop ?_
  obtain ⟨e13, he13, h⟩ := Option.bind_eq_some_iff.1 h
  refine WX.keep [0, 5, 8, 9] (WX.pk [] (by decide) (WX.addn [0] ?_)) rfl
  refine le_Put_l0_ok he13 ?_ _ _ _ ⟨hB, _, 0, true, [], OSl.none _ _, rfl, rfl⟩
  · intro s15 he_
    subst he_
    replace h := h
    rintro _ B _ ⟨hB, v14, b14, n14, c14, h14, rfl, rfl⟩
    obtain ⟨_, _, _, _, _, rfl⟩ := h14.isl
    refine WX.seq ?_
    refine WX.reg ?_
    refine WO.q (.mv (v := .sl _ _ _ _ _ _) rfl) rfl rfl ?_
    refine WO.q (cvBo (j := 0) ⟨_, _, _, ti85, rfl, ti5, rfl⟩ ti9 rfl h14 rfl rfl) rfl rfl ?_
    refine WO.q (.as (v := .str _) rfl) rfl rfl ?_
    refine WO.nil ?_
    obtain rfl := Option.some.inj h
    exact WX.ret (rs_ (rs_tmp rfl rs_nil)) fun st hp => ⟨(hp.pk [] (by decide)).le hB, rfl⟩
def le_Get_P (B : Kn) (L : Own) (r : Int) : AV → St → Prop := CS B L fun v => v = .int .u64 r
def le_Get_l0_I (B0 : Kn) (x0 : List UInt8) (x3 : Int) (x4 : Int) : Fr → Kn → Own → Prop := fun fr B A => KLe B0 B ∧ fr = [(0, .str x0), (3, .int .u64 x3), (4, .int .i64 x4)] ∧ A = []
def le_Get_l0_X0 (B0 : Kn) (x3 : Int) : Fr → Kn → Own → Prop := fun fr B A => KLe B0 B ∧ fr = [(3, .int .u64 x3)] ∧ A = []
theorem le_Get_l0_s {B0 : Kn} {L : Own} {n0 : Nat} {x0 : List UInt8} {x3 : Int} {x4 : Int} {Q : AV → St → Prop} {E : (Int × Int) ⊕ Int → Prop} {o : (Int × Int) ⊕ Int} (h : le_Get_l0 x0 x3 x4 = some o) (hn : ∀ s, E (.inl s) → WXI Tryd.prog 21 n0 (Fin Tryd.prog Tryd.f39.results.toList n0 Q) [.lp (ct [1, 1, 0, 1, 0, 0] (bodyOf Tryd.f39)), .blk 0, .code (ct [1, 1, 1] (bodyOf Tryd.f39))] (le_Get_l0_I B0 x0 s.1 s.2) L) (hx0 : ∀ s, E (.inr s) → WXI Tryd.prog 21 n0 (Fin Tryd.prog Tryd.f39.results.toList n0 Q) [.code (ct [1, 1, 1] (bodyOf Tryd.f39))] (le_Get_l0_X0 B0 s) L) (hE : E o) : WXI Tryd.prog 21 n0 (Fin Tryd.prog Tryd.f39.results.toList n0 Q) [.code (ct [1, 1, 0, 1, 0, 0] (bodyOf Tryd.f39)), .lp (ct [1, 1, 0, 1, 0, 0] (bodyOf Tryd.f39)), .blk 0, .code (ct [1, 1, 1] (bodyOf Tryd.f39))] (le_Get_l0_I B0 x0 x3 x4) L := by
  unfold le_Get_l0 at h
  rintro _ B _ ⟨hB, rfl, rfl⟩
  refine WX.seq ?_
  refine WX.seq ?_
  refine WX.reg ?_
  refine WO.q (.mv (v := .int _ _) rfl) rfl rfl ?_
  refine WO.q (.r fun _ => rfl) rfl rfl ?_
  refine WO.nil ?_
  rcases bsp (decide (0 ≤ x4)) with k1 | k1
  · have q_k1 := of_decide_eq_true k1
    replace h := (if_pos q_k1).symm.trans h
    refine WX.condT rfl k1 ?_
    refine WX.skip ?_
    refine WX.seq ?_
    refine WX.block ?_
    refine WX.reg ?_
    refine WO.q (.mv (v := .int _ _) rfl) rfl rfl ?_
    refine WO.q (.r fun _ => rfl) rfl rfl ?_
    refine WO.q (.mv (v := .str _) rfl) rfl rfl ?_
    refine WO.q (.mv (v := .int _ _) rfl) rfl rfl ?_
    obtain ⟨y2, hy2, h⟩ := Option.bind_eq_some_iff.1 h
    refine WO.q (.ix (evsix ti9 rfl hy2 _)) rfl rfl ?_
    refine WO.q (cvI ti5 ti76 rfl rfl) rfl rfl ?_
    refine WO.q (.r fun _ => rfl) rfl rfl ?_
    refine WO.q (.as (v := .int _ _) rfl) rfl rfl ?_
    refine WO.nil ?_
    refine WX.pop ?_
    refine WX.reg ?_
    refine WO.q (.mv (v := .int _ _) rfl) rfl rfl ?_
    refine WO.q (.r fun _ => rfl) rfl rfl ?_
    refine WO.q (.as (v := .int _ _) rfl) rfl rfl ?_
    refine WO.nil ?_
    refine WX.keepL [0, 3, 4] (WX.pk [] (by decide) ?_) rfl
    obtain rfl := Option.some.inj h
    exact hn _ hE _ _ _ ⟨hB, rfl, rfl⟩
  · have q_k1 := of_decide_eq_false k1
    replace h := (if_neg q_k1).symm.trans h
    refine WX.condF rfl k1 ?_
    refine WX.exit rfl ?_
    refine WX.keep [3] (WX.pk [] (by decide) ?_) rfl
    obtain rfl := Option.some.inj h
    exact hx0 _ hE _ _ _ ⟨hB, rfl, rfl⟩
theorem le_Get_l0_ok {B0 : Kn} {L : Own} {n0 : Nat} {x0 : List UInt8} {x3 : Int} {x4 : Int} {Q : AV → St → Prop} {d : Nat} {e : Int} (h : iter (fun (s : Int × Int) => le_Get_l0 x0 s.1 s.2) d (x3, x4) = some e) (g0 : ∀ s, e = s → WXI Tryd.prog 21 n0 (Fin Tryd.prog Tryd.f39.results.toList n0 Q) [.code (ct [1, 1, 1] (bodyOf Tryd.f39))] (le_Get_l0_X0 B0 s) L) : WXI Tryd.prog 21 n0 (Fin Tryd.prog Tryd.f39.results.toList n0 Q) [.code (ct [1, 1, 0, 1, 0, 0] (bodyOf Tryd.f39)), .lp (ct [1, 1, 0, 1, 0, 0] (bodyOf Tryd.f39)), .blk 0, .code (ct [1, 1, 1] (bodyOf Tryd.f39))] (le_Get_l0_I B0 x0 x3 x4) L :=
  iter_ok (I := fun s => le_Get_l0_I B0 x0 s.1 s.2) (D := fun e => (∀ s, e = s → WXI Tryd.prog 21 n0 (Fin Tryd.prog Tryd.f39.results.toList n0 Q) [.code (ct [1, 1, 1] (bodyOf Tryd.f39))] (le_Get_l0_X0 B0 s) L)) (fun E hn hx s o ho hE => le_Get_l0_s (x3 := s.1) (x4 := s.2) ho hn (fun s hs => (hx _ hs) _ rfl)  hE) h g0
theorem le_Get_ok {B0 : Kn} {L : Own} {a0 : List UInt8} {r : Int} (h : le_Get a0 = some r) : ∀ st, Hp B0 L st → ASpec Tryd.prog 39 [.str a0] st (le_Get_P B0 L r) := by
  unfold le_Get at h
  refine bodyA (A := []) Tryd.func39 rfl (c := bodyOf Tryd.f39) rfl Tryd.ntmps39 (lb rfl) fun n0 => ?_
  have hB := KLe.refl B0
  refine WX.seq ?_
  refine WX.reg ?_
  refine WO.q (.as (v := .int _ _) rfl) rfl rfl ?_
  refine WO.nil ?_
  refine WX.seq ?_
  refine WX.reg ?_
  refine WO.q (.as (v := .int _ _) rfl) rfl rfl ?_
  refine WO.nil ?_
  refine WX.seq ?_
  refine WX.seq ?_
  refine WX.reg ?_
  refine WO.q (.mv (v := .str _) rfl) rfl rfl ?_
  refine WO.q (.len rfl rfl rfl (evslen ti9 rfl _)) rfl rfl ?_
  refine WO.q (.r fun _ => rfl) rfl rfl ?_
  refine WO.q (.r fun _ => rfl) rfl rfl ?_
  refine WO.q (.as (v := .int _ _) rfl) rfl rfl ?_
  refine WO.nil ?_
  refine WX.block ?_
  refine WX.loop ?_
  obtain ⟨e3, he3, h⟩ := Option.bind_eq_some_iff.1 h
  refine WX.keep [0, 3, 4] (WX.pk [] (by decide) ?_) rfl
  refine le_Get_l0_ok he3 ?_ _ _ _ ⟨hB, rfl, rfl⟩
  · intro s4 he_
    subst he_
    replace h := h
    rintro _ B _ ⟨hB, rfl, rfl⟩
    refine WX.seq ?_
    refine WX.reg ?_
    refine WO.q (.mv (v := .int _ _) rfl) rfl rfl ?_
    refine WO.q (.as (v := .int _ _) rfl) rfl rfl ?_
    refine WO.nil ?_
    obtain rfl := Option.some.inj h
    exact WX.ret (rs_ (rs_tmp rfl rs_nil)) fun st hp => ⟨(hp.pk [] (by decide)).le hB, rfl⟩
end Gab
