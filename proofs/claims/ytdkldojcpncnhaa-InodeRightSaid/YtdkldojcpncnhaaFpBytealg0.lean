/- The Go code comes to what the Lean functions say. Written by a program (gp.py). -/
import Derived.Test.YtdkldojcpncnhaaFd
import Derived.Test.YtdkldojcpncnhaaTy
set_option linter.unusedSimpArgs false
set_option linter.unusedVariables false
set_option maxHeartbeats 4000000
set_option maxRecDepth 100000
namespace Gab
open Go Go.Proofs
def bytealg_Cutover_P (B : Kn) (L : Own) (r : Int) : AV → St → Prop := CS B L fun v => v = .int .i64 r
theorem bytealg_Cutover_ok {B0 : Kn} {L : Own} {a0 : Int} {r : Int} (h : bytealg_Cutover a0 = some r) : ∀ st, Hp B0 L st → ASpec Try.prog 94 [.int .i64 a0] st (bytealg_Cutover_P B0 L r) := by
  unfold bytealg_Cutover at h
  refine bodyA (A := []) Try.func94 rfl (c := bodyOf Try.f94) rfl Try.ntmps94 (lb rfl) fun n0 => ?_
  have hB := KLe.refl B0
  refine WX.seq ?_
  refine WX.reg ?_
  refine WO.q (.as (v := .int _ _) rfl) rfl rfl ?_
  refine WO.nil ?_
  refine WX.seq ?_
  refine WX.reg ?_
  refine WO.q (.mv (v := .int _ _) rfl) rfl rfl ?_
  refine WO.q (.r fun _ => rfl) rfl rfl ?_
  refine WO.q (.r fun _ => rfl) rfl rfl ?_
  refine WO.q (.as (v := .int _ _) rfl) rfl rfl ?_
  refine WO.nil ?_
  obtain rfl := Option.some.inj h
  exact WX.ret (rs_ (rs_tmp rfl rs_nil)) fun st hp => ⟨(hp.pk [] (by decide)).le hB, rfl⟩
def bytealg_hashStr_string_P (B : Kn) (L : Own) (r : Int × Int) : AV → St → Prop := CS B L fun v => v = .tup [.int .u32 r.1, .int .u32 r.2]
def bytealg_hashStr_string_l0_I (B0 : Kn) (x0 : List UInt8) (x4 : Int) (x5 : Int) : Fr → Kn → Own → Prop := fun fr B A => KLe B0 B ∧ fr = [(0, .str x0), (4, .int .u32 x4), (5, .int .i64 x5)] ∧ A = []
def bytealg_hashStr_string_l0_X0 (B0 : Kn) (x0 : List UInt8) (x4 : Int) : Fr → Kn → Own → Prop := fun fr B A => KLe B0 B ∧ fr = [(0, .str x0), (4, .int .u32 x4)] ∧ A = []
def bytealg_hashStr_string_j12_I (B0 : Kn) (x4 : Int) (x6 : Int) (x7 : Int) (x8 : Int) : Fr → Kn → Own → Prop := fun fr B A => KLe B0 B ∧ fr = [(4, .int .u32 x4), (6, .int .u32 x6), (7, .int .u32 x7), (8, .int .i64 x8)] ∧ A = []
def bytealg_hashStr_string_l1_I (B0 : Kn) (x4 : Int) (x6 : Int) (x7 : Int) (x8 : Int) : Fr → Kn → Own → Prop := fun fr B A => KLe B0 B ∧ fr = [(4, .int .u32 x4), (6, .int .u32 x6), (7, .int .u32 x7), (8, .int .i64 x8)] ∧ A = []
def bytealg_hashStr_string_l1_X0 (B0 : Kn) (x4 : Int) (x6 : Int) : Fr → Kn → Own → Prop := fun fr B A => KLe B0 B ∧ fr = [(4, .int .u32 x4), (6, .int .u32 x6)] ∧ A = []
theorem bytealg_hashStr_string_l0_s {B0 : Kn} {L : Own} {n0 : Nat} {x0 : List UInt8} {x4 : Int} {x5 : Int} {Q : AV → St → Prop} {E : (Int × Int) ⊕ Int → Prop} {o : (Int × Int) ⊕ Int} (h : bytealg_hashStr_string_l0 x0 x4 x5 = some o) (hn : ∀ s, E (.inl s) → WXI Try.prog 39 n0 (Fin Try.prog Try.f97.results.toList n0 Q) [.lp (ct [1, 1, 0, 1, 0, 0] (bodyOf Try.f97)), .blk 0, .code (ct [1, 1, 1] (bodyOf Try.f97))] (bytealg_hashStr_string_l0_I B0 x0 s.1 s.2) L) (hx0 : ∀ s, E (.inr s) → WXI Try.prog 39 n0 (Fin Try.prog Try.f97.results.toList n0 Q) [.code (ct [1, 1, 1] (bodyOf Try.f97))] (bytealg_hashStr_string_l0_X0 B0 x0 s) L) (hE : E o) : WXI Try.prog 39 n0 (Fin Try.prog Try.f97.results.toList n0 Q) [.code (ct [1, 1, 0, 1, 0, 0] (bodyOf Try.f97)), .lp (ct [1, 1, 0, 1, 0, 0] (bodyOf Try.f97)), .blk 0, .code (ct [1, 1, 1] (bodyOf Try.f97))] (bytealg_hashStr_string_l0_I B0 x0 x4 x5) L := by
  unfold bytealg_hashStr_string_l0 at h
  rintro _ B _ ⟨hB, rfl, rfl⟩
  refine WX.seq ?_
  refine WX.seq ?_
  refine WX.reg ?_
  refine WO.q (.mv (v := .int _ _) rfl) rfl rfl ?_
  refine WO.q (.mv (v := .str _) rfl) rfl rfl ?_
  refine WO.q (.len rfl rfl rfl (evslen ti9 rfl _)) rfl rfl ?_
  refine WO.q (.r fun _ => rfl) rfl rfl ?_
  refine WO.nil ?_
  rcases bsp (decide (x5 < (x0.length : Int))) with k1 | k1
  · have q_k1 := of_decide_eq_true k1
    replace h := (if_pos q_k1).symm.trans h
    refine WX.condT rfl k1 ?_
    refine WX.skip ?_
    refine WX.seq ?_
    refine WX.block ?_
    refine WX.reg ?_
    refine WO.q (.mv (v := .int _ _) rfl) rfl rfl ?_
    refine WO.q (.r fun _ => rfl) rfl rfl ?_
    refine WO.q (.mv (v := .str _) rfl) rfl rfl ?_
    refine WO.q (.mv (v := .int _ _) rfl) rfl rfl ?_
    obtain ⟨y2, hy2, h⟩ := Option.bind_eq_some_iff.1 h
    refine WO.q (.ix (evsix ti9 rfl hy2 _)) rfl rfl ?_
    refine WO.q (cvI ti5 ti99 rfl rfl) rfl rfl ?_
    refine WO.q (.r fun _ => rfl) rfl rfl ?_
    refine WO.q (.as (v := .int _ _) rfl) rfl rfl ?_
    refine WO.nil ?_
    refine WX.pop ?_
    refine WX.reg ?_
    refine WO.q (.mv (v := .int _ _) rfl) rfl rfl ?_
    refine WO.q (.r fun _ => rfl) rfl rfl ?_
    refine WO.q (.as (v := .int _ _) rfl) rfl rfl ?_
    refine WO.nil ?_
    refine WX.keepL [0, 4, 5] (WX.pk [] (by decide) ?_) rfl
    obtain rfl := Option.some.inj h
    exact hn _ hE _ _ _ ⟨hB, rfl, rfl⟩
  · have q_k1 := of_decide_eq_false k1
    replace h := (if_neg q_k1).symm.trans h
    refine WX.condF rfl k1 ?_
    refine WX.exit rfl ?_
    refine WX.keep [0, 4] (WX.pk [] (by decide) ?_) rfl
    obtain rfl := Option.some.inj h
    exact hx0 _ hE _ _ _ ⟨hB, rfl, rfl⟩
theorem bytealg_hashStr_string_l0_ok {B0 : Kn} {L : Own} {n0 : Nat} {x0 : List UInt8} {x4 : Int} {x5 : Int} {Q : AV → St → Prop} {d : Nat} {e : Int} (h : iter (fun (s : Int × Int) => bytealg_hashStr_string_l0 x0 s.1 s.2) d (x4, x5) = some e) (g0 : ∀ s, e = s → WXI Try.prog 39 n0 (Fin Try.prog Try.f97.results.toList n0 Q) [.code (ct [1, 1, 1] (bodyOf Try.f97))] (bytealg_hashStr_string_l0_X0 B0 x0 s) L) : WXI Try.prog 39 n0 (Fin Try.prog Try.f97.results.toList n0 Q) [.code (ct [1, 1, 0, 1, 0, 0] (bodyOf Try.f97)), .lp (ct [1, 1, 0, 1, 0, 0] (bodyOf Try.f97)), .blk 0, .code (ct [1, 1, 1] (bodyOf Try.f97))] (bytealg_hashStr_string_l0_I B0 x0 x4 x5) L :=
  iter_ok (I := fun s => bytealg_hashStr_string_l0_I B0 x0 s.1 s.2) (D := fun e => (∀ s, e = s → WXI Try.prog 39 n0 (Fin Try.prog Try.f97.results.toList n0 Q) [.code (ct [1, 1, 1] (bodyOf Try.f97))] (bytealg_hashStr_string_l0_X0 B0 x0 s) L)) (fun E hn hx s o ho hE => bytealg_hashStr_string_l0_s ho hn (fun s hs => (hx _ hs) _ rfl)  hE) h g0
theorem bytealg_hashStr_string_j12_ok {B0 : Kn} {L : Own} {n0 : Nat} {x4 : Int} {x6 : Int} {x7 : Int} {x8 : Int} {Q : AV → St → Prop} {E : (Int × Int × Int × Int) ⊕ (Int × Int) → Prop} {o : (Int × Int × Int × Int) ⊕ (Int × Int)} (h : bytealg_hashStr_string_j12 x4 x6 x7 x8 = some o) (hn : ∀ s, E (.inl s) → WXI Try.prog 39 n0 (Fin Try.prog Try.f97.results.toList n0 Q) [.lp (ct [1, 1, 1, 1, 0, 1, 0, 0] (bodyOf Try.f97)), .blk 2, .code (ct [1, 1, 1, 1, 1] (bodyOf Try.f97))] (bytealg_hashStr_string_l1_I B0 s.1 s.2.1 s.2.2.1 s.2.2.2) L) (hx0 : ∀ s, E (.inr s) → WXI Try.prog 39 n0 (Fin Try.prog Try.f97.results.toList n0 Q) [.code (ct [1, 1, 1, 1, 1] (bodyOf Try.f97))] (bytealg_hashStr_string_l1_X0 B0 s.1 s.2) L) (hE : E o) : WXI Try.prog 39 n0 (Fin Try.prog Try.f97.results.toList n0 Q) [.code (ct [1, 1, 1, 1, 0, 1, 0, 0, 1, 0, 0, 1] (bodyOf Try.f97)), .blk 3, .code (ct [1, 1, 1, 1, 0, 1, 0, 0, 1, 1] (bodyOf Try.f97)), .lp (ct [1, 1, 1, 1, 0, 1, 0, 0] (bodyOf Try.f97)), .blk 2, .code (ct [1, 1, 1, 1, 1] (bodyOf Try.f97))] (bytealg_hashStr_string_j12_I B0 x4 x6 x7 x8) L := by
  unfold bytealg_hashStr_string_j12 at h
  rintro _ B _ ⟨hB, rfl, rfl⟩
  refine WX.reg ?_
  refine WO.q (.mv (v := .int _ _) rfl) rfl rfl ?_
  refine WO.q (.mv (v := .int _ _) rfl) rfl rfl ?_
  refine WO.q (.r fun _ => rfl) rfl rfl ?_
  refine WO.q (.as (v := .int _ _) rfl) rfl rfl ?_
  refine WO.nil ?_
  refine WX.pop ?_
  refine WX.reg ?_
  refine WO.q (.mv (v := .int _ _) rfl) rfl rfl ?_
  refine WO.q (.r fun _ => rfl) rfl rfl ?_
  refine WO.q (.as (v := .int _ _) rfl) rfl rfl ?_
  refine WO.nil ?_
  refine WX.keepL [4, 6, 7, 8] (WX.pk [] (by decide) ?_) rfl
  obtain rfl := Option.some.inj h
  exact hn _ hE _ _ _ ⟨hB, rfl, rfl⟩
theorem bytealg_hashStr_string_l1_s {B0 : Kn} {L : Own} {n0 : Nat} {x4 : Int} {x6 : Int} {x7 : Int} {x8 : Int} {Q : AV → St → Prop} {E : (Int × Int × Int × Int) ⊕ (Int × Int) → Prop} {o : (Int × Int × Int × Int) ⊕ (Int × Int)} (h : bytealg_hashStr_string_l1 x4 x6 x7 x8 = some o) (hn : ∀ s, E (.inl s) → WXI Try.prog 39 n0 (Fin Try.prog Try.f97.results.toList n0 Q) [.lp (ct [1, 1, 1, 1, 0, 1, 0, 0] (bodyOf Try.f97)), .blk 2, .code (ct [1, 1, 1, 1, 1] (bodyOf Try.f97))] (bytealg_hashStr_string_l1_I B0 s.1 s.2.1 s.2.2.1 s.2.2.2) L) (hx0 : ∀ s, E (.inr s) → WXI Try.prog 39 n0 (Fin Try.prog Try.f97.results.toList n0 Q) [.code (ct [1, 1, 1, 1, 1] (bodyOf Try.f97))] (bytealg_hashStr_string_l1_X0 B0 s.1 s.2) L) (hE : E o) : WXI Try.prog 39 n0 (Fin Try.prog Try.f97.results.toList n0 Q) [.code (ct [1, 1, 1, 1, 0, 1, 0, 0] (bodyOf Try.f97)), .lp (ct [1, 1, 1, 1, 0, 1, 0, 0] (bodyOf Try.f97)), .blk 2, .code (ct [1, 1, 1, 1, 1] (bodyOf Try.f97))] (bytealg_hashStr_string_l1_I B0 x4 x6 x7 x8) L := by
  unfold bytealg_hashStr_string_l1 at h
  rintro _ B _ ⟨hB, rfl, rfl⟩
  refine WX.seq ?_
  refine WX.seq ?_
  refine WX.reg ?_
  refine WO.q (.mv (v := .int _ _) rfl) rfl rfl ?_
  refine WO.q (.r fun _ => rfl) rfl rfl ?_
  refine WO.nil ?_
  rcases bsp (decide (0 < x8)) with k4 | k4
  · have q_k4 := of_decide_eq_true k4
    replace h := (if_pos q_k4).symm.trans h
    refine WX.condT rfl k4 ?_
    refine WX.skip ?_
    refine WX.seq ?_
    refine WX.block ?_
    refine WX.seq ?_
    refine WX.seq ?_
    refine WX.reg ?_
    refine WO.q (.mv (v := .int _ _) rfl) rfl rfl ?_
    refine WO.q (.r fun _ => rfl) rfl rfl ?_
    refine WO.q (.r fun _ => rfl) rfl rfl ?_
    refine WO.nil ?_
    rcases bsp (decide ((bitsA .and .i64 x8 1) ≠ 0)) with k5 | k5
    · have q_k5 := of_decide_eq_true k5
      replace h := (if_pos q_k5).symm.trans h
      refine WX.condT rfl k5 ?_
      refine WX.reg ?_
      refine WO.q (.mv (v := .int _ _) rfl) rfl rfl ?_
      refine WO.q (.mv (v := .int _ _) rfl) rfl rfl ?_
      refine WO.q (.r fun _ => rfl) rfl rfl ?_
      refine WO.q (.as (v := .int _ _) rfl) rfl rfl ?_
      refine WO.nil ?_
      refine WX.keep [4, 6, 7, 8] (WX.pk [] (by decide) ?_) rfl
      exact bytealg_hashStr_string_j12_ok h hn hx0 hE _ _ _ ⟨hB, rfl, rfl⟩
    · have q_k5 := of_decide_eq_false k5
      replace h := (if_neg q_k5).symm.trans h
      refine WX.condF rfl k5 ?_
      refine WX.skip ?_
      refine WX.keep [4, 6, 7, 8] (WX.pk [] (by decide) ?_) rfl
      exact bytealg_hashStr_string_j12_ok h hn hx0 hE _ _ _ ⟨hB, rfl, rfl⟩
  · have q_k4 := of_decide_eq_false k4
    replace h := (if_neg q_k4).symm.trans h
    refine WX.condF rfl k4 ?_
    refine WX.exit rfl ?_
    refine WX.keep [4, 6] (WX.pk [] (by decide) ?_) rfl
    obtain rfl := Option.some.inj h
    exact hx0 _ hE _ _ _ ⟨hB, rfl, rfl⟩
theorem bytealg_hashStr_string_l1_ok {B0 : Kn} {L : Own} {n0 : Nat} {x4 : Int} {x6 : Int} {x7 : Int} {x8 : Int} {Q : AV → St → Prop} {d : Nat} {e : (Int × Int)} (h : iter (fun (s : Int × Int × Int × Int) => bytealg_hashStr_string_l1 s.1 s.2.1 s.2.2.1 s.2.2.2) d (x4, x6, x7, x8) = some e) (g0 : ∀ s, e = s → WXI Try.prog 39 n0 (Fin Try.prog Try.f97.results.toList n0 Q) [.code (ct [1, 1, 1, 1, 1] (bodyOf Try.f97))] (bytealg_hashStr_string_l1_X0 B0 s.1 s.2) L) : WXI Try.prog 39 n0 (Fin Try.prog Try.f97.results.toList n0 Q) [.code (ct [1, 1, 1, 1, 0, 1, 0, 0] (bodyOf Try.f97)), .lp (ct [1, 1, 1, 1, 0, 1, 0, 0] (bodyOf Try.f97)), .blk 2, .code (ct [1, 1, 1, 1, 1] (bodyOf Try.f97))] (bytealg_hashStr_string_l1_I B0 x4 x6 x7 x8) L :=
  iter_ok (I := fun s => bytealg_hashStr_string_l1_I B0 s.1 s.2.1 s.2.2.1 s.2.2.2) (D := fun e => (∀ s, e = s → WXI Try.prog 39 n0 (Fin Try.prog Try.f97.results.toList n0 Q) [.code (ct [1, 1, 1, 1, 1] (bodyOf Try.f97))] (bytealg_hashStr_string_l1_X0 B0 s.1 s.2) L)) (fun E hn hx s o ho hE => bytealg_hashStr_string_l1_s ho hn (fun s hs => (hx _ hs) _ rfl)  hE) h g0
theorem bytealg_hashStr_string_ok {B0 : Kn} {L : Own} {a0 : List UInt8} {r : Int × Int} (h : bytealg_hashStr_string a0 = some r) : ∀ st, Hp B0 L st → ASpec Try.prog 97 [.str a0] st (bytealg_hashStr_string_P B0 L r) := by
  unfold bytealg_hashStr_string at h
  refine bodyA (A := []) Try.func97 rfl (c := bodyOf Try.f97) rfl Try.ntmps97 (lb rfl) fun n0 => ?_
  have hB := KLe.refl B0
  refine WX.seq ?_
  refine WX.reg ?_
  refine WO.q (.as (v := .int _ _) rfl) rfl rfl ?_
  refine WO.q (.as (v := .int _ _) rfl) rfl rfl ?_
  refine WO.nil ?_
  refine WX.seq ?_
  refine WX.reg ?_
  refine WO.q (.as (v := .int _ _) rfl) rfl rfl ?_
  refine WO.nil ?_
  refine WX.seq ?_
  refine WX.seq ?_
  refine WX.reg ?_
  refine WO.q (.as (v := .int _ _) rfl) rfl rfl ?_
  refine WO.nil ?_
  refine WX.block ?_
  refine WX.loop ?_
  obtain ⟨e3, he3, h⟩ := Option.bind_eq_some_iff.1 h
  refine WX.keep [0, 4, 5] (WX.pk [] (by decide) ?_) rfl
  refine bytealg_hashStr_string_l0_ok he3 ?_ _ _ _ ⟨hB, rfl, rfl⟩
  · intro s8 he_
    subst he_
    replace h := h
    rintro _ B _ ⟨hB, rfl, rfl⟩
    refine WX.seq ?_
    refine WX.reg ?_
    refine WO.q (.as (v := .int _ _) rfl) rfl rfl ?_
    refine WO.q (.as (v := .int _ _) rfl) rfl rfl ?_
    refine WO.nil ?_
    refine WX.seq ?_
    refine WX.seq ?_
    refine WX.reg ?_
    refine WO.q (.mv (v := .str _) rfl) rfl rfl ?_
    refine WO.q (.len rfl rfl rfl (evslen ti9 rfl _)) rfl rfl ?_
    refine WO.q (.as (v := .int _ _) rfl) rfl rfl ?_
    refine WO.nil ?_
    refine WX.block ?_
    refine WX.loop ?_
    obtain ⟨e6, he6, h⟩ := Option.bind_eq_some_iff.1 h
    refine WX.keep [4, 6, 7, 8] (WX.pk [] (by decide) ?_) rfl
    refine bytealg_hashStr_string_l1_ok he6 ?_ _ _ _ ⟨hB, rfl, rfl⟩
    · intro s7 he_
      subst he_
      replace h := h
      rintro _ B _ ⟨hB, rfl, rfl⟩
      refine WX.seq ?_
      refine WX.reg ?_
      refine WO.q (.mv (v := .int _ _) rfl) rfl rfl ?_
      refine WO.q (.mv (v := .int _ _) rfl) rfl rfl ?_
      refine WO.q (.as (v := .int _ _) rfl) rfl rfl ?_
      refine WO.q (.as (v := .int _ _) rfl) rfl rfl ?_
      refine WO.nil ?_
      obtain rfl := Option.some.inj h
      exact WX.ret (rs_ (rs_tmp rfl (rs_tmp rfl rs_nil))) fun st hp => ⟨(hp.pk [] (by decide)).le hB, rfl⟩
def bytealg_IndexRabinKarp_string_P (B : Kn) (L : Own) (r : Int) : AV → St → Prop := CS B L fun v => v = .int .i64 r
def bytealg_IndexRabinKarp_string_l0_I (B0 : Kn) (x0 : List UInt8) (x1 : List UInt8) (x5 : Int) (x6 : Int) (x8 : Int) (x9 : Int) : Fr → Kn → Own → Prop := fun fr B A => KLe B0 B ∧ fr = [(0, .str x0), (1, .str x1), (5, .int .u32 x5), (6, .int .u32 x6), (7, .int .i64 (x1.length : Int)), (8, .int .u32 x8), (9, .int .i64 x9)] ∧ A = []
def bytealg_IndexRabinKarp_string_l0_X0 (B0 : Kn) (x0 : List UInt8) (x1 : List UInt8) (x5 : Int) (x6 : Int) (x8 : Int) : Fr → Kn → Own → Prop := fun fr B A => KLe B0 B ∧ fr = [(0, .str x0), (1, .str x1), (5, .int .u32 x5), (6, .int .u32 x6), (7, .int .i64 (x1.length : Int)), (8, .int .u32 x8)] ∧ A = []
def bytealg_IndexRabinKarp_string_j18_I (B0 : Kn) (x0 : List UInt8) (x1 : List UInt8) (x5 : Int) (x6 : Int) (x8 : Int) (x10 : Int) (x77 : Bool) : Fr → Kn → Own → Prop := fun fr B A => KLe B0 B ∧ fr = [(0, .str x0), (1, .str x1), (5, .int .u32 x5), (6, .int .u32 x6), (7, .int .i64 (x1.length : Int)), (8, .int .u32 x8), (10, .int .i64 x10), (77, .bool x77)] ∧ A = []
def bytealg_IndexRabinKarp_string_l1_I (B0 : Kn) (x0 : List UInt8) (x1 : List UInt8) (x5 : Int) (x6 : Int) (x8 : Int) (x10 : Int) : Fr → Kn → Own → Prop := fun fr B A => KLe B0 B ∧ fr = [(0, .str x0), (1, .str x1), (5, .int .u32 x5), (6, .int .u32 x6), (7, .int .i64 (x1.length : Int)), (8, .int .u32 x8), (10, .int .i64 x10)] ∧ A = []
def bytealg_IndexRabinKarp_string_l1_X0 (B0 : Kn) : Fr → Kn → Own → Prop := fun fr B A => KLe B0 B ∧ fr = [] ∧ A = []
def bytealg_IndexRabinKarp_string_j9_I (B0 : Kn) (x0 : List UInt8) (x1 : List UInt8) (x5 : Int) (x6 : Int) (x8 : Int) (x39 : Bool) : Fr → Kn → Own → Prop := fun fr B A => KLe B0 B ∧ fr = [(0, .str x0), (1, .str x1), (5, .int .u32 x5), (6, .int .u32 x6), (7, .int .i64 (x1.length : Int)), (8, .int .u32 x8), (39, .bool x39)] ∧ A = []
theorem bytealg_IndexRabinKarp_string_l0_s {B0 : Kn} {L : Own} {n0 : Nat} {x0 : List UInt8} {x1 : List UInt8} {x5 : Int} {x6 : Int} {x8 : Int} {x9 : Int} {Q : AV → St → Prop} {E : (Int × Int) ⊕ Int → Prop} {o : (Int × Int) ⊕ Int} (h : bytealg_IndexRabinKarp_string_l0 x0 x1 x5 x6 x8 x9 = some o) (hn : ∀ s, E (.inl s) → WXI Try.prog 81 n0 (Fin Try.prog Try.f95.results.toList n0 Q) [.lp (ct [1, 1, 1, 1, 0, 1, 0, 0] (bodyOf Try.f95)), .blk 0, .code (ct [1, 1, 1, 1, 1] (bodyOf Try.f95))] (bytealg_IndexRabinKarp_string_l0_I B0 x0 x1 x5 x6 s.1 s.2) L) (hx0 : ∀ s, E (.inr s) → WXI Try.prog 81 n0 (Fin Try.prog Try.f95.results.toList n0 Q) [.code (ct [1, 1, 1, 1, 1] (bodyOf Try.f95))] (bytealg_IndexRabinKarp_string_l0_X0 B0 x0 x1 x5 x6 s) L) (hE : E o) : WXI Try.prog 81 n0 (Fin Try.prog Try.f95.results.toList n0 Q) [.code (ct [1, 1, 1, 1, 0, 1, 0, 0] (bodyOf Try.f95)), .lp (ct [1, 1, 1, 1, 0, 1, 0, 0] (bodyOf Try.f95)), .blk 0, .code (ct [1, 1, 1, 1, 1] (bodyOf Try.f95))] (bytealg_IndexRabinKarp_string_l0_I B0 x0 x1 x5 x6 x8 x9) L := by
  unfold bytealg_IndexRabinKarp_string_l0 at h
  rintro _ B _ ⟨hB, rfl, rfl⟩
  refine WX.seq ?_
  refine WX.seq ?_
  refine WX.reg ?_
  refine WO.q (.mv (v := .int _ _) rfl) rfl rfl ?_
  refine WO.q (.mv (v := .int _ _) rfl) rfl rfl ?_
  refine WO.q (.r fun _ => rfl) rfl rfl ?_
  refine WO.nil ?_
  rcases bsp (decide (x9 < (x1.length : Int))) with k2 | k2
  · have q_k2 := of_decide_eq_true k2
    replace h := (if_pos q_k2).symm.trans h
    refine WX.condT rfl k2 ?_
    refine WX.skip ?_
    refine WX.seq ?_
    refine WX.block ?_
    refine WX.reg ?_
    refine WO.q (.mv (v := .int _ _) rfl) rfl rfl ?_
    refine WO.q (.r fun _ => rfl) rfl rfl ?_
    refine WO.q (.mv (v := .str _) rfl) rfl rfl ?_
    refine WO.q (.mv (v := .int _ _) rfl) rfl rfl ?_
    obtain ⟨y3, hy3, h⟩ := Option.bind_eq_some_iff.1 h
    refine WO.q (.ix (evsix ti9 rfl hy3 _)) rfl rfl ?_
    refine WO.q (cvI ti5 ti99 rfl rfl) rfl rfl ?_
    refine WO.q (.r fun _ => rfl) rfl rfl ?_
    refine WO.q (.as (v := .int _ _) rfl) rfl rfl ?_
    refine WO.nil ?_
    refine WX.pop ?_
    refine WX.reg ?_
    refine WO.q (.mv (v := .int _ _) rfl) rfl rfl ?_
    refine WO.q (.r fun _ => rfl) rfl rfl ?_
    refine WO.q (.as (v := .int _ _) rfl) rfl rfl ?_
    refine WO.nil ?_
    refine WX.keepL [0, 1, 5, 6, 7, 8, 9] (WX.pk [] (by decide) ?_) rfl
    obtain rfl := Option.some.inj h
    exact hn _ hE _ _ _ ⟨hB, rfl, rfl⟩
  · have q_k2 := of_decide_eq_false k2
    replace h := (if_neg q_k2).symm.trans h
    refine WX.condF rfl k2 ?_
    refine WX.exit rfl ?_
    refine WX.keep [0, 1, 5, 6, 7, 8] (WX.pk [] (by decide) ?_) rfl
    obtain rfl := Option.some.inj h
    exact hx0 _ hE _ _ _ ⟨hB, rfl, rfl⟩
theorem bytealg_IndexRabinKarp_string_l0_ok {B0 : Kn} {L : Own} {n0 : Nat} {x0 : List UInt8} {x1 : List UInt8} {x5 : Int} {x6 : Int} {x8 : Int} {x9 : Int} {Q : AV → St → Prop} {d : Nat} {e : Int} (h : iter (fun (s : Int × Int) => bytealg_IndexRabinKarp_string_l0 x0 x1 x5 x6 s.1 s.2) d (x8, x9) = some e) (g0 : ∀ s, e = s → WXI Try.prog 81 n0 (Fin Try.prog Try.f95.results.toList n0 Q) [.code (ct [1, 1, 1, 1, 1] (bodyOf Try.f95))] (bytealg_IndexRabinKarp_string_l0_X0 B0 x0 x1 x5 x6 s) L) : WXI Try.prog 81 n0 (Fin Try.prog Try.f95.results.toList n0 Q) [.code (ct [1, 1, 1, 1, 0, 1, 0, 0] (bodyOf Try.f95)), .lp (ct [1, 1, 1, 1, 0, 1, 0, 0] (bodyOf Try.f95)), .blk 0, .code (ct [1, 1, 1, 1, 1] (bodyOf Try.f95))] (bytealg_IndexRabinKarp_string_l0_I B0 x0 x1 x5 x6 x8 x9) L :=
  iter_ok (I := fun s => bytealg_IndexRabinKarp_string_l0_I B0 x0 x1 x5 x6 s.1 s.2) (D := fun e => (∀ s, e = s → WXI Try.prog 81 n0 (Fin Try.prog Try.f95.results.toList n0 Q) [.code (ct [1, 1, 1, 1, 1] (bodyOf Try.f95))] (bytealg_IndexRabinKarp_string_l0_X0 B0 x0 x1 x5 x6 s) L)) (fun E hn hx s o ho hE => bytealg_IndexRabinKarp_string_l0_s ho hn (fun s hs => (hx _ hs) _ rfl)  hE) h g0
theorem bytealg_IndexRabinKarp_string_j18_ok {B0 : Kn} {L : Own} {n0 : Nat} {x0 : List UInt8} {x1 : List UInt8} {x5 : Int} {x6 : Int} {x8 : Int} {x10 : Int} {x77 : Bool} {Q : AV → St → Prop} {E : (Int × Int) ⊕ (Int ⊕ Unit) → Prop} {o : (Int × Int) ⊕ (Int ⊕ Unit)} (h : bytealg_IndexRabinKarp_string_j18 x0 x1 x5 x6 x8 x10 x77 = some o) (hn : ∀ s, E (.inl s) → WXI Try.prog 81 n0 (Fin Try.prog Try.f95.results.toList n0 Q) [.lp (ct [1, 1, 1, 1, 1, 1, 0, 1, 0, 0] (bodyOf Try.f95)), .blk 2, .code (ct [1, 1, 1, 1, 1, 1, 1] (bodyOf Try.f95))] (bytealg_IndexRabinKarp_string_l1_I B0 x0 x1 x5 x6 s.1 s.2) L) (hx0 : ∀ s, E (.inr (.inr s)) → WXI Try.prog 81 n0 (Fin Try.prog Try.f95.results.toList n0 Q) [.code (ct [1, 1, 1, 1, 1, 1, 1] (bodyOf Try.f95))] (bytealg_IndexRabinKarp_string_l1_X0 B0) L) (hr : ∀ r, E (.inr (.inl r)) → ∀ v st, bytealg_IndexRabinKarp_string_P B0 L r v st → Q v st) (hE : E o) : WXI Try.prog 81 n0 (Fin Try.prog Try.f95.results.toList n0 Q) [.code (ct [1, 1, 1, 1, 1, 1, 0, 1, 0, 0, 1, 0, 1, 1, 1, 1, 1] (bodyOf Try.f95)), .blk 3, .lp (ct [1, 1, 1, 1, 1, 1, 0, 1, 0, 0] (bodyOf Try.f95)), .blk 2, .code (ct [1, 1, 1, 1, 1, 1, 1] (bodyOf Try.f95))] (bytealg_IndexRabinKarp_string_j18_I B0 x0 x1 x5 x6 x8 x10 x77) L := by
  unfold bytealg_IndexRabinKarp_string_j18 at h
  rintro _ B _ ⟨hB, rfl, rfl⟩
  rcases bsp x77 with k13 | k13
  · replace h := (if_pos k13).symm.trans h
    refine WX.condT rfl k13 ?_
    refine WX.seq ?_
    refine WX.reg ?_
    refine WO.q (.mv (v := .int _ _) rfl) rfl rfl ?_
    refine WO.q (.mv (v := .int _ _) rfl) rfl rfl ?_
    refine WO.q (.r fun _ => rfl) rfl rfl ?_
    refine WO.q (.as (v := .int _ _) rfl) rfl rfl ?_
    refine WO.nil ?_
    obtain rfl := Option.some.inj h
    exact WX.ret (rs_ (rs_tmp rfl rs_nil)) fun st hp => hr _ hE _ _ ⟨(hp.pk [] (by decide)).le hB, rfl⟩
  · replace h := (if_neg (bnt k13)).symm.trans h
    refine WX.condF rfl k13 ?_
    refine WX.skip ?_
    refine WX.pop ?_
    refine WX.keepL [0, 1, 5, 6, 7, 8, 10] (WX.pk [] (by decide) ?_) rfl
    obtain rfl := Option.some.inj h
    exact hn _ hE _ _ _ ⟨hB, rfl, rfl⟩
theorem bytealg_IndexRabinKarp_string_l1_s {B0 : Kn} {L : Own} {n0 : Nat} {x0 : List UInt8} {x1 : List UInt8} {x5 : Int} {x6 : Int} {x8 : Int} {x10 : Int} {Q : AV → St → Prop} {E : (Int × Int) ⊕ (Int ⊕ Unit) → Prop} {o : (Int × Int) ⊕ (Int ⊕ Unit)} (h : bytealg_IndexRabinKarp_string_l1 x0 x1 x5 x6 x8 x10 = some o) (hn : ∀ s, E (.inl s) → WXI Try.prog 81 n0 (Fin Try.prog Try.f95.results.toList n0 Q) [.lp (ct [1, 1, 1, 1, 1, 1, 0, 1, 0, 0] (bodyOf Try.f95)), .blk 2, .code (ct [1, 1, 1, 1, 1, 1, 1] (bodyOf Try.f95))] (bytealg_IndexRabinKarp_string_l1_I B0 x0 x1 x5 x6 s.1 s.2) L) (hx0 : ∀ s, E (.inr (.inr s)) → WXI Try.prog 81 n0 (Fin Try.prog Try.f95.results.toList n0 Q) [.code (ct [1, 1, 1, 1, 1, 1, 1] (bodyOf Try.f95))] (bytealg_IndexRabinKarp_string_l1_X0 B0) L) (hr : ∀ r, E (.inr (.inl r)) → ∀ v st, bytealg_IndexRabinKarp_string_P B0 L r v st → Q v st) (hE : E o) : WXI Try.prog 81 n0 (Fin Try.prog Try.f95.results.toList n0 Q) [.code (ct [1, 1, 1, 1, 1, 1, 0, 1, 0, 0] (bodyOf Try.f95)), .lp (ct [1, 1, 1, 1, 1, 1, 0, 1, 0, 0] (bodyOf Try.f95)), .blk 2, .code (ct [1, 1, 1, 1, 1, 1, 1] (bodyOf Try.f95))] (bytealg_IndexRabinKarp_string_l1_I B0 x0 x1 x5 x6 x8 x10) L := by
  unfold bytealg_IndexRabinKarp_string_l1 at h
  rintro _ B _ ⟨hB, rfl, rfl⟩
  refine WX.seq ?_
  refine WX.seq ?_
  refine WX.reg ?_
  refine WO.q (.mv (v := .int _ _) rfl) rfl rfl ?_
  refine WO.q (.mv (v := .str _) rfl) rfl rfl ?_
  refine WO.q (.len rfl rfl rfl (evslen ti9 rfl _)) rfl rfl ?_
  refine WO.q (.r fun _ => rfl) rfl rfl ?_
  refine WO.nil ?_
  rcases bsp (decide (x10 < (x0.length : Int))) with k8 | k8
  · have q_k8 := of_decide_eq_true k8
    replace h := (if_pos q_k8).symm.trans h
    refine WX.condT rfl k8 ?_
    refine WX.skip ?_
    refine WX.block ?_
    refine WX.seq ?_
    refine WX.reg ?_
    refine WO.q (.mv (v := .int _ _) rfl) rfl rfl ?_
    refine WO.q (.r fun _ => rfl) rfl rfl ?_
    refine WO.q (.as (v := .int _ _) rfl) rfl rfl ?_
    refine WO.nil ?_
    refine WX.seq ?_
    refine WX.reg ?_
    refine WO.q (.mv (v := .int _ _) rfl) rfl rfl ?_
    refine WO.q (.mv (v := .str _) rfl) rfl rfl ?_
    refine WO.q (.mv (v := .int _ _) rfl) rfl rfl ?_
    obtain ⟨y9, hy9, h⟩ := Option.bind_eq_some_iff.1 h
    refine WO.q (.ix (evsix ti9 rfl hy9 _)) rfl rfl ?_
    refine WO.q (cvI ti5 ti99 rfl rfl) rfl rfl ?_
    refine WO.q (.r fun _ => rfl) rfl rfl ?_
    refine WO.q (.as (v := .int _ _) rfl) rfl rfl ?_
    refine WO.nil ?_
    refine WX.seq ?_
    refine WX.reg ?_
    refine WO.q (.mv (v := .int _ _) rfl) rfl rfl ?_
    refine WO.q (.mv (v := .int _ _) rfl) rfl rfl ?_
    refine WO.q (.mv (v := .str _) rfl) rfl rfl ?_
    refine WO.q (.mv (v := .int _ _) rfl) rfl rfl ?_
    refine WO.q (.mv (v := .int _ _) rfl) rfl rfl ?_
    refine WO.q (.r fun _ => rfl) rfl rfl ?_
    obtain ⟨y10, hy10, h⟩ := Option.bind_eq_some_iff.1 h
    refine WO.q (.ix (evsix ti9 rfl hy10 _)) rfl rfl ?_
    refine WO.q (cvI ti5 ti99 rfl rfl) rfl rfl ?_
    refine WO.q (.r fun _ => rfl) rfl rfl ?_
    refine WO.q (.r fun _ => rfl) rfl rfl ?_
    refine WO.q (.as (v := .int _ _) rfl) rfl rfl ?_
    refine WO.nil ?_
    refine WX.seq ?_
    refine WX.reg ?_
    refine WO.q (.mv (v := .int _ _) rfl) rfl rfl ?_
    refine WO.q (.r fun _ => rfl) rfl rfl ?_
    refine WO.q (.as (v := .int _ _) rfl) rfl rfl ?_
    refine WO.nil ?_
    refine WX.seq ?_
    refine WX.reg ?_
    refine WO.q (.mv (v := .int _ _) rfl) rfl rfl ?_
    refine WO.q (.mv (v := .int _ _) rfl) rfl rfl ?_
    refine WO.q (.r fun _ => rfl) rfl rfl ?_
    refine WO.q (.mv (v := .bool _) rfl) rfl rfl ?_
    rcases bsp (decide ((wu32 ((wu32 ((wu32 (x8 * 16777619)) + (wu32 (y9.toNat : Int)))) - (wu32 (x6 * (wu32 (y10.toNat : Int)))))) = x5)) with k11 | k11
    · have q_k11 := of_decide_eq_true k11
      replace h := (if_pos q_k11).symm.trans h
      refine WO.q (.mv (v := .str _) rfl) (wg rfl rfl (gt k11)) rfl ?_
      refine WO.q (.mv (v := .int _ _) rfl) (wg rfl rfl (gt k11)) rfl ?_
      refine WO.q (.mv (v := .int _ _) rfl) (wg rfl rfl (gt k11)) rfl ?_
      refine WO.q (.r fun _ => rfl) (wg rfl rfl (gt k11)) rfl ?_
      refine WO.q (.mv (v := .int _ _) rfl) (wg rfl rfl (gt k11)) rfl ?_
      obtain ⟨y12, hy12, h⟩ := Option.bind_eq_some_iff.1 h
      refine WO.q (.sl (evscut ti9 rfl hy12 (bnd_int (cutL_some hy12).1.1) (bnd_int (Int.le_trans (cutL_some hy12).1.1 (cutL_some hy12).1.2.1)))) (wg rfl rfl (gt k11)) rfl ?_
      refine WO.q (.mv (v := .str _) rfl) (wg rfl rfl (gt k11)) rfl ?_
      refine WO.q (.r fun _ => rfl) (wg rfl rfl (gt k11)) rfl ?_
      refine WO.q (.ptv (v := .bool _) rfl k11 rfl) rfl rfl ?_
      refine WO.nil ?_
      refine WX.keep [0, 1, 5, 6, 7, 8, 10, 77] (WX.pk [] (by decide) ?_) rfl
      exact bytealg_IndexRabinKarp_string_j18_ok h hn hx0 hr hE _ _ _ ⟨hB, rfl, rfl⟩
    · have q_k11 := of_decide_eq_false k11
      replace h := (if_neg q_k11).symm.trans h
      refine WO.sd (wg rfl rfl (gtn k11)) rfl ?_
      refine WO.sd (wg rfl rfl (gtn k11)) rfl ?_
      refine WO.sd (wg rfl rfl (gtn k11)) rfl ?_
      refine WO.sd (wg rfl rfl (gtn k11)) rfl ?_
      refine WO.sd (wg rfl rfl (gtn k11)) rfl ?_
      refine WO.sd (wg rfl rfl (gtn k11)) rfl ?_
      refine WO.sd (wg rfl rfl (gtn k11)) rfl ?_
      refine WO.sd (wg rfl rfl (gtn k11)) rfl ?_
      refine WO.q (.pfv (v := .bool _) rfl k11 rfl) rfl rfl ?_
      refine WO.nil ?_
      refine WX.keep [0, 1, 5, 6, 7, 8, 10, 77] (WX.pk [] (by decide) ?_) rfl
      exact bytealg_IndexRabinKarp_string_j18_ok h hn hx0 hr hE _ _ _ ⟨hB, rfl, rfl⟩
  · have q_k8 := of_decide_eq_false k8
    replace h := (if_neg q_k8).symm.trans h
    refine WX.condF rfl k8 ?_
    refine WX.exit rfl ?_
    refine WX.keep [] (WX.pk [] (by decide) ?_) rfl
    obtain rfl := Option.some.inj h
    exact hx0 _ hE _ _ _ ⟨hB, rfl, rfl⟩
theorem bytealg_IndexRabinKarp_string_l1_ok {B0 : Kn} {L : Own} {n0 : Nat} {x0 : List UInt8} {x1 : List UInt8} {x5 : Int} {x6 : Int} {x8 : Int} {x10 : Int} {Q : AV → St → Prop} {d : Nat} {e : Int ⊕ Unit} (h : iter (fun (s : Int × Int) => bytealg_IndexRabinKarp_string_l1 x0 x1 x5 x6 s.1 s.2) d (x8, x10) = some e) (g0 : ∀ r, e = (.inl r) → ∀ v st, bytealg_IndexRabinKarp_string_P B0 L r v st → Q v st) (g1 : ∀ s, e = (.inr s) → WXI Try.prog 81 n0 (Fin Try.prog Try.f95.results.toList n0 Q) [.code (ct [1, 1, 1, 1, 1, 1, 1] (bodyOf Try.f95))] (bytealg_IndexRabinKarp_string_l1_X0 B0) L) : WXI Try.prog 81 n0 (Fin Try.prog Try.f95.results.toList n0 Q) [.code (ct [1, 1, 1, 1, 1, 1, 0, 1, 0, 0] (bodyOf Try.f95)), .lp (ct [1, 1, 1, 1, 1, 1, 0, 1, 0, 0] (bodyOf Try.f95)), .blk 2, .code (ct [1, 1, 1, 1, 1, 1, 1] (bodyOf Try.f95))] (bytealg_IndexRabinKarp_string_l1_I B0 x0 x1 x5 x6 x8 x10) L :=
  iter_ok (I := fun s => bytealg_IndexRabinKarp_string_l1_I B0 x0 x1 x5 x6 s.1 s.2) (D := fun e => (∀ r, e = (.inl r) → ∀ v st, bytealg_IndexRabinKarp_string_P B0 L r v st → Q v st) ∧ (∀ s, e = (.inr s) → WXI Try.prog 81 n0 (Fin Try.prog Try.f95.results.toList n0 Q) [.code (ct [1, 1, 1, 1, 1, 1, 1] (bodyOf Try.f95))] (bytealg_IndexRabinKarp_string_l1_X0 B0) L)) (fun E hn hx s o ho hE => bytealg_IndexRabinKarp_string_l1_s ho hn (fun s hs => (hx _ hs).2 _ rfl) (fun r hs => (hx _ hs).1 _ rfl) hE) h ⟨g0, g1⟩
theorem bytealg_IndexRabinKarp_string_j9_ok {B0 : Kn} {L : Own} {n0 : Nat} {x0 : List UInt8} {x1 : List UInt8} {x5 : Int} {x6 : Int} {x8 : Int} {x39 : Bool} {r : Int} (h : bytealg_IndexRabinKarp_string_j9 x0 x1 x5 x6 x8 x39 = some r) : WXI Try.prog 81 n0 (Fin Try.prog Try.f95.results.toList n0 (bytealg_IndexRabinKarp_string_P B0 L r)) [.code (ct [1, 1, 1, 1, 1, 0, 1] (bodyOf Try.f95)), .code (ct [1, 1, 1, 1, 1, 1] (bodyOf Try.f95))] (bytealg_IndexRabinKarp_string_j9_I B0 x0 x1 x5 x6 x8 x39) L := by
  unfold bytealg_IndexRabinKarp_string_j9 at h
  rintro _ B _ ⟨hB, rfl, rfl⟩
  rcases bsp x39 with k7 | k7
  · replace h := (if_pos k7).symm.trans h
    refine WX.condT rfl k7 ?_
    refine WX.seq ?_
    refine WX.reg ?_
    refine WO.q (.as (v := .int _ _) rfl) rfl rfl ?_
    refine WO.nil ?_
    obtain rfl := Option.some.inj h
    exact WX.ret (rs_ (rs_tmp rfl rs_nil)) fun st hp => ⟨(hp.pk [] (by decide)).le hB, rfl⟩
  · replace h := (if_neg (bnt k7)).symm.trans h
    refine WX.condF rfl k7 ?_
    refine WX.skip ?_
    refine WX.seq ?_
    refine WX.seq ?_
    refine WX.reg ?_
    refine WO.q (.mv (v := .int _ _) rfl) rfl rfl ?_
    refine WO.q (.as (v := .int _ _) rfl) rfl rfl ?_
    refine WO.nil ?_
    refine WX.block ?_
    refine WX.loop ?_
    obtain ⟨e14, he14, h⟩ := Option.bind_eq_some_iff.1 h
    refine WX.keep [0, 1, 5, 6, 7, 8, 10] (WX.pk [] (by decide) ?_) rfl
    refine bytealg_IndexRabinKarp_string_l1_ok he14 ?_ ?_ _ _ _ ⟨hB, rfl, rfl⟩
    · intro r16 he_
      subst he_
      replace h := (on_l h)
      obtain rfl := Option.some.inj h
      exact fun v st hp => hp
    · intro x17 he_
      subst he_
      replace h := (on_r h)
      rintro _ B _ ⟨hB, rfl, rfl⟩
      refine WX.seq ?_
      refine WX.reg ?_
      refine WO.q (.as (v := .int _ _) rfl) rfl rfl ?_
      refine WO.nil ?_
      obtain rfl := Option.some.inj h
      exact WX.ret (rs_ (rs_tmp rfl rs_nil)) fun st hp => ⟨(hp.pk [] (by decide)).le hB, rfl⟩
theorem bytealg_IndexRabinKarp_string_ok {B0 : Kn} {L : Own} {a0 : List UInt8} {a1 : List UInt8} {r : Int} (h : bytealg_IndexRabinKarp_string a0 a1 = some r) : ∀ st, Hp B0 L st → ASpec Try.prog 95 [.str a0, .str a1] st (bytealg_IndexRabinKarp_string_P B0 L r) := by
  unfold bytealg_IndexRabinKarp_string at h
  refine bodyA (A := []) Try.func95 rfl (c := bodyOf Try.f95) rfl Try.ntmps95 (lb rfl) fun n0 => ?_
  have hB := KLe.refl B0
  refine WX.seq ?_
  refine WX.reg ?_
  refine WO.q (.as (v := .int _ _) rfl) rfl rfl ?_
  refine WO.nil ?_
  refine WX.seq ?_
  refine WX.reg ?_
  refine WO.q (.mv (v := .str _) rfl) rfl rfl ?_
  obtain ⟨y1, hy1, h⟩ := Option.bind_eq_some_iff.1 h
  refine WO.cS rfl rfl (bytealg_hashStr_string_ok hy1) rfl rfl rfl ?_
  rintro _ rfl
  refine WO.q (.mv (v := .tup _) rfl) rfl rfl ?_
  refine WO.q (.r fun _ => rfl) rfl rfl ?_
  refine WO.q (.r fun _ => rfl) rfl rfl ?_
  refine WO.q (.as (v := .int _ _) rfl) rfl rfl ?_
  refine WO.q (.as (v := .int _ _) rfl) rfl rfl ?_
  refine WO.nil ?_
  refine WX.seq ?_
  refine WX.reg ?_
  refine WO.q (.mv (v := .str _) rfl) rfl rfl ?_
  refine WO.q (.len rfl rfl rfl (evslen ti9 rfl _)) rfl rfl ?_
  refine WO.q (.as (v := .int _ _) rfl) rfl rfl ?_
  refine WO.nil ?_
  refine WX.seq ?_
  refine WX.reg ?_
  refine WO.q (.as (v := .int _ _) rfl) rfl rfl ?_
  refine WO.nil ?_
  refine WX.seq ?_
  refine WX.seq ?_
  refine WX.reg ?_
  refine WO.q (.as (v := .int _ _) rfl) rfl rfl ?_
  refine WO.nil ?_
  refine WX.block ?_
  refine WX.loop ?_
  obtain ⟨e4, he4, h⟩ := Option.bind_eq_some_iff.1 h
  refine WX.keep [0, 1, 5, 6, 7, 8, 9] (WX.pk [] (by decide) ?_) rfl
  refine bytealg_IndexRabinKarp_string_l0_ok he4 ?_ _ _ _ ⟨hB, rfl, rfl⟩
  · intro s18 he_
    subst he_
    replace h := h
    rintro _ B _ ⟨hB, rfl, rfl⟩
    refine WX.seq ?_
    refine WX.seq ?_
    refine WX.reg ?_
    refine WO.q (.mv (v := .int _ _) rfl) rfl rfl ?_
    refine WO.q (.mv (v := .int _ _) rfl) rfl rfl ?_
    refine WO.q (.r fun _ => rfl) rfl rfl ?_
    refine WO.q (.mv (v := .bool _) rfl) rfl rfl ?_
    rcases bsp (decide (e4 = y1.1)) with k5 | k5
    · have q_k5 := of_decide_eq_true k5
      replace h := (if_pos q_k5).symm.trans h
      refine WO.q (.mv (v := .str _) rfl) (wg rfl rfl (gt k5)) rfl ?_
      refine WO.q (.mv (v := .int _ _) rfl) (wg rfl rfl (gt k5)) rfl ?_
      obtain ⟨y6, hy6, h⟩ := Option.bind_eq_some_iff.1 h
      refine WO.q (.sl (evscut ti9 rfl hy6 bnd_none (bnd_int (Int.le_trans (cutL_some hy6).1.1 (cutL_some hy6).1.2.1)))) (wg rfl rfl (gt k5)) rfl ?_
      refine WO.q (.mv (v := .str _) rfl) (wg rfl rfl (gt k5)) rfl ?_
      refine WO.q (.r fun _ => rfl) (wg rfl rfl (gt k5)) rfl ?_
      refine WO.q (.ptv (v := .bool _) rfl k5 rfl) rfl rfl ?_
      refine WO.nil ?_
      refine WX.keep [0, 1, 5, 6, 7, 8, 39] (WX.pk [] (by decide) ?_) rfl
      exact bytealg_IndexRabinKarp_string_j9_ok h _ _ _ ⟨hB, rfl, rfl⟩
    · have q_k5 := of_decide_eq_false k5
      replace h := (if_neg q_k5).symm.trans h
      refine WO.sd (wg rfl rfl (gtn k5)) rfl ?_
      refine WO.sd (wg rfl rfl (gtn k5)) rfl ?_
      refine WO.sd (wg rfl rfl (gtn k5)) rfl ?_
      refine WO.sd (wg rfl rfl (gtn k5)) rfl ?_
      refine WO.sd (wg rfl rfl (gtn k5)) rfl ?_
      refine WO.q (.pfv (v := .bool _) rfl k5 rfl) rfl rfl ?_
      refine WO.nil ?_
      refine WX.keep [0, 1, 5, 6, 7, 8, 39] (WX.pk [] (by decide) ?_) rfl
      exact bytealg_IndexRabinKarp_string_j9_ok h _ _ _ ⟨hB, rfl, rfl⟩
end Gab
