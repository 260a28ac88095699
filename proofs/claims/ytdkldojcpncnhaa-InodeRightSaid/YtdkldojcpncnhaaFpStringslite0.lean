/- The Go code comes to what the Lean functions say. Written by a program (gp.py). -/
import Derived.Test.YtdkldojcpncnhaaFd
import Derived.Test.YtdkldojcpncnhaaTy
import Derived.Test.YtdkldojcpncnhaaFpBytealg0
set_option linter.unusedSimpArgs false
set_option linter.unusedVariables false
set_option maxHeartbeats 4000000
set_option maxRecDepth 100000
namespace Gab
open Go Go.Proofs
def stringslite_IndexByte_P (B : Kn) (L : Own) (r : Int) : AV → St → Prop := CS B L fun v => v = .int .i64 r
theorem stringslite_IndexByte_ok {B0 : Kn} {L : Own} {a0 : List UInt8} {a1 : Int} {r : Int} (h : stringslite_IndexByte a0 a1 = some r) : ∀ st, Hp B0 L st → ASpec Try.prog 92 [.str a0, .int .u8 a1] st (stringslite_IndexByte_P B0 L r) := by
  unfold stringslite_IndexByte at h
  refine bodyA (A := []) Try.func92 rfl (c := bodyOf Try.f92) rfl Try.ntmps92 (lb rfl) fun n0 => ?_
  have hB := KLe.refl B0
  refine WX.seq ?_
  refine WX.reg ?_
  refine WO.q (.as (v := .int _ _) rfl) rfl rfl ?_
  refine WO.nil ?_
  refine WX.seq ?_
  refine WX.reg ?_
  refine WO.q (.mv (v := .str _) rfl) rfl rfl ?_
  refine WO.q (.mv (v := .int _ _) rfl) rfl rfl ?_
  refine WO.q (.idxB rfl rfl rfl Try.func96 rfl rfl rfl rfl) rfl rfl ?_
  refine WO.q (.as (v := .int _ _) rfl) rfl rfl ?_
  refine WO.nil ?_
  obtain rfl := Option.some.inj h
  exact WX.ret (rs_ (rs_tmp rfl rs_nil)) fun st hp => ⟨(hp.pk [] (by decide)).le hB, rfl⟩
def stringslite_Index_P (B : Kn) (L : Own) (r : Int) : AV → St → Prop := CS B L fun v => v = .int .i64 r
def stringslite_Index_j2_I (B0 : Kn) (x0 : List UInt8) (x1 : List UInt8) (x16 : Bool) : Fr → Kn → Own → Prop := fun fr B A => KLe B0 B ∧ fr = [(0, .str x0), (1, .str x1), (5, .int .i64 (x1.length : Int)), (16, .bool x16)] ∧ A = []
theorem stringslite_Index_j2_ok {B0 : Kn} {L : Own} {n0 : Nat} {x0 : List UInt8} {x1 : List UInt8} {x16 : Bool} {r : Int} (h : stringslite_Index_j2 x0 x1 x16 = some r) : WXI Try.prog 143 n0 (Fin Try.prog Try.f91.results.toList n0 (stringslite_Index_P B0 L r)) [.code (ct [1, 1, 0, 0, 1] (bodyOf Try.f91)), .blk 0, .code (ct [1, 1, 1] (bodyOf Try.f91))] (stringslite_Index_j2_I B0 x0 x1 x16) L := by
  unfold stringslite_Index_j2 at h
  rintro _ B _ ⟨hB, rfl, rfl⟩
  rcases bsp x16 with k2 | k2
  · replace h := (if_pos k2).symm.trans h
    refine WX.condT rfl k2 ?_
    refine WX.seq ?_
    refine WX.reg ?_
    refine WO.q (.as (v := .int _ _) rfl) rfl rfl ?_
    refine WO.nil ?_
    obtain rfl := Option.some.inj h
    exact WX.ret (rs_ (rs_tmp rfl rs_nil)) fun st hp => ⟨(hp.pk [] (by decide)).le hB, rfl⟩
  · replace h := (if_neg (bnt k2)).symm.trans h
    refine WX.condF rfl k2 ?_
    refine WX.seq ?_
    refine WX.reg ?_
    refine WO.q (.mv (v := .int _ _) rfl) rfl rfl ?_
    refine WO.q (.r fun _ => rfl) rfl rfl ?_
    refine WO.q (.as (v := .bool _) rfl) rfl rfl ?_
    refine WO.nil ?_
    rcases bsp (decide ((x1.length : Int) = 1)) with k3 | k3
    · have q_k3 := of_decide_eq_true k3
      replace h := (if_pos q_k3).symm.trans h
      refine WX.condT rfl k3 ?_
      refine WX.seq ?_
      refine WX.reg ?_
      refine WO.q (.mv (v := .str _) rfl) rfl rfl ?_
      refine WO.q (.mv (v := .str _) rfl) rfl rfl ?_
      obtain ⟨y4, hy4, h⟩ := Option.bind_eq_some_iff.1 h
      refine WO.q (.ix (evsix ti9 rfl hy4 _)) rfl rfl ?_
      obtain ⟨y5, hy5, h⟩ := Option.bind_eq_some_iff.1 h
      refine WO.cS rfl rfl (stringslite_IndexByte_ok hy5) rfl rfl rfl ?_
      rintro _ rfl
      refine WO.q (.as (v := .int _ _) rfl) rfl rfl ?_
      refine WO.nil ?_
      obtain rfl := Option.some.inj h
      exact WX.ret (rs_ (rs_tmp rfl rs_nil)) fun st hp => ⟨(hp.pk [] (by decide)).le hB, rfl⟩
    · have q_k3 := of_decide_eq_false k3
      replace h := (if_neg q_k3).symm.trans h
      refine WX.condF rfl k3 ?_
      refine WX.seq ?_
      refine WX.reg ?_
      refine WO.q (.mv (v := .int _ _) rfl) rfl rfl ?_
      refine WO.q (.mv (v := .str _) rfl) rfl rfl ?_
      refine WO.q (.len rfl rfl rfl (evslen ti9 rfl _)) rfl rfl ?_
      refine WO.q (.r fun _ => rfl) rfl rfl ?_
      refine WO.q (.as (v := .bool _) rfl) rfl rfl ?_
      refine WO.nil ?_
      rcases bsp (decide ((x0.length : Int) ≤ (x1.length : Int))) with k6 | k6
      · have q_k6 := of_decide_eq_true k6
        replace h := (if_pos q_k6).symm.trans h
        refine WX.condT rfl k6 ?_
        refine WX.seq ?_
        refine WX.reg ?_
        refine WO.q (.as (v := .int _ _) rfl) rfl rfl ?_
        refine WO.nil ?_
        obtain rfl := Option.some.inj h
        exact WX.ret (rs_ (rs_tmp rfl rs_nil)) fun st hp => ⟨(hp.pk [] (by decide)).le hB, rfl⟩
      · have q_k6 := of_decide_eq_false k6
        replace h := (if_neg q_k6).symm.trans h
        refine WX.condF rfl k6 ?_
        refine WX.seq ?_
        refine WX.reg ?_
        refine WO.q (.mv (v := .int _ _) rfl) rfl rfl ?_
        cases h
theorem stringslite_Index_ok {B0 : Kn} {L : Own} {a0 : List UInt8} {a1 : List UInt8} {r : Int} (h : stringslite_Index a0 a1 = some r) : ∀ st, Hp B0 L st → ASpec Try.prog 91 [.str a0, .str a1] st (stringslite_Index_P B0 L r) := by
  unfold stringslite_Index at h
  refine bodyA (A := []) Try.func91 rfl (c := bodyOf Try.f91) rfl Try.ntmps91 (lb rfl) fun n0 => ?_
  have hB := KLe.refl B0
  refine WX.seq ?_
  refine WX.reg ?_
  refine WO.q (.as (v := .int _ _) rfl) rfl rfl ?_
  refine WO.nil ?_
  refine WX.seq ?_
  refine WX.reg ?_
  refine WO.q (.mv (v := .str _) rfl) rfl rfl ?_
  refine WO.q (.len rfl rfl rfl (evslen ti9 rfl _)) rfl rfl ?_
  refine WO.q (.as (v := .int _ _) rfl) rfl rfl ?_
  refine WO.nil ?_
  refine WX.seq ?_
  refine WX.block ?_
  refine WX.seq ?_
  refine WX.reg ?_
  refine WO.q (.mv (v := .int _ _) rfl) rfl rfl ?_
  refine WO.q (.r fun _ => rfl) rfl rfl ?_
  refine WO.q (.mv (v := .bool _) rfl) rfl rfl ?_
  rcases bsp (decide ((a1.length : Int) = 0)) with k1 | k1
  · have q_k1 := of_decide_eq_true k1
    replace h := (if_pos q_k1).symm.trans h
    refine WO.sd (wg rfl rfl (gfn k1)) rfl ?_
    refine WO.sd (wg rfl rfl (gfn k1)) rfl ?_
    refine WO.sd (wg rfl rfl (gfn k1)) rfl ?_
    refine WO.q (.ptv (v := .bool _) rfl k1 rfl) rfl rfl ?_
    refine WO.q (.as (v := .bool _) rfl) rfl rfl ?_
    refine WO.nil ?_
    refine WX.keep [0, 1, 5, 16] (WX.pk [] (by decide) ?_) rfl
    exact stringslite_Index_j2_ok h _ _ _ ⟨hB, rfl, rfl⟩
  · have q_k1 := of_decide_eq_false k1
    replace h := (if_neg q_k1).symm.trans h
    refine WO.q (.mv (v := .str _) rfl) (wg rfl rfl (gf k1)) rfl ?_
    refine WO.q (.mv (v := .str _) rfl) (wg rfl rfl (gf k1)) rfl ?_
    refine WO.q (.r fun _ => rfl) (wg rfl rfl (gf k1)) rfl ?_
    refine WO.q (.pfv (v := .bool _) rfl k1 rfl) rfl rfl ?_
    refine WO.q (.as (v := .bool _) rfl) rfl rfl ?_
    refine WO.nil ?_
    refine WX.keep [0, 1, 5, 16] (WX.pk [] (by decide) ?_) rfl
    exact stringslite_Index_j2_ok h _ _ _ ⟨hB, rfl, rfl⟩
end Gab
