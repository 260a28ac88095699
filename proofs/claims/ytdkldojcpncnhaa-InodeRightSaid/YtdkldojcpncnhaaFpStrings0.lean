/- The Go code comes to what the Lean functions say. Written by a program (gp.py). -/
import Derived.Test.YtdkldojcpncnhaaFd
import Derived.Test.YtdkldojcpncnhaaTy
import Derived.Test.YtdkldojcpncnhaaFpStringslite0
set_option linter.unusedSimpArgs false
set_option linter.unusedVariables false
set_option maxHeartbeats 4000000
set_option maxRecDepth 100000
namespace Gab
open Go Go.Proofs
def strings_Index_P (B : Kn) (L : Own) (r : Int) : AV → St → Prop := CS B L fun v => v = .int .i64 r
theorem strings_Index_ok {B0 : Kn} {L : Own} {a0 : List UInt8} {a1 : List UInt8} {r : Int} (h : strings_Index a0 a1 = some r) : ∀ st, Hp B0 L st → ASpec Try.prog 90 [.str a0, .str a1] st (strings_Index_P B0 L r) := by
  unfold strings_Index at h
  refine bodyA (A := []) Try.func90 rfl (c := bodyOf Try.f90) rfl Try.ntmps90 (lb rfl) fun n0 => ?_
  have hB := KLe.refl B0
  refine WX.seq ?_
  refine WX.reg ?_
  refine WO.q (.as (v := .int _ _) rfl) rfl rfl ?_
  refine WO.nil ?_
  refine WX.seq ?_
  refine WX.reg ?_
  refine WO.q (.mv (v := .str _) rfl) rfl rfl ?_
  refine WO.q (.mv (v := .str _) rfl) rfl rfl ?_
  obtain ⟨y1, hy1, h⟩ := Option.bind_eq_some_iff.1 h
  refine WO.cS rfl rfl (stringslite_Index_ok hy1) rfl rfl rfl ?_
  rintro _ rfl
  refine WO.q (.as (v := .int _ _) rfl) rfl rfl ?_
  refine WO.nil ?_
  obtain rfl := Option.some.inj h
  exact WX.ret (rs_ (rs_tmp rfl rs_nil)) fun st hp => ⟨(hp.pk [] (by decide)).le hB, rfl⟩
def strings_Contains_P (B : Kn) (L : Own) (r : Bool) : AV → St → Prop := CS B L fun v => v = .bool r
theorem strings_Contains_ok {B0 : Kn} {L : Own} {a0 : List UInt8} {a1 : List UInt8} {r : Bool} (h : strings_Contains a0 a1 = some r) : ∀ st, Hp B0 L st → ASpec Try.prog 89 [.str a0, .str a1] st (strings_Contains_P B0 L r) := by
  unfold strings_Contains at h
  refine bodyA (A := []) Try.func89 rfl (c := bodyOf Try.f89) rfl Try.ntmps89 (lb rfl) fun n0 => ?_
  have hB := KLe.refl B0
  refine WX.seq ?_
  refine WX.reg ?_
  refine WO.q (.as (v := .bool _) rfl) rfl rfl ?_
  refine WO.nil ?_
  refine WX.seq ?_
  refine WX.reg ?_
  refine WO.q (.mv (v := .str _) rfl) rfl rfl ?_
  refine WO.q (.mv (v := .str _) rfl) rfl rfl ?_
  obtain ⟨y1, hy1, h⟩ := Option.bind_eq_some_iff.1 h
  refine WO.cS rfl rfl (strings_Index_ok hy1) rfl rfl rfl ?_
  rintro _ rfl
  refine WO.q (.r fun _ => rfl) rfl rfl ?_
  refine WO.q (.as (v := .bool _) rfl) rfl rfl ?_
  refine WO.nil ?_
  obtain rfl := Option.some.inj h
  exact WX.ret (rs_ (rs_tmp rfl rs_nil)) fun st hp => ⟨(hp.pk [] (by decide)).le hB, rfl⟩
end Gab
