/- The Go code comes to what the Lean functions say. Written by a program (gp.py). -/
import Derived.Test.YtdkldojcpncnhaaFd
import Derived.Test.YtdkldojcpncnhaaTy
set_option linter.unusedSimpArgs false
set_option linter.unusedVariables false
set_option maxHeartbeats 4000000
set_option maxRecDepth 100000
namespace Gab
open Go Go.Proofs
def gabionlaw16_cut_P (B : Kn) (L : Own) (r : (Int × Int × Int × (List (Int × Int)) × (List UInt8))) : AV → St → Prop := C0 B L fun B' v => ∃ w0, v = .agg [.int .u8 r.1, .int .i64 r.2.1, .int .i64 r.2.2.1, w0, .str r.2.2.2.2] ∧ RSl EPIi64Ii64Q B' w0 r.2.2.2.1
theorem gabionlaw16_cut_ok {B0 : Kn} {L : Own} {a0 : Int × Int × Int × (List (Int × Int)) × (List UInt8)} {v0_0 : AV} {r : (Int × Int × Int × (List (Int × Int)) × (List UInt8))} (g0_0 : RSl EPIi64Ii64Q B0 v0_0 a0.2.2.2.1) (h : gabionlaw16_cut a0 = some r) : ∀ st, Hp B0 L st → ASpec Try.prog 46 [.agg [.int .u8 a0.1, .int .i64 a0.2.1, .int .i64 a0.2.2.1, v0_0, .str a0.2.2.2.2]] st (gabionlaw16_cut_P B0 L r) := by
  unfold gabionlaw16_cut at h
  refine bodyA (A := []) Try.func46 rfl (c := bodyOf Try.f46) rfl Try.ntmps46 (lb rfl) fun n0 => ?_
  have hB := KLe.refl B0
  obtain ⟨_, _, _, _, _, rfl⟩ := g0_0.isl
  refine WX.seq ?_
  refine WX.reg ?_
  refine WO.md (MOp.box (cA rfl)) rfl rfl ?_
  rintro _ _ ⟨b1, rfl, rfl⟩
  refine WO.md (MOp.alloc ti81 rfl) rfl rfl ?_
  rintro _ _ ⟨b2, rfl, rfl⟩
  refine WO.nil ?_
  refine WX.seq ?_
  refine WX.drw (Plan.of [0, 1, 2, 3, 4, 5, 6, 7, 8, 9, 10, 11, 12, 13, 14, 15, 16, 17] .nil) _ mixed (by kernel_rfl) rfl (pk_sub [0, 1]) ?_
  refine WP.q (i := 0) rfl (.fa (fa81_3 _ _)) rfl rfl rfl ?_
  refine WP.q (i := 1) rfl (.ldS (i := 1) rfl rfl rfl ti40 rfl) rfl rfl rfl ?_
  refine WP.q (i := 2) rfl (.fa (fa81_3 _ _)) rfl rfl rfl ?_
  refine WP.q (i := 3) rfl (.ldS (i := 1) rfl rfl rfl ti40 rfl) rfl rfl rfl ?_
  refine WP.q (i := 4) rfl (.len rfl rfl rfl (sl40.len g0_0.isl)) rfl rfl rfl ?_
  refine WP.q (i := 5) rfl (.r fun _ => rfl) rfl rfl rfl ?_
  obtain ⟨y3, hy3, h⟩ := Option.bind_eq_some_iff.1 h
  obtain ⟨v_y3, e_y3, g_y3⟩ := g0_0.cut sl40 hy3 (lo := none) (hi := some (.int .i64 (mn (a0.2.2.2.1.length : Int) 70))) bnd_none (bnd_int (Int.le_trans (cutL_some hy3).1.1 (cutL_some hy3).1.2.1))
  obtain ⟨_, _, _, _, _, rfl⟩ := g_y3.isl
  refine WP.q (i := 6) rfl (.sl e_y3) rfl rfl rfl ?_
  refine WP.q (i := 7) rfl (.fa (fa81_4 _ _)) rfl rfl rfl ?_
  refine WP.q (i := 8) rfl (.ldS (i := 1) rfl rfl rfl ti9 rfl) rfl rfl rfl ?_
  refine WP.q (i := 9) rfl (.fa (fa81_4 _ _)) rfl rfl rfl ?_
  refine WP.q (i := 10) rfl (.ldS (i := 1) rfl rfl rfl ti9 rfl) rfl rfl rfl ?_
  refine WP.q (i := 11) rfl (.len rfl rfl rfl (evslen ti9 rfl _)) rfl rfl rfl ?_
  refine WP.q (i := 12) rfl (.r fun _ => rfl) rfl rfl rfl ?_
  obtain ⟨y4, hy4, h⟩ := Option.bind_eq_some_iff.1 h
  refine WP.q (i := 13) rfl (.sl (evscut ti9 rfl hy4 bnd_none (bnd_int (Int.le_trans (cutL_some hy4).1.1 (cutL_some hy4).1.2.1)))) rfl rfl rfl ?_
  refine WP.q (i := 14) rfl (.fa (fa81_3 _ _)) rfl rfl rfl ?_
  refine WP.msn (i := 15) rfl (MOp.store (cs' := [.int .u8 a0.1, .int .i64 a0.2.1, .int .i64 a0.2.2.1, _, .str a0.2.2.2.2]) rfl (cL rfl) (.t .h) ti40 rfl rfl (lb rfl) rfl) rfl (by kernel_rfl) rfl ?_
  rintro _ _ rfl
  refine WS.q (i := 16) rfl (.fa (fa81_4 _ _)) rfl rfl rfl rfl ?_
  refine WS.msn (i := 17) rfl (MOp.store (cs' := [.int .u8 a0.1, .int .i64 a0.2.1, .int .i64 a0.2.2.1, _, .str y4]) rfl (cS rfl) (.t .h) ti9 rfl rfl (lb rfl) rfl) rfl (by kernel_rfl) rfl ?_
  rintro _ _ rfl
  refine WS.nil ?_
  refine WX.seq ?_
  refine WX.reg ?_
  refine WO.q (.ldA (i := 1) rfl rfl rfl ti81 rfl) rfl rfl ?_
  refine WO.mn (MOp.storeW rfl (cA rfl) .h ti81 rfl rfl rfl) rfl ?_
  rintro _ _ rfl
  refine WO.nil ?_
  obtain rfl := Option.some.inj h
  exact WX.ret (rs_ (rs_cell (.ldA (i := 0) rfl rfl rfl ti81 rfl) rs_nil)) fun st hp => ⟨_, hB, (hp.pk [] (by decide)), _, rfl, g_y3⟩
end Gab
