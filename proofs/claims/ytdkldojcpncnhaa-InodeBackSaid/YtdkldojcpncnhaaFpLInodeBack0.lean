/- The Go code comes to what the Lean functions say. Written by a program (gp.py). -/
import Derived.Test.YtdkldojcpncnhaaFd
import Derived.Test.YtdkldojcpncnhaaTy
import Derived.Test.YtdkldojcpncnhaaFpInode0
import Derived.Test.YtdkldojcpncnhaaFpInode1
import Derived.Test.YtdkldojcpncnhaaFpInode2
import Derived.Test.YtdkldojcpncnhaaFpLaw161
import Derived.Test.YtdkldojcpncnhaaFpLaw162
set_option linter.unusedSimpArgs false
set_option linter.unusedVariables false
set_option maxHeartbeats 4000000
set_option maxRecDepth 100000
namespace Gab
open Go Go.Proofs
def gabionlaw16_InodeBack_P (B : Kn) (L : Own) (r : Bool) : AV → St → Prop := CS B L fun v => v = .bool r
def gabionlaw16_InodeBack_j3_I (B0 : Kn) (x2 : List UInt8) (x43 : Bool) : Fr → Kn → Own → Prop := fun fr B A => KLe B0 B ∧ fr = [(2, .str x2), (43, .bool x43)] ∧ A = []
theorem gabionlaw16_InodeBack_j3_ok {B0 : Kn} {L : Own} {n0 : Nat} {x2 : List UInt8} {x43 : Bool} {r : Bool} (h : gabionlaw16_InodeBack_j3 x2 x43 = some r) : WXI Try.prog 81 n0 (Fin Try.prog Try.f12.results.toList n0 (gabionlaw16_InodeBack_P B0 L r)) [.code (ct [1, 1, 1, 0, 1] (bodyOf Try.f12)), .code (ct [1, 1, 1, 1] (bodyOf Try.f12))] (gabionlaw16_InodeBack_j3_I B0 x2 x43) L := by
  unfold gabionlaw16_InodeBack_j3 at h
  rintro _ B _ ⟨hB, rfl, rfl⟩
  rcases bsp x43 with k29 | k29
  · replace h := (if_pos k29).symm.trans h
    refine WX.condT rfl k29 ?_
    refine WX.seq ?_
    refine WX.reg ?_
    refine WO.q (.as (v := .bool _) rfl) rfl rfl ?_
    refine WO.nil ?_
    obtain rfl := Option.some.inj h
    exact WX.ret (rs_ (rs_tmp rfl rs_nil)) fun st hp => ⟨(hp.pk [] (by decide)).le hB, rfl⟩
  · replace h := (if_neg (bnt k29)).symm.trans h
    refine WX.condF rfl k29 ?_
    refine WX.skip ?_
    refine WX.seq ?_
    refine WX.reg ?_
    refine WO.q (.mv (v := .str _) rfl) rfl rfl ?_
    refine WO.q (.mv (v := .str _) rfl) rfl rfl ?_
    refine WO.q (.len rfl rfl rfl (evslen ti9 rfl _)) rfl rfl ?_
    refine WO.q (.r fun _ => rfl) rfl rfl ?_
    obtain ⟨y30, hy30, h⟩ := Option.bind_eq_some_iff.1 h
    refine WO.q (.sl (evscut ti9 rfl hy30 bnd_none (bnd_int (Int.le_trans (cutL_some hy30).1.1 (cutL_some hy30).1.2.1)))) rfl rfl ?_
    refine WO.q (.as (v := .str _) rfl) rfl rfl ?_
    refine WO.nil ?_
    refine WX.seq ?_
    refine WX.reg ?_
    refine WO.q (.mv (v := .str _) rfl) rfl rfl ?_
    obtain ⟨y31, hy31, h⟩ := Option.bind_eq_some_iff.1 h
    refine WO.c1 rfl rfl (inode_Parse_ok hy31) rfl rfl rfl ?_
    rintro _ B _ hK ⟨v32, b33, n34, c35, rfl, rfl, h36⟩
    obtain ⟨_, _, _, _, _, rfl⟩ := h36.isl
    replace hB := hB.trans hK
    refine WO.q (.mv (v := .tup _) rfl) rfl rfl ?_
    refine WO.q (.r fun _ => rfl) rfl rfl ?_
    refine WO.q (.r fun _ => rfl) rfl rfl ?_
    refine WO.q (.r fun _ => rfl) rfl rfl ?_
    refine WO.md (MOp.alloc ti86 rfl) rfl rfl ?_
    rintro _ _ ⟨b37, rfl, rfl⟩
    refine WO.q (.as (v := .int _ _) rfl) rfl rfl ?_
    refine WO.mn (MOp.storeW rfl (cA rfl) .h ti86 rfl rfl rfl) rfl ?_
    rintro _ _ rfl
    refine WO.q (.as (v := .int _ _) rfl) rfl rfl ?_
    refine WO.nil ?_
    refine WX.seq ?_
    refine WX.reg ?_
    refine WO.q (.mv (v := .int _ _) rfl) rfl rfl ?_
    refine WO.q (.r fun _ => rfl) rfl rfl ?_
    refine WO.q (.mv (v := .bool _) rfl) rfl rfl ?_
    rcases bsp (decide (y31.2.2 = 0)) with k38 | k38
    · have q_k38 := of_decide_eq_true k38
      replace h := (if_pos q_k38).symm.trans h
      refine WO.q (.ldA (i := 0) rfl rfl rfl ti86 rfl) (wg rfl rfl (gt k38)) rfl ?_
      refine WO.q (.mv (v := .int _ _) rfl) (wg rfl rfl (gt k38)) rfl ?_
      obtain ⟨y39, hy39, h⟩ := Option.bind_eq_some_iff.1 h
      refine WO.cS rfl rfl (lendC (j := 1) h36 rfl fun _ K41 g40 => inode_Inode_Text_ok g40 hy39) rfl (wg rfl rfl (gt k38)) rfl ?_
      rintro _ rfl
      refine WO.q (.mv (v := .str _) rfl) (wg rfl rfl (gt k38)) rfl ?_
      refine WO.q (.r fun _ => rfl) (wg rfl rfl (gt k38)) rfl ?_
      refine WO.q (.ptv (v := .bool _) rfl k38 rfl) rfl rfl ?_
      refine WO.q (.mv (v := .bool _) rfl) rfl rfl ?_
      rcases bsp (decide (y39 = y30)) with k42 | k42
      · have q_k42 := of_decide_eq_true k42
        replace h := (if_pos q_k42).symm.trans h
        refine WO.q (.ldA (i := 0) rfl rfl rfl ti86 rfl) (wg rfl rfl (gt k42)) rfl ?_
        obtain ⟨y43, hy43, h⟩ := Option.bind_eq_some_iff.1 h
        refine WO.cS rfl rfl (lendC (j := 1) h36 rfl fun _ K45 g44 => inode_Inode_Right_ok g44 hy43) rfl (wg rfl rfl (gt k42)) rfl ?_
        rintro _ rfl
        refine WO.q (.ptv (v := .bool _) rfl k42 rfl) rfl rfl ?_
        refine WO.q (.mv (v := .bool _) rfl) rfl rfl ?_
        rcases bsp y43 with k46 | k46
        · replace h := (if_pos k46).symm.trans h
          refine WO.sd (wg rfl rfl (gfn k46)) rfl ?_
          refine WO.sd (wg rfl rfl (gfn k46)) rfl ?_
          refine WO.sd (wg rfl rfl (gfn k46)) rfl ?_
          refine WO.sd (wgu rfl rfl) rfl ?_
          refine WO.sd (wgu rfl rfl) rfl ?_
          refine WO.sd (wg rfl rfl (gfn k46)) rfl ?_
          refine WO.sd (wg rfl rfl (gfn k46)) rfl ?_
          refine WO.sd (wgu rfl rfl) rfl ?_
          refine WO.sd (wgu rfl rfl) rfl ?_
          refine WO.sd (wgu rfl rfl) rfl ?_
          refine WO.sd (wg rfl rfl (gfn k46)) rfl ?_
          refine WO.q (.ptv (v := .bool _) rfl k46 rfl) rfl rfl ?_
          refine WO.q (.as (v := .bool _) rfl) rfl rfl ?_
          refine WO.nil ?_
          obtain rfl := Option.some.inj h
          exact WX.ret (rs_ (rs_tmp rfl rs_nil)) fun st hp => ⟨(hp.pk [] (by decide)).le hB, rfl⟩
        · replace h := (if_neg (bnt k46)).symm.trans h
          refine WO.q (.mv (v := .int _ _) rfl) (wg rfl rfl (gf k46)) rfl ?_
          refine WO.q (.r fun _ => rfl) (wg rfl rfl (gf k46)) rfl ?_
          refine WO.q (.mv (v := .bool _) rfl) (wg rfl rfl (gf k46)) rfl ?_
          rcases bsp (decide (y31.2.2 = 4)) with k47 | k47
          · have q_k47 := of_decide_eq_true k47
            replace h := (if_pos q_k47).symm.trans h
            refine WO.q (.mv (v := .int _ _) rfl) (wg rfl rfl (gt k47)) rfl ?_
            refine WO.q (.r fun _ => rfl) (wg rfl rfl (gt k47)) rfl ?_
            refine WO.q (.ptv (v := .bool _) rfl k47 rfl) (wg rfl rfl (gf k46)) rfl ?_
            refine WO.q (.mv (v := .bool _) rfl) (wg rfl rfl (gf k46)) rfl ?_
            rcases bsp (decide (y31.1 = 0)) with k48 | k48
            · have q_k48 := of_decide_eq_true k48
              replace h := (if_pos q_k48).symm.trans h
              refine WO.q (.ldA (i := 0) rfl rfl rfl ti86 rfl) (wg rfl rfl (gt k48)) rfl ?_
              refine WO.q (.bd (bd86_n)) (wg rfl rfl (gt k48)) rfl ?_
              obtain ⟨y49, hy49, h⟩ := Option.bind_eq_some_iff.1 h
              refine WO.cS rfl rfl (lendC (j := 1) h36 rfl fun _ K51 g50 => inode_Equal_ok (a1 := ((0, 0, 0, [], ([] : List UInt8)) : Int × Int × Int × (List (Int × Int)) × (List UInt8))) g50 (RSl.nil _ _) hy49) rfl (wg rfl rfl (gt k48)) rfl ?_
              rintro _ rfl
              refine WO.q (.ptv (v := .bool _) rfl k48 rfl) (wg rfl rfl (gf k46)) rfl ?_
              refine WO.q (.pfv (v := .bool _) rfl k46 rfl) rfl rfl ?_
              refine WO.q (.as (v := .bool _) rfl) rfl rfl ?_
              refine WO.nil ?_
              obtain rfl := Option.some.inj h
              exact WX.ret (rs_ (rs_tmp rfl rs_nil)) fun st hp => ⟨(hp.pk [] (by decide)).le hB, rfl⟩
            · have q_k48 := of_decide_eq_false k48
              replace h := (if_neg q_k48).symm.trans h
              refine WO.sd (wg rfl rfl (gtn k48)) rfl ?_
              refine WO.sd (wg rfl rfl (gtn k48)) rfl ?_
              refine WO.sd (wg rfl rfl (gtn k48)) rfl ?_
              refine WO.q (.pfv (v := .bool _) rfl k48 rfl) (wg rfl rfl (gf k46)) rfl ?_
              refine WO.q (.pfv (v := .bool _) rfl k46 rfl) rfl rfl ?_
              refine WO.q (.as (v := .bool _) rfl) rfl rfl ?_
              refine WO.nil ?_
              obtain rfl := Option.some.inj h
              exact WX.ret (rs_ (rs_tmp rfl rs_nil)) fun st hp => ⟨(hp.pk [] (by decide)).le hB, rfl⟩
          · have q_k47 := of_decide_eq_false k47
            replace h := (if_neg q_k47).symm.trans h
            refine WO.sd (wg rfl rfl (gtn k47)) rfl ?_
            refine WO.sd (wg rfl rfl (gtn k47)) rfl ?_
            refine WO.q (.pfv (v := .bool _) rfl k47 rfl) (wg rfl rfl (gf k46)) rfl ?_
            refine WO.q (.mv (v := .bool _) rfl) (wg rfl rfl (gf k46)) rfl ?_
            refine WO.sd (wg rfl rfl (gtn rfl)) rfl ?_
            refine WO.sd (wg rfl rfl (gtn rfl)) rfl ?_
            refine WO.sd (wg rfl rfl (gtn rfl)) rfl ?_
            refine WO.q (.pfv (v := .bool _) rfl rfl rfl) (wg rfl rfl (gf k46)) rfl ?_
            refine WO.q (.pfv (v := .bool _) rfl k46 rfl) rfl rfl ?_
            refine WO.q (.as (v := .bool _) rfl) rfl rfl ?_
            refine WO.nil ?_
            obtain rfl := Option.some.inj h
            exact WX.ret (rs_ (rs_tmp rfl rs_nil)) fun st hp => ⟨(hp.pk [] (by decide)).le hB, rfl⟩
      · have q_k42 := of_decide_eq_false k42
        replace h := (if_neg q_k42).symm.trans h
        refine WO.sd (wg rfl rfl (gtn k42)) rfl ?_
        refine WO.sd (wg rfl rfl (gtn k42)) rfl ?_
        refine WO.q (.pfv (v := .bool _) rfl k42 rfl) rfl rfl ?_
        refine WO.q (.mv (v := .bool _) rfl) rfl rfl ?_
        refine WO.q (.mv (v := .int _ _) rfl) (wg rfl rfl (gf rfl)) rfl ?_
        refine WO.q (.r fun _ => rfl) (wg rfl rfl (gf rfl)) rfl ?_
        refine WO.q (.mv (v := .bool _) rfl) (wg rfl rfl (gf rfl)) rfl ?_
        rcases bsp (decide (y31.2.2 = 4)) with k52 | k52
        · have q_k52 := of_decide_eq_true k52
          replace h := (if_pos q_k52).symm.trans h
          refine WO.q (.mv (v := .int _ _) rfl) (wg rfl rfl (gt k52)) rfl ?_
          refine WO.q (.r fun _ => rfl) (wg rfl rfl (gt k52)) rfl ?_
          refine WO.q (.ptv (v := .bool _) rfl k52 rfl) (wg rfl rfl (gf rfl)) rfl ?_
          refine WO.q (.mv (v := .bool _) rfl) (wg rfl rfl (gf rfl)) rfl ?_
          rcases bsp (decide (y31.1 = 0)) with k53 | k53
          · have q_k53 := of_decide_eq_true k53
            replace h := (if_pos q_k53).symm.trans h
            refine WO.q (.ldA (i := 0) rfl rfl rfl ti86 rfl) (wg rfl rfl (gt k53)) rfl ?_
            refine WO.q (.bd (bd86_n)) (wg rfl rfl (gt k53)) rfl ?_
            obtain ⟨y54, hy54, h⟩ := Option.bind_eq_some_iff.1 h
            refine WO.cS rfl rfl (lendC (j := 1) h36 rfl fun _ K56 g55 => inode_Equal_ok (a1 := ((0, 0, 0, [], ([] : List UInt8)) : Int × Int × Int × (List (Int × Int)) × (List UInt8))) g55 (RSl.nil _ _) hy54) rfl (wg rfl rfl (gt k53)) rfl ?_
            rintro _ rfl
            refine WO.q (.ptv (v := .bool _) rfl k53 rfl) (wg rfl rfl (gf rfl)) rfl ?_
            refine WO.q (.pfv (v := .bool _) rfl rfl rfl) rfl rfl ?_
            refine WO.q (.as (v := .bool _) rfl) rfl rfl ?_
            refine WO.nil ?_
            obtain rfl := Option.some.inj h
            exact WX.ret (rs_ (rs_tmp rfl rs_nil)) fun st hp => ⟨(hp.pk [] (by decide)).le hB, rfl⟩
          · have q_k53 := of_decide_eq_false k53
            replace h := (if_neg q_k53).symm.trans h
            refine WO.sd (wg rfl rfl (gtn k53)) rfl ?_
            refine WO.sd (wg rfl rfl (gtn k53)) rfl ?_
            refine WO.sd (wg rfl rfl (gtn k53)) rfl ?_
            refine WO.q (.pfv (v := .bool _) rfl k53 rfl) (wg rfl rfl (gf rfl)) rfl ?_
            refine WO.q (.pfv (v := .bool _) rfl rfl rfl) rfl rfl ?_
            refine WO.q (.as (v := .bool _) rfl) rfl rfl ?_
            refine WO.nil ?_
            obtain rfl := Option.some.inj h
            exact WX.ret (rs_ (rs_tmp rfl rs_nil)) fun st hp => ⟨(hp.pk [] (by decide)).le hB, rfl⟩
        · have q_k52 := of_decide_eq_false k52
          replace h := (if_neg q_k52).symm.trans h
          refine WO.sd (wg rfl rfl (gtn k52)) rfl ?_
          refine WO.sd (wg rfl rfl (gtn k52)) rfl ?_
          refine WO.q (.pfv (v := .bool _) rfl k52 rfl) (wg rfl rfl (gf rfl)) rfl ?_
          refine WO.q (.mv (v := .bool _) rfl) (wg rfl rfl (gf rfl)) rfl ?_
          refine WO.sd (wg rfl rfl (gtn rfl)) rfl ?_
          refine WO.sd (wg rfl rfl (gtn rfl)) rfl ?_
          refine WO.sd (wg rfl rfl (gtn rfl)) rfl ?_
          refine WO.q (.pfv (v := .bool _) rfl rfl rfl) (wg rfl rfl (gf rfl)) rfl ?_
          refine WO.q (.pfv (v := .bool _) rfl rfl rfl) rfl rfl ?_
          refine WO.q (.as (v := .bool _) rfl) rfl rfl ?_
          refine WO.nil ?_
          obtain rfl := Option.some.inj h
          exact WX.ret (rs_ (rs_tmp rfl rs_nil)) fun st hp => ⟨(hp.pk [] (by decide)).le hB, rfl⟩
    · have q_k38 := of_decide_eq_false k38
      replace h := (if_neg q_k38).symm.trans h
      refine WO.sd (wg rfl rfl (gtn k38)) rfl ?_
      refine WO.sd (wg rfl rfl (gtn k38)) rfl ?_
      refine WO.sd (wg rfl rfl (gtn k38)) rfl ?_
      refine WO.sd (wg rfl rfl (gtn k38)) rfl ?_
      refine WO.sd (wg rfl rfl (gtn k38)) rfl ?_
      refine WO.q (.pfv (v := .bool _) rfl k38 rfl) rfl rfl ?_
      refine WO.q (.mv (v := .bool _) rfl) rfl rfl ?_
      refine WO.sd (wg rfl rfl (gtn rfl)) rfl ?_
      refine WO.sd (wg rfl rfl (gtn rfl)) rfl ?_
      refine WO.q (.pfv (v := .bool _) rfl rfl rfl) rfl rfl ?_
      refine WO.q (.mv (v := .bool _) rfl) rfl rfl ?_
      refine WO.q (.mv (v := .int _ _) rfl) (wg rfl rfl (gf rfl)) rfl ?_
      refine WO.q (.r fun _ => rfl) (wg rfl rfl (gf rfl)) rfl ?_
      refine WO.q (.mv (v := .bool _) rfl) (wg rfl rfl (gf rfl)) rfl ?_
      rcases bsp (decide (y31.2.2 = 4)) with k57 | k57
      · have q_k57 := of_decide_eq_true k57
        replace h := (if_pos q_k57).symm.trans h
        refine WO.q (.mv (v := .int _ _) rfl) (wg rfl rfl (gt k57)) rfl ?_
        refine WO.q (.r fun _ => rfl) (wg rfl rfl (gt k57)) rfl ?_
        refine WO.q (.ptv (v := .bool _) rfl k57 rfl) (wg rfl rfl (gf rfl)) rfl ?_
        refine WO.q (.mv (v := .bool _) rfl) (wg rfl rfl (gf rfl)) rfl ?_
        rcases bsp (decide (y31.1 = 0)) with k58 | k58
        · have q_k58 := of_decide_eq_true k58
          replace h := (if_pos q_k58).symm.trans h
          refine WO.q (.ldA (i := 0) rfl rfl rfl ti86 rfl) (wg rfl rfl (gt k58)) rfl ?_
          refine WO.q (.bd (bd86_n)) (wg rfl rfl (gt k58)) rfl ?_
          obtain ⟨y59, hy59, h⟩ := Option.bind_eq_some_iff.1 h
          refine WO.cS rfl rfl (lendC (j := 1) h36 rfl fun _ K61 g60 => inode_Equal_ok (a1 := ((0, 0, 0, [], ([] : List UInt8)) : Int × Int × Int × (List (Int × Int)) × (List UInt8))) g60 (RSl.nil _ _) hy59) rfl (wg rfl rfl (gt k58)) rfl ?_
          rintro _ rfl
          refine WO.q (.ptv (v := .bool _) rfl k58 rfl) (wg rfl rfl (gf rfl)) rfl ?_
          refine WO.q (.pfv (v := .bool _) rfl rfl rfl) rfl rfl ?_
          refine WO.q (.as (v := .bool _) rfl) rfl rfl ?_
          refine WO.nil ?_
          obtain rfl := Option.some.inj h
          exact WX.ret (rs_ (rs_tmp rfl rs_nil)) fun st hp => ⟨(hp.pk [] (by decide)).le hB, rfl⟩
        · have q_k58 := of_decide_eq_false k58
          replace h := (if_neg q_k58).symm.trans h
          refine WO.sd (wg rfl rfl (gtn k58)) rfl ?_
          refine WO.sd (wg rfl rfl (gtn k58)) rfl ?_
          refine WO.sd (wg rfl rfl (gtn k58)) rfl ?_
          refine WO.q (.pfv (v := .bool _) rfl k58 rfl) (wg rfl rfl (gf rfl)) rfl ?_
          refine WO.q (.pfv (v := .bool _) rfl rfl rfl) rfl rfl ?_
          refine WO.q (.as (v := .bool _) rfl) rfl rfl ?_
          refine WO.nil ?_
          obtain rfl := Option.some.inj h
          exact WX.ret (rs_ (rs_tmp rfl rs_nil)) fun st hp => ⟨(hp.pk [] (by decide)).le hB, rfl⟩
      · have q_k57 := of_decide_eq_false k57
        replace h := (if_neg q_k57).symm.trans h
        refine WO.sd (wg rfl rfl (gtn k57)) rfl ?_
        refine WO.sd (wg rfl rfl (gtn k57)) rfl ?_
        refine WO.q (.pfv (v := .bool _) rfl k57 rfl) (wg rfl rfl (gf rfl)) rfl ?_
        refine WO.q (.mv (v := .bool _) rfl) (wg rfl rfl (gf rfl)) rfl ?_
        refine WO.sd (wg rfl rfl (gtn rfl)) rfl ?_
        refine WO.sd (wg rfl rfl (gtn rfl)) rfl ?_
        refine WO.sd (wg rfl rfl (gtn rfl)) rfl ?_
        refine WO.q (.pfv (v := .bool _) rfl rfl rfl) (wg rfl rfl (gf rfl)) rfl ?_
        refine WO.q (.pfv (v := .bool _) rfl rfl rfl) rfl rfl ?_
        refine WO.q (.as (v := .bool _) rfl) rfl rfl ?_
        refine WO.nil ?_
        obtain rfl := Option.some.inj h
        exact WX.ret (rs_ (rs_tmp rfl rs_nil)) fun st hp => ⟨(hp.pk [] (by decide)).le hB, rfl⟩
theorem gabionlaw16_InodeBack_ok {B0 : Kn} {L : Own} {a0 : Int × Int × Int × (List (Int × Int)) × (List UInt8)} {a1 : Int} {a2 : List UInt8} {v0_0 : AV} {r : Bool} (g0_0 : RSl EPIi64Ii64Q B0 v0_0 a0.2.2.2.1) (h : gabionlaw16_InodeBack a0 a1 a2 = some r) : ∀ st, Hp B0 L st → ASpec Try.prog 12 [.agg [.int .u8 a0.1, .int .i64 a0.2.1, .int .i64 a0.2.2.1, v0_0, .str a0.2.2.2.2], .int .u16 a1, .str a2] st (gabionlaw16_InodeBack_P B0 L r) := by
  unfold gabionlaw16_InodeBack at h
  refine bodyA (A := []) Try.func12 rfl (c := bodyOf Try.f12) rfl Try.ntmps12 (lb rfl) fun n0 => ?_
  have hB := KLe.refl B0
  obtain ⟨_, _, _, _, _, rfl⟩ := g0_0.isl
  refine WX.seq ?_
  refine WX.reg ?_
  refine WO.md (MOp.box (cA rfl)) rfl rfl ?_
  rintro _ _ ⟨b1, rfl, rfl⟩
  refine WO.q (.as (v := .bool _) rfl) rfl rfl ?_
  refine WO.nil ?_
  refine WX.seq ?_
  refine WX.reg ?_
  refine WO.q (.ldA (i := 0) rfl rfl rfl ti81 rfl) rfl rfl ?_
  obtain ⟨y2, hy2, h⟩ := Option.bind_eq_some_iff.1 h
  refine WO.c1 rfl rfl (gabionlaw16_tame_ok g0_0 hy2) rfl rfl rfl ?_
  rintro _ B _ hK ⟨v3, b4, n5, c6, rfl, rfl, h7⟩
  obtain ⟨_, _, _, _, _, rfl⟩ := h7.isl
  replace g0_0 := g0_0.up hK
  replace hB := hB.trans hK
  refine WO.fz (j := 0) h7 rfl ?_
  intro B hK g8
  replace g0_0 := g0_0.up hK
  replace hB := hB.trans hK
  obtain ⟨y9, hy9, h⟩ := Option.bind_eq_some_iff.1 h
  refine WO.c1 rfl rfl (gabionlaw16_of_ok g8 hy9) rfl rfl rfl ?_
  rintro _ B _ hK ⟨v10, b11, n12, c13, rfl, rfl, h14⟩
  obtain ⟨_, _, _, _, _, rfl⟩ := h14.isl
  replace g0_0 := g0_0.up hK
  replace g8 := g8.up hK
  replace hB := hB.trans hK
  refine WO.md (MOp.alloc ti86 rfl) rfl rfl ?_
  rintro _ _ ⟨b15, rfl, rfl⟩
  refine WO.mn (MOp.storeW rfl (cA rfl) .h ti86 rfl rfl rfl) rfl ?_
  rintro _ _ rfl
  refine WO.nil ?_
  refine WX.seq ?_
  refine WX.reg ?_
  refine WO.q (.ldA (i := 0) rfl rfl rfl ti86 rfl) rfl rfl ?_
  refine WO.q (.mv (v := .int _ _) rfl) rfl rfl ?_
  refine WO.q (cvI ti60 ti3 rfl rfl) rfl rfl ?_
  obtain ⟨y16, hy16, h⟩ := Option.bind_eq_some_iff.1 h
  refine WO.cS rfl rfl (lendC (j := 1) h14 rfl fun _ K18 g17 => inode_Inode_Text_ok g17 hy16) rfl rfl rfl ?_
  rintro _ rfl
  obtain ⟨y19, hy19, h⟩ := Option.bind_eq_some_iff.1 h
  refine WO.c1 rfl rfl (inode_Parse_ok hy19) rfl rfl rfl ?_
  rintro _ B _ hK ⟨v20, b21, n22, c23, rfl, rfl, h24⟩
  obtain ⟨_, _, _, _, _, rfl⟩ := h24.isl
  replace g0_0 := g0_0.up hK
  replace h14 := h14.up hK
  replace hB := hB.trans hK
  refine WO.q (.mv (v := .tup _) rfl) rfl rfl ?_
  refine WO.q (.r fun _ => rfl) rfl rfl ?_
  refine WO.q (.r fun _ => rfl) rfl rfl ?_
  refine WO.q (.r fun _ => rfl) rfl rfl ?_
  refine WO.md (MOp.alloc ti86 rfl) rfl rfl ?_
  rintro _ _ ⟨b25, rfl, rfl⟩
  refine WO.q (.as (v := .int _ _) rfl) rfl rfl ?_
  refine WO.mn (MOp.storeW rfl (cA rfl) .h ti86 rfl rfl rfl) rfl ?_
  rintro _ _ rfl
  refine WO.q (.as (v := .int _ _) rfl) rfl rfl ?_
  refine WO.nil ?_
  refine WX.seq ?_
  refine WX.seq ?_
  refine WX.reg ?_
  obtain ⟨y26, hy26, h⟩ := Option.bind_eq_some_iff.1 h
  refine WO.cS rfl rfl (gabionlaw16_wakes_ok hy26) rfl rfl rfl ?_
  rintro _ rfl
  refine WO.q (.r fun _ => rfl) rfl rfl ?_
  refine WO.q (.mv (v := .bool _) rfl) rfl rfl ?_
  rcases bsp y26 with k27 | k27
  · replace h := (if_pos k27).symm.trans h
    refine WO.q (.mv (v := .int _ _) rfl) (wg rfl rfl (gf (f_not k27))) rfl ?_
    refine WO.q (.r fun _ => rfl) (wg rfl rfl (gf (f_not k27))) rfl ?_
    refine WO.q (.pfv (v := .bool _) rfl (f_not k27) rfl) rfl rfl ?_
    refine WO.q (.mv (v := .bool _) rfl) rfl rfl ?_
    rcases bsp (decide (y19.2.2 ≠ 0)) with k28 | k28
    · have q_k28 := of_decide_eq_true k28
      replace h := (if_pos q_k28).symm.trans h
      refine WO.sd (wg rfl rfl (gfn k28)) rfl ?_
      refine WO.sd (wg rfl rfl (gfn k28)) rfl ?_
      refine WO.sd (wg rfl rfl (gfn k28)) rfl ?_
      refine WO.sd (wg rfl rfl (gfn k28)) rfl ?_
      refine WO.q (.ptv (v := .bool _) rfl k28 rfl) rfl rfl ?_
      refine WO.q (.mv (v := .bool _) rfl) rfl rfl ?_
      refine WO.sd (wg rfl rfl (gfn rfl)) rfl ?_
      refine WO.sd (wg rfl rfl (gfn rfl)) rfl ?_
      refine WO.sd (wg rfl rfl (gfn rfl)) rfl ?_
      refine WO.sd (wg rfl rfl (gfn rfl)) rfl ?_
      refine WO.q (.ptv (v := .bool _) rfl rfl rfl) rfl rfl ?_
      refine WO.nil ?_
      refine WX.keep [2, 43] (WX.pk [] (by decide) ?_) rfl
      exact gabionlaw16_InodeBack_j3_ok h _ _ _ ⟨hB, rfl, rfl⟩
    · have q_k28 := of_decide_eq_false k28
      replace h := (if_neg q_k28).symm.trans h
      refine WO.q (.mv (v := .int _ _) rfl) (wg rfl rfl (gf k28)) rfl ?_
      refine WO.q (.mv (v := .int _ _) rfl) (wg rfl rfl (gf k28)) rfl ?_
      refine WO.q (cvI ti60 ti3 rfl rfl) (wg rfl rfl (gf k28)) rfl ?_
      refine WO.q (.r fun _ => rfl) (wg rfl rfl (gf k28)) rfl ?_
      refine WO.q (.pfv (v := .bool _) rfl k28 rfl) rfl rfl ?_
      refine WO.q (.mv (v := .bool _) rfl) rfl rfl ?_
      rcases bsp (decide (y19.1 ≠ (wi64 a1))) with k62 | k62
      · have q_k62 := of_decide_eq_true k62
        replace h := (if_pos q_k62).symm.trans h
        refine WO.sd (wg rfl rfl (gfn k62)) rfl ?_
        refine WO.sd (wg rfl rfl (gfn k62)) rfl ?_
        refine WO.sd (wg rfl rfl (gfn k62)) rfl ?_
        refine WO.sd (wg rfl rfl (gfn k62)) rfl ?_
        refine WO.q (.ptv (v := .bool _) rfl k62 rfl) rfl rfl ?_
        refine WO.nil ?_
        refine WX.keep [2, 43] (WX.pk [] (by decide) ?_) rfl
        exact gabionlaw16_InodeBack_j3_ok h _ _ _ ⟨hB, rfl, rfl⟩
      · have q_k62 := of_decide_eq_false k62
        replace h := (if_neg q_k62).symm.trans h
        refine WO.q (.ldA (i := 2) rfl rfl rfl ti86 rfl) (wg rfl rfl (gf k62)) rfl ?_
        refine WO.q (.ldA (i := 0) rfl rfl rfl ti86 rfl) (wg rfl rfl (gf k62)) rfl ?_
        obtain ⟨y63, hy63, h⟩ := Option.bind_eq_some_iff.1 h
        refine WO.cS rfl rfl (lendC (j := 3) h14 rfl fun _ K65 g64 => lendC (j := 1) (h24.up K65) rfl fun _ K67 g66 => inode_Equal_ok (g64.up K67) g66 hy63) rfl (wg rfl rfl (gf k62)) rfl ?_
        rintro _ rfl
        refine WO.q (.r fun _ => rfl) (wg rfl rfl (gf k62)) rfl ?_
        refine WO.q (.pfv (v := .bool _) rfl k62 rfl) rfl rfl ?_
        refine WO.nil ?_
        refine WX.keep [2, 43] (WX.pk [] (by decide) ?_) rfl
        exact gabionlaw16_InodeBack_j3_ok h _ _ _ ⟨hB, rfl, rfl⟩
  · replace h := (if_neg (bnt k27)).symm.trans h
    refine WO.sd (wg rfl rfl (gfn (t_not k27))) rfl ?_
    refine WO.sd (wg rfl rfl (gfn (t_not k27))) rfl ?_
    refine WO.q (.ptv (v := .bool _) rfl (t_not k27) rfl) rfl rfl ?_
    refine WO.q (.mv (v := .bool _) rfl) rfl rfl ?_
    refine WO.sd (wg rfl rfl (gfn rfl)) rfl ?_
    refine WO.sd (wg rfl rfl (gfn rfl)) rfl ?_
    refine WO.sd (wg rfl rfl (gfn rfl)) rfl ?_
    refine WO.sd (wg rfl rfl (gfn rfl)) rfl ?_
    refine WO.q (.ptv (v := .bool _) rfl rfl rfl) rfl rfl ?_
    refine WO.q (.mv (v := .bool _) rfl) rfl rfl ?_
    refine WO.sd (wg rfl rfl (gfn rfl)) rfl ?_
    refine WO.sd (wg rfl rfl (gfn rfl)) rfl ?_
    refine WO.sd (wg rfl rfl (gfn rfl)) rfl ?_
    refine WO.sd (wg rfl rfl (gfn rfl)) rfl ?_
    refine WO.q (.ptv (v := .bool _) rfl rfl rfl) rfl rfl ?_
    refine WO.nil ?_
    refine WX.keep [2, 43] (WX.pk [] (by decide) ?_) rfl
    exact gabionlaw16_InodeBack_j3_ok h _ _ _ ⟨hB, rfl, rfl⟩
end Gab
