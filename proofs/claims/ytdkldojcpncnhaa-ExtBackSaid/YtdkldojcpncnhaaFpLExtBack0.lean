/- The Go code comes to what the Lean functions say. Written by a program (gp.py). -/
import Derived.Test.YtdkldojcpncnhaaFd
import Derived.Test.YtdkldojcpncnhaaTy
import Derived.Test.YtdkldojcpncnhaaFpExt0
import Derived.Test.YtdkldojcpncnhaaFpExt1
import Derived.Test.YtdkldojcpncnhaaFpExt2
import Derived.Test.YtdkldojcpncnhaaFpExt3
import Derived.Test.YtdkldojcpncnhaaFpExt4
import Derived.Test.YtdkldojcpncnhaaFpLaw150
import Derived.Test.YtdkldojcpncnhaaFpLaw151
set_option linter.unusedSimpArgs false
set_option linter.unusedVariables false
set_option maxHeartbeats 4000000
set_option maxRecDepth 100000
namespace Gab
open Go Go.Proofs
def gabionlaw15_ExtBack_P (B : Kn) (L : Own) (r : Bool) : AV → St → Prop := CS B L fun v => v = .bool r
def gabionlaw15_ExtBack_l0_I (B0 : Kn) (x2 : Int) (x7 : List (Int × Int)) (x9 : Int) (x10 : List (Int × Int)) (x71 : List (Int × Int)) (x13 : Int) (x73 : Int) : Fr → Kn → Own → Prop := fun fr B A => KLe B0 B ∧ ∃ v36 v37 b37 n37 c37 v38, RSl EPIi64Ii64Q B v36 x7 ∧ OSl EPIi64Ii64Q B v37 b37 n37 c37 x10 ∧ RSl EPIi64Ii64Q B v38 x71 ∧ fr = [(2, .int .u8 x2), (7, v36), (9, .int .i64 x9), (10, v37), (13, .int .i64 x13), (71, v38), (72, .int .i64 (x71.length : Int)), (73, .int .i64 x73)] ∧ A = [oe b37 n37 c37]
def gabionlaw15_ExtBack_l0_X0 (B0 : Kn) (x2 : Int) (x7 : List (Int × Int)) (x9 : Int) (x10 : List (Int × Int)) (x13 : Int) : Fr → Kn → Own → Prop := fun fr B A => KLe B0 B ∧ ∃ v133 v134 b134 n134 c134, RSl EPIi64Ii64Q B v133 x7 ∧ OSl EPIi64Ii64Q B v134 b134 n134 c134 x10 ∧ fr = [(2, .int .u8 x2), (7, v133), (9, .int .i64 x9), (10, v134), (13, .int .i64 x13)] ∧ A = [oe b134 n134 c134]
def gabionlaw15_ExtBack_l1_I (B0 : Kn) (x2 : Int) (x7 : List (Int × Int)) (x10 : List (Int × Int)) (x89 : Int) (x90 : Int) : Fr → Kn → Own → Prop := fun fr B A => KLe B0 B ∧ ∃ v52 v53 b53 n53 c53, RSl EPIi64Ii64Q B v52 x7 ∧ OSl EPIi64Ii64Q B v53 b53 n53 c53 x10 ∧ fr = [(2, .int .u8 x2), (7, v52), (10, v53), (89, .int .i64 x89), (90, .int .i64 x90)] ∧ A = [oe b53 n53 c53]
def gabionlaw15_ExtBack_l1_X0 (B0 : Kn) (x2 : Int) (x7 : List (Int × Int)) : Fr → Kn → Own → Prop := fun fr B A => KLe B0 B ∧ ∃ v135, RSl EPIi64Ii64Q B v135 x7 ∧ fr = [(2, .int .u8 x2), (7, v135)] ∧ A = []
def gabionlaw15_ExtBack_j37_I (B0 : Kn) (x2 : Int) (x7 : List (Int × Int)) (x150 : Int) (x151 : Int) : Fr → Kn → Own → Prop := fun fr B A => KLe B0 B ∧ ∃ v92, RSl EPIi64Ii64Q B v92 x7 ∧ fr = [(2, .int .u8 x2), (7, v92), (150, .int .i64 x150), (151, .int .i64 x151)] ∧ A = []
def gabionlaw15_ExtBack_j45_I (B0 : Kn) (x2 : Int) (x7 : List (Int × Int)) (x25 : Int) (x28 : List (Int × Int)) (x150 : Int) (x151 : Int) (x179 : Int) (x180 : Int) (x214 : Bool) : Fr → Kn → Own → Prop := fun fr B A => KLe B0 B ∧ ∃ v102 v103, RSl EPIi64Ii64Q B v102 x7 ∧ RSl EPIi64Ii64Q B v103 x28 ∧ fr = [(2, .int .u8 x2), (7, v102), (25, .int .i64 x25), (28, v103), (150, .int .i64 x150), (151, .int .i64 x151), (179, .int .i64 x179), (180, .int .i64 x180), (214, .bool x214)] ∧ A = []
def gabionlaw15_ExtBack_l3_I (B0 : Kn) (x2 : Int) (x7 : List (Int × Int)) (x28 : List (Int × Int)) (x150 : Int) (x179 : Int) (x25 : Int) (x151 : Int) (x180 : Int) : Fr → Kn → Own → Prop := fun fr B A => KLe B0 B ∧ ∃ v95 v96, RSl EPIi64Ii64Q B v95 x7 ∧ RSl EPIi64Ii64Q B v96 x28 ∧ fr = [(2, .int .u8 x2), (7, v95), (25, .int .i64 x25), (28, v96), (150, .int .i64 x150), (151, .int .i64 x151), (179, .int .i64 x179), (180, .int .i64 x180)] ∧ A = []
def gabionlaw15_ExtBack_l3_X0 (B0 : Kn) (x2 : Int) (x7 : List (Int × Int)) (x150 : Int) (x151 : Int) : Fr → Kn → Own → Prop := fun fr B A => KLe B0 B ∧ ∃ v136, RSl EPIi64Ii64Q B v136 x7 ∧ fr = [(2, .int .u8 x2), (7, v136), (150, .int .i64 x150), (151, .int .i64 x151)] ∧ A = []
def gabionlaw15_ExtBack_l2_I (B0 : Kn) (x2 : Int) (x7 : List (Int × Int)) (x150 : Int) (x151 : Int) : Fr → Kn → Own → Prop := fun fr B A => KLe B0 B ∧ ∃ v84, RSl EPIi64Ii64Q B v84 x7 ∧ fr = [(2, .int .u8 x2), (7, v84), (150, .int .i64 x150), (151, .int .i64 x151)] ∧ A = []
def gabionlaw15_ExtBack_l2_X0 (B0 : Kn) : Fr → Kn → Own → Prop := fun fr B A => KLe B0 B ∧ fr = [] ∧ A = []
def gabionlaw15_ExtBack_j28_I (B0 : Kn) (x2 : Int) (x7 : List (Int × Int)) : Fr → Kn → Own → Prop := fun fr B A => KLe B0 B ∧ ∃ v82, RSl EPIi64Ii64Q B v82 x7 ∧ fr = [(2, .int .u8 x2), (7, v82)] ∧ A = []
def gabionlaw15_ExtBack_j27_I (B0 : Kn) (x2 : Int) (x7 : List (Int × Int)) (x148 : Bool) : Fr → Kn → Own → Prop := fun fr B A => KLe B0 B ∧ ∃ v80, RSl EPIi64Ii64Q B v80 x7 ∧ fr = [(2, .int .u8 x2), (7, v80), (148, .bool x148)] ∧ A = []
def gabionlaw15_ExtBack_j4_I (B0 : Kn) (x2 : Int) (x7 : List (Int × Int)) (x9 : Int) (x10 : List (Int × Int)) (x11 : List (Int × Int)) (x70 : Bool) : Fr → Kn → Own → Prop := fun fr B A => KLe B0 B ∧ ∃ v32 v33 b33 n33 c33 v34, RSl EPIi64Ii64Q B v32 x7 ∧ OSl EPIi64Ii64Q B v33 b33 n33 c33 x10 ∧ RSl EPIi64Ii64Q B v34 x11 ∧ fr = [(2, .int .u8 x2), (7, v32), (9, .int .i64 x9), (10, v33), (11, v34), (70, .bool x70)] ∧ A = [oe b33 n33 c33]
theorem gabionlaw15_ExtBack_l0_s {B0 : Kn} {L : Own} {n0 : Nat} {x2 : Int} {x7 : List (Int × Int)} {x9 : Int} {x10 : List (Int × Int)} {x71 : List (Int × Int)} {x13 : Int} {x73 : Int} {Q : AV → St → Prop} {E : (Int × Int) ⊕ Int → Prop} {o : (Int × Int) ⊕ Int} (h : gabionlaw15_ExtBack_l0 x2 x7 x9 x10 x71 x13 x73 = some o) (hn : ∀ s, E (.inl s) → WXI Try.prog 220 n0 (Fin Try.prog Try.f6.results.toList n0 Q) [.lp (ct [1, 1, 1, 1, 1, 1, 0, 1, 0, 0] (bodyOf Try.f6)), .blk 0, .code (ct [1, 1, 1, 1, 1, 1, 1] (bodyOf Try.f6))] (gabionlaw15_ExtBack_l0_I B0 x2 x7 x9 x10 x71 s.1 s.2) L) (hx0 : ∀ s, E (.inr s) → WXI Try.prog 220 n0 (Fin Try.prog Try.f6.results.toList n0 Q) [.code (ct [1, 1, 1, 1, 1, 1, 1] (bodyOf Try.f6))] (gabionlaw15_ExtBack_l0_X0 B0 x2 x7 x9 x10 s) L) (hE : E o) : WXI Try.prog 220 n0 (Fin Try.prog Try.f6.results.toList n0 Q) [.code (ct [1, 1, 1, 1, 1, 1, 0, 1, 0, 0] (bodyOf Try.f6)), .lp (ct [1, 1, 1, 1, 1, 1, 0, 1, 0, 0] (bodyOf Try.f6)), .blk 0, .code (ct [1, 1, 1, 1, 1, 1, 1] (bodyOf Try.f6))] (gabionlaw15_ExtBack_l0_I B0 x2 x7 x9 x10 x71 x13 x73) L := by
  unfold gabionlaw15_ExtBack_l0 at h
  rintro _ B _ ⟨hB, v36, v37, b37, n37, c37, v38, h36, h37, h38, rfl, rfl⟩
  obtain ⟨_, _, _, _, _, rfl⟩ := h36.isl
  obtain ⟨_, _, _, _, _, rfl⟩ := h37.isl
  obtain ⟨_, _, _, _, _, rfl⟩ := h38.isl
  refine WX.seq ?_
  refine WX.reg ?_
  refine WO.q (.r fun _ => rfl) rfl rfl ?_
  refine WO.nil ?_
  refine WX.seq ?_
  rcases bsp (decide (x73 < (x71.length : Int))) with k39 | k39
  · have q_k39 := of_decide_eq_true k39
    replace h := (if_pos q_k39).symm.trans h
    refine WX.condT rfl k39 ?_
    refine WX.skip ?_
    refine WX.seq ?_
    refine WX.block ?_
    refine WX.seq ?_
    refine WX.reg ?_
    obtain ⟨y40, hy40, h⟩ := Option.bind_eq_some_iff.1 h
    obtain ⟨b_y40, o_y40, _, i_y40, p_y40, r_y40⟩ := h38.at sl23 hy40 .i64
    obtain ⟨_, _, rfl, rfl, rfl⟩ := r_y40
    refine WO.q (.ia i_y40) rfl rfl ?_
    refine WO.q (.lpA rfl p_y40 ti35 rfl rfl) rfl rfl ?_
    refine WO.md (MOp.alloc ti35 rfl) rfl rfl ?_
    rintro _ _ ⟨b41, rfl, rfl⟩
    refine WO.mn (MOp.storeW rfl (cA rfl) .h ti35 rfl rfl rfl) rfl ?_
    rintro _ _ rfl
    refine WO.nil ?_
    refine WX.reg ?_
    refine WO.q (.mv (v := .int _ _) rfl) rfl rfl ?_
    refine WO.q (.fa (fa35_1 _ _)) rfl rfl ?_
    refine WO.q (.ldS (i := 0) rfl rfl rfl ti3 rfl) rfl rfl ?_
    refine WO.q (.r fun _ => rfl) rfl rfl ?_
    refine WO.q (.as (v := .int _ _) rfl) rfl rfl ?_
    refine WO.nil ?_
    refine WX.pop ?_
    refine WX.reg ?_
    refine WO.q (.r fun _ => rfl) rfl rfl ?_
    refine WO.q (.mv (v := .int _ _) rfl) rfl rfl ?_
    refine WO.nil ?_
    refine WX.keepL [2, 7, 9, 10, 13, 71, 72, 73] (WX.pk [1] (by decide) ?_) rfl
    obtain rfl := Option.some.inj h
    exact hn _ hE _ _ _ ⟨hB, _, _, _, n37, _, _, h36, h37, h38, rfl, rfl⟩
  · have q_k39 := of_decide_eq_false k39
    replace h := (if_neg q_k39).symm.trans h
    refine WX.condF rfl k39 ?_
    refine WX.exit rfl ?_
    refine WX.keep [2, 7, 9, 10, 13] (WX.pk [0] (by decide) ?_) rfl
    obtain rfl := Option.some.inj h
    exact hx0 _ hE _ _ _ ⟨hB, _, _, _, n37, _, h36, h37, rfl, rfl⟩
theorem gabionlaw15_ExtBack_l0_ok {B0 : Kn} {L : Own} {n0 : Nat} {x2 : Int} {x7 : List (Int × Int)} {x9 : Int} {x10 : List (Int × Int)} {x71 : List (Int × Int)} {x13 : Int} {x73 : Int} {Q : AV → St → Prop} {d : Nat} {e : Int} (h : iter (fun (s : Int × Int) => gabionlaw15_ExtBack_l0 x2 x7 x9 x10 x71 s.1 s.2) d (x13, x73) = some e) (g0 : ∀ s, e = s → WXI Try.prog 220 n0 (Fin Try.prog Try.f6.results.toList n0 Q) [.code (ct [1, 1, 1, 1, 1, 1, 1] (bodyOf Try.f6))] (gabionlaw15_ExtBack_l0_X0 B0 x2 x7 x9 x10 s) L) : WXI Try.prog 220 n0 (Fin Try.prog Try.f6.results.toList n0 Q) [.code (ct [1, 1, 1, 1, 1, 1, 0, 1, 0, 0] (bodyOf Try.f6)), .lp (ct [1, 1, 1, 1, 1, 1, 0, 1, 0, 0] (bodyOf Try.f6)), .blk 0, .code (ct [1, 1, 1, 1, 1, 1, 1] (bodyOf Try.f6))] (gabionlaw15_ExtBack_l0_I B0 x2 x7 x9 x10 x71 x13 x73) L :=
  iter_ok (I := fun s => gabionlaw15_ExtBack_l0_I B0 x2 x7 x9 x10 x71 s.1 s.2) (D := fun e => (∀ s, e = s → WXI Try.prog 220 n0 (Fin Try.prog Try.f6.results.toList n0 Q) [.code (ct [1, 1, 1, 1, 1, 1, 1] (bodyOf Try.f6))] (gabionlaw15_ExtBack_l0_X0 B0 x2 x7 x9 x10 s) L)) (fun E hn hx s o ho hE => gabionlaw15_ExtBack_l0_s ho hn (fun s hs => (hx _ hs) _ rfl)  hE) h g0
theorem gabionlaw15_ExtBack_l1_s {B0 : Kn} {L : Own} {n0 : Nat} {x2 : Int} {x7 : List (Int × Int)} {x10 : List (Int × Int)} {x89 : Int} {x90 : Int} {Q : AV → St → Prop} {E : Int ⊕ (Bool ⊕ Unit) → Prop} {o : Int ⊕ (Bool ⊕ Unit)} (h : gabionlaw15_ExtBack_l1 x2 x7 x10 x89 x90 = some o) (hn : ∀ s, E (.inl s) → WXI Try.prog 220 n0 (Fin Try.prog Try.f6.results.toList n0 Q) [.lp (ct [1, 1, 1, 1, 1, 1, 1, 1, 0, 1, 0, 0] (bodyOf Try.f6)), .blk 2, .code (ct [1, 1, 1, 1, 1, 1, 1, 1, 1] (bodyOf Try.f6))] (gabionlaw15_ExtBack_l1_I B0 x2 x7 x10 x89 s) L) (hx0 : ∀ s, E (.inr (.inr s)) → WXI Try.prog 220 n0 (Fin Try.prog Try.f6.results.toList n0 Q) [.code (ct [1, 1, 1, 1, 1, 1, 1, 1, 1] (bodyOf Try.f6))] (gabionlaw15_ExtBack_l1_X0 B0 x2 x7) L) (hr : ∀ r, E (.inr (.inl r)) → ∀ v st, gabionlaw15_ExtBack_P B0 L r v st → Q v st) (hE : E o) : WXI Try.prog 220 n0 (Fin Try.prog Try.f6.results.toList n0 Q) [.code (ct [1, 1, 1, 1, 1, 1, 1, 1, 0, 1, 0, 0] (bodyOf Try.f6)), .lp (ct [1, 1, 1, 1, 1, 1, 1, 1, 0, 1, 0, 0] (bodyOf Try.f6)), .blk 2, .code (ct [1, 1, 1, 1, 1, 1, 1, 1, 1] (bodyOf Try.f6))] (gabionlaw15_ExtBack_l1_I B0 x2 x7 x10 x89 x90) L := by
  unfold gabionlaw15_ExtBack_l1 at h
  rintro _ B _ ⟨hB, v52, v53, b53, n53, c53, h52, h53, rfl, rfl⟩
  obtain ⟨_, _, _, _, _, rfl⟩ := h52.isl
  obtain ⟨_, _, _, _, _, rfl⟩ := h53.isl
  refine WX.seq ?_
  refine WX.reg ?_
  refine WO.q (.r fun _ => rfl) rfl rfl ?_
  refine WO.nil ?_
  refine WX.seq ?_
  rcases bsp (decide (x90 < x89)) with k54 | k54
  · have q_k54 := of_decide_eq_true k54
    replace h := (if_pos q_k54).symm.trans h
    refine WX.condT rfl k54 ?_
    refine WX.skip ?_
    refine WX.seq ?_
    refine WX.block ?_
    refine WX.seq ?_
    refine WX.reg ?_
    refine WO.q (.mv (v := .int _ _) rfl) rfl rfl ?_
    refine WO.q (.as (v := .int _ _) rfl) rfl rfl ?_
    refine WO.nil ?_
    refine WX.seq ?_
    refine WX.reg ?_
    refine WO.q (.mv (v := .sl _ _ _ _ _ _) rfl) rfl rfl ?_
    refine WO.q (.mv (v := .int _ _) rfl) rfl rfl ?_
    obtain ⟨y55, hy55, h⟩ := Option.bind_eq_some_iff.1 h
    refine WO.cS rfl rfl (lendC (j := 0) h53 rfl fun _ K57 g56 => ext_List_Map_ok g56 hy55) rfl rfl rfl ?_
    rintro _ rfl
    refine WO.q (.mv (v := .tup _) rfl) rfl rfl ?_
    refine WO.q (.r fun _ => rfl) rfl rfl ?_
    refine WO.q (.r fun _ => rfl) rfl rfl ?_
    refine WO.q (.as (v := .int _ _) rfl) rfl rfl ?_
    refine WO.q (.as (v := .bool _) rfl) rfl rfl ?_
    refine WO.nil ?_
    refine WX.seq ?_
    refine WX.reg ?_
    refine WO.q (.mv (v := .sl _ _ _ _ _ _) rfl) rfl rfl ?_
    refine WO.q (.mv (v := .int _ _) rfl) rfl rfl ?_
    obtain ⟨y58, hy58, h⟩ := Option.bind_eq_some_iff.1 h
    refine WO.cS rfl rfl (ext_List_Map_ok h52 hy58) rfl rfl rfl ?_
    rintro _ rfl
    refine WO.q (.mv (v := .tup _) rfl) rfl rfl ?_
    refine WO.q (.r fun _ => rfl) rfl rfl ?_
    refine WO.q (.r fun _ => rfl) rfl rfl ?_
    refine WO.q (.as (v := .int _ _) rfl) rfl rfl ?_
    refine WO.q (.as (v := .bool _) rfl) rfl rfl ?_
    refine WO.nil ?_
    refine WX.seq ?_
    refine WX.reg ?_
    refine WO.q (.mv (v := .int _ _) rfl) rfl rfl ?_
    refine WO.q (.mv (v := .int _ _) rfl) rfl rfl ?_
    refine WO.q (.r fun _ => rfl) rfl rfl ?_
    refine WO.nil ?_
    rcases bsp (decide (y55.1 ≠ y58.1)) with k59 | k59
    · have q_k59 := of_decide_eq_true k59
      replace h := (if_pos q_k59).symm.trans h
      refine WX.condT rfl k59 ?_
      refine WX.seq ?_
      refine WX.reg ?_
      refine WO.q (.as (v := .bool _) rfl) rfl rfl ?_
      refine WO.nil ?_
      obtain rfl := Option.some.inj h
      exact WX.ret (rs_ (rs_tmp rfl rs_nil)) fun st hp => hr _ hE _ _ ⟨(hp.pk [] (by decide)).le hB, rfl⟩
    · have q_k59 := of_decide_eq_false k59
      replace h := (if_neg q_k59).symm.trans h
      refine WX.condF rfl k59 ?_
      refine WX.skip ?_
      refine WX.pop ?_
      refine WX.reg ?_
      refine WO.q (.r fun _ => rfl) rfl rfl ?_
      refine WO.q (.mv (v := .int _ _) rfl) rfl rfl ?_
      refine WO.nil ?_
      refine WX.keepL [2, 7, 10, 89, 90] (WX.pk [0] (by decide) ?_) rfl
      obtain rfl := Option.some.inj h
      exact hn _ hE _ _ _ ⟨hB, _, _, _, n53, _, h52, h53, rfl, rfl⟩
  · have q_k54 := of_decide_eq_false k54
    replace h := (if_neg q_k54).symm.trans h
    refine WX.condF rfl k54 ?_
    refine WX.exit rfl ?_
    refine WX.keep [2, 7] (WX.pk [] (by decide) ?_) rfl
    obtain rfl := Option.some.inj h
    exact hx0 _ hE _ _ _ ⟨hB, _, h52, rfl, rfl⟩
theorem gabionlaw15_ExtBack_l1_ok {B0 : Kn} {L : Own} {n0 : Nat} {x2 : Int} {x7 : List (Int × Int)} {x10 : List (Int × Int)} {x89 : Int} {x90 : Int} {Q : AV → St → Prop} {d : Nat} {e : Bool ⊕ Unit} (h : iter (fun (s : Int) => gabionlaw15_ExtBack_l1 x2 x7 x10 x89 s) d x90 = some e) (g0 : ∀ r, e = (.inl r) → ∀ v st, gabionlaw15_ExtBack_P B0 L r v st → Q v st) (g1 : ∀ s, e = (.inr s) → WXI Try.prog 220 n0 (Fin Try.prog Try.f6.results.toList n0 Q) [.code (ct [1, 1, 1, 1, 1, 1, 1, 1, 1] (bodyOf Try.f6))] (gabionlaw15_ExtBack_l1_X0 B0 x2 x7) L) : WXI Try.prog 220 n0 (Fin Try.prog Try.f6.results.toList n0 Q) [.code (ct [1, 1, 1, 1, 1, 1, 1, 1, 0, 1, 0, 0] (bodyOf Try.f6)), .lp (ct [1, 1, 1, 1, 1, 1, 1, 1, 0, 1, 0, 0] (bodyOf Try.f6)), .blk 2, .code (ct [1, 1, 1, 1, 1, 1, 1, 1, 1] (bodyOf Try.f6))] (gabionlaw15_ExtBack_l1_I B0 x2 x7 x10 x89 x90) L :=
  iter_ok (I := fun s => gabionlaw15_ExtBack_l1_I B0 x2 x7 x10 x89 s) (D := fun e => (∀ r, e = (.inl r) → ∀ v st, gabionlaw15_ExtBack_P B0 L r v st → Q v st) ∧ (∀ s, e = (.inr s) → WXI Try.prog 220 n0 (Fin Try.prog Try.f6.results.toList n0 Q) [.code (ct [1, 1, 1, 1, 1, 1, 1, 1, 1] (bodyOf Try.f6))] (gabionlaw15_ExtBack_l1_X0 B0 x2 x7) L)) (fun E hn hx s o ho hE => gabionlaw15_ExtBack_l1_s ho hn (fun s hs => (hx _ hs).2 _ rfl) (fun r hs => (hx _ hs).1 _ rfl) hE) h ⟨g0, g1⟩
theorem gabionlaw15_ExtBack_j37_ok {B0 : Kn} {L : Own} {n0 : Nat} {x2 : Int} {x7 : List (Int × Int)} {x150 : Int} {x151 : Int} {Q : AV → St → Prop} {E : Int ⊕ (Bool ⊕ Unit) → Prop} {o : Int ⊕ (Bool ⊕ Unit)} (h : gabionlaw15_ExtBack_j37 x2 x7 x150 x151 = some o) (hn : ∀ s, E (.inl s) → WXI Try.prog 220 n0 (Fin Try.prog Try.f6.results.toList n0 Q) [.lp (ct [1, 1, 1, 1, 1, 1, 1, 1, 1, 1, 1, 0, 1, 0, 0] (bodyOf Try.f6)), .blk 4, .code (ct [1, 1, 1, 1, 1, 1, 1, 1, 1, 1, 1, 1] (bodyOf Try.f6))] (gabionlaw15_ExtBack_l2_I B0 x2 x7 x150 s) L) (hx0 : ∀ s, E (.inr (.inr s)) → WXI Try.prog 220 n0 (Fin Try.prog Try.f6.results.toList n0 Q) [.code (ct [1, 1, 1, 1, 1, 1, 1, 1, 1, 1, 1, 1] (bodyOf Try.f6))] (gabionlaw15_ExtBack_l2_X0 B0) L) (hr : ∀ r, E (.inr (.inl r)) → ∀ v st, gabionlaw15_ExtBack_P B0 L r v st → Q v st) (hE : E o) : WXI Try.prog 220 n0 (Fin Try.prog Try.f6.results.toList n0 Q) [.code (ct [1, 1, 1, 1, 1, 1, 1, 1, 1, 1, 1, 0, 1, 0, 0, 1, 1, 1] (bodyOf Try.f6)), .lp (ct [1, 1, 1, 1, 1, 1, 1, 1, 1, 1, 1, 0, 1, 0, 0] (bodyOf Try.f6)), .blk 4, .code (ct [1, 1, 1, 1, 1, 1, 1, 1, 1, 1, 1, 1] (bodyOf Try.f6))] (gabionlaw15_ExtBack_j37_I B0 x2 x7 x150 x151) L := by
  unfold gabionlaw15_ExtBack_j37 at h
  rintro _ B _ ⟨hB, v92, h92, rfl, rfl⟩
  obtain ⟨_, _, _, _, _, rfl⟩ := h92.isl
  refine WX.reg ?_
  refine WO.q (.r fun _ => rfl) rfl rfl ?_
  refine WO.q (.mv (v := .int _ _) rfl) rfl rfl ?_
  refine WO.nil ?_
  refine WX.keepL [2, 7, 150, 151] (WX.pk [] (by decide) ?_) rfl
  obtain rfl := Option.some.inj h
  exact hn _ hE _ _ _ ⟨hB, _, h92, rfl, rfl⟩
theorem gabionlaw15_ExtBack_j45_ok {B0 : Kn} {L : Own} {n0 : Nat} {x2 : Int} {x7 : List (Int × Int)} {x25 : Int} {x28 : List (Int × Int)} {x150 : Int} {x151 : Int} {x179 : Int} {x180 : Int} {x214 : Bool} {Q : AV → St → Prop} {E : (Int × Int × Int) ⊕ (Bool ⊕ Int) → Prop} {o : (Int × Int × Int) ⊕ (Bool ⊕ Int)} (h : gabionlaw15_ExtBack_j45 x2 x7 x25 x28 x150 x151 x179 x180 x214 = some o) (hn : ∀ s, E (.inl s) → WXI Try.prog 220 n0 (Fin Try.prog Try.f6.results.toList n0 Q) [.lp (ct [1, 1, 1, 1, 1, 1, 1, 1, 1, 1, 1, 0, 1, 0, 0, 1, 1, 0, 0, 1, 1, 1, 0, 1, 1, 1, 0, 1, 0, 0] (bodyOf Try.f6)), .blk 7, .blk 6, .blk 5, .code (ct [1, 1, 1, 1, 1, 1, 1, 1, 1, 1, 1, 0, 1, 0, 0, 1, 1, 1] (bodyOf Try.f6)), .lp (ct [1, 1, 1, 1, 1, 1, 1, 1, 1, 1, 1, 0, 1, 0, 0] (bodyOf Try.f6)), .blk 4, .code (ct [1, 1, 1, 1, 1, 1, 1, 1, 1, 1, 1, 1] (bodyOf Try.f6))] (gabionlaw15_ExtBack_l3_I B0 x2 x7 x28 x150 x179 s.1 s.2.1 s.2.2) L) (hx0 : ∀ s, E (.inr (.inr s)) → WXI Try.prog 220 n0 (Fin Try.prog Try.f6.results.toList n0 Q) [.code (ct [1, 1, 1, 1, 1, 1, 1, 1, 1, 1, 1, 0, 1, 0, 0, 1, 1, 1] (bodyOf Try.f6)), .lp (ct [1, 1, 1, 1, 1, 1, 1, 1, 1, 1, 1, 0, 1, 0, 0] (bodyOf Try.f6)), .blk 4, .code (ct [1, 1, 1, 1, 1, 1, 1, 1, 1, 1, 1, 1] (bodyOf Try.f6))] (gabionlaw15_ExtBack_l3_X0 B0 x2 x7 x150 s) L) (hr : ∀ r, E (.inr (.inl r)) → ∀ v st, gabionlaw15_ExtBack_P B0 L r v st → Q v st) (hE : E o) : WXI Try.prog 220 n0 (Fin Try.prog Try.f6.results.toList n0 Q) [.code (ct [1, 1, 1, 1, 1, 1, 1, 1, 1, 1, 1, 0, 1, 0, 0, 1, 1, 0, 0, 1, 1, 1, 0, 1, 1, 1, 0, 1, 0, 0, 1, 1, 0, 0, 1, 1, 1, 1] (bodyOf Try.f6)), .blk 8, .code (ct [1, 1, 1, 1, 1, 1, 1, 1, 1, 1, 1, 0, 1, 0, 0, 1, 1, 0, 0, 1, 1, 1, 0, 1, 1, 1, 0, 1, 0, 0, 1, 1, 1] (bodyOf Try.f6)), .lp (ct [1, 1, 1, 1, 1, 1, 1, 1, 1, 1, 1, 0, 1, 0, 0, 1, 1, 0, 0, 1, 1, 1, 0, 1, 1, 1, 0, 1, 0, 0] (bodyOf Try.f6)), .blk 7, .blk 6, .blk 5, .code (ct [1, 1, 1, 1, 1, 1, 1, 1, 1, 1, 1, 0, 1, 0, 0, 1, 1, 1] (bodyOf Try.f6)), .lp (ct [1, 1, 1, 1, 1, 1, 1, 1, 1, 1, 1, 0, 1, 0, 0] (bodyOf Try.f6)), .blk 4, .code (ct [1, 1, 1, 1, 1, 1, 1, 1, 1, 1, 1, 1] (bodyOf Try.f6))] (gabionlaw15_ExtBack_j45_I B0 x2 x7 x25 x28 x150 x151 x179 x180 x214) L := by
  unfold gabionlaw15_ExtBack_j45 at h
  rintro _ B _ ⟨hB, v102, v103, h102, h103, rfl, rfl⟩
  obtain ⟨_, _, _, _, _, rfl⟩ := h102.isl
  obtain ⟨_, _, _, _, _, rfl⟩ := h103.isl
  rcases bsp x214 with k104 | k104
  · replace h := (if_pos k104).symm.trans h
    refine WX.condT rfl k104 ?_
    refine WX.seq ?_
    refine WX.reg ?_
    refine WO.q (.as (v := .bool _) rfl) rfl rfl ?_
    refine WO.nil ?_
    obtain rfl := Option.some.inj h
    exact WX.ret (rs_ (rs_tmp rfl rs_nil)) fun st hp => hr _ hE _ _ ⟨(hp.pk [] (by decide)).le hB, rfl⟩
  · replace h := (if_neg (bnt k104)).symm.trans h
    refine WX.condF rfl k104 ?_
    refine WX.skip ?_
    refine WX.pop ?_
    refine WX.reg ?_
    refine WO.q (.r fun _ => rfl) rfl rfl ?_
    refine WO.q (.mv (v := .int _ _) rfl) rfl rfl ?_
    refine WO.nil ?_
    refine WX.keepL [2, 7, 25, 28, 150, 151, 179, 180] (WX.pk [] (by decide) ?_) rfl
    obtain rfl := Option.some.inj h
    exact hn _ hE _ _ _ ⟨hB, _, _, h102, h103, rfl, rfl⟩
theorem gabionlaw15_ExtBack_l3_s {B0 : Kn} {L : Own} {n0 : Nat} {x2 : Int} {x7 : List (Int × Int)} {x28 : List (Int × Int)} {x150 : Int} {x179 : Int} {x25 : Int} {x151 : Int} {x180 : Int} {Q : AV → St → Prop} {E : (Int × Int × Int) ⊕ (Bool ⊕ Int) → Prop} {o : (Int × Int × Int) ⊕ (Bool ⊕ Int)} (h : gabionlaw15_ExtBack_l3 x2 x7 x28 x150 x179 x25 x151 x180 = some o) (hn : ∀ s, E (.inl s) → WXI Try.prog 220 n0 (Fin Try.prog Try.f6.results.toList n0 Q) [.lp (ct [1, 1, 1, 1, 1, 1, 1, 1, 1, 1, 1, 0, 1, 0, 0, 1, 1, 0, 0, 1, 1, 1, 0, 1, 1, 1, 0, 1, 0, 0] (bodyOf Try.f6)), .blk 7, .blk 6, .blk 5, .code (ct [1, 1, 1, 1, 1, 1, 1, 1, 1, 1, 1, 0, 1, 0, 0, 1, 1, 1] (bodyOf Try.f6)), .lp (ct [1, 1, 1, 1, 1, 1, 1, 1, 1, 1, 1, 0, 1, 0, 0] (bodyOf Try.f6)), .blk 4, .code (ct [1, 1, 1, 1, 1, 1, 1, 1, 1, 1, 1, 1] (bodyOf Try.f6))] (gabionlaw15_ExtBack_l3_I B0 x2 x7 x28 x150 x179 s.1 s.2.1 s.2.2) L) (hx0 : ∀ s, E (.inr (.inr s)) → WXI Try.prog 220 n0 (Fin Try.prog Try.f6.results.toList n0 Q) [.code (ct [1, 1, 1, 1, 1, 1, 1, 1, 1, 1, 1, 0, 1, 0, 0, 1, 1, 1] (bodyOf Try.f6)), .lp (ct [1, 1, 1, 1, 1, 1, 1, 1, 1, 1, 1, 0, 1, 0, 0] (bodyOf Try.f6)), .blk 4, .code (ct [1, 1, 1, 1, 1, 1, 1, 1, 1, 1, 1, 1] (bodyOf Try.f6))] (gabionlaw15_ExtBack_l3_X0 B0 x2 x7 x150 s) L) (hr : ∀ r, E (.inr (.inl r)) → ∀ v st, gabionlaw15_ExtBack_P B0 L r v st → Q v st) (hE : E o) : WXI Try.prog 220 n0 (Fin Try.prog Try.f6.results.toList n0 Q) [.code (ct [1, 1, 1, 1, 1, 1, 1, 1, 1, 1, 1, 0, 1, 0, 0, 1, 1, 0, 0, 1, 1, 1, 0, 1, 1, 1, 0, 1, 0, 0] (bodyOf Try.f6)), .lp (ct [1, 1, 1, 1, 1, 1, 1, 1, 1, 1, 1, 0, 1, 0, 0, 1, 1, 0, 0, 1, 1, 1, 0, 1, 1, 1, 0, 1, 0, 0] (bodyOf Try.f6)), .blk 7, .blk 6, .blk 5, .code (ct [1, 1, 1, 1, 1, 1, 1, 1, 1, 1, 1, 0, 1, 0, 0, 1, 1, 1] (bodyOf Try.f6)), .lp (ct [1, 1, 1, 1, 1, 1, 1, 1, 1, 1, 1, 0, 1, 0, 0] (bodyOf Try.f6)), .blk 4, .code (ct [1, 1, 1, 1, 1, 1, 1, 1, 1, 1, 1, 1] (bodyOf Try.f6))] (gabionlaw15_ExtBack_l3_I B0 x2 x7 x28 x150 x179 x25 x151 x180) L := by
  unfold gabionlaw15_ExtBack_l3 at h
  rintro _ B _ ⟨hB, v95, v96, h95, h96, rfl, rfl⟩
  obtain ⟨_, _, _, _, _, rfl⟩ := h95.isl
  obtain ⟨_, _, _, _, _, rfl⟩ := h96.isl
  refine WX.seq ?_
  refine WX.reg ?_
  refine WO.q (.r fun _ => rfl) rfl rfl ?_
  refine WO.nil ?_
  refine WX.seq ?_
  rcases bsp (decide (x180 < x179)) with k97 | k97
  · have q_k97 := of_decide_eq_true k97
    replace h := (if_pos q_k97).symm.trans h
    refine WX.condT rfl k97 ?_
    refine WX.skip ?_
    refine WX.seq ?_
    refine WX.block ?_
    refine WX.seq ?_
    refine WX.reg ?_
    refine WO.q (.mv (v := .int _ _) rfl) rfl rfl ?_
    refine WO.q (.as (v := .int _ _) rfl) rfl rfl ?_
    refine WO.nil ?_
    refine WX.seq ?_
    refine WX.reg ?_
    refine WO.q (.mv (v := .sl _ _ _ _ _ _) rfl) rfl rfl ?_
    refine WO.q (.mv (v := .int _ _) rfl) rfl rfl ?_
    obtain ⟨y98, hy98, h⟩ := Option.bind_eq_some_iff.1 h
    refine WO.cS rfl rfl (ext_List_Map_ok h95 hy98) rfl rfl rfl ?_
    rintro _ rfl
    refine WO.q (.mv (v := .tup _) rfl) rfl rfl ?_
    refine WO.q (.r fun _ => rfl) rfl rfl ?_
    refine WO.q (.r fun _ => rfl) rfl rfl ?_
    refine WO.q (.as (v := .int _ _) rfl) rfl rfl ?_
    refine WO.q (.as (v := .bool _) rfl) rfl rfl ?_
    refine WO.nil ?_
    refine WX.seq ?_
    refine WX.reg ?_
    refine WO.q (.mv (v := .sl _ _ _ _ _ _) rfl) rfl rfl ?_
    refine WO.q (.mv (v := .int _ _) rfl) rfl rfl ?_
    obtain ⟨y99, hy99, h⟩ := Option.bind_eq_some_iff.1 h
    refine WO.cS rfl rfl (ext_List_Map_ok h96 hy99) rfl rfl rfl ?_
    rintro _ rfl
    refine WO.q (.mv (v := .tup _) rfl) rfl rfl ?_
    refine WO.q (.r fun _ => rfl) rfl rfl ?_
    refine WO.q (.r fun _ => rfl) rfl rfl ?_
    refine WO.q (.as (v := .int _ _) rfl) rfl rfl ?_
    refine WO.q (.as (v := .bool _) rfl) rfl rfl ?_
    refine WO.nil ?_
    refine WX.seq ?_
    refine WX.reg ?_
    refine WO.q (.mv (v := .int _ _) rfl) rfl rfl ?_
    refine WO.q (.mv (v := .int _ _) rfl) rfl rfl ?_
    refine WO.q (.r fun _ => rfl) rfl rfl ?_
    refine WO.q (.mv (v := .bool _) rfl) rfl rfl ?_
    rcases bsp (decide (x180 = x25)) with k100 | k100
    · have q_k100 := of_decide_eq_true k100
      replace h := (if_pos q_k100).symm.trans h
      refine WO.q (.mv (v := .int _ _) rfl) (wg rfl rfl (gt k100)) rfl ?_
      refine WO.q (.mv (v := .int _ _) rfl) (wg rfl rfl (gt k100)) rfl ?_
      refine WO.q (cvI ti5 ti3 rfl rfl) (wg rfl rfl (gt k100)) rfl ?_
      refine WO.q (.r fun _ => rfl) (wg rfl rfl (gt k100)) rfl ?_
      refine WO.q (.r fun _ => rfl) (wg rfl rfl (gt k100)) rfl ?_
      refine WO.q (.ptv (v := .bool _) rfl k100 rfl) rfl rfl ?_
      refine WO.q (.mv (v := .bool _) rfl) rfl rfl ?_
      rcases bsp (decide (y99.1 ≠ (wi64 (2000 + (wi64 x2))))) with k101 | k101
      · have q_k101 := of_decide_eq_true k101
        replace h := (if_pos q_k101).symm.trans h
        refine WO.sd (wg rfl rfl (gfn k101)) rfl ?_
        refine WO.sd (wg rfl rfl (gfn k101)) rfl ?_
        refine WO.sd (wg rfl rfl (gfn k101)) rfl ?_
        refine WO.sd (wg rfl rfl (gfn k101)) rfl ?_
        refine WO.sd (wgu rfl rfl) rfl ?_
        refine WO.sd (wgu rfl rfl) rfl ?_
        refine WO.sd (wgu rfl rfl) rfl ?_
        refine WO.sd (wg rfl rfl (gfn k101)) rfl ?_
        refine WO.q (.ptv (v := .bool _) rfl k101 rfl) rfl rfl ?_
        refine WO.nil ?_
        refine WX.keep [2, 7, 25, 28, 150, 151, 179, 180, 214] (WX.pk [] (by decide) ?_) rfl
        exact gabionlaw15_ExtBack_j45_ok h hn hx0 hr hE _ _ _ ⟨hB, _, _, h95, h96, rfl, rfl⟩
      · have q_k101 := of_decide_eq_false k101
        replace h := (if_neg q_k101).symm.trans h
        refine WO.q (.mv (v := .int _ _) rfl) (wg rfl rfl (gf k101)) rfl ?_
        refine WO.q (.mv (v := .int _ _) rfl) (wg rfl rfl (gf k101)) rfl ?_
        refine WO.q (.r fun _ => rfl) (wg rfl rfl (gf k101)) rfl ?_
        refine WO.q (.mv (v := .bool _) rfl) (wg rfl rfl (gf k101)) rfl ?_
        rcases bsp (decide (x180 ≠ x25)) with k105 | k105
        · have q_k105 := of_decide_eq_true k105
          replace h := (if_pos q_k105).symm.trans h
          refine WO.q (.mv (v := .int _ _) rfl) (wg rfl rfl (gt k105)) rfl ?_
          refine WO.q (.mv (v := .int _ _) rfl) (wg rfl rfl (gt k105)) rfl ?_
          refine WO.q (.r fun _ => rfl) (wg rfl rfl (gt k105)) rfl ?_
          refine WO.q (.ptv (v := .bool _) rfl k105 rfl) (wg rfl rfl (gf k101)) rfl ?_
          refine WO.q (.pfv (v := .bool _) rfl k101 rfl) rfl rfl ?_
          refine WO.nil ?_
          refine WX.keep [2, 7, 25, 28, 150, 151, 179, 180, 214] (WX.pk [] (by decide) ?_) rfl
          exact gabionlaw15_ExtBack_j45_ok h hn hx0 hr hE _ _ _ ⟨hB, _, _, h95, h96, rfl, rfl⟩
        · have q_k105 := of_decide_eq_false k105
          replace h := (if_neg q_k105).symm.trans h
          refine WO.sd (wg rfl rfl (gtn k105)) rfl ?_
          refine WO.sd (wg rfl rfl (gtn k105)) rfl ?_
          refine WO.sd (wg rfl rfl (gtn k105)) rfl ?_
          refine WO.q (.pfv (v := .bool _) rfl k105 rfl) (wg rfl rfl (gf k101)) rfl ?_
          refine WO.q (.pfv (v := .bool _) rfl k101 rfl) rfl rfl ?_
          refine WO.nil ?_
          refine WX.keep [2, 7, 25, 28, 150, 151, 179, 180, 214] (WX.pk [] (by decide) ?_) rfl
          exact gabionlaw15_ExtBack_j45_ok h hn hx0 hr hE _ _ _ ⟨hB, _, _, h95, h96, rfl, rfl⟩
    · have q_k100 := of_decide_eq_false k100
      replace h := (if_neg q_k100).symm.trans h
      refine WO.sd (wg rfl rfl (gtn k100)) rfl ?_
      refine WO.sd (wg rfl rfl (gtn k100)) rfl ?_
      refine WO.sd (wg rfl rfl (gtn k100)) rfl ?_
      refine WO.sd (wg rfl rfl (gtn k100)) rfl ?_
      refine WO.sd (wg rfl rfl (gtn k100)) rfl ?_
      refine WO.q (.pfv (v := .bool _) rfl k100 rfl) rfl rfl ?_
      refine WO.q (.mv (v := .bool _) rfl) rfl rfl ?_
      refine WO.q (.mv (v := .int _ _) rfl) (wg rfl rfl (gf rfl)) rfl ?_
      refine WO.q (.mv (v := .int _ _) rfl) (wg rfl rfl (gf rfl)) rfl ?_
      refine WO.q (.r fun _ => rfl) (wg rfl rfl (gf rfl)) rfl ?_
      refine WO.q (.mv (v := .bool _) rfl) (wg rfl rfl (gf rfl)) rfl ?_
      rcases bsp (decide (x180 ≠ x25)) with k106 | k106
      · have q_k106 := of_decide_eq_true k106
        replace h := (if_pos q_k106).symm.trans h
        refine WO.q (.mv (v := .int _ _) rfl) (wg rfl rfl (gt k106)) rfl ?_
        refine WO.q (.mv (v := .int _ _) rfl) (wg rfl rfl (gt k106)) rfl ?_
        refine WO.q (.r fun _ => rfl) (wg rfl rfl (gt k106)) rfl ?_
        refine WO.q (.ptv (v := .bool _) rfl k106 rfl) (wg rfl rfl (gf rfl)) rfl ?_
        refine WO.q (.pfv (v := .bool _) rfl rfl rfl) rfl rfl ?_
        refine WO.nil ?_
        refine WX.keep [2, 7, 25, 28, 150, 151, 179, 180, 214] (WX.pk [] (by decide) ?_) rfl
        exact gabionlaw15_ExtBack_j45_ok h hn hx0 hr hE _ _ _ ⟨hB, _, _, h95, h96, rfl, rfl⟩
      · have q_k106 := of_decide_eq_false k106
        replace h := (if_neg q_k106).symm.trans h
        refine WO.sd (wg rfl rfl (gtn k106)) rfl ?_
        refine WO.sd (wg rfl rfl (gtn k106)) rfl ?_
        refine WO.sd (wg rfl rfl (gtn k106)) rfl ?_
        refine WO.q (.pfv (v := .bool _) rfl k106 rfl) (wg rfl rfl (gf rfl)) rfl ?_
        refine WO.q (.pfv (v := .bool _) rfl rfl rfl) rfl rfl ?_
        refine WO.nil ?_
        refine WX.keep [2, 7, 25, 28, 150, 151, 179, 180, 214] (WX.pk [] (by decide) ?_) rfl
        exact gabionlaw15_ExtBack_j45_ok h hn hx0 hr hE _ _ _ ⟨hB, _, _, h95, h96, rfl, rfl⟩
  · have q_k97 := of_decide_eq_false k97
    replace h := (if_neg q_k97).symm.trans h
    refine WX.condF rfl k97 ?_
    refine WX.exit rfl ?_
    refine WX.pop ?_
    refine WX.pop ?_
    refine WX.keep [2, 7, 150, 151] (WX.pk [] (by decide) ?_) rfl
    obtain rfl := Option.some.inj h
    exact hx0 _ hE _ _ _ ⟨hB, _, h95, rfl, rfl⟩
theorem gabionlaw15_ExtBack_l3_ok {B0 : Kn} {L : Own} {n0 : Nat} {x2 : Int} {x7 : List (Int × Int)} {x28 : List (Int × Int)} {x150 : Int} {x179 : Int} {x25 : Int} {x151 : Int} {x180 : Int} {Q : AV → St → Prop} {d : Nat} {e : Bool ⊕ Int} (h : iter (fun (s : Int × Int × Int) => gabionlaw15_ExtBack_l3 x2 x7 x28 x150 x179 s.1 s.2.1 s.2.2) d (x25, x151, x180) = some e) (g0 : ∀ r, e = (.inl r) → ∀ v st, gabionlaw15_ExtBack_P B0 L r v st → Q v st) (g1 : ∀ s, e = (.inr s) → WXI Try.prog 220 n0 (Fin Try.prog Try.f6.results.toList n0 Q) [.code (ct [1, 1, 1, 1, 1, 1, 1, 1, 1, 1, 1, 0, 1, 0, 0, 1, 1, 1] (bodyOf Try.f6)), .lp (ct [1, 1, 1, 1, 1, 1, 1, 1, 1, 1, 1, 0, 1, 0, 0] (bodyOf Try.f6)), .blk 4, .code (ct [1, 1, 1, 1, 1, 1, 1, 1, 1, 1, 1, 1] (bodyOf Try.f6))] (gabionlaw15_ExtBack_l3_X0 B0 x2 x7 x150 s) L) : WXI Try.prog 220 n0 (Fin Try.prog Try.f6.results.toList n0 Q) [.code (ct [1, 1, 1, 1, 1, 1, 1, 1, 1, 1, 1, 0, 1, 0, 0, 1, 1, 0, 0, 1, 1, 1, 0, 1, 1, 1, 0, 1, 0, 0] (bodyOf Try.f6)), .lp (ct [1, 1, 1, 1, 1, 1, 1, 1, 1, 1, 1, 0, 1, 0, 0, 1, 1, 0, 0, 1, 1, 1, 0, 1, 1, 1, 0, 1, 0, 0] (bodyOf Try.f6)), .blk 7, .blk 6, .blk 5, .code (ct [1, 1, 1, 1, 1, 1, 1, 1, 1, 1, 1, 0, 1, 0, 0, 1, 1, 1] (bodyOf Try.f6)), .lp (ct [1, 1, 1, 1, 1, 1, 1, 1, 1, 1, 1, 0, 1, 0, 0] (bodyOf Try.f6)), .blk 4, .code (ct [1, 1, 1, 1, 1, 1, 1, 1, 1, 1, 1, 1] (bodyOf Try.f6))] (gabionlaw15_ExtBack_l3_I B0 x2 x7 x28 x150 x179 x25 x151 x180) L :=
  iter_ok (I := fun s => gabionlaw15_ExtBack_l3_I B0 x2 x7 x28 x150 x179 s.1 s.2.1 s.2.2) (D := fun e => (∀ r, e = (.inl r) → ∀ v st, gabionlaw15_ExtBack_P B0 L r v st → Q v st) ∧ (∀ s, e = (.inr s) → WXI Try.prog 220 n0 (Fin Try.prog Try.f6.results.toList n0 Q) [.code (ct [1, 1, 1, 1, 1, 1, 1, 1, 1, 1, 1, 0, 1, 0, 0, 1, 1, 1] (bodyOf Try.f6)), .lp (ct [1, 1, 1, 1, 1, 1, 1, 1, 1, 1, 1, 0, 1, 0, 0] (bodyOf Try.f6)), .blk 4, .code (ct [1, 1, 1, 1, 1, 1, 1, 1, 1, 1, 1, 1] (bodyOf Try.f6))] (gabionlaw15_ExtBack_l3_X0 B0 x2 x7 x150 s) L)) (fun E hn hx s o ho hE => gabionlaw15_ExtBack_l3_s ho hn (fun s hs => (hx _ hs).2 _ rfl) (fun r hs => (hx _ hs).1 _ rfl) hE) h ⟨g0, g1⟩
theorem gabionlaw15_ExtBack_l2_s {B0 : Kn} {L : Own} {n0 : Nat} {x2 : Int} {x7 : List (Int × Int)} {x150 : Int} {x151 : Int} {Q : AV → St → Prop} {E : Int ⊕ (Bool ⊕ Unit) → Prop} {o : Int ⊕ (Bool ⊕ Unit)} (h : gabionlaw15_ExtBack_l2 x2 x7 x150 x151 = some o) (hn : ∀ s, E (.inl s) → WXI Try.prog 220 n0 (Fin Try.prog Try.f6.results.toList n0 Q) [.lp (ct [1, 1, 1, 1, 1, 1, 1, 1, 1, 1, 1, 0, 1, 0, 0] (bodyOf Try.f6)), .blk 4, .code (ct [1, 1, 1, 1, 1, 1, 1, 1, 1, 1, 1, 1] (bodyOf Try.f6))] (gabionlaw15_ExtBack_l2_I B0 x2 x7 x150 s) L) (hx0 : ∀ s, E (.inr (.inr s)) → WXI Try.prog 220 n0 (Fin Try.prog Try.f6.results.toList n0 Q) [.code (ct [1, 1, 1, 1, 1, 1, 1, 1, 1, 1, 1, 1] (bodyOf Try.f6))] (gabionlaw15_ExtBack_l2_X0 B0) L) (hr : ∀ r, E (.inr (.inl r)) → ∀ v st, gabionlaw15_ExtBack_P B0 L r v st → Q v st) (hE : E o) : WXI Try.prog 220 n0 (Fin Try.prog Try.f6.results.toList n0 Q) [.code (ct [1, 1, 1, 1, 1, 1, 1, 1, 1, 1, 1, 0, 1, 0, 0] (bodyOf Try.f6)), .lp (ct [1, 1, 1, 1, 1, 1, 1, 1, 1, 1, 1, 0, 1, 0, 0] (bodyOf Try.f6)), .blk 4, .code (ct [1, 1, 1, 1, 1, 1, 1, 1, 1, 1, 1, 1] (bodyOf Try.f6))] (gabionlaw15_ExtBack_l2_I B0 x2 x7 x150 x151) L := by
  unfold gabionlaw15_ExtBack_l2 at h
  rintro _ B _ ⟨hB, v84, h84, rfl, rfl⟩
  obtain ⟨_, _, _, _, _, rfl⟩ := h84.isl
  refine WX.seq ?_
  refine WX.reg ?_
  refine WO.q (.r fun _ => rfl) rfl rfl ?_
  refine WO.nil ?_
  refine WX.seq ?_
  rcases bsp (decide (x151 < x150)) with k85 | k85
  · have q_k85 := of_decide_eq_true k85
    replace h := (if_pos q_k85).symm.trans h
    refine WX.condT rfl k85 ?_
    refine WX.skip ?_
    refine WX.seq ?_
    refine WX.block ?_
    refine WX.seq ?_
    refine WX.reg ?_
    refine WO.q (.mv (v := .int _ _) rfl) rfl rfl ?_
    refine WO.q (.as (v := .int _ _) rfl) rfl rfl ?_
    refine WO.nil ?_
    refine WX.seq ?_
    refine WX.reg ?_
    refine WO.q (.mv (v := .sl _ _ _ _ _ _) rfl) rfl rfl ?_
    refine WO.q (.mv (v := .int _ _) rfl) rfl rfl ?_
    obtain ⟨y86, hy86, h⟩ := Option.bind_eq_some_iff.1 h
    refine WO.cS rfl rfl (ext_List_Map_ok h84 hy86) rfl rfl rfl ?_
    rintro _ rfl
    refine WO.q (.mv (v := .tup _) rfl) rfl rfl ?_
    refine WO.q (.r fun _ => rfl) rfl rfl ?_
    refine WO.q (.r fun _ => rfl) rfl rfl ?_
    refine WO.q (.as (v := .int _ _) rfl) rfl rfl ?_
    refine WO.q (.as (v := .bool _) rfl) rfl rfl ?_
    refine WO.nil ?_
    refine WX.seq ?_
    refine WX.reg ?_
    refine WO.q (.mv (v := .sl _ _ _ _ _ _) rfl) rfl rfl ?_
    refine WO.q (.mv (v := .int _ _) rfl) rfl rfl ?_
    refine WO.q (.mv (v := .int _ _) rfl) rfl rfl ?_
    refine WO.q (cvI ti5 ti3 rfl rfl) rfl rfl ?_
    refine WO.q (.r fun _ => rfl) rfl rfl ?_
    refine WO.q (.bd (bd35_0_1 (cI rfl) (cI rfl))) rfl rfl ?_
    obtain ⟨y87, hy87, h⟩ := Option.bind_eq_some_iff.1 h
    refine WO.c0 rfl rfl (ext_List_Fill_ok h84 hy87) rfl rfl rfl ?_
    rintro _ B hK ⟨v88, rfl, h89⟩
    obtain ⟨_, _, _, _, _, rfl⟩ := h89.isl
    replace h84 := h84.up hK
    replace hB := hB.trans hK
    refine WO.q (.mv (v := .tup _) rfl) rfl rfl ?_
    refine WO.q (.r fun _ => rfl) rfl rfl ?_
    refine WO.q (.r fun _ => rfl) rfl rfl ?_
    refine WO.q (.as (v := .sl _ _ _ _ _ _) rfl) rfl rfl ?_
    refine WO.q (.as (v := .int _ _) rfl) rfl rfl ?_
    refine WO.nil ?_
    refine WX.block ?_
    refine WX.seq ?_
    refine WX.reg ?_
    refine WO.q (.mv (v := .int _ _) rfl) rfl rfl ?_
    refine WO.q (.r fun _ => rfl) rfl rfl ?_
    refine WO.q (.as (v := .bool _) rfl) rfl rfl ?_
    refine WO.nil ?_
    rcases bsp (decide (y86.1 ≠ (-1))) with k90 | k90
    · have q_k90 := of_decide_eq_true k90
      replace h := (if_pos q_k90).symm.trans h
      refine WX.condT rfl k90 ?_
      refine WX.seq ?_
      refine WX.reg ?_
      refine WO.q (.mv (v := .int _ _) rfl) rfl rfl ?_
      refine WO.q (.r fun _ => rfl) rfl rfl ?_
      refine WO.nil ?_
      rcases bsp (decide (y87.2 ≠ 2)) with k91 | k91
      · have q_k91 := of_decide_eq_true k91
        replace h := (if_pos q_k91).symm.trans h
        refine WX.condT rfl k91 ?_
        refine WX.seq ?_
        refine WX.reg ?_
        refine WO.q (.as (v := .bool _) rfl) rfl rfl ?_
        refine WO.nil ?_
        obtain rfl := Option.some.inj h
        exact WX.ret (rs_ (rs_tmp rfl rs_nil)) fun st hp => hr _ hE _ _ ⟨(hp.pk [] (by decide)).le hB, rfl⟩
      · have q_k91 := of_decide_eq_false k91
        replace h := (if_neg q_k91).symm.trans h
        refine WX.condF rfl k91 ?_
        refine WX.skip ?_
        refine WX.pop ?_
        refine WX.pop ?_
        refine WX.keep [2, 7, 150, 151] (WX.pk [] (by decide) ?_) rfl
        exact gabionlaw15_ExtBack_j37_ok h hn hx0 hr hE _ _ _ ⟨hB, _, h84, rfl, rfl⟩
    · have q_k90 := of_decide_eq_false k90
      replace h := (if_neg q_k90).symm.trans h
      refine WX.condF rfl k90 ?_
      refine WX.seq ?_
      refine WX.reg ?_
      refine WO.q (.mv (v := .int _ _) rfl) rfl rfl ?_
      refine WO.q (.r fun _ => rfl) rfl rfl ?_
      refine WO.q (.as (v := .bool _) rfl) rfl rfl ?_
      refine WO.nil ?_
      rcases bsp (decide (y87.2 = 0)) with k93 | k93
      · have q_k93 := of_decide_eq_true k93
        replace h := (if_pos q_k93).symm.trans h
        refine WX.condT rfl k93 ?_
        refine WX.seq ?_
        refine WX.reg ?_
        refine WO.q (.mv (v := .sl _ _ _ _ _ _) rfl) rfl rfl ?_
        obtain ⟨y94, hy94, h⟩ := Option.bind_eq_some_iff.1 h
        refine WO.cS rfl rfl (ext_List_Blocks_ok h84 hy94) rfl rfl rfl ?_
        rintro _ rfl
        refine WO.q (.mv (v := .int _ _) rfl) rfl rfl ?_
        refine WO.nil ?_
        refine WX.block ?_
        refine WX.loop ?_
        obtain ⟨e108, he108, h⟩ := Option.bind_eq_some_iff.1 h
        refine WX.keep [2, 7, 25, 28, 150, 151, 179, 180] (WX.pk [] (by decide) ?_) rfl
        refine gabionlaw15_ExtBack_l3_ok he108 ?_ ?_ _ _ _ ⟨hB, _, _, h84, h89, rfl, rfl⟩
        · intro r110 he_
          subst he_
          replace h := (on_l h)
          obtain rfl := Option.some.inj h
          exact hr _ hE
        · intro x111 he_
          subst he_
          replace h := (on_r h)
          rintro _ B _ ⟨hB, v112, h112, rfl, rfl⟩
          obtain ⟨_, _, _, _, _, rfl⟩ := h112.isl
          refine WX.keep [2, 7, 150, 151] (WX.pk [] (by decide) ?_) rfl
          exact gabionlaw15_ExtBack_j37_ok h hn hx0 hr hE _ _ _ ⟨hB, _, h112, rfl, rfl⟩
      · have q_k93 := of_decide_eq_false k93
        replace h := (if_neg q_k93).symm.trans h
        refine WX.condF rfl k93 ?_
        refine WX.seq ?_
        refine WX.reg ?_
        refine WO.q (.mv (v := .int _ _) rfl) rfl rfl ?_
        refine WO.q (.r fun _ => rfl) rfl rfl ?_
        refine WO.q (.as (v := .bool _) rfl) rfl rfl ?_
        refine WO.nil ?_
        rcases bsp (decide (y87.2 ≠ 7)) with k113 | k113
        · have q_k113 := of_decide_eq_true k113
          replace h := (if_pos q_k113).symm.trans h
          refine WX.condT rfl k113 ?_
          refine WX.seq ?_
          refine WX.reg ?_
          refine WO.q (.as (v := .bool _) rfl) rfl rfl ?_
          refine WO.nil ?_
          obtain rfl := Option.some.inj h
          exact WX.ret (rs_ (rs_tmp rfl rs_nil)) fun st hp => hr _ hE _ _ ⟨(hp.pk [] (by decide)).le hB, rfl⟩
        · have q_k113 := of_decide_eq_false k113
          replace h := (if_neg q_k113).symm.trans h
          refine WX.condF rfl k113 ?_
          refine WX.skip ?_
          refine WX.pop ?_
          refine WX.pop ?_
          refine WX.keep [2, 7, 150, 151] (WX.pk [] (by decide) ?_) rfl
          exact gabionlaw15_ExtBack_j37_ok h hn hx0 hr hE _ _ _ ⟨hB, _, h84, rfl, rfl⟩
  · have q_k85 := of_decide_eq_false k85
    replace h := (if_neg q_k85).symm.trans h
    refine WX.condF rfl k85 ?_
    refine WX.exit rfl ?_
    refine WX.keep [] (WX.pk [] (by decide) ?_) rfl
    obtain rfl := Option.some.inj h
    exact hx0 _ hE _ _ _ ⟨hB, rfl, rfl⟩
theorem gabionlaw15_ExtBack_l2_ok {B0 : Kn} {L : Own} {n0 : Nat} {x2 : Int} {x7 : List (Int × Int)} {x150 : Int} {x151 : Int} {Q : AV → St → Prop} {d : Nat} {e : Bool ⊕ Unit} (h : iter (fun (s : Int) => gabionlaw15_ExtBack_l2 x2 x7 x150 s) d x151 = some e) (g0 : ∀ r, e = (.inl r) → ∀ v st, gabionlaw15_ExtBack_P B0 L r v st → Q v st) (g1 : ∀ s, e = (.inr s) → WXI Try.prog 220 n0 (Fin Try.prog Try.f6.results.toList n0 Q) [.code (ct [1, 1, 1, 1, 1, 1, 1, 1, 1, 1, 1, 1] (bodyOf Try.f6))] (gabionlaw15_ExtBack_l2_X0 B0) L) : WXI Try.prog 220 n0 (Fin Try.prog Try.f6.results.toList n0 Q) [.code (ct [1, 1, 1, 1, 1, 1, 1, 1, 1, 1, 1, 0, 1, 0, 0] (bodyOf Try.f6)), .lp (ct [1, 1, 1, 1, 1, 1, 1, 1, 1, 1, 1, 0, 1, 0, 0] (bodyOf Try.f6)), .blk 4, .code (ct [1, 1, 1, 1, 1, 1, 1, 1, 1, 1, 1, 1] (bodyOf Try.f6))] (gabionlaw15_ExtBack_l2_I B0 x2 x7 x150 x151) L :=
  iter_ok (I := fun s => gabionlaw15_ExtBack_l2_I B0 x2 x7 x150 s) (D := fun e => (∀ r, e = (.inl r) → ∀ v st, gabionlaw15_ExtBack_P B0 L r v st → Q v st) ∧ (∀ s, e = (.inr s) → WXI Try.prog 220 n0 (Fin Try.prog Try.f6.results.toList n0 Q) [.code (ct [1, 1, 1, 1, 1, 1, 1, 1, 1, 1, 1, 1] (bodyOf Try.f6))] (gabionlaw15_ExtBack_l2_X0 B0) L)) (fun E hn hx s o ho hE => gabionlaw15_ExtBack_l2_s ho hn (fun s hs => (hx _ hs).2 _ rfl) (fun r hs => (hx _ hs).1 _ rfl) hE) h ⟨g0, g1⟩
theorem gabionlaw15_ExtBack_j28_ok {B0 : Kn} {L : Own} {n0 : Nat} {x2 : Int} {x7 : List (Int × Int)} {r : Bool} (h : gabionlaw15_ExtBack_j28 x2 x7 = some r) : WXI Try.prog 220 n0 (Fin Try.prog Try.f6.results.toList n0 (gabionlaw15_ExtBack_P B0 L r)) [.code (ct [1, 1, 1, 1, 1, 1, 1, 1, 1, 1, 1] (bodyOf Try.f6))] (gabionlaw15_ExtBack_j28_I B0 x2 x7) L := by
  unfold gabionlaw15_ExtBack_j28 at h
  rintro _ B _ ⟨hB, v82, h82, rfl, rfl⟩
  obtain ⟨_, _, _, _, _, rfl⟩ := h82.isl
  refine WX.seq ?_
  refine WX.seq ?_
  refine WX.reg ?_
  refine WO.q (.mv (v := .sl _ _ _ _ _ _) rfl) rfl rfl ?_
  obtain ⟨y83, hy83, h⟩ := Option.bind_eq_some_iff.1 h
  refine WO.cS rfl rfl (ext_List_Blocks_ok h82 hy83) rfl rfl rfl ?_
  rintro _ rfl
  refine WO.q (.mv (v := .int _ _) rfl) rfl rfl ?_
  refine WO.nil ?_
  refine WX.block ?_
  refine WX.loop ?_
  obtain ⟨e114, he114, h⟩ := Option.bind_eq_some_iff.1 h
  refine WX.keep [2, 7, 150, 151] (WX.pk [] (by decide) ?_) rfl
  refine gabionlaw15_ExtBack_l2_ok he114 ?_ ?_ _ _ _ ⟨hB, _, h82, rfl, rfl⟩
  · intro r116 he_
    subst he_
    replace h := (on_l h)
    obtain rfl := Option.some.inj h
    exact fun v st hp => hp
  · intro x117 he_
    subst he_
    replace h := (on_r h)
    rintro _ B _ ⟨hB, rfl, rfl⟩
    refine WX.seq ?_
    refine WX.reg ?_
    refine WO.q (.as (v := .bool _) rfl) rfl rfl ?_
    refine WO.nil ?_
    obtain rfl := Option.some.inj h
    exact WX.ret (rs_ (rs_tmp rfl rs_nil)) fun st hp => ⟨(hp.pk [] (by decide)).le hB, rfl⟩
theorem gabionlaw15_ExtBack_j27_ok {B0 : Kn} {L : Own} {n0 : Nat} {x2 : Int} {x7 : List (Int × Int)} {x148 : Bool} {r : Bool} (h : gabionlaw15_ExtBack_j27 x2 x7 x148 = some r) : WXI Try.prog 220 n0 (Fin Try.prog Try.f6.results.toList n0 (gabionlaw15_ExtBack_P B0 L r)) [.code (ct [1, 1, 1, 1, 1, 1, 1, 1, 1, 1, 0, 1, 0, 1, 1] (bodyOf Try.f6)), .code (ct [1, 1, 1, 1, 1, 1, 1, 1, 1, 1, 1] (bodyOf Try.f6))] (gabionlaw15_ExtBack_j27_I B0 x2 x7 x148) L := by
  unfold gabionlaw15_ExtBack_j27 at h
  rintro _ B _ ⟨hB, v80, h80, rfl, rfl⟩
  obtain ⟨_, _, _, _, _, rfl⟩ := h80.isl
  rcases bsp x148 with k81 | k81
  · replace h := (if_pos k81).symm.trans h
    refine WX.condT rfl k81 ?_
    refine WX.seq ?_
    refine WX.reg ?_
    refine WO.q (.as (v := .bool _) rfl) rfl rfl ?_
    refine WO.nil ?_
    obtain rfl := Option.some.inj h
    exact WX.ret (rs_ (rs_tmp rfl rs_nil)) fun st hp => ⟨(hp.pk [] (by decide)).le hB, rfl⟩
  · replace h := (if_neg (bnt k81)).symm.trans h
    refine WX.condF rfl k81 ?_
    refine WX.skip ?_
    refine WX.keep [2, 7] (WX.pk [] (by decide) ?_) rfl
    exact gabionlaw15_ExtBack_j28_ok h _ _ _ ⟨hB, _, h80, rfl, rfl⟩
theorem gabionlaw15_ExtBack_j4_ok {B0 : Kn} {L : Own} {n0 : Nat} {x2 : Int} {x7 : List (Int × Int)} {x9 : Int} {x10 : List (Int × Int)} {x11 : List (Int × Int)} {x70 : Bool} {r : Bool} (h : gabionlaw15_ExtBack_j4 x2 x7 x9 x10 x11 x70 = some r) : WXI Try.prog 220 n0 (Fin Try.prog Try.f6.results.toList n0 (gabionlaw15_ExtBack_P B0 L r)) [.code (ct [1, 1, 1, 1, 0, 1] (bodyOf Try.f6)), .code (ct [1, 1, 1, 1, 1] (bodyOf Try.f6))] (gabionlaw15_ExtBack_j4_I B0 x2 x7 x9 x10 x11 x70) L := by
  unfold gabionlaw15_ExtBack_j4 at h
  rintro _ B _ ⟨hB, v32, v33, b33, n33, c33, v34, h32, h33, h34, rfl, rfl⟩
  obtain ⟨_, _, _, _, _, rfl⟩ := h32.isl
  obtain ⟨_, _, _, _, _, rfl⟩ := h33.isl
  obtain ⟨_, _, _, _, _, rfl⟩ := h34.isl
  rcases bsp x70 with k35 | k35
  · replace h := (if_pos k35).symm.trans h
    refine WX.condT rfl k35 ?_
    refine WX.seq ?_
    refine WX.reg ?_
    refine WO.q (.as (v := .bool _) rfl) rfl rfl ?_
    refine WO.nil ?_
    obtain rfl := Option.some.inj h
    exact WX.ret (rs_ (rs_tmp rfl rs_nil)) fun st hp => ⟨(hp.pk [] (by decide)).le hB, rfl⟩
  · replace h := (if_neg (bnt k35)).symm.trans h
    refine WX.condF rfl k35 ?_
    refine WX.skip ?_
    refine WX.seq ?_
    refine WX.reg ?_
    refine WO.q (.as (v := .int _ _) rfl) rfl rfl ?_
    refine WO.nil ?_
    refine WX.seq ?_
    refine WX.seq ?_
    refine WX.reg ?_
    refine WO.q (.mv (v := .sl _ _ _ _ _ _) rfl) rfl rfl ?_
    refine WO.q (.len rfl rfl rfl (sl23.len h34.isl)) rfl rfl ?_
    refine WO.q (.mv (v := .int _ _) rfl) rfl rfl ?_
    refine WO.nil ?_
    refine WX.block ?_
    refine WX.loop ?_
    obtain ⟨e44, he44, h⟩ := Option.bind_eq_some_iff.1 h
    refine WX.keep [2, 7, 9, 10, 13, 71, 72, 73] (WX.pk [0] (by decide) ?_) rfl
    refine gabionlaw15_ExtBack_l0_ok he44 ?_ _ _ _ ⟨hB, _, _, _, n33, _, _, h32, h33, h34, rfl, rfl⟩
    · intro s125 he_
      subst he_
      replace h := h
      rintro _ B _ ⟨hB, v45, v46, b46, n46, c46, h45, h46, rfl, rfl⟩
      obtain ⟨_, _, _, _, _, rfl⟩ := h45.isl
      obtain ⟨_, _, _, _, _, rfl⟩ := h46.isl
      refine WX.seq ?_
      refine WX.seq ?_
      refine WX.reg ?_
      refine WO.q (.mv (v := .sl _ _ _ _ _ _) rfl) rfl rfl ?_
      obtain ⟨y47, hy47, h⟩ := Option.bind_eq_some_iff.1 h
      refine WO.cS rfl rfl (lendC (j := 0) h46 rfl fun _ K49 g48 => ext_List_Held_ok g48 hy47) rfl rfl rfl ?_
      rintro _ rfl
      refine WO.q (.mv (v := .int _ _) rfl) rfl rfl ?_
      refine WO.q (.r fun _ => rfl) rfl rfl ?_
      refine WO.q (.mv (v := .sl _ _ _ _ _ _) rfl) rfl rfl ?_
      obtain ⟨y50, hy50, h⟩ := Option.bind_eq_some_iff.1 h
      refine WO.cS rfl rfl (ext_List_Held_ok h45 hy50) rfl rfl rfl ?_
      rintro _ rfl
      refine WO.q (.r fun _ => rfl) rfl rfl ?_
      refine WO.nil ?_
      rcases bsp (decide ((wi64 (y47 + e44)) ≠ y50)) with k51 | k51
      · have q_k51 := of_decide_eq_true k51
        replace h := (if_pos q_k51).symm.trans h
        refine WX.condT rfl k51 ?_
        refine WX.seq ?_
        refine WX.reg ?_
        refine WO.q (.as (v := .bool _) rfl) rfl rfl ?_
        refine WO.nil ?_
        obtain rfl := Option.some.inj h
        exact WX.ret (rs_ (rs_tmp rfl rs_nil)) fun st hp => ⟨(hp.pk [] (by decide)).le hB, rfl⟩
      · have q_k51 := of_decide_eq_false k51
        replace h := (if_neg q_k51).symm.trans h
        refine WX.condF rfl k51 ?_
        refine WX.skip ?_
        refine WX.seq ?_
        refine WX.seq ?_
        refine WX.reg ?_
        refine WO.q (.mv (v := .int _ _) rfl) rfl rfl ?_
        refine WO.q (.mv (v := .int _ _) rfl) rfl rfl ?_
        refine WO.nil ?_
        refine WX.block ?_
        refine WX.loop ?_
        obtain ⟨e61, he61, h⟩ := Option.bind_eq_some_iff.1 h
        refine WX.keep [2, 7, 10, 89, 90] (WX.pk [0] (by decide) ?_) rfl
        refine gabionlaw15_ExtBack_l1_ok he61 ?_ ?_ _ _ _ ⟨hB, _, _, _, n46, _, h45, h46, rfl, rfl⟩
        · intro r63 he_
          subst he_
          replace h := (on_l h)
          obtain rfl := Option.some.inj h
          exact fun v st hp => hp
        · intro x64 he_
          subst he_
          replace h := (on_r h)
          rintro _ B _ ⟨hB, v65, h65, rfl, rfl⟩
          obtain ⟨_, _, _, _, _, rfl⟩ := h65.isl
          refine WX.seq ?_
          refine WX.reg ?_
          refine WO.q (.mv (v := .sl _ _ _ _ _ _) rfl) rfl rfl ?_
          refine WO.q (.mv (v := .int _ _) rfl) rfl rfl ?_
          refine WO.q (cvI ti5 ti3 rfl rfl) rfl rfl ?_
          refine WO.q (.r fun _ => rfl) rfl rfl ?_
          refine WO.q (.bd (bd35_0_1 (cI rfl) (cI rfl))) rfl rfl ?_
          obtain ⟨y66, hy66, h⟩ := Option.bind_eq_some_iff.1 h
          refine WO.c0 rfl rfl (ext_List_Append_ok h65 hy66) rfl rfl rfl ?_
          rintro _ B hK ⟨v67, rfl, h68⟩
          obtain ⟨_, _, _, _, _, rfl⟩ := h68.isl
          replace h65 := h65.up hK
          replace hB := hB.trans hK
          refine WO.q (.mv (v := .tup _) rfl) rfl rfl ?_
          refine WO.q (.r fun _ => rfl) rfl rfl ?_
          refine WO.q (.r fun _ => rfl) rfl rfl ?_
          refine WO.q (.as (v := .sl _ _ _ _ _ _) rfl) rfl rfl ?_
          refine WO.q (.as (v := .int _ _) rfl) rfl rfl ?_
          refine WO.nil ?_
          refine WX.seq ?_
          refine WX.seq ?_
          refine WX.reg ?_
          refine WO.q (.mv (v := .int _ _) rfl) rfl rfl ?_
          refine WO.q (.r fun _ => rfl) rfl rfl ?_
          refine WO.nil ?_
          rcases bsp (decide (y66.2 = 0)) with k69 | k69
          · have q_k69 := of_decide_eq_true k69
            replace h := (if_pos q_k69).symm.trans h
            refine WX.condT rfl k69 ?_
            refine WX.seq ?_
            refine WX.reg ?_
            refine WO.q (.mv (v := .sl _ _ _ _ _ _) rfl) rfl rfl ?_
            refine WO.q (.mv (v := .sl _ _ _ _ _ _) rfl) rfl rfl ?_
            obtain ⟨y70, hy70, h⟩ := Option.bind_eq_some_iff.1 h
            refine WO.cS rfl rfl (ext_List_Blocks_ok h65 hy70) rfl rfl rfl ?_
            rintro _ rfl
            obtain ⟨y71, hy71, h⟩ := Option.bind_eq_some_iff.1 h
            refine WO.c1 rfl rfl (ext_List_Cut_ok h68 hy71) rfl rfl rfl ?_
            rintro _ B _ hK ⟨v77, v72, b73, n74, c75, rfl, h78, rfl, h76⟩
            obtain ⟨_, _, _, _, _, rfl⟩ := h78.isl
            obtain ⟨_, _, _, _, _, rfl⟩ := h76.isl
            replace h65 := h65.up hK
            replace h68 := h68.up hK
            replace hB := hB.trans hK
            refine WO.q (.mv (v := .tup _) rfl) rfl rfl ?_
            refine WO.q (.r fun _ => rfl) rfl rfl ?_
            refine WO.q (.r fun _ => rfl) rfl rfl ?_
            refine WO.q (.r fun _ => rfl) rfl rfl ?_
            refine WO.q (.as (v := .sl _ _ _ _ _ _) rfl) rfl rfl ?_
            refine WO.q (.as (v := .sl _ _ _ _ _ _) rfl) rfl rfl ?_
            refine WO.q (.as (v := .int _ _) rfl) rfl rfl ?_
            refine WO.nil ?_
            refine WX.seq ?_
            refine WX.reg ?_
            refine WO.q (.mv (v := .int _ _) rfl) rfl rfl ?_
            refine WO.q (.r fun _ => rfl) rfl rfl ?_
            refine WO.q (.mv (v := .bool _) rfl) rfl rfl ?_
            rcases bsp (decide (y71.2.2 ≠ 0)) with k79 | k79
            · have q_k79 := of_decide_eq_true k79
              replace h := (if_pos q_k79).symm.trans h
              refine WO.sd (wg rfl rfl (gfn k79)) rfl ?_
              refine WO.sd (wg rfl rfl (gfn k79)) rfl ?_
              refine WO.sd (wg rfl rfl (gfn k79)) rfl ?_
              refine WO.sd (wg rfl rfl (gfn k79)) rfl ?_
              refine WO.sd (wg rfl rfl (gfn k79)) rfl ?_
              refine WO.q (.ptv (v := .bool _) rfl k79 rfl) rfl rfl ?_
              refine WO.q (.mv (v := .bool _) rfl) rfl rfl ?_
              refine WO.sd (wg rfl rfl (gfn rfl)) rfl ?_
              refine WO.sd (wg rfl rfl (gfn rfl)) rfl ?_
              refine WO.sd (wg rfl rfl (gfn rfl)) rfl ?_
              refine WO.q (.ptv (v := .bool _) rfl rfl rfl) rfl rfl ?_
              refine WO.q (.mv (v := .bool _) rfl) rfl rfl ?_
              refine WO.sd (wg rfl rfl (gfn rfl)) rfl ?_
              refine WO.sd (wg rfl rfl (gfn rfl)) rfl ?_
              refine WO.sd (wg rfl rfl (gfn rfl)) rfl ?_
              refine WO.sd (wg rfl rfl (gfn rfl)) rfl ?_
              refine WO.sd (wg rfl rfl (gfn rfl)) rfl ?_
              refine WO.q (.ptv (v := .bool _) rfl rfl rfl) rfl rfl ?_
              refine WO.nil ?_
              refine WX.keep [2, 7, 148] (WX.pk [] (by decide) ?_) rfl
              exact gabionlaw15_ExtBack_j27_ok h _ _ _ ⟨hB, _, h65, rfl, rfl⟩
            · have q_k79 := of_decide_eq_false k79
              replace h := (if_neg q_k79).symm.trans h
              refine WO.q (.mv (v := .sl _ _ _ _ _ _) rfl) (wg rfl rfl (gf k79)) rfl ?_
              obtain ⟨y118, hy118, h⟩ := Option.bind_eq_some_iff.1 h
              refine WO.cS rfl rfl (lendC (j := 0) h76 rfl fun _ K120 g119 => ext_List_Blocks_ok g119 hy118) rfl (wg rfl rfl (gf k79)) rfl ?_
              rintro _ rfl
              refine WO.q (.mv (v := .sl _ _ _ _ _ _) rfl) (wg rfl rfl (gf k79)) rfl ?_
              obtain ⟨y121, hy121, h⟩ := Option.bind_eq_some_iff.1 h
              refine WO.cS rfl rfl (ext_List_Blocks_ok h65 hy121) rfl (wg rfl rfl (gf k79)) rfl ?_
              rintro _ rfl
              refine WO.q (.r fun _ => rfl) (wg rfl rfl (gf k79)) rfl ?_
              refine WO.q (.pfv (v := .bool _) rfl k79 rfl) rfl rfl ?_
              refine WO.q (.mv (v := .bool _) rfl) rfl rfl ?_
              rcases bsp (decide (y118 ≠ y121)) with k122 | k122
              · have q_k122 := of_decide_eq_true k122
                replace h := (if_pos q_k122).symm.trans h
                refine WO.sd (wg rfl rfl (gfn k122)) rfl ?_
                refine WO.sd (wg rfl rfl (gfn k122)) rfl ?_
                refine WO.sd (wg rfl rfl (gfn k122)) rfl ?_
                refine WO.q (.ptv (v := .bool _) rfl k122 rfl) rfl rfl ?_
                refine WO.q (.mv (v := .bool _) rfl) rfl rfl ?_
                refine WO.sd (wg rfl rfl (gfn rfl)) rfl ?_
                refine WO.sd (wg rfl rfl (gfn rfl)) rfl ?_
                refine WO.sd (wg rfl rfl (gfn rfl)) rfl ?_
                refine WO.sd (wg rfl rfl (gfn rfl)) rfl ?_
                refine WO.sd (wg rfl rfl (gfn rfl)) rfl ?_
                refine WO.q (.ptv (v := .bool _) rfl rfl rfl) rfl rfl ?_
                refine WO.nil ?_
                refine WX.keep [2, 7, 148] (WX.pk [] (by decide) ?_) rfl
                exact gabionlaw15_ExtBack_j27_ok h _ _ _ ⟨hB, _, h65, rfl, rfl⟩
              · have q_k122 := of_decide_eq_false k122
                replace h := (if_neg q_k122).symm.trans h
                refine WO.q (.mv (v := .sl _ _ _ _ _ _) rfl) (wg rfl rfl (gf k122)) rfl ?_
                refine WO.q (.len rfl rfl rfl (sl23.len h78.isl)) (wg rfl rfl (gf k122)) rfl ?_
                refine WO.q (.r fun _ => rfl) (wg rfl rfl (gf k122)) rfl ?_
                refine WO.q (.pfv (v := .bool _) rfl k122 rfl) rfl rfl ?_
                refine WO.q (.mv (v := .bool _) rfl) rfl rfl ?_
                rcases bsp (decide ((y71.2.1.length : Int) ≠ 1)) with k123 | k123
                · have q_k123 := of_decide_eq_true k123
                  replace h := (if_pos q_k123).symm.trans h
                  refine WO.sd (wg rfl rfl (gfn k123)) rfl ?_
                  refine WO.sd (wg rfl rfl (gfn k123)) rfl ?_
                  refine WO.sd (wg rfl rfl (gfn k123)) rfl ?_
                  refine WO.sd (wg rfl rfl (gfn k123)) rfl ?_
                  refine WO.sd (wg rfl rfl (gfn k123)) rfl ?_
                  refine WO.q (.ptv (v := .bool _) rfl k123 rfl) rfl rfl ?_
                  refine WO.nil ?_
                  refine WX.keep [2, 7, 148] (WX.pk [] (by decide) ?_) rfl
                  exact gabionlaw15_ExtBack_j27_ok h _ _ _ ⟨hB, _, h65, rfl, rfl⟩
                · have q_k123 := of_decide_eq_false k123
                  replace h := (if_neg q_k123).symm.trans h
                  refine WO.q (.mv (v := .sl _ _ _ _ _ _) rfl) (wg rfl rfl (gf k123)) rfl ?_
                  obtain ⟨y124, hy124, h⟩ := Option.bind_eq_some_iff.1 h
                  obtain ⟨b_y124, o_y124, _, i_y124, p_y124, r_y124⟩ := h78.at sl23 hy124 .i64
                  obtain ⟨_, _, rfl, rfl, rfl⟩ := r_y124
                  refine WO.q (.ia i_y124) (wg rfl rfl (gf k123)) rfl ?_
                  refine WO.q (.fa (fa35_1 _ _)) (wg rfl rfl (gf k123)) rfl ?_
                  refine WO.q (.lpS rfl p_y124 rfl ti3 rfl) (wg rfl rfl (gf k123)) rfl ?_
                  refine WO.q (.r fun _ => rfl) (wg rfl rfl (gf k123)) rfl ?_
                  refine WO.q (.pfv (v := .bool _) rfl k123 rfl) rfl rfl ?_
                  refine WO.nil ?_
                  refine WX.keep [2, 7, 148] (WX.pk [] (by decide) ?_) rfl
                  exact gabionlaw15_ExtBack_j27_ok h _ _ _ ⟨hB, _, h65, rfl, rfl⟩
          · have q_k69 := of_decide_eq_false k69
            replace h := (if_neg q_k69).symm.trans h
            refine WX.condF rfl k69 ?_
            refine WX.skip ?_
            refine WX.keep [2, 7] (WX.pk [] (by decide) ?_) rfl
            exact gabionlaw15_ExtBack_j28_ok h _ _ _ ⟨hB, _, h65, rfl, rfl⟩
theorem gabionlaw15_ExtBack_ok {B0 : Kn} {L : Own} {a0 : List (Int × Int)} {a1 : Int} {a2 : Int} {v0_0 : AV} {r : Bool} (g0_0 : RSl EPIi64Ii64Q B0 v0_0 a0) (h : gabionlaw15_ExtBack a0 a1 a2 = some r) : ∀ st, Hp B0 L st → ASpec Try.prog 6 [v0_0, .int .u16 a1, .int .u8 a2] st (gabionlaw15_ExtBack_P B0 L r) := by
  unfold gabionlaw15_ExtBack at h
  refine bodyA (A := []) Try.func6 rfl (c := bodyOf Try.f6) rfl Try.ntmps6 (lb rfl) fun n0 => ?_
  have hB := KLe.refl B0
  obtain ⟨_, _, _, _, _, rfl⟩ := g0_0.isl
  refine WX.seq ?_
  refine WX.reg ?_
  refine WO.q (.as (v := .bool _) rfl) rfl rfl ?_
  refine WO.nil ?_
  refine WX.seq ?_
  refine WX.reg ?_
  refine WO.q (.mv (v := .sl _ _ _ _ _ _) rfl) rfl rfl ?_
  obtain ⟨y1, hy1, h⟩ := Option.bind_eq_some_iff.1 h
  refine WO.c1 rfl rfl (gabionlaw15_tame_ok g0_0 hy1) rfl rfl rfl ?_
  rintro _ B _ hK ⟨v2, b3, n4, c5, rfl, rfl, h6⟩
  obtain ⟨_, _, _, _, _, rfl⟩ := h6.isl
  replace g0_0 := g0_0.up hK
  replace hB := hB.trans hK
  refine WO.fz (j := 0) h6 rfl ?_
  intro B hK g7
  replace g0_0 := g0_0.up hK
  replace hB := hB.trans hK
  obtain ⟨y8, hy8, h⟩ := Option.bind_eq_some_iff.1 h
  refine WO.c1 rfl rfl (gabionlaw15_list_ok g7 hy8) rfl rfl rfl ?_
  rintro _ B _ hK ⟨v14, v9, b10, n11, c12, rfl, h15, rfl, h13⟩
  obtain ⟨_, _, _, _, _, rfl⟩ := h15.isl
  obtain ⟨_, _, _, _, _, rfl⟩ := h13.isl
  replace g0_0 := g0_0.up hK
  replace g7 := g7.up hK
  replace hB := hB.trans hK
  refine WO.q (.mv (v := .tup _) rfl) rfl rfl ?_
  refine WO.q (.r fun _ => rfl) rfl rfl ?_
  refine WO.q (.r fun _ => rfl) rfl rfl ?_
  refine WO.q (.as (v := .sl _ _ _ _ _ _) rfl) rfl rfl ?_
  refine WO.q (.as (v := .sl _ _ _ _ _ _) rfl) rfl rfl ?_
  refine WO.nil ?_
  refine WX.seq ?_
  refine WX.reg ?_
  refine WO.q (.mv (v := .int _ _) rfl) rfl rfl ?_
  refine WO.q (cvI ti60 ti3 rfl rfl) rfl rfl ?_
  refine WO.q (.mv (v := .sl _ _ _ _ _ _) rfl) rfl rfl ?_
  obtain ⟨y16, hy16, h⟩ := Option.bind_eq_some_iff.1 h
  refine WO.cS rfl rfl (lendC (j := 0) h13 rfl fun _ K18 g17 => ext_List_Blocks_ok g17 hy16) rfl rfl rfl ?_
  rintro _ rfl
  refine WO.q (.r fun _ => rfl) rfl rfl ?_
  obtain ⟨hk19, h⟩ := ifS_some h
  refine WO.q (.bin (evrem hk19)) rfl rfl ?_
  refine WO.q (.as (v := .int _ _) rfl) rfl rfl ?_
  refine WO.nil ?_
  refine WX.seq ?_
  refine WX.reg ?_
  refine WO.q (.mv (v := .sl _ _ _ _ _ _) rfl) rfl rfl ?_
  refine WO.q (.mv (v := .int _ _) rfl) rfl rfl ?_
  refine WO.fz (j := 0) h13 rfl ?_
  intro B hK g20
  replace hB := hB.trans hK
  obtain ⟨y21, hy21, h⟩ := Option.bind_eq_some_iff.1 h
  refine WO.c1 rfl rfl (ext_List_Cut_ok g20 hy21) rfl rfl rfl ?_
  rintro _ B _ hK ⟨v27, v22, b23, n24, c25, rfl, h28, rfl, h26⟩
  obtain ⟨_, _, _, _, _, rfl⟩ := h28.isl
  obtain ⟨_, _, _, _, _, rfl⟩ := h26.isl
  replace g20 := g20.up hK
  replace hB := hB.trans hK
  refine WO.q (.mv (v := .tup _) rfl) rfl rfl ?_
  refine WO.q (.r fun _ => rfl) rfl rfl ?_
  refine WO.q (.r fun _ => rfl) rfl rfl ?_
  refine WO.q (.r fun _ => rfl) rfl rfl ?_
  refine WO.q (.as (v := .sl _ _ _ _ _ _) rfl) rfl rfl ?_
  refine WO.q (.as (v := .sl _ _ _ _ _ _) rfl) rfl rfl ?_
  refine WO.q (.as (v := .int _ _) rfl) rfl rfl ?_
  refine WO.nil ?_
  refine WX.seq ?_
  refine WX.seq ?_
  refine WX.reg ?_
  obtain ⟨y29, hy29, h⟩ := Option.bind_eq_some_iff.1 h
  refine WO.cS rfl rfl (gabionlaw15_wakes_ok hy29) rfl rfl rfl ?_
  rintro _ rfl
  refine WO.q (.r fun _ => rfl) rfl rfl ?_
  refine WO.q (.mv (v := .bool _) rfl) rfl rfl ?_
  rcases bsp y29 with k30 | k30
  · replace h := (if_pos k30).symm.trans h
    refine WO.q (.mv (v := .int _ _) rfl) (wg rfl rfl (gf (f_not k30))) rfl ?_
    refine WO.q (.r fun _ => rfl) (wg rfl rfl (gf (f_not k30))) rfl ?_
    refine WO.q (.pfv (v := .bool _) rfl (f_not k30) rfl) rfl rfl ?_
    refine WO.q (.mv (v := .bool _) rfl) rfl rfl ?_
    rcases bsp (decide (y21.2.2 ≠ 0)) with k31 | k31
    · have q_k31 := of_decide_eq_true k31
      replace h := (if_pos q_k31).symm.trans h
      refine WO.sd (wg rfl rfl (gfn k31)) rfl ?_
      refine WO.sd (wg rfl rfl (gfn k31)) rfl ?_
      refine WO.sd (wg rfl rfl (gfn k31)) rfl ?_
      refine WO.sd (wg rfl rfl (gfn k31)) rfl ?_
      refine WO.q (.ptv (v := .bool _) rfl k31 rfl) rfl rfl ?_
      refine WO.q (.mv (v := .bool _) rfl) rfl rfl ?_
      refine WO.sd (wg rfl rfl (gfn rfl)) rfl ?_
      refine WO.sd (wg rfl rfl (gfn rfl)) rfl ?_
      refine WO.sd (wg rfl rfl (gfn rfl)) rfl ?_
      refine WO.q (.ptv (v := .bool _) rfl rfl rfl) rfl rfl ?_
      refine WO.nil ?_
      refine WX.keep [2, 7, 9, 10, 11, 70] (WX.pk [0] (by decide) ?_) rfl
      exact gabionlaw15_ExtBack_j4_ok h _ _ _ ⟨hB, _, _, _, n24, _, _, g20, h26, h28, rfl, rfl⟩
    · have q_k31 := of_decide_eq_false k31
      replace h := (if_neg q_k31).symm.trans h
      refine WO.q (.mv (v := .sl _ _ _ _ _ _) rfl) (wg rfl rfl (gf k31)) rfl ?_
      obtain ⟨y126, hy126, h⟩ := Option.bind_eq_some_iff.1 h
      refine WO.cS rfl rfl (lendC (j := 0) h26 rfl fun _ K128 g127 => ext_List_Blocks_ok g127 hy126) rfl (wg rfl rfl (gf k31)) rfl ?_
      rintro _ rfl
      refine WO.q (.mv (v := .int _ _) rfl) (wg rfl rfl (gf k31)) rfl ?_
      refine WO.q (.r fun _ => rfl) (wg rfl rfl (gf k31)) rfl ?_
      refine WO.q (.pfv (v := .bool _) rfl k31 rfl) rfl rfl ?_
      refine WO.q (.mv (v := .bool _) rfl) rfl rfl ?_
      rcases bsp (decide (y126 ≠ (Int.tmod (wi64 a1) (wi64 (y16 + 1))))) with k129 | k129
      · have q_k129 := of_decide_eq_true k129
        replace h := (if_pos q_k129).symm.trans h
        refine WO.sd (wg rfl rfl (gfn k129)) rfl ?_
        refine WO.sd (wg rfl rfl (gfn k129)) rfl ?_
        refine WO.sd (wg rfl rfl (gfn k129)) rfl ?_
        refine WO.q (.ptv (v := .bool _) rfl k129 rfl) rfl rfl ?_
        refine WO.nil ?_
        refine WX.keep [2, 7, 9, 10, 11, 70] (WX.pk [0] (by decide) ?_) rfl
        exact gabionlaw15_ExtBack_j4_ok h _ _ _ ⟨hB, _, _, _, n24, _, _, g20, h26, h28, rfl, rfl⟩
      · have q_k129 := of_decide_eq_false k129
        replace h := (if_neg q_k129).symm.trans h
        refine WO.q (.mv (v := .sl _ _ _ _ _ _) rfl) (wg rfl rfl (gf k129)) rfl ?_
        obtain ⟨y130, hy130, h⟩ := Option.bind_eq_some_iff.1 h
        refine WO.cS rfl rfl (lendC (j := 0) h26 rfl fun _ K132 g131 => ext_List_Right_ok g131 hy130) rfl (wg rfl rfl (gf k129)) rfl ?_
        rintro _ rfl
        refine WO.q (.r fun _ => rfl) (wg rfl rfl (gf k129)) rfl ?_
        refine WO.q (.pfv (v := .bool _) rfl k129 rfl) rfl rfl ?_
        refine WO.nil ?_
        refine WX.keep [2, 7, 9, 10, 11, 70] (WX.pk [0] (by decide) ?_) rfl
        exact gabionlaw15_ExtBack_j4_ok h _ _ _ ⟨hB, _, _, _, n24, _, _, g20, h26, h28, rfl, rfl⟩
  · replace h := (if_neg (bnt k30)).symm.trans h
    refine WO.sd (wg rfl rfl (gfn (t_not k30))) rfl ?_
    refine WO.sd (wg rfl rfl (gfn (t_not k30))) rfl ?_
    refine WO.q (.ptv (v := .bool _) rfl (t_not k30) rfl) rfl rfl ?_
    refine WO.q (.mv (v := .bool _) rfl) rfl rfl ?_
    refine WO.sd (wg rfl rfl (gfn rfl)) rfl ?_
    refine WO.sd (wg rfl rfl (gfn rfl)) rfl ?_
    refine WO.sd (wg rfl rfl (gfn rfl)) rfl ?_
    refine WO.sd (wg rfl rfl (gfn rfl)) rfl ?_
    refine WO.q (.ptv (v := .bool _) rfl rfl rfl) rfl rfl ?_
    refine WO.q (.mv (v := .bool _) rfl) rfl rfl ?_
    refine WO.sd (wg rfl rfl (gfn rfl)) rfl ?_
    refine WO.sd (wg rfl rfl (gfn rfl)) rfl ?_
    refine WO.sd (wg rfl rfl (gfn rfl)) rfl ?_
    refine WO.q (.ptv (v := .bool _) rfl rfl rfl) rfl rfl ?_
    refine WO.nil ?_
    refine WX.keep [2, 7, 9, 10, 11, 70] (WX.pk [0] (by decide) ?_) rfl
    exact gabionlaw15_ExtBack_j4_ok h _ _ _ ⟨hB, _, _, _, n24, _, _, g20, h26, h28, rfl, rfl⟩
end Gab
