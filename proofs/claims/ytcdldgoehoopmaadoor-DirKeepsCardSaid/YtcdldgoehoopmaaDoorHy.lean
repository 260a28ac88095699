/- strings.IndexRune in "/\x00"; strings.ContainsAny(s, "/\x00"). -/
import Derived.Test.YtcdldgoehoopmaaDoorHx
import Derived.Test.YtcdldgoehoopmaaDoorTy
import Derived.Test.YtcdldgoehoopmaaDoorPl
import Derived.Test.YtcdldgoehoopmaaDoorFpPre0
set_option linter.unusedSimpArgs false
set_option linter.unusedVariables false
set_option maxHeartbeats 4000000
set_option maxRecDepth 100000
namespace Gab
open Go Go.Proofs
theorem cvRS {P : Program} {S D : TypeId} {si di : TI} {fr : Fr} {B : Kn} {A : Own} {x : Operand} {j : IntKind} {n : Int} (h1 : tinfo P S = some si) (h2 : tinfo P D = some di) (h3 : di.k = .str) (he : fr.ev x = .int j n) : QOp P (.convert S D x) fr B A (.str (Utf8.encode n).data.toList) := .r fun st => by
  simp only [evOp, evConvert, h1, h2, Option.bind_some, h3, he]
theorem enc_high {r : Int} (h : 128 ≤ r) : ∃ rs, (Utf8.encode r).data.toList = rs ∧ ((∃ a b, rs = [a, b] ∧ 128 ≤ b.toNat) ∨ (3 ≤ rs.length ∧ rs.length ≤ 4)) := by
  refine ⟨_, rfl, ?_⟩
  unfold Utf8.encode
  have hc : 128 ≤ (if Utf8.valid r = true then r.toNat else Utf8.runeError) := by
    split
    · omega
    · decide
  generalize (if Utf8.valid r = true then r.toNat else Utf8.runeError) = c at hc
  dsimp only
  rw [if_neg (by omega)]
  split
  · refine .inl ⟨_, _, rfl, ?_⟩
    simp
    omega
  · split
    · exact .inr ⟨by simp, by simp⟩
    · exact .inr ⟨by simp, by simp⟩
theorem wrap8 {n : Int} (h1 : 0 ≤ n) (h2 : n < 256) : IntKind.wrap .u8 n = n := by
  simp only [IntKind.wrap, IntKind.bits, IntKind.signed]
  simp
  omega
theorem idx_two {r : Int} (h0 : 0 ≤ r) (h1 : r < 128) : 0 ≤ idxB [47, 0] r ↔ r = 47 ∨ r = 0 := by
  obtain ⟨n, rfl⟩ := Int.eq_ofNat_of_zero_le h0
  have : ∀ n : _root_.Fin 128, decide (0 ≤ idxB [47, 0] (n.val : Int)) = decide ((n.val : Int) = 47 ∨ (n.val : Int) = 0) := by decide +kernel
  exact decide_eq_decide.1 (this ⟨n, by omega⟩)
theorem idx_nil {n : Int} : idxB [] n = -1 := rfl
theorem strings_IndexRune_ok {B0 : Kn} {L : Own} {r : Int} (h0 : 0 ≤ r) (hr : r ≤ 2147483647) : ∀ st, Hp B0 L st → ASpec Tryd.prog 65 [.str [47, 0], .int .i32 r] st (CS B0 L fun v => ∃ n, v = .int .i64 n ∧ (0 ≤ n ↔ r = 47 ∨ r = 0)) := by
  refine bodyA (A := []) Tryd.func65 rfl (c := bodyOf Tryd.f65) rfl Tryd.ntmps65 (lb rfl) fun n0 => ?_
  refine WX.seq ?_
  refine WX.reg ?_
  refine WO.q (.as (v := .int _ _) rfl) rfl rfl ?_
  refine WO.nil ?_
  refine WX.block ?_
  refine WX.seq ?_
  refine WX.reg ?_
  have k1 : decide ((0 : Int) ≤ r) = true := decide_eq_true h0
  refine WO.q (.mv (v := .int _ _) rfl) rfl rfl ?_
  refine WO.q (.r fun _ => rfl) rfl rfl ?_
  refine WO.q (.mv (v := .bool _) rfl) rfl rfl ?_
  refine WO.q (.mv (v := .int _ _) rfl) (wg rfl rfl (gt k1)) rfl ?_
  refine WO.q (.r fun _ => rfl) (wg rfl rfl (gt k1)) rfl ?_
  refine WO.q (.ptv (v := .bool _) rfl k1 rfl) rfl rfl ?_
  refine WO.q (.as (v := .bool _) rfl) rfl rfl ?_
  refine WO.nil ?_
  rcases bsp (decide (r < 128)) with k2 | k2
  · have q_k2 := of_decide_eq_true k2
    refine WX.condT rfl k2 ?_
    refine WX.seq ?_
    refine WX.reg ?_
    refine WO.q (.mv (v := .str _) rfl) rfl rfl ?_
    refine WO.q (.mv (v := .int _ _) rfl) rfl rfl ?_
    refine WO.q (cvI ti21 ti5 rfl rfl) rfl rfl ?_
    refine WO.cS rfl rfl (strings_IndexByte_ok rfl) rfl rfl rfl ?_
    rintro _ rfl
    refine WO.q (.as (v := .int _ _) rfl) rfl rfl ?_
    refine WO.nil ?_
    exact WX.ret (rs_ (rs_tmp rfl rs_nil)) fun st hp => ⟨(hp.pk [] (by decide)), _, rfl, by
      rw [show IntKind.wrap .u8 r = r from wrap8 h0 (by omega)]
      exact idx_two h0 q_k2⟩
  · have q_k2 := of_decide_eq_false k2
    have hno : ¬ (r = 47 ∨ r = 0) := by omega
    refine WX.condF rfl k2 ?_
    refine WX.seq ?_
    refine WX.reg ?_
    refine WO.q (.mv (v := .int _ _) rfl) rfl rfl ?_
    refine WO.q (.r fun _ => rfl) rfl rfl ?_
    refine WO.q (.as (v := .bool _) rfl) rfl rfl ?_
    refine WO.nil ?_
    rcases bsp (decide (r = 65533)) with k3 | k3
    · have q_k3 := of_decide_eq_true k3
      refine WX.condT rfl k3 ?_
      refine WX.seq ?_
      refine WX.seq ?_
      refine WX.reg ?_
      refine WO.q (.mv (v := .str _) rfl) rfl rfl ?_
      refine WO.md (MOp.rangeS ti9 rfl rfl) rfl rfl ?_
      rintro _ _ ⟨bi, rfl, rfl⟩
      refine WO.nil ?_
      refine WX.block ?_
      refine WX.loop ?_
      refine WX.keep [175] (WX.pk [0] (by decide) ?_) rfl
      refine WX.loopN (L := L) (I := fun n fr B1 A E1 => B0 = B1 ∧ E1 = [] ∧ ∃ pos, n + pos = 2 ∧ fr = [(175, .ptr bi 0)] ∧ A = [(bi, some (OV.s [47, 0] pos))]) ?_ 2 _ _ _ [] ⟨rfl, rfl, 0, rfl, rfl, rfl⟩
      rintro n _ _ _ _ ⟨rfl, rfl, pos, hn, rfl, rfl⟩ ih
      refine WX.seq ?_
      refine WX.reg ?_
      refine WO.md (MOp.nextS rfl) rfl rfl ?_
      rintro _ _ (⟨hlt, rfl, rfl⟩ | ⟨hge, rfl, rfl⟩)
      · have hlt : pos < 2 := hlt
        refine WO.q (.r fun _ => rfl) rfl rfl ?_
        refine WO.nil ?_
        refine WX.seq ?_
        refine WX.condT rfl rfl ?_
        refine WX.skip ?_
        refine WX.block ?_
        have hd : (Utf8.decode ⟨([47, 0] : List UInt8).toArray⟩ pos).2 = 1 ∧ ((Utf8.decode ⟨([47, 0] : List UInt8).toArray⟩ pos).1 : Int) ≠ 65533 := by
          have hb : (([47, 0] : List UInt8)[pos]'hlt).toNat < 128 := by
            rcases (show pos = 0 ∨ pos = 1 by omega) with rfl | rfl
            · show (47 : UInt8).toNat < 128; decide
            · show (0 : UInt8).toNat < 128; decide
          rw [dec_low (l := [47, 0]) hlt hb]
          exact ⟨rfl, by omega⟩
        generalize Utf8.decode ⟨([47, 0] : List UInt8).toArray⟩ pos = dd at hd
        obtain ⟨d1, d2⟩ := dd
        obtain ⟨rfl, hd2⟩ : d2 = 1 ∧ (d1 : Int) ≠ 65533 := hd
        refine WX.seq ?_
        refine WX.reg ?_
        refine WO.q (.r fun _ => rfl) rfl rfl ?_
        refine WO.q (.r fun _ => rfl) rfl rfl ?_
        refine WO.q (.as (v := .int _ _) rfl) rfl rfl ?_
        refine WO.q (.as (v := .int _ _) rfl) rfl rfl ?_
        refine WO.nil ?_
        refine WX.seq ?_
        refine WX.reg ?_
        refine WO.q (.mv (v := .int _ _) rfl) rfl rfl ?_
        refine WO.q (.r fun _ => rfl) rfl rfl ?_
        refine WO.nil ?_
        refine WX.condF rfl (decide_eq_false hd2) ?_
        refine WX.skip ?_
        refine WX.pop ?_
        refine WX.keepL [175] (WX.pk [0] (by decide) ?_) rfl
        exact ih (n - 1) _ _ _ [] (by omega) ⟨rfl, rfl, pos + 1, by omega, rfl, rfl⟩
      · refine WO.q (.r fun _ => rfl) rfl rfl ?_
        refine WO.nil ?_
        refine WX.seq ?_
        refine WX.condF rfl rfl ?_
        refine WX.exit rfl ?_
        refine WX.seq ?_
        refine WX.reg ?_
        refine WO.q (.as (v := .int _ _) rfl) rfl rfl ?_
        refine WO.nil ?_
        exact WX.ret (rs_ (rs_tmp rfl rs_nil)) fun st hp => ⟨(hp.pk [] (by decide)), _, rfl, by omega⟩
    · refine WX.condF rfl k3 ?_
      refine WX.seq ?_
      refine WX.reg ?_
      refine WO.q (.mv (v := .int _ _) rfl) rfl rfl ?_
      obtain ⟨y, hy⟩ : ∃ y, unicode_utf8_ValidRune r = some y := by
        unfold unicode_utf8_ValidRune unicode_utf8_ValidRune_j1 unicode_utf8_ValidRune_j2
        repeat' split
        all_goals exact ⟨_, rfl⟩
      refine WO.cS rfl rfl (unicode_utf8_ValidRune_ok hy) rfl rfl rfl ?_
      rintro _ rfl
      refine WO.q (.r fun _ => rfl) rfl rfl ?_
      refine WO.q (.as (v := .bool _) rfl) rfl rfl ?_
      refine WO.nil ?_
      rcases bsp y with k4 | k4
      · refine WX.condF rfl (f_not k4) ?_
        refine WX.scope ?_
        obtain ⟨rs, hrs, hc⟩ := enc_high (r := r) (by omega)
        refine WX.seq ?_
        refine WX.reg ?_
        refine WO.q (.mv (v := .int _ _) rfl) rfl rfl ?_
        refine WO.q (cvRS ti21 ti9 rfl rfl) rfl rfl ?_
        rw [hrs]
        refine WO.q (.as (v := .str _) rfl) rfl rfl ?_
        refine WO.nil ?_
        refine WX.seq ?_
        refine WX.reg ?_
        refine WO.q (.mv (v := .str _) rfl) rfl rfl ?_
        refine WO.q (.len rfl rfl rfl (evslen ti9 rfl _)) rfl rfl ?_
        refine WO.q (.r fun _ => rfl) rfl rfl ?_
        refine WO.q (.as (v := .int _ _) rfl) rfl rfl ?_
        refine WO.nil ?_
        refine WX.seq ?_
        refine WX.reg ?_
        refine WO.q (.mv (v := .int _ _) rfl) rfl rfl ?_
        refine WO.q (.as (v := .int _ _) rfl) rfl rfl ?_
        refine WO.nil ?_
        refine WX.seq ?_
        refine WX.reg ?_
        refine WO.q (.as (v := .int _ _) rfl) rfl rfl ?_
        refine WO.nil ?_
        refine WX.seq ?_
        refine WX.block ?_
        refine WX.loop ?_
        refine WX.seq ?_
        refine WX.seq ?_
        refine WX.reg ?_
        refine WO.q (.mv (v := .int _ _) rfl) rfl rfl ?_
        refine WO.q (.mv (v := .str _) rfl) rfl rfl ?_
        refine WO.q (.len rfl rfl rfl (evslen ti9 rfl _)) rfl rfl ?_
        refine WO.q (.r fun _ => rfl) rfl rfl ?_
        refine WO.nil ?_
        rcases hc with ⟨a, b, rfl, hb⟩ | ⟨hl, hl2⟩
        · refine WX.condT rfl rfl ?_
          refine WX.skip ?_
          refine WX.block ?_
          refine WX.scope ?_
          refine WX.seq ?_
          refine WX.seq ?_
          refine WX.drw (Plan.of [0, 1, 2, 3, 4, 5, 6] .nil) _ mixed (by kernel_rfl) rfl (pk_sub []) ?_
          refine WP.q (i := 0) rfl (.mv (v := .str _) rfl) rfl rfl rfl ?_
          refine WP.q (i := 1) rfl (.mv (v := .int _ _) rfl) rfl rfl rfl ?_
          refine WP.q (i := 2) rfl (.ix (evsix ti9 rfl (show rd [47, 0] 1 = some 0 from rfl) _)) rfl rfl rfl ?_
          refine WP.q (i := 3) rfl (.mv (v := .str _) rfl) rfl rfl rfl ?_
          refine WP.q (i := 4) rfl (.mv (v := .int _ _) rfl) rfl rfl rfl ?_
          refine WP.q (i := 5) rfl (.ix (evsix ti9 rfl (show rd [a, b] 1 = some b from rfl) _)) rfl rfl rfl ?_
          refine WP.q (i := 6) rfl (.r fun _ => rfl) rfl rfl rfl ?_
          refine WP.nil ?_
          have hb0 : ((0 : UInt8).toNat : Int) ≠ (b.toNat : Int) := by
            have : (0 : UInt8).toNat = 0 := rfl
            omega
          refine WX.condT rfl ?_ ?_
          · show (decide (_ ≠ _)) = true
            exact decide_eq_true hb0
          refine WX.seq ?_
          refine WX.drw (Plan.of [0, 1, 2, 3, 4, 5, 6, 7, 8] .nil) _ mixed (by kernel_rfl) rfl (pk_sub []) ?_
          refine WP.q (i := 0) rfl (.mv (v := .str _) rfl) rfl rfl rfl ?_
          refine WP.q (i := 1) rfl (.mv (v := .int _ _) rfl) rfl rfl rfl ?_
          refine WP.q (i := 2) rfl (.r fun _ => rfl) rfl rfl rfl ?_
          refine WP.q (i := 3) rfl (.sl (evscut ti9 rfl (show cutL [47, 0] 2 2 = some [] from rfl) rfl rfl)) rfl rfl rfl ?_
          refine WP.q (i := 4) rfl (.mv (v := .str _) rfl) rfl rfl rfl ?_
          refine WP.q (i := 5) rfl (.mv (v := .int _ _) rfl) rfl rfl rfl ?_
          refine WP.q (i := 6) rfl (.ix (evsix ti9 rfl (show rd [a, b] 1 = some b from rfl) _)) rfl rfl rfl ?_
          refine WP.cS (i := 7) rfl rfl rfl (strings_IndexByte_ok rfl) rfl rfl rfl ?_
          rintro _ rfl
          refine WP.q (i := 8) rfl (.as (v := .int _ _) rfl) rfl rfl rfl ?_
          refine WP.nil ?_
          refine WX.seq ?_
          refine WX.seq ?_
          refine WX.reg ?_
          refine WO.q (.mv (v := .int _ _) rfl) rfl rfl ?_
          refine WO.q (.r fun _ => rfl) rfl rfl ?_
          refine WO.nil ?_
          refine WX.condT rfl (decide_eq_true (by rw [idx_nil]; decide)) ?_
          refine WX.seq ?_
          refine WX.reg ?_
          refine WO.q (.as (v := .int _ _) rfl) rfl rfl ?_
          refine WO.nil ?_
          exact WX.ret (rs_ (rs_tmp rfl rs_nil)) fun st hp => ⟨(hp.pk [] (by decide)), _, rfl, by omega⟩
        · refine WX.condF rfl (decide_eq_false (by
            rw [show IntKind.wrap .i64 ((rs.length : Int) - 1) = (rs.length : Int) - 1 from w64 (by omega) (by omega)]
            show ¬ ((rs.length : Int) - 1 < 2)
            omega)) ?_
          refine WX.exit rfl ?_
          refine WX.seq ?_
          refine WX.seq ?_
          refine WX.reg ?_
          refine WO.q (.as (v := .int _ _) rfl) rfl rfl ?_
          refine WO.nil ?_
          exact WX.ret (rs_ (rs_tmp rfl rs_nil)) fun st hp => ⟨(hp.pk [] (by decide)), _, rfl, by omega⟩
      · refine WX.condT rfl (t_not k4) ?_
        refine WX.seq ?_
        refine WX.reg ?_
        refine WO.q (.as (v := .int _ _) rfl) rfl rfl ?_
        refine WO.nil ?_
        exact WX.ret (rs_ (rs_tmp rfl rs_nil)) fun st hp => ⟨(hp.pk [] (by decide)), _, rfl, by omega⟩
end Gab
