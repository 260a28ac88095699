/- strings.ContainsAny(s, "/\x00"). -/
import Derived.Test.YtcdldgoehoopmaaDoorHy
import Derived.Test.YtcdldgoehoopmaaDoorHc
import Derived.Shelf.Strings.IndexAnyAll
set_option linter.unusedSimpArgs false
set_option linter.unusedVariables false
set_option maxHeartbeats 4000000
set_option maxRecDepth 100000
namespace Go.Proofs
open Go.Shelf
def Tryd.indexAnyL_ren : Go.Shelf.Ren := ⟨fun | 153 => 47 | 152 => 65 | 226 => 66 | 227 => 67 | 228 => 68 | 137 => 79 | 119 => 80 | 224 => 81 | 225 => 82 | 217 => 88 | 266 => 89 | n => n, fun | 9 => 9 | 3 => 3 | 4 => 4 | 5 => 5 | 21 => 21 | 117 => 106 | 116 => 105 | 0 => 0 | 46 => 82 | 124 => 122 | n => n, fun | n => n⟩
theorem Tryd.indexAnyL : Go.Proofs.Lays.n153 Tryd.prog Tryd.indexAnyL_ren := {
  mixed := by kernel_rfl,
  f119 := Tryd.func80.trans (congrArg some (by kernel_rfl)),
  f137 := Tryd.func79.trans (congrArg some (by kernel_rfl)),
  f152 := Tryd.func65.trans (congrArg some (by kernel_rfl)),
  f153 := Tryd.func47.trans (congrArg some (by kernel_rfl)),
  f217 := Tryd.func88.trans (congrArg some (by kernel_rfl)),
  f224 := Tryd.func81.trans (congrArg some (by kernel_rfl)),
  f225 := Tryd.func82.trans (congrArg some (by kernel_rfl)),
  f226 := Tryd.func66.trans (congrArg some (by kernel_rfl)),
  f227 := Tryd.func67.trans (congrArg some (by kernel_rfl)),
  f228 := Tryd.func68.trans (congrArg some (by kernel_rfl)),
  f266 := Tryd.func89.trans (congrArg some (by kernel_rfl)),
  t0 := Tryd.underlying0,
  a0 := Tryd.isAgg0,
  z0 := Tryd.sizeOf0,
  v0 := Tryd.zeroValue0,
  t3 := Tryd.underlying3,
  a3 := Tryd.isAgg3,
  z3 := Tryd.sizeOf3,
  v3 := Tryd.zeroValue3,
  t4 := Tryd.underlying4,
  a4 := Tryd.isAgg4,
  z4 := Tryd.sizeOf4,
  v4 := Tryd.zeroValue4,
  t5 := Tryd.underlying5,
  a5 := Tryd.isAgg5,
  z5 := Tryd.sizeOf5,
  v5 := Tryd.zeroValue5,
  t9 := Tryd.underlying9,
  a9 := Tryd.isAgg9,
  z9 := Tryd.sizeOf9,
  v9 := Tryd.zeroValue9,
  t21 := Tryd.underlying21,
  a21 := Tryd.isAgg21,
  z21 := Tryd.sizeOf21,
  v21 := Tryd.zeroValue21,
  t46 := Tryd.underlying82,
  a46 := Tryd.isAgg82,
  z46 := Tryd.sizeOf82,
  v46 := Tryd.zeroValue82,
  t116 := Tryd.underlying105,
  a116 := Tryd.isAgg105,
  z116 := Tryd.sizeOf105,
  t117 := Tryd.underlying106,
  a117 := Tryd.isAgg106,
  z117 := Tryd.sizeOf106,
  v117 := Tryd.zeroValue106,
  t124 := Tryd.underlying122,
  a124 := Tryd.isAgg122,
  z124 := Tryd.sizeOf122,
  v124 := Tryd.zeroValue122 }
end Go.Proofs
namespace Gab
open Go Go.Proofs Go.Sort Go.Shelf
def slz (b : UInt8) : Bool := b == 47 || b == 0
theorem slz_iff {b : UInt8} : slz b = true ↔ ((b.toNat : Int) = 47 ∨ (b.toNat : Int) = 0) := by
  unfold slz
  simp only [Bool.or_eq_true, beq_iff_eq]
  constructor
  · rintro (rfl | rfl)
    · exact .inl rfl
    · exact .inr rfl
  · rintro (h | h)
    · exact .inl (UInt8.toNat_inj.1 (by show b.toNat = 47; omega))
    · exact .inr (UInt8.toNat_inj.1 (by show b.toNat = 0; omega))
theorem indexAny_any : ∀ (s : List UInt8), 0 ≤ Lib.indexAny s [47, 0] ↔ s.any slz = true
  | [] => by simp [Lib.indexAny]
  | b :: s => by
    have ih := indexAny_any s
    have hge := Lib.indexAny_ge [47, 0] s
    rw [Lib.indexAny, List.any_cons]
    by_cases hb : ([47, 0] : List UInt8).contains b = true
    · have hs : slz b = true := by
        simp at hb
        unfold slz; simpa using hb
      rw [if_pos hb, hs]; simp
    · have hs : slz b = false := by
        simp at hb
        unfold slz; simpa using hb
      rw [if_neg hb, hs, Bool.false_or, ← ih]
      split
      · rename_i h
        have h : Lib.indexAny s [47, 0] = -1 := by simpa using h
        omega
      · rename_i h
        have h : Lib.indexAny s [47, 0] ≠ -1 := by simpa using h
        omega
theorem strings_IndexAny_ok {B0 : Kn} {L : Own} {a0 : List UInt8} (hl : a0.length < 4294967281) : ∀ st, Hp B0 L st → ASpec Tryd.prog 47 [.str a0, .str [47, 0]] st (CS B0 L fun v => ∃ n, v = .int .i64 n ∧ (0 ≤ n ↔ a0.any slz = true)) := by
  by_cases h8 : 8 < a0.length
  · intro st hp
    refine ⟨⟨_, Tryd.func47, rfl, rfl⟩, fun ρ w cargs hr ha => ?_⟩
    obtain ⟨c1, _, rfl, h1, c2, _, rfl, h2, h3⟩ := ha
    have h1 : c1 = .string ⟨a0.toArray⟩ := h1
    have h2 : c2 = .string ⟨#[47, 0]⟩ := h2
    have h3 : _ = [] := h3
    subst h1; subst h2; subst h3
    refine (Any.strings_IndexAny_long Tryd.indexAnyL Tryd.zeroValue105 (by kernel_rfl) ⟨a0.toArray⟩ ⟨#[47, 0]⟩ w (by decide) h8 hl (by decide) (fun j b hj => by
      have : b = 47 ∨ b = 0 := by
        have := List.mem_of_getElem? hj
        simpa using this
      rcases this with rfl | rfl <;> decide)).mono ?_
    rintro e w' ⟨rfl, rfl⟩
    rw [alloc_eq_grow, alloc_eq_grow, grow_grow]
    obtain ⟨g1, g2⟩ := hr.grow 0 (#[.cells (Lib.setCells [47, 0]) 105] ++ #[.cells (Lib.setCells [47, 0]) 105])
    exact ⟨_, .int .i64 (Lib.indexAny a0 [47, 0]), ρ, st, rfl, ⟨hp, _, rfl, indexAny_any a0⟩, rfl, g1, g2⟩
  · refine bodyA (A := []) Tryd.func47 rfl (c := bodyOf Tryd.f47) rfl Tryd.ntmps47 (lb rfl) fun n0 => ?_
    refine WX.seq ?_
    refine WX.reg ?_
    refine WO.q (.as (v := .int _ _) rfl) rfl rfl ?_
    refine WO.nil ?_
    refine WX.seq ?_
    refine WX.seq ?_
    refine WX.reg ?_
    refine WO.q (.mv (v := .str _) rfl) rfl rfl ?_
    refine WO.q (.r fun _ => rfl) rfl rfl ?_
    refine WO.nil ?_
    refine WX.condF rfl rfl ?_
    refine WX.skip ?_
    refine WX.seq ?_
    refine WX.seq ?_
    refine WX.reg ?_
    refine WO.q (.mv (v := .str _) rfl) rfl rfl ?_
    refine WO.q (.len rfl rfl rfl (evslen ti9 rfl _)) rfl rfl ?_
    refine WO.q (.r fun _ => rfl) rfl rfl ?_
    refine WO.nil ?_
    refine WX.condF rfl rfl ?_
    refine WX.skip ?_
    refine WX.seq ?_
    refine WX.seq ?_
    refine WX.reg ?_
    refine WO.q (.mv (v := .str _) rfl) rfl rfl ?_
    refine WO.q (.len rfl rfl rfl (evslen ti9 rfl _)) rfl rfl ?_
    refine WO.cS rfl rfl (strings_shouldUseASCIISet_ok rfl) rfl rfl rfl ?_
    rintro _ rfl
    refine WO.nil ?_
    refine WX.condF rfl (decide_eq_false (by omega)) ?_
    refine WX.skip ?_
    refine WX.seq ?_
    refine WX.seq ?_
    refine WX.reg ?_
    refine WO.q (.mv (v := .str _) rfl) rfl rfl ?_
    refine WO.md (MOp.rangeS ti9 rfl rfl) rfl rfl ?_
    rintro _ _ ⟨bi, rfl, rfl⟩
    refine WO.nil ?_
    refine WX.block ?_
    refine WX.loop ?_
    refine WX.keep [1, 45] (WX.pk [0] (by decide) ?_) rfl
    refine WX.loopN (L := L) (I := fun n fr B1 A E1 => B0 = B1 ∧ E1 = [] ∧ ∃ pos, n = a0.length - pos ∧ (∀ j b, j < pos → a0[j]? = some b → slz b = false) ∧ fr = [(1, .str [47, 0]), (45, .ptr bi 0)] ∧ A = [(bi, some (OV.s a0 pos))]) ?_ a0.length _ _ _ [] ⟨rfl, rfl, 0, rfl, by omega, rfl, rfl⟩
    rintro n _ _ _ _ ⟨rfl, rfl, pos, hn, hno, rfl, rfl⟩ ih
    refine WX.seq ?_
    refine WX.reg ?_
    refine WO.md (MOp.nextS rfl) rfl rfl ?_
    rintro _ _ (⟨hlt, rfl, rfl⟩ | ⟨hge, rfl, rfl⟩)
    · refine WO.q (.r fun _ => rfl) rfl rfl ?_
      refine WO.nil ?_
      refine WX.seq ?_
      refine WX.condT rfl rfl ?_
      refine WX.skip ?_
      refine WX.block ?_
      refine WX.seq ?_
      refine WX.reg ?_
      refine WO.q (.r fun _ => rfl) rfl rfl ?_
      refine WO.q (.r fun _ => rfl) rfl rfl ?_
      refine WO.q (.as (v := .int _ _) rfl) rfl rfl ?_
      refine WO.q (.as (v := .int _ _) rfl) rfl rfl ?_
      refine WO.nil ?_
      refine WX.seq ?_
      refine WX.reg ?_
      refine WO.q (.mv (v := .str _) rfl) rfl rfl ?_
      refine WO.q (.mv (v := .int _ _) rfl) rfl rfl ?_
      refine WO.cS rfl rfl (strings_IndexRune_ok (by omega) (by have := decode_le ⟨a0.toArray⟩ pos; omega)) rfl rfl rfl ?_
      rintro _ ⟨m, rfl, hm⟩
      refine WO.q (.r fun _ => rfl) rfl rfl ?_
      refine WO.nil ?_
      have hat : a0[pos]? = some a0[pos] := List.getElem?_eq_getElem hlt
      rcases bsp (decide ((0 : Int) ≤ m)) with k1 | k1
      · have hmm := hm.1 (of_decide_eq_true k1)
        refine WX.condT rfl k1 ?_
        refine WX.seq ?_
        refine WX.reg ?_
        refine WO.q (.mv (v := .int _ _) rfl) rfl rfl ?_
        refine WO.q (.as (v := .int _ _) rfl) rfl rfl ?_
        refine WO.nil ?_
        have hany : a0.any slz = true := by
          rcases Nat.lt_or_ge (a0[pos]).toNat 128 with hb | hb
          · rw [dec_low hlt hb] at hmm
            exact List.any_eq_true.2 ⟨a0[pos], List.getElem_mem hlt, slz_iff.2 hmm⟩
          · have := (dec_high hlt hb).1
            omega
        exact WX.ret (rs_ (rs_tmp rfl rs_nil)) fun st hp => ⟨(hp.pk [] (by decide)), _, rfl, by simp [hany]⟩
      · have hmm : ¬ _ := fun h => of_decide_eq_false k1 (hm.2 h)
        refine WX.condF rfl k1 ?_
        refine WX.skip ?_
        refine WX.pop ?_
        refine WX.keepL [1, 45] (WX.pk [0] (by decide) ?_) rfl
        rcases Nat.lt_or_ge (a0[pos]).toNat 128 with hb | hb
        · rw [dec_low hlt hb] at hmm ⊢
          refine ih (n - 1) _ _ _ [] (by omega) ⟨rfl, rfl, pos + 1, by omega, fun j b hj he => ?_, rfl, rfl⟩
          rcases (show j < pos ∨ j = pos by omega) with hj | rfl
          · exact hno j b hj he
          · rw [hat] at he; simp at he; subst he
            cases hs : slz a0[j] with
            | false => rfl
            | true => exact absurd (slz_iff.1 hs) hmm
        · obtain ⟨h1, h2, h3⟩ := dec_high hlt hb
          refine ih (a0.length - (pos + (Utf8.decode ⟨a0.toArray⟩ pos).2)) _ _ _ [] (by omega) ⟨rfl, rfl, pos + (Utf8.decode ⟨a0.toArray⟩ pos).2, rfl, fun j b hj he => ?_, rfl, rfl⟩
          rcases Nat.lt_or_ge j pos with hj2 | hj2
          · exact hno j b hj2 he
          · have h4 := h3 j b hj2 hj he
            cases hs : slz b with
            | false => rfl
            | true => have := slz_iff.1 hs; omega
    · refine WO.q (.r fun _ => rfl) rfl rfl ?_
      refine WO.nil ?_
      refine WX.seq ?_
      refine WX.condF rfl rfl ?_
      refine WX.exit rfl ?_
      refine WX.seq ?_
      refine WX.reg ?_
      refine WO.q (.as (v := .int _ _) rfl) rfl rfl ?_
      refine WO.nil ?_
      have hany : a0.any slz = false := by
        rw [List.any_eq_false]
        intro b hb
        obtain ⟨j, hj⟩ := List.mem_iff_getElem?.1 hb
        have := hno j b (by have := (List.getElem?_eq_some_iff.1 hj).1; omega) hj
        simp [this]
      exact WX.ret (rs_ (rs_tmp rfl rs_nil)) fun st hp => ⟨(hp.pk [] (by decide)), _, rfl, by simp [hany]⟩
def strings_ContainsAny_P (B : Kn) (L : Own) (r : Bool) : AV → St → Prop := CS B L fun v => v = .bool r
theorem strings_ContainsAny_ok {B0 : Kn} {L : Own} {a0 a1 : List UInt8} {r : Bool} (h : strings_ContainsAny a0 a1 = some r) : ∀ st, Hp B0 L st → ASpec Tryd.prog 36 [.str a0, .str a1] st (strings_ContainsAny_P B0 L r) := by
  obtain ⟨⟨e47, hl⟩, h2⟩ := ifS_some h
  obtain rfl := Option.some.inj h2
  subst e47
  refine bodyA (A := []) Tryd.func36 rfl (c := bodyOf Tryd.f36) rfl Tryd.ntmps36 (lb rfl) fun n0 => ?_
  refine WX.seq ?_
  refine WX.reg ?_
  refine WO.q (.as (v := .bool _) rfl) rfl rfl ?_
  refine WO.nil ?_
  refine WX.seq ?_
  refine WX.reg ?_
  refine WO.q (.mv (v := .str _) rfl) rfl rfl ?_
  refine WO.q (.mv (v := .str _) rfl) rfl rfl ?_
  refine WO.cS rfl rfl (strings_IndexAny_ok hl) rfl rfl rfl ?_
  rintro _ ⟨m, rfl, hm⟩
  refine WO.q (.r fun _ => rfl) rfl rfl ?_
  refine WO.q (.as (v := .bool _) rfl) rfl rfl ?_
  refine WO.nil ?_
  have he : decide ((0 : Int) ≤ m) = a0.any fun b => b == 47 || b == 0 := by
    rw [show (a0.any fun b => b == 47 || b == 0) = a0.any slz from rfl]
    by_cases h0 : (0 : Int) ≤ m
    · rw [decide_eq_true h0, hm.1 h0]
    · rw [decide_eq_false h0]
      cases hs : a0.any slz with
      | false => rfl
      | true => exact absurd (hm.2 hs) h0
  exact WX.ret (rs_ (rs_tmp rfl rs_nil)) fun st hp => ⟨(hp.pk [] (by decide)), congrArg AV.bool he⟩
end Gab
