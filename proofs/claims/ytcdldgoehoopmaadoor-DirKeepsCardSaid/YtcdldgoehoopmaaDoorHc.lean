/- strconv.Itoa, by the kit's contract. -/
import Derived.Test.YtcdldgoehoopmaaDoorTy
import Derived.Test.YtcdldgoehoopmaaDoorPl
import Derived.Shelf.Strconv.Itoa3
import Derived.Ground.NamesProg
set_option linter.unusedSimpArgs false
set_option linter.unusedVariables false
set_option maxHeartbeats 4000000
set_option maxRecDepth 100000
namespace Go.Proofs
open Go.Shelf
def Tryd.itoaL_ren : Go.Shelf.Ren := ⟨fun | 171 => 8 | 243 => 27 | 246 => 40 | 283 => 48 | 284 => 49 | 285 => 50 | 286 => 51 | 129 => 61 | 317 => 69 | 318 => 70 | 319 => 71 | 320 => 72 | 337 => 83 | 338 => 84 | n => n, fun | 3 => 3 | 9 => 9 | 2 => 2 | 4 => 4 | 171 => 86 | 0 => 0 | 53 => 76 | 37 => 85 | 5 => 5 | 173 => 89 | 212 => 111 | 51 => 99 | 20 => 20 | 213 => 112 | 46 => 82 | 232 => 128 | 233 => 129 | n => n, fun | 17 => 0 | 18 => 2 | 19 => 3 | n => n⟩
theorem Tryd.itoaL : Go.Proofs.LaysM.n171 Tryd.prog Tryd.itoaL_ren := {
  mixed := by kernel_rfl,
  f129 := Tryd.func61.trans (congrArg some (by kernel_rfl)),
  f171 := Tryd.func8.trans (congrArg some (by kernel_rfl)),
  f243 := Tryd.func27.trans (congrArg some (by kernel_rfl)),
  f246 := Tryd.func40.trans (congrArg some (by kernel_rfl)),
  f283 := Tryd.func48.trans (congrArg some (by kernel_rfl)),
  f284 := Tryd.func49.trans (congrArg some (by kernel_rfl)),
  f285 := Tryd.func50.trans (congrArg some (by kernel_rfl)),
  f286 := Tryd.func51.trans (congrArg some (by kernel_rfl)),
  f317 := Tryd.func69.trans (congrArg some (by kernel_rfl)),
  f318 := Tryd.func70.trans (congrArg some (by kernel_rfl)),
  f319 := Tryd.func71.trans (congrArg some (by kernel_rfl)),
  f320 := Tryd.func72.trans (congrArg some (by kernel_rfl)),
  f337 := Tryd.func83.trans (congrArg some (by kernel_rfl)),
  f338 := Tryd.func84.trans (congrArg some (by kernel_rfl)),
  t0 := Tryd.underlying0,
  a0 := Tryd.isAgg0,
  z0 := Tryd.sizeOf0,
  v0 := Tryd.zeroValue0,
  t2 := Tryd.underlying2,
  a2 := Tryd.isAgg2,
  z2 := Tryd.sizeOf2,
  v2 := Tryd.zeroValue2,
  t3 := Tryd.underlying3,
  a3 := Tryd.isAgg3,
  z3 := Tryd.sizeOf3,
  v3 := Tryd.zeroValue3,
  t4 := Tryd.underlying4,
  a4 := Tryd.isAgg4,
  z4 := Tryd.sizeOf4,
  v4 := Tryd.zeroValue4,
  t5 := Tryd.underlying5,
  a5 := Tryd.isAgg5,
  z5 := Tryd.sizeOf5,
  v5 := Tryd.zeroValue5,
  t9 := Tryd.underlying9,
  a9 := Tryd.isAgg9,
  z9 := Tryd.sizeOf9,
  v9 := Tryd.zeroValue9,
  t20 := Tryd.underlying20,
  a20 := Tryd.isAgg20,
  z20 := Tryd.sizeOf20,
  v20 := Tryd.zeroValue20,
  t37 := Tryd.underlying85,
  a37 := Tryd.isAgg85,
  z37 := Tryd.sizeOf85,
  v37 := Tryd.zeroValue85,
  t46 := Tryd.underlying82,
  a46 := Tryd.isAgg82,
  z46 := Tryd.sizeOf82,
  v46 := Tryd.zeroValue82,
  t51 := Tryd.underlying99,
  a51 := Tryd.isAgg99,
  z51 := Tryd.sizeOf99,
  v51 := Tryd.zeroValue99,
  t53 := Tryd.underlying76,
  a53 := Tryd.isAgg76,
  z53 := Tryd.sizeOf76,
  v53 := Tryd.zeroValue76,
  t171 := Tryd.underlying86,
  a171 := Tryd.isAgg86,
  z171 := Tryd.sizeOf86,
  v171 := Tryd.zeroValue86,
  t173 := Tryd.underlying89,
  a173 := Tryd.isAgg89,
  z173 := Tryd.sizeOf89,
  v173 := Tryd.zeroValue89,
  t212 := Tryd.underlying111,
  a212 := Tryd.isAgg111,
  z212 := Tryd.sizeOf111,
  v212 := Tryd.zeroValue111,
  t213 := Tryd.underlying112,
  a213 := Tryd.isAgg112,
  z213 := Tryd.sizeOf112,
  t232 := Tryd.underlying128,
  a232 := Tryd.isAgg128,
  z232 := Tryd.sizeOf128,
  v232 := Tryd.zeroValue128,
  t233 := Tryd.underlying129,
  a233 := Tryd.isAgg129,
  z233 := Tryd.sizeOf129,
  v233 := Tryd.zeroValue129,
  g17 := by kernel_rfl,
  g18 := by kernel_rfl,
  g19 := by kernel_rfl,
  i0 := by kernel_rfl,
  i2 := by kernel_rfl,
  i3 := by kernel_rfl,
  i4 := by kernel_rfl,
  i5 := by kernel_rfl,
  i9 := by kernel_rfl,
  i20 := by kernel_rfl,
  i37 := by kernel_rfl,
  i46 := by kernel_rfl,
  i51 := by kernel_rfl,
  i53 := by kernel_rfl,
  i171 := by kernel_rfl,
  i173 := by kernel_rfl,
  i212 := by kernel_rfl,
  i232 := by kernel_rfl,
  i233 := by kernel_rfl,
  m17 := by kernel_rfl,
  m18 := by kernel_rfl,
  m19 := by kernel_rfl }
end Go.Proofs
namespace Gab
open Go Go.Proofs Go.Sort Go.Shelf
theorem Rel.grow {ρ : Loc.Map} {st : St} {w : World} (h : Rel ρ st w) (k : Nat) (os : Array Obj) : Rel ρ st (Go.Sort.grow (w.drewN k) os) ∧ Step st.n ρ st w ρ st (Go.Sort.grow (w.drewN k) os) := by
  have hold : ∀ j, j < w.heap.size → (Go.Sort.grow (w.drewN k) os).heap[j]? = w.heap[j]? := fun j hj => by
    show (w.heap ++ os)[j]? = _
    rw [Array.getElem?_append_left hj]
  refine gi2 h ⟨⟨h.len, fun i x hi => ?_, h.sep⟩, ⟨.refl _ _, rfl, rfl, rfl, by show w.drawn ≤ w.drawn + k; omega, by show _ ≤ (w.heap ++ os).size; simp, fun j hj _ => hold j hj, fun b o l hb hrw hl _ => ⟨b, o, l, hb, hrw, hl, rfl⟩⟩⟩
  obtain ⟨l, hl, hr⟩ := h.obj i x hi
  exact ⟨l, hl, hr.world (hold _ hr.lt)⟩
theorem digsB_eq : ∀ (f u : Nat), u < 10 ^ f → 0 < f → digsB f u = Lib.decDigits u
  | 0, u, _, h => by omega
  | f + 1, u, h, _ => by
    rw [digsB, Lib.decDigits]
    by_cases hu : u < 10
    · rw [if_pos hu, dif_pos hu]
    · rw [if_neg hu, dif_neg hu]
      cases f with
      | zero => omega
      | succ f => rw [digsB_eq (f + 1) (u / 10) (by rw [Nat.pow_succ] at h; omega) (by omega)]
theorem itoaB_eq {n : Int} (h0 : -9223372036854775808 ≤ n) (h1 : n ≤ 9223372036854775807) : itoaB n = Lib.itoa n := by
  unfold itoaB Lib.itoa
  by_cases hn : n < 0
  · rw [if_pos hn, if_pos hn, show (-n).toNat = n.natAbs by omega, digsB_eq _ _ (by omega) (by omega)]
  · rw [if_neg hn, if_neg hn, digsB_eq _ _ (by omega) (by omega)]
def strconv_Itoa_P (B : Kn) (L : Own) (r : List UInt8) : AV → St → Prop := CS B L fun v => v = .str r
theorem strconv_Itoa_ok {B0 : Kn} {L : Own} {a0 : Int} {r : List UInt8} (h : strconv_Itoa a0 = some r) : ∀ st, Hp B0 L st → ASpec Tryd.prog 8 [.int .i64 a0] st (strconv_Itoa_P B0 L r) := by
  intro st hp
  refine ⟨⟨_, Tryd.func8, rfl, rfl⟩, fun ρ w cargs hr ha => ?_⟩
  obtain ⟨⟨h0, h1⟩, h⟩ := ifS_some h
  obtain rfl := Option.some.inj h
  obtain ⟨c1, _, rfl, h2, h3⟩ := ha
  have h2 : c1 = .int .i64 a0 := h2
  have h3 : _ = [] := h3
  subst h2; subst h3
  have htab : Lib.TabIs Tryd.prog w "internal/strconv.uint64pow10" .u64 Lib.pow10Tab := by
    have hg : Tryd.prog.globalNamed "internal/strconv.uint64pow10" = some 0 := by kernel_rfl
    obtain ⟨e, fz, hh⟩ := hr.gi.glb 0 _ rfl
    show World.var? _ _ _ = _
    unfold World.var?
    rw [hg, Option.bind_some, hh]
    rfl
  refine (Any.strconv_Itoa Tryd.itoaL a0 h0 h1 w htab).mono ?_
  rintro e w' ⟨rfl, k, os, rfl⟩
  obtain ⟨g1, g2⟩ := hr.grow k os
  exact ⟨_, .str (itoaB a0), ρ, st, rfl, ⟨hp, rfl⟩, by rw [itoaB_eq h0 h1]; rfl, g1, g2⟩
end Gab
