/- maps.Clone, by the kit's contract. -/
import Derived.Test.YtcdldgoehoopmaaDoorTy
import Derived.Shelf.SlMaps.Clone
import Derived.Ground.SlmcProg
set_option linter.unusedSimpArgs false
set_option linter.unusedVariables false
set_option maxHeartbeats 4000000
set_option maxRecDepth 100000
namespace Go.Proofs
open Go.Shelf
def Tryd.cloneL_ren : Go.Shelf.Ren := ⟨fun | 5 => 34 | 7 => 45 | n => n, fun | 23 => 26 | 25 => 9 | 3 => 3 | 4 => 4 | 20 => 20 | n => n, fun | n => n⟩
theorem Tryd.cloneL : Go.Proofs.SlLaysW.n5 Tryd.prog Tryd.cloneL_ren := {
  mixed := by kernel_rfl,
  f5 := ⟨Tryd.f34.name, by decide, Tryd.func34.trans (congrArg some (by kernel_rfl))⟩,
  f7 := Tryd.func45.trans (congrArg some (by kernel_rfl)),
  t4 := Tryd.underlying4,
  a4 := Tryd.isAgg4,
  z4 := Tryd.sizeOf4,
  v4 := Tryd.zeroValue4,
  t20 := Tryd.underlying20,
  a20 := Tryd.isAgg20,
  z20 := Tryd.sizeOf20,
  v20 := Tryd.zeroValue20,
  t23 := Tryd.underlying26,
  a23 := Tryd.isAgg26,
  z23 := Tryd.sizeOf26,
  v23 := Tryd.zeroValue26 }
end Go.Proofs
namespace Gab
open Go Go.Proofs Go.Shelf
-- KIT0
theorem clone_calls {b : Nat} {es : Array MapEntry} {clock : Nat} {w : World} (hb : w.heap[b]? = some (.map es clock)) : Calls Tryd.prog 34 #[.map (some b)] w fun e w' => e = .returned (.map (some w.heap.size)) ∧ w' = w.alloc (.map es clock) :=
  AnyW.maps_Clone Tryd.cloneL b es clock w hb
theorem clone_nil {w : World} : Calls Tryd.prog 34 #[.map none] w fun e w' => e = .returned (.map none) ∧ w' = w :=
  AnyW.maps_Clone_nil Tryd.cloneL w
-- KIT1
def maps_Clone_map_string_int_string_int_P (B : Kn) (L : Own) (r : Heap × Nat) : AV → St → Prop := CH B L fun B' X E' v => ∃ wp0, v = wp0 ∧ X = [] ∧ HR B' r.1 E' ∧ HMt B' 26 wp0 r.2
theorem maps_Clone_map_string_int_string_int_ok {B0 : Kn} {L : Own} {H : Heap} {E : Own} (hH : HR B0 H E) {a0 : Nat} {v0_0 : AV} {r : Heap × Nat} (g0_0 : HMt B0 26 v0_0 a0) (h : maps_Clone_map_string_int_string_int H a0 = some r) : ∀ st, Hp B0 (E ++ L) st → ASpec Tryd.prog 34 [v0_0] st (maps_Clone_map_string_int_string_int_P B0 L r) := by
  intro st hp
  refine ⟨⟨_, Tryd.func34, rfl, rfl⟩, fun ρ w cargs hr ha => ?_⟩
  unfold maps_Clone_map_string_int_string_int at h
  obtain ⟨c1, _, rfl, h1, h2⟩ := ha
  have h2 : _ = [] := h2
  subst h2
  by_cases h0 : a0 = 0
  · rw [if_pos h0] at h
    obtain rfl := Option.some.inj h
    rcases g0_0 with ⟨_, rfl⟩ | ⟨_, _, e, _⟩
    · have h1 : c1 = .map none := h1
      subst h1
      refine clone_nil.mono ?_
      rintro e w' ⟨rfl, rfl⟩
      exact ⟨_, .nilmap, ρ, st, rfl, ⟨B0, [], E, KLw.refl _, hp, _, rfl, rfl, hH, HMt.nil⟩, rfl, hr, .refl ..⟩
    · omega
  · rw [if_neg h0] at h
    obtain ⟨x, hx, h⟩ := Option.bind_eq_some_iff.1 h
    obtain rfl := Option.some.inj h
    obtain ⟨i, rfl, hi⟩ := hobj_some hx
    rcases g0_0 with ⟨e, _⟩ | ⟨bm, j, hj, hbm, rfl⟩
    · omega
    obtain rfl : i = j := by omega
    have hfoc := foc26 hH
    obtain ⟨u, y, hy, hmem, ⟨es, c, rfl, hrel⟩, _⟩ := hfoc.get hbm
    rw [hi] at hy; simp at hy; subst hy
    obtain ⟨lc, hlc, rfl⟩ := h1
    obtain ⟨ents, hh, hes⟩ := map_obj hr (getMap_in hp.rd (List.mem_append_left _ hmem)) hlc
    refine (clone_calls hh).mono ?_
    rintro e w' ⟨rfl, rfl⟩
    obtain ⟨g1, g2, g3⟩ := hr.newObj (.map es c) (.map ents c) ⟨ents, heap_new _ _, by simpa using hes.1, fun i k v b hi => by
      obtain ⟨e, a1, a2, a3, a4⟩ := hes.2 i k v b hi
      exact ⟨e, by simpa using a1, RV.sup (Sup.append _ _) _ _ a2, RV.sup (Sup.append _ _) _ _ a3, a4⟩⟩
    have hlw : st.lw := fun b x hb => hr.lt hb
    obtain ⟨pre, F, post, rfl, hs, hk⟩ := hfoc
    have hadl := hs.ad
    refine ⟨_, .map st.n, _, _, rfl, ⟨B0.obj 26 st.n, [], pre ++ ((F ++ [(st.n, some (OV.m es c))]) ++ post), KLw.obj _ _ _, ((hp.pushV hlw (.m es c)).objK 26 st.n).perm (perm_in (A := [])), _, rfl, rfl, ?_, ?_⟩, ⟨_, g3, rfl⟩, g1, g2⟩
    · exact hk _ _ _ (KLw.obj _ _ _) (fun t ht => Kn.obj_ne ht) (hs.snoc Kn.obj_at (fun u x h => MR.mono (KLw.obj _ _ _) h) ⟨es, c, rfl, hrel.mono (KLw.obj _ _ _)⟩)
    · exact .inr ⟨st.n, H.h26.length, rfl, by rw [Kn.obj_at, ← hadl]; simp, rfl⟩
end Gab
