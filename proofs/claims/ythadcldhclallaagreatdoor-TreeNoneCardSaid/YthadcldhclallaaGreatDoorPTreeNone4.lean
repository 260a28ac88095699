/- Joined out of So FpDir0 FpExt0 FpSlices0 FpStringslite0 FpStrings0 Ss Sp by a program. -/
import Derived.Test.YthadcldhclallaaGreatDoorPTreeNone3
import Derived.Shelf.SortG.SortNone
import Derived.Shelf.SortG.Plain
import Derived.Ground.SlgnProg
import Derived.Shelf.SlMaps.Clone
import Derived.Ground.SlmcProg
import Derived.Lib.Bytealg
section
set_option linter.unusedSimpArgs false
set_option linter.unusedVariables false
set_option maxHeartbeats 4000000
set_option maxRecDepth 100000
namespace Go.Proofs
open Go.Shelf
def Tryz.sortS_ren : Go.Shelf.Ren := ⟨fun | 6 => 135 | 15 => 156 | 14 => 160 | 28 => 182 | 29 => 183 | 20 => 192 | 21 => 193 | 22 => 194 | 23 => 195 | 24 => 196 | 25 => 197 | 26 => 198 | 27 => 199 | 46 => 216 | 47 => 209 | 48 => 210 | 49 => 217 | 50 => 218 | 57 => 223 | n => n, fun | 22 => 171 | 24 => 166 | 25 => 170 | 3 => 3 | 39 => 244 | 0 => 0 | 53 => 270 | 55 => 272 | 4 => 4 | 46 => 264 | 45 => 263 | 50 => 183 | 5 => 5 | 9 => 9 | 66 => 292 | 70 => 296 | 76 => 304 | 77 => 44 | n => n, fun n => n⟩
theorem Tryz.sortS : Go.Proofs.SlLaysF0.n6 Tryz.prog Tryz.sortS_ren := {
  mixed := by kernel_rfl,
  f6 := ⟨Tryz.f135.name, by decide, Tryz.func135.trans (congrArg some (by kernel_rfl))⟩,
  f14 := ⟨Tryz.f160.name, by decide, Tryz.func160.trans (congrArg some (by kernel_rfl))⟩,
  f15 := Tryz.func156.trans (congrArg some (by kernel_rfl)),
  f20 := ⟨Tryz.f192.name, by decide, Tryz.func192.trans (congrArg some (by kernel_rfl))⟩,
  f21 := ⟨Tryz.f193.name, by decide, Tryz.func193.trans (congrArg some (by kernel_rfl))⟩,
  f22 := ⟨Tryz.f194.name, by decide, Tryz.func194.trans (congrArg some (by kernel_rfl))⟩,
  f23 := ⟨Tryz.f195.name, by decide, Tryz.func195.trans (congrArg some (by kernel_rfl))⟩,
  f24 := ⟨Tryz.f196.name, by decide, Tryz.func196.trans (congrArg some (by kernel_rfl))⟩,
  f25 := ⟨Tryz.f197.name, by decide, Tryz.func197.trans (congrArg some (by kernel_rfl))⟩,
  f26 := ⟨Tryz.f198.name, by decide, Tryz.func198.trans (congrArg some (by kernel_rfl))⟩,
  f27 := ⟨Tryz.f199.name, by decide, Tryz.func199.trans (congrArg some (by kernel_rfl))⟩,
  f28 := Tryz.func182.trans (congrArg some (by kernel_rfl)),
  f29 := Tryz.func183.trans (congrArg some (by kernel_rfl)),
  f46 := ⟨Tryz.f216.name, by decide, Tryz.func216.trans (congrArg some (by kernel_rfl))⟩,
  f47 := Tryz.func209.trans (congrArg some (by kernel_rfl)),
  f48 := Tryz.func210.trans (congrArg some (by kernel_rfl)),
  f49 := ⟨Tryz.f217.name, by decide, Tryz.func217.trans (congrArg some (by kernel_rfl))⟩,
  f50 := ⟨Tryz.f218.name, by decide, Tryz.func218.trans (congrArg some (by kernel_rfl))⟩,
  f57 := ⟨Tryz.f223.name, by decide, Tryz.func223.trans (congrArg some (by kernel_rfl))⟩,
  t0 := Tryz.underlying0,
  a0 := Tryz.isAgg0,
  z0 := Tryz.sizeOf0,
  v0 := Tryz.zeroValue0,
  t3 := Tryz.underlying3,
  a3 := Tryz.isAgg3,
  z3 := Tryz.sizeOf3,
  v3 := Tryz.zeroValue3,
  t4 := Tryz.underlying4,
  a4 := Tryz.isAgg4,
  z4 := Tryz.sizeOf4,
  v4 := Tryz.zeroValue4,
  t5 := Tryz.underlying5,
  a5 := Tryz.isAgg5,
  z5 := Tryz.sizeOf5,
  v5 := Tryz.zeroValue5,
  t9 := Tryz.underlying9,
  a9 := Tryz.isAgg9,
  z9 := Tryz.sizeOf9,
  v9 := Tryz.zeroValue9,
  t22 := Tryz.underlying171,
  a22 := Tryz.isAgg171,
  z22 := Tryz.sizeOf171,
  v22 := Tryz.zeroValue171,
  t25 := Tryz.underlying170,
  a25 := Tryz.isAgg170,
  z25 := Tryz.sizeOf170,
  v25 := Tryz.zeroValue170,
  t39 := Tryz.underlying244,
  a39 := Tryz.isAgg244,
  z39 := Tryz.sizeOf244,
  v39 := Tryz.zeroValue244,
  t45 := Tryz.underlying263,
  a45 := Tryz.isAgg263,
  z45 := Tryz.sizeOf263,
  v45 := Tryz.zeroValue263,
  t46 := Tryz.underlying264,
  a46 := Tryz.isAgg264,
  z46 := Tryz.sizeOf264,
  v46 := Tryz.zeroValue264,
  t50 := Tryz.underlying183,
  a50 := Tryz.isAgg183,
  z50 := Tryz.sizeOf183,
  v50 := Tryz.zeroValue183,
  t53 := Tryz.underlying270,
  a53 := Tryz.isAgg270,
  z53 := Tryz.sizeOf270,
  v53 := Tryz.zeroValue270,
  t55 := Tryz.underlying272,
  a55 := Tryz.isAgg272,
  z55 := Tryz.sizeOf272,
  v55 := Tryz.zeroValue272,
  t66 := Tryz.underlying292,
  a66 := Tryz.isAgg292,
  z66 := Tryz.sizeOf292,
  v66 := Tryz.zeroValue292,
  t70 := Tryz.underlying296,
  a70 := Tryz.isAgg296,
  z70 := Tryz.sizeOf296,
  v70 := Tryz.zeroValue296,
  t76 := Tryz.underlying304,
  a76 := Tryz.isAgg304,
  z76 := Tryz.sizeOf304,
  v76 := Tryz.zeroValue304,
  t77 := Tryz.underlying44,
  a77 := Tryz.isAgg44,
  z77 := Tryz.sizeOf44,
  v77 := Tryz.zeroValue44 }
def Tryz.sortI_ren : Go.Shelf.Ren := ⟨fun | 53 => 126 | 64 => 156 | 63 => 155 | 78 => 182 | 79 => 183 | 70 => 173 | 71 => 174 | 72 => 175 | 73 => 176 | 74 => 177 | 75 => 178 | 59 => 179 | 76 => 180 | 77 => 181 | 88 => 208 | 89 => 209 | 90 => 210 | 91 => 211 | 92 => 212 | 68 => 132 | 96 => 221 | n => n, fun | 22 => 40 | 23 => 3 | 3 => 3 | 51 => 244 | 0 => 0 | 67 => 270 | 69 => 272 | 4 => 4 | 61 => 264 | 60 => 263 | 44 => 183 | 5 => 5 | 9 => 9 | 75 => 292 | 79 => 296 | 83 => 304 | 84 => 44 | n => n, fun n => n⟩
theorem Tryz.sortI : Go.Proofs.SlLaysN.n53 Tryz.prog Tryz.sortI_ren := {
  mixed := by kernel_rfl,
  f53 := ⟨Tryz.f126.name, by decide, Tryz.func126.trans (congrArg some (by kernel_rfl))⟩,
  f59 := ⟨Tryz.f179.name, by decide, Tryz.func179.trans (congrArg some (by kernel_rfl))⟩,
  f63 := ⟨Tryz.f155.name, by decide, Tryz.func155.trans (congrArg some (by kernel_rfl))⟩,
  f64 := Tryz.func156.trans (congrArg some (by kernel_rfl)),
  f68 := ⟨Tryz.f132.name, by decide, Tryz.func132.trans (congrArg some (by kernel_rfl))⟩,
  f70 := ⟨Tryz.f173.name, by decide, Tryz.func173.trans (congrArg some (by kernel_rfl))⟩,
  f71 := ⟨Tryz.f174.name, by decide, Tryz.func174.trans (congrArg some (by kernel_rfl))⟩,
  f72 := ⟨Tryz.f175.name, by decide, Tryz.func175.trans (congrArg some (by kernel_rfl))⟩,
  f73 := ⟨Tryz.f176.name, by decide, Tryz.func176.trans (congrArg some (by kernel_rfl))⟩,
  f74 := ⟨Tryz.f177.name, by decide, Tryz.func177.trans (congrArg some (by kernel_rfl))⟩,
  f75 := ⟨Tryz.f178.name, by decide, Tryz.func178.trans (congrArg some (by kernel_rfl))⟩,
  f76 := ⟨Tryz.f180.name, by decide, Tryz.func180.trans (congrArg some (by kernel_rfl))⟩,
  f77 := ⟨Tryz.f181.name, by decide, Tryz.func181.trans (congrArg some (by kernel_rfl))⟩,
  f78 := Tryz.func182.trans (congrArg some (by kernel_rfl)),
  f79 := Tryz.func183.trans (congrArg some (by kernel_rfl)),
  f88 := ⟨Tryz.f208.name, by decide, Tryz.func208.trans (congrArg some (by kernel_rfl))⟩,
  f89 := Tryz.func209.trans (congrArg some (by kernel_rfl)),
  f90 := Tryz.func210.trans (congrArg some (by kernel_rfl)),
  f91 := ⟨Tryz.f211.name, by decide, Tryz.func211.trans (congrArg some (by kernel_rfl))⟩,
  f92 := ⟨Tryz.f212.name, by decide, Tryz.func212.trans (congrArg some (by kernel_rfl))⟩,
  f96 := ⟨Tryz.f221.name, by decide, Tryz.func221.trans (congrArg some (by kernel_rfl))⟩,
  t0 := Tryz.underlying0,
  a0 := Tryz.isAgg0,
  z0 := Tryz.sizeOf0,
  v0 := Tryz.zeroValue0,
  t3 := Tryz.underlying3,
  a3 := Tryz.isAgg3,
  z3 := Tryz.sizeOf3,
  v3 := Tryz.zeroValue3,
  t4 := Tryz.underlying4,
  a4 := Tryz.isAgg4,
  z4 := Tryz.sizeOf4,
  v4 := Tryz.zeroValue4,
  t5 := Tryz.underlying5,
  a5 := Tryz.isAgg5,
  z5 := Tryz.sizeOf5,
  v5 := Tryz.zeroValue5,
  t9 := Tryz.underlying9,
  a9 := Tryz.isAgg9,
  z9 := Tryz.sizeOf9,
  v9 := Tryz.zeroValue9,
  t22 := Tryz.underlying40,
  a22 := Tryz.isAgg40,
  z22 := Tryz.sizeOf40,
  v22 := Tryz.zeroValue40,
  t23 := Tryz.underlying3,
  a23 := Tryz.isAgg3,
  z23 := Tryz.sizeOf3,
  v23 := Tryz.zeroValue3,
  t44 := Tryz.underlying183,
  a44 := Tryz.isAgg183,
  z44 := Tryz.sizeOf183,
  v44 := Tryz.zeroValue183,
  t51 := Tryz.underlying244,
  a51 := Tryz.isAgg244,
  z51 := Tryz.sizeOf244,
  v51 := Tryz.zeroValue244,
  t60 := Tryz.underlying263,
  a60 := Tryz.isAgg263,
  z60 := Tryz.sizeOf263,
  v60 := Tryz.zeroValue263,
  t61 := Tryz.underlying264,
  a61 := Tryz.isAgg264,
  z61 := Tryz.sizeOf264,
  v61 := Tryz.zeroValue264,
  t67 := Tryz.underlying270,
  a67 := Tryz.isAgg270,
  z67 := Tryz.sizeOf270,
  v67 := Tryz.zeroValue270,
  t69 := Tryz.underlying272,
  a69 := Tryz.isAgg272,
  z69 := Tryz.sizeOf272,
  v69 := Tryz.zeroValue272,
  t75 := Tryz.underlying292,
  a75 := Tryz.isAgg292,
  z75 := Tryz.sizeOf292,
  v75 := Tryz.zeroValue292,
  t79 := Tryz.underlying296,
  a79 := Tryz.isAgg296,
  z79 := Tryz.sizeOf296,
  v79 := Tryz.zeroValue296,
  t83 := Tryz.underlying304,
  a83 := Tryz.isAgg304,
  z83 := Tryz.sizeOf304,
  v83 := Tryz.zeroValue304,
  t84 := Tryz.underlying44,
  a84 := Tryz.isAgg44,
  z84 := Tryz.sizeOf44,
  v84 := Tryz.zeroValue44 }
end Go.Proofs
namespace Gab
open Go Go.Proofs Go.Sort Go.Shelf
theorem insBy_perm {α : Type} (le : α → α → Bool) (x : α) : ∀ l : List α, (insBy le x l).Perm (x :: l)
  | [] => .refl _
  | y :: l => by
    rw [insBy]
    split
    · exact .refl _
    · exact ((insBy_perm le x l).cons y).trans (.swap x y l)
theorem sortBy_perm {α : Type} (le : α → α → Bool) : ∀ l : List α, (sortBy le l).Perm l
  | [] => .refl _
  | x :: l => (insBy_perm le x _).trans ((sortBy_perm le l).cons x)
theorem insBy_sorted {α : Type} {le : α → α → Bool} (ht : ∀ a b c, le a b = true → le b c = true → le a c = true) (hto : ∀ a b, le a b = true ∨ le b a = true) {x : α} : ∀ {l : List α}, l.Pairwise (fun a b => le a b = true) → (insBy le x l).Pairwise fun a b => le a b = true
  | [], _ => by simp [insBy]
  | y :: l, h => by
    obtain ⟨h1, h2⟩ := List.pairwise_cons.1 h
    rw [insBy]
    split
    · rename_i hx
      exact List.pairwise_cons.2 ⟨fun z hz => (List.mem_cons.1 hz).elim (fun e => e ▸ hx) fun hz => ht _ _ _ hx (h1 z hz), h⟩
    · rename_i hx
      refine List.pairwise_cons.2 ⟨fun z hz => ?_, insBy_sorted ht hto h2⟩
      rcases List.mem_cons.1 ((insBy_perm le x l).subset hz) with rfl | hz
      · exact (hto z y).resolve_left hx
      · exact h1 z hz
theorem sortBy_sorted {α : Type} {le : α → α → Bool} (ht : ∀ a b c, le a b = true → le b c = true → le a c = true) (hto : ∀ a b, le a b = true ∨ le b a = true) : ∀ l : List α, (sortBy le l).Pairwise fun a b => le a b = true
  | [] => List.Pairwise.nil
  | x :: l => insBy_sorted ht hto (sortBy_sorted ht hto l)
theorem sortI_sorted (l : List Int) : (sortI l).Pairwise fun a b => a ≤ b :=
  (sortBy_sorted (le := fun (a b : Int) => decide (a ≤ b)) (fun a b c h1 h2 => decide_eq_true (Int.le_trans (of_decide_eq_true h1) (of_decide_eq_true h2))) (fun a b => by
    rcases Int.le_total a b with h | h <;> simp [h]) l).imp fun h => of_decide_eq_true h
theorem sortI_perm0 (l : List Int) : (sortI l).Perm l := sortBy_perm _ _
theorem sortI_unique {l r : List Int} (h : r.Perm l) (hs : r.Pairwise fun a b => a ≤ b) : r = sortI l :=
  List.Perm.eq_of_pairwise (le := fun a b => a ≤ b) (fun a b _ _ h1 h2 => Int.le_antisymm h1 h2) hs (sortI_sorted l) (h.trans (sortI_perm0 l).symm)
theorem sortI_perm {l l' : List Int} (h : l.Perm l') : sortI l = sortI l' := sortI_unique ((sortI_perm0 l).trans h) (sortI_sorted l)
abbrev ltS (a b : Int × List UInt8) : Prop := a.1 < b.1 ∨ (a.1 = b.1 ∧ a.2 < b.2)
abbrev leS (a b : Int × List UInt8) : Prop := a.1 < b.1 ∨ (a.1 = b.1 ∧ a.2 ≤ b.2)
theorem leS_dec (a b : Int × List UInt8) : leP a b = decide (leS a b) := by
  unfold leP leS
  rw [leB, Bool.eq_iff_iff]; simp
theorem leS_trans {a b c : Int × List UInt8} (h1 : leS a b) (h2 : leS b c) : leS a c := by
  rcases h1 with h1 | ⟨h1, h1'⟩ <;> rcases h2 with h2 | ⟨h2, h2'⟩
  · exact .inl (by omega)
  · exact .inl (by omega)
  · exact .inl (by omega)
  · exact .inr ⟨by omega, List.le_trans h1' h2'⟩
theorem leS_total (a b : Int × List UInt8) : leS a b ∨ leS b a := by
  rcases Int.lt_trichotomy a.1 b.1 with h | h | h
  · exact .inl (.inl h)
  · rcases List.le_total a.2 b.2 with h2 | h2
    · exact .inl (.inr ⟨h, h2⟩)
    · exact .inr (.inr ⟨h.symm, h2⟩)
  · exact .inr (.inl h)
theorem leS_anti {a b : Int × List UInt8} (h1 : leS a b) (h2 : leS b a) : a = b := by
  rcases h1 with h1 | ⟨h1, h1'⟩ <;> rcases h2 with h2 | ⟨h2, h2'⟩
  · omega
  · omega
  · omega
  · exact Prod.ext h1 (List.le_antisymm h1' h2')
theorem leS_not {a b : Int × List UInt8} : ¬ ltS b a ↔ leS a b := by
  constructor
  · intro h
    rcases leS_total a b with h1 | h1
    · exact h1
    · rcases h1 with h1 | ⟨h1, h2⟩
      · exact absurd (.inl h1) h
      · by_cases h3 : b.2 < a.2
        · exact absurd (.inr ⟨h1, h3⟩) h
        · exact .inr ⟨h1.symm, List.not_lt.1 h3⟩
  · rintro (h | ⟨h, h2⟩) (h3 | ⟨h3, h4⟩)
    · omega
    · omega
    · omega
    · exact List.not_lt.2 h2 h4
theorem sortP_sorted (l : List (Int × List UInt8)) : (sortP l).Pairwise leS :=
  (sortBy_sorted (le := leP) (fun a b c h1 h2 => by rw [leS_dec] at *; exact decide_eq_true (leS_trans (of_decide_eq_true h1) (of_decide_eq_true h2))) (fun a b => by
    rw [leS_dec, leS_dec]
    rcases leS_total a b with h | h <;> simp [h]) l).imp fun h => by rw [leS_dec] at h; exact of_decide_eq_true h
theorem sortP_perm0 (l : List (Int × List UInt8)) : (sortP l).Perm l := sortBy_perm _ _
theorem sortP_unique {l r : List (Int × List UInt8)} (h : r.Perm l) (hs : r.Pairwise leS) : r = sortP l :=
  List.Perm.eq_of_pairwise (le := leS) (fun a b _ _ h1 h2 => leS_anti h1 h2) hs (sortP_sorted l) (h.trans (sortP_perm0 l).symm)
theorem sortP_perm {l l' : List (Int × List UInt8)} (h : l.Perm l') : sortP l = sortP l' := sortP_unique ((sortP_perm0 l).trans h) (sortP_sorted l)
def cfP (x y : Int × List UInt8) : Int := if x.1 < y.1 then -1 else if y.1 < x.1 then 1 else if Op.bytesLess x.2 y.2 = true then -1 else if x.2 = y.2 then 0 else 1
theorem cmpI (a b : Int) : cmp_Compare_int a b = some (if a < b then -1 else if b < a then 1 else 0) := by
  unfold cmp_Compare_int cmp_isNaN_int
  by_cases h : a < b <;> by_cases h2 : b < a <;> simp [h, h2]
theorem cmpS (a b : List UInt8) : cmp_Compare_string a b = some (if Op.bytesLess a b = true then -1 else if a = b then 0 else 1) := by
  unfold cmp_Compare_string cmp_isNaN_string
  by_cases h : Op.bytesLess a b = true
  · simp [h]
  · by_cases h2 : a = b
    · subst h2; simp [h]
    · simp [h, h2]
theorem cmp_or (a b : Int) : cmp_Or_int [a, b] = some (if a ≠ 0 then a else b) := by
  have w1 : wi64 (0 + 1) = 1 := by decide
  have w2 : wi64 (1 + 1) = 2 := by decide
  have e0 : cmp_Or_int_l0 [a, b] 0 = if a ≠ 0 then some (.inr (.inl a)) else some (.inl 1) := by
    unfold cmp_Or_int_l0
    rw [if_pos (by simp), show rd [a, b] 0 = some a from rfl, Option.bind_some, w1]
  have e1 : cmp_Or_int_l0 [a, b] 1 = if b ≠ 0 then some (.inr (.inl b)) else some (.inl 2) := by
    unfold cmp_Or_int_l0
    rw [if_pos (by simp), show rd [a, b] 1 = some b from rfl, Option.bind_some, w2]
  have e2 : cmp_Or_int_l0 [a, b] 2 = some (.inr (.inr ())) := by
    unfold cmp_Or_int_l0
    rw [if_neg (by simp)]
  unfold cmp_Or_int
  show (iter _ 3 0).bind _ = _
  rw [iter, e0]
  by_cases ha : a = 0
  · subst ha
    rw [if_neg (by simp), Option.bind_some]
    show (iter _ 2 1).bind _ = _
    rw [iter, e1]
    by_cases hb : b = 0
    · subst hb
      rw [if_neg (by simp), Option.bind_some]
      show (iter _ 1 2).bind _ = _
      rw [iter, e2]
      rfl
    · rw [if_pos hb, Option.bind_some]; rfl
  · rw [if_pos ha, Option.bind_some]
    simp [ha, on]
theorem cfP_eq (x y : Int × List UInt8) : tree_Tree_Deeds_1 x y = some (cfP x y) := by
  unfold tree_Tree_Deeds_1 cfP
  rw [cmpI, Option.bind_some, cmpS, Option.bind_some, cmp_or, Option.bind_some]
  by_cases h : x.1 < y.1
  · simp [h]
  · by_cases h2 : y.1 < x.1 <;> simp [h, h2]
theorem ltP (x y : Int × List UInt8) : ltOf cfP x y = decide (ltS x y) := by
  unfold ltOf cfP ltS
  rw [bytesLess_eq]
  by_cases h : x.1 < y.1
  · simp [h]
  · by_cases h2 : y.1 < x.1
    · have : ¬ x.1 = y.1 := by omega
      simp [h, h2, this]
    · have : x.1 = y.1 := by omega
      by_cases h3 : x.2 < y.2
      · simp [this, h3]
      · by_cases h4 : x.2 = y.2
        · simp [this, h4, List.lt_irrefl]
        · simp [this, h3, h4]
theorem swoP : SWO (ltOf cfP) where
  irrefl x := by rw [ltP]; exact decide_eq_false fun h => by rcases h with h | ⟨_, h⟩; omega; exact List.lt_irrefl _ h
  trans x y z h1 h2 := by
    rw [ltP] at *
    have h1 := of_decide_eq_true h1
    have h2 := of_decide_eq_true h2
    refine decide_eq_true ?_
    rcases h1 with h1 | ⟨h1, h1'⟩ <;> rcases h2 with h2 | ⟨h2, h2'⟩
    · exact .inl (by omega)
    · exact .inl (by omega)
    · exact .inl (by omega)
    · exact .inr ⟨by omega, List.lt_trans h1' h2'⟩
  ntrans x y z h1 h2 := by
    rw [ltP] at *
    have h1 := leS_not.1 (of_decide_eq_false h1)
    have h2 := leS_not.1 (of_decide_eq_false h2)
    exact decide_eq_false (leS_not.2 (leS_trans h2 h1))
def encP (x : Int × List UInt8) : List Value := [.int .i64 x.1, .string ⟨x.2.toArray⟩]
theorem sortW_heapP {w : World} {blk off m k : Nat} {d : Array (Int × List UInt8)} {os : Array Obj} (hk : k < w.heap.size) (hne : k ≠ blk) : (sortWorldK encP 2 w blk off m d os).heap[k]? = w.heap[k]? := by
  show ((w.heap.modify blk _) ++ os)[k]? = _
  rw [Array.getElem?_append_left (by simpa using hk), Array.getElem?_modify, if_neg (Ne.symm hne)]
theorem sortW_blkP {w : World} {blk off m : Nat} {d : Array (Int × List UInt8)} {os : Array Obj} {c : Array Value} {e : TypeId} {fz : Nat × Nat} (hk : w.heap[blk]? = some (.cells c e fz)) : (sortWorldK encP 2 w blk off m d os).heap[blk]? = some (.cells (putCells id off (flatK encP 2 d) c) e fz) := by
  have hlt := (Array.getElem?_eq_some_iff.1 hk).1
  show ((w.heap.modify blk _) ++ os)[blk]? = _
  rw [Array.getElem?_append_left (by simpa using hlt), Array.getElem?_modify, if_pos rfl, hk]
  rfl
def avP (x : Int × List UInt8) (r : Nat) : AV := if r = 0 then .int .i64 x.1 else .str x.2
def cellsP (l : List (Int × List UInt8)) : List AV := (l.map fun x => [AV.int .i64 x.1, AV.str x.2]).flatten
theorem cellsP_len : ∀ l, (cellsP l).length = l.length * 2
  | [] => rfl
  | x :: l => by
    have := cellsP_len l
    unfold cellsP at this ⊢
    rw [List.map_cons, List.flatten_cons, List.length_append, this, List.length_cons]
    simp; omega
theorem cellsP_at : ∀ (l : List (Int × List UInt8)) (j : Nat), j < l.length * 2 → (cellsP l)[j]? = some (avP l[j / 2]! (j % 2))
  | [], j, h => by simp at h
  | x :: l, 0, h => rfl
  | x :: l, 1, h => rfl
  | x :: l, j + 2, h => by
    have ih := cellsP_at l j (by simp at h; omega)
    have e1 : (j + 2) / 2 = j / 2 + 1 := by omega
    have e2 : (j + 2) % 2 = j % 2 := by omega
    rw [e1, e2]
    show (cellsP l)[j]? = _
    rw [ih]
    simp
theorem rl_cellsP {B : Kn} : ∀ {l : List (Int × List UInt8)} {cs : List AV}, RL EPIi64StQ B cs l → cs = cellsP l
  | [], cs, h => h
  | x :: l, cs, h => by
    obtain ⟨c, r, rfl, ⟨c1, c2, rfl, h1, h2⟩, h3⟩ := h
    have h1 : c1 = [AV.int .i64 x.1] := h1
    have h2 : c2 = [AV.str x.2] := h2
    rw [rl_cellsP h3, h1, h2]
    rfl
theorem cells_rlP {B : Kn} : ∀ (l : List (Int × List UInt8)), RL EPIi64StQ B (cellsP l) l
  | [] => rfl
  | x :: l => ⟨[AV.int .i64 x.1, AV.str x.2], cellsP l, rfl, ⟨[AV.int .i64 x.1], [AV.str x.2], rfl, rfl, rfl⟩, cells_rlP l⟩
theorem avP_enc {ρ : Loc.Map} {x : Int × List UInt8} {r : Nat} {v : Value} (hr : r < 2) (h : RV ρ (avP x r) v) : v = (encP x)[r]! := by
  rcases (show r = 0 ∨ r = 1 by omega) with rfl | rfl
  · have h : v = .int .i64 x.1 := h
    rw [h]; rfl
  · have h : v = .string ⟨x.2.toArray⟩ := h
    rw [h]; rfl
theorem enc_avP {ρ : Loc.Map} {x : Int × List UInt8} {r : Nat} (hr : r < 2) : RV ρ (avP x r) (encP x)[r]! := by
  rcases (show r = 0 ∨ r = 1 by omega) with rfl | rfl
  · rfl
  · rfl
theorem closure_P (x y : Int × List UInt8) {W : World} (hg : ∀ (g : Nat) (cs : Array Value), globT g = some cs → ∃ e fz, W.heap[g]? = some (.cells cs e fz)) :
    Calls Tryz.prog 75 #[.agg (encP x).toArray, .agg (encP y).toArray] W fun e w' => e = .returned (.int .i64 (cfP x y)) ∧ ∃ q os', w' = Go.Sort.grow (W.drewN q) os' := by
  have h := tree_Tree_Deeds_1_ok (B0 := ⟨fun _ => none, fun _ => []⟩) (L := []) (cfP_eq x y) ⟨0, fun _ => none⟩ ⟨⟨fun b o hb => (by cases hb), fun b o hb => (by cases hb)⟩, fun b o hb => (by cases hb), List.Pairwise.nil⟩
  refine (h.2 [] W [.agg (encP x).toArray, .agg (encP y).toArray] ⟨⟨rfl, fun b o hb => (by cases hb), fun b b' l l' o o' _ hb => (by cases hb)⟩, ⟨hg, fun b o l hb => (by cases hb)⟩⟩ ?_).mono ?_
  · exact ⟨_, _, rfl, ⟨_, rfl, _, _, rfl, rfl, _, _, rfl, rfl, rfl⟩, _, _, rfl, ⟨_, rfl, _, _, rfl, rfl, _, _, rfl, rfl, rfl⟩, rfl⟩
  · rintro e w' ⟨c, v, ρ', st', rfl, ⟨_, rfl⟩, hv, _, hs⟩
    have hv : c = .int .i64 (cfP x y) := hv
    exact ⟨by rw [hv], step_grow hs⟩
theorem sort_callsP {w : World} {blk off cap : Nat} {l : List (Int × List UInt8)} (hlen : l.length ≤ 1000000) (hH : HoldsK encP 2 w blk off l.toArray) (hblk : blk < w.heap.size)
    (hg : ∀ (g : Nat) (cs : Array Value), globT g = some cs → ∃ e fz, w.heap[g]? = some (.cells cs e fz)) (hgb : globT blk = none) :
    Calls Tryz.prog 135 #[.slice (some ⟨blk, off, none⟩) l.length cap, .func (.func 75) #[] #[]] w fun e w' =>
      e = .returned (.tuple #[]) ∧ ∃ d' n os, PermIn 0 l.length l.toArray d' ∧ SortedIn (ltOf cfP) 0 l.length d' ∧ w' = sortWorldK encP 2 w blk off n d' os := by
  have eg : ∀ args w, (callFunc 75 args).run Tryz.prog w = .ok (.enter 75 args) w := enters_of Tryz.func75 (by kernel_rfl) rfl
  have hcmp : CmpLays Tryz.prog 75 #[] encP 2 cfP blk off l.toArray.size w := fun m os dk hs x y => closure_P x y fun g cs hgc => by
    obtain ⟨e, fz, h⟩ := hg g cs hgc
    exact ⟨e, fz, by rw [sortW_heapP (Array.getElem?_eq_some_iff.1 h).1 (fun e => by rw [e, hgb] at hgc; cases hgc)]; exact h⟩
  exact AnyQ.slices_SortFunc Tryz.sortS 2 Tryz.isAgg166 Tryz.sizeOf166 encP (fun _ => rfl) (fun x v hv => by simp [encP] at hv; rcases hv with rfl | rfl <;> rfl) cfP swoP 75 #[] blk off cap l.toArray w eg hcmp hH hblk (by simp; omega)
theorem sort_noneP (a : Option Addr) (cap : Nat) (w : World) : Calls Tryz.prog 135 #[.slice a 0 cap, .func (.func 75) #[] #[]] w fun e w' => e = .returned (.tuple #[]) ∧ w' = w :=
  AnyF.slices_SortFunc_none Tryz.sortS a cap _ w
theorem perm_listP {l : List (Int × List UInt8)} {d' : Array (Int × List UInt8)} (h : PermIn 0 l.length l.toArray d') (hs : SortedIn (ltOf cfP) 0 l.length d') : d' = (sortP l).toArray := by
  obtain ⟨h1, _, h3⟩ := h
  have hsz : d'.size = l.length := by simpa using h1
  have e1 : d'.extract 0 l.length = d' := by rw [← hsz]; exact Array.extract_size
  have e2 : l.toArray.extract 0 l.length = l.toArray := by
    have : l.length = l.toArray.size := by simp
    rw [this]; exact Array.extract_size
  rw [e1, e2] at h3
  apply Array.toList_inj.1
  refine sortP_unique h3 (List.pairwise_iff_getElem.2 fun i j hi hj hij => ?_)
  have hj' : j < l.length := by rw [← hsz]; simpa using hj
  have := hs i j (Nat.zero_le _) hij hj'
  rw [ltP] at this
  have := leS_not.1 (of_decide_eq_false this)
  rw [getElem!_pos d' i (by simpa using hi), getElem!_pos d' j (by simpa using hj)] at this
  simpa using this
theorem sort_okP {B0 : Kn} {L : Own} {v0 : AV} {b : Nat} {n : Bool} {cs : List AV} {l : List (Int × List UInt8)} (g : OSl EPIi64StQ B0 v0 b n cs l) (hl : l.length ≤ 1000000) :
    ∀ st, Hp B0 (oe b n cs :: L) st → ASpec Tryz.prog 135 [v0, .fn (.func 75) [] []] st (fun v s => v = .tup [] ∧ ∃ cs', OSl EPIi64StQ B0 v0 b n cs' (sortP l) ∧ Hp B0 (oe b n cs' :: L) s) := by
  intro st hp
  refine ⟨⟨_, Tryz.func135, rfl, rfl⟩, fun ρ w cargs hr ha => ?_⟩
  obtain ⟨⟨sz, mc, rfl, hle, hsz⟩, hnil, hrl⟩ := g
  obtain ⟨c1, _, rfl, ⟨a, cap, rfl, q1, q2, q3, q4⟩, c2, _, rfl, ⟨cf, cc, rfl, h5, h6⟩, h7⟩ := ha
  have h5 : cf = [] := h5
  have h6 : cc = [] := h6
  have h7 : _ = [] := h7
  subst h5; subst h6; subst h7
  by_cases hemp : l = []
  · subst hemp
    refine (sort_noneP a cap w).mono ?_
    rintro e w' ⟨rfl, rfl⟩
    exact ⟨_, .tup [], ρ, st, rfl, ⟨rfl, cs, by rw [show sortP [] = [] from rfl]; exact ⟨⟨sz, mc, rfl, hle, hsz⟩, fun _ => rfl, hrl⟩, hp⟩, ⟨[], rfl, rfl⟩, hr, .refl ..⟩
  · have hpos : 0 < l.length := List.length_pos_iff.2 hemp
    have hnf : n = false := by
      cases n with
      | false => rfl
      | true => exact absurd (hnil rfl) hemp
    subst hnf
    obtain ⟨ad, lc, rfl, hlc, q5⟩ := q4 rfl
    obtain ⟨rfl, q6⟩ : ad = ⟨lc.blk, lc.base + 0, none⟩ ∧ lc.base + 0 + cap * sz ≤ lc.size := by
      rcases q5 with q5 | q5
      · omega
      · exact q5
    have hcs := rl_cellsP hrl
    subst hcs
    have hb := hp.own b (OV.c (cellsP l)) List.mem_cons_self
    obtain ⟨lc', hlc', c, et, fz, hh, hcsz, hcells, hfz⟩ := hr.obj b _ hb
    rw [hlc] at hlc'; simp at hlc'; subst hlc'
    have hlt := (Array.getElem?_eq_some_iff.1 hh).1
    have hcell : ∀ j, j < l.length * 2 → c[lc.base + j]? = some (encP l[j / 2]!)[j % 2]! := fun j hj => by
      obtain ⟨x, hx, hv⟩ := hcells j _ (cellsP_at l j hj)
      rw [hx, avP_enc (by omega) hv]
    have hH : HoldsK encP 2 w lc.blk (lc.base + 0) l.toArray := fun j hj => by
      rw [size_flatK] at hj
      have hj' : j < l.length * 2 := by simpa using hj
      rw [get_flatK _ _ _ _ hj]
      have hcj := hcell j hj'
      refine ⟨?_, ?_⟩
      · simp only [World.cell?, hh, Nat.add_zero, Option.isSome_none, Bool.false_eq_true, if_false]
        rw [hcj]; simp
      · have hjc : lc.base + j < c.size := (Array.getElem?_eq_some_iff.1 hcj).1
        have := hfz rfl (lc.base + j) hjc
        simp only [World.frozen?, hh, Nat.add_zero]
        simpa using this
    have hgb := hr.gi.gsep b _ lc hb rfl hlc
    refine (sort_callsP (cap := cap) hl hH hlt hr.gi.glb hgb).mono ?_
    rintro e w' ⟨rfl, d', m, os, hp1, hs1, rfl⟩
    obtain rfl := perm_listP hp1 hs1
    have hlen : (sortP l).length = l.length := (sortP_perm0 l).length_eq
    obtain ⟨hr', hst⟩ := hr.updG (o' := .blk (cellsP (sortP l)) true) hb rfl hlc (w' := sortWorldK encP 2 w lc.blk (lc.base + 0) m (sortP l).toArray os) (fun k hk hne => sortW_heapP hk hne) (by show _ ≤ ((w.heap.modify _ _) ++ os).size; simp) rfl rfl rfl (by show w.drawn ≤ w.drawn + m; omega)
      ⟨_, et, fz, sortW_blkP hh, by simp [putCells, hcsz], fun j v hj => by
        have hj2 : j < (sortP l).length * 2 := by rw [← cellsP_len]; exact (List.getElem?_eq_some_iff.1 hj).1
        rw [cellsP_at _ _ hj2] at hj
        simp at hj; subst hj
        have hjc : lc.base + j < c.size := (Array.getElem?_eq_some_iff.1 (hcell j (by omega))).1
        refine ⟨_, ?_, enc_avP (by omega)⟩
        simp only [putCells, Array.getElem?_mapIdx, Array.getElem?_eq_getElem hjc, Option.map_some, size_flatK]
        rw [if_pos ⟨by omega, by simp; omega⟩, show lc.base + j - (lc.base + 0) = j by omega, get_flatK _ _ _ _ (by simpa using hj2)]
        simp, fun h j hj => hfz rfl j (by simpa [putCells] using hj)⟩
    exact ⟨_, .tup [], ρ, _, rfl, ⟨rfl, cellsP (sortP l), ⟨⟨sz, mc, by rw [hlen], by rw [hlen]; exact hle, hsz⟩, fun h => (by cases h), cells_rlP _⟩,
      Upd.hp (cs := OV.c (cellsP l)) (cs' := OV.c (cellsP (sortP l))) .h hp (fun i hi => set_get_old hi) (set_get_new rfl)⟩, ⟨[], rfl, rfl⟩, hr', hst⟩
def cellsI (l : List Int) : List AV := l.map (AV.int .i64)
theorem rl_cellsI {B : Kn} : ∀ {l : List Int} {cs : List AV}, RL (Ty.int .i64) B cs l → cs = cellsI l
  | [], cs, h => h
  | x :: l, cs, h => by
    obtain ⟨c, r, rfl, h1, h3⟩ := h
    have h1 : c = [AV.int .i64 x] := h1
    rw [rl_cellsI h3, h1]
    rfl
theorem cells_rlI {B : Kn} : ∀ (l : List Int), RL (Ty.int .i64) B (cellsI l) l
  | [] => rfl
  | x :: l => ⟨[AV.int .i64 x], cellsI l, rfl, rfl, cells_rlI l⟩
theorem sort_okI {B0 : Kn} {L : Own} {v0 : AV} {b : Nat} {n : Bool} {cs : List AV} {l : List Int} (g : OSl (Ty.int .i64) B0 v0 b n cs l) (hl : l.length ≤ 1000000) :
    ∀ st, Hp B0 (oe b n cs :: L) st → ASpec Tryz.prog 126 [v0] st (fun v s => v = .tup [] ∧ ∃ cs', OSl (Ty.int .i64) B0 v0 b n cs' (sortI l) ∧ Hp B0 (oe b n cs' :: L) s) := by
  intro st hp
  refine ⟨⟨_, Tryz.func126, rfl, rfl⟩, fun ρ w cargs hr ha => ?_⟩
  obtain ⟨⟨sz, mc, rfl, hle, hsz⟩, hnil, hrl⟩ := g
  obtain ⟨c1, _, rfl, ⟨a, cap, rfl, q1, q2, q3, q4⟩, h7⟩ := ha
  have h7 : _ = [] := h7
  subst h7
  by_cases hemp : l = []
  · subst hemp
    refine (AnyG.slices_Sort_int_none Tryz.sortI a cap w).mono ?_
    rintro e w' ⟨rfl, rfl⟩
    exact ⟨_, .tup [], ρ, st, rfl, ⟨rfl, cs, by rw [show sortI [] = [] from rfl]; exact ⟨⟨sz, mc, rfl, hle, hsz⟩, fun _ => rfl, hrl⟩, hp⟩, ⟨[], rfl, rfl⟩, hr, .refl ..⟩
  · have hpos : 0 < l.length := List.length_pos_iff.2 hemp
    have hnf : n = false := by
      cases n with
      | false => rfl
      | true => exact absurd (hnil rfl) hemp
    subst hnf
    obtain ⟨ad, lc, rfl, hlc, q5⟩ := q4 rfl
    obtain ⟨rfl, q6⟩ : ad = ⟨lc.blk, lc.base + 0, none⟩ ∧ lc.base + 0 + cap * sz ≤ lc.size := by
      rcases q5 with q5 | q5
      · omega
      · exact q5
    have hcs := rl_cellsI hrl
    subst hcs
    have hb := hp.own b (OV.c (cellsI l)) List.mem_cons_self
    obtain ⟨lc', hlc', c, et, fz, hh, hcsz, hcells, hfz⟩ := hr.obj b _ hb
    rw [hlc] at hlc'; simp at hlc'; subst hlc'
    have hlt := (Array.getElem?_eq_some_iff.1 hh).1
    have hcell : ∀ j, j < l.length → c[lc.base + j]? = some (Value.int .i64 l[j]!) := fun j hj => by
      obtain ⟨x, hx, hv⟩ := hcells j (.int .i64 l[j]!) (by rw [cellsI, List.getElem?_map, List.getElem?_eq_getElem hj, getElem!_pos l j hj]; rfl)
      have hv : x = .int .i64 l[j]! := hv
      rw [hx, hv]
    have hH : Holds (Value.int .i64) w lc.blk (lc.base + 0) l.toArray := fun j hj => by
      have hj' : j < l.length := by simpa using hj
      have hcj := hcell j hj'
      refine ⟨?_, ?_⟩
      · simp only [World.cell?, hh, Nat.add_zero, Option.isSome_none, Bool.false_eq_true, if_false]
        rw [hcj]; simp
      · have hjc : lc.base + j < c.size := (Array.getElem?_eq_some_iff.1 hcj).1
        have := hfz rfl (lc.base + j) hjc
        simp only [World.frozen?, hh, Nat.add_zero]
        simpa using this
    refine (AnyG.slices_Sort_int Tryz.sortI lc.blk (lc.base + 0) cap l w hH hlt (by omega)).mono ?_
    rw [show (l.mergeSort fun x y => decide (x ≤ y)) = sortI l from sortI_unique (List.mergeSort_perm _ _) ((List.pairwise_mergeSort (le := fun (a b : Int) => decide (a ≤ b)) (fun a b c h1 h2 => decide_eq_true (Int.le_trans (of_decide_eq_true h1) (of_decide_eq_true h2))) (fun a b => by
      rcases Int.le_total a b with h | h <;> simp [h]) l).imp fun h => of_decide_eq_true h)]
    rintro e w' ⟨rfl, m, os, rfl⟩
    have hlen : (sortI l).length = l.length := (sortI_perm0 l).length_eq
    have hwh : ∀ k, k < w.heap.size → (Go.Sort.grow (putRow (Value.int .i64) (Go.Sort.ahead w m) lc.blk (lc.base + 0) (sortI l).toArray) os).heap[k]? = if k = lc.blk then some (.cells (putCells (Value.int .i64) (lc.base + 0) (sortI l).toArray c) et fz) else w.heap[k]? := fun k hk => by
      show ((w.heap.modify lc.blk _) ++ os)[k]? = _
      rw [Array.getElem?_append_left (by simpa using hk), Array.getElem?_modify]
      by_cases hkb : k = lc.blk
      · subst hkb; rw [if_pos rfl, if_pos rfl, hh]; rfl
      · rw [if_neg (Ne.symm hkb), if_neg hkb]
    obtain ⟨hr', hst⟩ := hr.updG (o' := .blk (cellsI (sortI l)) true) hb rfl hlc (w' := Go.Sort.grow (putRow (Value.int .i64) (Go.Sort.ahead w m) lc.blk (lc.base + 0) (sortI l).toArray) os) (fun k hk hne => by rw [hwh k hk, if_neg hne]) (by show _ ≤ ((w.heap.modify _ _) ++ os).size; simp) rfl rfl rfl (by show w.drawn ≤ w.drawn + m; omega)
      ⟨_, et, fz, by rw [hwh _ hlt, if_pos rfl], by simp [putCells, hcsz], fun j v hj => by
        rw [cellsI, List.getElem?_map] at hj
        obtain ⟨x, hx, rfl⟩ := Option.map_eq_some_iff.1 hj
        have hj2 : j < (sortI l).length := (List.getElem?_eq_some_iff.1 hx).1
        have hjc : lc.base + j < c.size := (Array.getElem?_eq_some_iff.1 (hcell j (by omega))).1
        refine ⟨.int .i64 x, ?_, rfl⟩
        simp only [putCells, Array.getElem?_mapIdx, Array.getElem?_eq_getElem hjc, Option.map_some]
        rw [if_pos ⟨by omega, by simp; omega⟩, show lc.base + j - (lc.base + 0) = j by omega]
        rw [List.getElem?_eq_some_iff] at hx
        obtain ⟨h1, h2⟩ := hx
        simp [h1, h2], fun h j hj => hfz rfl j (by simpa [putCells] using hj)⟩
    exact ⟨_, .tup [], ρ, _, rfl, ⟨rfl, cellsI (sortI l), ⟨⟨sz, mc, by rw [hlen], by rw [hlen]; exact hle, hsz⟩, fun h => (by cases h), cells_rlI _⟩,
      Upd.hp (cs := OV.c (cellsI l)) (cs' := OV.c (cellsI (sortI l))) .h hp (fun i hi => set_get_old hi) (set_get_new rfl)⟩, ⟨[], rfl, rfl⟩, hr', hst⟩
theorem sorted_int {g : FuncId} {cap : List AV} {ks : List Int} {n : Nat} {B0 : Kn} {C0 L : Own} (hk : ks.length ≤ 1000000) (hn : n ≤ 1000000) (hq : SeqC Tryz.prog g cap (fun x : Int => (AV.int .i64 x)) (fun xs => xs.Perm ks) n B0 C0 L) :
    ∀ st, Hp B0 (C0 ++ L) st → ASpec Tryz.prog 67 [.fn (.func g) [] cap] st (C1 B0 L fun B' v e => ∃ b nl cs, e = oe b nl cs ∧ OSl (Ty.int .i64) B' v b nl cs (sortI ks)) := by
  intro st0 hp0
  refine bodyA (A := []) (L := C0 ++ L) Tryz.func67 rfl (c := bodyOf Tryz.f67) rfl Tryz.ntmps67 (lb rfl) (fun n0 => ?_) st0 hp0
  repeat refine WX.seq ?_
  refine WX.reg ?_
  refine WO.q (.as (v := .sl _ _ _ _ _ _) rfl) rfl rfl ?_
  refine WO.nil ?_
  repeat refine WX.seq ?_
  refine WX.reg ?_
  refine WO.q (.mv (v := .fn _ _ _) rfl) rfl rfl ?_
  refine WO.cOut rfl rfl (collect_int hn hq) rfl rfl rfl ?_
  rintro _ B _ hB ⟨b, nl, cs, xs, rfl, hS, ho⟩
  obtain ⟨_, _, _, _, _, rfl⟩ := ho.isl
  refine WO.q (.as (v := .sl _ _ _ _ _ _) rfl) rfl rfl ?_
  refine WO.nil ?_
  repeat refine WX.seq ?_
  refine WX.reg ?_
  refine WO.q (.mv (v := .sl _ _ _ _ _ _) rfl) rfl rfl ?_
  refine WO.sort rfl rfl (sort_okI ho (by rw [hS.length_eq]; exact hk)) rfl rfl rfl ?_
  intro c5 ho5
  rw [sortI_perm hS] at ho5
  refine WO.nil ?_
  repeat refine WX.seq ?_
  refine WX.reg ?_
  refine WO.q (.mv (v := .sl _ _ _ _ _ _) rfl) rfl rfl ?_
  refine WO.q (.as (v := .sl _ _ _ _ _ _) rfl) rfl rfl ?_
  refine WO.nil ?_
  exact WX.ret (rs_ (rs_tmp rfl rs_nil)) fun st hp => ⟨B, _, hB, hp.pk [0] (by decide), b, nl, c5, rfl, ho5⟩
theorem sorted_spot {g : FuncId} {cap : List AV} {ks : List (Int × List UInt8)} {n : Nat} {B0 : Kn} {C0 L : Own} (hk : ks.length ≤ 1000000) (hn : n ≤ 1000000) (hq : SeqC Tryz.prog g cap (fun x : Int × List UInt8 => (AV.agg [.int .i64 x.1, .str x.2])) (fun xs => xs.Perm ks) n B0 C0 L) :
    ∀ st, Hp B0 (C0 ++ L) st → ASpec Tryz.prog 79 [.fn (.func g) [] cap, .fn (.func 75) [] []] st (C1 B0 L fun B' v e => ∃ b nl cs, e = oe b nl cs ∧ OSl EPIi64StQ B' v b nl cs (sortP ks)) := by
  intro st0 hp0
  refine bodyA (A := []) (L := C0 ++ L) Tryz.func79 rfl (c := bodyOf Tryz.f79) rfl Tryz.ntmps79 (lb rfl) (fun n0 => ?_) st0 hp0
  repeat refine WX.seq ?_
  refine WX.reg ?_
  refine WO.q (.as (v := .sl _ _ _ _ _ _) rfl) rfl rfl ?_
  refine WO.nil ?_
  repeat refine WX.seq ?_
  refine WX.reg ?_
  refine WO.q (.mv (v := .fn _ _ _) rfl) rfl rfl ?_
  refine WO.cOut rfl rfl (collect_spot hn hq) rfl rfl rfl ?_
  rintro _ B _ hB ⟨b, nl, cs, xs, rfl, hS, ho⟩
  obtain ⟨_, _, _, _, _, rfl⟩ := ho.isl
  refine WO.q (.as (v := .sl _ _ _ _ _ _) rfl) rfl rfl ?_
  refine WO.nil ?_
  repeat refine WX.seq ?_
  refine WX.reg ?_
  refine WO.q (.mv (v := .sl _ _ _ _ _ _) rfl) rfl rfl ?_
  refine WO.q (.mv (v := .fn _ _ _) rfl) rfl rfl ?_
  refine WO.sort rfl rfl (sort_okP ho (by rw [hS.length_eq]; exact hk)) rfl rfl rfl ?_
  intro c5 ho5
  rw [sortP_perm hS] at ho5
  refine WO.nil ?_
  repeat refine WX.seq ?_
  refine WX.reg ?_
  refine WO.q (.mv (v := .sl _ _ _ _ _ _) rfl) rfl rfl ?_
  refine WO.q (.as (v := .sl _ _ _ _ _ _) rfl) rfl rfl ?_
  refine WO.nil ?_
  exact WX.ret (rs_ (rs_tmp rfl rs_nil)) fun st hp => ⟨B, _, hB, hp.pk [0] (by decide), b, nl, c5, rfl, ho5⟩
theorem sorted_int1 {g : FuncId} {cap : List AV} {ks : List Int} {n : Nat} {B0 : Kn} {x : Nat × Option OV} {L : Own} (hk : ks.length ≤ 1000000) (hn : n ≤ 1000000) (hq : SeqC Tryz.prog g cap (fun x : Int => (AV.int .i64 x)) (fun xs => xs.Perm ks) n B0 [x] L) :
    ∀ st, Hp B0 (x :: L) st → ASpec Tryz.prog 67 [.fn (.func g) [] cap] st (C1 B0 L fun B' v e => ∃ b nl cs, e = oe b nl cs ∧ OSl (Ty.int .i64) B' v b nl cs (sortI ks)) := sorted_int hk hn hq
theorem sorted_spot1 {g : FuncId} {cap : List AV} {ks : List (Int × List UInt8)} {n : Nat} {B0 : Kn} {x : Nat × Option OV} {L : Own} (hk : ks.length ≤ 1000000) (hn : n ≤ 1000000) (hq : SeqC Tryz.prog g cap (fun x : Int × List UInt8 => (AV.agg [.int .i64 x.1, .str x.2])) (fun xs => xs.Perm ks) n B0 [x] L) :
    ∀ st, Hp B0 (x :: L) st → ASpec Tryz.prog 79 [.fn (.func g) [] cap, .fn (.func 75) [] []] st (C1 B0 L fun B' v e => ∃ b nl cs, e = oe b nl cs ∧ OSl EPIi64StQ B' v b nl cs (sortP ks)) := sorted_spot hk hn hq
end Gab
end
section
set_option linter.unusedSimpArgs false
set_option linter.unusedVariables false
set_option maxHeartbeats 4000000
set_option maxRecDepth 100000
namespace Gab
open Go Go.Proofs
def dir_Dir_Get_P (B : Kn) (L : Own) (r : Int × Bool) : AV → St → Prop := CS B L fun v => v = .tup [.int .i64 r.1, .bool r.2]
theorem dir_Dir_Get_ok {B0 : Kn} {L : Own} {H : Heap} {Eh : Own} (hH : HR B0 H Eh) {a0 : Nat} {a1 : List UInt8} {v0_0 : AV} (g0_0 : HPt B0 210 v0_0 a0) {r : Int × Bool} (h : dir_Dir_Get H a0 a1 = some r) : ∀ st, Hp B0 (Eh ++ L) st → ASpec Tryz.prog 89 [v0_0, .str a1] st (dir_Dir_Get_P B0 (Eh ++ L) r) := by
  unfold dir_Dir_Get at h
  refine bodyA (A := []) (L := Eh ++ L) Tryz.func89 rfl (c := bodyOf Tryz.f89) rfl Tryz.ntmps89 (lb rfl) fun n0 => ?_
  have hB := KLe.refl B0
  have hH0 := hH
  refine WX.seq ?_
  refine WX.reg ?_
  refine WO.q (.as (v := .int _ _) rfl) rfl rfl ?_
  refine WO.q (.as (v := .bool _) rfl) rfl rfl ?_
  refine WO.nil ?_
  refine WX.seq ?_
  refine WX.seq ?_
  refine WX.reg ?_
  refine WO.q (.mv (v := v0_0) rfl) rfl rfl ?_
  refine WO.q (.bin (eveqlnil g0_0 ti128 rfl)) rfl rfl ?_
  refine WO.nil ?_
  rcases bsp (decide (a0 = 0)) with k1 | k1
  have q_k1 := of_decide_eq_true k1
  replace h := (if_pos q_k1).symm.trans h
  refine WX.condT rfl k1 ?_
  refine WX.seq ?_
  refine WX.reg ?_
  refine WO.q (.as (v := .int _ _) rfl) rfl rfl ?_
  refine WO.q (.as (v := .bool _) rfl) rfl rfl ?_
  refine WO.nil ?_
  obtain rfl := Option.some.inj h
  exact WX.ret (rs_ (rs_tmp rfl (rs_tmp rfl rs_nil))) fun st hp => ⟨(hp.pk [] (by decide)).le hB, rfl⟩
  have q_k1 := of_decide_eq_false k1
  replace h := (if_neg q_k1).symm.trans h
  refine WX.condF rfl k1 ?_
  refine WX.skip ?_
  refine WX.seq ?_
  refine WX.reg ?_
  refine WO.q (.mv (v := v0_0) rfl) rfl rfl ?_
  refine WO.q (.mv (v := .str _) rfl) rfl rfl ?_
  obtain ⟨y2, hy2, h⟩ := Option.bind_eq_some_iff.1 h
  refine WO.c0 rfl rfl (rd0 (dir_Dir_bucket_ok hH g0_0 hy2)) rfl rfl rfl ?_
  rintro _ B hK ⟨v3, rfl, h4⟩
  replace g0_0 := g0_0.up hK
  replace hH := hH.up hK
  replace hB := hB.trans hK
  refine WO.q (.mv (v := .str _) rfl) rfl rfl ?_
  obtain ⟨y5, hy5, h⟩ := Option.bind_eq_some_iff.1 h
  refine WO.md (MOp.lookup mt222 (foc222 hH) h4 hy5 kS rfl rfl) rfl rfl ?_
  rintro _ _ ⟨rfl, c6, r7, rfl⟩
  obtain rfl := r7
  refine WO.q (.mv (v := .tup _) rfl) rfl rfl ?_
  refine WO.q (.r fun _ => rfl) rfl rfl ?_
  refine WO.q (.r fun _ => rfl) rfl rfl ?_
  refine WO.q (.as (v := .int _ _) rfl) rfl rfl ?_
  refine WO.q (.as (v := .bool _) rfl) rfl rfl ?_
  refine WO.nil ?_
  refine WX.seq ?_
  refine WX.reg ?_
  refine WO.q (.mv (v := .int _ _) rfl) rfl rfl ?_
  refine WO.q (.mv (v := .bool _) rfl) rfl rfl ?_
  refine WO.q (.as (v := .int _ _) rfl) rfl rfl ?_
  refine WO.q (.as (v := .bool _) rfl) rfl rfl ?_
  refine WO.nil ?_
  obtain rfl := Option.some.inj h
  exact WX.ret (rs_ (rs_tmp rfl (rs_tmp rfl rs_nil))) fun st hp => ⟨(hp.pk [] (by decide)).le hB, rfl⟩
def dir_Name_P (B : Kn) (L : Own) (r : Int) : AV → St → Prop := CS B L fun v => v = .int .i64 r
def dir_Name_j1_I (B0 : Kn) (x21 : Bool) : Fr → Kn → Own → Prop := fun fr B A => KLe B0 B ∧ fr = [(21, .bool x21)] ∧ A = []
theorem dir_Name_j1_ok {B0 : Kn} {L : Own} {n0 : Nat} {x21 : Bool} {r : Int} (h : dir_Name_j1 x21 = some r) : WXI Tryz.prog 22 n0 (Fin Tryz.prog Tryz.f59.results.toList n0 (dir_Name_P B0 L r)) [.code (ct [1, 0, 1] (bodyOf Tryz.f59)), .code (ct [1, 1] (bodyOf Tryz.f59))] (dir_Name_j1_I B0 x21) L := by
  unfold dir_Name_j1 at h
  rintro _ B _ ⟨hB, rfl, rfl⟩
  rcases bsp x21 with k2 | k2
  replace h := (if_pos k2).symm.trans h
  refine WX.condT rfl k2 ?_
  refine WX.seq ?_
  refine WX.reg ?_
  refine WO.q (.as (v := .int _ _) rfl) rfl rfl ?_
  refine WO.nil ?_
  obtain rfl := Option.some.inj h
  exact WX.ret (rs_ (rs_tmp rfl rs_nil)) fun st hp => ⟨(hp.pk [] (by decide)).le hB, rfl⟩
  replace h := (if_neg (bnt k2)).symm.trans h
  refine WX.condF rfl k2 ?_
  refine WX.skip ?_
  refine WX.seq ?_
  refine WX.reg ?_
  refine WO.q (.as (v := .int _ _) rfl) rfl rfl ?_
  refine WO.nil ?_
  obtain rfl := Option.some.inj h
  exact WX.ret (rs_ (rs_tmp rfl rs_nil)) fun st hp => ⟨(hp.pk [] (by decide)).le hB, rfl⟩
theorem dir_Name_ok {B0 : Kn} {L : Own} {a0 : List UInt8} {r : Int} (h : dir_Name a0 = some r) : ∀ st, Hp B0 L st → ASpec Tryz.prog 59 [.str a0] st (dir_Name_P B0 L r) := by
  unfold dir_Name at h
  refine bodyA (A := []) Tryz.func59 rfl (c := bodyOf Tryz.f59) rfl Tryz.ntmps59 (lb rfl) fun n0 => ?_
  have hB := KLe.refl B0
  refine WX.seq ?_
  refine WX.reg ?_
  refine WO.q (.as (v := .int _ _) rfl) rfl rfl ?_
  refine WO.nil ?_
  refine WX.seq ?_
  refine WX.seq ?_
  refine WX.reg ?_
  refine WO.q (.mv (v := .str _) rfl) rfl rfl ?_
  refine WO.q (.r fun _ => rfl) rfl rfl ?_
  refine WO.q (.mv (v := .bool _) rfl) rfl rfl ?_
  rcases bsp (decide (a0 = ([] : List UInt8))) with k1 | k1
  have q_k1 := of_decide_eq_true k1
  replace h := (if_pos q_k1).symm.trans h
  refine WO.sd (wg rfl rfl (gfn k1)) rfl ?_
  refine WO.sd (wg rfl rfl (gfn k1)) rfl ?_
  refine WO.sd (wg rfl rfl (gfn k1)) rfl ?_
  refine WO.q (.ptv (v := .bool _) rfl k1 rfl) rfl rfl ?_
  refine WO.q (.mv (v := .bool _) rfl) rfl rfl ?_
  refine WO.sd (wg rfl rfl (gfn rfl)) rfl ?_
  refine WO.sd (wg rfl rfl (gfn rfl)) rfl ?_
  refine WO.q (.ptv (v := .bool _) rfl rfl rfl) rfl rfl ?_
  refine WO.q (.mv (v := .bool _) rfl) rfl rfl ?_
  refine WO.sd (wg rfl rfl (gfn rfl)) rfl ?_
  refine WO.sd (wg rfl rfl (gfn rfl)) rfl ?_
  refine WO.q (.ptv (v := .bool _) rfl rfl rfl) rfl rfl ?_
  refine WO.q (.mv (v := .bool _) rfl) rfl rfl ?_
  refine WO.sd (wg rfl rfl (gfn rfl)) rfl ?_
  refine WO.sd (wg rfl rfl (gfn rfl)) rfl ?_
  refine WO.q (.ptv (v := .bool _) rfl rfl rfl) rfl rfl ?_
  refine WO.nil ?_
  refine WX.keep [21] (WX.pk [] (by decide) ?_) rfl
  exact dir_Name_j1_ok h _ _ _ ⟨hB, rfl, rfl⟩
  have q_k1 := of_decide_eq_false k1
  replace h := (if_neg q_k1).symm.trans h
  refine WO.q (.mv (v := .str _) rfl) (wg rfl rfl (gf k1)) rfl ?_
  refine WO.q (.len rfl rfl rfl (evslen ti9 rfl _)) (wg rfl rfl (gf k1)) rfl ?_
  refine WO.q (.r fun _ => rfl) (wg rfl rfl (gf k1)) rfl ?_
  refine WO.q (.pfv (v := .bool _) rfl k1 rfl) rfl rfl ?_
  refine WO.q (.mv (v := .bool _) rfl) rfl rfl ?_
  rcases bsp (decide (32 < (a0.length : Int))) with k3 | k3
  have q_k3 := of_decide_eq_true k3
  replace h := (if_pos q_k3).symm.trans h
  refine WO.sd (wg rfl rfl (gfn k3)) rfl ?_
  refine WO.sd (wg rfl rfl (gfn k3)) rfl ?_
  refine WO.q (.ptv (v := .bool _) rfl k3 rfl) rfl rfl ?_
  refine WO.q (.mv (v := .bool _) rfl) rfl rfl ?_
  refine WO.sd (wg rfl rfl (gfn rfl)) rfl ?_
  refine WO.sd (wg rfl rfl (gfn rfl)) rfl ?_
  refine WO.q (.ptv (v := .bool _) rfl rfl rfl) rfl rfl ?_
  refine WO.q (.mv (v := .bool _) rfl) rfl rfl ?_
  refine WO.sd (wg rfl rfl (gfn rfl)) rfl ?_
  refine WO.sd (wg rfl rfl (gfn rfl)) rfl ?_
  refine WO.q (.ptv (v := .bool _) rfl rfl rfl) rfl rfl ?_
  refine WO.nil ?_
  refine WX.keep [21] (WX.pk [] (by decide) ?_) rfl
  exact dir_Name_j1_ok h _ _ _ ⟨hB, rfl, rfl⟩
  have q_k3 := of_decide_eq_false k3
  replace h := (if_neg q_k3).symm.trans h
  refine WO.q (.mv (v := .str _) rfl) (wg rfl rfl (gf k3)) rfl ?_
  refine WO.q (.r fun _ => rfl) (wg rfl rfl (gf k3)) rfl ?_
  refine WO.q (.pfv (v := .bool _) rfl k3 rfl) rfl rfl ?_
  refine WO.q (.mv (v := .bool _) rfl) rfl rfl ?_
  rcases bsp (decide (a0 = ([46] : List UInt8))) with k4 | k4
  have q_k4 := of_decide_eq_true k4
  replace h := (if_pos q_k4).symm.trans h
  refine WO.sd (wg rfl rfl (gfn k4)) rfl ?_
  refine WO.sd (wg rfl rfl (gfn k4)) rfl ?_
  refine WO.q (.ptv (v := .bool _) rfl k4 rfl) rfl rfl ?_
  refine WO.q (.mv (v := .bool _) rfl) rfl rfl ?_
  refine WO.sd (wg rfl rfl (gfn rfl)) rfl ?_
  refine WO.sd (wg rfl rfl (gfn rfl)) rfl ?_
  refine WO.q (.ptv (v := .bool _) rfl rfl rfl) rfl rfl ?_
  refine WO.nil ?_
  refine WX.keep [21] (WX.pk [] (by decide) ?_) rfl
  exact dir_Name_j1_ok h _ _ _ ⟨hB, rfl, rfl⟩
  have q_k4 := of_decide_eq_false k4
  replace h := (if_neg q_k4).symm.trans h
  refine WO.q (.mv (v := .str _) rfl) (wg rfl rfl (gf k4)) rfl ?_
  refine WO.q (.r fun _ => rfl) (wg rfl rfl (gf k4)) rfl ?_
  refine WO.q (.pfv (v := .bool _) rfl k4 rfl) rfl rfl ?_
  refine WO.q (.mv (v := .bool _) rfl) rfl rfl ?_
  rcases bsp (decide (a0 = ([46, 46] : List UInt8))) with k5 | k5
  have q_k5 := of_decide_eq_true k5
  replace h := (if_pos q_k5).symm.trans h
  refine WO.sd (wg rfl rfl (gfn k5)) rfl ?_
  refine WO.sd (wg rfl rfl (gfn k5)) rfl ?_
  refine WO.q (.ptv (v := .bool _) rfl k5 rfl) rfl rfl ?_
  refine WO.nil ?_
  refine WX.keep [21] (WX.pk [] (by decide) ?_) rfl
  exact dir_Name_j1_ok h _ _ _ ⟨hB, rfl, rfl⟩
  have q_k5 := of_decide_eq_false k5
  replace h := (if_neg q_k5).symm.trans h
  refine WO.q (.mv (v := .str _) rfl) (wg rfl rfl (gf k5)) rfl ?_
  obtain ⟨y6, hy6, h⟩ := Option.bind_eq_some_iff.1 h
  refine WO.cS rfl rfl (strings_ContainsAny_ok hy6) rfl (wg rfl rfl (gf k5)) rfl ?_
  rintro _ rfl
  refine WO.q (.pfv (v := .bool _) rfl k5 rfl) rfl rfl ?_
  refine WO.nil ?_
  refine WX.keep [21] (WX.pk [] (by decide) ?_) rfl
  exact dir_Name_j1_ok h _ _ _ ⟨hB, rfl, rfl⟩
def dir_New_P (B : Kn) (L : Own) (r : Heap × Nat) : AV → St → Prop := CH B L fun B' X E' v => ∃ wp0, v = wp0 ∧ X = [] ∧ HR B' r.1 E' ∧ HPt B' 210 wp0 r.2
theorem dir_New_ok {B0 : Kn} {L : Own} {H : Heap} {E : Own} (hH : HR B0 H E) {r : Heap × Nat} (h : dir_New H = some r) : ∀ st, Hp B0 (E ++ L) st → ASpec Tryz.prog 47 [] st (dir_New_P B0 L r) := by
  unfold dir_New at h
  refine bodyA (A := []) (L := E ++ L) Tryz.func47 rfl (c := bodyOf Tryz.f47) rfl Tryz.ntmps47 (lb rfl) fun n0 => ?_
  have hB := KLw.refl B0
  refine WX.seq ?_
  refine WX.reg ?_
  refine WO.q (.as (v := .nilptr) rfl) rfl rfl ?_
  refine WO.nil ?_
  refine WX.seq ?_
  refine WX.reg ?_
  obtain ⟨y1, hy1, h⟩ := Option.bind_eq_some_iff.1 h
  refine WO.ch rfl rfl (dir_buckets_ok hH hy1) rfl rfl rfl ?_
  rintro _ B _ E hK ⟨v2, b3, n4, c5, rfl, rfl, hH, h6⟩
  obtain ⟨_, _, _, _, _, rfl⟩ := h6.isl
  replace hB := hB.trans hK
  refine WO.q (.bd (bd210_0 (cL rfl))) rfl rfl ?_
  refine WO.md (MOp.box (cA rfl)) rfl rfl ?_
  rintro _ _ ⟨b7, rfl, rfl⟩
  refine WO.q (.as (v := .ptr _ _) rfl) rfl rfl ?_
  refine WO.nil ?_
  refine WX.fz (j := 1) h6 rfl ?_
  intro B hK g8
  replace hH := hH.up hK
  replace hB := hB.trans hK.w
  obtain ⟨H10, e_H10, h⟩ := Option.bind_eq_some_iff.1 h
  refine WX.abs (j := 0) (x := ((y1.2, 0) : (List Nat) × Int)) (foc210 hH) rfl (Rp (Rl g8) Ri) ?_
  intro B E hK g9 hH
  replace hH := HRe e_H10 hH
  replace hB := hB.trans hK
  obtain rfl := Option.some.inj h
  exact WX.ret (rs_ (rs_tmp rfl rs_nil)) fun st hp => ⟨_, _, _, hB, (hp.pk [] (by decide)), _, rfl, rfl, hH, g9⟩
def dir_number_P (B : Kn) (L : Own) (r : Bool) : AV → St → Prop := CS B L fun v => v = .bool r
theorem dir_number_ok {B0 : Kn} {L : Own} {a0 : Int} {r : Bool} (h : dir_number a0 = some r) : ∀ st, Hp B0 L st → ASpec Tryz.prog 161 [.int .i64 a0] st (dir_number_P B0 L r) := by
  unfold dir_number at h
  refine bodyA (A := []) Tryz.func161 rfl (c := bodyOf Tryz.f161) rfl Tryz.ntmps161 (lb rfl) fun n0 => ?_
  have hB := KLe.refl B0
  refine WX.seq ?_
  refine WX.reg ?_
  refine WO.q (.as (v := .bool _) rfl) rfl rfl ?_
  refine WO.nil ?_
  refine WX.seq ?_
  refine WX.reg ?_
  refine WO.q (.mv (v := .int _ _) rfl) rfl rfl ?_
  refine WO.q (.r fun _ => rfl) rfl rfl ?_
  refine WO.q (.mv (v := .bool _) rfl) rfl rfl ?_
  rcases bsp (decide (0 ≤ a0)) with k1 | k1
  have q_k1 := of_decide_eq_true k1
  replace h := (if_pos q_k1).symm.trans h
  refine WO.q (.mv (v := .int _ _) rfl) (wg rfl rfl (gt k1)) rfl ?_
  refine WO.q (.r fun _ => rfl) (wg rfl rfl (gt k1)) rfl ?_
  refine WO.q (.ptv (v := .bool _) rfl k1 rfl) rfl rfl ?_
  refine WO.q (.as (v := .bool _) rfl) rfl rfl ?_
  refine WO.nil ?_
  obtain rfl := Option.some.inj h
  exact WX.ret (rs_ (rs_tmp rfl rs_nil)) fun st hp => ⟨(hp.pk [] (by decide)).le hB, rfl⟩
  have q_k1 := of_decide_eq_false k1
  replace h := (if_neg q_k1).symm.trans h
  refine WO.sd (wg rfl rfl (gtn k1)) rfl ?_
  refine WO.sd (wg rfl rfl (gtn k1)) rfl ?_
  refine WO.q (.pfv (v := .bool _) rfl k1 rfl) rfl rfl ?_
  refine WO.q (.as (v := .bool _) rfl) rfl rfl ?_
  refine WO.nil ?_
  obtain rfl := Option.some.inj h
  exact WX.ret (rs_ (rs_tmp rfl rs_nil)) fun st hp => ⟨(hp.pk [] (by decide)).le hB, rfl⟩
def dir_Dir_Put_P (B : Kn) (L : Own) (r : Heap × Int) : AV → St → Prop := CH B L fun B' X E' v => v = .int .i64 r.2 ∧ X = [] ∧ HR B' r.1 E'
def dir_Dir_Put_j10_I (B0 : Kn) (H : Heap) (x0 : Nat) (x1 : List UInt8) (x2 : Int) : Fr → Kn → Own → Own → Prop := fun fr B A E => KLw B0 B ∧ HR B H E ∧ ∃ v8, HPt B 210 v8 x0 ∧ fr = [(0, v8), (1, .str x1), (2, .int .i64 x2)] ∧ A = []
theorem dir_Dir_Put_j10_ok {B0 : Kn} {L : Own} {n0 : Nat} {H : Heap} {x0 : Nat} {x1 : List UInt8} {x2 : Int} {r : Heap × Int} (h : dir_Dir_Put_j10 H x0 x1 x2 = some r) : WXH Tryz.prog 56 n0 (Fin Tryz.prog Tryz.f139.results.toList n0 (dir_Dir_Put_P B0 L r)) [.code (ct [1, 1, 1] (bodyOf Tryz.f139))] (dir_Dir_Put_j10_I B0 H x0 x1 x2) L := by
  unfold dir_Dir_Put_j10 at h
  rintro _ B _ E ⟨hB, hH, v8, h8, rfl, rfl⟩
  refine WX.seq ?_
  refine WX.reg ?_
  refine WO.q (.mv (v := v8) rfl) rfl rfl ?_
  refine WO.q (.mv (v := .str _) rfl) rfl rfl ?_
  obtain ⟨y9, hy9, h⟩ := Option.bind_eq_some_iff.1 h
  refine WO.c0 rfl rfl (rd0 (dir_Dir_bucket_ok hH h8 hy9)) rfl rfl rfl ?_
  rintro _ B hK ⟨v10, rfl, h11⟩
  replace h8 := h8.up hK
  replace hH := hH.up hK
  replace hB := hB.trans hK.w
  refine WO.q (.mv (v := .str _) rfl) rfl rfl ?_
  refine WO.q (.mv (v := .int _ _) rfl) rfl rfl ?_
  obtain ⟨y12, hy12, h⟩ := Option.bind_eq_some_iff.1 h
  obtain ⟨H13, e_H13, h⟩ := Option.bind_eq_some_iff.1 h
  refine WO.en (MOpE.put mt222 (foc222 hH) h11 hy12 kS kI rfl rfl rfl) rfl ?_
  rintro _ _ _ E ⟨rfl, rfl, hH⟩
  replace hH := HRe e_H13 hH
  refine WO.nil ?_
  refine WX.seq ?_
  refine WX.reg ?_
  refine WO.q (.as (v := .int _ _) rfl) rfl rfl ?_
  refine WO.nil ?_
  obtain rfl := Option.some.inj h
  exact WX.ret (rs_ (rs_tmp rfl rs_nil)) fun st hp => ⟨_, _, _, hB, (hp.pk [] (by decide)), rfl, rfl, hH⟩
theorem dir_Dir_Put_ok {B0 : Kn} {L : Own} {H : Heap} {E : Own} (hH : HR B0 H E) {a0 : Nat} {a1 : List UInt8} {a2 : Int} {v0_0 : AV} (g0_0 : HPt B0 210 v0_0 a0) {r : Heap × Int} (h : dir_Dir_Put H a0 a1 a2 = some r) : ∀ st, Hp B0 (E ++ L) st → ASpec Tryz.prog 139 [v0_0, .str a1, .int .i64 a2] st (dir_Dir_Put_P B0 L r) := by
  unfold dir_Dir_Put at h
  refine bodyA (A := []) (L := E ++ L) Tryz.func139 rfl (c := bodyOf Tryz.f139) rfl Tryz.ntmps139 (lb rfl) fun n0 => ?_
  have hB := KLw.refl B0
  refine WX.seq ?_
  refine WX.reg ?_
  refine WO.q (.as (v := .int _ _) rfl) rfl rfl ?_
  refine WO.nil ?_
  refine WX.seq ?_
  refine WX.seq ?_
  refine WX.reg ?_
  refine WO.q (.mv (v := .str _) rfl) rfl rfl ?_
  obtain ⟨y1, hy1, h⟩ := Option.bind_eq_some_iff.1 h
  refine WO.cS rfl rfl (dir_Name_ok hy1) rfl rfl rfl ?_
  rintro _ rfl
  refine WO.q (.as (v := .int _ _) rfl) rfl rfl ?_
  refine WO.nil ?_
  refine WX.block ?_
  refine WX.seq ?_
  refine WX.reg ?_
  refine WO.q (.mv (v := v0_0) rfl) rfl rfl ?_
  refine WO.q (.bin (eveqlnil g0_0 ti128 rfl)) rfl rfl ?_
  refine WO.q (.as (v := .bool _) rfl) rfl rfl ?_
  refine WO.nil ?_
  rcases bsp (decide (a0 = 0)) with k2 | k2
  have q_k2 := of_decide_eq_true k2
  replace h := (if_pos q_k2).symm.trans h
  refine WX.condT rfl k2 ?_
  refine WX.seq ?_
  refine WX.reg ?_
  refine WO.q (.as (v := .int _ _) rfl) rfl rfl ?_
  refine WO.nil ?_
  obtain rfl := Option.some.inj h
  exact WX.ret (rs_ (rs_tmp rfl rs_nil)) fun st hp => ⟨_, _, _, hB, (hp.pk [] (by decide)), rfl, rfl, hH⟩
  have q_k2 := of_decide_eq_false k2
  replace h := (if_neg q_k2).symm.trans h
  refine WX.condF rfl k2 ?_
  refine WX.seq ?_
  refine WX.reg ?_
  refine WO.q (.mv (v := .int _ _) rfl) rfl rfl ?_
  refine WO.q (.r fun _ => rfl) rfl rfl ?_
  refine WO.q (.as (v := .bool _) rfl) rfl rfl ?_
  refine WO.nil ?_
  rcases bsp (decide (y1 ≠ 0)) with k3 | k3
  have q_k3 := of_decide_eq_true k3
  replace h := (if_pos q_k3).symm.trans h
  refine WX.condT rfl k3 ?_
  refine WX.seq ?_
  refine WX.reg ?_
  refine WO.q (.mv (v := .int _ _) rfl) rfl rfl ?_
  refine WO.q (.as (v := .int _ _) rfl) rfl rfl ?_
  refine WO.nil ?_
  obtain rfl := Option.some.inj h
  exact WX.ret (rs_ (rs_tmp rfl rs_nil)) fun st hp => ⟨_, _, _, hB, (hp.pk [] (by decide)), rfl, rfl, hH⟩
  have q_k3 := of_decide_eq_false k3
  replace h := (if_neg q_k3).symm.trans h
  refine WX.condF rfl k3 ?_
  refine WX.seq ?_
  refine WX.reg ?_
  refine WO.q (.mv (v := .int _ _) rfl) rfl rfl ?_
  obtain ⟨y4, hy4, h⟩ := Option.bind_eq_some_iff.1 h
  refine WO.cS rfl rfl (dir_number_ok hy4) rfl rfl rfl ?_
  rintro _ rfl
  refine WO.q (.r fun _ => rfl) rfl rfl ?_
  refine WO.q (.as (v := .bool _) rfl) rfl rfl ?_
  refine WO.nil ?_
  rcases bsp y4 with k5 | k5
  replace h := (if_pos k5).symm.trans h
  refine WX.condF rfl (f_not k5) ?_
  refine WX.skip ?_
  refine WX.pop ?_
  refine WX.seq ?_
  refine WX.seq ?_
  refine WX.reg ?_
  refine WO.q (.mv (v := v0_0) rfl) rfl rfl ?_
  refine WO.q (.mv (v := .str _) rfl) rfl rfl ?_
  obtain ⟨y6, hy6, h⟩ := Option.bind_eq_some_iff.1 h
  refine WO.cS rfl rfl (rdS (dir_Dir_Get_ok hH g0_0 hy6)) rfl rfl rfl ?_
  rintro _ rfl
  refine WO.q (.mv (v := .tup _) rfl) rfl rfl ?_
  refine WO.q (.r fun _ => rfl) rfl rfl ?_
  refine WO.q (.r fun _ => rfl) rfl rfl ?_
  refine WO.q (.as (v := .int _ _) rfl) rfl rfl ?_
  refine WO.q (.as (v := .bool _) rfl) rfl rfl ?_
  refine WO.nil ?_
  refine WX.seq ?_
  refine WX.reg ?_
  refine WO.q (.mv (v := .bool _) rfl) rfl rfl ?_
  refine WO.q (.r fun _ => rfl) rfl rfl ?_
  refine WO.nil ?_
  rcases bsp y6.2 with k7 | k7
  replace h := (if_pos k7).symm.trans h
  refine WX.condF rfl (f_not k7) ?_
  refine WX.skip ?_
  refine WX.keep [0, 1, 2] (WX.pk [] (by decide) ?_) rfl
  exact dir_Dir_Put_j10_ok h _ _ _ _ ⟨hB, hH, _, g0_0, rfl, rfl⟩
  replace h := (if_neg (bnt k7)).symm.trans h
  refine WX.condT rfl (t_not k7) ?_
  refine WX.seq ?_
  refine WX.reg ?_
  refine WO.q (.mv (v := v0_0) rfl) rfl rfl ?_
  obtain ⟨y14, hy14, h⟩ := Option.bind_eq_some_iff.1 h
  obtain ⟨b_y14, c_y14, e_y14, m_y14, r_y14, u_y14⟩ := hgetS (foc210 hH) g0_0 hy14
  subst e_y14
  obtain ⟨_, _, rfl, ⟨w15, rfl, hw15⟩, rfl⟩ := r_y14
  obtain ⟨_, _, _, _, _, rfl⟩ := hw15.isl
  refine WO.q (.r fun _ => rfl) rfl rfl ?_
  refine WO.q (.fa (fa210_1 _ _)) rfl rfl ?_
  refine WO.ql (.ldSm rfl (inE m_y14) rfl ti3 rfl) rfl rfl ?_
  refine WO.q (.r fun _ => rfl) rfl rfl ?_
  refine WO.q (.r fun _ => rfl) rfl rfl ?_
  refine WO.q (.fa (fa210_1 _ _)) rfl rfl ?_
  obtain ⟨H16, e_H16, h⟩ := Option.bind_eq_some_iff.1 h
  obtain ⟨_, z_z17, k_z17⟩ := u_y14 _ (y14.1, (wi64 (y14.2 + 1))) (Rp (Rl hw15) Ri)
  refine WO.en (MOpE.st rfl (cI rfl) z_z17 ti3 rfl rfl (lb rfl) rfl) rfl ?_
  rintro _ _ _ _ ⟨rfl, rfl, rfl⟩
  replace hH := HRe e_H16 k_z17
  refine WO.nil ?_
  refine WX.seq ?_
  refine WX.drw (Plan.of [0, 1, 2, 3, 4, 5, 6, 7, 8, 9, 10] .nil) _ mixed (by kernel_rfl) rfl (subE (pk_sub [])) ?_
  refine WP.q (i := 0) rfl (.mv (v := .ptr b_y14 0) rfl) rfl rfl rfl ?_
  obtain ⟨y18, hy18, h⟩ := Option.bind_eq_some_iff.1 h
  obtain ⟨c_y18, m_y18, r_y18, u_y18⟩ := hgetP (foc210 hH) g0_0 hy18
  obtain ⟨_, _, rfl, ⟨w19, rfl, hw19⟩, rfl⟩ := r_y18
  obtain ⟨_, _, _, _, _, rfl⟩ := hw19.isl
  refine WP.q (i := 1) rfl (.r fun _ => rfl) rfl rfl rfl ?_
  refine WP.q (i := 2) rfl (.fa (fa210_1 _ _)) rfl rfl rfl ?_
  refine WP.q (i := 3) rfl (.ldSm rfl (inM m_y18) rfl ti3 rfl) rfl rfl rfl ?_
  refine WP.q (i := 4) rfl (.mv (v := .ptr b_y14 0) rfl) rfl rfl rfl ?_
  refine WP.q (i := 5) rfl (.r fun _ => rfl) rfl rfl rfl ?_
  refine WP.q (i := 6) rfl (.fa (fa210_0 _ _)) rfl rfl rfl ?_
  refine WP.q (i := 7) rfl (.ldSm rfl (inM m_y18) rfl ti207 rfl) rfl rfl rfl ?_
  refine WP.q (i := 8) rfl (.len rfl rfl rfl (sl207.len hw19.isl)) (isQl rfl rfl ti207 rfl) rfl rfl ?_
  refine WP.q (i := 9) rfl (.r fun _ => rfl) rfl rfl rfl ?_
  refine WP.q (i := 10) rfl (.r fun _ => rfl) rfl rfl rfl ?_
  refine WP.nil ?_
  rcases bsp (decide ((wi64 (4 * (y18.1.length : Int))) < y18.2)) with k20 | k20
  have q_k20 := of_decide_eq_true k20
  replace h := (if_pos q_k20).symm.trans h
  refine WX.condT rfl k20 ?_
  refine WX.reg ?_
  refine WO.q (.mv (v := .ptr b_y14 0) rfl) rfl rfl ?_
  obtain ⟨y21, hy21, h⟩ := Option.bind_eq_some_iff.1 h
  refine WO.ch rfl rfl (dir_Dir_grow_ok hH g0_0 hy21) rfl rfl rfl ?_
  rintro _ B _ E hK ⟨rfl, rfl, hH⟩
  replace g0_0 := g0_0.upw hK
  replace hB := hB.trans hK
  refine WO.nil ?_
  refine WX.keep [0, 1, 2] (WX.pk [] (by decide) ?_) rfl
  exact dir_Dir_Put_j10_ok h _ _ _ _ ⟨hB, hH, _, g0_0, rfl, rfl⟩
  have q_k20 := of_decide_eq_false k20
  replace h := (if_neg q_k20).symm.trans h
  refine WX.condF rfl k20 ?_
  refine WX.skip ?_
  refine WX.keep [0, 1, 2] (WX.pk [] (by decide) ?_) rfl
  exact dir_Dir_Put_j10_ok h _ _ _ _ ⟨hB, hH, _, g0_0, rfl, rfl⟩
  replace h := (if_neg (bnt k5)).symm.trans h
  refine WX.condT rfl (t_not k5) ?_
  refine WX.seq ?_
  refine WX.reg ?_
  refine WO.q (.as (v := .int _ _) rfl) rfl rfl ?_
  refine WO.nil ?_
  obtain rfl := Option.some.inj h
  exact WX.ret (rs_ (rs_tmp rfl rs_nil)) fun st hp => ⟨_, _, _, hB, (hp.pk [] (by decide)), rfl, rfl, hH⟩
def dir_Dir_Drop_P (B : Kn) (L : Own) (r : Heap × Int) : AV → St → Prop := CH B L fun B' X E' v => v = .int .i64 r.2 ∧ X = [] ∧ HR B' r.1 E'
theorem dir_Dir_Drop_ok {B0 : Kn} {L : Own} {H : Heap} {E : Own} (hH : HR B0 H E) {a0 : Nat} {a1 : List UInt8} {v0_0 : AV} (g0_0 : HPt B0 210 v0_0 a0) {r : Heap × Int} (h : dir_Dir_Drop H a0 a1 = some r) : ∀ st, Hp B0 (E ++ L) st → ASpec Tryz.prog 138 [v0_0, .str a1] st (dir_Dir_Drop_P B0 L r) := by
  unfold dir_Dir_Drop at h
  refine bodyA (A := []) (L := E ++ L) Tryz.func138 rfl (c := bodyOf Tryz.f138) rfl Tryz.ntmps138 (lb rfl) fun n0 => ?_
  have hB := KLw.refl B0
  refine WX.seq ?_
  refine WX.reg ?_
  refine WO.q (.as (v := .int _ _) rfl) rfl rfl ?_
  refine WO.nil ?_
  refine WX.seq ?_
  refine WX.seq ?_
  refine WX.reg ?_
  refine WO.q (.mv (v := v0_0) rfl) rfl rfl ?_
  refine WO.q (.bin (eveqlnil g0_0 ti128 rfl)) rfl rfl ?_
  refine WO.nil ?_
  rcases bsp (decide (a0 = 0)) with k1 | k1
  have q_k1 := of_decide_eq_true k1
  replace h := (if_pos q_k1).symm.trans h
  refine WX.condT rfl k1 ?_
  refine WX.seq ?_
  refine WX.reg ?_
  refine WO.q (.as (v := .int _ _) rfl) rfl rfl ?_
  refine WO.nil ?_
  obtain rfl := Option.some.inj h
  exact WX.ret (rs_ (rs_tmp rfl rs_nil)) fun st hp => ⟨_, _, _, hB, (hp.pk [] (by decide)), rfl, rfl, hH⟩
  have q_k1 := of_decide_eq_false k1
  replace h := (if_neg q_k1).symm.trans h
  refine WX.condF rfl k1 ?_
  refine WX.skip ?_
  refine WX.seq ?_
  refine WX.seq ?_
  refine WX.reg ?_
  refine WO.q (.mv (v := v0_0) rfl) rfl rfl ?_
  refine WO.q (.mv (v := .str _) rfl) rfl rfl ?_
  obtain ⟨y2, hy2, h⟩ := Option.bind_eq_some_iff.1 h
  refine WO.cS rfl rfl (rdS (dir_Dir_Get_ok hH g0_0 hy2)) rfl rfl rfl ?_
  rintro _ rfl
  refine WO.q (.mv (v := .tup _) rfl) rfl rfl ?_
  refine WO.q (.r fun _ => rfl) rfl rfl ?_
  refine WO.q (.r fun _ => rfl) rfl rfl ?_
  refine WO.q (.as (v := .int _ _) rfl) rfl rfl ?_
  refine WO.q (.as (v := .bool _) rfl) rfl rfl ?_
  refine WO.nil ?_
  refine WX.seq ?_
  refine WX.reg ?_
  refine WO.q (.mv (v := .bool _) rfl) rfl rfl ?_
  refine WO.q (.r fun _ => rfl) rfl rfl ?_
  refine WO.nil ?_
  rcases bsp y2.2 with k3 | k3
  replace h := (if_pos k3).symm.trans h
  refine WX.condF rfl (f_not k3) ?_
  refine WX.skip ?_
  refine WX.seq ?_
  refine WX.reg ?_
  refine WO.q (.mv (v := v0_0) rfl) rfl rfl ?_
  refine WO.q (.mv (v := .str _) rfl) rfl rfl ?_
  obtain ⟨y4, hy4, h⟩ := Option.bind_eq_some_iff.1 h
  refine WO.c0 rfl rfl (rd0 (dir_Dir_bucket_ok hH g0_0 hy4)) rfl rfl rfl ?_
  rintro _ B hK ⟨v5, rfl, h6⟩
  replace g0_0 := g0_0.up hK
  replace hH := hH.up hK
  replace hB := hB.trans hK.w
  refine WO.q (.mv (v := .str _) rfl) rfl rfl ?_
  obtain ⟨y7, hy7, h⟩ := Option.bind_eq_some_iff.1 h
  obtain ⟨H8, e_H8, h⟩ := Option.bind_eq_some_iff.1 h
  refine WO.en (MOpE.del rfl rfl rfl mt222 (foc222 hH) h6 hy7 kS rfl rfl) rfl ?_
  rintro _ _ _ E ⟨rfl, rfl, rfl, hH⟩
  replace hH := HRe e_H8 hH
  refine WO.nil ?_
  refine WX.seq ?_
  refine WX.reg ?_
  refine WO.q (.mv (v := v0_0) rfl) rfl rfl ?_
  obtain ⟨y9, hy9, h⟩ := Option.bind_eq_some_iff.1 h
  obtain ⟨b_y9, c_y9, e_y9, m_y9, r_y9, u_y9⟩ := hgetS (foc210 hH) g0_0 hy9
  subst e_y9
  obtain ⟨_, _, rfl, ⟨w10, rfl, hw10⟩, rfl⟩ := r_y9
  obtain ⟨_, _, _, _, _, rfl⟩ := hw10.isl
  refine WO.q (.r fun _ => rfl) rfl rfl ?_
  refine WO.q (.fa (fa210_1 _ _)) rfl rfl ?_
  refine WO.ql (.ldSm rfl (inE m_y9) rfl ti3 rfl) rfl rfl ?_
  refine WO.q (.r fun _ => rfl) rfl rfl ?_
  refine WO.q (.r fun _ => rfl) rfl rfl ?_
  refine WO.q (.fa (fa210_1 _ _)) rfl rfl ?_
  obtain ⟨H11, e_H11, h⟩ := Option.bind_eq_some_iff.1 h
  obtain ⟨_, z_z12, k_z12⟩ := u_y9 _ (y9.1, (wi64 (y9.2 - 1))) (Rp (Rl hw10) Ri)
  refine WO.en (MOpE.st rfl (cI rfl) z_z12 ti3 rfl rfl (lb rfl) rfl) rfl ?_
  rintro _ _ _ _ ⟨rfl, rfl, rfl⟩
  replace hH := HRe e_H11 k_z12
  refine WO.nil ?_
  refine WX.seq ?_
  refine WX.reg ?_
  refine WO.q (.as (v := .int _ _) rfl) rfl rfl ?_
  refine WO.nil ?_
  obtain rfl := Option.some.inj h
  exact WX.ret (rs_ (rs_tmp rfl rs_nil)) fun st hp => ⟨_, _, _, hB, (hp.pk [] (by decide)), rfl, rfl, hH⟩
  replace h := (if_neg (bnt k3)).symm.trans h
  refine WX.condT rfl (t_not k3) ?_
  refine WX.seq ?_
  refine WX.reg ?_
  refine WO.q (.as (v := .int _ _) rfl) rfl rfl ?_
  refine WO.nil ?_
  obtain rfl := Option.some.inj h
  exact WX.ret (rs_ (rs_tmp rfl rs_nil)) fun st hp => ⟨_, _, _, hB, (hp.pk [] (by decide)), rfl, rfl, hH⟩
def dir_Dir_Len_P (B : Kn) (L : Own) (r : Int) : AV → St → Prop := CS B L fun v => v = .int .i64 r
theorem dir_Dir_Len_ok {B0 : Kn} {L : Own} {H : Heap} {Eh : Own} (hH : HR B0 H Eh) {a0 : Nat} {v0_0 : AV} (g0_0 : HPt B0 210 v0_0 a0) {r : Int} (h : dir_Dir_Len H a0 = some r) : ∀ st, Hp B0 (Eh ++ L) st → ASpec Tryz.prog 93 [v0_0] st (dir_Dir_Len_P B0 (Eh ++ L) r) := by
  unfold dir_Dir_Len at h
  refine bodyA (A := []) (L := Eh ++ L) Tryz.func93 rfl (c := bodyOf Tryz.f93) rfl Tryz.ntmps93 (lb rfl) fun n0 => ?_
  have hB := KLe.refl B0
  have hH0 := hH
  refine WX.seq ?_
  refine WX.reg ?_
  refine WO.q (.as (v := .int _ _) rfl) rfl rfl ?_
  refine WO.nil ?_
  refine WX.seq ?_
  refine WX.seq ?_
  refine WX.reg ?_
  refine WO.q (.mv (v := v0_0) rfl) rfl rfl ?_
  refine WO.q (.bin (eveqlnil g0_0 ti128 rfl)) rfl rfl ?_
  refine WO.nil ?_
  rcases bsp (decide (a0 = 0)) with k1 | k1
  have q_k1 := of_decide_eq_true k1
  replace h := (if_pos q_k1).symm.trans h
  refine WX.condT rfl k1 ?_
  refine WX.seq ?_
  refine WX.reg ?_
  refine WO.q (.as (v := .int _ _) rfl) rfl rfl ?_
  refine WO.nil ?_
  obtain rfl := Option.some.inj h
  exact WX.ret (rs_ (rs_tmp rfl rs_nil)) fun st hp => ⟨(hp.pk [] (by decide)).le hB, rfl⟩
  have q_k1 := of_decide_eq_false k1
  replace h := (if_neg q_k1).symm.trans h
  refine WX.condF rfl k1 ?_
  refine WX.skip ?_
  refine WX.seq ?_
  refine WX.reg ?_
  refine WO.q (.mv (v := v0_0) rfl) rfl rfl ?_
  obtain ⟨y2, hy2, h⟩ := Option.bind_eq_some_iff.1 h
  obtain ⟨b_y2, c_y2, e_y2, m_y2, r_y2, u_y2⟩ := hgetS (foc210 hH) g0_0 hy2
  subst e_y2
  obtain ⟨_, _, rfl, ⟨w3, rfl, hw3⟩, rfl⟩ := r_y2
  obtain ⟨_, _, _, _, _, rfl⟩ := hw3.isl
  refine WO.q (.r fun _ => rfl) rfl rfl ?_
  refine WO.q (.fa (fa210_1 _ _)) rfl rfl ?_
  refine WO.ql (.ldSm rfl (inE m_y2) rfl ti3 rfl) rfl rfl ?_
  refine WO.q (.as (v := .int _ _) rfl) rfl rfl ?_
  refine WO.nil ?_
  obtain rfl := Option.some.inj h
  exact WX.ret (rs_ (rs_tmp rfl rs_nil)) fun st hp => ⟨(hp.pk [] (by decide)).le hB, rfl⟩
end Gab
end
section
set_option linter.unusedSimpArgs false
set_option linter.unusedVariables false
set_option maxHeartbeats 4000000
set_option maxRecDepth 100000
namespace Gab
open Go Go.Proofs
def slices_Clone_ext_List_alloc_Extent_P (B : Kn) (L : Own) (r : List (Int × Int)) : AV → St → Prop := C1 B L fun B' v e0 => ∃ w b0 n0 c0, v = w ∧ e0 = oe b0 n0 c0 ∧ OSl EPIi64Ii64Q B' w b0 n0 c0 r
theorem slices_Clone_ext_List_alloc_Extent_ok {B0 : Kn} {L : Own} {a0 : List (Int × Int)} {v0 : AV} {r : List (Int × Int)} (g : RSl EPIi64Ii64Q B0 v0 a0) (h : slices_Clone_ext_List_alloc_Extent a0 = some r) : ∀ st, Hp B0 L st → ASpec Tryz.prog 69 [v0] st (slices_Clone_ext_List_alloc_Extent_P B0 L r) := by
  unfold slices_Clone_ext_List_alloc_Extent at h
  refine bodyA (A := []) Tryz.func69 rfl (c := bodyOf Tryz.f69) rfl Tryz.ntmps69 (lb rfl) fun n0 => ?_
  have hB := KLe.refl B0
  obtain ⟨sz, b, off, mc, nl, rfl, g1, g2, g3, g4⟩ := id g
  repeat refine WX.seq ?_
  refine WX.reg ?_
  refine WO.q (.as (v := .sl _ _ _ _ _ _) rfl) rfl rfl ?_
  refine WO.nil ?_
  repeat refine WX.seq ?_
  refine WX.reg ?_
  refine WO.q (.mv (v := .sl _ _ _ _ _ _) rfl) rfl rfl ?_
  refine WO.q (.bin (evslnil ti51 rfl _ _ _ _ _ _)) rfl rfl ?_
  refine WO.nil ?_
  repeat refine WX.seq ?_
  refine WX.cond rfl (fun hc => ?_) (fun hc => ?_)
  · have ha := g2 hc
    subst ha
    obtain ⟨_, rfl⟩ := appL_some h
    repeat refine WX.seq ?_
    refine WX.reg ?_
    refine WO.q (.as (v := .sl _ _ _ _ _ _) rfl) rfl rfl ?_
    refine WO.nil ?_
    exact WX.ret (rs_ (rs_tmp rfl rs_nil)) fun st hp => ⟨_, _, hB, ((hp.pk [] (by decide)).skip 0), _, 0, true, [], rfl, rfl, OSl.none _ _⟩
  · refine WX.skip ?_
    repeat refine WX.seq ?_
    refine WX.reg ?_
    refine WO.md (MOp.bs (l := ([] : List (Int × Int))) sl51 RL.nil (lb rfl) rfl rfl) rfl rfl ?_
    rintro v1 _ ⟨b1, o1, rfl⟩
    obtain ⟨_, _, _, _, _, rfl⟩ := o1.isl
    refine WO.q (.mv (v := .sl _ _ _ _ _ _) rfl) rfl rfl ?_
    obtain ⟨_, hs⟩ := Src.r sl51 g
    refine WO.md (MOp.app rfl rfl rfl sl51 o1 (hs _) h rfl rfl (fun _ => .h)) rfl rfl ?_
    rintro v2 _ ⟨b2, n2, o2, rfl⟩
    obtain ⟨_, _, _, _, _, rfl⟩ := o2.isl
    refine WO.q (.as (v := .sl _ _ _ _ _ _) rfl) rfl rfl ?_
    refine WO.nil ?_
    exact WX.ret (rs_ (rs_tmp rfl rs_nil)) fun st hp => ⟨_, _, hB, (hp.pk [0] (by decide)), _, _, n2, _, rfl, rfl, o2⟩
def ext_joins_P (B : Kn) (L : Own) (r : Bool) : AV → St → Prop := CS B L fun v => v = .bool r
def ext_joins_j1_I (B0 : Kn) (x12 : Bool) (zb2 : Int × Int) (zb3 : Int × Int) : Fr → Kn → Own → Prop := fun fr B A => KLe B0 B ∧ ∃ b4 b5, fr = [(2, .ptr b4 0), (3, .ptr b5 0), (12, .bool x12)] ∧ A = [(b4, some (.c [.int .i64 zb2.1, .int .i64 zb2.2])), (b5, some (.c [.int .i64 zb3.1, .int .i64 zb3.2]))]
theorem ext_joins_j1_ok {B0 : Kn} {L : Own} {n0 : Nat} {x12 : Bool} {zb2 : Int × Int} {zb3 : Int × Int} {r : Bool} (h : ext_joins_j1 x12 zb2 zb3 = some r) : WXI Tryz.prog 26 n0 (Fin Tryz.prog Tryz.f144.results.toList n0 (ext_joins_P B0 L r)) [.code (ct [1, 0, 1] (bodyOf Tryz.f144)), .code (ct [1, 1] (bodyOf Tryz.f144))] (ext_joins_j1_I B0 x12 zb2 zb3) L := by
  unfold ext_joins_j1 at h
  rintro _ B _ ⟨hB, b4, b5, rfl, rfl⟩
  rcases bsp x12 with k6 | k6
  replace h := (if_pos k6).symm.trans h
  refine WX.condT rfl k6 ?_
  refine WX.seq ?_
  refine WX.reg ?_
  refine WO.q (.fa (fa163_0 _ _)) rfl rfl ?_
  refine WO.q (.ldS (i := 0) rfl rfl rfl ti3 rfl) rfl rfl ?_
  refine WO.q (.fa (fa163_0 _ _)) rfl rfl ?_
  refine WO.q (.ldS (i := 1) rfl rfl rfl ti3 rfl) rfl rfl ?_
  refine WO.q (.r fun _ => rfl) rfl rfl ?_
  refine WO.q (.as (v := .bool _) rfl) rfl rfl ?_
  refine WO.nil ?_
  obtain rfl := Option.some.inj h
  exact WX.ret (rs_ (rs_tmp rfl rs_nil)) fun st hp => ⟨(hp.pk [] (by decide)).le hB, rfl⟩
  replace h := (if_neg (bnt k6)).symm.trans h
  refine WX.condF rfl k6 ?_
  refine WX.skip ?_
  refine WX.seq ?_
  refine WX.reg ?_
  refine WO.q (.fa (fa163_0 _ _)) rfl rfl ?_
  refine WO.q (.ldS (i := 0) rfl rfl rfl ti3 rfl) rfl rfl ?_
  refine WO.q (.fa (fa163_1 _ _)) rfl rfl ?_
  refine WO.q (.ldS (i := 0) rfl rfl rfl ti3 rfl) rfl rfl ?_
  refine WO.q (.r fun _ => rfl) rfl rfl ?_
  refine WO.q (.fa (fa163_0 _ _)) rfl rfl ?_
  refine WO.q (.ldS (i := 1) rfl rfl rfl ti3 rfl) rfl rfl ?_
  refine WO.q (.r fun _ => rfl) rfl rfl ?_
  refine WO.q (.as (v := .bool _) rfl) rfl rfl ?_
  refine WO.nil ?_
  obtain rfl := Option.some.inj h
  exact WX.ret (rs_ (rs_tmp rfl rs_nil)) fun st hp => ⟨(hp.pk [] (by decide)).le hB, rfl⟩
theorem ext_joins_ok {B0 : Kn} {L : Own} {a0 : Int × Int} {a1 : Int × Int} {r : Bool} (h : ext_joins a0 a1 = some r) : ∀ st, Hp B0 L st → ASpec Tryz.prog 144 [.agg [.int .i64 a0.1, .int .i64 a0.2], .agg [.int .i64 a1.1, .int .i64 a1.2]] st (ext_joins_P B0 L r) := by
  unfold ext_joins at h
  refine bodyA (A := []) Tryz.func144 rfl (c := bodyOf Tryz.f144) rfl Tryz.ntmps144 (lb rfl) fun n0 => ?_
  have hB := KLe.refl B0
  refine WX.seq ?_
  refine WX.reg ?_
  refine WO.md (MOp.box (cA rfl)) rfl rfl ?_
  rintro _ _ ⟨b1, rfl, rfl⟩
  refine WO.md (MOp.box (cA rfl)) rfl rfl ?_
  rintro _ _ ⟨b2, rfl, rfl⟩
  refine WO.q (.as (v := .bool _) rfl) rfl rfl ?_
  refine WO.nil ?_
  refine WX.seq ?_
  refine WX.seq ?_
  refine WX.reg ?_
  refine WO.q (.fa (fa163_0 _ _)) rfl rfl ?_
  refine WO.q (.ldS (i := 1) rfl rfl rfl ti3 rfl) rfl rfl ?_
  refine WO.q (.r fun _ => rfl) rfl rfl ?_
  refine WO.q (.mv (v := .bool _) rfl) rfl rfl ?_
  rcases bsp (decide (a0.1 = (-1))) with k3 | k3
  have q_k3 := of_decide_eq_true k3
  replace h := (if_pos q_k3).symm.trans h
  refine WO.sd (wg rfl rfl (gfn k3)) rfl ?_
  refine WO.sd (wg rfl rfl (gfn k3)) rfl ?_
  refine WO.sd (wg rfl rfl (gfn k3)) rfl ?_
  refine WO.q (.ptv (v := .bool _) rfl k3 rfl) rfl rfl ?_
  refine WO.nil ?_
  refine WX.keep [2, 3, 12] (WX.pk [1, 0] (by decide) ?_) rfl
  exact ext_joins_j1_ok h _ _ _ ⟨hB, _, _, rfl, rfl⟩
  have q_k3 := of_decide_eq_false k3
  replace h := (if_neg q_k3).symm.trans h
  refine WO.q (.fa (fa163_0 _ _)) (wg rfl rfl (gf k3)) rfl ?_
  refine WO.q (.ldS (i := 0) rfl rfl rfl ti3 rfl) (wg rfl rfl (gf k3)) rfl ?_
  refine WO.q (.r fun _ => rfl) (wg rfl rfl (gf k3)) rfl ?_
  refine WO.q (.pfv (v := .bool _) rfl k3 rfl) rfl rfl ?_
  refine WO.nil ?_
  refine WX.keep [2, 3, 12] (WX.pk [1, 0] (by decide) ?_) rfl
  exact ext_joins_j1_ok h _ _ _ ⟨hB, _, _, rfl, rfl⟩
def ext_List_Right_P (B : Kn) (L : Own) (r : Bool) : AV → St → Prop := CS B L fun v => v = .bool r
def ext_List_Right_j6_I (B0 : Kn) (x0 : List (Int × Int)) (x3 : Int) (x6 : List (Int × Int)) (x8 : Int) (x43 : Bool) (zb5 : Int × Int) : Fr → Kn → Own → Prop := fun fr B A => KLe B0 B ∧ ∃ b7 v8 v9, RSl EPIi64Ii64Q B v8 x0 ∧ RSl EPIi64Ii64Q B v9 x6 ∧ fr = [(0, v8), (3, .int .i64 x3), (5, .ptr b7 0), (6, v9), (7, .int .i64 (x6.length : Int)), (8, .int .i64 x8), (43, .bool x43)] ∧ A = [(b7, some (.c [.int .i64 zb5.1, .int .i64 zb5.2]))]
def ext_List_Right_l0_I (B0 : Kn) (x0 : List (Int × Int)) (x6 : List (Int × Int)) (x3 : Int) (x8 : Int) : Fr → Kn → Own → Prop := fun fr B A => KLe B0 B ∧ ∃ v1 v2, RSl EPIi64Ii64Q B v1 x0 ∧ RSl EPIi64Ii64Q B v2 x6 ∧ fr = [(0, v1), (3, .int .i64 x3), (6, v2), (7, .int .i64 (x6.length : Int)), (8, .int .i64 x8)] ∧ A = []
def ext_List_Right_l0_X0 (B0 : Kn) (x0 : List (Int × Int)) (x3 : Int) : Fr → Kn → Own → Prop := fun fr B A => KLe B0 B ∧ ∃ v24, RSl EPIi64Ii64Q B v24 x0 ∧ fr = [(0, v24), (3, .int .i64 x3)] ∧ A = []
theorem ext_List_Right_j6_ok {B0 : Kn} {L : Own} {n0 : Nat} {x0 : List (Int × Int)} {x3 : Int} {x6 : List (Int × Int)} {x8 : Int} {x43 : Bool} {zb5 : Int × Int} {Q : AV → St → Prop} {E : (Int × Int) ⊕ (Bool ⊕ Int) → Prop} {o : (Int × Int) ⊕ (Bool ⊕ Int)} (h : ext_List_Right_j6 x0 x3 x6 x8 x43 zb5 = some o) (hn : ∀ s, E (.inl s) → WXI Tryz.prog 56 n0 (Fin Tryz.prog Tryz.f99.results.toList n0 Q) [.lp (ct [1, 1, 0, 1, 0, 0] (bodyOf Tryz.f99)), .blk 0, .code (ct [1, 1, 1] (bodyOf Tryz.f99))] (ext_List_Right_l0_I B0 x0 x6 s.1 s.2) L) (hx0 : ∀ s, E (.inr (.inr s)) → WXI Tryz.prog 56 n0 (Fin Tryz.prog Tryz.f99.results.toList n0 Q) [.code (ct [1, 1, 1] (bodyOf Tryz.f99))] (ext_List_Right_l0_X0 B0 x0 s) L) (hr : ∀ r, E (.inr (.inl r)) → ∀ v st, ext_List_Right_P B0 L r v st → Q v st) (hE : E o) : WXI Tryz.prog 56 n0 (Fin Tryz.prog Tryz.f99.results.toList n0 Q) [.code (ct [1, 1, 0, 1, 0, 0, 1, 1, 0, 0, 1, 0, 1] (bodyOf Tryz.f99)), .code (ct [1, 1, 0, 1, 0, 0, 1, 1, 0, 0, 1, 1] (bodyOf Tryz.f99)), .blk 1, .code (ct [1, 1, 0, 1, 0, 0, 1, 1, 1] (bodyOf Tryz.f99)), .lp (ct [1, 1, 0, 1, 0, 0] (bodyOf Tryz.f99)), .blk 0, .code (ct [1, 1, 1] (bodyOf Tryz.f99))] (ext_List_Right_j6_I B0 x0 x3 x6 x8 x43 zb5) L := by
  unfold ext_List_Right_j6 at h
  rintro _ B _ ⟨hB, b7, v8, v9, h8, h9, rfl, rfl⟩
  obtain ⟨_, _, _, _, _, rfl⟩ := h8.isl
  obtain ⟨_, _, _, _, _, rfl⟩ := h9.isl
  rcases bsp x43 with k10 | k10
  replace h := (if_pos k10).symm.trans h
  refine WX.condT rfl k10 ?_
  refine WX.seq ?_
  refine WX.reg ?_
  refine WO.q (.as (v := .bool _) rfl) rfl rfl ?_
  refine WO.nil ?_
  obtain rfl := Option.some.inj h
  exact WX.ret (rs_ (rs_tmp rfl rs_nil)) fun st hp => hr _ hE _ _ ⟨(hp.pk [] (by decide)).le hB, rfl⟩
  replace h := (if_neg (bnt k10)).symm.trans h
  refine WX.condF rfl k10 ?_
  refine WX.skip ?_
  refine WX.reg ?_
  refine WO.q (.mv (v := .int _ _) rfl) rfl rfl ?_
  refine WO.q (.fa (fa163_1 _ _)) rfl rfl ?_
  refine WO.q (.ldS (i := 0) rfl rfl rfl ti3 rfl) rfl rfl ?_
  refine WO.q (.r fun _ => rfl) rfl rfl ?_
  refine WO.q (.as (v := .int _ _) rfl) rfl rfl ?_
  refine WO.nil ?_
  refine WX.pop ?_
  refine WX.reg ?_
  refine WO.q (.r fun _ => rfl) rfl rfl ?_
  refine WO.q (.mv (v := .int _ _) rfl) rfl rfl ?_
  refine WO.nil ?_
  refine WX.keepL [0, 3, 6, 7, 8] (WX.pk [] (by decide) ?_) rfl
  obtain rfl := Option.some.inj h
  exact hn _ hE _ _ _ ⟨hB, _, _, h8, h9, rfl, rfl⟩
theorem ext_List_Right_l0_s {B0 : Kn} {L : Own} {n0 : Nat} {x0 : List (Int × Int)} {x6 : List (Int × Int)} {x3 : Int} {x8 : Int} {Q : AV → St → Prop} {E : (Int × Int) ⊕ (Bool ⊕ Int) → Prop} {o : (Int × Int) ⊕ (Bool ⊕ Int)} (h : ext_List_Right_l0 x0 x6 x3 x8 = some o) (hn : ∀ s, E (.inl s) → WXI Tryz.prog 56 n0 (Fin Tryz.prog Tryz.f99.results.toList n0 Q) [.lp (ct [1, 1, 0, 1, 0, 0] (bodyOf Tryz.f99)), .blk 0, .code (ct [1, 1, 1] (bodyOf Tryz.f99))] (ext_List_Right_l0_I B0 x0 x6 s.1 s.2) L) (hx0 : ∀ s, E (.inr (.inr s)) → WXI Tryz.prog 56 n0 (Fin Tryz.prog Tryz.f99.results.toList n0 Q) [.code (ct [1, 1, 1] (bodyOf Tryz.f99))] (ext_List_Right_l0_X0 B0 x0 s) L) (hr : ∀ r, E (.inr (.inl r)) → ∀ v st, ext_List_Right_P B0 L r v st → Q v st) (hE : E o) : WXI Tryz.prog 56 n0 (Fin Tryz.prog Tryz.f99.results.toList n0 Q) [.code (ct [1, 1, 0, 1, 0, 0] (bodyOf Tryz.f99)), .lp (ct [1, 1, 0, 1, 0, 0] (bodyOf Tryz.f99)), .blk 0, .code (ct [1, 1, 1] (bodyOf Tryz.f99))] (ext_List_Right_l0_I B0 x0 x6 x3 x8) L := by
  unfold ext_List_Right_l0 at h
  rintro _ B _ ⟨hB, v1, v2, h1, h2, rfl, rfl⟩
  obtain ⟨_, _, _, _, _, rfl⟩ := h1.isl
  obtain ⟨_, _, _, _, _, rfl⟩ := h2.isl
  refine WX.seq ?_
  refine WX.reg ?_
  refine WO.q (.r fun _ => rfl) rfl rfl ?_
  refine WO.nil ?_
  refine WX.seq ?_
  rcases bsp (decide (x8 < (x6.length : Int))) with k3 | k3
  have q_k3 := of_decide_eq_true k3
  replace h := (if_pos q_k3).symm.trans h
  refine WX.condT rfl k3 ?_
  refine WX.skip ?_
  refine WX.seq ?_
  refine WX.block ?_
  refine WX.seq ?_
  refine WX.reg ?_
  refine WO.q (.mv (v := .int _ _) rfl) rfl rfl ?_
  obtain ⟨y4, hy4, h⟩ := Option.bind_eq_some_iff.1 h
  obtain ⟨b_y4, o_y4, _, i_y4, p_y4, r_y4⟩ := h2.at sl51 hy4 .i64
  obtain ⟨_, _, rfl, rfl, rfl⟩ := r_y4
  refine WO.q (.ia i_y4) rfl rfl ?_
  refine WO.q (.lpA rfl p_y4 ti163 rfl rfl) rfl rfl ?_
  refine WO.md (MOp.alloc ti163 rfl) rfl rfl ?_
  rintro _ _ ⟨b5, rfl, rfl⟩
  refine WO.q (.as (v := .int _ _) rfl) rfl rfl ?_
  refine WO.mn (MOp.storeW rfl (cA rfl) .h ti163 rfl rfl rfl) rfl ?_
  rintro _ _ rfl
  refine WO.nil ?_
  refine WX.seq ?_
  refine WX.seq ?_
  refine WX.drw (Plan.of [0, 1, 2, 3, 4, 5, 6, 7, 8, 9, 10, 11, 12, 13, 14, 15, 16, 17, 18, 19, 20, 21, 22, 23, 24, 25, 26, 27, 28, 29, 30] .nil) _ mixed (by kernel_rfl) rfl (subL (pk_sub [0])) ?_
  refine WP.q (i := 0) rfl (.fa (fa163_1 _ _)) rfl rfl rfl ?_
  refine WP.q (i := 1) rfl (.ldS (i := 0) rfl rfl rfl ti3 rfl) rfl rfl rfl ?_
  refine WP.q (i := 2) rfl (.r fun _ => rfl) rfl rfl rfl ?_
  refine WP.q (i := 3) rfl (.mv (v := .bool _) rfl) rfl rfl rfl ?_
  rcases bsp (decide (y4.2 < 1)) with k6 | k6
  have q_k6 := of_decide_eq_true k6
  replace h := (if_pos q_k6).symm.trans h
  refine WP.sk (i := 4) rfl rfl (wg rfl rfl (gfn k6)) rfl ?_
  refine WP.sk (i := 5) rfl rfl (wg rfl rfl (gfn k6)) rfl ?_
  refine WP.sk (i := 6) rfl rfl (wg rfl rfl (gfn k6)) rfl ?_
  refine WP.q (i := 7) rfl (.ptv (v := .bool _) rfl k6 rfl) rfl rfl rfl ?_
  refine WP.q (i := 8) rfl (.mv (v := .bool _) rfl) rfl rfl rfl ?_
  refine WP.sk (i := 9) rfl rfl (wg rfl rfl (gfn rfl)) rfl ?_
  refine WP.sk (i := 10) rfl rfl (wg rfl rfl (gfn rfl)) rfl ?_
  refine WP.sk (i := 11) rfl rfl (wg rfl rfl (gfn rfl)) rfl ?_
  refine WP.q (i := 12) rfl (.ptv (v := .bool _) rfl rfl rfl) rfl rfl rfl ?_
  refine WP.q (i := 13) rfl (.mv (v := .bool _) rfl) rfl rfl rfl ?_
  refine WP.sk (i := 14) rfl rfl (wg rfl rfl (gfn rfl)) rfl ?_
  refine WP.sk (i := 15) rfl rfl (wg rfl rfl (gfn rfl)) rfl ?_
  refine WP.sk (i := 16) rfl rfl (wg rfl rfl (gfn rfl)) rfl ?_
  refine WP.q (i := 17) rfl (.ptv (v := .bool _) rfl rfl rfl) rfl rfl rfl ?_
  refine WP.q (i := 18) rfl (.mv (v := .bool _) rfl) rfl rfl rfl ?_
  refine WP.sk (i := 19) rfl rfl (wg rfl rfl (gfn rfl)) rfl ?_
  refine WP.sk (i := 20) rfl rfl (wg rfl rfl (gfn rfl)) rfl ?_
  refine WP.sk (i := 21) rfl rfl (wg rfl rfl (gfn rfl)) rfl ?_
  refine WP.sk (i := 22) rfl rfl (wgu rfl rfl) rfl ?_
  refine WP.sk (i := 23) rfl rfl (wgu rfl rfl) rfl ?_
  refine WP.sk (i := 24) rfl rfl (wgu rfl rfl) rfl ?_
  refine WP.sk (i := 25) rfl rfl (wgu rfl rfl) rfl ?_
  refine WP.sk (i := 26) rfl rfl (wgu rfl rfl) rfl ?_
  refine WP.sk (i := 27) rfl rfl (wgu rfl rfl) rfl ?_
  refine WP.sd (i := 28) rfl rfl (wgu rfl rfl) rfl ?_
  refine WP.sk (i := 29) rfl rfl (wg rfl rfl (gfn rfl)) rfl ?_
  refine WP.q (i := 30) rfl (.ptv (v := .bool _) rfl rfl rfl) rfl rfl rfl ?_
  refine WP.nil ?_
  refine WX.keep [0, 3, 5, 6, 7, 8, 43] (WX.pk [0] (by decide) ?_) rfl
  exact ext_List_Right_j6_ok h hn hx0 hr hE _ _ _ ⟨hB, _, _, _, h1, h2, rfl, rfl⟩
  have q_k6 := of_decide_eq_false k6
  replace h := (if_neg q_k6).symm.trans h
  refine WP.q (i := 4) rfl (.fa (fa163_1 _ _)) rfl (wg rfl rfl (gf k6)) rfl ?_
  refine WP.q (i := 5) rfl (.ldS (i := 0) rfl rfl rfl ti3 rfl) rfl (wg rfl rfl (gf k6)) rfl ?_
  refine WP.q (i := 6) rfl (.r fun _ => rfl) rfl (wg rfl rfl (gf k6)) rfl ?_
  refine WP.q (i := 7) rfl (.pfv (v := .bool _) rfl k6 rfl) rfl rfl rfl ?_
  refine WP.q (i := 8) rfl (.mv (v := .bool _) rfl) rfl rfl rfl ?_
  rcases bsp (decide (65536 < y4.2)) with k11 | k11
  have q_k11 := of_decide_eq_true k11
  replace h := (if_pos q_k11).symm.trans h
  refine WP.sk (i := 9) rfl rfl (wg rfl rfl (gfn k11)) rfl ?_
  refine WP.sk (i := 10) rfl rfl (wg rfl rfl (gfn k11)) rfl ?_
  refine WP.sk (i := 11) rfl rfl (wg rfl rfl (gfn k11)) rfl ?_
  refine WP.q (i := 12) rfl (.ptv (v := .bool _) rfl k11 rfl) rfl rfl rfl ?_
  refine WP.q (i := 13) rfl (.mv (v := .bool _) rfl) rfl rfl rfl ?_
  refine WP.sk (i := 14) rfl rfl (wg rfl rfl (gfn rfl)) rfl ?_
  refine WP.sk (i := 15) rfl rfl (wg rfl rfl (gfn rfl)) rfl ?_
  refine WP.sk (i := 16) rfl rfl (wg rfl rfl (gfn rfl)) rfl ?_
  refine WP.q (i := 17) rfl (.ptv (v := .bool _) rfl rfl rfl) rfl rfl rfl ?_
  refine WP.q (i := 18) rfl (.mv (v := .bool _) rfl) rfl rfl rfl ?_
  refine WP.sk (i := 19) rfl rfl (wg rfl rfl (gfn rfl)) rfl ?_
  refine WP.sk (i := 20) rfl rfl (wg rfl rfl (gfn rfl)) rfl ?_
  refine WP.sk (i := 21) rfl rfl (wg rfl rfl (gfn rfl)) rfl ?_
  refine WP.sk (i := 22) rfl rfl (wgu rfl rfl) rfl ?_
  refine WP.sk (i := 23) rfl rfl (wgu rfl rfl) rfl ?_
  refine WP.sk (i := 24) rfl rfl (wgu rfl rfl) rfl ?_
  refine WP.sk (i := 25) rfl rfl (wgu rfl rfl) rfl ?_
  refine WP.sk (i := 26) rfl rfl (wgu rfl rfl) rfl ?_
  refine WP.sk (i := 27) rfl rfl (wgu rfl rfl) rfl ?_
  refine WP.sd (i := 28) rfl rfl (wgu rfl rfl) rfl ?_
  refine WP.sk (i := 29) rfl rfl (wg rfl rfl (gfn rfl)) rfl ?_
  refine WP.q (i := 30) rfl (.ptv (v := .bool _) rfl rfl rfl) rfl rfl rfl ?_
  refine WP.nil ?_
  refine WX.keep [0, 3, 5, 6, 7, 8, 43] (WX.pk [0] (by decide) ?_) rfl
  exact ext_List_Right_j6_ok h hn hx0 hr hE _ _ _ ⟨hB, _, _, _, h1, h2, rfl, rfl⟩
  have q_k11 := of_decide_eq_false k11
  replace h := (if_neg q_k11).symm.trans h
  refine WP.q (i := 9) rfl (.fa (fa163_0 _ _)) rfl (wg rfl rfl (gf k11)) rfl ?_
  refine WP.q (i := 10) rfl (.ldS (i := 0) rfl rfl rfl ti3 rfl) rfl (wg rfl rfl (gf k11)) rfl ?_
  refine WP.q (i := 11) rfl (.r fun _ => rfl) rfl (wg rfl rfl (gf k11)) rfl ?_
  refine WP.q (i := 12) rfl (.pfv (v := .bool _) rfl k11 rfl) rfl rfl rfl ?_
  refine WP.q (i := 13) rfl (.mv (v := .bool _) rfl) rfl rfl rfl ?_
  rcases bsp (decide (y4.1 < (-1))) with k12 | k12
  have q_k12 := of_decide_eq_true k12
  replace h := (if_pos q_k12).symm.trans h
  refine WP.sk (i := 14) rfl rfl (wg rfl rfl (gfn k12)) rfl ?_
  refine WP.sk (i := 15) rfl rfl (wg rfl rfl (gfn k12)) rfl ?_
  refine WP.sk (i := 16) rfl rfl (wg rfl rfl (gfn k12)) rfl ?_
  refine WP.q (i := 17) rfl (.ptv (v := .bool _) rfl k12 rfl) rfl rfl rfl ?_
  refine WP.q (i := 18) rfl (.mv (v := .bool _) rfl) rfl rfl rfl ?_
  refine WP.sk (i := 19) rfl rfl (wg rfl rfl (gfn rfl)) rfl ?_
  refine WP.sk (i := 20) rfl rfl (wg rfl rfl (gfn rfl)) rfl ?_
  refine WP.sk (i := 21) rfl rfl (wg rfl rfl (gfn rfl)) rfl ?_
  refine WP.sk (i := 22) rfl rfl (wgu rfl rfl) rfl ?_
  refine WP.sk (i := 23) rfl rfl (wgu rfl rfl) rfl ?_
  refine WP.sk (i := 24) rfl rfl (wgu rfl rfl) rfl ?_
  refine WP.sk (i := 25) rfl rfl (wgu rfl rfl) rfl ?_
  refine WP.sk (i := 26) rfl rfl (wgu rfl rfl) rfl ?_
  refine WP.sk (i := 27) rfl rfl (wgu rfl rfl) rfl ?_
  refine WP.sd (i := 28) rfl rfl (wgu rfl rfl) rfl ?_
  refine WP.sk (i := 29) rfl rfl (wg rfl rfl (gfn rfl)) rfl ?_
  refine WP.q (i := 30) rfl (.ptv (v := .bool _) rfl rfl rfl) rfl rfl rfl ?_
  refine WP.nil ?_
  refine WX.keep [0, 3, 5, 6, 7, 8, 43] (WX.pk [0] (by decide) ?_) rfl
  exact ext_List_Right_j6_ok h hn hx0 hr hE _ _ _ ⟨hB, _, _, _, h1, h2, rfl, rfl⟩
  have q_k12 := of_decide_eq_false k12
  replace h := (if_neg q_k12).symm.trans h
  refine WP.q (i := 14) rfl (.fa (fa163_0 _ _)) rfl (wg rfl rfl (gf k12)) rfl ?_
  refine WP.q (i := 15) rfl (.ldS (i := 0) rfl rfl rfl ti3 rfl) rfl (wg rfl rfl (gf k12)) rfl ?_
  refine WP.q (i := 16) rfl (.r fun _ => rfl) rfl (wg rfl rfl (gf k12)) rfl ?_
  refine WP.q (i := 17) rfl (.pfv (v := .bool _) rfl k12 rfl) rfl rfl rfl ?_
  refine WP.q (i := 18) rfl (.mv (v := .bool _) rfl) rfl rfl rfl ?_
  rcases bsp (decide (65536 < y4.1)) with k13 | k13
  have q_k13 := of_decide_eq_true k13
  replace h := (if_pos q_k13).symm.trans h
  refine WP.sk (i := 19) rfl rfl (wg rfl rfl (gfn k13)) rfl ?_
  refine WP.sk (i := 20) rfl rfl (wg rfl rfl (gfn k13)) rfl ?_
  refine WP.sk (i := 21) rfl rfl (wg rfl rfl (gfn k13)) rfl ?_
  refine WP.sk (i := 22) rfl rfl (wgu rfl rfl) rfl ?_
  refine WP.sk (i := 23) rfl rfl (wgu rfl rfl) rfl ?_
  refine WP.sk (i := 24) rfl rfl (wgu rfl rfl) rfl ?_
  refine WP.sk (i := 25) rfl rfl (wgu rfl rfl) rfl ?_
  refine WP.sk (i := 26) rfl rfl (wgu rfl rfl) rfl ?_
  refine WP.sk (i := 27) rfl rfl (wgu rfl rfl) rfl ?_
  refine WP.sd (i := 28) rfl rfl (wgu rfl rfl) rfl ?_
  refine WP.sk (i := 29) rfl rfl (wg rfl rfl (gfn k13)) rfl ?_
  refine WP.q (i := 30) rfl (.ptv (v := .bool _) rfl k13 rfl) rfl rfl rfl ?_
  refine WP.nil ?_
  refine WX.keep [0, 3, 5, 6, 7, 8, 43] (WX.pk [0] (by decide) ?_) rfl
  exact ext_List_Right_j6_ok h hn hx0 hr hE _ _ _ ⟨hB, _, _, _, h1, h2, rfl, rfl⟩
  have q_k13 := of_decide_eq_false k13
  replace h := (if_neg q_k13).symm.trans h
  refine WP.q (i := 19) rfl (.mv (v := .int _ _) rfl) rfl (wg rfl rfl (gf k13)) rfl ?_
  refine WP.q (i := 20) rfl (.r fun _ => rfl) rfl (wg rfl rfl (gf k13)) rfl ?_
  refine WP.q (i := 21) rfl (.mv (v := .bool _) rfl) rfl (wg rfl rfl (gf k13)) rfl ?_
  rcases bsp (decide (0 < x8)) with k14 | k14
  have q_k14 := of_decide_eq_true k14
  replace h := (if_pos q_k14).symm.trans h
  refine WP.q (i := 22) rfl (.mv (v := .sl _ _ _ _ _ _) rfl) rfl (wg rfl rfl (gt k14)) rfl ?_
  refine WP.q (i := 23) rfl (.mv (v := .int _ _) rfl) rfl (wg rfl rfl (gt k14)) rfl ?_
  refine WP.q (i := 24) rfl (.r fun _ => rfl) rfl (wg rfl rfl (gt k14)) rfl ?_
  obtain ⟨y15, hy15, h⟩ := Option.bind_eq_some_iff.1 h
  obtain ⟨b_y15, o_y15, _, i_y15, p_y15, r_y15⟩ := h1.at sl51 hy15 .i64
  obtain ⟨_, _, rfl, rfl, rfl⟩ := r_y15
  refine WP.q (i := 25) rfl (.ia i_y15) rfl (wg rfl rfl (gt k14)) rfl ?_
  refine WP.q (i := 26) rfl (.lpA rfl p_y15 ti163 rfl rfl) rfl (wg rfl rfl (gt k14)) rfl ?_
  refine WP.q (i := 27) rfl (.ldA (i := 0) rfl rfl rfl ti163 rfl) rfl (wg rfl rfl (gt k14)) rfl ?_
  obtain ⟨y16, hy16, h⟩ := Option.bind_eq_some_iff.1 h
  refine WP.cS (i := 28) rfl rfl rfl (ext_joins_ok hy16) rfl (wg rfl rfl (gt k14)) rfl ?_
  rintro _ rfl
  refine WP.q (i := 29) rfl (.ptv (v := .bool _) rfl k14 rfl) rfl (wg rfl rfl (gf k13)) rfl ?_
  refine WP.q (i := 30) rfl (.pfv (v := .bool _) rfl k13 rfl) rfl rfl rfl ?_
  refine WP.nil ?_
  refine WX.keep [0, 3, 5, 6, 7, 8, 43] (WX.pk [0] (by decide) ?_) rfl
  exact ext_List_Right_j6_ok h hn hx0 hr hE _ _ _ ⟨hB, _, _, _, h1, h2, rfl, rfl⟩
  have q_k14 := of_decide_eq_false k14
  replace h := (if_neg q_k14).symm.trans h
  refine WP.sk (i := 22) rfl rfl (wg rfl rfl (gtn k14)) rfl ?_
  refine WP.sk (i := 23) rfl rfl (wg rfl rfl (gtn k14)) rfl ?_
  refine WP.sk (i := 24) rfl rfl (wg rfl rfl (gtn k14)) rfl ?_
  refine WP.sk (i := 25) rfl rfl (wg rfl rfl (gtn k14)) rfl ?_
  refine WP.sk (i := 26) rfl rfl (wg rfl rfl (gtn k14)) rfl ?_
  refine WP.sk (i := 27) rfl rfl (wg rfl rfl (gtn k14)) rfl ?_
  refine WP.sd (i := 28) rfl rfl (wg rfl rfl (gtn k14)) rfl ?_
  refine WP.q (i := 29) rfl (.pfv (v := .bool _) rfl k14 rfl) rfl (wg rfl rfl (gf k13)) rfl ?_
  refine WP.q (i := 30) rfl (.pfv (v := .bool _) rfl k13 rfl) rfl rfl rfl ?_
  refine WP.nil ?_
  refine WX.keep [0, 3, 5, 6, 7, 8, 43] (WX.pk [0] (by decide) ?_) rfl
  exact ext_List_Right_j6_ok h hn hx0 hr hE _ _ _ ⟨hB, _, _, _, h1, h2, rfl, rfl⟩
  have q_k3 := of_decide_eq_false k3
  replace h := (if_neg q_k3).symm.trans h
  refine WX.condF rfl k3 ?_
  refine WX.exit rfl ?_
  refine WX.keep [0, 3] (WX.pk [] (by decide) ?_) rfl
  obtain rfl := Option.some.inj h
  exact hx0 _ hE _ _ _ ⟨hB, _, h1, rfl, rfl⟩
theorem ext_List_Right_l0_ok {B0 : Kn} {L : Own} {n0 : Nat} {x0 : List (Int × Int)} {x6 : List (Int × Int)} {x3 : Int} {x8 : Int} {Q : AV → St → Prop} {d : Nat} {e : Bool ⊕ Int} (h : iter (fun (s : Int × Int) => ext_List_Right_l0 x0 x6 s.1 s.2) d (x3, x8) = some e) (g0 : ∀ r, e = (.inl r) → ∀ v st, ext_List_Right_P B0 L r v st → Q v st) (g1 : ∀ s, e = (.inr s) → WXI Tryz.prog 56 n0 (Fin Tryz.prog Tryz.f99.results.toList n0 Q) [.code (ct [1, 1, 1] (bodyOf Tryz.f99))] (ext_List_Right_l0_X0 B0 x0 s) L) : WXI Tryz.prog 56 n0 (Fin Tryz.prog Tryz.f99.results.toList n0 Q) [.code (ct [1, 1, 0, 1, 0, 0] (bodyOf Tryz.f99)), .lp (ct [1, 1, 0, 1, 0, 0] (bodyOf Tryz.f99)), .blk 0, .code (ct [1, 1, 1] (bodyOf Tryz.f99))] (ext_List_Right_l0_I B0 x0 x6 x3 x8) L :=
  iter_ok (I := fun s => ext_List_Right_l0_I B0 x0 x6 s.1 s.2) (D := fun e => (∀ r, e = (.inl r) → ∀ v st, ext_List_Right_P B0 L r v st → Q v st) ∧ (∀ s, e = (.inr s) → WXI Tryz.prog 56 n0 (Fin Tryz.prog Tryz.f99.results.toList n0 Q) [.code (ct [1, 1, 1] (bodyOf Tryz.f99))] (ext_List_Right_l0_X0 B0 x0 s) L)) (fun E hn hx s o ho hE => ext_List_Right_l0_s (x3 := s.1) (x8 := s.2) ho hn (fun s hs => (hx _ hs).2 _ rfl) (fun r hs => (hx _ hs).1 _ rfl) hE) h ⟨g0, g1⟩
theorem ext_List_Right_ok {B0 : Kn} {L : Own} {a0 : List (Int × Int)} {v0_0 : AV} (g0_0 : RSl EPIi64Ii64Q B0 v0_0 a0) {r : Bool} (h : ext_List_Right a0 = some r) : ∀ st, Hp B0 L st → ASpec Tryz.prog 99 [v0_0] st (ext_List_Right_P B0 L r) := by
  unfold ext_List_Right at h
  refine bodyA (A := []) Tryz.func99 rfl (c := bodyOf Tryz.f99) rfl Tryz.ntmps99 (lb rfl) fun n0 => ?_
  have hB := KLe.refl B0
  obtain ⟨_, _, _, _, _, rfl⟩ := g0_0.isl
  refine WX.seq ?_
  refine WX.reg ?_
  refine WO.q (.as (v := .bool _) rfl) rfl rfl ?_
  refine WO.nil ?_
  refine WX.seq ?_
  refine WX.reg ?_
  refine WO.q (.as (v := .int _ _) rfl) rfl rfl ?_
  refine WO.nil ?_
  refine WX.seq ?_
  refine WX.seq ?_
  refine WX.reg ?_
  refine WO.q (.mv (v := .sl _ _ _ _ _ _) rfl) rfl rfl ?_
  refine WO.q (.len rfl rfl rfl (sl51.len g0_0.isl)) rfl rfl ?_
  refine WO.q (.mv (v := .int _ _) rfl) rfl rfl ?_
  refine WO.nil ?_
  refine WX.block ?_
  refine WX.loop ?_
  obtain ⟨e18, he18, h⟩ := Option.bind_eq_some_iff.1 h
  refine WX.keep [0, 3, 6, 7, 8] (WX.pk [] (by decide) ?_) rfl
  refine ext_List_Right_l0_ok he18 ?_ ?_ _ _ _ ⟨hB, _, _, g0_0, g0_0, rfl, rfl⟩
  intro r20 he_
  subst he_
  replace h := (on_l h)
  obtain rfl := Option.some.inj h
  exact fun v st hp => hp
  intro x21 he_
  subst he_
  replace h := (on_r h)
  rintro _ B _ ⟨hB, v22, h22, rfl, rfl⟩
  obtain ⟨_, _, _, _, _, rfl⟩ := h22.isl
  refine WX.seq ?_
  refine WX.reg ?_
  refine WO.q (.mv (v := .sl _ _ _ _ _ _) rfl) rfl rfl ?_
  refine WO.q (.len rfl rfl rfl (sl51.len h22.isl)) rfl rfl ?_
  refine WO.q (.r fun _ => rfl) rfl rfl ?_
  refine WO.q (.mv (v := .bool _) rfl) rfl rfl ?_
  rcases bsp (decide ((a0.length : Int) ≤ 64)) with k23 | k23
  have q_k23 := of_decide_eq_true k23
  replace h := (if_pos q_k23).symm.trans h
  refine WO.q (.mv (v := .int _ _) rfl) (wg rfl rfl (gt k23)) rfl ?_
  refine WO.q (.r fun _ => rfl) (wg rfl rfl (gt k23)) rfl ?_
  refine WO.q (.ptv (v := .bool _) rfl k23 rfl) rfl rfl ?_
  refine WO.q (.as (v := .bool _) rfl) rfl rfl ?_
  refine WO.nil ?_
  obtain rfl := Option.some.inj h
  exact WX.ret (rs_ (rs_tmp rfl rs_nil)) fun st hp => ⟨(hp.pk [] (by decide)).le hB, rfl⟩
  have q_k23 := of_decide_eq_false k23
  replace h := (if_neg q_k23).symm.trans h
  refine WO.sd (wg rfl rfl (gtn k23)) rfl ?_
  refine WO.sd (wg rfl rfl (gtn k23)) rfl ?_
  refine WO.q (.pfv (v := .bool _) rfl k23 rfl) rfl rfl ?_
  refine WO.q (.as (v := .bool _) rfl) rfl rfl ?_
  refine WO.nil ?_
  obtain rfl := Option.some.inj h
  exact WX.ret (rs_ (rs_tmp rfl rs_nil)) fun st hp => ⟨(hp.pk [] (by decide)).le hB, rfl⟩
def ext_List_Blocks_P (B : Kn) (L : Own) (r : Int) : AV → St → Prop := CS B L fun v => v = .int .i64 r
def ext_List_Blocks_l0_I (B0 : Kn) (x6 : List (Int × Int)) (x3 : Int) (x8 : Int) : Fr → Kn → Own → Prop := fun fr B A => KLe B0 B ∧ ∃ v1, RSl EPIi64Ii64Q B v1 x6 ∧ fr = [(3, .int .i64 x3), (6, v1), (7, .int .i64 (x6.length : Int)), (8, .int .i64 x8)] ∧ A = []
def ext_List_Blocks_l0_X0 (B0 : Kn) (x3 : Int) : Fr → Kn → Own → Prop := fun fr B A => KLe B0 B ∧ fr = [(3, .int .i64 x3)] ∧ A = []
theorem ext_List_Blocks_l0_s {B0 : Kn} {L : Own} {n0 : Nat} {x6 : List (Int × Int)} {x3 : Int} {x8 : Int} {Q : AV → St → Prop} {E : (Int × Int) ⊕ Int → Prop} {o : (Int × Int) ⊕ Int} (h : ext_List_Blocks_l0 x6 x3 x8 = some o) (hn : ∀ s, E (.inl s) → WXI Tryz.prog 18 n0 (Fin Tryz.prog Tryz.f100.results.toList n0 Q) [.lp (ct [1, 1, 0, 1, 0, 0] (bodyOf Tryz.f100)), .blk 0, .code (ct [1, 1, 1] (bodyOf Tryz.f100))] (ext_List_Blocks_l0_I B0 x6 s.1 s.2) L) (hx0 : ∀ s, E (.inr s) → WXI Tryz.prog 18 n0 (Fin Tryz.prog Tryz.f100.results.toList n0 Q) [.code (ct [1, 1, 1] (bodyOf Tryz.f100))] (ext_List_Blocks_l0_X0 B0 s) L) (hE : E o) : WXI Tryz.prog 18 n0 (Fin Tryz.prog Tryz.f100.results.toList n0 Q) [.code (ct [1, 1, 0, 1, 0, 0] (bodyOf Tryz.f100)), .lp (ct [1, 1, 0, 1, 0, 0] (bodyOf Tryz.f100)), .blk 0, .code (ct [1, 1, 1] (bodyOf Tryz.f100))] (ext_List_Blocks_l0_I B0 x6 x3 x8) L := by
  unfold ext_List_Blocks_l0 at h
  rintro _ B _ ⟨hB, v1, h1, rfl, rfl⟩
  obtain ⟨_, _, _, _, _, rfl⟩ := h1.isl
  refine WX.seq ?_
  refine WX.reg ?_
  refine WO.q (.r fun _ => rfl) rfl rfl ?_
  refine WO.nil ?_
  refine WX.seq ?_
  rcases bsp (decide (x8 < (x6.length : Int))) with k2 | k2
  have q_k2 := of_decide_eq_true k2
  replace h := (if_pos q_k2).symm.trans h
  refine WX.condT rfl k2 ?_
  refine WX.skip ?_
  refine WX.seq ?_
  refine WX.block ?_
  refine WX.seq ?_
  refine WX.reg ?_
  obtain ⟨y3, hy3, h⟩ := Option.bind_eq_some_iff.1 h
  obtain ⟨b_y3, o_y3, _, i_y3, p_y3, r_y3⟩ := h1.at sl51 hy3 .i64
  obtain ⟨_, _, rfl, rfl, rfl⟩ := r_y3
  refine WO.q (.ia i_y3) rfl rfl ?_
  refine WO.q (.lpA rfl p_y3 ti163 rfl rfl) rfl rfl ?_
  refine WO.md (MOp.alloc ti163 rfl) rfl rfl ?_
  rintro _ _ ⟨b4, rfl, rfl⟩
  refine WO.mn (MOp.storeW rfl (cA rfl) .h ti163 rfl rfl rfl) rfl ?_
  rintro _ _ rfl
  refine WO.nil ?_
  refine WX.reg ?_
  refine WO.q (.mv (v := .int _ _) rfl) rfl rfl ?_
  refine WO.q (.fa (fa163_1 _ _)) rfl rfl ?_
  refine WO.q (.ldS (i := 0) rfl rfl rfl ti3 rfl) rfl rfl ?_
  refine WO.q (.r fun _ => rfl) rfl rfl ?_
  refine WO.q (.as (v := .int _ _) rfl) rfl rfl ?_
  refine WO.nil ?_
  refine WX.pop ?_
  refine WX.reg ?_
  refine WO.q (.r fun _ => rfl) rfl rfl ?_
  refine WO.q (.mv (v := .int _ _) rfl) rfl rfl ?_
  refine WO.nil ?_
  refine WX.keepL [3, 6, 7, 8] (WX.pk [] (by decide) ?_) rfl
  obtain rfl := Option.some.inj h
  exact hn _ hE _ _ _ ⟨hB, _, h1, rfl, rfl⟩
  have q_k2 := of_decide_eq_false k2
  replace h := (if_neg q_k2).symm.trans h
  refine WX.condF rfl k2 ?_
  refine WX.exit rfl ?_
  refine WX.keep [3] (WX.pk [] (by decide) ?_) rfl
  obtain rfl := Option.some.inj h
  exact hx0 _ hE _ _ _ ⟨hB, rfl, rfl⟩
theorem ext_List_Blocks_l0_ok {B0 : Kn} {L : Own} {n0 : Nat} {x6 : List (Int × Int)} {x3 : Int} {x8 : Int} {Q : AV → St → Prop} {d : Nat} {e : Int} (h : iter (fun (s : Int × Int) => ext_List_Blocks_l0 x6 s.1 s.2) d (x3, x8) = some e) (g0 : ∀ s, e = s → WXI Tryz.prog 18 n0 (Fin Tryz.prog Tryz.f100.results.toList n0 Q) [.code (ct [1, 1, 1] (bodyOf Tryz.f100))] (ext_List_Blocks_l0_X0 B0 s) L) : WXI Tryz.prog 18 n0 (Fin Tryz.prog Tryz.f100.results.toList n0 Q) [.code (ct [1, 1, 0, 1, 0, 0] (bodyOf Tryz.f100)), .lp (ct [1, 1, 0, 1, 0, 0] (bodyOf Tryz.f100)), .blk 0, .code (ct [1, 1, 1] (bodyOf Tryz.f100))] (ext_List_Blocks_l0_I B0 x6 x3 x8) L :=
  iter_ok (I := fun s => ext_List_Blocks_l0_I B0 x6 s.1 s.2) (D := fun e => (∀ s, e = s → WXI Tryz.prog 18 n0 (Fin Tryz.prog Tryz.f100.results.toList n0 Q) [.code (ct [1, 1, 1] (bodyOf Tryz.f100))] (ext_List_Blocks_l0_X0 B0 s) L)) (fun E hn hx s o ho hE => ext_List_Blocks_l0_s (x3 := s.1) (x8 := s.2) ho hn (fun s hs => (hx _ hs) _ rfl)  hE) h g0
theorem ext_List_Blocks_ok {B0 : Kn} {L : Own} {a0 : List (Int × Int)} {v0_0 : AV} (g0_0 : RSl EPIi64Ii64Q B0 v0_0 a0) {r : Int} (h : ext_List_Blocks a0 = some r) : ∀ st, Hp B0 L st → ASpec Tryz.prog 100 [v0_0] st (ext_List_Blocks_P B0 L r) := by
  unfold ext_List_Blocks at h
  refine bodyA (A := []) Tryz.func100 rfl (c := bodyOf Tryz.f100) rfl Tryz.ntmps100 (lb rfl) fun n0 => ?_
  have hB := KLe.refl B0
  obtain ⟨_, _, _, _, _, rfl⟩ := g0_0.isl
  refine WX.seq ?_
  refine WX.reg ?_
  refine WO.q (.as (v := .int _ _) rfl) rfl rfl ?_
  refine WO.nil ?_
  refine WX.seq ?_
  refine WX.reg ?_
  refine WO.q (.as (v := .int _ _) rfl) rfl rfl ?_
  refine WO.nil ?_
  refine WX.seq ?_
  refine WX.seq ?_
  refine WX.reg ?_
  refine WO.q (.mv (v := .sl _ _ _ _ _ _) rfl) rfl rfl ?_
  refine WO.q (.len rfl rfl rfl (sl51.len g0_0.isl)) rfl rfl ?_
  refine WO.q (.mv (v := .int _ _) rfl) rfl rfl ?_
  refine WO.nil ?_
  refine WX.block ?_
  refine WX.loop ?_
  obtain ⟨e5, he5, h⟩ := Option.bind_eq_some_iff.1 h
  refine WX.keep [3, 6, 7, 8] (WX.pk [] (by decide) ?_) rfl
  refine ext_List_Blocks_l0_ok he5 ?_ _ _ _ ⟨hB, _, g0_0, rfl, rfl⟩
  intro s6 he_
  subst he_
  replace h := h
  rintro _ B _ ⟨hB, rfl, rfl⟩
  refine WX.seq ?_
  refine WX.reg ?_
  refine WO.q (.mv (v := .int _ _) rfl) rfl rfl ?_
  refine WO.q (.as (v := .int _ _) rfl) rfl rfl ?_
  refine WO.nil ?_
  obtain rfl := Option.some.inj h
  exact WX.ret (rs_ (rs_tmp rfl rs_nil)) fun st hp => ⟨(hp.pk [] (by decide)).le hB, rfl⟩
def ext_part_P (B : Kn) (L : Own) (r : (Int × Int)) : AV → St → Prop := CS B L fun v => v = .agg [.int .i64 r.1, .int .i64 r.2]
def ext_part_j2_I (B0 : Kn) (x1 : Int) (zb2 : Int × Int) (zb4 : Int × Int) : Fr → Kn → Own → Prop := fun fr B A => KLe B0 B ∧ ∃ b4 b5, fr = [(1, .int .i64 x1), (2, .ptr b4 0), (4, .ptr b5 0)] ∧ A = [(b4, some (.c [.int .i64 zb2.1, .int .i64 zb2.2])), (b5, some (.c [.int .i64 zb4.1, .int .i64 zb4.2]))]
theorem ext_part_j2_ok {B0 : Kn} {L : Own} {n0 : Nat} {x1 : Int} {zb2 : Int × Int} {zb4 : Int × Int} {r : (Int × Int)} (h : ext_part_j2 x1 zb2 zb4 = some r) : WXI Tryz.prog 19 n0 (Fin Tryz.prog Tryz.f145.results.toList n0 (ext_part_P B0 L r)) [.code (ct [1, 1] (bodyOf Tryz.f145))] (ext_part_j2_I B0 x1 zb2 zb4) L := by
  unfold ext_part_j2 at h
  rintro _ B _ ⟨hB, b4, b5, rfl, rfl⟩
  refine WX.seq ?_
  refine WX.reg ?_
  refine WO.q (.fa (fa163_1 _ _)) rfl rfl ?_
  refine WO.q (.ldS (i := 0) rfl rfl rfl ti3 rfl) rfl rfl ?_
  refine WO.q (.mv (v := .int _ _) rfl) rfl rfl ?_
  refine WO.q (.r fun _ => rfl) rfl rfl ?_
  refine WO.q (.fa (fa163_1 _ _)) rfl rfl ?_
  refine WO.mn (MOp.store (cs' := [.int .i64 zb2.1, .int .i64 (wi64 (zb2.2 - x1))]) rfl (cI rfl) .h ti3 rfl rfl (lb rfl) rfl) rfl ?_
  rintro _ _ rfl
  refine WO.nil ?_
  refine WX.seq ?_
  refine WX.reg ?_
  refine WO.q (.ldA (i := 0) rfl rfl rfl ti163 rfl) rfl rfl ?_
  refine WO.mn (MOp.storeW rfl (cA rfl) (.t .h) ti163 rfl rfl rfl) rfl ?_
  rintro _ _ rfl
  refine WO.nil ?_
  obtain rfl := Option.some.inj h
  exact WX.ret (rs_ (rs_cell (.ldA (i := 1) rfl rfl rfl ti163 rfl) rs_nil)) fun st hp => ⟨(hp.pk [] (by decide)).le hB, rfl⟩
theorem ext_part_ok {B0 : Kn} {L : Own} {a0 : Int × Int} {a1 : Int} {r : (Int × Int)} (h : ext_part a0 a1 = some r) : ∀ st, Hp B0 L st → ASpec Tryz.prog 145 [.agg [.int .i64 a0.1, .int .i64 a0.2], .int .i64 a1] st (ext_part_P B0 L r) := by
  unfold ext_part at h
  refine bodyA (A := []) Tryz.func145 rfl (c := bodyOf Tryz.f145) rfl Tryz.ntmps145 (lb rfl) fun n0 => ?_
  have hB := KLe.refl B0
  refine WX.seq ?_
  refine WX.reg ?_
  refine WO.md (MOp.box (cA rfl)) rfl rfl ?_
  rintro _ _ ⟨b1, rfl, rfl⟩
  refine WO.md (MOp.alloc ti163 rfl) rfl rfl ?_
  rintro _ _ ⟨b2, rfl, rfl⟩
  refine WO.nil ?_
  refine WX.seq ?_
  refine WX.seq ?_
  refine WX.reg ?_
  refine WO.q (.fa (fa163_0 _ _)) rfl rfl ?_
  refine WO.q (.ldS (i := 1) rfl rfl rfl ti3 rfl) rfl rfl ?_
  refine WO.q (.r fun _ => rfl) rfl rfl ?_
  refine WO.nil ?_
  rcases bsp (decide (a0.1 ≠ (-1))) with k3 | k3
  have q_k3 := of_decide_eq_true k3
  replace h := (if_pos q_k3).symm.trans h
  refine WX.condT rfl k3 ?_
  refine WX.reg ?_
  refine WO.q (.fa (fa163_0 _ _)) rfl rfl ?_
  refine WO.q (.ldS (i := 1) rfl rfl rfl ti3 rfl) rfl rfl ?_
  refine WO.q (.mv (v := .int _ _) rfl) rfl rfl ?_
  refine WO.q (.r fun _ => rfl) rfl rfl ?_
  refine WO.q (.fa (fa163_0 _ _)) rfl rfl ?_
  refine WO.mn (MOp.store (cs' := [.int .i64 (wi64 (a0.1 + a1)), .int .i64 a0.2]) rfl (cI rfl) (.t .h) ti3 rfl rfl (lb rfl) rfl) rfl ?_
  rintro _ _ rfl
  refine WO.nil ?_
  refine WX.keep [1, 2, 4] (WX.pk [1, 0] (by decide) ?_) rfl
  exact ext_part_j2_ok h _ _ _ ⟨hB, _, _, rfl, rfl⟩
  have q_k3 := of_decide_eq_false k3
  replace h := (if_neg q_k3).symm.trans h
  refine WX.condF rfl k3 ?_
  refine WX.skip ?_
  refine WX.keep [1, 2, 4] (WX.pk [1, 0] (by decide) ?_) rfl
  exact ext_part_j2_ok h _ _ _ ⟨hB, _, _, rfl, rfl⟩
def ext_List_split_P (B : Kn) (L : Own) (r : (List (Int × Int)) × (List (Int × Int))) : AV → St → Prop := C2 B L fun B' v e0 e1 => ∃ w0 b0 n0 c0 w1 b1 n1 c1, v = .tup [w0, w1] ∧ e0 = oe b0 n0 c0 ∧ OSl EPIi64Ii64Q B' w0 b0 n0 c0 r.1 ∧ e1 = oe b1 n1 c1 ∧ OSl EPIi64Ii64Q B' w1 b1 n1 c1 r.2
def ext_List_split_l0_I (B0 : Kn) (x0 : List (Int × Int)) (x10 : List (Int × Int)) (x1 : Int) (x12 : Int) : Fr → Kn → Own → Prop := fun fr B A => KLe B0 B ∧ ∃ v1 v2, RSl EPIi64Ii64Q B v1 x0 ∧ RSl EPIi64Ii64Q B v2 x10 ∧ fr = [(0, v1), (1, .int .i64 x1), (10, v2), (11, .int .i64 (x10.length : Int)), (12, .int .i64 x12)] ∧ A = []
def ext_List_split_l0_X0 (B0 : Kn) (x0 : List (Int × Int)) : Fr → Kn → Own → Prop := fun fr B A => KLe B0 B ∧ ∃ v47, RSl EPIi64Ii64Q B v47 x0 ∧ fr = [(0, v47)] ∧ A = []
theorem ext_List_split_l0_s {B0 : Kn} {L : Own} {n0 : Nat} {x0 : List (Int × Int)} {x10 : List (Int × Int)} {x1 : Int} {x12 : Int} {Q : AV → St → Prop} {E : (Int × Int) ⊕ (((List (Int × Int)) × (List (Int × Int))) ⊕ Unit) → Prop} {o : (Int × Int) ⊕ (((List (Int × Int)) × (List (Int × Int))) ⊕ Unit)} (h : ext_List_split_l0 x0 x10 x1 x12 = some o) (hn : ∀ s, E (.inl s) → WXI Tryz.prog 52 n0 (Fin Tryz.prog Tryz.f101.results.toList n0 Q) [.lp (ct [1, 0, 1, 0, 0] (bodyOf Tryz.f101)), .blk 0, .code (ct [1, 1] (bodyOf Tryz.f101))] (ext_List_split_l0_I B0 x0 x10 s.1 s.2) L) (hx0 : ∀ s, E (.inr (.inr s)) → WXI Tryz.prog 52 n0 (Fin Tryz.prog Tryz.f101.results.toList n0 Q) [.code (ct [1, 1] (bodyOf Tryz.f101))] (ext_List_split_l0_X0 B0 x0) L) (hr : ∀ r, E (.inr (.inl r)) → ∀ v st, ext_List_split_P B0 L r v st → Q v st) (hE : E o) : WXI Tryz.prog 52 n0 (Fin Tryz.prog Tryz.f101.results.toList n0 Q) [.code (ct [1, 0, 1, 0, 0] (bodyOf Tryz.f101)), .lp (ct [1, 0, 1, 0, 0] (bodyOf Tryz.f101)), .blk 0, .code (ct [1, 1] (bodyOf Tryz.f101))] (ext_List_split_l0_I B0 x0 x10 x1 x12) L := by
  unfold ext_List_split_l0 at h
  rintro _ B _ ⟨hB, v1, v2, h1, h2, rfl, rfl⟩
  obtain ⟨_, _, _, _, _, rfl⟩ := h1.isl
  obtain ⟨_, _, _, _, _, rfl⟩ := h2.isl
  refine WX.seq ?_
  refine WX.reg ?_
  refine WO.q (.r fun _ => rfl) rfl rfl ?_
  refine WO.nil ?_
  refine WX.seq ?_
  rcases bsp (decide (x12 < (x10.length : Int))) with k3 | k3
  have q_k3 := of_decide_eq_true k3
  replace h := (if_pos q_k3).symm.trans h
  refine WX.condT rfl k3 ?_
  refine WX.skip ?_
  refine WX.seq ?_
  refine WX.block ?_
  refine WX.seq ?_
  refine WX.reg ?_
  refine WO.q (.mv (v := .int _ _) rfl) rfl rfl ?_
  obtain ⟨y4, hy4, h⟩ := Option.bind_eq_some_iff.1 h
  obtain ⟨b_y4, o_y4, _, i_y4, p_y4, r_y4⟩ := h2.at sl51 hy4 .i64
  obtain ⟨_, _, rfl, rfl, rfl⟩ := r_y4
  refine WO.q (.ia i_y4) rfl rfl ?_
  refine WO.q (.lpA rfl p_y4 ti163 rfl rfl) rfl rfl ?_
  refine WO.md (MOp.alloc ti163 rfl) rfl rfl ?_
  rintro _ _ ⟨b5, rfl, rfl⟩
  refine WO.q (.as (v := .int _ _) rfl) rfl rfl ?_
  refine WO.mn (MOp.storeW rfl (cA rfl) .h ti163 rfl rfl rfl) rfl ?_
  rintro _ _ rfl
  refine WO.nil ?_
  refine WX.seq ?_
  refine WX.seq ?_
  refine WX.reg ?_
  refine WO.q (.mv (v := .int _ _) rfl) rfl rfl ?_
  refine WO.q (.fa (fa163_1 _ _)) rfl rfl ?_
  refine WO.q (.ldS (i := 0) rfl rfl rfl ti3 rfl) rfl rfl ?_
  refine WO.q (.r fun _ => rfl) rfl rfl ?_
  refine WO.nil ?_
  rcases bsp (decide (y4.2 ≤ x1)) with k6 | k6
  have q_k6 := of_decide_eq_true k6
  replace h := (if_pos q_k6).symm.trans h
  refine WX.condT rfl k6 ?_
  refine WX.seq ?_
  refine WX.reg ?_
  refine WO.q (.mv (v := .int _ _) rfl) rfl rfl ?_
  refine WO.q (.fa (fa163_1 _ _)) rfl rfl ?_
  refine WO.q (.ldS (i := 0) rfl rfl rfl ti3 rfl) rfl rfl ?_
  refine WO.q (.r fun _ => rfl) rfl rfl ?_
  refine WO.q (.as (v := .int _ _) rfl) rfl rfl ?_
  refine WO.nil ?_
  refine WX.exit rfl ?_
  refine WX.reg ?_
  refine WO.q (.r fun _ => rfl) rfl rfl ?_
  refine WO.q (.mv (v := .int _ _) rfl) rfl rfl ?_
  refine WO.nil ?_
  refine WX.keepL [0, 1, 10, 11, 12] (WX.pk [] (by decide) ?_) rfl
  obtain rfl := Option.some.inj h
  exact hn _ hE _ _ _ ⟨hB, _, _, h1, h2, rfl, rfl⟩
  have q_k6 := of_decide_eq_false k6
  replace h := (if_neg q_k6).symm.trans h
  refine WX.condF rfl k6 ?_
  refine WX.skip ?_
  refine WX.seq ?_
  refine WX.drw (Plan.of [0, 1, 2, 4, 5, 6, 3, 7, 8, 9] .nil) _ mixed (by kernel_rfl) rfl (subL (pk_sub [0])) ?_
  refine WP.q (i := 0) rfl (.mv (v := .sl _ _ _ _ _ _) rfl) rfl rfl rfl ?_
  refine WP.q (i := 1) rfl (.mv (v := .int _ _) rfl) rfl rfl rfl ?_
  obtain ⟨y7, hy7, h⟩ := Option.bind_eq_some_iff.1 h
  obtain ⟨v_y7, e_y7, g_y7⟩ := h1.cut sl51 hy7 (lo := none) (hi := some (.int .i64 x12)) bnd_none (bnd_int (Int.le_trans (cutL_some hy7).1.1 (cutL_some hy7).1.2.1))
  obtain ⟨_, _, _, _, _, rfl⟩ := g_y7.isl
  refine WP.q (i := 2) rfl (.sl e_y7) rfl rfl rfl ?_
  refine WP.q (i := 4) rfl (.mv (v := .sl _ _ _ _ _ _) rfl) rfl rfl rfl ?_
  refine WP.q (i := 5) rfl (.mv (v := .int _ _) rfl) rfl rfl rfl ?_
  obtain ⟨y8, hy8, h⟩ := Option.bind_eq_some_iff.1 h
  obtain ⟨v_y8, e_y8, g_y8⟩ := h1.cut sl51 hy8 (lo := some (.int .i64 x12)) (hi := none) (bnd_int (cutL_some hy8).1.1) rfl
  obtain ⟨_, _, _, _, _, rfl⟩ := g_y8.isl
  refine WP.q (i := 6) rfl (.sl e_y8) rfl rfl rfl ?_
  obtain ⟨y9, hy9, h⟩ := Option.bind_eq_some_iff.1 h
  refine WP.c1 (i := 3) rfl rfl rfl (slices_Clone_ext_List_alloc_Extent_ok g_y7 hy9) rfl rfl rfl ?_
  rintro _ B _ hK ⟨v10, b11, n12, c13, rfl, rfl, h14⟩
  obtain ⟨_, _, _, _, _, rfl⟩ := h14.isl
  replace h1 := h1.up hK
  replace h2 := h2.up hK
  replace g_y7 := g_y7.up hK
  replace g_y8 := g_y8.up hK
  replace hB := hB.trans hK
  obtain ⟨y15, hy15, h⟩ := Option.bind_eq_some_iff.1 h
  refine WP.c1 (i := 7) rfl rfl rfl (slices_Clone_ext_List_alloc_Extent_ok g_y8 hy15) rfl rfl rfl ?_
  rintro _ B _ hK ⟨v16, b17, n18, c19, rfl, rfl, h20⟩
  obtain ⟨_, _, _, _, _, rfl⟩ := h20.isl
  replace h1 := h1.up hK
  replace h2 := h2.up hK
  replace g_y7 := g_y7.up hK
  replace g_y8 := g_y8.up hK
  replace h14 := h14.up hK
  replace hB := hB.trans hK
  refine WP.q (i := 8) rfl (.as (v := .sl _ _ _ _ _ _) rfl) rfl rfl rfl ?_
  refine WP.q (i := 9) rfl (.as (v := .sl _ _ _ _ _ _) rfl) rfl rfl rfl ?_
  refine WP.nil ?_
  refine WX.seq ?_
  refine WX.seq ?_
  refine WX.reg ?_
  refine WO.q (.mv (v := .int _ _) rfl) rfl rfl ?_
  refine WO.q (.r fun _ => rfl) rfl rfl ?_
  refine WO.nil ?_
  rcases bsp (decide (0 < x1)) with k21 | k21
  have q_k21 := of_decide_eq_true k21
  replace h := (if_pos q_k21).symm.trans h
  refine WX.condT rfl k21 ?_
  refine WX.seq ?_
  refine WX.reg ?_
  refine WO.q (.mv (v := .sl _ _ _ _ _ _) rfl) rfl rfl ?_
  refine WO.q (.fa (fa163_0 _ _)) rfl rfl ?_
  refine WO.q (.ldS (i := 2) rfl rfl rfl ti3 rfl) rfl rfl ?_
  refine WO.q (.mv (v := .int _ _) rfl) rfl rfl ?_
  refine WO.q (.bd (bd163_0_1 (cI rfl) (cI rfl))) rfl rfl ?_
  refine WO.md (MOp.bs (l := ([(y4.1, x1)] : List (Int × Int))) sl51 (RL.cons (Rp Ri Ri) RL.nil) (lb rfl) rfl rfl) rfl rfl ?_
  rintro v24 _ ⟨b22, o23, rfl⟩
  obtain ⟨_, _, _, _, _, rfl⟩ := o23.isl
  obtain ⟨y26, hy26, h⟩ := Option.bind_eq_some_iff.1 h
  refine WO.md (MOp.app rfl rfl rfl sl51 h14 (Src.o (i := 0) sl51 o23 rfl) hy26 rfl rfl (fun _ => (.t (.t .h)))) rfl rfl ?_
  rintro v30 _ ⟨b27, n28, o29, rfl⟩
  obtain ⟨_, _, _, _, _, rfl⟩ := o29.isl
  refine WO.q (.as (v := .sl _ _ _ _ _ _) rfl) rfl rfl ?_
  refine WO.nil ?_
  refine WX.reg ?_
  refine WO.q (.mv (v := .sl _ _ _ _ _ _) rfl) rfl rfl ?_
  refine WO.q (.ldA (i := 3) rfl rfl rfl ti163 rfl) rfl rfl ?_
  refine WO.q (.mv (v := .int _ _) rfl) rfl rfl ?_
  obtain ⟨y31, hy31, h⟩ := Option.bind_eq_some_iff.1 h
  refine WO.cS rfl rfl (ext_part_ok hy31) rfl rfl rfl ?_
  rintro _ rfl
  obtain ⟨y32, hy32, h⟩ := Option.bind_eq_some_iff.1 h
  obtain rfl := h20.nonnil hy32
  obtain ⟨_, i_y32, l_y32, r_y32⟩ := h20.at sl51 hy32 .i64
  obtain ⟨_, _, rfl, rfl, rfl⟩ := r_y32
  refine WO.q (.ia i_y32) rfl rfl ?_
  refine WO.mn (MOp.ostW (x' := y31) rfl (cA rfl) (fun _ => (.t .h)) ti163 rfl h20 hy32 (Rp Ri Ri)) rfl ?_
  rintro _ _ ⟨c34, o33, rfl⟩
  refine WO.nil ?_
  refine WX.seq ?_
  refine WX.reg ?_
  refine WO.q (.mv (v := .sl _ _ _ _ _ _) rfl) rfl rfl ?_
  refine WO.q (.mv (v := .sl _ _ _ _ _ _) rfl) rfl rfl ?_
  refine WO.q (.as (v := .sl _ _ _ _ _ _) rfl) rfl rfl ?_
  refine WO.q (.as (v := .sl _ _ _ _ _ _) rfl) rfl rfl ?_
  refine WO.nil ?_
  obtain rfl := Option.some.inj h
  exact WX.ret (rs_ (rs_tmp rfl (rs_tmp rfl rs_nil))) fun st hp => hr _ hE _ _ ⟨_, _, _, hB, (hp.pk [2, 1] (by decide)), _, _, n28, _, _, _, false, _, rfl, rfl, o29, rfl, o33⟩
  have q_k21 := of_decide_eq_false k21
  replace h := (if_neg q_k21).symm.trans h
  refine WX.condF rfl k21 ?_
  refine WX.skip ?_
  refine WX.seq ?_
  refine WX.reg ?_
  refine WO.q (.mv (v := .sl _ _ _ _ _ _) rfl) rfl rfl ?_
  refine WO.q (.mv (v := .sl _ _ _ _ _ _) rfl) rfl rfl ?_
  refine WO.q (.as (v := .sl _ _ _ _ _ _) rfl) rfl rfl ?_
  refine WO.q (.as (v := .sl _ _ _ _ _ _) rfl) rfl rfl ?_
  refine WO.nil ?_
  obtain rfl := Option.some.inj h
  exact WX.ret (rs_ (rs_tmp rfl (rs_tmp rfl rs_nil))) fun st hp => hr _ hE _ _ ⟨_, _, _, hB, (hp.pk [1, 0] (by decide)), _, _, n12, _, _, _, n18, _, rfl, rfl, h14, rfl, h20⟩
  have q_k3 := of_decide_eq_false k3
  replace h := (if_neg q_k3).symm.trans h
  refine WX.condF rfl k3 ?_
  refine WX.exit rfl ?_
  refine WX.keep [0] (WX.pk [] (by decide) ?_) rfl
  obtain rfl := Option.some.inj h
  exact hx0 _ hE _ _ _ ⟨hB, _, h1, rfl, rfl⟩
theorem ext_List_split_l0_ok {B0 : Kn} {L : Own} {n0 : Nat} {x0 : List (Int × Int)} {x10 : List (Int × Int)} {x1 : Int} {x12 : Int} {Q : AV → St → Prop} {d : Nat} {e : ((List (Int × Int)) × (List (Int × Int))) ⊕ Unit} (h : iter (fun (s : Int × Int) => ext_List_split_l0 x0 x10 s.1 s.2) d (x1, x12) = some e) (g0 : ∀ r, e = (.inl r) → ∀ v st, ext_List_split_P B0 L r v st → Q v st) (g1 : ∀ s, e = (.inr s) → WXI Tryz.prog 52 n0 (Fin Tryz.prog Tryz.f101.results.toList n0 Q) [.code (ct [1, 1] (bodyOf Tryz.f101))] (ext_List_split_l0_X0 B0 x0) L) : WXI Tryz.prog 52 n0 (Fin Tryz.prog Tryz.f101.results.toList n0 Q) [.code (ct [1, 0, 1, 0, 0] (bodyOf Tryz.f101)), .lp (ct [1, 0, 1, 0, 0] (bodyOf Tryz.f101)), .blk 0, .code (ct [1, 1] (bodyOf Tryz.f101))] (ext_List_split_l0_I B0 x0 x10 x1 x12) L :=
  iter_ok (I := fun s => ext_List_split_l0_I B0 x0 x10 s.1 s.2) (D := fun e => (∀ r, e = (.inl r) → ∀ v st, ext_List_split_P B0 L r v st → Q v st) ∧ (∀ s, e = (.inr s) → WXI Tryz.prog 52 n0 (Fin Tryz.prog Tryz.f101.results.toList n0 Q) [.code (ct [1, 1] (bodyOf Tryz.f101))] (ext_List_split_l0_X0 B0 x0) L)) (fun E hn hx s o ho hE => ext_List_split_l0_s (x1 := s.1) (x12 := s.2) ho hn (fun s hs => (hx _ hs).2 _ rfl) (fun r hs => (hx _ hs).1 _ rfl) hE) h ⟨g0, g1⟩
theorem ext_List_split_ok {B0 : Kn} {L : Own} {a0 : List (Int × Int)} {a1 : Int} {v0_0 : AV} (g0_0 : RSl EPIi64Ii64Q B0 v0_0 a0) {r : (List (Int × Int)) × (List (Int × Int))} (h : ext_List_split a0 a1 = some r) : ∀ st, Hp B0 L st → ASpec Tryz.prog 101 [v0_0, .int .i64 a1] st (ext_List_split_P B0 L r) := by
  unfold ext_List_split at h
  refine bodyA (A := []) Tryz.func101 rfl (c := bodyOf Tryz.f101) rfl Tryz.ntmps101 (lb rfl) fun n0 => ?_
  have hB := KLe.refl B0
  obtain ⟨_, _, _, _, _, rfl⟩ := g0_0.isl
  refine WX.seq ?_
  refine WX.reg ?_
  refine WO.q (.as (v := .sl _ _ _ _ _ _) rfl) rfl rfl ?_
  refine WO.q (.as (v := .sl _ _ _ _ _ _) rfl) rfl rfl ?_
  refine WO.nil ?_
  refine WX.seq ?_
  refine WX.seq ?_
  refine WX.reg ?_
  refine WO.q (.mv (v := .sl _ _ _ _ _ _) rfl) rfl rfl ?_
  refine WO.q (.len rfl rfl rfl (sl51.len g0_0.isl)) rfl rfl ?_
  refine WO.q (.mv (v := .int _ _) rfl) rfl rfl ?_
  refine WO.nil ?_
  refine WX.block ?_
  refine WX.loop ?_
  obtain ⟨e36, he36, h⟩ := Option.bind_eq_some_iff.1 h
  refine WX.keep [0, 1, 10, 11, 12] (WX.pk [] (by decide) ?_) rfl
  refine ext_List_split_l0_ok he36 ?_ ?_ _ _ _ ⟨hB, _, _, g0_0, g0_0, rfl, rfl⟩
  intro r38 he_
  subst he_
  replace h := (on_l h)
  obtain rfl := Option.some.inj h
  exact fun v st hp => hp
  intro x39 he_
  subst he_
  replace h := (on_r h)
  rintro _ B _ ⟨hB, v40, h40, rfl, rfl⟩
  obtain ⟨_, _, _, _, _, rfl⟩ := h40.isl
  refine WX.seq ?_
  refine WX.reg ?_
  refine WO.q (.mv (v := .sl _ _ _ _ _ _) rfl) rfl rfl ?_
  obtain ⟨y41, hy41, h⟩ := Option.bind_eq_some_iff.1 h
  refine WO.c1 rfl rfl (slices_Clone_ext_List_alloc_Extent_ok h40 hy41) rfl rfl rfl ?_
  rintro _ B _ hK ⟨v42, b43, n44, c45, rfl, rfl, h46⟩
  obtain ⟨_, _, _, _, _, rfl⟩ := h46.isl
  replace h40 := h40.up hK
  replace hB := hB.trans hK
  refine WO.q (.as (v := .sl _ _ _ _ _ _) rfl) rfl rfl ?_
  refine WO.q (.as (v := .sl _ _ _ _ _ _) rfl) rfl rfl ?_
  refine WO.nil ?_
  obtain rfl := Option.some.inj h
  exact WX.ret (rs_ (rs_tmp rfl (rs_tmp rfl rs_nil))) fun st hp => ⟨_, _, _, hB, ((hp.pk [0] (by decide)).skip 0).swap2, _, _, n44, _, _, 0, true, [], rfl, rfl, h46, rfl, OSl.none _ _⟩
def slices_IndexFunc_ext_List_alloc_Extent_P (B : Kn) (L : Own) (r : Int) : AV → St → Prop := CS B L fun v => v = .int .i64 r
def slices_IndexFunc_ext_List_alloc_Extent_l0_I (B0 : Kn) (fg1 : Nat) (fc1 : List AV) (x0 : List (Int × Int)) (x8 : Int) : Fr → Kn → Own → Prop := fun fr B A => KLe B0 B ∧ ∃ v1, RSl EPIi64Ii64Q B v1 x0 ∧ fr = [(0, v1), (1, .fn (.func fg1) [] fc1), (7, .int .i64 (x0.length : Int)), (8, .int .i64 x8)] ∧ A = []
def slices_IndexFunc_ext_List_alloc_Extent_l0_X0 (B0 : Kn) (fg1 : Nat) (fc1 : List AV) : Fr → Kn → Own → Prop := fun fr B A => KLe B0 B ∧ fr = [] ∧ A = []
theorem slices_IndexFunc_ext_List_alloc_Extent_l0_s {B0 : Kn} {L : Own} {n0 : Nat} {fg1 : Nat} {fc1 : List AV} {a1 : (Int × Int) → Option Bool} {x0 : List (Int × Int)} {x8 : Int} {Q : AV → St → Prop} {E : Int ⊕ (Int ⊕ Unit) → Prop} {o : Int ⊕ (Int ⊕ Unit)} (h : slices_IndexFunc_ext_List_alloc_Extent_l0 a1 x0 x8 = some o) (hf1 : ∀ (x0 : Int × Int) (r : Bool), a1 x0 = some r → ∀ B, KLe B0 B → ∀ Lx st, Hp B (Lx ++ L) st → ASpec Tryz.prog fg1 ([.agg [.int .i64 x0.1, .int .i64 x0.2]] ++ fc1) st (CS B (Lx ++ L) fun v => v = .bool r)) (hn : ∀ s, E (.inl s) → WXI Tryz.prog 19 n0 (Fin Tryz.prog Tryz.f146.results.toList n0 Q) [.lp (ct [1, 0, 1, 0, 0] (bodyOf Tryz.f146)), .blk 0, .code (ct [1, 1] (bodyOf Tryz.f146))] (slices_IndexFunc_ext_List_alloc_Extent_l0_I B0 fg1 fc1 x0 s) L) (hx0 : ∀ s, E (.inr (.inr s)) → WXI Tryz.prog 19 n0 (Fin Tryz.prog Tryz.f146.results.toList n0 Q) [.code (ct [1, 1] (bodyOf Tryz.f146))] (slices_IndexFunc_ext_List_alloc_Extent_l0_X0 B0 fg1 fc1) L) (hr : ∀ r, E (.inr (.inl r)) → ∀ v st, slices_IndexFunc_ext_List_alloc_Extent_P B0 L r v st → Q v st) (hE : E o) : WXI Tryz.prog 19 n0 (Fin Tryz.prog Tryz.f146.results.toList n0 Q) [.code (ct [1, 0, 1, 0, 0] (bodyOf Tryz.f146)), .lp (ct [1, 0, 1, 0, 0] (bodyOf Tryz.f146)), .blk 0, .code (ct [1, 1] (bodyOf Tryz.f146))] (slices_IndexFunc_ext_List_alloc_Extent_l0_I B0 fg1 fc1 x0 x8) L := by
  unfold slices_IndexFunc_ext_List_alloc_Extent_l0 at h
  rintro _ B _ ⟨hB, v1, h1, rfl, rfl⟩
  obtain ⟨_, _, _, _, _, rfl⟩ := h1.isl
  refine WX.seq ?_
  refine WX.reg ?_
  refine WO.q (.r fun _ => rfl) rfl rfl ?_
  refine WO.nil ?_
  refine WX.seq ?_
  rcases bsp (decide (x8 < (x0.length : Int))) with k2 | k2
  have q_k2 := of_decide_eq_true k2
  replace h := (if_pos q_k2).symm.trans h
  refine WX.condT rfl k2 ?_
  refine WX.skip ?_
  refine WX.seq ?_
  refine WX.block ?_
  refine WX.seq ?_
  refine WX.reg ?_
  refine WO.q (.mv (v := .int _ _) rfl) rfl rfl ?_
  refine WO.q (.as (v := .int _ _) rfl) rfl rfl ?_
  refine WO.nil ?_
  refine WX.seq ?_
  refine WX.reg ?_
  refine WO.q (.mv (v := .fn _ _ _) rfl) rfl rfl ?_
  refine WO.q (.mv (v := .sl _ _ _ _ _ _) rfl) rfl rfl ?_
  refine WO.q (.mv (v := .int _ _) rfl) rfl rfl ?_
  obtain ⟨y3, hy3, h⟩ := Option.bind_eq_some_iff.1 h
  obtain ⟨b_y3, o_y3, _, i_y3, p_y3, r_y3⟩ := h1.at sl51 hy3 .i64
  obtain ⟨_, _, rfl, rfl, rfl⟩ := r_y3
  refine WO.q (.ia i_y3) rfl rfl ?_
  refine WO.q (.lpA rfl p_y3 ti163 rfl rfl) rfl rfl ?_
  obtain ⟨y4, hy4, h⟩ := Option.bind_eq_some_iff.1 h
  refine WO.cS rfl rfl (hf1 _ _  hy4 _ hB _) rfl rfl rfl ?_
  rintro _ rfl
  refine WO.nil ?_
  rcases bsp y4 with k5 | k5
  replace h := (if_pos k5).symm.trans h
  refine WX.condT rfl k5 ?_
  refine WX.seq ?_
  refine WX.reg ?_
  refine WO.q (.mv (v := .int _ _) rfl) rfl rfl ?_
  refine WO.q (.as (v := .int _ _) rfl) rfl rfl ?_
  refine WO.nil ?_
  obtain rfl := Option.some.inj h
  exact WX.ret (rs_ (rs_tmp rfl rs_nil)) fun st hp => hr _ hE _ _ ⟨(hp.pk [] (by decide)).le hB, rfl⟩
  replace h := (if_neg (bnt k5)).symm.trans h
  refine WX.condF rfl k5 ?_
  refine WX.skip ?_
  refine WX.pop ?_
  refine WX.reg ?_
  refine WO.q (.r fun _ => rfl) rfl rfl ?_
  refine WO.q (.mv (v := .int _ _) rfl) rfl rfl ?_
  refine WO.nil ?_
  refine WX.keepL [0, 1, 7, 8] (WX.pk [] (by decide) ?_) rfl
  obtain rfl := Option.some.inj h
  exact hn _ hE _ _ _ ⟨hB, _, h1, rfl, rfl⟩
  have q_k2 := of_decide_eq_false k2
  replace h := (if_neg q_k2).symm.trans h
  refine WX.condF rfl k2 ?_
  refine WX.exit rfl ?_
  refine WX.keep [] (WX.pk [] (by decide) ?_) rfl
  obtain rfl := Option.some.inj h
  exact hx0 _ hE _ _ _ ⟨hB, rfl, rfl⟩
theorem slices_IndexFunc_ext_List_alloc_Extent_l0_ok {B0 : Kn} {L : Own} {n0 : Nat} {fg1 : Nat} {fc1 : List AV} {a1 : (Int × Int) → Option Bool} {x0 : List (Int × Int)} {x8 : Int} {Q : AV → St → Prop} {d : Nat} {e : Int ⊕ Unit} (h : iter (fun (s : Int) => slices_IndexFunc_ext_List_alloc_Extent_l0 a1 x0 s) d x8 = some e) (hf1 : ∀ (x0 : Int × Int) (r : Bool), a1 x0 = some r → ∀ B, KLe B0 B → ∀ Lx st, Hp B (Lx ++ L) st → ASpec Tryz.prog fg1 ([.agg [.int .i64 x0.1, .int .i64 x0.2]] ++ fc1) st (CS B (Lx ++ L) fun v => v = .bool r)) (g0 : ∀ r, e = (.inl r) → ∀ v st, slices_IndexFunc_ext_List_alloc_Extent_P B0 L r v st → Q v st) (g1 : ∀ s, e = (.inr s) → WXI Tryz.prog 19 n0 (Fin Tryz.prog Tryz.f146.results.toList n0 Q) [.code (ct [1, 1] (bodyOf Tryz.f146))] (slices_IndexFunc_ext_List_alloc_Extent_l0_X0 B0 fg1 fc1) L) : WXI Tryz.prog 19 n0 (Fin Tryz.prog Tryz.f146.results.toList n0 Q) [.code (ct [1, 0, 1, 0, 0] (bodyOf Tryz.f146)), .lp (ct [1, 0, 1, 0, 0] (bodyOf Tryz.f146)), .blk 0, .code (ct [1, 1] (bodyOf Tryz.f146))] (slices_IndexFunc_ext_List_alloc_Extent_l0_I B0 fg1 fc1 x0 x8) L :=
  iter_ok (I := fun s => slices_IndexFunc_ext_List_alloc_Extent_l0_I B0 fg1 fc1 x0 s) (D := fun e => (∀ r, e = (.inl r) → ∀ v st, slices_IndexFunc_ext_List_alloc_Extent_P B0 L r v st → Q v st) ∧ (∀ s, e = (.inr s) → WXI Tryz.prog 19 n0 (Fin Tryz.prog Tryz.f146.results.toList n0 Q) [.code (ct [1, 1] (bodyOf Tryz.f146))] (slices_IndexFunc_ext_List_alloc_Extent_l0_X0 B0 fg1 fc1) L)) (fun E hn hx s o ho hE => slices_IndexFunc_ext_List_alloc_Extent_l0_s (x8 := s) ho hf1 hn (fun s hs => (hx _ hs).2 _ rfl) (fun r hs => (hx _ hs).1 _ rfl) hE) h ⟨g0, g1⟩
theorem slices_IndexFunc_ext_List_alloc_Extent_ok {B0 : Kn} {L : Own} {fg1 : Nat} {fc1 : List AV} {a1 : (Int × Int) → Option Bool} {a0 : List (Int × Int)} {v0_0 : AV} (hf1 : ∀ (x0 : Int × Int) (r : Bool), a1 x0 = some r → ∀ B, KLe B0 B → ∀ Lx st, Hp B (Lx ++ L) st → ASpec Tryz.prog fg1 ([.agg [.int .i64 x0.1, .int .i64 x0.2]] ++ fc1) st (CS B (Lx ++ L) fun v => v = .bool r)) (g0_0 : RSl EPIi64Ii64Q B0 v0_0 a0) {r : Int} (h : slices_IndexFunc_ext_List_alloc_Extent a0 a1 = some r) : ∀ st, Hp B0 L st → ASpec Tryz.prog 146 [v0_0, .fn (.func fg1) [] fc1] st (slices_IndexFunc_ext_List_alloc_Extent_P B0 L r) := by
  unfold slices_IndexFunc_ext_List_alloc_Extent at h
  refine bodyA (A := []) Tryz.func146 rfl (c := bodyOf Tryz.f146) rfl Tryz.ntmps146 (lb rfl) fun n0 => ?_
  have hB := KLe.refl B0
  obtain ⟨_, _, _, _, _, rfl⟩ := g0_0.isl
  refine WX.seq ?_
  refine WX.reg ?_
  refine WO.q (.as (v := .int _ _) rfl) rfl rfl ?_
  refine WO.nil ?_
  refine WX.seq ?_
  refine WX.seq ?_
  refine WX.reg ?_
  refine WO.q (.mv (v := .sl _ _ _ _ _ _) rfl) rfl rfl ?_
  refine WO.q (.len rfl rfl rfl (sl51.len g0_0.isl)) rfl rfl ?_
  refine WO.q (.mv (v := .int _ _) rfl) rfl rfl ?_
  refine WO.nil ?_
  refine WX.block ?_
  refine WX.loop ?_
  obtain ⟨e6, he6, h⟩ := Option.bind_eq_some_iff.1 h
  refine WX.keep [0, 1, 7, 8] (WX.pk [] (by decide) ?_) rfl
  refine slices_IndexFunc_ext_List_alloc_Extent_l0_ok he6 hf1 ?_ ?_ _ _ _ ⟨hB, _, g0_0, rfl, rfl⟩
  intro r8 he_
  subst he_
  replace h := (on_l h)
  obtain rfl := Option.some.inj h
  exact fun v st hp => hp
  intro x9 he_
  subst he_
  replace h := (on_r h)
  rintro _ B _ ⟨hB, rfl, rfl⟩
  refine WX.seq ?_
  refine WX.reg ?_
  refine WO.q (.as (v := .int _ _) rfl) rfl rfl ?_
  refine WO.nil ?_
  obtain rfl := Option.some.inj h
  exact WX.ret (rs_ (rs_tmp rfl rs_nil)) fun st hp => ⟨(hp.pk [] (by decide)).le hB, rfl⟩
def slices_DeleteFunc_ext_List_alloc_Extent_P (B : Kn) (L : Own) (r : (List (Int × Int))) : AV → St → Prop := C0 B L fun B' v => ∃ w0, v = w0 ∧ RSl EPIi64Ii64Q B' w0 r
def slices_DeleteFunc_ext_List_alloc_Extent_j10_I (B0 : Kn) (fg1 : Nat) (fc1 : List AV) (x0 : List (Int × Int)) (x5 : Int) (x6 : Int) : Fr → Kn → Own → Prop := fun fr B A => KLe B0 B ∧ ∃ v12 b12 n12 c12, OSl EPIi64Ii64Q B v12 b12 n12 c12 x0 ∧ fr = [(0, v12), (1, .fn (.func fg1) [] fc1), (5, .int .i64 x5), (6, .int .i64 x6)] ∧ A = [oe b12 n12 c12]
def slices_DeleteFunc_ext_List_alloc_Extent_l0_I (B0 : Kn) (fg1 : Nat) (fc1 : List AV) (x0 : List (Int × Int)) (x5 : Int) (x6 : Int) : Fr → Kn → Own → Prop := fun fr B A => KLe B0 B ∧ ∃ v6 b6 n6 c6, OSl EPIi64Ii64Q B v6 b6 n6 c6 x0 ∧ fr = [(0, v6), (1, .fn (.func fg1) [] fc1), (5, .int .i64 x5), (6, .int .i64 x6)] ∧ A = [oe b6 n6 c6]
def slices_DeleteFunc_ext_List_alloc_Extent_l0_X0 (B0 : Kn) (fg1 : Nat) (fc1 : List AV) (x0 : List (Int × Int)) (x5 : Int) : Fr → Kn → Own → Prop := fun fr B A => KLe B0 B ∧ ∃ v25 b25 n25 c25, OSl EPIi64Ii64Q B v25 b25 n25 c25 x0 ∧ fr = [(0, v25), (5, .int .i64 x5)] ∧ A = [oe b25 n25 c25]
theorem slices_DeleteFunc_ext_List_alloc_Extent_j10_ok {B0 : Kn} {L : Own} {n0 : Nat} {fg1 : Nat} {fc1 : List AV} {a1 : (Int × Int) → Option Bool} {x0 : List (Int × Int)} {x5 : Int} {x6 : Int} {Q : AV → St → Prop} {E : ((List (Int × Int)) × Int × Int) ⊕ ((List (Int × Int)) × Int) → Prop} {o : ((List (Int × Int)) × Int × Int) ⊕ ((List (Int × Int)) × Int)} (h : slices_DeleteFunc_ext_List_alloc_Extent_j10 a1 x0 x5 x6 = some o) (hf1 : ∀ (x0 : Int × Int) (r : Bool), a1 x0 = some r → ∀ B, KLe B0 B → ∀ Lx st, Hp B (Lx ++ L) st → ASpec Tryz.prog fg1 ([.agg [.int .i64 x0.1, .int .i64 x0.2]] ++ fc1) st (CS B (Lx ++ L) fun v => v = .bool r)) (hn : ∀ s, E (.inl s) → WXI Tryz.prog 42 n0 (Fin Tryz.prog Tryz.f102.results.toList n0 Q) [.lp (ct [1, 1, 1, 0, 1, 0, 0] (bodyOf Tryz.f102)), .blk 0, .code (ct [1, 1, 1, 1] (bodyOf Tryz.f102))] (slices_DeleteFunc_ext_List_alloc_Extent_l0_I B0 fg1 fc1 s.1 s.2.1 s.2.2) L) (hx0 : ∀ s, E (.inr s) → WXI Tryz.prog 42 n0 (Fin Tryz.prog Tryz.f102.results.toList n0 Q) [.code (ct [1, 1, 1, 1] (bodyOf Tryz.f102))] (slices_DeleteFunc_ext_List_alloc_Extent_l0_X0 B0 fg1 fc1 s.1 s.2) L) (hE : E o) : WXI Tryz.prog 42 n0 (Fin Tryz.prog Tryz.f102.results.toList n0 Q) [.code (ct [1, 1, 1, 0, 1, 0, 0, 1, 1] (bodyOf Tryz.f102)), .lp (ct [1, 1, 1, 0, 1, 0, 0] (bodyOf Tryz.f102)), .blk 0, .code (ct [1, 1, 1, 1] (bodyOf Tryz.f102))] (slices_DeleteFunc_ext_List_alloc_Extent_j10_I B0 fg1 fc1 x0 x5 x6) L := by
  unfold slices_DeleteFunc_ext_List_alloc_Extent_j10 at h
  rintro _ B _ ⟨hB, v12, b12, n12, c12, h12, rfl, rfl⟩
  obtain ⟨_, _, _, _, _, rfl⟩ := h12.isl
  refine WX.reg ?_
  refine WO.q (.mv (v := .int _ _) rfl) rfl rfl ?_
  refine WO.q (.r fun _ => rfl) rfl rfl ?_
  refine WO.q (.as (v := .int _ _) rfl) rfl rfl ?_
  refine WO.nil ?_
  refine WX.keepL [0, 1, 5, 6] (WX.pk [0] (by decide) ?_) rfl
  obtain rfl := Option.some.inj h
  exact hn _ hE _ _ _ ⟨hB, _, _, n12, _, h12, rfl, rfl⟩
theorem slices_DeleteFunc_ext_List_alloc_Extent_l0_s {B0 : Kn} {L : Own} {n0 : Nat} {fg1 : Nat} {fc1 : List AV} {a1 : (Int × Int) → Option Bool} {x0 : List (Int × Int)} {x5 : Int} {x6 : Int} {Q : AV → St → Prop} {E : ((List (Int × Int)) × Int × Int) ⊕ ((List (Int × Int)) × Int) → Prop} {o : ((List (Int × Int)) × Int × Int) ⊕ ((List (Int × Int)) × Int)} (h : slices_DeleteFunc_ext_List_alloc_Extent_l0 a1 x0 x5 x6 = some o) (hf1 : ∀ (x0 : Int × Int) (r : Bool), a1 x0 = some r → ∀ B, KLe B0 B → ∀ Lx st, Hp B (Lx ++ L) st → ASpec Tryz.prog fg1 ([.agg [.int .i64 x0.1, .int .i64 x0.2]] ++ fc1) st (CS B (Lx ++ L) fun v => v = .bool r)) (hn : ∀ s, E (.inl s) → WXI Tryz.prog 42 n0 (Fin Tryz.prog Tryz.f102.results.toList n0 Q) [.lp (ct [1, 1, 1, 0, 1, 0, 0] (bodyOf Tryz.f102)), .blk 0, .code (ct [1, 1, 1, 1] (bodyOf Tryz.f102))] (slices_DeleteFunc_ext_List_alloc_Extent_l0_I B0 fg1 fc1 s.1 s.2.1 s.2.2) L) (hx0 : ∀ s, E (.inr s) → WXI Tryz.prog 42 n0 (Fin Tryz.prog Tryz.f102.results.toList n0 Q) [.code (ct [1, 1, 1, 1] (bodyOf Tryz.f102))] (slices_DeleteFunc_ext_List_alloc_Extent_l0_X0 B0 fg1 fc1 s.1 s.2) L) (hE : E o) : WXI Tryz.prog 42 n0 (Fin Tryz.prog Tryz.f102.results.toList n0 Q) [.code (ct [1, 1, 1, 0, 1, 0, 0] (bodyOf Tryz.f102)), .lp (ct [1, 1, 1, 0, 1, 0, 0] (bodyOf Tryz.f102)), .blk 0, .code (ct [1, 1, 1, 1] (bodyOf Tryz.f102))] (slices_DeleteFunc_ext_List_alloc_Extent_l0_I B0 fg1 fc1 x0 x5 x6) L := by
  unfold slices_DeleteFunc_ext_List_alloc_Extent_l0 at h
  rintro _ B _ ⟨hB, v6, b6, n6, c6, h6, rfl, rfl⟩
  obtain ⟨_, _, _, _, _, rfl⟩ := h6.isl
  refine WX.seq ?_
  refine WX.seq ?_
  refine WX.reg ?_
  refine WO.q (.mv (v := .int _ _) rfl) rfl rfl ?_
  refine WO.q (.mv (v := .sl _ _ _ _ _ _) rfl) rfl rfl ?_
  refine WO.q (.len rfl rfl rfl (sl51.len h6.isl)) rfl rfl ?_
  refine WO.q (.r fun _ => rfl) rfl rfl ?_
  refine WO.nil ?_
  rcases bsp (decide (x6 < (x0.length : Int))) with k7 | k7
  have q_k7 := of_decide_eq_true k7
  replace h := (if_pos q_k7).symm.trans h
  refine WX.condT rfl k7 ?_
  refine WX.skip ?_
  refine WX.seq ?_
  refine WX.block ?_
  refine WX.seq ?_
  refine WX.reg ?_
  refine WO.q (.mv (v := .sl _ _ _ _ _ _) rfl) rfl rfl ?_
  refine WO.q (.mv (v := .int _ _) rfl) rfl rfl ?_
  obtain ⟨y8, hy8, h⟩ := Option.bind_eq_some_iff.1 h
  obtain rfl := h6.nonnil hy8
  obtain ⟨_, i_y8, l_y8, r_y8⟩ := h6.at sl51 hy8 .i64
  obtain ⟨_, _, rfl, rfl, rfl⟩ := r_y8
  refine WO.q (.ia i_y8) rfl rfl ?_
  refine WO.q (.leA (i := 0) rfl rfl l_y8 ti163 rfl rfl) rfl rfl ?_
  refine WO.md (MOp.alloc ti163 rfl) rfl rfl ?_
  rintro _ _ ⟨b9, rfl, rfl⟩
  refine WO.mn (MOp.storeW rfl (cA rfl) .h ti163 rfl rfl rfl) rfl ?_
  rintro _ _ rfl
  refine WO.nil ?_
  refine WX.seq ?_
  refine WX.reg ?_
  refine WO.q (.mv (v := .fn _ _ _) rfl) rfl rfl ?_
  refine WO.q (.ldA (i := 0) rfl rfl rfl ti163 rfl) rfl rfl ?_
  obtain ⟨y10, hy10, h⟩ := Option.bind_eq_some_iff.1 h
  refine WO.cS rfl rfl (hf1 _ _  hy10 _ hB _) rfl rfl rfl ?_
  rintro _ rfl
  refine WO.q (.r fun _ => rfl) rfl rfl ?_
  refine WO.nil ?_
  rcases bsp y10 with k11 | k11
  replace h := (if_pos k11).symm.trans h
  refine WX.condF rfl (f_not k11) ?_
  refine WX.skip ?_
  refine WX.pop ?_
  refine WX.keep [0, 1, 5, 6] (WX.pk [1] (by decide) ?_) rfl
  exact slices_DeleteFunc_ext_List_alloc_Extent_j10_ok h hf1 hn hx0 hE _ _ _ ⟨hB, _, _, false, _, h6, rfl, rfl⟩
  replace h := (if_neg (bnt k11)).symm.trans h
  refine WX.condT rfl (t_not k11) ?_
  refine WX.seq ?_
  refine WX.reg ?_
  refine WO.q (.mv (v := .sl _ _ _ _ _ _) rfl) rfl rfl ?_
  refine WO.q (.mv (v := .int _ _) rfl) rfl rfl ?_
  refine WO.q (.ldA (i := 0) rfl rfl rfl ti163 rfl) rfl rfl ?_
  obtain ⟨y13, hy13, h⟩ := Option.bind_eq_some_iff.1 h
  obtain ⟨_, i_y13, l_y13, r_y13⟩ := h6.at sl51 hy13 .i64
  obtain ⟨_, _, rfl, rfl, rfl⟩ := r_y13
  refine WO.q (.ia i_y13) rfl rfl ?_
  refine WO.mn (MOp.ostW (x' := y8) rfl (cA rfl) (fun _ => (.t .h)) ti163 rfl h6 hy13 (Rp Ri Ri)) rfl ?_
  rintro _ _ ⟨c15, o14, rfl⟩
  refine WO.nil ?_
  refine WX.reg ?_
  refine WO.q (.mv (v := .int _ _) rfl) rfl rfl ?_
  refine WO.q (.r fun _ => rfl) rfl rfl ?_
  refine WO.q (.as (v := .int _ _) rfl) rfl rfl ?_
  refine WO.nil ?_
  refine WX.pop ?_
  refine WX.keep [0, 1, 5, 6] (WX.pk [1] (by decide) ?_) rfl
  exact slices_DeleteFunc_ext_List_alloc_Extent_j10_ok h hf1 hn hx0 hE _ _ _ ⟨hB, _, _, false, _, o14, rfl, rfl⟩
  have q_k7 := of_decide_eq_false k7
  replace h := (if_neg q_k7).symm.trans h
  refine WX.condF rfl k7 ?_
  refine WX.exit rfl ?_
  refine WX.keep [0, 5] (WX.pk [0] (by decide) ?_) rfl
  obtain rfl := Option.some.inj h
  exact hx0 _ hE _ _ _ ⟨hB, _, _, n6, _, h6, rfl, rfl⟩
theorem slices_DeleteFunc_ext_List_alloc_Extent_l0_ok {B0 : Kn} {L : Own} {n0 : Nat} {fg1 : Nat} {fc1 : List AV} {a1 : (Int × Int) → Option Bool} {x0 : List (Int × Int)} {x5 : Int} {x6 : Int} {Q : AV → St → Prop} {d : Nat} {e : ((List (Int × Int)) × Int)} (h : iter (fun (s : (List (Int × Int)) × Int × Int) => slices_DeleteFunc_ext_List_alloc_Extent_l0 a1 s.1 s.2.1 s.2.2) d (x0, x5, x6) = some e) (hf1 : ∀ (x0 : Int × Int) (r : Bool), a1 x0 = some r → ∀ B, KLe B0 B → ∀ Lx st, Hp B (Lx ++ L) st → ASpec Tryz.prog fg1 ([.agg [.int .i64 x0.1, .int .i64 x0.2]] ++ fc1) st (CS B (Lx ++ L) fun v => v = .bool r)) (g0 : ∀ s, e = s → WXI Tryz.prog 42 n0 (Fin Tryz.prog Tryz.f102.results.toList n0 Q) [.code (ct [1, 1, 1, 1] (bodyOf Tryz.f102))] (slices_DeleteFunc_ext_List_alloc_Extent_l0_X0 B0 fg1 fc1 s.1 s.2) L) : WXI Tryz.prog 42 n0 (Fin Tryz.prog Tryz.f102.results.toList n0 Q) [.code (ct [1, 1, 1, 0, 1, 0, 0] (bodyOf Tryz.f102)), .lp (ct [1, 1, 1, 0, 1, 0, 0] (bodyOf Tryz.f102)), .blk 0, .code (ct [1, 1, 1, 1] (bodyOf Tryz.f102))] (slices_DeleteFunc_ext_List_alloc_Extent_l0_I B0 fg1 fc1 x0 x5 x6) L :=
  iter_ok (I := fun s => slices_DeleteFunc_ext_List_alloc_Extent_l0_I B0 fg1 fc1 s.1 s.2.1 s.2.2) (D := fun e => (∀ s, e = s → WXI Tryz.prog 42 n0 (Fin Tryz.prog Tryz.f102.results.toList n0 Q) [.code (ct [1, 1, 1, 1] (bodyOf Tryz.f102))] (slices_DeleteFunc_ext_List_alloc_Extent_l0_X0 B0 fg1 fc1 s.1 s.2) L)) (fun E hn hx s o ho hE => slices_DeleteFunc_ext_List_alloc_Extent_l0_s (x0 := s.1) (x5 := s.2.1) (x6 := s.2.2) ho hf1 hn (fun s hs => (hx _ hs) _ rfl)  hE) h g0
theorem slices_DeleteFunc_ext_List_alloc_Extent_ok {B0 : Kn} {L : Own} {fg1 : Nat} {fc1 : List AV} {a1 : (Int × Int) → Option Bool} {a0 : List (Int × Int)} {v0_0 : AV} {pb0 : Nat} {pn0 : Bool} {pc0 : List AV} (hf1 : ∀ (x0 : Int × Int) (r : Bool), a1 x0 = some r → ∀ B, KLe B0 B → ∀ Lx st, Hp B (Lx ++ L) st → ASpec Tryz.prog fg1 ([.agg [.int .i64 x0.1, .int .i64 x0.2]] ++ fc1) st (CS B (Lx ++ L) fun v => v = .bool r)) (g0_0 : OSl EPIi64Ii64Q B0 v0_0 pb0 pn0 pc0 a0) {r : (List (Int × Int))} (h : slices_DeleteFunc_ext_List_alloc_Extent a0 a1 = some r) : ∀ st, Hp B0 (oe pb0 pn0 pc0 :: L) st → ASpec Tryz.prog 102 [v0_0, .fn (.func fg1) [] fc1] st (slices_DeleteFunc_ext_List_alloc_Extent_P B0 L r) := by
  unfold slices_DeleteFunc_ext_List_alloc_Extent at h
  refine bodyA (A := [oe pb0 pn0 pc0]) Tryz.func102 rfl (c := bodyOf Tryz.f102) rfl Tryz.ntmps102 (lb rfl) fun n0 => ?_
  have hB := KLe.refl B0
  obtain ⟨_, _, _, _, _, rfl⟩ := g0_0.isl
  refine WX.seq ?_
  refine WX.reg ?_
  refine WO.q (.as (v := .sl _ _ _ _ _ _) rfl) rfl rfl ?_
  refine WO.nil ?_
  refine WX.seq ?_
  refine WX.reg ?_
  refine WO.q (.mv (v := .sl _ _ _ _ _ _) rfl) rfl rfl ?_
  refine WO.q (.mv (v := .fn _ _ _) rfl) rfl rfl ?_
  obtain ⟨y1, hy1, h⟩ := Option.bind_eq_some_iff.1 h
  refine WO.cS rfl rfl (lendC (j := 0) g0_0 rfl fun _ K3 g2 => slices_IndexFunc_ext_List_alloc_Extent_ok (fun x_ r hx B1 hB1 Lx st hp => by have := hf1 _ _ hx B1 ((hB.trans K3).trans hB1) (Lx ++ _) st (by rw [List.append_assoc]; exact hp); rw [List.append_assoc] at this; exact this) g2 hy1) rfl rfl rfl ?_
  rintro _ rfl
  refine WO.q (.as (v := .int _ _) rfl) rfl rfl ?_
  refine WO.nil ?_
  refine WX.seq ?_
  refine WX.seq ?_
  refine WX.reg ?_
  refine WO.q (.mv (v := .int _ _) rfl) rfl rfl ?_
  refine WO.q (.r fun _ => rfl) rfl rfl ?_
  refine WO.nil ?_
  rcases bsp (decide (y1 = (-1))) with k4 | k4
  have q_k4 := of_decide_eq_true k4
  replace h := (if_pos q_k4).symm.trans h
  refine WX.condT rfl k4 ?_
  refine WX.seq ?_
  refine WX.reg ?_
  refine WO.q (.mv (v := .sl _ _ _ _ _ _) rfl) rfl rfl ?_
  refine WO.q (.as (v := .sl _ _ _ _ _ _) rfl) rfl rfl ?_
  refine WO.nil ?_
  refine WX.fz (j := 0) g0_0 rfl ?_
  intro B hK g5
  replace hB := hB.trans hK
  obtain rfl := Option.some.inj h
  exact WX.ret (rs_ (rs_tmp rfl rs_nil)) fun st hp => ⟨_, hB, (hp.pk [] (by decide)), _, rfl, g5⟩
  have q_k4 := of_decide_eq_false k4
  replace h := (if_neg q_k4).symm.trans h
  refine WX.condF rfl k4 ?_
  refine WX.skip ?_
  refine WX.seq ?_
  refine WX.seq ?_
  refine WX.reg ?_
  refine WO.q (.mv (v := .int _ _) rfl) rfl rfl ?_
  refine WO.q (.r fun _ => rfl) rfl rfl ?_
  refine WO.q (.as (v := .int _ _) rfl) rfl rfl ?_
  refine WO.nil ?_
  refine WX.block ?_
  refine WX.loop ?_
  obtain ⟨e17, he17, h⟩ := Option.bind_eq_some_iff.1 h
  refine WX.keep [0, 1, 5, 6] (WX.pk [0] (by decide) ?_) rfl
  refine slices_DeleteFunc_ext_List_alloc_Extent_l0_ok he17 hf1 ?_ _ _ _ ⟨hB, _, _, pn0, _, g0_0, rfl, rfl⟩
  intro s24 he_
  subst he_
  replace h := h
  rintro _ B _ ⟨hB, v18, b18, n18, c18, h18, rfl, rfl⟩
  obtain ⟨_, _, _, _, _, rfl⟩ := h18.isl
  refine WX.seq ?_
  refine WX.reg ?_
  refine WO.q (.mv (v := .sl _ _ _ _ _ _) rfl) rfl rfl ?_
  refine WO.q (.mv (v := .int _ _) rfl) rfl rfl ?_
  obtain ⟨y19, hy19, h⟩ := Option.bind_eq_some_iff.1 h
  obtain ⟨v_y19, e_y19, g_y19⟩ := h18.end_ sl51 hy19 (kd := .i64)
  refine WO.q (.sl e_y19) rfl rfl ?_
  refine WO.mn (MOp.clr (x := ((0, 0) : Int × Int)) rfl rfl rfl sl51 (Rp Ri Ri) h18 g_y19 hy19 (fun _ => .h)) rfl ?_
  rintro _ _ ⟨c21, o20, rfl⟩
  refine WO.nil ?_
  refine WX.seq ?_
  refine WX.reg ?_
  refine WO.q (.mv (v := .sl _ _ _ _ _ _) rfl) rfl rfl ?_
  refine WO.q (.mv (v := .int _ _) rfl) rfl rfl ?_
  refine WO.fz (j := 0) o20 rfl ?_
  intro B hK g22
  replace hB := hB.trans hK
  obtain ⟨y23, hy23, h⟩ := Option.bind_eq_some_iff.1 h
  obtain ⟨v_y23, e_y23, g_y23⟩ := g22.cut sl51 hy23 (lo := none) (hi := some (.int .i64 e17.2)) bnd_none (bnd_int (Int.le_trans (cutL_some hy23).1.1 (cutL_some hy23).1.2.1))
  obtain ⟨_, _, _, _, _, rfl⟩ := g_y23.isl
  refine WO.q (.sl e_y23) rfl rfl ?_
  refine WO.q (.as (v := .sl _ _ _ _ _ _) rfl) rfl rfl ?_
  refine WO.nil ?_
  obtain rfl := Option.some.inj h
  exact WX.ret (rs_ (rs_tmp rfl rs_nil)) fun st hp => ⟨_, hB, (hp.pk [] (by decide)), _, rfl, g_y23⟩
def ext_List_Cut_1_P (B : Kn) (L : Own) (r : Bool) : AV → St → Prop := CS B L fun v => v = .bool r
theorem ext_List_Cut_1_ok {B0 : Kn} {L : Own} {a0 : Int × Int} {r : Bool} (h : ext_List_Cut_1 a0 = some r) : ∀ st, Hp B0 L st → ASpec Tryz.prog 103 [.agg [.int .i64 a0.1, .int .i64 a0.2]] st (ext_List_Cut_1_P B0 L r) := by
  unfold ext_List_Cut_1 at h
  refine bodyA (A := []) Tryz.func103 rfl (c := bodyOf Tryz.f103) rfl Tryz.ntmps103 (lb rfl) fun n0 => ?_
  have hB := KLe.refl B0
  refine WX.seq ?_
  refine WX.reg ?_
  refine WO.md (MOp.box (cA rfl)) rfl rfl ?_
  rintro _ _ ⟨b1, rfl, rfl⟩
  refine WO.q (.as (v := .bool _) rfl) rfl rfl ?_
  refine WO.nil ?_
  refine WX.seq ?_
  refine WX.reg ?_
  refine WO.q (.fa (fa163_0 _ _)) rfl rfl ?_
  refine WO.q (.ldS (i := 0) rfl rfl rfl ti3 rfl) rfl rfl ?_
  refine WO.q (.r fun _ => rfl) rfl rfl ?_
  refine WO.q (.as (v := .bool _) rfl) rfl rfl ?_
  refine WO.nil ?_
  obtain rfl := Option.some.inj h
  exact WX.ret (rs_ (rs_tmp rfl rs_nil)) fun st hp => ⟨(hp.pk [] (by decide)).le hB, rfl⟩
def ext_List_Cut_P (B : Kn) (L : Own) (r : (List (Int × Int)) × (List (Int × Int)) × Int) : AV → St → Prop := C1 B L fun B' v e0 => ∃ w1 w0 b0 n0 c0, v = .tup [w0, w1, .int .i64 r.2.2] ∧ RSl EPIi64Ii64Q B' w1 r.2.1 ∧ e0 = oe b0 n0 c0 ∧ OSl EPIi64Ii64Q B' w0 b0 n0 c0 r.1
def ext_List_Cut_j1_I (B0 : Kn) (x0 : List (Int × Int)) (x1 : Int) (x22 : Bool) : Fr → Kn → Own → Prop := fun fr B A => KLe B0 B ∧ ∃ v4, RSl EPIi64Ii64Q B v4 x0 ∧ fr = [(0, v4), (1, .int .i64 x1), (22, .bool x22)] ∧ A = []
theorem ext_List_Cut_j1_ok {B0 : Kn} {L : Own} {n0 : Nat} {x0 : List (Int × Int)} {x1 : Int} {x22 : Bool} {r : (List (Int × Int)) × (List (Int × Int)) × Int} (h : ext_List_Cut_j1 x0 x1 x22 = some r) : WXI Tryz.prog 33 n0 (Fin Tryz.prog Tryz.f42.results.toList n0 (ext_List_Cut_P B0 L r)) [.code (ct [1, 0, 1] (bodyOf Tryz.f42)), .code (ct [1, 1] (bodyOf Tryz.f42))] (ext_List_Cut_j1_I B0 x0 x1 x22) L := by
  unfold ext_List_Cut_j1 at h
  rintro _ B _ ⟨hB, v4, h4, rfl, rfl⟩
  obtain ⟨_, _, _, _, _, rfl⟩ := h4.isl
  rcases bsp x22 with k5 | k5
  replace h := (if_pos k5).symm.trans h
  refine WX.condT rfl k5 ?_
  refine WX.seq ?_
  refine WX.reg ?_
  refine WO.q (.as (v := .sl _ _ _ _ _ _) rfl) rfl rfl ?_
  refine WO.q (.as (v := .sl _ _ _ _ _ _) rfl) rfl rfl ?_
  refine WO.q (.as (v := .int _ _) rfl) rfl rfl ?_
  refine WO.nil ?_
  obtain rfl := Option.some.inj h
  exact WX.ret (rs_ (rs_tmp rfl (rs_tmp rfl (rs_tmp rfl rs_nil)))) fun st hp => ⟨_, _, hB, ((hp.pk [] (by decide)).skip 0), .sl 0 0 0 0 0 true, _, 0, true, [], rfl, (RSl.nil _ _), rfl, OSl.none _ _⟩
  replace h := (if_neg (bnt k5)).symm.trans h
  refine WX.condF rfl k5 ?_
  refine WX.skip ?_
  refine WX.seq ?_
  refine WX.reg ?_
  refine WO.q (.mv (v := .sl _ _ _ _ _ _) rfl) rfl rfl ?_
  refine WO.q (.mv (v := .int _ _) rfl) rfl rfl ?_
  obtain ⟨y6, hy6, h⟩ := Option.bind_eq_some_iff.1 h
  refine WO.c2 rfl rfl (ext_List_split_ok h4 hy6) rfl rfl rfl ?_
  rintro _ B _ _ hK ⟨v7, b8, n9, c10, v12, b13, n14, c15, rfl, rfl, h11, rfl, h16⟩
  obtain ⟨_, _, _, _, _, rfl⟩ := h11.isl
  obtain ⟨_, _, _, _, _, rfl⟩ := h16.isl
  replace h4 := h4.up hK
  replace hB := hB.trans hK
  refine WO.q (.mv (v := .tup _) rfl) rfl rfl ?_
  refine WO.q (.r fun _ => rfl) rfl rfl ?_
  refine WO.q (.r fun _ => rfl) rfl rfl ?_
  refine WO.q (.as (v := .sl _ _ _ _ _ _) rfl) rfl rfl ?_
  refine WO.q (.as (v := .sl _ _ _ _ _ _) rfl) rfl rfl ?_
  refine WO.nil ?_
  refine WX.seq ?_
  refine WX.reg ?_
  refine WO.q (.mv (v := .sl _ _ _ _ _ _) rfl) rfl rfl ?_
  obtain ⟨y17, hy17, h⟩ := Option.bind_eq_some_iff.1 h
  refine WO.t0 (j := 1) rfl rfl rfl (slices_DeleteFunc_ext_List_alloc_Extent_ok (fun _ _ hx _ _ _ => ext_List_Cut_1_ok hx) h16 hy17) rfl rfl rfl ?_
  rintro _ B hK ⟨v18, rfl, h19⟩
  obtain ⟨_, _, _, _, _, rfl⟩ := h19.isl
  replace h11 := h11.up hK
  replace hB := hB.trans hK
  refine WO.q (.as (v := .sl _ _ _ _ _ _) rfl) rfl rfl ?_
  refine WO.nil ?_
  refine WX.seq ?_
  refine WX.reg ?_
  refine WO.q (.mv (v := .sl _ _ _ _ _ _) rfl) rfl rfl ?_
  refine WO.q (.mv (v := .sl _ _ _ _ _ _) rfl) rfl rfl ?_
  refine WO.q (.as (v := .sl _ _ _ _ _ _) rfl) rfl rfl ?_
  refine WO.q (.as (v := .sl _ _ _ _ _ _) rfl) rfl rfl ?_
  refine WO.q (.as (v := .int _ _) rfl) rfl rfl ?_
  refine WO.nil ?_
  obtain rfl := Option.some.inj h
  exact WX.ret (rs_ (rs_tmp rfl (rs_tmp rfl (rs_tmp rfl rs_nil)))) fun st hp => ⟨_, _, hB, (hp.pk [0] (by decide)), _, _, _, n9, _, rfl, h19, rfl, h11⟩
theorem ext_List_Cut_ok {B0 : Kn} {L : Own} {a0 : List (Int × Int)} {a1 : Int} {v0_0 : AV} (g0_0 : RSl EPIi64Ii64Q B0 v0_0 a0) {r : (List (Int × Int)) × (List (Int × Int)) × Int} (h : ext_List_Cut a0 a1 = some r) : ∀ st, Hp B0 L st → ASpec Tryz.prog 42 [v0_0, .int .i64 a1] st (ext_List_Cut_P B0 L r) := by
  unfold ext_List_Cut at h
  refine bodyA (A := []) Tryz.func42 rfl (c := bodyOf Tryz.f42) rfl Tryz.ntmps42 (lb rfl) fun n0 => ?_
  have hB := KLe.refl B0
  obtain ⟨_, _, _, _, _, rfl⟩ := g0_0.isl
  refine WX.seq ?_
  refine WX.reg ?_
  refine WO.q (.as (v := .sl _ _ _ _ _ _) rfl) rfl rfl ?_
  refine WO.q (.as (v := .sl _ _ _ _ _ _) rfl) rfl rfl ?_
  refine WO.q (.as (v := .int _ _) rfl) rfl rfl ?_
  refine WO.nil ?_
  refine WX.seq ?_
  refine WX.seq ?_
  refine WX.reg ?_
  refine WO.q (.mv (v := .sl _ _ _ _ _ _) rfl) rfl rfl ?_
  obtain ⟨y1, hy1, h⟩ := Option.bind_eq_some_iff.1 h
  refine WO.cS rfl rfl (ext_List_Right_ok g0_0 hy1) rfl rfl rfl ?_
  rintro _ rfl
  refine WO.q (.r fun _ => rfl) rfl rfl ?_
  refine WO.q (.mv (v := .bool _) rfl) rfl rfl ?_
  rcases bsp y1 with k2 | k2
  replace h := (if_pos k2).symm.trans h
  refine WO.q (.mv (v := .int _ _) rfl) (wg rfl rfl (gf (f_not k2))) rfl ?_
  refine WO.q (.r fun _ => rfl) (wg rfl rfl (gf (f_not k2))) rfl ?_
  refine WO.q (.pfv (v := .bool _) rfl (f_not k2) rfl) rfl rfl ?_
  refine WO.q (.mv (v := .bool _) rfl) rfl rfl ?_
  rcases bsp (decide (a1 < 0)) with k3 | k3
  have q_k3 := of_decide_eq_true k3
  replace h := (if_pos q_k3).symm.trans h
  refine WO.sd (wg rfl rfl (gfn k3)) rfl ?_
  refine WO.sd (wg rfl rfl (gfn k3)) rfl ?_
  refine WO.sd (wg rfl rfl (gfn k3)) rfl ?_
  refine WO.sd (wg rfl rfl (gfn k3)) rfl ?_
  refine WO.q (.ptv (v := .bool _) rfl k3 rfl) rfl rfl ?_
  refine WO.nil ?_
  refine WX.keep [0, 1, 22] (WX.pk [] (by decide) ?_) rfl
  exact ext_List_Cut_j1_ok h _ _ _ ⟨hB, _, g0_0, rfl, rfl⟩
  have q_k3 := of_decide_eq_false k3
  replace h := (if_neg q_k3).symm.trans h
  refine WO.q (.mv (v := .int _ _) rfl) (wg rfl rfl (gf k3)) rfl ?_
  refine WO.q (.mv (v := .sl _ _ _ _ _ _) rfl) (wg rfl rfl (gf k3)) rfl ?_
  obtain ⟨y20, hy20, h⟩ := Option.bind_eq_some_iff.1 h
  refine WO.cS rfl rfl (ext_List_Blocks_ok g0_0 hy20) rfl (wg rfl rfl (gf k3)) rfl ?_
  rintro _ rfl
  refine WO.q (.r fun _ => rfl) (wg rfl rfl (gf k3)) rfl ?_
  refine WO.q (.pfv (v := .bool _) rfl k3 rfl) rfl rfl ?_
  refine WO.nil ?_
  refine WX.keep [0, 1, 22] (WX.pk [] (by decide) ?_) rfl
  exact ext_List_Cut_j1_ok h _ _ _ ⟨hB, _, g0_0, rfl, rfl⟩
  replace h := (if_neg (bnt k2)).symm.trans h
  refine WO.sd (wg rfl rfl (gfn (t_not k2))) rfl ?_
  refine WO.sd (wg rfl rfl (gfn (t_not k2))) rfl ?_
  refine WO.q (.ptv (v := .bool _) rfl (t_not k2) rfl) rfl rfl ?_
  refine WO.q (.mv (v := .bool _) rfl) rfl rfl ?_
  refine WO.sd (wg rfl rfl (gfn rfl)) rfl ?_
  refine WO.sd (wg rfl rfl (gfn rfl)) rfl ?_
  refine WO.sd (wg rfl rfl (gfn rfl)) rfl ?_
  refine WO.sd (wg rfl rfl (gfn rfl)) rfl ?_
  refine WO.q (.ptv (v := .bool _) rfl rfl rfl) rfl rfl ?_
  refine WO.nil ?_
  refine WX.keep [0, 1, 22] (WX.pk [] (by decide) ?_) rfl
  exact ext_List_Cut_j1_ok h _ _ _ ⟨hB, _, g0_0, rfl, rfl⟩
end Gab
end
section
set_option linter.unusedSimpArgs false
set_option linter.unusedVariables false
set_option maxHeartbeats 4000000
set_option maxRecDepth 100000
namespace Gab
open Go Go.Proofs
def slices_Grow_Lstring_string_P (B : Kn) (L : Own) (r : List (List UInt8)) : AV → St → Prop := C1 B L fun B' v e0 => ∃ w b0 n0 c0, v = w ∧ e0 = oe b0 n0 c0 ∧ OSl Ty.str B' w b0 n0 c0 r
theorem slices_Grow_Lstring_string_ok {B0 : Kn} {L : Own} {a1 : Int} {r : List (List UInt8)} (h : slices_Grow_Lstring_string a1 = some r) : ∀ st, Hp B0 L st → ASpec Tryz.prog 172 [.sl 0 0 0 0 0 true, .int .i64 a1] st (slices_Grow_Lstring_string_P B0 L r) := by
  unfold slices_Grow_Lstring_string at h
  obtain ⟨⟨h0, h1⟩, h⟩ := ifS_some h
  obtain rfl := Option.some.inj h
  refine bodyA (A := []) Tryz.func172 rfl (c := bodyOf Tryz.f172) rfl Tryz.ntmps172 (lb rfl) fun n0 => ?_
  have hB := KLe.refl B0
  repeat refine WX.seq ?_
  refine WX.reg ?_
  refine WO.q (.as (v := .sl _ _ _ _ _ _) rfl) rfl rfl ?_
  refine WO.nil ?_
  repeat refine WX.seq ?_
  refine WX.reg ?_
  refine WO.q (.mv (v := .int _ _) rfl) rfl rfl ?_
  refine WO.q (.r fun _ => rfl) rfl rfl ?_
  refine WO.nil ?_
  repeat refine WX.seq ?_
  refine WX.condF rfl (decide_eq_false (by omega)) ?_
  refine WX.skip ?_
  repeat refine WX.seq ?_
  refine WX.reg ?_
  refine WO.q (.mv (v := .int _ _) rfl) rfl rfl ?_
  refine WO.q (.mv (v := .sl _ _ _ _ _ _) rfl) rfl rfl ?_
  refine WO.q (QOp.capN rfl rfl rfl ti31 rfl rfl) rfl rfl ?_
  refine WO.q (.mv (v := .sl _ _ _ _ _ _) rfl) rfl rfl ?_
  refine WO.q (.len rfl rfl rfl (sl31.len (l := ([] : List (List UInt8))) ⟨_, _, _, _, _, rfl⟩)) rfl rfl ?_
  refine WO.q (.r fun _ => rfl) rfl rfl ?_
  refine WO.q (.r fun _ => rfl) rfl rfl ?_
  refine WO.q (.as (v := .int _ _) rfl) rfl rfl ?_
  refine WO.nil ?_
  have e1 : IntKind.wrap .i64 (a1 - IntKind.wrap .i64 (0 - 0)) = a1 := by simp only [Int.sub_zero]; rw [wrap64 (n := 0) (by omega) (by omega), Int.sub_zero]; exact wrap64 (by omega) (by omega)
  repeat refine WX.seq ?_
  refine WX.reg ?_
  refine WO.q (.mv (v := .int _ _) rfl) rfl rfl ?_
  refine WO.q (.r fun _ => rfl) rfl rfl ?_
  refine WO.nil ?_
  repeat refine WX.seq ?_
  by_cases hp0 : 0 < a1
  · refine WX.condT rfl (decide_eq_true (by show 0 < IntKind.wrap .i64 (a1 - IntKind.wrap .i64 (0 - 0)); rw [e1]; exact hp0)) ?_
    repeat refine WX.seq ?_
    refine WX.reg ?_
    refine WO.q (.mv (v := .sl _ _ _ _ _ _) rfl) rfl rfl ?_
    refine WO.q (.mv (v := .sl _ _ _ _ _ _) rfl) rfl rfl ?_
    refine WO.q (QOp.capN rfl rfl rfl ti31 rfl rfl) rfl rfl ?_
    refine WO.q (.sl (v := .sl 0 0 0 0 0 true) (by simp only [evSlice, ti31, ti9, Option.bind_some]; rfl)) rfl rfl ?_
    refine WO.q (.mv (v := .int _ _) rfl) rfl rfl ?_
    refine WO.md (MOp.appMk (n := a1) (a := ([] : List UInt8)) rfl rfl rfl sl31 ti3 rfl rfl (congrArg (AV.int .i64) e1) hp0 (by omega) (by omega) Rs) rfl rfl ?_
    rintro v1 _ ⟨b1, o1, rfl⟩
    obtain ⟨sz1, mc1, rfl, q1, q2⟩ := o1.v_eq
    obtain rfl := q2 rfl
    refine WO.q (.mv (v := .sl _ _ _ _ _ _) rfl) rfl rfl ?_
    refine WO.q (.len rfl rfl rfl (sl31.len (l := ([] : List (List UInt8))) ⟨_, _, _, _, _, rfl⟩)) rfl rfl ?_
    refine WO.q (.sl (v := .sl (Ty.str).sz b1 0 0 mc1 false) (evsl0 ti31 rfl ti9 (h := 0) rfl rfl ⟨Nat.le_refl _, Nat.zero_le _, fun _ => rfl⟩)) rfl rfl ?_
    refine WO.q (.as (v := .sl _ _ _ _ _ _) rfl) rfl rfl ?_
    refine WO.nil ?_
    repeat refine WX.seq ?_
    refine WX.less (cs' := []) .h (fun i v hv => by simp at hv) ?_
    repeat refine WX.seq ?_
    refine WX.reg ?_
    refine WO.q (.mv (v := .sl _ _ _ _ _ _) rfl) rfl rfl ?_
    refine WO.q (.as (v := .sl _ _ _ _ _ _) rfl) rfl rfl ?_
    refine WO.nil ?_
    exact WX.ret (rs_ (rs_tmp rfl rs_nil)) fun st hp => ⟨_, _, hB, (hp.pk [0] (by decide)), _, b1, false, [], rfl, rfl, ⟨⟨_, mc1, rfl, Nat.zero_le _, fun _ => rfl⟩, by simp, rfl⟩⟩
  · refine WX.condF rfl (decide_eq_false (by show ¬ 0 < IntKind.wrap .i64 (a1 - IntKind.wrap .i64 (0 - 0)); rw [e1]; exact hp0)) ?_
    refine WX.skip ?_
    repeat refine WX.seq ?_
    refine WX.reg ?_
    refine WO.q (.mv (v := .sl _ _ _ _ _ _) rfl) rfl rfl ?_
    refine WO.q (.as (v := .sl _ _ _ _ _ _) rfl) rfl rfl ?_
    refine WO.nil ?_
    exact WX.ret (rs_ (rs_tmp rfl rs_nil)) fun st hp => ⟨_, _, hB, ((hp.pk [] (by decide)).skip 0), _, 0, true, [], rfl, rfl, OSl.none _ _⟩
def slices_Concat_Lstring_string_P (B : Kn) (L : Own) (r : (List (List UInt8))) : AV → St → Prop := C1 B L fun B' v e0 => ∃ w0 b0 n0 c0, v = w0 ∧ e0 = oe b0 n0 c0 ∧ OSl Ty.str B' w0 b0 n0 c0 r
def slices_Concat_Lstring_string_l0_I (B0 : Kn) (x0 : List (List (List UInt8))) (x9 : List (List (List UInt8))) (x3 : Int) (x11 : Int) : Fr → Kn → Own → Prop := fun fr B A => KLe B0 B ∧ ∃ v1 v2, RSl ELSt B v1 x0 ∧ RSl ELSt B v2 x9 ∧ fr = [(0, v1), (3, .int .i64 x3), (9, v2), (10, .int .i64 (x9.length : Int)), (11, .int .i64 x11)] ∧ A = []
def slices_Concat_Lstring_string_l0_X0 (B0 : Kn) (x0 : List (List (List UInt8))) (x3 : Int) : Fr → Kn → Own → Prop := fun fr B A => KLe B0 B ∧ ∃ v32, RSl ELSt B v32 x0 ∧ fr = [(0, v32), (3, .int .i64 x3)] ∧ A = []
def slices_Concat_Lstring_string_l1_I (B0 : Kn) (x25 : List (List (List UInt8))) (x6 : List (List UInt8)) (x27 : Int) : Fr → Kn → Own → Prop := fun fr B A => KLe B0 B ∧ ∃ v16 b16 n16 c16 v17, OSl Ty.str B v16 b16 n16 c16 x6 ∧ RSl ELSt B v17 x25 ∧ fr = [(6, v16), (25, v17), (26, .int .i64 (x25.length : Int)), (27, .int .i64 x27)] ∧ A = [oe b16 n16 c16]
def slices_Concat_Lstring_string_l1_X0 (B0 : Kn) (x6 : List (List UInt8)) : Fr → Kn → Own → Prop := fun fr B A => KLe B0 B ∧ ∃ v33 b33 n33 c33, OSl Ty.str B v33 b33 n33 c33 x6 ∧ fr = [(6, v33)] ∧ A = [oe b33 n33 c33]
theorem slices_Concat_Lstring_string_l0_s {B0 : Kn} {L : Own} {n0 : Nat} {x0 : List (List (List UInt8))} {x9 : List (List (List UInt8))} {x3 : Int} {x11 : Int} {Q : AV → St → Prop} {E : (Int × Int) ⊕ Int → Prop} {o : (Int × Int) ⊕ Int} (h : slices_Concat_Lstring_string_l0 x0 x9 x3 x11 = some o) (hn : ∀ s, E (.inl s) → WXI Tryz.prog 36 n0 (Fin Tryz.prog Tryz.f153.results.toList n0 Q) [.lp (ct [1, 1, 0, 1, 0, 0] (bodyOf Tryz.f153)), .blk 0, .code (ct [1, 1, 1] (bodyOf Tryz.f153))] (slices_Concat_Lstring_string_l0_I B0 x0 x9 s.1 s.2) L) (hx0 : ∀ s, E (.inr s) → WXI Tryz.prog 36 n0 (Fin Tryz.prog Tryz.f153.results.toList n0 Q) [.code (ct [1, 1, 1] (bodyOf Tryz.f153))] (slices_Concat_Lstring_string_l0_X0 B0 x0 s) L) (hE : E o) : WXI Tryz.prog 36 n0 (Fin Tryz.prog Tryz.f153.results.toList n0 Q) [.code (ct [1, 1, 0, 1, 0, 0] (bodyOf Tryz.f153)), .lp (ct [1, 1, 0, 1, 0, 0] (bodyOf Tryz.f153)), .blk 0, .code (ct [1, 1, 1] (bodyOf Tryz.f153))] (slices_Concat_Lstring_string_l0_I B0 x0 x9 x3 x11) L := by
  unfold slices_Concat_Lstring_string_l0 at h
  rintro _ B _ ⟨hB, v1, v2, h1, h2, rfl, rfl⟩
  obtain ⟨_, _, _, _, _, rfl⟩ := h1.isl
  obtain ⟨_, _, _, _, _, rfl⟩ := h2.isl
  refine WX.seq ?_
  refine WX.reg ?_
  refine WO.q (.r fun _ => rfl) rfl rfl ?_
  refine WO.nil ?_
  refine WX.seq ?_
  rcases bsp (decide (x11 < (x9.length : Int))) with k3 | k3
  have q_k3 := of_decide_eq_true k3
  replace h := (if_pos q_k3).symm.trans h
  refine WX.condT rfl k3 ?_
  refine WX.skip ?_
  refine WX.seq ?_
  refine WX.block ?_
  refine WX.seq ?_
  refine WX.reg ?_
  obtain ⟨y4, hy4, h⟩ := Option.bind_eq_some_iff.1 h
  obtain ⟨b_y4, o_y4, _, i_y4, p_y4, r_y4⟩ := h2.at sl260 hy4 .i64
  obtain ⟨w5, rfl, hw5⟩ := r_y4
  obtain ⟨_, _, _, _, _, rfl⟩ := hw5.isl
  refine WO.q (.ia i_y4) rfl rfl ?_
  refine WO.q (.lp0 rfl p_y4 rfl ti31 rfl) rfl rfl ?_
  refine WO.q (.as (v := .sl _ _ _ _ _ _) rfl) rfl rfl ?_
  refine WO.nil ?_
  refine WX.seq ?_
  refine WX.reg ?_
  refine WO.q (.mv (v := .int _ _) rfl) rfl rfl ?_
  refine WO.q (.mv (v := .sl _ _ _ _ _ _) rfl) rfl rfl ?_
  refine WO.q (.len rfl rfl rfl (sl31.len hw5.isl)) rfl rfl ?_
  refine WO.q (.r fun _ => rfl) rfl rfl ?_
  refine WO.q (.as (v := .int _ _) rfl) rfl rfl ?_
  refine WO.nil ?_
  refine WX.seq ?_
  refine WX.reg ?_
  refine WO.q (.mv (v := .int _ _) rfl) rfl rfl ?_
  refine WO.q (.r fun _ => rfl) rfl rfl ?_
  refine WO.nil ?_
  rcases bsp (decide ((wi64 (x3 + (y4.length : Int))) < 0)) with k6 | k6
  have q_k6 := of_decide_eq_true k6
  replace h := (if_pos q_k6).symm.trans h
  refine WX.condT rfl k6 ?_
  refine WX.reg ?_
  cases h
  have q_k6 := of_decide_eq_false k6
  replace h := (if_neg q_k6).symm.trans h
  refine WX.condF rfl k6 ?_
  refine WX.skip ?_
  refine WX.pop ?_
  refine WX.reg ?_
  refine WO.q (.r fun _ => rfl) rfl rfl ?_
  refine WO.q (.mv (v := .int _ _) rfl) rfl rfl ?_
  refine WO.nil ?_
  refine WX.keepL [0, 3, 9, 10, 11] (WX.pk [] (by decide) ?_) rfl
  obtain rfl := Option.some.inj h
  exact hn _ hE _ _ _ ⟨hB, _, _, h1, h2, rfl, rfl⟩
  have q_k3 := of_decide_eq_false k3
  replace h := (if_neg q_k3).symm.trans h
  refine WX.condF rfl k3 ?_
  refine WX.exit rfl ?_
  refine WX.keep [0, 3] (WX.pk [] (by decide) ?_) rfl
  obtain rfl := Option.some.inj h
  exact hx0 _ hE _ _ _ ⟨hB, _, h1, rfl, rfl⟩
theorem slices_Concat_Lstring_string_l0_ok {B0 : Kn} {L : Own} {n0 : Nat} {x0 : List (List (List UInt8))} {x9 : List (List (List UInt8))} {x3 : Int} {x11 : Int} {Q : AV → St → Prop} {d : Nat} {e : Int} (h : iter (fun (s : Int × Int) => slices_Concat_Lstring_string_l0 x0 x9 s.1 s.2) d (x3, x11) = some e) (g0 : ∀ s, e = s → WXI Tryz.prog 36 n0 (Fin Tryz.prog Tryz.f153.results.toList n0 Q) [.code (ct [1, 1, 1] (bodyOf Tryz.f153))] (slices_Concat_Lstring_string_l0_X0 B0 x0 s) L) : WXI Tryz.prog 36 n0 (Fin Tryz.prog Tryz.f153.results.toList n0 Q) [.code (ct [1, 1, 0, 1, 0, 0] (bodyOf Tryz.f153)), .lp (ct [1, 1, 0, 1, 0, 0] (bodyOf Tryz.f153)), .blk 0, .code (ct [1, 1, 1] (bodyOf Tryz.f153))] (slices_Concat_Lstring_string_l0_I B0 x0 x9 x3 x11) L :=
  iter_ok (I := fun s => slices_Concat_Lstring_string_l0_I B0 x0 x9 s.1 s.2) (D := fun e => (∀ s, e = s → WXI Tryz.prog 36 n0 (Fin Tryz.prog Tryz.f153.results.toList n0 Q) [.code (ct [1, 1, 1] (bodyOf Tryz.f153))] (slices_Concat_Lstring_string_l0_X0 B0 x0 s) L)) (fun E hn hx s o ho hE => slices_Concat_Lstring_string_l0_s (x3 := s.1) (x11 := s.2) ho hn (fun s hs => (hx _ hs) _ rfl)  hE) h g0
theorem slices_Concat_Lstring_string_l1_s {B0 : Kn} {L : Own} {n0 : Nat} {x25 : List (List (List UInt8))} {x6 : List (List UInt8)} {x27 : Int} {Q : AV → St → Prop} {E : ((List (List UInt8)) × Int) ⊕ (List (List UInt8)) → Prop} {o : ((List (List UInt8)) × Int) ⊕ (List (List UInt8))} (h : slices_Concat_Lstring_string_l1 x25 x6 x27 = some o) (hn : ∀ s, E (.inl s) → WXI Tryz.prog 36 n0 (Fin Tryz.prog Tryz.f153.results.toList n0 Q) [.lp (ct [1, 1, 1, 1, 0, 1, 0, 0] (bodyOf Tryz.f153)), .blk 2, .code (ct [1, 1, 1, 1, 1] (bodyOf Tryz.f153))] (slices_Concat_Lstring_string_l1_I B0 x25 s.1 s.2) L) (hx0 : ∀ s, E (.inr s) → WXI Tryz.prog 36 n0 (Fin Tryz.prog Tryz.f153.results.toList n0 Q) [.code (ct [1, 1, 1, 1, 1] (bodyOf Tryz.f153))] (slices_Concat_Lstring_string_l1_X0 B0 s) L) (hE : E o) : WXI Tryz.prog 36 n0 (Fin Tryz.prog Tryz.f153.results.toList n0 Q) [.code (ct [1, 1, 1, 1, 0, 1, 0, 0] (bodyOf Tryz.f153)), .lp (ct [1, 1, 1, 1, 0, 1, 0, 0] (bodyOf Tryz.f153)), .blk 2, .code (ct [1, 1, 1, 1, 1] (bodyOf Tryz.f153))] (slices_Concat_Lstring_string_l1_I B0 x25 x6 x27) L := by
  unfold slices_Concat_Lstring_string_l1 at h
  rintro _ B _ ⟨hB, v16, b16, n16, c16, v17, h16, h17, rfl, rfl⟩
  obtain ⟨_, _, _, _, _, rfl⟩ := h16.isl
  obtain ⟨_, _, _, _, _, rfl⟩ := h17.isl
  refine WX.seq ?_
  refine WX.reg ?_
  refine WO.q (.r fun _ => rfl) rfl rfl ?_
  refine WO.nil ?_
  refine WX.seq ?_
  rcases bsp (decide (x27 < (x25.length : Int))) with k18 | k18
  have q_k18 := of_decide_eq_true k18
  replace h := (if_pos q_k18).symm.trans h
  refine WX.condT rfl k18 ?_
  refine WX.skip ?_
  refine WX.seq ?_
  refine WX.block ?_
  refine WX.seq ?_
  refine WX.reg ?_
  obtain ⟨y19, hy19, h⟩ := Option.bind_eq_some_iff.1 h
  obtain ⟨b_y19, o_y19, _, i_y19, p_y19, r_y19⟩ := h17.at sl260 hy19 .i64
  obtain ⟨w20, rfl, hw20⟩ := r_y19
  obtain ⟨_, _, _, _, _, rfl⟩ := hw20.isl
  refine WO.q (.ia i_y19) rfl rfl ?_
  refine WO.q (.lp0 rfl p_y19 rfl ti31 rfl) rfl rfl ?_
  refine WO.q (.as (v := .sl _ _ _ _ _ _) rfl) rfl rfl ?_
  refine WO.nil ?_
  refine WX.reg ?_
  refine WO.q (.mv (v := .sl _ _ _ _ _ _) rfl) rfl rfl ?_
  refine WO.q (.mv (v := .sl _ _ _ _ _ _) rfl) rfl rfl ?_
  obtain ⟨_, hs22⟩ := Src.r sl31 hw20
  obtain ⟨y21, hy21, h⟩ := Option.bind_eq_some_iff.1 h
  refine WO.md (MOp.app rfl rfl rfl sl31 h16 (hs22 _) hy21 rfl rfl (fun _ => .h)) rfl rfl ?_
  rintro v26 _ ⟨b23, n24, o25, rfl⟩
  obtain ⟨_, _, _, _, _, rfl⟩ := o25.isl
  refine WO.q (.as (v := .sl _ _ _ _ _ _) rfl) rfl rfl ?_
  refine WO.nil ?_
  refine WX.pop ?_
  refine WX.reg ?_
  refine WO.q (.r fun _ => rfl) rfl rfl ?_
  refine WO.q (.mv (v := .int _ _) rfl) rfl rfl ?_
  refine WO.nil ?_
  refine WX.keepL [6, 25, 26, 27] (WX.pk [0] (by decide) ?_) rfl
  obtain rfl := Option.some.inj h
  exact hn _ hE _ _ _ ⟨hB, _, _, n24, _, _, o25, h17, rfl, rfl⟩
  have q_k18 := of_decide_eq_false k18
  replace h := (if_neg q_k18).symm.trans h
  refine WX.condF rfl k18 ?_
  refine WX.exit rfl ?_
  refine WX.keep [6] (WX.pk [0] (by decide) ?_) rfl
  obtain rfl := Option.some.inj h
  exact hx0 _ hE _ _ _ ⟨hB, _, _, n16, _, h16, rfl, rfl⟩
theorem slices_Concat_Lstring_string_l1_ok {B0 : Kn} {L : Own} {n0 : Nat} {x25 : List (List (List UInt8))} {x6 : List (List UInt8)} {x27 : Int} {Q : AV → St → Prop} {d : Nat} {e : (List (List UInt8))} (h : iter (fun (s : (List (List UInt8)) × Int) => slices_Concat_Lstring_string_l1 x25 s.1 s.2) d (x6, x27) = some e) (g0 : ∀ s, e = s → WXI Tryz.prog 36 n0 (Fin Tryz.prog Tryz.f153.results.toList n0 Q) [.code (ct [1, 1, 1, 1, 1] (bodyOf Tryz.f153))] (slices_Concat_Lstring_string_l1_X0 B0 s) L) : WXI Tryz.prog 36 n0 (Fin Tryz.prog Tryz.f153.results.toList n0 Q) [.code (ct [1, 1, 1, 1, 0, 1, 0, 0] (bodyOf Tryz.f153)), .lp (ct [1, 1, 1, 1, 0, 1, 0, 0] (bodyOf Tryz.f153)), .blk 2, .code (ct [1, 1, 1, 1, 1] (bodyOf Tryz.f153))] (slices_Concat_Lstring_string_l1_I B0 x25 x6 x27) L :=
  iter_ok (I := fun s => slices_Concat_Lstring_string_l1_I B0 x25 s.1 s.2) (D := fun e => (∀ s, e = s → WXI Tryz.prog 36 n0 (Fin Tryz.prog Tryz.f153.results.toList n0 Q) [.code (ct [1, 1, 1, 1, 1] (bodyOf Tryz.f153))] (slices_Concat_Lstring_string_l1_X0 B0 s) L)) (fun E hn hx s o ho hE => slices_Concat_Lstring_string_l1_s (x6 := s.1) (x27 := s.2) ho hn (fun s hs => (hx _ hs) _ rfl)  hE) h g0
theorem slices_Concat_Lstring_string_ok {B0 : Kn} {L : Own} {a0 : List (List (List UInt8))} {v0_0 : AV} (g0_0 : RSl ELSt B0 v0_0 a0) {r : (List (List UInt8))} (h : slices_Concat_Lstring_string a0 = some r) : ∀ st, Hp B0 L st → ASpec Tryz.prog 153 [v0_0] st (slices_Concat_Lstring_string_P B0 L r) := by
  unfold slices_Concat_Lstring_string at h
  refine bodyA (A := []) Tryz.func153 rfl (c := bodyOf Tryz.f153) rfl Tryz.ntmps153 (lb rfl) fun n0 => ?_
  have hB := KLe.refl B0
  obtain ⟨_, _, _, _, _, rfl⟩ := g0_0.isl
  refine WX.seq ?_
  refine WX.reg ?_
  refine WO.q (.as (v := .sl _ _ _ _ _ _) rfl) rfl rfl ?_
  refine WO.nil ?_
  refine WX.seq ?_
  refine WX.reg ?_
  refine WO.q (.as (v := .int _ _) rfl) rfl rfl ?_
  refine WO.nil ?_
  refine WX.seq ?_
  refine WX.seq ?_
  refine WX.reg ?_
  refine WO.q (.mv (v := .sl _ _ _ _ _ _) rfl) rfl rfl ?_
  refine WO.q (.len rfl rfl rfl (sl260.len g0_0.isl)) rfl rfl ?_
  refine WO.q (.mv (v := .int _ _) rfl) rfl rfl ?_
  refine WO.nil ?_
  refine WX.block ?_
  refine WX.loop ?_
  obtain ⟨e8, he8, h⟩ := Option.bind_eq_some_iff.1 h
  refine WX.keep [0, 3, 9, 10, 11] (WX.pk [] (by decide) ?_) rfl
  refine slices_Concat_Lstring_string_l0_ok he8 ?_ _ _ _ ⟨hB, _, _, g0_0, g0_0, rfl, rfl⟩
  intro s31 he_
  subst he_
  replace h := h
  rintro _ B _ ⟨hB, v9, h9, rfl, rfl⟩
  obtain ⟨_, _, _, _, _, rfl⟩ := h9.isl
  refine WX.seq ?_
  refine WX.reg ?_
  refine WO.q (.mv (v := .int _ _) rfl) rfl rfl ?_
  obtain ⟨y10, hy10, h⟩ := Option.bind_eq_some_iff.1 h
  refine WO.c1 rfl rfl (slices_Grow_Lstring_string_ok hy10) rfl rfl rfl ?_
  rintro _ B _ hK ⟨v11, b12, n13, c14, rfl, rfl, h15⟩
  obtain ⟨_, _, _, _, _, rfl⟩ := h15.isl
  replace h9 := h9.up hK
  replace hB := hB.trans hK
  refine WO.q (.as (v := .sl _ _ _ _ _ _) rfl) rfl rfl ?_
  refine WO.nil ?_
  refine WX.seq ?_
  refine WX.seq ?_
  refine WX.reg ?_
  refine WO.q (.mv (v := .sl _ _ _ _ _ _) rfl) rfl rfl ?_
  refine WO.q (.len rfl rfl rfl (sl260.len h9.isl)) rfl rfl ?_
  refine WO.q (.mv (v := .int _ _) rfl) rfl rfl ?_
  refine WO.nil ?_
  refine WX.block ?_
  refine WX.loop ?_
  obtain ⟨e28, he28, h⟩ := Option.bind_eq_some_iff.1 h
  refine WX.keep [6, 25, 26, 27] (WX.pk [0] (by decide) ?_) rfl
  refine slices_Concat_Lstring_string_l1_ok he28 ?_ _ _ _ ⟨hB, _, _, n13, _, _, h15, h9, rfl, rfl⟩
  intro s30 he_
  subst he_
  replace h := h
  rintro _ B _ ⟨hB, v29, b29, n29, c29, h29, rfl, rfl⟩
  obtain ⟨_, _, _, _, _, rfl⟩ := h29.isl
  refine WX.seq ?_
  refine WX.reg ?_
  refine WO.q (.mv (v := .sl _ _ _ _ _ _) rfl) rfl rfl ?_
  refine WO.q (.as (v := .sl _ _ _ _ _ _) rfl) rfl rfl ?_
  refine WO.nil ?_
  obtain rfl := Option.some.inj h
  exact WX.ret (rs_ (rs_tmp rfl rs_nil)) fun st hp => ⟨_, _, hB, (hp.pk [0] (by decide)), _, _, n29, _, rfl, rfl, h29⟩
end Gab
end
section
set_option linter.unusedSimpArgs false
set_option linter.unusedVariables false
set_option maxHeartbeats 4000000
set_option maxRecDepth 100000
namespace Gab
open Go Go.Proofs
def stringslite_HasPrefix_P (B : Kn) (L : Own) (r : Bool) : AV → St → Prop := CS B L fun v => v = .bool r
theorem stringslite_HasPrefix_ok {B0 : Kn} {L : Own} {a0 : List UInt8} {a1 : List UInt8} {r : Bool} (h : stringslite_HasPrefix a0 a1 = some r) : ∀ st, Hp B0 L st → ASpec Tryz.prog 120 [.str a0, .str a1] st (stringslite_HasPrefix_P B0 L r) := by
  unfold stringslite_HasPrefix at h
  refine bodyA (A := []) Tryz.func120 rfl (c := bodyOf Tryz.f120) rfl Tryz.ntmps120 (lb rfl) fun n0 => ?_
  have hB := KLe.refl B0
  refine WX.seq ?_
  refine WX.reg ?_
  refine WO.q (.as (v := .bool _) rfl) rfl rfl ?_
  refine WO.nil ?_
  refine WX.seq ?_
  refine WX.reg ?_
  refine WO.q (.mv (v := .str _) rfl) rfl rfl ?_
  refine WO.q (.len rfl rfl rfl (evslen ti9 rfl _)) rfl rfl ?_
  refine WO.q (.mv (v := .str _) rfl) rfl rfl ?_
  refine WO.q (.len rfl rfl rfl (evslen ti9 rfl _)) rfl rfl ?_
  refine WO.q (.r fun _ => rfl) rfl rfl ?_
  refine WO.q (.mv (v := .bool _) rfl) rfl rfl ?_
  rcases bsp (decide ((a1.length : Int) ≤ (a0.length : Int))) with k1 | k1
  have q_k1 := of_decide_eq_true k1
  replace h := (if_pos q_k1).symm.trans h
  refine WO.q (.mv (v := .str _) rfl) (wg rfl rfl (gt k1)) rfl ?_
  refine WO.q (.mv (v := .str _) rfl) (wg rfl rfl (gt k1)) rfl ?_
  refine WO.q (.len rfl rfl rfl (evslen ti9 rfl _)) (wg rfl rfl (gt k1)) rfl ?_
  obtain ⟨y2, hy2, h⟩ := Option.bind_eq_some_iff.1 h
  refine WO.q (.sl (evscut ti9 rfl hy2 bnd_none (bnd_int (Int.le_trans (cutL_some hy2).1.1 (cutL_some hy2).1.2.1)))) (wg rfl rfl (gt k1)) rfl ?_
  refine WO.q (.mv (v := .str _) rfl) (wg rfl rfl (gt k1)) rfl ?_
  refine WO.q (.r fun _ => rfl) (wg rfl rfl (gt k1)) rfl ?_
  refine WO.q (.ptv (v := .bool _) rfl k1 rfl) rfl rfl ?_
  refine WO.q (.as (v := .bool _) rfl) rfl rfl ?_
  refine WO.nil ?_
  obtain rfl := Option.some.inj h
  exact WX.ret (rs_ (rs_tmp rfl rs_nil)) fun st hp => ⟨(hp.pk [] (by decide)).le hB, rfl⟩
  have q_k1 := of_decide_eq_false k1
  replace h := (if_neg q_k1).symm.trans h
  refine WO.sd (wg rfl rfl (gtn k1)) rfl ?_
  refine WO.sd (wg rfl rfl (gtn k1)) rfl ?_
  refine WO.sd (wg rfl rfl (gtn k1)) rfl ?_
  refine WO.sd (wg rfl rfl (gtn k1)) rfl ?_
  refine WO.sd (wg rfl rfl (gtn k1)) rfl ?_
  refine WO.sd (wg rfl rfl (gtn k1)) rfl ?_
  refine WO.q (.pfv (v := .bool _) rfl k1 rfl) rfl rfl ?_
  refine WO.q (.as (v := .bool _) rfl) rfl rfl ?_
  refine WO.nil ?_
  obtain rfl := Option.some.inj h
  exact WX.ret (rs_ (rs_tmp rfl rs_nil)) fun st hp => ⟨(hp.pk [] (by decide)).le hB, rfl⟩
def stringslite_Index_P (B : Kn) (L : Own) (r : Int) : AV → St → Prop := CS B L fun v => v = .int .i64 r
def stringslite_Index_j2_I (B0 : Kn) (x0 : List UInt8) (x1 : List UInt8) (x16 : Bool) : Fr → Kn → Own → Prop := fun fr B A => KLe B0 B ∧ fr = [(0, .str x0), (1, .str x1), (5, .int .i64 (x1.length : Int)), (16, .bool x16)] ∧ A = []
theorem stringslite_Index_j2_ok {B0 : Kn} {L : Own} {n0 : Nat} {x0 : List UInt8} {x1 : List UInt8} {x16 : Bool} {r : Int} (h : stringslite_Index_j2 x0 x1 x16 = some r) : WXI Tryz.prog 143 n0 (Fin Tryz.prog Tryz.f167.results.toList n0 (stringslite_Index_P B0 L r)) [.code (ct [1, 1, 0, 0, 1] (bodyOf Tryz.f167)), .blk 0, .code (ct [1, 1, 1] (bodyOf Tryz.f167))] (stringslite_Index_j2_I B0 x0 x1 x16) L := by
  unfold stringslite_Index_j2 at h
  rintro _ B _ ⟨hB, rfl, rfl⟩
  rcases bsp x16 with k2 | k2
  replace h := (if_pos k2).symm.trans h
  refine WX.condT rfl k2 ?_
  refine WX.seq ?_
  refine WX.reg ?_
  refine WO.q (.as (v := .int _ _) rfl) rfl rfl ?_
  refine WO.nil ?_
  obtain rfl := Option.some.inj h
  exact WX.ret (rs_ (rs_tmp rfl rs_nil)) fun st hp => ⟨(hp.pk [] (by decide)).le hB, rfl⟩
  replace h := (if_neg (bnt k2)).symm.trans h
  refine WX.condF rfl k2 ?_
  refine WX.seq ?_
  refine WX.reg ?_
  refine WO.q (.mv (v := .int _ _) rfl) rfl rfl ?_
  refine WO.q (.r fun _ => rfl) rfl rfl ?_
  refine WO.q (.as (v := .bool _) rfl) rfl rfl ?_
  refine WO.nil ?_
  rcases bsp (decide ((x1.length : Int) = 1)) with k3 | k3
  have q_k3 := of_decide_eq_true k3
  replace h := (if_pos q_k3).symm.trans h
  refine WX.condT rfl k3 ?_
  refine WX.seq ?_
  refine WX.reg ?_
  refine WO.q (.mv (v := .str _) rfl) rfl rfl ?_
  refine WO.q (.mv (v := .str _) rfl) rfl rfl ?_
  obtain ⟨y4, hy4, h⟩ := Option.bind_eq_some_iff.1 h
  refine WO.q (.ix (evsix ti9 rfl hy4 _)) rfl rfl ?_
  obtain ⟨y5, hy5, h⟩ := Option.bind_eq_some_iff.1 h
  refine WO.cS rfl rfl (stringslite_IndexByte_ok hy5) rfl rfl rfl ?_
  rintro _ rfl
  refine WO.q (.as (v := .int _ _) rfl) rfl rfl ?_
  refine WO.nil ?_
  obtain rfl := Option.some.inj h
  exact WX.ret (rs_ (rs_tmp rfl rs_nil)) fun st hp => ⟨(hp.pk [] (by decide)).le hB, rfl⟩
  have q_k3 := of_decide_eq_false k3
  replace h := (if_neg q_k3).symm.trans h
  refine WX.condF rfl k3 ?_
  refine WX.seq ?_
  refine WX.reg ?_
  refine WO.q (.mv (v := .int _ _) rfl) rfl rfl ?_
  refine WO.q (.mv (v := .str _) rfl) rfl rfl ?_
  refine WO.q (.len rfl rfl rfl (evslen ti9 rfl _)) rfl rfl ?_
  refine WO.q (.r fun _ => rfl) rfl rfl ?_
  refine WO.q (.as (v := .bool _) rfl) rfl rfl ?_
  refine WO.nil ?_
  rcases bsp (decide ((x0.length : Int) ≤ (x1.length : Int))) with k6 | k6
  have q_k6 := of_decide_eq_true k6
  replace h := (if_pos q_k6).symm.trans h
  refine WX.condT rfl k6 ?_
  refine WX.seq ?_
  refine WX.reg ?_
  refine WO.q (.as (v := .int _ _) rfl) rfl rfl ?_
  refine WO.nil ?_
  obtain rfl := Option.some.inj h
  exact WX.ret (rs_ (rs_tmp rfl rs_nil)) fun st hp => ⟨(hp.pk [] (by decide)).le hB, rfl⟩
  have q_k6 := of_decide_eq_false k6
  replace h := (if_neg q_k6).symm.trans h
  refine WX.condF rfl k6 ?_
  refine WX.seq ?_
  refine WX.reg ?_
  refine WO.q (.mv (v := .int _ _) rfl) rfl rfl ?_
  cases h
theorem stringslite_Index_ok {B0 : Kn} {L : Own} {a0 : List UInt8} {a1 : List UInt8} {r : Int} (h : stringslite_Index a0 a1 = some r) : ∀ st, Hp B0 L st → ASpec Tryz.prog 167 [.str a0, .str a1] st (stringslite_Index_P B0 L r) := by
  unfold stringslite_Index at h
  refine bodyA (A := []) Tryz.func167 rfl (c := bodyOf Tryz.f167) rfl Tryz.ntmps167 (lb rfl) fun n0 => ?_
  have hB := KLe.refl B0
  refine WX.seq ?_
  refine WX.reg ?_
  refine WO.q (.as (v := .int _ _) rfl) rfl rfl ?_
  refine WO.nil ?_
  refine WX.seq ?_
  refine WX.reg ?_
  refine WO.q (.mv (v := .str _) rfl) rfl rfl ?_
  refine WO.q (.len rfl rfl rfl (evslen ti9 rfl _)) rfl rfl ?_
  refine WO.q (.as (v := .int _ _) rfl) rfl rfl ?_
  refine WO.nil ?_
  refine WX.seq ?_
  refine WX.block ?_
  refine WX.seq ?_
  refine WX.reg ?_
  refine WO.q (.mv (v := .int _ _) rfl) rfl rfl ?_
  refine WO.q (.r fun _ => rfl) rfl rfl ?_
  refine WO.q (.mv (v := .bool _) rfl) rfl rfl ?_
  rcases bsp (decide ((a1.length : Int) = 0)) with k1 | k1
  have q_k1 := of_decide_eq_true k1
  replace h := (if_pos q_k1).symm.trans h
  refine WO.sd (wg rfl rfl (gfn k1)) rfl ?_
  refine WO.sd (wg rfl rfl (gfn k1)) rfl ?_
  refine WO.sd (wg rfl rfl (gfn k1)) rfl ?_
  refine WO.q (.ptv (v := .bool _) rfl k1 rfl) rfl rfl ?_
  refine WO.q (.as (v := .bool _) rfl) rfl rfl ?_
  refine WO.nil ?_
  refine WX.keep [0, 1, 5, 16] (WX.pk [] (by decide) ?_) rfl
  exact stringslite_Index_j2_ok h _ _ _ ⟨hB, rfl, rfl⟩
  have q_k1 := of_decide_eq_false k1
  replace h := (if_neg q_k1).symm.trans h
  refine WO.q (.mv (v := .str _) rfl) (wg rfl rfl (gf k1)) rfl ?_
  refine WO.q (.mv (v := .str _) rfl) (wg rfl rfl (gf k1)) rfl ?_
  refine WO.q (.r fun _ => rfl) (wg rfl rfl (gf k1)) rfl ?_
  refine WO.q (.pfv (v := .bool _) rfl k1 rfl) rfl rfl ?_
  refine WO.q (.as (v := .bool _) rfl) rfl rfl ?_
  refine WO.nil ?_
  refine WX.keep [0, 1, 5, 16] (WX.pk [] (by decide) ?_) rfl
  exact stringslite_Index_j2_ok h _ _ _ ⟨hB, rfl, rfl⟩
end Gab
end
section
set_option linter.unusedSimpArgs false
set_option linter.unusedVariables false
set_option maxHeartbeats 4000000
set_option maxRecDepth 100000
namespace Gab
open Go Go.Proofs
def strings_HasPrefix_P (B : Kn) (L : Own) (r : Bool) : AV → St → Prop := CS B L fun v => v = .bool r
theorem strings_HasPrefix_ok {B0 : Kn} {L : Own} {a0 : List UInt8} {a1 : List UInt8} {r : Bool} (h : strings_HasPrefix a0 a1 = some r) : ∀ st, Hp B0 L st → ASpec Tryz.prog 57 [.str a0, .str a1] st (strings_HasPrefix_P B0 L r) := by
  unfold strings_HasPrefix at h
  refine bodyA (A := []) Tryz.func57 rfl (c := bodyOf Tryz.f57) rfl Tryz.ntmps57 (lb rfl) fun n0 => ?_
  have hB := KLe.refl B0
  refine WX.seq ?_
  refine WX.reg ?_
  refine WO.q (.as (v := .bool _) rfl) rfl rfl ?_
  refine WO.nil ?_
  refine WX.seq ?_
  refine WX.reg ?_
  refine WO.q (.mv (v := .str _) rfl) rfl rfl ?_
  refine WO.q (.mv (v := .str _) rfl) rfl rfl ?_
  obtain ⟨y1, hy1, h⟩ := Option.bind_eq_some_iff.1 h
  refine WO.cS rfl rfl (stringslite_HasPrefix_ok hy1) rfl rfl rfl ?_
  rintro _ rfl
  refine WO.q (.as (v := .bool _) rfl) rfl rfl ?_
  refine WO.nil ?_
  obtain rfl := Option.some.inj h
  exact WX.ret (rs_ (rs_tmp rfl rs_nil)) fun st hp => ⟨(hp.pk [] (by decide)).le hB, rfl⟩
def strings_Index_P (B : Kn) (L : Own) (r : Int) : AV → St → Prop := CS B L fun v => v = .int .i64 r
theorem strings_Index_ok {B0 : Kn} {L : Own} {a0 : List UInt8} {a1 : List UInt8} {r : Int} (h : strings_Index a0 a1 = some r) : ∀ st, Hp B0 L st → ASpec Tryz.prog 151 [.str a0, .str a1] st (strings_Index_P B0 L r) := by
  unfold strings_Index at h
  refine bodyA (A := []) Tryz.func151 rfl (c := bodyOf Tryz.f151) rfl Tryz.ntmps151 (lb rfl) fun n0 => ?_
  have hB := KLe.refl B0
  refine WX.seq ?_
  refine WX.reg ?_
  refine WO.q (.as (v := .int _ _) rfl) rfl rfl ?_
  refine WO.nil ?_
  refine WX.seq ?_
  refine WX.reg ?_
  refine WO.q (.mv (v := .str _) rfl) rfl rfl ?_
  refine WO.q (.mv (v := .str _) rfl) rfl rfl ?_
  obtain ⟨y1, hy1, h⟩ := Option.bind_eq_some_iff.1 h
  refine WO.cS rfl rfl (stringslite_Index_ok hy1) rfl rfl rfl ?_
  rintro _ rfl
  refine WO.q (.as (v := .int _ _) rfl) rfl rfl ?_
  refine WO.nil ?_
  obtain rfl := Option.some.inj h
  exact WX.ret (rs_ (rs_tmp rfl rs_nil)) fun st hp => ⟨(hp.pk [] (by decide)).le hB, rfl⟩
def strings_Contains_P (B : Kn) (L : Own) (r : Bool) : AV → St → Prop := CS B L fun v => v = .bool r
theorem strings_Contains_ok {B0 : Kn} {L : Own} {a0 : List UInt8} {a1 : List UInt8} {r : Bool} (h : strings_Contains a0 a1 = some r) : ∀ st, Hp B0 L st → ASpec Tryz.prog 130 [.str a0, .str a1] st (strings_Contains_P B0 L r) := by
  unfold strings_Contains at h
  refine bodyA (A := []) Tryz.func130 rfl (c := bodyOf Tryz.f130) rfl Tryz.ntmps130 (lb rfl) fun n0 => ?_
  have hB := KLe.refl B0
  refine WX.seq ?_
  refine WX.reg ?_
  refine WO.q (.as (v := .bool _) rfl) rfl rfl ?_
  refine WO.nil ?_
  refine WX.seq ?_
  refine WX.reg ?_
  refine WO.q (.mv (v := .str _) rfl) rfl rfl ?_
  refine WO.q (.mv (v := .str _) rfl) rfl rfl ?_
  obtain ⟨y1, hy1, h⟩ := Option.bind_eq_some_iff.1 h
  refine WO.cS rfl rfl (strings_Index_ok hy1) rfl rfl rfl ?_
  rintro _ rfl
  refine WO.q (.r fun _ => rfl) rfl rfl ?_
  refine WO.q (.as (v := .bool _) rfl) rfl rfl ?_
  refine WO.nil ?_
  obtain rfl := Option.some.inj h
  exact WX.ret (rs_ (rs_tmp rfl rs_nil)) fun st hp => ⟨(hp.pk [] (by decide)).le hB, rfl⟩
end Gab
end
section
set_option linter.unusedSimpArgs false
set_option linter.unusedVariables false
set_option maxHeartbeats 4000000
set_option maxRecDepth 100000
namespace Gab
open Go Go.Proofs Go.Lib
theorem idxB_nil : idxB [] 47 = -1 := rfl
theorem idxB_cons (b : UInt8) (l : List UInt8) : idxB (b :: l) 47 = if b = 47 then 0 else if idxB l 47 = -1 then -1 else idxB l 47 + 1 := by
  unfold idxB
  rw [firstIdx_eq, firstIdx_eq]
  show indexByte (b :: l) 47 = _
  rw [indexByte]
  simp only [beq_iff_eq]
  rfl
theorem idxB_ge : ∀ (l : List UInt8), -1 ≤ idxB l 47 ∧ idxB l 47 < l.length
  | [] => by rw [idxB_nil]; simp
  | b :: l => by
    have ih := idxB_ge l
    rw [idxB_cons, List.length_cons]
    split
    · omega
    · split <;> omega
theorem splitB_lt : ∀ {l : List UInt8}, idxB l 47 < 0 → splitB l = [l]
  | [], _ => rfl
  | b :: l, h => by
    rw [idxB_cons] at h
    have ih := idxB_ge l
    split at h
    · omega
    · rename_i hb
      split at h
      · rename_i h1
        rw [splitB, if_neg hb, splitB_lt (by omega)]
      · omega
theorem splitB_at : ∀ {l : List UInt8}, 0 ≤ idxB l 47 → splitB l = l.take (idxB l 47).toNat :: splitB (l.drop ((idxB l 47).toNat + 1))
  | [], h => by rw [idxB_nil] at h; omega
  | b :: l, h => by
    rw [idxB_cons] at h ⊢
    have ih := idxB_ge l
    by_cases hb : b = 47
    · rw [if_pos hb]
      rw [splitB, if_pos hb]
      simp
    · rw [if_neg hb] at h ⊢
      by_cases h1 : idxB l 47 = -1
      · rw [if_pos h1] at h; omega
      · rw [if_neg h1] at h ⊢
        have ih2 := splitB_at (l := l) (by omega)
        rw [splitB, if_neg hb, ih2]
        rw [show (idxB l 47 + 1).toNat = (idxB l 47).toNat + 1 by omega]
        simp
theorem index47 (l : List UInt8) : strings_Index l [47] = some (idxB l 47) := by
  unfold strings_Index stringslite_Index
  rw [if_neg (by simp)]
  unfold stringslite_Index_j2
  by_cases h : l = [47]
  · subst h; rfl
  · have h' : ¬ ([47] : List UInt8) = l := fun e => h e.symm
    simp only [h', decide_false, Bool.false_eq_true, if_false]
    rfl
theorem splitSeq_new {B : Kn} {L : Own} {s : List UInt8} : ∀ st, Hp B L st → ASpec Tryz.prog 58 [.str s, .str [47]] st (CX B L fun B' X v => ∃ b1 b2 b3, v = .fn (.func 149) [] [.ptr b2 0, .ptr b1 0, .ptr b3 0] ∧ X = [(b3, some (OV.c [.int .i64 0])), (b2, some (OV.c [.str [47]])), (b1, some (OV.c [.str s]))]) := by
  have h1 : ∀ (B : Kn) (L : Own) st, Hp B L st → ASpec Tryz.prog 121 [.str s, .str [47], .int .i64 0] st (CX B L fun B' X v => ∃ b1 b2 b3, v = .fn (.func 149) [] [.ptr b2 0, .ptr b1 0, .ptr b3 0] ∧ X = [(b3, some (OV.c [.int .i64 0])), (b2, some (OV.c [.str [47]])), (b1, some (OV.c [.str s]))]) := fun B L => by
    refine bodyA (A := []) Tryz.func121 rfl (c := bodyOf Tryz.f121) rfl Tryz.ntmps121 (lb rfl) fun n0 => ?_
    repeat refine WX.seq ?_
    refine WX.reg ?_
    refine WO.md (MOp.box (cs := [.str s]) rfl) rfl rfl ?_
    rintro _ _ ⟨b1, rfl, rfl⟩
    refine WO.md (MOp.box (cs := [.str [47]]) rfl) rfl rfl ?_
    rintro _ _ ⟨b2, rfl, rfl⟩
    refine WO.md (MOp.box (cs := [.int .i64 0]) rfl) rfl rfl ?_
    rintro _ _ ⟨b3, rfl, rfl⟩
    refine WO.q (.as (v := .nilfn) rfl) rfl rfl ?_
    refine WO.nil ?_
    repeat refine WX.seq ?_
    refine WX.reg ?_
    refine WO.q (.r fun _ => rfl) rfl rfl ?_
    refine WO.q (.as (v := .fn _ _ _) rfl) rfl rfl ?_
    refine WO.nil ?_
    exact WX.ret (rs_ (rs_tmp rfl rs_nil)) fun st hp => ⟨B, _, KLe.refl B, hp, b1, b2, b3, rfl, rfl⟩
  refine bodyA (A := []) Tryz.func58 rfl (c := bodyOf Tryz.f58) rfl Tryz.ntmps58 (lb rfl) fun n0 => ?_
  repeat refine WX.seq ?_
  refine WX.reg ?_
  refine WO.q (.as (v := .nilfn) rfl) rfl rfl ?_
  refine WO.nil ?_
  repeat refine WX.seq ?_
  refine WX.reg ?_
  refine WO.q (.mv (v := .str _) rfl) rfl rfl ?_
  refine WO.q (.mv (v := .str _) rfl) rfl rfl ?_
  refine WO.cx rfl rfl (h1 _ _) rfl rfl rfl ?_
  rintro _ B _ hB ⟨b1, b2, b3, rfl, rfl⟩
  refine WO.q (.as (v := .fn _ _ _) rfl) rfl rfl ?_
  refine WO.nil ?_
  exact WX.ret (rs_ (rs_tmp rfl rs_nil)) fun st hp => ⟨B, _, hB, hp, b1, b2, b3, rfl, rfl⟩
theorem splitS {B0 : Kn} {L : Own} {s : List UInt8} {b1 b2 b3 : Nat} (hs : s.length ≤ 1000000) :
    SeqD Tryz.prog 149 [.ptr b2 0, .ptr b1 0, .ptr b3 0] AV.str (splitB s) B0 [(b3, some (OV.c [.int .i64 0])), (b2, some (OV.c [.str [47]])), (b1, some (OV.c [.str s]))] L := by
  intro b l N D fr fn ps assign body I X hps hpN hna hnb hR AI h0
  have key : ∀ st, Hp B0 ([(b3, some (OV.c [.int .i64 0])), (b2, some (OV.c [.str [47]])), (b1, some (OV.c [.str s]))] ++ (((b, some (.ex l N fr (mkL fn ps assign body D .ready none))) :: AI) ++ L)) st → ASpec Tryz.prog 149 (yieldV l :: [.ptr b2 0, .ptr b1 0, .ptr b3 0]) st fun _ s' => ∃ B' A' j, KLe B0 B' ∧ (match j with
        | none => I (splitB s) B' A'
        | some c => X c B' A') ∧ Hp B' ((b, some (.ex l N fr (mkL fn ps assign body D (endSt j) j))) :: (A' ++ L)) s' := by
    refine bodyA (A := [(b3, some (OV.c [.int .i64 0])), (b2, some (OV.c [.str [47]])), (b1, some (OV.c [.str s]))]) Tryz.func149 rfl (c := bodyOf Tryz.f149) rfl Tryz.ntmps149 (lb rfl) fun n0 => ?_
    repeat refine WX.seq ?_
    refine WX.reg ?_
    refine WO.q (.ldS (i := 1) rfl rfl rfl ti9 rfl) rfl rfl ?_
    refine WO.q (.len rfl rfl rfl (evslen ti9 rfl _)) rfl rfl ?_
    refine WO.q (.r fun _ => rfl) rfl rfl ?_
    refine WO.nil ?_
    repeat refine WX.seq ?_
    refine WX.condF rfl (by decide) ?_
    refine WX.skip ?_
    repeat refine WX.seq ?_
    refine WX.block ?_
    refine WX.loop ?_
    refine WX.keep [0, 1, 2, 3] (WX.pk [0, 1, 2] (by decide) ?_) rfl
    refine WX.loopN (I := fun n fr1 B1 A E1 => KLe B0 B1 ∧ ∃ (s' : List UInt8) (pre : List (List UInt8)) (AI' : Own), E1 = (b, some (OV.ex l N fr (mkL fn ps assign body D .ready none))) :: AI' ∧ I pre B1 AI' ∧ splitB s = pre ++ splitB s' ∧ s'.length = n ∧ s'.length ≤ 1000000 ∧ fr1 = [(0, yieldV l), (1, .ptr b2 0), (2, .ptr b1 0), (3, .ptr b3 0)] ∧ A = [(b3, some (OV.c [.int .i64 0])), (b2, some (OV.c [.str [47]])), (b1, some (OV.c [.str s']))]) ?_ s.length _ _ _ _ ⟨KLe.refl _, s, [], AI, rfl, h0, rfl, rfl, hs, rfl, rfl⟩
    rintro k _ B _ _ ⟨hB, s', pre, AI', rfl, hI, hsp, hk, hs', rfl, rfl⟩ ih
    have hx := idxB_ge s'
    refine WX.block ?_
    repeat refine WX.seq ?_
    refine WX.reg ?_
    refine WO.q (.ldS (i := 2) rfl rfl rfl ti9 rfl) rfl rfl ?_
    refine WO.q (.ldS (i := 1) rfl rfl rfl ti9 rfl) rfl rfl ?_
    refine WO.cS rfl rfl (strings_Index_ok (index47 s')) rfl rfl rfl ?_
    rintro _ rfl
    refine WO.q (.as (v := .int _ _) rfl) rfl rfl ?_
    refine WO.nil ?_
    repeat refine WX.seq ?_
    refine WX.reg ?_
    refine WO.q (.mv (v := .int _ _) rfl) rfl rfl ?_
    refine WO.q (.r fun _ => rfl) rfl rfl ?_
    refine WO.nil ?_
    repeat refine WX.seq ?_
    rcases bsp (decide (idxB s' 47 < 0)) with k1 | k1
    · have q1 := of_decide_eq_true k1
      refine WX.condT rfl k1 ?_
      refine WX.exit rfl ?_
      refine WX.reg ?_
      refine WO.q (.mv (v := yieldV l) rfl) rfl rfl ?_
      refine WO.q (.ldS (i := 2) rfl rfl rfl ti9 rfl) rfl rfl ?_
      rw [splitB_lt q1] at hsp
      refine WO.yield (b := b) (l := l) (AI := AI') rfl rfl (hR pre s' [] B AI' _ hB hI hsp) rfl hps hpN rfl rfl hna hnb ?_
      rintro j B2 AI2 hB2 hj
      refine WO.nil ?_
      refine WX.fin (rs_ rs_nil) fun st hp => ⟨B2, AI2, j, hB.trans hB2, ?_, hp.tail.tail.tail⟩
      cases j with
      | none => rw [hsp]; exact hj
      | some c => exact hj
    · have q1 := of_decide_eq_false k1
      obtain ⟨i, hi⟩ : ∃ i : Nat, idxB s' 47 = (i : Int) := ⟨(idxB s' 47).toNat, by omega⟩
      have hil : i < s'.length := by omega
      have hcut : cutL s' 0 (wi64 (idxB s' 47 + 0)) = some (s'.take i) := by
        rw [hi, Int.add_zero, w64 (by omega) (by omega), cutL_ok (by omega) (by omega) (by omega)]
        simp
      have hcut2 : cutL s' (wi64 (idxB s' 47 + (([47] : List UInt8).length : Int))) (s'.length : Int) = some (s'.drop (i + 1)) := by
        rw [hi, show (([47] : List UInt8).length : Int) = 1 from rfl, w64 (by omega) (by omega), cutL_ok (by omega) (by omega) (by omega)]
        simp only [Int.toNat_natCast, List.take_length]
        rw [show ((i : Int) + 1).toNat = i + 1 by omega]
      rw [splitB_at (l := s') (by omega), hi, Int.toNat_natCast] at hsp
      refine WX.condF rfl k1 ?_
      refine WX.skip ?_
      repeat refine WX.seq ?_
      refine WX.reg ?_
      refine WO.q (.ldS (i := 2) rfl rfl rfl ti9 rfl) rfl rfl ?_
      refine WO.q (.mv (v := .int _ _) rfl) rfl rfl ?_
      refine WO.q (.ldS (i := 0) rfl rfl rfl ti3 rfl) rfl rfl ?_
      refine WO.q (.r fun _ => rfl) rfl rfl ?_
      refine WO.q (.sl (evscut ti9 rfl hcut bnd_none (bnd_int (Int.le_trans (cutL_some hcut).1.1 (cutL_some hcut).1.2.1)))) rfl rfl ?_
      refine WO.q (.as (v := .str _) rfl) rfl rfl ?_
      refine WO.nil ?_
      repeat refine WX.seq ?_
      refine WX.reg ?_
      refine WO.q (.mv (v := yieldV l) rfl) rfl rfl ?_
      refine WO.q (.mv (v := .str _) rfl) rfl rfl ?_
      refine WO.yield (b := b) (l := l) (AI := AI') rfl rfl (hR pre (s'.take i) (splitB (s'.drop (i + 1))) B AI' _ hB hI hsp) rfl hps hpN rfl rfl hna hnb ?_
      rintro j B2 AI2 hB2 hj
      refine WO.q (.r fun _ => rfl) rfl rfl ?_
      refine WO.nil ?_
      repeat refine WX.seq ?_
      cases j with
      | some c =>
        refine WX.condT rfl rfl ?_
        refine WX.ret (rs_ rs_nil) fun st hp => ⟨B2, AI2, some c, hB.trans hB2, hj, hp.tail.tail.tail⟩
      | none =>
        refine WX.condF rfl rfl ?_
        refine WX.skip ?_
        refine WX.reg ?_
        refine WO.q (.ldS (i := 2) rfl rfl rfl ti9 rfl) rfl rfl ?_
        refine WO.q (.mv (v := .int _ _) rfl) rfl rfl ?_
        refine WO.q (.ldS (i := 1) rfl rfl rfl ti9 rfl) rfl rfl ?_
        refine WO.q (.len rfl rfl rfl (evslen ti9 rfl _)) rfl rfl ?_
        refine WO.q (.r fun _ => rfl) rfl rfl ?_
        refine WO.q (.sl (evscut ti9 rfl hcut2 (bnd_int (cutL_some hcut2).1.1) rfl)) rfl rfl ?_
        refine WO.mn (MOp.storeW rfl (cS rfl) (.t (.t .h)) ti9 rfl rfl rfl) rfl ?_
        rintro _ _ rfl
        refine WO.nil ?_
        refine WX.pop ?_
        refine WX.keepL [0, 1, 2, 3] (WX.pk [0, 1, 2] (by decide) ?_) rfl
        exact ih (k - (i + 1)) _ _ _ _ (by omega) ⟨hB.trans hB2, s'.drop (i + 1), pre ++ [s'.take i], AI2, rfl, hj, by rw [hsp]; simp, by simp; omega, by simp; omega, rfl, rfl⟩
  intro st hp
  refine key st (hp.perm ?_)
  rw [← List.append_assoc, ← List.append_assoc]
  exact List.Perm.append_right L (List.perm_append_comm (l₁ := (b, _) :: AI))
end Gab
end
section
set_option linter.unusedSimpArgs false
set_option linter.unusedVariables false
set_option maxHeartbeats 4000000
set_option maxRecDepth 100000
namespace Gab
open Go Go.Proofs
theorem fold_app : ∀ (l r : List (List UInt8)) (w w' : Bool × (List (List UInt8)) × Bool), path_fold l w = some (.inl w') → path_fold (l ++ r) w = path_fold r w'
  | [], r, w, w', h => by cases h; rfl
  | x :: l, r, w, w', h => by
    rw [path_fold] at h
    rw [List.cons_append, path_fold]
    obtain ⟨o, h1, h2⟩ := Option.bind_eq_some_iff.1 h
    rw [h1, Option.bind_some]
    cases o with
    | inl w1 => exact fold_app l r w1 w' h2
    | inr e => cases h2
theorem fold_one {x : List UInt8} {w w' : Bool × (List (List UInt8)) × Bool} (h : path_step w x = some (.inl w')) : path_fold [x] w = some (.inl w') := by
  rw [path_fold, h]; rfl
def path_Parse_P (B : Kn) (L : Own) (r : (Bool × (List (List UInt8)) × Bool) × Int) : AV → St → Prop := C1 B L fun B' v e0 => ∃ w0 b0 n0 c0, v = .tup [.agg [.bool r.1.1, w0, .bool r.1.2.2], .int .i64 r.2] ∧ e0 = oe b0 n0 c0 ∧ OSl Ty.str B' w0 b0 n0 c0 r.1.2.1
theorem path_Parse_ok {B0 : Kn} {L : Own} {a0 : List UInt8} {r : (Bool × (List (List UInt8)) × Bool) × Int} (h : path_Parse a0 = some r) : ∀ st, Hp B0 L st → ASpec Tryz.prog 13 [.str a0] st (path_Parse_P B0 L r) := by
  unfold path_Parse at h
  refine bodyA (A := []) Tryz.func13 rfl (c := bodyOf Tryz.f13) rfl Tryz.ntmps13 (lb rfl) fun n0 => ?_
  repeat refine WX.seq ?_
  refine WX.reg ?_
  refine WO.md (MOp.alloc ti33 rfl) rfl rfl ?_
  rintro _ _ ⟨b2, rfl, rfl⟩
  refine WO.md (MOp.alloc ti34 rfl) rfl rfl ?_
  rintro _ _ ⟨b3, rfl, rfl⟩
  refine WO.nil ?_
  repeat refine WX.seq ?_
  refine WX.block ?_
  repeat refine WX.seq ?_
  refine WX.reg ?_
  refine WO.q (.mv (v := .str _) rfl) rfl rfl ?_
  refine WO.q (.r fun _ => rfl) rfl rfl ?_
  refine WO.q (.as (v := .bool _) rfl) rfl rfl ?_
  refine WO.nil ?_
  repeat refine WX.seq ?_
  rcases bsp (decide (a0 = ([] : List UInt8))) with k1 | k1
  · have q1 := of_decide_eq_true k1
    rw [if_pos q1] at h
    obtain rfl := Option.some.inj h
    refine WX.condT rfl k1 ?_
    repeat refine WX.seq ?_
    refine WX.reg ?_
    refine WO.q (.bd (bd33_n)) rfl rfl ?_
    refine WO.mn (MOp.storeW rfl (cA rfl) (.t .h) ti33 rfl rfl rfl) rfl ?_
    rintro _ _ rfl
    refine WO.mn (MOp.storeW rfl (cI rfl) .h ti34 rfl rfl rfl) rfl ?_
    rintro _ _ rfl
    refine WO.nil ?_
    exact WX.ret (rs_ (rs_cell (.ldA (i := 1) rfl rfl rfl ti33 rfl) (rs_cell (.ldS (i := 0) rfl rfl rfl ti34 rfl) rs_nil))) fun st hp => ⟨B0, _, KLe.refl B0, ((hp.pk [] (by decide)).skip 0), _, 0, true, [], rfl, rfl, OSl.none _ _⟩
  · have q1 := of_decide_eq_false k1
    rw [if_neg q1] at h
    refine WX.condF rfl k1 ?_
    repeat refine WX.seq ?_
    refine WX.reg ?_
    refine WO.q (.mv (v := .str _) rfl) rfl rfl ?_
    refine WO.q (.len rfl rfl rfl (evslen ti9 rfl _)) rfl rfl ?_
    refine WO.q (.r fun _ => rfl) rfl rfl ?_
    refine WO.q (.as (v := .bool _) rfl) rfl rfl ?_
    refine WO.nil ?_
    repeat refine WX.seq ?_
    rcases bsp (decide (256 < (a0.length : Int))) with k2 | k2
    · have q2 := of_decide_eq_true k2
      rw [if_pos q2] at h
      obtain rfl := Option.some.inj h
      refine WX.condT rfl k2 ?_
      repeat refine WX.seq ?_
      refine WX.reg ?_
      refine WO.q (.bd (bd33_n)) rfl rfl ?_
      refine WO.mn (MOp.storeW rfl (cA rfl) (.t .h) ti33 rfl rfl rfl) rfl ?_
      rintro _ _ rfl
      refine WO.mn (MOp.storeW rfl (cI rfl) .h ti34 rfl rfl rfl) rfl ?_
      rintro _ _ rfl
      refine WO.nil ?_
      exact WX.ret (rs_ (rs_cell (.ldA (i := 1) rfl rfl rfl ti33 rfl) (rs_cell (.ldS (i := 0) rfl rfl rfl ti34 rfl) rs_nil))) fun st hp => ⟨B0, _, KLe.refl B0, ((hp.pk [] (by decide)).skip 0), _, 0, true, [], rfl, rfl, OSl.none _ _⟩
    · have q2 := of_decide_eq_false k2
      rw [if_neg q2] at h
      obtain ⟨p, hp1, h⟩ := Option.bind_eq_some_iff.1 h
      obtain ⟨fo, hfo, h⟩ := Option.bind_eq_some_iff.1 h
      refine WX.condF rfl k2 ?_
      refine WX.skip ?_
      refine WX.pop ?_
      repeat refine WX.seq ?_
      refine WX.reg ?_
      refine WO.q (.mv (v := .str _) rfl) rfl rfl ?_
      refine WO.cS rfl rfl (strings_HasPrefix_ok hp1) rfl rfl rfl ?_
      rintro _ rfl
      refine WO.q (.bd (bd33_0 (cB rfl))) rfl rfl ?_
      refine WO.md (MOp.alloc ti33 rfl) rfl rfl ?_
      rintro _ _ ⟨b4, rfl, rfl⟩
      refine WO.mn (MOp.storeW rfl (cA rfl) .h ti33 rfl rfl rfl) rfl ?_
      rintro _ _ rfl
      refine WO.nil ?_
      repeat refine WX.seq ?_
      refine WX.reg ?_
      refine WO.q (.mv (v := .str _) rfl) rfl rfl ?_
      refine WO.cx rfl rfl splitSeq_new rfl rfl rfl ?_
      rintro _ B _ hB ⟨c1, c2, c3, rfl, rfl⟩
      refine WO.nil ?_
      repeat refine WX.seq ?_
      refine WX.block ?_
      refine WX.keep [2, 3, 4, 20] (WX.pk [3, 4, 5, 0, 1, 2] (by decide) ?_) rfl
      refine WX.addn [3] ?_
      refine WX.beside (A' := [(b4, some (OV.c [.bool p, .sl 0 0 0 0 0 true, .bool false])), (b3, some (OV.c [.int .i64 0])), (b2, some (OV.c [.bool false, .sl 0 0 0 0 0 true, .bool false])), oe 0 true []]) (C0 := [(c3, some (OV.c [.int .i64 0])), (c2, some (OV.c [.str [47]])), (c1, some (OV.c [.str a0]))]) (List.Perm.refl _) ?_
      refine WX.rangeOutD (fun pre B1 A => ∃ (w : Bool × (List (List UInt8)) × Bool) (v : AV) (b : Nat) (nl : Bool) (cs : List AV), path_fold pre (p, [], false) = some (.inl w) ∧ OSl Ty.str B1 v b nl cs w.2.1 ∧ A = [(b4, some (OV.c [.bool w.1, v, .bool w.2.2])), (b3, some (OV.c [.int .i64 0])), (b2, some (OV.c [.bool false, .sl 0 0 0 0 0 true, .bool false])), oe b nl cs])
        (fun c B1 A => c = .ret ∧ ∃ e, path_fold (splitB a0) (p, [], false) = some (.inr e) ∧ A = [(b3, some (OV.c [.int .i64 e])), (b2, some (OV.c [.bool false, .sl 0 0 0 0 0 true, .bool false]))]) rfl (splitS (by omega)) rfl (by decide) rfl rfl ?_ ⟨(p, [], false), _, 0, true, [], rfl, OSl.none _ _, rfl⟩ ?_ ?_
      · rintro fn l D b pre x post B1 AI L' hB1 ⟨w, v, bb, nl, cs, hw, ho, rfl⟩ hsp n1
        obtain ⟨_, _, _, _, _, rfl⟩ := ho.isl
        have hfull : path_fold (x :: post) w = some fo := by rw [← fold_app pre (x :: post) _ _ hw, ← hsp]; exact hfo
        rw [path_fold] at hfull
        obtain ⟨so, hst, hrest⟩ := Option.bind_eq_some_iff.1 hfull
        unfold path_step at hst
        repeat refine WX.seq ?_
        refine WX.reg ?_
        refine WO.q (.as (v := .str _) rfl) rfl rfl ?_
        refine WO.nil ?_
        refine WX.body (KLe.refl _) ?_
        repeat refine WX.seq ?_
        refine WX.block ?_
        repeat refine WX.seq ?_
        refine WX.reg ?_
        refine WO.q (.mv (v := .str _) rfl) rfl rfl ?_
        refine WO.q (.r fun _ => rfl) rfl rfl ?_
        refine WO.q (.mv (v := .bool _) rfl) rfl rfl ?_
        rcases bsp (decide (x = ([] : List UInt8))) with k3 | k3
        · have q3 := of_decide_eq_true k3
          refine WO.sd (wg rfl rfl (gfn k3)) rfl ?_
          refine WO.sd (wg rfl rfl (gfn k3)) rfl ?_
          refine WO.q (.ptv (v := .bool _) rfl k3 rfl) rfl rfl ?_
          refine WO.q (.fa (fa33_2 _ _)) rfl rfl ?_
          refine WO.mn (MOp.store (cs' := [.bool w.1, _, .bool true]) rfl (cB rfl) (.t .h) ti4 rfl rfl (lb rfl) rfl) rfl ?_
          rintro _ _ rfl
          refine WO.nil ?_
          repeat refine WX.seq ?_
          refine WX.reg ?_
          refine WO.q (.fa (fa33_2 _ _)) rfl rfl ?_
          refine WO.q (.ldS (i := 1) rfl rfl rfl ti4 rfl) rfl rfl ?_
          refine WO.nil ?_
          repeat refine WX.seq ?_
          refine WX.condT rfl rfl ?_
          refine WX.exit rfl ?_
          exact WX.rnd (KLe.refl _) ⟨(w.1, w.2.1, true), _, _, _, _, by rw [fold_app pre [x] _ _ hw]; exact fold_one (by unfold path_step; rw [if_pos (by simp [q3])]), ho, rfl⟩
        · have q3 := of_decide_eq_false k3
          refine WO.q (.mv (v := .str _) rfl) (wg rfl rfl (gf k3)) rfl ?_
          refine WO.q (.r fun _ => rfl) (wg rfl rfl (gf k3)) rfl ?_
          refine WO.q (.pfv (v := .bool _) rfl k3 rfl) rfl rfl ?_
          refine WO.q (.fa (fa33_2 _ _)) rfl rfl ?_
          rcases bsp (decide (x = ([46] : List UInt8))) with k4 | k4
          · have q4 := of_decide_eq_true k4
            refine WO.mn (MOp.store (cs' := [.bool w.1, _, .bool (decide (x = ([46] : List UInt8)))]) rfl (cB rfl) (.t .h) ti4 rfl rfl (lb rfl) rfl) rfl ?_
            rintro _ _ rfl
            refine WO.nil ?_
            repeat refine WX.seq ?_
            refine WX.reg ?_
            refine WO.q (.fa (fa33_2 _ _)) rfl rfl ?_
            refine WO.q (.ldS (i := 1) rfl rfl rfl ti4 rfl) rfl rfl ?_
            refine WO.nil ?_
            repeat refine WX.seq ?_
            refine WX.condT rfl k4 ?_
            refine WX.exit rfl ?_
            exact WX.rnd (KLe.refl _) ⟨(w.1, w.2.1, true), _, _, _, _, by rw [fold_app pre [x] _ _ hw]; exact fold_one (by unfold path_step; rw [if_pos (by simp [q4])]), ho, by rw [k4]⟩
          · have q4 := of_decide_eq_false k4
            refine WO.mn (MOp.store (cs' := [.bool w.1, _, .bool (decide (x = ([46] : List UInt8)))]) rfl (cB rfl) (.t .h) ti4 rfl rfl (lb rfl) rfl) rfl ?_
            rintro _ _ rfl
            refine WO.nil ?_
            repeat refine WX.seq ?_
            refine WX.reg ?_
            refine WO.q (.fa (fa33_2 _ _)) rfl rfl ?_
            refine WO.q (.ldS (i := 1) rfl rfl rfl ti4 rfl) rfl rfl ?_
            refine WO.nil ?_
            repeat refine WX.seq ?_
            have hd : ¬ (x = [] ∨ x = [46]) := fun e => e.elim q3 q4
            rw [if_neg hd] at hst
            obtain ⟨e, hnm, hst⟩ := Option.bind_eq_some_iff.1 hst
            refine WX.condF rfl k4 ?_
            refine WX.skip ?_
            repeat refine WX.seq ?_
            refine WX.reg ?_
            refine WO.q (.mv (v := .str _) rfl) rfl rfl ?_
            refine WO.cS rfl rfl (dir_Name_ok hnm) rfl rfl rfl ?_
            rintro _ rfl
            refine WO.q (.as (v := .int _ _) rfl) rfl rfl ?_
            refine WO.nil ?_
            repeat refine WX.seq ?_
            refine WX.reg ?_
            refine WO.q (.mv (v := .int _ _) rfl) rfl rfl ?_
            refine WO.q (.r fun _ => rfl) rfl rfl ?_
            refine WO.q (.mv (v := .bool _) rfl) rfl rfl ?_
            rw [k4]
            rcases bsp (decide (e ≠ 0)) with k5 | k5
            · have q5 := of_decide_eq_true k5
              refine WO.q (.mv (v := .str _) rfl) (wg rfl rfl (gt k5)) rfl ?_
              refine WO.q (.r fun _ => rfl) (wg rfl rfl (gt k5)) rfl ?_
              refine WO.q (.ptv (v := .bool _) rfl k5 rfl) rfl rfl ?_
              refine WO.nil ?_
              repeat refine WX.seq ?_
              rcases bsp (decide (x = ([46, 46] : List UInt8))) with k6 | k6
              · have q6 := of_decide_eq_true k6
                have hc : ¬ (e ≠ 0 ∧ x ≠ [46, 46]) := fun e => e.2 q6
                rw [if_neg hc] at hst
                obtain ⟨l', happ, hst⟩ := Option.bind_eq_some_iff.1 hst
                refine WX.condF rfl (f_not k6) ?_
                refine WX.skip ?_
                repeat refine WX.seq ?_
                refine WX.reg ?_
                refine WO.q (.fa (fa33_1 _ _)) rfl rfl ?_
                refine WO.q (.ldS (i := 1) rfl rfl rfl ti31 rfl) rfl rfl ?_
                refine WO.q (.mv (v := .str _) rfl) rfl rfl ?_
                refine WO.md (MOp.bs (l := ([x] : List (List UInt8))) sl31 (RL.cons Rs RL.nil) (lb rfl) rfl rfl) rfl rfl ?_
                rintro v12 _ ⟨b10, o11, rfl⟩
                obtain ⟨_, _, _, _, _, rfl⟩ := o11.isl
                refine WO.md (MOp.app rfl rfl rfl sl31 ho (Src.o (i := 0) sl31 o11 rfl) happ rfl rfl (fun _ => (.t (.t (.t (.t (.t .h))))))) rfl rfl ?_
                rintro v18 _ ⟨b15, n16, o17, rfl⟩
                obtain ⟨_, _, _, _, _, rfl⟩ := o17.isl
                refine WO.q (.fa (fa33_1 _ _)) rfl rfl ?_
                refine WO.mn (MOp.store (cs' := [.bool w.1, _, .bool false]) rfl (cL rfl) (.t (.t .h)) ti31 rfl rfl (lb rfl) rfl) rfl ?_
                rintro _ _ rfl
                refine WO.nil ?_
                refine WX.pop ?_
                refine WX.pk [1, 2, 3, 4, 5] (by decide) ?_
                exact WX.rnd (KLe.refl _) ⟨(w.1, l', false), _, _, _, _, by rw [fold_app pre [x] _ _ hw]; exact fold_one (by unfold path_step; rw [if_neg hd, hnm, Option.bind_some, if_neg hc, happ]; rfl), o17, rfl⟩
              · have q6 := of_decide_eq_false k6
                rw [if_pos ⟨q5, q6⟩] at hst
                obtain rfl := Option.some.inj hst
                obtain rfl := Option.some.inj hrest
                refine WX.condT rfl (t_not k6) ?_
                repeat refine WX.seq ?_
                refine WX.reg ?_
                refine WO.q (.bd (bd33_n)) rfl rfl ?_
                refine WO.q (.mv (v := .int _ _) rfl) rfl rfl ?_
                refine WO.mn (MOp.storeW rfl (cA rfl) (.t (.t (.t .h))) ti33 rfl rfl rfl) rfl ?_
                rintro _ _ rfl
                refine WO.mn (MOp.storeW rfl (cI rfl) (.t (.t .h)) ti34 rfl rfl rfl) rfl ?_
                rintro _ _ rfl
                refine WO.nil ?_
                refine WX.pk [0, 2, 3] (by decide) ?_
                exact WX.rndR (KLe.refl _) ⟨rfl, e, hfo, rfl⟩
            · have q5 := of_decide_eq_false k5
              have hc : ¬ (e ≠ 0 ∧ x ≠ [46, 46]) := fun e => q5 e.1
              rw [if_neg hc] at hst
              obtain ⟨l', happ, hst⟩ := Option.bind_eq_some_iff.1 hst
              refine WO.sd (wg rfl rfl (gtn k5)) rfl ?_
              refine WO.sd (wg rfl rfl (gtn k5)) rfl ?_
              refine WO.q (.pfv (v := .bool _) rfl k5 rfl) rfl rfl ?_
              refine WO.nil ?_
              repeat refine WX.seq ?_
              refine WX.condF rfl rfl ?_
              refine WX.skip ?_
              repeat refine WX.seq ?_
              refine WX.reg ?_
              refine WO.q (.fa (fa33_1 _ _)) rfl rfl ?_
              refine WO.q (.ldS (i := 1) rfl rfl rfl ti31 rfl) rfl rfl ?_
              refine WO.q (.mv (v := .str _) rfl) rfl rfl ?_
              refine WO.md (MOp.bs (l := ([x] : List (List UInt8))) sl31 (RL.cons Rs RL.nil) (lb rfl) rfl rfl) rfl rfl ?_
              rintro v12 _ ⟨b10, o11, rfl⟩
              obtain ⟨_, _, _, _, _, rfl⟩ := o11.isl
              refine WO.md (MOp.app rfl rfl rfl sl31 ho (Src.o (i := 0) sl31 o11 rfl) happ rfl rfl (fun _ => (.t (.t (.t (.t (.t .h))))))) rfl rfl ?_
              rintro v18 _ ⟨b15, n16, o17, rfl⟩
              obtain ⟨_, _, _, _, _, rfl⟩ := o17.isl
              refine WO.q (.fa (fa33_1 _ _)) rfl rfl ?_
              refine WO.mn (MOp.store (cs' := [.bool w.1, _, .bool false]) rfl (cL rfl) (.t (.t .h)) ti31 rfl rfl (lb rfl) rfl) rfl ?_
              rintro _ _ rfl
              refine WO.nil ?_
              refine WX.pop ?_
              refine WX.pk [1, 2, 3, 4, 5] (by decide) ?_
              exact WX.rnd (KLe.refl _) ⟨(w.1, l', false), _, _, _, _, by rw [fold_app pre [x] _ _ hw]; exact fold_one (by unfold path_step; rw [if_neg hd, hnm, Option.bind_some, if_neg hc, happ]; rfl), o17, rfl⟩
      · rintro B1 A1 hB1 ⟨w, v, bb, nl, cs, hw, ho, rfl⟩
        obtain ⟨_, _, _, _, _, rfl⟩ := ho.isl
        obtain rfl : fo = .inl w := Option.some.inj (hfo.symm.trans hw)
        obtain rfl := Option.some.inj h
        refine WX.pop ?_
        repeat refine WX.seq ?_
        refine WX.reg ?_
        refine WO.q (.ldA (i := 0) rfl rfl rfl ti33 rfl) rfl rfl ?_
        refine WO.mn (MOp.storeW rfl (cA rfl) (.t (.t .h)) ti33 rfl rfl rfl) rfl ?_
        rintro _ _ rfl
        refine WO.mn (MOp.storeW rfl (cI rfl) (.t .h) ti34 rfl rfl rfl) rfl ?_
        rintro _ _ rfl
        refine WO.nil ?_
        exact WX.ret (rs_ (rs_cell (.ldA (i := 2) rfl rfl rfl ti33 rfl) (rs_cell (.ldS (i := 1) rfl rfl rfl ti34 rfl) rs_nil))) fun st hp => ⟨B1, _, hB.trans hB1, hp.pk [3] (by decide), _, _, nl, _, rfl, rfl, ho⟩
      · rintro c B1 A1 hB1 ⟨rfl, e, he, rfl⟩
        obtain rfl : fo = .inr e := Option.some.inj (hfo.symm.trans he)
        obtain rfl := Option.some.inj h
        refine ⟨rfl, ?_⟩
        exact WX.ret (rs_ (rs_cell (.ldA (i := 1) rfl rfl rfl ti33 rfl) (rs_cell (.ldS (i := 0) rfl rfl rfl ti34 rfl) rs_nil))) fun st hp => ⟨B1, _, hB.trans hB1, ((hp.pk [] (by decide)).skip 0), _, 0, true, [], rfl, rfl, OSl.none _ _⟩
end Gab
end
