/- slices.SortFunc over the entries of a directory, by the kit's contract. -/
import Derived.Test.YtcdldgoehoopmaaDoorTy
import Derived.Test.YtcdldgoehoopmaaDoorPl
import Derived.Test.YtcdldgoehoopmaaDoorPs
import Derived.Test.YtcdldgoehoopmaaDoorFpPre0
import Derived.Shelf.SlSortCmp.NoneTotal
import Derived.Ground.SlsfProg
set_option linter.unusedSimpArgs false
set_option linter.unusedVariables false
set_option maxHeartbeats 4000000
set_option maxRecDepth 100000
namespace Go.Proofs
open Go.Shelf
def Tryd.sortL_ren : Go.Shelf.Ren := ⟨fun | 6 => 31 | 15 => 43 | 14 => 42 | 28 => 60 | 29 => 61 | 20 => 52 | 21 => 53 | 22 => 54 | 23 => 55 | 24 => 56 | 25 => 57 | 26 => 58 | 27 => 59 | 46 => 73 | 47 => 74 | 48 => 75 | 49 => 76 | 50 => 77 | 57 => 85 | n => n, fun | 22 => 38 | 24 => 42 | 25 => 71 | 3 => 3 | 39 => 82 | 0 => 0 | 53 => 99 | 55 => 76 | 4 => 4 | 46 => 93 | 45 => 92 | 50 => 34 | 5 => 5 | 9 => 9 | 66 => 113 | 70 => 117 | 76 => 123 | 77 => 124 | n => n, fun | n => n⟩
theorem Tryd.sortL : Go.Proofs.SlLaysF0.n6 Tryd.prog Tryd.sortL_ren := {
  mixed := by kernel_rfl,
  f6 := ⟨Tryd.f31.name, by decide, Tryd.func31.trans (congrArg some (by kernel_rfl))⟩,
  f14 := ⟨Tryd.f42.name, by decide, Tryd.func42.trans (congrArg some (by kernel_rfl))⟩,
  f15 := Tryd.func43.trans (congrArg some (by kernel_rfl)),
  f20 := ⟨Tryd.f52.name, by decide, Tryd.func52.trans (congrArg some (by kernel_rfl))⟩,
  f21 := ⟨Tryd.f53.name, by decide, Tryd.func53.trans (congrArg some (by kernel_rfl))⟩,
  f22 := ⟨Tryd.f54.name, by decide, Tryd.func54.trans (congrArg some (by kernel_rfl))⟩,
  f23 := ⟨Tryd.f55.name, by decide, Tryd.func55.trans (congrArg some (by kernel_rfl))⟩,
  f24 := ⟨Tryd.f56.name, by decide, Tryd.func56.trans (congrArg some (by kernel_rfl))⟩,
  f25 := ⟨Tryd.f57.name, by decide, Tryd.func57.trans (congrArg some (by kernel_rfl))⟩,
  f26 := ⟨Tryd.f58.name, by decide, Tryd.func58.trans (congrArg some (by kernel_rfl))⟩,
  f27 := ⟨Tryd.f59.name, by decide, Tryd.func59.trans (congrArg some (by kernel_rfl))⟩,
  f28 := Tryd.func60.trans (congrArg some (by kernel_rfl)),
  f29 := Tryd.func61.trans (congrArg some (by kernel_rfl)),
  f46 := ⟨Tryd.f73.name, by decide, Tryd.func73.trans (congrArg some (by kernel_rfl))⟩,
  f47 := Tryd.func74.trans (congrArg some (by kernel_rfl)),
  f48 := Tryd.func75.trans (congrArg some (by kernel_rfl)),
  f49 := ⟨Tryd.f76.name, by decide, Tryd.func76.trans (congrArg some (by kernel_rfl))⟩,
  f50 := ⟨Tryd.f77.name, by decide, Tryd.func77.trans (congrArg some (by kernel_rfl))⟩,
  f57 := ⟨Tryd.f85.name, by decide, Tryd.func85.trans (congrArg some (by kernel_rfl))⟩,
  t0 := Tryd.underlying0,
  a0 := Tryd.isAgg0,
  z0 := Tryd.sizeOf0,
  v0 := Tryd.zeroValue0,
  t3 := Tryd.underlying3,
  a3 := Tryd.isAgg3,
  z3 := Tryd.sizeOf3,
  v3 := Tryd.zeroValue3,
  t4 := Tryd.underlying4,
  a4 := Tryd.isAgg4,
  z4 := Tryd.sizeOf4,
  v4 := Tryd.zeroValue4,
  t5 := Tryd.underlying5,
  a5 := Tryd.isAgg5,
  z5 := Tryd.sizeOf5,
  v5 := Tryd.zeroValue5,
  t9 := Tryd.underlying9,
  a9 := Tryd.isAgg9,
  z9 := Tryd.sizeOf9,
  v9 := Tryd.zeroValue9,
  t22 := Tryd.underlying38,
  a22 := Tryd.isAgg38,
  z22 := Tryd.sizeOf38,
  v22 := Tryd.zeroValue38,
  t25 := Tryd.underlying71,
  a25 := Tryd.isAgg71,
  z25 := Tryd.sizeOf71,
  v25 := Tryd.zeroValue71,
  t39 := Tryd.underlying82,
  a39 := Tryd.isAgg82,
  z39 := Tryd.sizeOf82,
  v39 := Tryd.zeroValue82,
  t45 := Tryd.underlying92,
  a45 := Tryd.isAgg92,
  z45 := Tryd.sizeOf92,
  v45 := Tryd.zeroValue92,
  t46 := Tryd.underlying93,
  a46 := Tryd.isAgg93,
  z46 := Tryd.sizeOf93,
  v46 := Tryd.zeroValue93,
  t50 := Tryd.underlying34,
  a50 := Tryd.isAgg34,
  z50 := Tryd.sizeOf34,
  v50 := Tryd.zeroValue34,
  t53 := Tryd.underlying99,
  a53 := Tryd.isAgg99,
  z53 := Tryd.sizeOf99,
  v53 := Tryd.zeroValue99,
  t55 := Tryd.underlying76,
  a55 := Tryd.isAgg76,
  z55 := Tryd.sizeOf76,
  v55 := Tryd.zeroValue76,
  t66 := Tryd.underlying113,
  a66 := Tryd.isAgg113,
  z66 := Tryd.sizeOf113,
  v66 := Tryd.zeroValue113,
  t70 := Tryd.underlying117,
  a70 := Tryd.isAgg117,
  z70 := Tryd.sizeOf117,
  v70 := Tryd.zeroValue117,
  t76 := Tryd.underlying123,
  a76 := Tryd.isAgg123,
  z76 := Tryd.sizeOf123,
  v76 := Tryd.zeroValue123,
  t77 := Tryd.underlying124,
  a77 := Tryd.isAgg124,
  z77 := Tryd.sizeOf124,
  v77 := Tryd.zeroValue124 }
end Go.Proofs
namespace Gab
open Go Go.Proofs Go.Sort Go.Shelf

/-- What the comparison hands back. -/
def cfE (x y : List UInt8 × Int) : Int := if Op.bytesLess x.1 y.1 = true then -1 else if x.1 = y.1 then 0 else 1
theorem cfE_eq (x y : List UInt8 × Int) : dir_Dir_List_1 x y = some (cfE x y) := by
  unfold dir_Dir_List_1 cmp_Compare_string cmp_isNaN_string cfE
  by_cases h : Op.bytesLess x.1 y.1 = true
  · simp [h]
  · have h3 : Op.bytesLess y.1 y.1 = false := by rw [bytesLess_eq]; exact decide_eq_false (List.lt_irrefl _)
    by_cases h2 : x.1 = y.1 <;> simp [h, h2, h3]
theorem ltE (x y : List UInt8 × Int) : ltOf cfE x y = decide (x.1 < y.1) := by
  unfold ltOf cfE
  rw [bytesLess_eq]
  by_cases h : x.1 < y.1
  · simp [h]
  · have h3 := List.lt_irrefl y.1
    by_cases h2 : x.1 = y.1 <;> simp [h, h2, h3]
theorem swoE : SWO (ltOf cfE) where
  irrefl x := by rw [ltE]; exact decide_eq_false (List.lt_irrefl _)
  trans x y z h1 h2 := by rw [ltE] at *; exact decide_eq_true (List.lt_trans (of_decide_eq_true h1) (of_decide_eq_true h2))
  ntrans x y z h1 h2 := by
    rw [ltE] at *
    have h1 := List.not_lt.1 (of_decide_eq_false h1)
    have h2 := List.not_lt.1 (of_decide_eq_false h2)
    exact decide_eq_false (List.not_lt.2 (List.le_trans h2 h1))

/-! ### Worlds -/
theorem Rel.updG {ρ : Loc.Map} {st : St} {w w' : World} (h : Rel ρ st w) {b : Nat} {o o' : AObj} {l : Loc} (hb : st.get b = some o) (hrw : o.rw = true) (hl : ρ[b]? = some l)
    (hoth : ∀ k, k < w.heap.size → k ≠ l.blk → w'.heap[k]? = w.heap[k]?) (hsz : w.heap.size ≤ w'.heap.size) (hos : w'.os = w.os) (ht : w'.tape = w.tape) (hp : w'.output = w.output) (hd : w.drawn ≤ w'.drawn) (ho' : ObjRel ρ o' l w') :
    Rel ρ (st.set b o') w' ∧ Step st.n ρ st w ρ (st.set b o') w' := by
  have hof : ∀ i x, (st.set b o').get i = some x → (i = b ∧ x = o') ∨ (i ≠ b ∧ st.get i = some x) := fun i x hi => by
    rw [St.set_get] at hi
    split at hi
    · exact .inl ⟨‹_›, by simpa using hi.symm⟩
    · exact .inr ⟨‹_›, hi⟩
  refine gi2 h ⟨⟨h.len, fun i x hi => ?_, fun i i' l1 l2 x x' hne hi hx hi' h1 h2 => ?_⟩, ⟨.refl _ _, hos, ht, hp, hd, hsz, fun k hk hno => hoth k hk (Ne.symm (hno b o l hb hrw hl)), fun i x l1 hi hx h1 _ => ?_⟩⟩
  · rcases hof i x hi with ⟨rfl, rfl⟩ | ⟨hne, hi⟩
    · exact ⟨l, hl, ho'⟩
    · obtain ⟨l', hl', hr⟩ := h.obj i x hi
      exact ⟨l', hl', hr.world (hoth _ hr.lt (Ne.symm (h.sep b i l l' o x (Ne.symm hne) hb hrw hi hl hl')))⟩
  · rcases hof i x hi with ⟨e1, e2⟩ | ⟨_, hi1⟩ <;> rcases hof i' x' hi' with ⟨e3, e4⟩ | ⟨_, hi2⟩
    · exact absurd (e1.trans e3.symm) hne
    · subst e1; exact h.sep i i' l1 l2 o x' hne hb hrw hi2 h1 h2
    · subst e3; exact fun e => h.sep i' i l2 l1 o x (Ne.symm hne) hb hrw hi1 h2 h1 e.symm
    · exact h.sep i i' l1 l2 x x' hne hi1 hx hi2 h1 h2
  · rcases hof i x hi with ⟨rfl, rfl⟩ | ⟨hne, hi⟩
    · exact ⟨i, o, l1, hb, hrw, h1, rfl⟩
    · exact ⟨i, x, l1, hi, hx, h1, rfl⟩
def encE (x : List UInt8 × Int) : List Value := [.string ⟨x.1.toArray⟩, .int .i64 x.2]
theorem sortW_heap {w : World} {blk off m k : Nat} {d : Array (List UInt8 × Int)} {os : Array Obj} (hk : k < w.heap.size) (hne : k ≠ blk) : (sortWorldK encE 2 w blk off m d os).heap[k]? = w.heap[k]? := by
  show ((w.heap.modify blk _) ++ os)[k]? = _
  rw [Array.getElem?_append_left (by simpa using hk), Array.getElem?_modify, if_neg (Ne.symm hne)]
theorem sortW_blk {w : World} {blk off m : Nat} {d : Array (List UInt8 × Int)} {os : Array Obj} {c : Array Value} {e : TypeId} {fz : Nat × Nat} (hk : w.heap[blk]? = some (.cells c e fz)) : (sortWorldK encE 2 w blk off m d os).heap[blk]? = some (.cells (putCells id off (flatK encE 2 d) c) e fz) := by
  have hlt := (Array.getElem?_eq_some_iff.1 hk).1
  show ((w.heap.modify blk _) ++ os)[blk]? = _
  rw [Array.getElem?_append_left (by simpa using hlt), Array.getElem?_modify, if_pos rfl, hk]
  rfl
theorem step_grow {ρ' : Loc.Map} {st' : St} {W w' : World} (h : Step 0 [] ⟨0, fun _ => none⟩ W ρ' st' w') : ∃ q os', w' = Go.Sort.grow (W.drewN q) os' := by
  refine ⟨w'.drawn - W.drawn, w'.heap.extract W.heap.size w'.heap.size, ?_⟩
  have h1 := h.os; have h2 := h.tape; have h3 := h.output; have h4 := h.drawn; have h5 := h.size
  have h6 : w'.heap = W.heap ++ w'.heap.extract W.heap.size w'.heap.size := by
    apply Array.ext_getElem?
    intro k
    rcases Nat.lt_or_ge k W.heap.size with hk | hk
    · rw [Array.getElem?_append_left hk, h.keep k hk (fun b o l hb => by cases hb)]
    · rw [Array.getElem?_append_right hk]
      rcases Nat.lt_or_ge k w'.heap.size with hk2 | hk2
      · have e1 : (w'.heap.extract W.heap.size w'.heap.size)[k - W.heap.size]? = w'.heap[W.heap.size + (k - W.heap.size)]? := by
          rw [Array.getElem?_eq_getElem (by simp; omega), Array.getElem?_eq_getElem (by omega), Array.getElem_extract]
        rw [e1, show W.heap.size + (k - W.heap.size) = k by omega]
      · rw [Array.getElem?_eq_none (by omega), Array.getElem?_eq_none (by simp; omega)]
  cases w' with
  | mk a1 a2 a3 a4 a5 =>
    cases W with
    | mk b1 b2 b3 b4 b5 =>
      simp only at h1 h2 h3 h4 h6
      subst h1; subst h2; subst h3
      show (⟨_, _, _, _, _⟩ : World) = ⟨_, _, _, _, _⟩
      congr 1
      show a3 = b3 + (a3 - b3)
      omega

/-! ### Cells -/
def avE (x : List UInt8 × Int) (r : Nat) : AV := if r = 0 then .str x.1 else .int .i64 x.2
def cellsE (l : List (List UInt8 × Int)) : List AV := (l.map fun x => [AV.str x.1, AV.int .i64 x.2]).flatten
theorem cellsE_len : ∀ l, (cellsE l).length = l.length * 2
  | [] => rfl
  | x :: l => by
    have := cellsE_len l
    unfold cellsE at this ⊢
    rw [List.map_cons, List.flatten_cons, List.length_append, this, List.length_cons]
    simp; omega
theorem cellsE_at : ∀ (l : List (List UInt8 × Int)) (j : Nat), j < l.length * 2 → (cellsE l)[j]? = some (avE l[j / 2]! (j % 2))
  | [], j, h => by simp at h
  | x :: l, 0, h => rfl
  | x :: l, 1, h => rfl
  | x :: l, j + 2, h => by
    have ih := cellsE_at l j (by simp at h; omega)
    have e1 : (j + 2) / 2 = j / 2 + 1 := by omega
    have e2 : (j + 2) % 2 = j % 2 := by omega
    rw [e1, e2]
    show (cellsE l)[j]? = _
    rw [ih]
    simp
theorem rl_cells {B : Kn} : ∀ {l : List (List UInt8 × Int)} {cs : List AV}, RL EPStIi64Q B cs l → cs = cellsE l
  | [], cs, h => h
  | x :: l, cs, h => by
    obtain ⟨c, r, rfl, ⟨c1, c2, rfl, h1, h2⟩, h3⟩ := h
    have h1 : c1 = [AV.str x.1] := h1
    have h2 : c2 = [AV.int .i64 x.2] := h2
    rw [rl_cells h3, h1, h2]
    rfl
theorem cells_rl {B : Kn} : ∀ (l : List (List UInt8 × Int)), RL EPStIi64Q B (cellsE l) l
  | [] => rfl
  | x :: l => ⟨[AV.str x.1, AV.int .i64 x.2], cellsE l, rfl, ⟨[AV.str x.1], [AV.int .i64 x.2], rfl, rfl, rfl⟩, cells_rl l⟩
theorem avE_enc {ρ : Loc.Map} {x : List UInt8 × Int} {r : Nat} {v : Value} (hr : r < 2) (h : RV ρ (avE x r) v) : v = (encE x)[r]! := by
  rcases (show r = 0 ∨ r = 1 by omega) with rfl | rfl
  · have h : v = .string ⟨x.1.toArray⟩ := h
    rw [h]; rfl
  · have h : v = .int .i64 x.2 := h
    rw [h]; rfl
theorem enc_avE {ρ : Loc.Map} {x : List UInt8 × Int} {r : Nat} (hr : r < 2) : RV ρ (avE x r) (encE x)[r]! := by
  rcases (show r = 0 ∨ r = 1 by omega) with rfl | rfl
  · rfl
  · rfl
theorem closure_E (x y : List UInt8 × Int) {W : World} (hg : ∀ (g : Nat) (cs : Array Value), globT g = some cs → ∃ e fz, W.heap[g]? = some (.cells cs e fz)) :
    Calls Tryd.prog 32 #[.agg (encE x).toArray, .agg (encE y).toArray] W fun e w' => e = .returned (.int .i64 (cfE x y)) ∧ ∃ q os', w' = Go.Sort.grow (W.drewN q) os' := by
  have h := dir_Dir_List_1_ok (B0 := ⟨fun _ => none, fun _ => []⟩) (L := []) (cfE_eq x y) ⟨0, fun _ => none⟩ ⟨⟨fun b o hb => (by cases hb), fun b o hb => (by cases hb)⟩, fun b o hb => (by cases hb), List.Pairwise.nil⟩
  refine (h.2 [] W [.agg (encE x).toArray, .agg (encE y).toArray] ⟨⟨rfl, fun b o hb => (by cases hb), fun b b' l l' o o' _ hb => (by cases hb)⟩, ⟨hg, fun b o l hb => (by cases hb)⟩⟩ ?_).mono ?_
  · exact ⟨_, _, rfl, ⟨_, rfl, _, _, rfl, rfl, _, _, rfl, rfl, rfl⟩, _, _, rfl, ⟨_, rfl, _, _, rfl, rfl, _, _, rfl, rfl, rfl⟩, rfl⟩
  · rintro e w' ⟨c, v, ρ', st', rfl, ⟨_, rfl⟩, hv, _, hs⟩
    have hv : c = .int .i64 (cfE x y) := hv
    exact ⟨by rw [hv], step_grow hs⟩

-- KIT0
theorem sort_calls {w : World} {blk off cap : Nat} {l : List (List UInt8 × Int)} (hlen : l.length ≤ 1000000) (hH : HoldsK encE 2 w blk off l.toArray) (hblk : blk < w.heap.size)
    (hg : ∀ (g : Nat) (cs : Array Value), globT g = some cs → ∃ e fz, w.heap[g]? = some (.cells cs e fz)) (hgb : globT blk = none) :
    Calls Tryd.prog 31 #[.slice (some ⟨blk, off, none⟩) l.length cap, .func (.func 32) #[] #[]] w fun e w' =>
      e = .returned (.tuple #[]) ∧ ∃ d' n os, PermIn 0 l.length l.toArray d' ∧ SortedIn (ltOf cfE) 0 l.length d' ∧ w' = sortWorldK encE 2 w blk off n d' os := by
  have eg : ∀ args w, (callFunc 32 args).run Tryd.prog w = .ok (.enter 32 args) w := enters_of Tryd.func32 (by kernel_rfl) rfl
  have hcmp : CmpLays Tryd.prog 32 #[] encE 2 cfE blk off l.toArray.size w := fun m os dk hs x y => closure_E x y fun g cs hgc => by
    obtain ⟨e, fz, h⟩ := hg g cs hgc
    exact ⟨e, fz, by rw [sortW_heap (Array.getElem?_eq_some_iff.1 h).1 (fun e => by rw [e, hgb] at hgc; cases hgc)]; exact h⟩
  exact AnyQ.slices_SortFunc Tryd.sortL 2 Tryd.isAgg42 Tryd.sizeOf42 encE (fun _ => rfl) (fun x v hv => by simp [encE] at hv; rcases hv with rfl | rfl <;> rfl) cfE swoE 32 #[] blk off cap l.toArray w eg hcmp hH hblk (by simp; omega)
theorem sort_none (a : Option Addr) (cap : Nat) (w : World) : Calls Tryd.prog 31 #[.slice a 0 cap, .func (.func 32) #[] #[]] w fun e w' => e = .returned (.tuple #[]) ∧ w' = w :=
  AnyF.slices_SortFunc_none Tryd.sortL a cap _ w
-- KIT1
theorem perm_list {l : List (List UInt8 × Int)} {d' : Array (List UInt8 × Int)} (h : PermIn 0 l.length l.toArray d') (hs : SortedIn (ltOf cfE) 0 l.length d') (hn : (l.map (·.1)).Nodup) : d' = (sortE l).toArray := by
  obtain ⟨h1, _, h3⟩ := h
  have hsz : d'.size = l.length := by simpa using h1
  have e1 : d'.extract 0 l.length = d' := by rw [← hsz]; exact Array.extract_size
  have e2 : l.toArray.extract 0 l.length = l.toArray := by
    have : l.length = l.toArray.size := by simp
    rw [this]; exact Array.extract_size
  rw [e1, e2] at h3
  apply Array.toList_inj.1
  refine sortE_unique h3 hn (List.pairwise_iff_getElem.2 fun i j hi hj hij => ?_)
  have hj' : j < l.length := by rw [← hsz]; simpa using hj
  have := hs i j (Nat.zero_le _) hij hj'
  rw [ltE] at this
  have := List.not_lt.1 (of_decide_eq_false this)
  rw [getElem!_pos d' i (by simpa using hi), getElem!_pos d' j (by simpa using hj)] at this
  simpa using this
theorem sort_ok {B0 : Kn} {L : Own} {v0 : AV} {b : Nat} {n : Bool} {cs : List AV} {l : List (List UInt8 × Int)} (g : OSl EPStIi64Q B0 v0 b n cs l) (hn : (l.map (·.1)).Nodup) (hl : l.length ≤ 1000000) :
    ∀ st, Hp B0 (oe b n cs :: L) st → ASpec Tryd.prog 31 [v0, .fn (.func 32) [] []] st (fun v s => v = .tup [] ∧ ∃ cs', OSl EPStIi64Q B0 v0 b n cs' (sortE l) ∧ Hp B0 (oe b n cs' :: L) s) := by
  intro st hp
  refine ⟨⟨_, Tryd.func31, rfl, rfl⟩, fun ρ w cargs hr ha => ?_⟩
  obtain ⟨⟨sz, mc, rfl, hle, hsz⟩, hnil, hrl⟩ := g
  obtain ⟨c1, _, rfl, ⟨a, cap, rfl, q1, q2, q3, q4⟩, c2, _, rfl, ⟨cf, cc, rfl, h5, h6⟩, h7⟩ := ha
  have h5 : cf = [] := h5
  have h6 : cc = [] := h6
  have h7 : _ = [] := h7
  subst h5; subst h6; subst h7
  by_cases hemp : l = []
  · subst hemp
    refine (sort_none a cap w).mono ?_
    rintro e w' ⟨rfl, rfl⟩
    exact ⟨_, .tup [], ρ, st, rfl, ⟨rfl, cs, by rw [show sortE [] = [] by simp [sortE]]; exact ⟨⟨sz, mc, rfl, hle, hsz⟩, fun _ => rfl, hrl⟩, hp⟩, ⟨[], rfl, rfl⟩, hr, .refl ..⟩
  · have hpos : 0 < l.length := List.length_pos_iff.2 hemp
    have hnf : n = false := by
      cases n with
      | false => rfl
      | true => exact absurd (hnil rfl) hemp
    subst hnf
    obtain ⟨ad, lc, rfl, hlc, q5⟩ := q4 rfl
    obtain ⟨rfl, q6⟩ : ad = ⟨lc.blk, lc.base + 0, none⟩ ∧ lc.base + 0 + cap * sz ≤ lc.size := by
      rcases q5 with q5 | q5
      · omega
      · exact q5
    have hcs := rl_cells hrl
    subst hcs
    have hb := hp.own b (OV.c (cellsE l)) List.mem_cons_self
    obtain ⟨lc', hlc', c, et, fz, hh, hcsz, hcells, hfz⟩ := hr.obj b _ hb
    rw [hlc] at hlc'; simp at hlc'; subst hlc'
    have hlt := (Array.getElem?_eq_some_iff.1 hh).1
    have hcell : ∀ j, j < l.length * 2 → c[lc.base + j]? = some (encE l[j / 2]!)[j % 2]! := fun j hj => by
      obtain ⟨x, hx, hv⟩ := hcells j _ (cellsE_at l j hj)
      rw [hx, avE_enc (by omega) hv]
    have hH : HoldsK encE 2 w lc.blk (lc.base + 0) l.toArray := fun j hj => by
      rw [size_flatK] at hj
      have hj' : j < l.length * 2 := by simpa using hj
      rw [get_flatK _ _ _ _ hj]
      have hcj := hcell j hj'
      refine ⟨?_, ?_⟩
      · simp only [World.cell?, hh, Nat.add_zero, Option.isSome_none, Bool.false_eq_true, if_false]
        rw [hcj]; simp
      · have hjc : lc.base + j < c.size := (Array.getElem?_eq_some_iff.1 hcj).1
        have := hfz rfl (lc.base + j) hjc
        simp only [World.frozen?, hh, Nat.add_zero]
        simpa using this
    have hgb := hr.gi.gsep b _ lc hb rfl hlc
    refine (sort_calls (cap := cap) hl hH hlt hr.gi.glb hgb).mono ?_
    rintro e w' ⟨rfl, d', m, os, hp1, hs1, rfl⟩
    obtain rfl := perm_list hp1 hs1 hn
    have hlen : (sortE l).length = l.length := (sortE_perm0 l).length_eq
    obtain ⟨hr', hst⟩ := hr.updG (o' := .blk (cellsE (sortE l)) true) hb rfl hlc (w' := sortWorldK encE 2 w lc.blk (lc.base + 0) m (sortE l).toArray os) (fun k hk hne => sortW_heap hk hne) (by show _ ≤ ((w.heap.modify _ _) ++ os).size; simp) rfl rfl rfl (by show w.drawn ≤ w.drawn + m; omega)
      ⟨_, et, fz, sortW_blk hh, by simp [putCells, hcsz], fun j v hj => by
        have hj2 : j < (sortE l).length * 2 := by rw [← cellsE_len]; exact (List.getElem?_eq_some_iff.1 hj).1
        rw [cellsE_at _ _ hj2] at hj
        simp at hj; subst hj
        have hjc : lc.base + j < c.size := (Array.getElem?_eq_some_iff.1 (hcell j (by omega))).1
        refine ⟨_, ?_, enc_avE (by omega)⟩
        simp only [putCells, Array.getElem?_mapIdx, Array.getElem?_eq_getElem hjc, Option.map_some, size_flatK]
        rw [if_pos ⟨by omega, by simp; omega⟩, show lc.base + j - (lc.base + 0) = j by omega, get_flatK _ _ _ _ (by simpa using hj2)]
        simp, fun h j hj => hfz rfl j (by simpa [putCells] using hj)⟩
    exact ⟨_, .tup [], ρ, _, rfl, ⟨rfl, cellsE (sortE l), ⟨⟨sz, mc, by rw [hlen], by rw [hlen]; exact hle, hsz⟩, fun h => (by cases h), cells_rl _⟩,
      Upd.hp (cs := OV.c (cellsE l)) (cs' := OV.c (cellsE (sortE l))) .h hp (fun i hi => set_get_old hi) (set_get_new rfl)⟩, ⟨[], rfl, rfl⟩, hr', hst⟩
section
variable {P : Program} {N n0 : Nat} {ops : Array Oper} {R : Post} {k : List It} {fr : Fr} {B : Kn} {A L : Own}
theorem WO.sort {c : Call} {ty : TypeId} {ps : String} {af : Array Edge} {g : Option (Nat × Bool)} {rest : List Oper} {gop : Operand} {f : FuncId} {first cap args : List AV} {α : Type} {t : Ty α} {v0 : AV} {b : Nat} {n : Bool} {cs : List AV} {l : List α} {d : Option Nat}
    (hc : c.callee = .value gop) (hg : fr.ev gop = .fn (.func f) first cap) (hs : ∀ st, Hp B (oe b n cs :: (A ++ L)) st → ASpec P f args st (fun v s => v = .tup [] ∧ ∃ cs', OSl t B v0 b n cs' l ∧ Hp B (oe b n cs' :: (A ++ L)) s)) (ha : first ++ c.args.toList.map fr.ev ++ cap = args) (hw : wantedA ops.toList fr ⟨d, .call c, ty, ps, af, g⟩ = some true) (hd : dstOk N d = true)
    (h : ∀ cs', OSl t B v0 b n cs' l → WO P N n0 ops rest R k (fr.put d (.tup [])) B (oe b n cs' :: A) L) : WO P N n0 ops (⟨d, .call c, ty, ps, af, g⟩ :: rest) R k fr B (oe b n cs :: A) L := fun st hl hp =>
  AOps.call rfl hc hw hg ha hd ((hs st hp).lw.mono fun v s ⟨⟨e, cs', h1, h2⟩, h3⟩ => by subst e; exact h cs' h1 s h3 h2)
end
end Gab
