/- The operations of the model over the abstract memory, continued: making values, slices, fields, comparisons, numbers. -/
import Derived.Test.YtcdldgoehoopmaaDoorOps
import Derived.Laws.Strings
import Derived.Laws.Slices
set_option linter.unusedSimpArgs false
set_option linter.unusedVariables false
namespace Gab
open Go

def need (c : Prop) [Decidable c] {α : Type} (x : Option α) : Option α := if c then x else none
theorem need_pos {c : Prop} [Decidable c] {α : Type} {x : Option α} (h : c) : need c x = x := if_pos h
theorem need_some {c : Prop} [Decidable c] {α : Type} {x : Option α} {y : α} (h : need c x = some y) : c ∧ x = some y := by
  unfold need at h
  split at h
  · exact ⟨‹_›, h⟩
  · cases h

/-! ### Store -/
def wrBlk (st : St) (b : Nat) : Option (List AV) := match st.get b with
  | some (.blk cs true) => some cs
  | _ => none
theorem wrBlk_spec {st : St} {b : Nat} {cs : List AV} (h : wrBlk st b = some cs) : st.get b = some (.blk cs true) := by
  unfold wrBlk at h
  split at h
  · simp at h; subst h; exact ‹_›
  · cases h

def evStore (P : Program) (t : TypeId) (p v : AV) (st : St) : Option St := match p with
  | .ptr b off => (tinfo P t).bind fun ti => v.cells.bind fun vs => (wrBlk st b).bind fun cs => need (vs.length = ti.size ∧ off + vs.length ≤ cs.length) (if vs.all AV.one then some (st.set b (.blk (setL cs off vs) true)) else none)
  | _ => none

theorem evStore_ok {P : Program} {t : TypeId} {p v : AV} {st st' : St} (h : evStore P t p v st = some st') {ρ : Loc.Map} {w : World} {c x : Value} (hr : Rel ρ st w) (hp : RV ρ p c) (hv : RV ρ v x) :
    ∃ w', (Instr.storeAt t c x).run P w = .ok () w' ∧ Rel ρ st' w' ∧ Step st.n ρ st w ρ st' w' := by
  unfold evStore at h
  split at h
  · rename_i b off
    simp only [Option.bind_eq_some_iff] at h
    obtain ⟨ti, hti, vs, hvs, cs, hcs, h⟩ := h
    obtain ⟨⟨hlen, hfit⟩, h⟩ := need_some h
    split at h
    · rename_i hone
      simp at h; subst h
      obtain ⟨l, hl, rfl⟩ := hp
      have hrv := hv.cells hvs
      have hcl : x.cells.size = ti.size := by rw [← hlen, ← hrv.length]; simp
      obtain ⟨w', hrun, h1, h2⟩ := store_cells (P := P) hr (wrBlk_spec hcs) hl hrv hone hfit
      refine ⟨w', ?_, h1, h2⟩
      simp only [Instr.storeAt, Instr.sureAddr, storeVar, Sem.run_bind, Sem.run_pure, Result.andThen_ok, run_sizeOf hti, Sem.run_ite, hcl, ne_eq, not_true_eq_false, if_false]
      exact hrun
    · cases h
  · cases h

/-! ### New blocks -/
def evBox (v : AV) (st : St) : Option (AV × St) := v.cells.bind fun cs => some (.ptr st.n 0, st.push (.blk cs true))
def evAlloc (P : Program) (t : TypeId) (st : St) : Option (AV × St) := (tinfo P t).bind fun ti => ti.zero.bind fun z => some (.ptr st.n 0, st.push (.blk z true))

theorem Rel.new {ρ : Loc.Map} {st : St} {w : World} (hr : Rel ρ st w) {cs : List AV} {ds : Array Value} (hc : RVs ρ cs ds.toList) (e : TypeId) :
    ∃ ρ', Rel ρ' (st.push (.blk cs true)) (w.alloc (.cells ds e)) ∧ Step st.n ρ st w ρ' (st.push (.blk cs true)) (w.alloc (.cells ds e)) ∧ ρ'[st.n]? = some ⟨w.heap.size, 0, ds.size⟩ := by
  have h := hr.alloc hc e (w' := w.alloc (.cells ds e)) rfl rfl rfl rfl
  refine ⟨_, h.1, h.2, ?_⟩
  rw [← hr.len]
  simp

theorem evBox_ok {P : Program} {e : TypeId} {v r : AV} {st st' : St} (h : evBox v st = some (r, st')) {ρ : Loc.Map} {w : World} {x : Value} (hr : Rel ρ st w) (hv : RV ρ v x) :
    ∃ c w' ρ', (Instr.box e x).run P w = .ok c w' ∧ Rel ρ' st' w' ∧ RV ρ' r c ∧ Step st.n ρ st w ρ' st' w' := by
  unfold evBox at h
  simp only [Option.bind_eq_some_iff] at h
  obtain ⟨cs, hcs, h⟩ := h
  simp at h
  obtain ⟨rfl, rfl⟩ := h
  obtain ⟨ρ', h1, h2, h3⟩ := hr.new (hv.cells hcs) e
  exact ⟨_, _, ρ', by simp [Instr.box, newVar, newRow], h1, ⟨_, h3, rfl⟩, h2⟩

theorem evAlloc_ok {P : Program} {e : TypeId} {r : AV} {st st' : St} (h : evAlloc P e st = some (r, st')) {ρ : Loc.Map} {w : World} (hr : Rel ρ st w) :
    ∃ c w' ρ', (Instr.alloc e true (.tuple #[])).run P w = .ok c w' ∧ Rel ρ' st' w' ∧ RV ρ' r c ∧ Step st.n ρ st w ρ' st' w' := by
  unfold evAlloc at h
  simp only [Option.bind_eq_some_iff] at h
  obtain ⟨ti, hti, z, hz, h⟩ := h
  simp at h
  obtain ⟨rfl, rfl⟩ := h
  obtain ⟨v, hrun, hv⟩ := run_zeroValue hti hz w ρ
  obtain ⟨ρ', h1, h2, h3⟩ := hr.new hv e
  exact ⟨_, _, ρ', by simp [Instr.alloc, newVar, newRow, hrun], h1, ⟨_, h3, rfl⟩, h2⟩

/-! ### Composite values -/
theorem RVs_set {ρ : Loc.Map} : ∀ {l : List AV} {cs : List Value}, RVs ρ l cs → ∀ {a : AV} {c : Value} (i : Nat), RV ρ a c → RVs ρ (l.set i a) (cs.set i c)
  | [], _, h, _, _, _, _ => by simp [RVs] at h; subst h; exact rfl
  | x :: l, _, h, a, c, i, hv => by
    obtain ⟨d, r, rfl, h1, h2⟩ := h
    cases i with
    | zero => exact ⟨c, r, rfl, hv, h2⟩
    | succ i => exact ⟨d, r.set i c, rfl, h1, RVs_set h2 i hv⟩

def setV (cs : Array Value) (off : Nat) : List Value → Array Value
  | [] => cs
  | v :: r => setV (cs.setIfInBounds off v) (off + 1) r
theorem RVs_setL {ρ : Loc.Map} : ∀ {vs : List AV} {xs : List Value} {l : List AV} {cs : Array Value} {off : Nat}, RVs ρ l cs.toList → RVs ρ vs xs → RVs ρ (setL l off vs) (setV cs off xs).toList
  | [], _, _, _, _, h, hv => by simp [RVs] at hv; subst hv; exact h
  | v :: vs, _, l, cs, off, h, hv => by
    obtain ⟨c, r, rfl, h1, h2⟩ := hv
    show RVs ρ (setL (l.set off v) (off + 1) vs) (setV (cs.setIfInBounds off c) (off + 1) r).toList
    exact RVs_setL (by simpa using RVs_set h off h1) h2
theorem foldl_setV : ∀ (xs : List Value) (cs : Array Value) (off k : Nat), (xs.zipIdx k).foldl (fun cs (p : Value × Nat) => cs.setIfInBounds (off + p.2) p.1) cs = setV cs (off + k) xs
  | [], _, _, _ => rfl
  | x :: xs, cs, off, k => by
    rw [List.zipIdx_cons, List.foldl_cons, foldl_setV xs _ off (k + 1)]
    rfl
theorem setV_size : ∀ (xs : List Value) (cs : Array Value) (off : Nat), (setV cs off xs).size = cs.size
  | [], _, _ => rfl
  | x :: xs, cs, off => by rw [setV, setV_size xs]; simp

def fillA (place : Nat → Option (Nat × Nat)) : List AV → List (Nat × AV) → Option (List AV)
  | cells, [] => some cells
  | cells, (i, v) :: r => (place i).bind fun p => v.cells.bind fun vs => need (vs.length = p.2 ∧ p.1 + vs.length ≤ cells.length) (fillA place (setL cells p.1 vs) r)
def RPs (ρ : Loc.Map) : List (Nat × AV) → List (Nat × Value) → Prop
  | [], cs => cs = []
  | (i, v) :: r, cs => ∃ c s, cs = (i, c) :: s ∧ RV ρ v c ∧ RPs ρ r s
theorem fillA_ok {ρ : Loc.Map} {place : Nat → Option (Nat × Nat)} : ∀ {parts : List (Nat × AV)} {ps : List (Nat × Value)} {cells r : List AV} {cs : Array Value}, fillA place cells parts = some r → RPs ρ parts ps → RVs ρ cells cs.toList →
    ∃ rs, Instr.fill place cs ps = some rs ∧ RVs ρ r rs.toList
  | [], _, cells, r, cs, h, hp, hc => by
    simp [RPs] at hp; subst hp
    simp [fillA] at h; subst h
    exact ⟨cs, rfl, hc⟩
  | (i, v) :: rest, _, cells, r, cs, h, hp, hc => by
    obtain ⟨c, s, rfl, hv, hs⟩ := hp
    simp only [fillA, Option.bind_eq_some_iff] at h
    obtain ⟨p, hpl, vs, hvs, h⟩ := h
    obtain ⟨⟨hlen, hfit⟩, h⟩ := need_some h
    have hrv := hv.cells hvs
    have h1 : c.cells.size = vs.length := by rw [← hrv.length]; simp
    have h2 := hc.length
    obtain ⟨rs, hf, hr⟩ := fillA_ok h hs (RVs_setL (off := p.1) hc hrv)
    refine ⟨rs, ?_, hr⟩
    obtain ⟨off, size⟩ := p
    simp only [Instr.fill, hpl]
    simp only [Array.length_toList] at h2
    rw [if_neg (by simp at hlen hfit ⊢; omega)]
    rw [← Array.foldl_toList, Array.toList_zipIdx, foldl_setV]
    exact hf

def placesA (P : Program) : List (Nat × TypeId) → Option (List (Nat × Nat))
  | [] => some []
  | (o, t) :: r => (tinfo P t).bind fun ti => (placesA P r).bind fun s => some ((o, ti.size) :: s)
theorem placesA_ok {P : Program} : ∀ {fs : List Field} {ps : List (Nat × Nat)}, placesA P (fs.map fun f => (f.offset, f.type)) = some ps → ∀ w, (fs.mapM (m := Sem) fun f => do pure (f.offset, ← Go.sizeOf f.type)).run P w = .ok ps w
  | [], ps, h, w => by simp [placesA] at h; subst h; simp
  | f :: fs, ps, h, w => by
    simp only [List.map_cons, placesA, Option.bind_eq_some_iff] at h
    obtain ⟨ti, hti, s, hs, h⟩ := h
    simp at h; subst h
    have ih := placesA_ok hs w
    simp only [List.mapM_cons, Sem.run_bind, run_sizeOf hti, Sem.run_pure, Result.andThen_ok] at ih ⊢
    rw [ih]; rfl

def evBuild (P : Program) (t : TypeId) (parts : List (Nat × AV)) : Option AV :=
  (tinfo P t).bind fun ti => ti.zero.bind fun z => match ti.k with
    | .struct fs => (placesA P fs).bind fun ps => (fillA (ps[·]?) z parts).bind fun l => some (.agg l)
    | .arr _ e => (tinfo P e).bind fun ei => (fillA (fun i => some (i * ei.size, ei.size)) z parts).bind fun l => some (.agg l)
    | _ => none

theorem evBuild_ok {P : Program} {t : TypeId} {parts : List (Nat × AV)} {v : AV} (h : evBuild P t parts = some v) {ρ : Loc.Map} {ps : Array (Nat × Value)} (hp : RPs ρ parts ps.toList) (w : World) :
    ∃ c, (Instr.build t ps).run P w = .ok c w ∧ RV ρ v c := by
  unfold evBuild at h
  simp only [Option.bind_eq_some_iff] at h
  obtain ⟨ti, hti, z, hz, h⟩ := h
  obtain ⟨zv, hrun, hzv⟩ := run_zeroValue hti hz w ρ
  obtain ⟨i, d, hi, hd, hk, _⟩ := tinfo_spec hti
  split at h
  · rename_i fs hfs
    obtain ⟨ff, rfl, hff⟩ := kd_struct (hk.trans hfs)
    simp only [Option.bind_eq_some_iff] at h
    obtain ⟨pl, hpl, l, hl, h⟩ := h
    simp at h; subst h
    rw [← hff] at hpl
    obtain ⟨rs, hf, hr⟩ := fillA_ok hl hp hzv
    have hm := placesA_ok hpl w
    refine ⟨.agg rs, ?_, rs.toList, rfl, hr⟩
    have hm' : (ff.mapM (m := Sem) fun f => do pure (f.offset, ← Go.sizeOf f.type)).run P w = .ok pl.toArray w := by
      rw [Array.mapM_eq_mapM_toList]
      simp only [Sem.run_map, hm, Result.andThen_ok]
    simp only [Instr.build, Sem.run_bind, hrun, Result.andThen_ok, run_underlying hd, hm']
    have : (fun x : Nat => pl.toArray[x]?) = (fun x : Nat => pl[x]?) := by funext x; simp
    rw [this, hf]
    rfl
  · rename_i n e he
    have hd' := kd_arr (hk.trans he)
    subst hd'
    simp only [Option.bind_eq_some_iff] at h
    obtain ⟨ei, hei, l, hl, h⟩ := h
    simp at h; subst h
    obtain ⟨rs, hf, hr⟩ := fillA_ok hl hp hzv
    refine ⟨.agg rs, ?_, rs.toList, rfl, hr⟩
    simp only [Instr.build, Sem.run_bind, hrun, Result.andThen_ok, run_underlying hd, run_sizeOf hei, hf]
    rfl
  · cases h

/-- n zero elements. -/
def zeroRow (z : List AV) : Nat → List AV
  | 0 => []
  | n + 1 => z ++ zeroRow z n
theorem zeroRow_length (z : List AV) : ∀ n, (zeroRow z n).length = n * z.length
  | 0 => by simp [zeroRow]
  | n + 1 => by rw [zeroRow, List.length_append, zeroRow_length z n, Nat.add_mul, Nat.one_mul, Nat.add_comm]
theorem zeroRow_get {z : List AV} : ∀ {n i : Nat}, i < n * z.length → (zeroRow z n)[i]? = z[i % z.length]?
  | 0, i, h => by simp at h
  | n + 1, i, h => by
    rw [zeroRow]
    by_cases hi : i < z.length
    · rw [List.getElem?_append_left hi, Nat.mod_eq_of_lt hi]
    · have h' : i - z.length < n * z.length := by rw [Nat.add_mul, Nat.one_mul] at h; omega
      rw [List.getElem?_append_right (by omega), zeroRow_get h', Nat.mod_eq_sub_mod (a := i) (by omega)]
theorem RVs_zeroRow {ρ : Loc.Map} {z : List AV} {zs : Array Value} (h : RVs ρ z zs.toList) (n : Nat) :
    RVs ρ (zeroRow z n) ((Array.range (n * zs.size)).map (zs[· % zs.size]!)).toList := by
  have hl := h.length
  simp only [Array.length_toList] at hl
  refine RVs.of (by simp [zeroRow_length, hl]) fun i a hi => ?_
  have hlt : i < n * z.length := by rw [← zeroRow_length]; exact (List.getElem?_eq_some_iff.1 hi).1
  rw [zeroRow_get hlt] at hi
  obtain ⟨c, hc, hr⟩ := RVs.get h hi
  refine ⟨c, ?_, hr⟩
  rw [← hl] at hlt hc
  simp only [Array.toList_map, List.getElem?_map, Array.toList_range, List.getElem?_range hlt, Option.map_some, Option.some.injEq]
  have hlt2 : i % zs.size < zs.size := (List.getElem?_eq_some_iff.1 hc).1
  rw [getElem!_pos zs (i % zs.size) hlt2]
  have := (List.getElem?_eq_some_iff.1 hc).2
  simpa using this

def evBuildSlice (P : Program) (t : TypeId) (len : Nat) (parts : List (Nat × AV)) (st : St) : Option (AV × St) :=
  (tinfo P t).bind fun ti => match ti.k with
    | .sl e => (tinfo P e).bind fun ei => ei.zero.bind fun z => need (len * ei.size ≤ 16777216 ∧ z.length = ei.size) ((fillA (fun i => some (i * ei.size, ei.size)) (zeroRow z len) parts).bind fun l =>
        need (l.length = len * ei.size) (some (.sl ei.size st.n 0 len len false, st.push (.blk l true))))
    | _ => none

theorem evBuildSlice_ok {P : Program} {t : TypeId} {len : Nat} {parts : List (Nat × AV)} {v : AV} {st st' : St} (h : evBuildSlice P t len parts st = some (v, st')) {ρ : Loc.Map} {w : World} (hr : Rel ρ st w) {ps : Array (Nat × Value)} (hp : RPs ρ parts ps.toList) :
    ∃ c w' ρ', (Instr.buildSlice t len ps).run P w = .ok c w' ∧ Rel ρ' st' w' ∧ RV ρ' v c ∧ Step st.n ρ st w ρ' st' w' := by
  unfold evBuildSlice at h
  simp only [Option.bind_eq_some_iff] at h
  obtain ⟨ti, hti, h⟩ := h
  obtain ⟨i, d, hi, hd, hk, _⟩ := tinfo_spec hti
  split at h
  · rename_i e he
    have hd' := kd_sl (hk.trans he)
    subst hd'
    simp only [Option.bind_eq_some_iff] at h
    obtain ⟨ei, hei, z, hz, h⟩ := h
    obtain ⟨⟨h24, hzl⟩, h⟩ := need_some h
    simp only [Option.bind_eq_some_iff] at h
    obtain ⟨l, hl, h⟩ := h
    obtain ⟨hll, h⟩ := need_some h
    simp at h
    obtain ⟨rfl, rfl⟩ := h
    obtain ⟨zv, hrun, hzv⟩ := run_zeroValue hei hz w ρ
    have hzs : zv.cells.size = ei.size := by rw [← hzl, ← hzv.length]; simp
    have hrow := RVs_zeroRow hzv len
    rw [hzs] at hrow
    obtain ⟨rs, hf, hr'⟩ := fillA_ok hl hp hrow
    obtain ⟨ρ', h1, h2, h3⟩ := hr.new hr' e
    have hrs : rs.size = len * ei.size := by rw [← hll, ← hr'.length]; simp
    refine ⟨.slice (some ⟨w.heap.size, 0, none⟩) len len, _, ρ', ?_, h1, ⟨_, _, rfl, Nat.le_refl _, Nat.le_refl _, by simp, fun _ => ⟨_, _, rfl, h3, .inr ⟨rfl, ?_⟩⟩⟩, h2⟩
    · simp only [Instr.buildSlice, Sem.run_bind, run_underlying hd, Result.andThen_ok, run_sizeOf hei, Sem.run_ite]
      rw [if_neg (by omega)]
      by_cases h0 : len * ei.size = 0
      · simp only [Sem.run_pure, if_pos h0, Result.andThen_ok]
        have hsame' : ((Array.range (len * ei.size)).map (fun x => (#[] : Array Value)[x % (#[] : Array Value).size]!)) = ((Array.range (len * ei.size)).map (zv.cells[· % ei.size]!)) := by
          rw [h0]; simp
        rw [hsame', hf]
        simp [newRow]
      · simp only [Sem.run_pure, if_neg h0, Sem.run_bind, hrun, Result.andThen_ok, hzs, hf]
        simp [newRow]
    · show 0 + 0 + len * ei.size ≤ rs.size
      omega
  · cases h

def evMakeSlice (P : Program) (t : TypeId) (l c : AV) (st : St) : Option (AV × St) := match l, c with
  | .int _ ln, .int _ cn => (tinfo P t).bind fun ti => match ti.k with
    | .sl e => (tinfo P e).bind fun ei => ei.zero.bind fun z => need (0 ≤ ln ∧ ln ≤ cn ∧ cn ≤ 9223372036854775807 ∧ ei.bytes * cn ≤ 281474976710656 ∧ z.length = ei.size)
        (some (.sl ei.size st.n 0 ln.toNat cn.toNat false, st.push (.blk (zeroRow z cn.toNat) true)))
    | _ => none
  | _, _ => none

theorem evMakeSlice_ok {P : Program} {t : TypeId} {l c v : AV} {st st' : St} (h : evMakeSlice P t l c st = some (v, st')) {ρ : Loc.Map} {w : World} (hr : Rel ρ st w) {x y : Value} (hx : RV ρ l x) (hy : RV ρ c y) :
    ∃ r w' ρ', (Instr.makeSlice t x y).run P w = .ok r w' ∧ Rel ρ' st' w' ∧ RV ρ' v r ∧ Step st.n ρ st w ρ' st' w' := by
  unfold evMakeSlice at h
  split at h
  · rename_i k1 ln k2 cn
    simp only [Option.bind_eq_some_iff] at h
    obtain ⟨ti, hti, h⟩ := h
    obtain ⟨i, d, hi, hd, hk, _⟩ := tinfo_spec hti
    split at h
    · rename_i e he
      have hd' := kd_sl (hk.trans he)
      subst hd'
      simp only [Option.bind_eq_some_iff] at h
      obtain ⟨ei, hei, z, hz, h⟩ := h
      obtain ⟨⟨hl0, hlc, hc63, hby, hzl⟩, h⟩ := need_some h
      simp at h
      obtain ⟨rfl, rfl⟩ := h
      simp only [RV] at hx hy
      subst hx; subst hy
      obtain ⟨j, d', hj, _, _, hjs, hjb, _⟩ := tinfo_spec hei
      obtain ⟨zv, hrun, hzv⟩ := run_zeroValue hei hz w ρ
      have hzs : zv.cells.size = ei.size := by rw [← hzl, ← hzv.length]; simp
      have hrow := RVs_zeroRow hzv cn.toNat
      rw [hzs] at hrow
      obtain ⟨ρ', h1, h2, h3⟩ := hr.new hrow e
      have hwl : IntKind.i64.wrap ln = ln := IntWalk.i64_in ln (by omega)
      have hwc : IntKind.i64.wrap cn = cn := IntWalk.i64_in cn (by omega)
      refine ⟨.slice (some ⟨w.heap.size, 0, none⟩) ln.toNat cn.toNat, _, ρ', ?_, h1, ⟨_, _, rfl, by omega, Nat.le_refl _, by simp, fun _ => ⟨_, _, rfl, h3, .inr ⟨rfl, ?_⟩⟩⟩, h2⟩
      · have hb1 : (decide (cn < 0) || decide ((j.bytes : Int) * cn > 2 ^ 48)) = false := by
          rw [hjb]; simp; omega
        simp only [Instr.makeSlice, Sem.run_bind, run_underlying hd, Result.andThen_ok, asInt, asIntOf, Sem.run_pure, typeInfo, run_program, hj, hwl, hwc, Sem.run_ite, run_askRoom, run_sizeOf hei]
        rw [if_neg (by rw [hb1]; simp; omega)]
        by_cases h0 : cn.toNat * ei.size = 0
        · simp only [if_pos h0, Result.andThen_ok]
          simp only [newRow, h0, Sem.run_bind, run_newObj, Result.andThen_ok, Sem.run_pure, run_sizeOf hei]
          have e0 : ∀ f : Nat → Value, (Array.range 0).map f = #[] := fun f => by simp
          simp [e0]
        · simp only [if_neg h0, Sem.run_bind, hrun, Result.andThen_ok, Sem.run_pure, hzs]
          simp [newRow]
      · show 0 + 0 + cn.toNat * ei.size ≤ _
        simp
    · cases h
  · cases h
end Gab
