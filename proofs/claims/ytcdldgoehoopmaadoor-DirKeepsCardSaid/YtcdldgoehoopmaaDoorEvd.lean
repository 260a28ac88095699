/- The operations of the model over the abstract memory, continued: builtins. -/
import Derived.Test.YtcdldgoehoopmaaDoorEvc
set_option linter.unusedSimpArgs false
set_option linter.unusedVariables false
namespace Gab
open Go

def evLen (P : Program) (t : TypeId) (x : AV) : Option AV := (tinfo P t).bind fun ti => match ti.k, x with
  | .str, .str l => some (.int .i64 l.length)
  | .sl _, .sl _ _ _ len _ _ => some (.int .i64 len)
  | .arr n _, _ => some (.int .i64 n)
  | _, _ => none
theorem evLen_ok {P : Program} {t : TypeId} {x v : AV} (h : evLen P t x = some v) {ρ : Loc.Map} {c : Value} (hx : RV ρ x c) (ts : Array TypeId) (ty : TypeId) (w : World) (ht : ts[0]? = some t) :
    ∃ r, (Builtin.len_ ts ty #[c]).run P w = .ok r w ∧ RV ρ v r := by
  unfold evLen at h
  simp only [Option.bind_eq_some_iff] at h
  obtain ⟨ti, hti, h⟩ := h
  obtain ⟨_, d, _, hd, hk, _⟩ := tinfo_spec hti
  split at h
  · rename_i hkk
    have hd' := kd_str (hk.trans hkk); subst hd'
    simp only [RV] at hx; subst hx
    simp at h; subst h
    exact ⟨_, by simp [Builtin.len_, ht, run_underlying hd, mk_size]; rfl, rfl⟩
  · rename_i hkk
    have hd' := kd_sl (hk.trans hkk); subst hd'
    obtain ⟨a, cap, rfl, _⟩ := hx
    simp at h; subst h
    exact ⟨_, by simp [Builtin.len_, ht, run_underlying hd]; rfl, rfl⟩
  · rename_i hkk
    have hd' := kd_arr (hk.trans hkk); subst hd'
    simp at h; subst h
    exact ⟨_, by simp [Builtin.len_, ht, run_underlying hd]; rfl, rfl⟩
  · cases h

def evCap (P : Program) (t : TypeId) (x : AV) : Option AV := (tinfo P t).bind fun ti => match ti.k, x with
  | .sl _, .sl _ _ _ _ _ true => some (.int .i64 0)
  | _, _ => none
theorem evCap_ok {P : Program} {t : TypeId} {x v : AV} (h : evCap P t x = some v) {ρ : Loc.Map} {c : Value} (hx : RV ρ x c) (ts : Array TypeId) (ty : TypeId) (w : World) (ht : ts[0]? = some t) :
    ∃ r, (Builtin.cap_ ts ty #[c]).run P w = .ok r w ∧ RV ρ v r := by
  unfold evCap at h
  simp only [Option.bind_eq_some_iff] at h
  obtain ⟨ti, hti, h⟩ := h
  obtain ⟨_, d, _, hd, hk, _⟩ := tinfo_spec hti
  split at h
  · rename_i hkk
    have hd' := kd_sl (hk.trans hkk); subst hd'
    obtain ⟨a, cap, rfl, _, _, g, _⟩ := hx
    obtain ⟨rfl, rfl⟩ := g rfl
    simp at h; subst h
    exact ⟨_, by simp [Builtin.cap_, ht, run_underlying hd]; rfl, rfl⟩
  · cases h

def evMin : List AV → Option AV
  | [.int k x, .int _ y] => some (.int k (if y < x then y else x))
  | _ => none
def evMax : List AV → Option AV
  | [.int k x, .int _ y] => some (.int k (if x < y then y else x))
  | _ => none
theorem evMin_ok {P : Program} {xs : List AV} {v : AV} (h : evMin xs = some v) {ρ : Loc.Map} {cs : List Value} (hx : RVs ρ xs cs) (ts : Array TypeId) (ty : TypeId) (w : World) :
    ∃ r, (Builtin.min_ ts ty ⟨cs⟩).run P w = .ok r w ∧ RV ρ v r := by
  unfold evMin at h
  split at h
  · obtain ⟨c, r, rfl, h1, r', d, rfl, h2, rfl⟩ := hx
    simp only [RV] at h1 h2; subst h1; subst h2
    simp at h; subst h
    exact ⟨_, by simp [Builtin.min_, Builtin.min2], rfl⟩
  · cases h
theorem evMax_ok {P : Program} {xs : List AV} {v : AV} (h : evMax xs = some v) {ρ : Loc.Map} {cs : List Value} (hx : RVs ρ xs cs) (ts : Array TypeId) (ty : TypeId) (w : World) :
    ∃ r, (Builtin.max_ ts ty ⟨cs⟩).run P w = .ok r w ∧ RV ρ v r := by
  unfold evMax at h
  split at h
  · obtain ⟨c, r, rfl, h1, r', d, rfl, h2, rfl⟩ := hx
    simp only [RV] at h1 h2; subst h1; subst h2
    simp at h; subst h
    exact ⟨_, by simp [Builtin.max_, Builtin.max2], rfl⟩
  · cases h

/-! ### append -/
/-- What is appended: how many elements, and their cells. -/
def evNews (P : Program) (e : TypeId) (ei : TI) (xt : Option TypeId) (x : AV) (st : St) : Option (Nat × List AV) := match xt with
  | none => none
  | some xt => (tinfo P xt).bind fun xi => match xi.k, x with
    | .int _, .int _ n => ei.zero.bind fun z => need (0 ≤ n ∧ n ≤ 9223372036854775807 ∧ n * ei.bytes ≤ 281474976710656 ∧ z.length = ei.size) (some (n.toNat, zeroRow z n.toNat))
    | .sl _, .sl sz b off len _ nl => if len = 0 then some (0, []) else need (sz = ei.size) ((rdBlk st b).bind fun cs => need (off + len * sz ≤ cs.length) (some (len, (cs.drop off).take (len * sz))))
    | .str, .str l => need (ei.size = 1) (some (l.length, byteCells l))
    | _, _ => none

theorem loadN_take {cs : List AV} : ∀ (n off : Nat), off + n ≤ cs.length → loadN cs off n = some ((cs.drop off).take n)
  | 0, off, _ => by simp [loadN]
  | n + 1, off, ho => by
    rw [loadN, List.getElem?_eq_getElem (i := off) (by omega), Option.bind_some, loadN_take n (off + 1) (by omega), Option.bind_some, List.drop_eq_getElem_cons (i := off) (by omega), List.take_succ_cons]

/-- How many, and that they are there, in whatever world the memory is the same. -/
theorem evNews_ok {P : Program} {e : TypeId} {ei : TI} (hei : tinfo P e = some ei) {xt : TypeId} {x : AV} {st : St} {n : Nat} {news : List AV} (h : evNews P e ei (some xt) x st = some (n, news)) {ρ : Loc.Map} {w : World} {c : Value} (hr : Rel ρ st w) (hx : RV ρ x c) :
    ∃ d ns, P.underlying xt = some d ∧ RVs ρ news ns ∧ news.length = n * ei.size ∧
      (((∃ k, d = .int k) ∧ ∃ (k : IntKind) (i : Int), c = .int k i ∧ i.toNat = n ∧ 0 ≤ i ∧ i ≤ 9223372036854775807 ∧ i * ei.bytes ≤ 281474976710656 ∧ ∃ zv, (∀ w', (zeroValue e).run P w' = .ok zv w') ∧ zv.cells.size = ei.size ∧ ns = (Builtin.zeroCells zv.cells n).toList) ∨
       ((d = .string ∨ ∃ e', d = .slice e') ∧ (Builtin.lenOf c).run P w = .ok n w ∧ (∀ w' : World, w'.heap = w.heap → (Builtin.firstCells ei.size n c).run P w' = .ok ⟨ns⟩ w'))) := by
  simp only [evNews, Option.bind_eq_some_iff] at h
  obtain ⟨xi, hxi, h⟩ := h
  obtain ⟨_, d, _, hd, hk, _⟩ := tinfo_spec hxi
  split at h
  · rename_i k' k i hkk
    have hd' := kd_int (hk.trans hkk); subst hd'
    simp only [Option.bind_eq_some_iff] at h
    obtain ⟨z, hz, h⟩ := h
    obtain ⟨⟨g1, g2, g3, g4⟩, h⟩ := need_some h
    simp at h; obtain ⟨rfl, rfl⟩ := h
    simp only [RV] at hx; subst hx
    obtain ⟨zv, hrun, hzv⟩ := run_zeroValue hei hz w ρ
    have hall : ∀ w', (zeroValue e).run P w' = .ok zv w' := fun w' => by
      obtain ⟨zv', hrun', _⟩ := run_zeroValue hei hz w' ρ
      obtain ⟨ii, dd, hi, _⟩ := tinfo_spec hei
      simp only [zeroValue, typeInfo, Sem.run_bind, run_program, Result.andThen_ok, hi, Sem.run_pure] at hrun ⊢
      cases hzz : ii.zero with
      | none => rw [hzz] at hrun; cases hrun
      | some v => rw [hzz] at hrun; simp at hrun; subst hrun; rfl
    have hzs : zv.cells.size = ei.size := by rw [← g4, ← hzv.length]; simp
    refine ⟨_, (Builtin.zeroCells zv.cells i.toNat).toList, hd, RVs_zeroRow hzv _, ?_, .inl ⟨⟨_, rfl⟩, _, _, rfl, rfl, g1, g2, g3, zv, hall, hzs, rfl⟩⟩
    rw [zeroRow_length, g4]
  · rename_i sz b off len _ nl hkk
    have hd' := kd_sl (hk.trans hkk); subst hd'
    split at h
    · rename_i h0; subst h0
      simp at h; obtain ⟨rfl, rfl⟩ := h
      obtain ⟨a, cap, rfl, _⟩ := hx
      refine ⟨_, [], hd, rfl, by simp, .inr ⟨.inr ⟨_, rfl⟩, rfl, fun w' _ => ?_⟩⟩
      cases a <;> simp [Builtin.firstCells, loadCells, loadCellsFrom]
    · rename_i h0
      obtain ⟨hsz, h⟩ := need_some h
      subst hsz
      simp only [Option.bind_eq_some_iff] at h
      obtain ⟨cs, hcs, h⟩ := h
      obtain ⟨hfit, h⟩ := need_some h
      simp at h; obtain ⟨rfl, rfl⟩ := h
      obtain ⟨l, cap, hl, rfl, _⟩ := RV.sl_at hx (by omega)
      have hln := loadN_take (len * ei.size) off hfit
      obtain ⟨ds, hrun, hds⟩ := load_cells (P := P) hr hcs hl hln
      refine ⟨_, ds, hd, hds, by simp; omega, .inr ⟨.inr ⟨_, rfl⟩, rfl, fun w' hw' => ?_⟩⟩
      obtain ⟨rw, hb⟩ := rdBlk_spec hcs
      have hr' : Rel ρ st w' := ⟨⟨hr.len, fun b o hb => let ⟨l, hl, ho⟩ := hr.obj b o hb; ⟨l, hl, ho.world (by rw [hw'])⟩, hr.sep⟩, ⟨fun g cs hg => by rw [hw']; exact hr.gi.glb g cs hg, hr.gi.gsep⟩⟩
      have e1 : ds.length = len * ei.size := by rw [hds.length]; simp; omega
      simp only [Builtin.firstCells]
      rw [← e1]
      refine run_loadCells_list w' _ ds fun j v hj => ?_
      have hc := run_loadCells_list (P := P) w ⟨l.blk, l.base + off, none⟩ ds
      -- the cells are those that the load found
      obtain ⟨l', hl', ho⟩ := hr'.obj b _ hb
      rw [hl] at hl'; simp at hl'; subst hl'
      obtain ⟨carr, ce, fz, hh, hsize, hcells, _⟩ := ho
      have hjn : j < len * ei.size := by have := (List.getElem?_eq_some_iff.1 hj).1; omega
      have hh0 : w.heap[l.blk]? = some (.cells carr ce fz) := by rw [← hw']; exact hh
      have hrun2 := run_loadCells (P := P) w ⟨l.blk, l.base + off, none⟩ (len * ei.size) (fun j => (carr[l.base + (off + j)]?).getD undef) (fun j hj => by
        obtain ⟨x, hx, _⟩ := hcells (off + j) _ (List.getElem?_eq_getElem (by omega))
        rw [add_eq, Nat.add_assoc]
        simp [World.cell?, hh0, hx])
      rw [hrun] at hrun2
      simp only [Result.ok.injEq, and_true] at hrun2
      have hds' : ds = (List.range (len * ei.size)).map (fun j => (carr[l.base + (off + j)]?).getD undef) := by
        have := congrArg Array.toList hrun2
        simpa using this
      obtain ⟨x, hx, _⟩ := hcells (off + j) _ (List.getElem?_eq_getElem (by omega))
      rw [hds'] at hj
      simp [hjn, hx] at hj
      subst hj
      rw [add_eq, Nat.add_assoc]
      simp [World.cell?, hh, hx]
  · rename_i l hkk
    have hd' := kd_str (hk.trans hkk); subst hd'
    obtain ⟨g1, h⟩ := need_some h
    simp at h; obtain ⟨rfl, rfl⟩ := h
    simp only [RV] at hx; subst hx
    refine ⟨_, l.map (fun b => Value.int .u8 b.toNat), hd, RVs.of (by simp [byteCells]) fun i a hi => ?_, by simp [byteCells, g1], .inr ⟨.inl rfl, by simp [Builtin.lenOf, mk_size], fun w' _ => ?_⟩⟩
    · simp only [byteCells, List.getElem?_map, Option.map_eq_some_iff] at hi ⊢
      obtain ⟨b, hb, rfl⟩ := hi
      exact ⟨_, ⟨b, hb, rfl⟩, rfl⟩
    · simp only [Builtin.firstCells, Sem.run_pure, mk_extract, List.take_length, List.drop_zero]
      simp
  · cases h

def evAppend (P : Program) (ts : List TypeId) (s x : AV) (st : St) : Option (AV × St) := match s, ts with
  | .sl sz b off len mc nl, t :: xt => (tinfo P t).bind fun ti => match ti.k with
    | .sl e => (tinfo P e).bind fun ei => ei.zero.bind fun z => (evNews P e ei xt.head? x st).bind fun p =>
        need ((len + p.1) * ei.bytes ≤ 140737488355328 ∧ len + p.1 ≤ 9223372036854775807 ∧ z.length = ei.size) (
          if nl then some (.sl ei.size st.n 0 p.1 p.1 (decide (p.1 = 0)), st.pushO (if p.1 = 0 then none else some (.blk p.2 true)))
          else if p.2.all AV.one then (wrBlk st b).bind fun cs => need (sz = ei.size)
            (if len + p.1 ≤ mc ∧ off + (len + p.1) * sz ≤ cs.length then some (.sl sz b off (len + p.1) mc false, st.set b (.blk (setL cs (off + len * sz) p.2) true))
             else need (off + len * sz = cs.length) (some (.sl sz st.n 0 (len + p.1) (len + p.1) false, (st.kill b).push (.blk (cs.drop off ++ p.2) true))))
          else none)
    | _ => none
  | _, _ => none

theorem Rel.pushNone {ρ : Loc.Map} {st : St} {w : World} (h : Rel ρ st w) (l : Loc) : Rel (ρ ++ [l]) (st.pushO none) w ∧ Step st.n ρ st w (ρ ++ [l]) (st.pushO none) w := by
  have hof : ∀ b o, (st.pushO none).get b = some o → b < st.n ∧ st.get b = some o := fun b o hb => by
    rw [St.pushO_get] at hb
    split at hb
    · cases hb
    · exact ⟨h.lt hb, hb⟩
  have hold : ∀ i l', i < st.n → (ρ ++ [l])[i]? = some l' → ρ[i]? = some l' := fun i l' hi hl' => by
    rw [List.getElem?_append_left (by have := h.len; omega)] at hl'
    exact hl'
  refine gi2 h ⟨⟨by simp [St.pushO_n, h.len], fun b o hb => ?_, fun i i' l1 l2 x x' hne hi hx hi' h1 h2 => ?_⟩, ⟨Ext.append _ _ (by have := h.len; omega), rfl, rfl, rfl, Nat.le_refl _, Nat.le_refl _, fun _ _ _ => rfl, fun i x l1 hi hx h1 _ => ?_⟩⟩
  · obtain ⟨_, hb⟩ := hof b o hb
    obtain ⟨l', hl', hr⟩ := h.obj b o hb
    exact ⟨l', Sup.append _ _ _ _ hl', hr.sup (Sup.append _ _)⟩
  · obtain ⟨a1, b1⟩ := hof i x hi
    obtain ⟨a2, b2⟩ := hof i' x' hi'
    exact h.sep i i' l1 l2 x x' hne b1 hx b2 (hold i l1 a1 h1) (hold i' l2 a2 h2)
  · obtain ⟨a1, b1⟩ := hof i x hi
    exact ⟨i, x, l1, b1, hx, hold i l1 a1 h1, rfl⟩

theorem pushO_some (st : St) (o : AObj) : st.pushO (some o) = st.push o := rfl

set_option maxHeartbeats 2000000 in
theorem evAppend_ok {P : Program} {ts : Array TypeId} {s x v : AV} {st st' : St} (h : evAppend P ts.toList s x st = some (v, st')) {ρ : Loc.Map} {w : World} {c cx : Value} (hr : Rel ρ st w) (hs : RV ρ s c) (hx : RV ρ x cx) (ty : TypeId) :
    ∃ r w' ρ', (Builtin.append_ ts ty #[c, cx]).run P w = .ok r w' ∧ Rel ρ' st' w' ∧ RV ρ' v r ∧ Step st.n ρ st w ρ' st' w' := by
  obtain ⟨tl⟩ := ts
  unfold evAppend at h
  split at h
  · rename_i sz b off len mc nl t xt htl
    simp only at htl
    subst htl
    simp only [Option.bind_eq_some_iff] at h
    obtain ⟨ti, hti, h⟩ := h
    obtain ⟨_, d, _, hd, hk, _⟩ := tinfo_spec hti
    split at h
    · rename_i e he
      have hd' := kd_sl (hk.trans he); subst hd'
      simp only [Option.bind_eq_some_iff] at h
      obtain ⟨ei, hei, z, hz, p, hp, h⟩ := h
      obtain ⟨n, news⟩ := p
      have hq := need_some h
      clear h
      obtain ⟨⟨hby, h63, hzl⟩, h⟩ := hq
      simp only at h hby h63
      cases hxt : xt.head? with
      | none => rw [hxt] at hp; cases hp
      | some xty =>
      rw [hxt] at hp
      obtain ⟨xd, ns, hxd, hns, hnl, hcase⟩ := evNews_ok hei hp hr hx
      obtain ⟨ii, dd, hii, _, _, hisz, hiby, _⟩ := tinfo_spec hei
      obtain ⟨zv, hzrun, hzv⟩ := run_zeroValue hei hz w ρ
      have hzall : ∀ w', (zeroValue e).run P w' = .ok zv w' := fun w' => by
        simp only [zeroValue, typeInfo, Sem.run_bind, run_program, Result.andThen_ok, hii, Sem.run_pure] at hzrun ⊢
        cases hzz : ii.zero with
        | none => rw [hzz] at hzrun; cases hzrun
        | some v => rw [hzz] at hzrun; simp at hzrun; subst hzrun; rfl
      have hzs : zv.cells.size = ei.size := by rw [← hzl, ← hzv.length]; simp
      have hnsl : ns.length = n * ei.size := by rw [hns.length, hnl]
      have hts1 : (⟨t :: xt⟩ : Array TypeId)[1]? = some xty := by
        cases xt with
        | nil => cases hxt
        | cons a r => simp at hxt; subst hxt; rfl
      obtain ⟨a, cap, rfl, g1, g2, g3, g4⟩ := hs
      have hgrow : ∀ (olds : List Value), len + n > cap → (∀ w' : World, w'.heap = w.heap → (Builtin.firstCells ei.size len (.slice a len cap)).run P w' = .ok ⟨olds⟩ w') →
          (Builtin.append_ ⟨t :: xt⟩ ty #[.slice a len cap, cx]).run P w = .ok (.slice (some ⟨w.heap.size, 0, none⟩) (len + n) (grownCap w (len + n) cap e))
            (w.drew.alloc (.cells (olds.toArray ++ ns.toArray ++ Builtin.zeroCells zv.cells (grownCap w (len + n) cap e - (len + n))) e)) := by
        intro olds hgt hold
        have h1 : ¬ (len + n ≤ cap) := by omega
        have h2 : ¬ (9223372036854775807 < (len : Int) + (n : Int)) := by omega
        have h3 : ¬ (281474976710656 < Builtin.nextslicecap (len + n) cap * ii.bytes) := by
          have := growslice_fits (need := len + n) (old := cap) (bytes := ei.bytes) (by omega) (by omega)
          rw [hiby]; omega
        have hfo := hold w.drew rfl
        have hzz := hzall w.drew
        rcases hcase with ⟨⟨k, rfl⟩, k', i, rfl, hin, hi0, hi63, hiby', zv', hzall', hzs', rfl⟩ | ⟨hne, hlen, hfc⟩
        · have hze : zv' = zv := by
            have := (hzall w).symm.trans (hzall' w)
            simp at this; exact this.symm
          subst hze
          have hwi : IntKind.i64.wrap i = i := IntWalk.i64_in i (by omega)
          have hi1 : ¬ (i < 0) := by omega
          have hi2 : ¬ (281474976710656 < i * (ii.bytes : Int)) := by rw [hiby]; omega
          subst hin
          have h2' : ¬ (9223372036854775807 < (len : Int) + max i 0) := by omega
          by_cases hz0 : i.toNat * ei.size = 0
          · have e0 : Builtin.zeroCells zv'.cells i.toNat = #[] := by
              simp only [Builtin.zeroCells, hzs', hz0]; simp
            have hz0' : i.toNat = 0 ∨ ei.size = 0 := by simpa [Nat.mul_eq_zero] using hz0
            simp [Builtin.append_, hts1, run_underlying hd, run_sizeOf hei, run_underlying hxd, typeInfo, hii, asInt, asIntOf, hwi, hi1, hi2, h1, h2, h2', h3, Question.forced, hfo, hzz, newRow, grownCap, hz0, hz0', e0]
          · have hz0' : ¬ (i.toNat = 0 ∨ ei.size = 0) := by simpa [Nat.mul_eq_zero] using hz0
            simp [Builtin.append_, hts1, run_underlying hd, run_sizeOf hei, run_underlying hxd, typeInfo, hii, asInt, asIntOf, hwi, hi1, hi2, h1, h2, h2', h3, Question.forced, hfo, hzz, newRow, grownCap, hz0, hz0']
        · have hfn := hfc w.drew rfl
          rcases hne with rfl | ⟨e', rfl⟩ <;>
          (simp [Builtin.append_, hts1, run_underlying hd, run_sizeOf hei, run_underlying hxd, typeInfo, hii, hlen, h1, h2, h3, Question.forced, hfo, hfn, hzz, newRow, grownCap]; congr 2; apply Array.ext'; simp [List.append_assoc])
      have hroom : len + n ≤ cap → (Builtin.append_ ⟨t :: xt⟩ ty #[.slice a len cap, cx]).run P w =
          (match a with | some a => ((storeCells (a.add (len * ei.size)) ns).run P w).andThen fun _ w' => .ok (.slice (some a) (len + n) cap) w' | none => .ok (.slice none (len + n) cap) w) := by
        intro hle
        have hfo := hzall w
        rcases hcase with ⟨⟨k, rfl⟩, k', i, rfl, hin, hi0, hi63, hiby', zv', hzall', hzs', rfl⟩ | ⟨hne, hlen, hfc⟩
        · have hze : zv' = zv := by
            have := (hzall w).symm.trans (hzall' w)
            simp at this; exact this.symm
          subst hze
          have hwi : IntKind.i64.wrap i = i := IntWalk.i64_in i (by omega)
          have hi1 : ¬ (i < 0) := by omega
          have hi2 : ¬ (281474976710656 < i * (ii.bytes : Int)) := by rw [hiby]; omega
          subst hin
          by_cases hz0 : i.toNat * ei.size = 0
          · have e0 : Builtin.zeroCells zv'.cells i.toNat = #[] := by
              simp only [Builtin.zeroCells, hzs', hz0]; simp
            have hz0' : i.toNat = 0 ∨ ei.size = 0 := by simpa [Nat.mul_eq_zero] using hz0
            cases a <;> simp [Builtin.append_, hts1, run_underlying hd, run_sizeOf hei, run_underlying hxd, typeInfo, hii, asInt, asIntOf, hwi, hi1, hi2, hle, hfo, hz0, hz0', e0]
          · have hz0' : ¬ (i.toNat = 0 ∨ ei.size = 0) := by simpa [Nat.mul_eq_zero] using hz0
            cases a <;> simp [Builtin.append_, hts1, run_underlying hd, run_sizeOf hei, run_underlying hxd, typeInfo, hii, asInt, asIntOf, hwi, hi1, hi2, hle, hfo, hz0, hz0']
        · have hfn := hfc w rfl
          rcases hne with rfl | ⟨e', rfl⟩ <;> cases a <;>
          simp [Builtin.append_, hts1, run_underlying hd, run_sizeOf hei, run_underlying hxd, typeInfo, hii, hlen, hle, hfn]
      have hge := grownCap_ge w (len + n) cap e
      split at h
      · -- a nil slice
        rename_i hn
        obtain ⟨rfl, rfl⟩ := g3 hn
        have hl0 : len = 0 := by omega
        subst hl0
        simp at h; obtain ⟨rfl, rfl⟩ := h
        by_cases hn0 : n = 0
        · subst hn0
          refine ⟨_, w, ρ ++ [⟨0, 0, 0⟩], hroom (by omega), ?_, ⟨none, 0, rfl, by omega, by omega, by simp, by simp⟩, ?_⟩
          · exact (hr.pushNone _).1
          · exact (hr.pushNone _).2
        · have hg := hgrow [] (by omega) (fun w' _ => by simp [Builtin.firstCells])
          simp only [Nat.zero_add] at hg hge
          rw [if_neg hn0]
          have hcells : ∀ (i : Nat) (v : AV), news[i]? = some v → ∃ x, (([] : List Value).toArray ++ ns.toArray ++ Builtin.zeroCells zv.cells (grownCap w n 0 e - n))[i]? = some x ∧ RV ρ v x := fun i v hi => by
            obtain ⟨x, hx, hrv⟩ := RVs.get hns hi
            refine ⟨x, ?_, hrv⟩
            have := (List.getElem?_eq_some_iff.1 hx).1
            rw [Array.getElem?_append_left (by simp; omega)]
            simpa using hx
          obtain ⟨k1, k2, k3⟩ := hr.allocF hcells e (0, 0) (fun j _ => by omega) (w' := w.drew.alloc (.cells _ e)) rfl rfl rfl rfl (Nat.le_succ _)
          refine ⟨_, _, _, hg, k1, ⟨_, _, rfl, by omega, by omega, by simp [hn0], fun _ => ⟨_, _, rfl, k3, .inr ⟨rfl, ?_⟩⟩⟩, k2⟩
          show 0 + 0 + grownCap w n 0 e * ei.size ≤ Array.size _
          simp [size_zeroCells, hzs, hnsl]
          have e1 : n * ei.size + (grownCap w n 0 e - n) * ei.size = grownCap w n 0 e * ei.size := by rw [← Nat.add_mul]; congr 1; omega
          omega
      · rename_i hn
        have hnf : nl = false := by simpa using hn
        subst hnf
        obtain ⟨ad, l, rfl, hl, g5⟩ := g4 rfl
        split at h
        · rename_i hone
          simp only [Option.bind_eq_some_iff] at h
          obtain ⟨cs, hcs, h⟩ := h
          obtain ⟨hsz, h⟩ := need_some h
          subst hsz
          have hb := wrBlk_spec hcs
          split at h
          · -- it lies there already
            rename_i hin
            simp at h; obtain ⟨rfl, rfl⟩ := h
            have hrm := hroom (by omega)
            rcases g5 with g5 | ⟨rfl, g6⟩
            · have hn0 : n = 0 := by omega
              have hlen0 : len = 0 := by omega
              subst hn0; subst hlen0; subst g5
              have hns0 : ns = [] := List.eq_nil_of_length_eq_zero (by omega)
              have hnews0 : news = [] := List.eq_nil_of_length_eq_zero (by omega)
              subst hns0; subst hnews0
              obtain ⟨l', hl', ho⟩ := hr.obj b _ hb
              rw [hl] at hl'; simp at hl'; subst hl'
              have hu := hr.upd hb rfl hl (fun _ _ => rfl) rfl rfl rfl rfl (Nat.le_refl _) ho
              exact ⟨_, w, ρ, hrm, hu.1, ⟨_, _, rfl, by omega, by omega, by simp, fun _ => ⟨_, l, rfl, hl, .inl rfl⟩⟩, hu.2⟩
            · have hst := store_cells (P := P) hr hb hl (off := off + len * ei.size) hns hone (by rw [hnl, Nat.add_assoc, ← Nat.add_mul]; omega)
              obtain ⟨w', hrun, k1, k2⟩ := hst
              simp only [add_eq] at hrm
              rw [show l.base + off + len * ei.size = l.base + (off + len * ei.size) by omega, hrun] at hrm
              exact ⟨_, w', ρ, hrm, k1, ⟨_, _, rfl, by omega, by omega, by simp, fun _ => ⟨_, l, rfl, hl, .inr ⟨rfl, g6⟩⟩⟩, k2⟩
          · obtain ⟨hend, h⟩ := need_some h
            simp at h; obtain ⟨rfl, rfl⟩ := h
            obtain ⟨l', hl', ho⟩ := hr.obj b _ hb
            rw [hl] at hl'; simp at hl'; subst hl'
            obtain ⟨carr, ce, fz, hh, hsize, hcells, hfz⟩ := ho
            by_cases hle : len + n ≤ cap
            · have hrm := hroom hle
              rcases g5 with g5 | ⟨rfl, g6⟩
              · have hn0 : n = 0 := by omega
                have hlen0 : len = 0 := by omega
                subst hn0; subst hlen0; subst g5
                have hns0 : ns = [] := List.eq_nil_of_length_eq_zero (by omega)
                have hnews0 : news = [] := List.eq_nil_of_length_eq_zero (by omega)
                subst hns0; subst hnews0
                have hdrop : cs.drop off = [] := List.drop_eq_nil_of_le (by omega)
                have hm := hr.move hb rfl hl off (cs := cs.drop off ++ []) (fun _ _ => rfl) rfl rfl rfl rfl (Nat.le_refl _) ⟨carr, ce, fz, hh, hsize, fun i v hi => by rw [hdrop] at hi; simp at hi, hfz⟩
                exact ⟨_, w, _, hrm, hm.1, ⟨_, _, rfl, by omega, by omega, by simp, fun _ => ⟨_, _, rfl, hm.2.2, .inl rfl⟩⟩, hm.2.1⟩
              · have e1 : (len + n) * ei.size ≤ cap * ei.size := Nat.mul_le_mul_right _ hle
                rw [Nat.add_mul] at e1
                have hone' : ∀ v ∈ ns, v.oneCell' = true := fun v hm => by
                  obtain ⟨j, hj⟩ := List.getElem?_of_mem hm
                  have hjl : j < news.length := by have := (List.getElem?_eq_some_iff.1 hj).1; have := hns.length; omega
                  obtain ⟨x, hx, hrv⟩ := RVs.get hns (List.getElem?_eq_getElem hjl)
                  rw [hj] at hx; simp at hx; subst hx
                  exact (hrv.one (List.all_eq_true.1 hone _ (List.getElem_mem hjl))).1
                obtain ⟨w', c', hrun, hh', hs', hoth, hsz', hos, ht, hp', hdr', hc⟩ := run_storeCells_blk (P := P) ns (l.base + off + len * ei.size) 0 carr w hh (by omega) (hfz rfl) hone'
                simp only [add_eq] at hrm
                rw [hrun] at hrm
                have hm := hr.move hb rfl hl off (cs := cs.drop off ++ news) hoth hsz' hos ht hp' (by omega) ⟨c', ce, fz, hh', hs'.trans hsize, fun i v hi => by
                  show ∃ x, c'[l.base + off + i]? = some x ∧ RV ρ v x
                  rw [hc]
                  by_cases hi2 : i < (cs.drop off).length
                  · rw [List.getElem?_append_left hi2, List.getElem?_drop] at hi
                    simp at hi2
                    rw [if_neg (by omega), Nat.add_assoc]
                    exact hcells _ _ hi
                  · rw [List.getElem?_append_right (by omega)] at hi
                    simp at hi2 hi
                    have hlt := (List.getElem?_eq_some_iff.1 hi).1
                    obtain ⟨x, hx, hrv⟩ := RVs.get hns hi
                    refine ⟨x, ?_, hrv⟩
                    rw [if_pos (by omega), ← hx]
                    congr 1; omega, fun _ j hj => hfz rfl j (by omega)⟩
                refine ⟨_, w', _, hrm, hm.1, ⟨_, _, rfl, by omega, by omega, by simp, fun _ => ⟨_, _, rfl, hm.2.2, .inr ⟨by simp, ?_⟩⟩⟩, hm.2.1⟩
                show l.base + off + 0 + cap * ei.size ≤ l.size
                omega
            · -- it moves
              have hold : ∃ olds, RVs ρ (cs.drop off) olds ∧ ∀ w' : World, w'.heap = w.heap → (Builtin.firstCells ei.size len (.slice (some ad) len cap)).run P w' = .ok ⟨olds⟩ w' := by
                rcases Nat.eq_zero_or_pos len with h0 | h0
                · subst h0
                  have hdrop : cs.drop off = [] := List.drop_eq_nil_of_le (by omega)
                  exact ⟨[], by rw [hdrop]; rfl, fun w' _ => by simp [Builtin.firstCells, loadCells, loadCellsFrom]⟩
                · rcases g5 with g5 | ⟨rfl, g6⟩
                  · omega
                  · have hlen' : (cs.drop off).length = len * ei.size := by simp; omega
                    refine ⟨(List.range (len * ei.size)).map fun j => (carr[l.base + (off + j)]?).getD undef, RVs.of (by rw [hlen']; simp) fun i v hi => ?_, fun w' hw' => ?_⟩
                    · have hilt := (List.getElem?_eq_some_iff.1 hi).1
                      rw [List.getElem?_drop] at hi
                      obtain ⟨x, hx, hrv⟩ := hcells _ _ hi
                      refine ⟨x, ?_, hrv⟩
                      rw [hlen'] at hilt
                      simp [hilt, hx]
                    · simp only [Builtin.firstCells]
                      refine run_loadCells w' _ _ _ fun j hj => ?_
                      obtain ⟨x, hx, _⟩ := hcells (off + j) _ (List.getElem?_eq_getElem (by omega))
                      rw [add_eq, Nat.add_assoc]
                      simp [World.cell?, hw', hh, hx]
              obtain ⟨olds, holds, hold⟩ := hold
              have hg := hgrow olds (by omega) hold
              have hol := holds.length
              have hcells' : ∀ (i : Nat) (v : AV), (cs.drop off ++ news)[i]? = some v → ∃ x, (olds.toArray ++ ns.toArray ++ Builtin.zeroCells zv.cells (grownCap w (len + n) cap e - (len + n)))[i]? = some x ∧ RV ρ v x := fun i v hi => by
                obtain ⟨x, hx, hrv⟩ := RVs.get (RVs.append holds hns) hi
                refine ⟨x, ?_, hrv⟩
                have := (List.getElem?_eq_some_iff.1 hx).1
                rw [Array.getElem?_append_left (by simpa using this)]
                simpa using hx
              obtain ⟨j1, j2⟩ := hr.kill b
              obtain ⟨k1, k2, k3⟩ := j1.allocF hcells' e (0, 0) (fun j _ => by omega) (w' := w.drew.alloc (.cells _ e)) rfl rfl rfl rfl (Nat.le_succ _)
              refine ⟨_, _, _, hg, k1, ⟨_, _, rfl, by omega, by omega, by simp, fun _ => ⟨_, _, rfl, k3, .inr ⟨rfl, ?_⟩⟩⟩, j2.trans k2⟩
              show 0 + 0 + grownCap w (len + n) cap e * ei.size ≤ Array.size _
              have hdl : (cs.drop off).length = len * ei.size := by simp; omega
              simp [size_zeroCells, hzs, hnsl]
              have e1 : (len + n) * ei.size + (grownCap w (len + n) cap e - (len + n)) * ei.size = grownCap w (len + n) cap e * ei.size := by rw [← Nat.add_mul]; congr 1; omega
              rw [Nat.add_mul] at e1
              omega
        · cases h
    · cases h
  · cases h
/-! ### clear -/
def evClear (P : Program) (t : TypeId) (x : AV) (st : St) : Option (AV × St) := (tinfo P t).bind fun ti => match ti.k, x with
  | .sl e, .sl _ b off len _ nl => if len = 0 then some (.any, st) else (tinfo P e).bind fun ei => ei.zero.bind fun z => (wrBlk st b).bind fun cs =>
      need (nl = false ∧ (zeroRow z len).all AV.one = true ∧ off + (zeroRow z len).length ≤ cs.length) (some (.any, st.set b (.blk (setL cs off (zeroRow z len)) true)))
  | _, _ => none
theorem evClear_ok {P : Program} {t : TypeId} {x v : AV} {st st' : St} (h : evClear P t x st = some (v, st')) {ρ : Loc.Map} {w : World} {c : Value} (hr : Rel ρ st w) (hx : RV ρ x c) (ts : Array TypeId) (ty : TypeId) (ht : ts[0]? = some t) :
    ∃ r w', (Builtin.clear_ ts ty #[c]).run P w = .ok r w' ∧ Rel ρ st' w' ∧ RV ρ v r ∧ Step st.n ρ st w ρ st' w' := by
  unfold evClear at h
  simp only [Option.bind_eq_some_iff] at h
  obtain ⟨ti, hti, h⟩ := h
  obtain ⟨_, d, _, hd, hk, _⟩ := tinfo_spec hti
  split at h
  · rename_i e sz b off len mc nl hkk
    have hd' := kd_sl (hk.trans hkk); subst hd'
    obtain ⟨a, cap, rfl, g1, g2, g3, g4⟩ := hx
    split at h
    · rename_i h0
      subst h0
      simp at h; obtain ⟨rfl, rfl⟩ := h
      refine ⟨.tuple #[], w, ?_, hr, trivial, .refl ..⟩
      cases a <;> simp [Builtin.clear_, ht, run_underlying hd]
    · rename_i h0
      simp only [Option.bind_eq_some_iff] at h
      obtain ⟨ei, hei, z, hz, cs, hcs, h⟩ := h
      have hq := need_some h
      clear h
      obtain ⟨⟨rfl, hone, hfit⟩, h⟩ := hq
      simp at h; obtain ⟨rfl, rfl⟩ := h
      obtain ⟨ad, l, rfl, hl, g5⟩ := g4 rfl
      obtain ⟨zv, hzrun, hzv⟩ := run_zeroValue hei hz w ρ
      rcases g5 with g5 | ⟨rfl, _⟩
      · omega
      obtain ⟨w', hrun, h1, h2⟩ := store_cells (P := P) hr (wrBlk_spec hcs) hl (RVs_zeroRow hzv len) hone hfit
      refine ⟨.tuple #[], w', ?_, h1, trivial, h2⟩
      obtain ⟨m, rfl⟩ : ∃ m, len = m + 1 := ⟨len - 1, by omega⟩
      have hrun' : (storeCells ⟨l.blk, l.base + off, none⟩ (Builtin.zeroCells zv.cells (m + 1)).toList).run P w = .ok () w' := hrun
      simp [Builtin.clear_, ht, run_underlying hd, hzrun]
      rw [hrun']; rfl
  · cases h
end Gab
