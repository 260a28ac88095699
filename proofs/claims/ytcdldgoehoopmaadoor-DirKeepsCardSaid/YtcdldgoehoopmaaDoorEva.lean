/- The operations of the model over the abstract memory, continued: slices, fields, numbers, comparisons. -/
import Derived.Test.YtcdldgoehoopmaaDoorEv
import Derived.Laws.Closers25
set_option linter.unusedSimpArgs false
set_option linter.unusedVariables false
namespace Gab
open Go

theorem RV.sl_at {ρ : Loc.Map} {sz b off len mc : Nat} {nl : Bool} {c : Value} (h : RV ρ (.sl sz b off len mc nl) c) (hl : 0 < len) :
    ∃ l cap, ρ[b]? = some l ∧ c = .slice (some ⟨l.blk, l.base + off, none⟩) len cap ∧ len ≤ cap ∧ mc ≤ cap ∧ l.base + off + cap * sz ≤ l.size ∧ nl = false := by
  obtain ⟨a, cap, rfl, h1, h2, h3, h4⟩ := h
  cases nl with
  | true => have := (h3 rfl).2; omega
  | false =>
    obtain ⟨ad, l, rfl, hl', h5⟩ := h4 rfl
    rcases h5 with h5 | ⟨rfl, h6⟩
    · omega
    · exact ⟨l, cap, hl', rfl, h1, h2, h6, rfl⟩

/-! ### Slices of slices and strings -/
def bnd (d : Nat) : Option AV → Option Nat
  | none => some d
  | some (.int _ i) => need (0 ≤ i) (some i.toNat)
  | some _ => none
def evSlice (P : Program) (t : TypeId) (x : AV) (lo hi mx : Option AV) : Option AV := (tinfo P t).bind fun ti => match ti.k, x with
  | .str, .str l => (bnd 0 lo).bind fun a => (bnd l.length hi).bind fun b => match mx with
    | none => need (a ≤ b ∧ b ≤ l.length) (some (.str ((l.take b).drop a)))
    | some _ => none
  | .sl e, .sl sz b off len mc nl => (tinfo P e).bind fun ei => (bnd 0 lo).bind fun l => (bnd len hi).bind fun h => match mx with
    | none => need (l ≤ h ∧ h ≤ mc ∧ (nl = false → ei.size = sz)) (some (.sl sz b (off + l * sz) (h - l) (mc - l) nl))
    | some _ => match hi with
      | none => none
      | some _ => (bnd 0 mx).bind fun m => need (l ≤ h ∧ h ≤ m ∧ m ≤ mc ∧ (nl = false → ei.size = sz)) (some (.sl sz b (off + l * sz) (h - l) (m - l) nl))
  | _, _ => none

def ROv (ρ : Loc.Map) : Option AV → Option Value → Prop
  | none, c => c = none
  | some v, c => ∃ x, c = some x ∧ RV ρ v x
theorem bnd_run {P : Program} {ρ : Loc.Map} {d i : Nat} {v : AV} {c : Value} (h : bnd d (some v) = some i) (hv : RV ρ v c) {y : Nat} (hy : i ≤ y) (code : BoundsCode) (w : World) :
    (Instr.sliceBound c y code).run P w = .ok i w := by
  unfold bnd at h
  split at h
  · cases ‹some v = none›
  · rename_i k n hv'
    simp at hv'; subst hv'
    obtain ⟨h0, h⟩ := need_some h
    simp at h; subst h
    simp only [RV] at hv; subst hv
    simp only [Instr.sliceBound, asIntOf, Sem.run_bind, Sem.run_pure, Result.andThen_ok, Sem.run_ite]
    rw [if_pos (by omega)]
  · cases h

theorem sliceBounds_run {P : Program} {ρ : Loc.Map} {isSlice : Bool} {len cap l h m : Nat} {lo hi mx : Option AV} {clo chi cmx : Option Value} (h1 : bnd 0 lo = some l) (h2 : bnd len hi = some h)
    (h3 : (mx = none ∧ m = cap) ∨ (bnd 0 mx = some m ∧ mx ≠ none ∧ hi ≠ none ∧ m ≤ cap)) (r1 : ROv ρ lo clo) (r2 : ROv ρ hi chi) (r3 : ROv ρ mx cmx) (hl : l ≤ h) (hh : h ≤ m) (w : World) :
    (Instr.sliceBounds isSlice len cap clo chi cmx).run P w = .ok (l, h, m) w := by
  have low : (clo = none ∧ l = 0) ∨ ∃ v, clo = some v ∧ ∀ code, (Instr.sliceBound v h code).run P w = .ok l w := by
    cases lo with
    | none => simp only [ROv] at r1; subst r1; simp [bnd] at h1; subst h1; exact .inl ⟨rfl, rfl⟩
    | some v => obtain ⟨x, rfl, hx⟩ := r1; exact .inr ⟨x, rfl, fun code => bnd_run h1 hx hl code w⟩
  rcases h3 with ⟨rfl, rfl⟩ | ⟨h3, hne, hne', hm⟩
  · simp only [ROv] at r3; subst r3
    have high : ∀ code, (match chi with | some v => Instr.sliceBound v m code | none => pure len).run P w = .ok h w := fun code => by
      cases hi with
      | none => simp only [ROv] at r2; subst r2; simp [bnd] at h2; subst h2; rfl
      | some v => obtain ⟨x, rfl, hx⟩ := r2; exact bnd_run h2 hx hh code w
    cases chi with
    | none =>
      have := high .sliceB
      simp at this; subst this
      rcases low with ⟨rfl, rfl⟩ | ⟨v, rfl, hv⟩ <;> simp only [Instr.sliceBounds, Sem.run_bind, Sem.run_pure, Result.andThen_ok, *]
    | some v =>
      have hv := high (if isSlice then .sliceAcap else .sliceAlen)
      simp only at hv
      rcases low with ⟨rfl, rfl⟩ | ⟨v', rfl, hv'⟩ <;> simp only [Instr.sliceBounds, Sem.run_bind, Sem.run_pure, Result.andThen_ok, *]
  · cases mx with
    | none => exact absurd rfl hne
    | some vm =>
      cases hi with
      | none => exact absurd rfl hne'
      | some vh =>
        obtain ⟨xm, rfl, hxm⟩ := r3
        obtain ⟨xh, rfl, hxh⟩ := r2
        have e1 := fun code => bnd_run (P := P) h3 hxm hm code w
        have e2 := fun code => bnd_run (P := P) h2 hxh hh code w
        rcases low with ⟨rfl, rfl⟩ | ⟨v', rfl, hv'⟩ <;> simp only [Instr.sliceBounds, Sem.run_bind, Sem.run_pure, Result.andThen_ok, *]

theorem mk_extract (l : List UInt8) (a b : Nat) : (ByteArray.mk l.toArray).extract a b = ⟨((l.take b).drop a).toArray⟩ := by
  apply ByteArray.ext
  simp only [ByteArray.data_extract]
  apply Array.ext'
  simp [Array.toList_extract, List.extract_eq_take_drop, List.drop_take]
theorem mk_size (l : List UInt8) : (ByteArray.mk l.toArray).size = l.length := by simp [ByteArray.size]
theorem mk_toList (l : List UInt8) : (ByteArray.mk l.toArray).toList = l := by rw [ByteArray.toList_eq]
theorem mk_append (l m : List UInt8) : (ByteArray.mk l.toArray) ++ (ByteArray.mk m.toArray) = ⟨(l ++ m).toArray⟩ := by
  apply ByteArray.ext; simp
theorem mk_get (l : List UInt8) (i : Nat) : (ByteArray.mk l.toArray)[i]? = l[i]? := by
  by_cases h : i < l.length
  · rw [getElem?_pos _ i (by rw [mk_size]; exact h), getElem?_pos l i h]
    rfl
  · rw [getElem?_neg _ i (by rw [mk_size]; exact h), getElem?_neg l i h]

theorem evSlice_ok {P : Program} {t : TypeId} {x v : AV} {lo hi mx : Option AV} (hh : evSlice P t x lo hi mx = some v) {ρ : Loc.Map} {c : Value} {clo chi cmx : Option Value} (hx : RV ρ x c) (r1 : ROv ρ lo clo) (r2 : ROv ρ hi chi) (r3 : ROv ρ mx cmx) (w : World) :
    ∃ r, (Instr.sliceAt t c clo chi cmx).run P w = .ok r w ∧ RV ρ v r := by
  unfold evSlice at hh
  simp only [Option.bind_eq_some_iff] at hh
  obtain ⟨ti, hti, hh⟩ := hh
  obtain ⟨i, d, hi', hd, hk, _⟩ := tinfo_spec hti
  split at hh
  · rename_i l hl
    have hd' := kd_str (hk.trans hl); subst hd'
    simp only [Option.bind_eq_some_iff] at hh
    obtain ⟨a, ha, b, hb, hh⟩ := hh
    split at hh
    · obtain ⟨⟨hab, hbl⟩, hh⟩ := need_some hh
      simp at hh; subst hh
      simp only [RV] at hx; subst hx
      simp only [ROv] at r3; subst r3
      have hbs := sliceBounds_run (P := P) (isSlice := false) (cap := l.length) (m := l.length) (len := l.length) ha hb (.inl ⟨rfl, rfl⟩) r1 r2 (mx := none) rfl hab hbl w
      refine ⟨.string ⟨((l.take b).drop a).toArray⟩, ?_, rfl⟩
      simp only [Instr.sliceAt, Instr.slice, Sem.run_bind, run_underlying hd, Result.andThen_ok, Option.isSome_none, Bool.false_eq_true, if_false, Sem.run_pure, mk_size, hbs, mk_extract]
    · cases hh
  · rename_i e sz b off len mc nl he
    have hd' := kd_sl (hk.trans he); subst hd'
    simp only [Option.bind_eq_some_iff] at hh
    obtain ⟨ei, hei, l, hl, h, hhi, hh⟩ := hh
    obtain ⟨a, cap, rfl, g1, g2, g3, g4⟩ := hx
    have main : ∀ m, ((mx = none ∧ m = cap) ∨ (bnd 0 mx = some m ∧ mx ≠ none ∧ hi ≠ none ∧ m ≤ cap)) → l ≤ h → h ≤ m → (nl = false → ei.size = sz) → ∀ mc', mc' ≤ m → RV ρ (.sl sz b (off + l * sz) (h - l) (mc' - l) nl) (.slice (if m = l then a else a.map (·.add (l * ei.size))) (h - l) (m - l)) ∧
        (Instr.sliceAt t (.slice a len cap) clo chi cmx).run P w = .ok (.slice (if m = l then a else a.map (·.add (l * ei.size))) (h - l) (m - l)) w := by
      intro m hm hlh hhm hsz mc' hmc
      have hmcap : m ≤ cap := by rcases hm with ⟨_, rfl⟩ | ⟨_, _, _, hm⟩ <;> omega
      have hbs := sliceBounds_run (P := P) (isSlice := true) hl hhi hm r1 r2 r3 hlh hhm w
      refine ⟨⟨_, _, rfl, by omega, by omega, fun hn => ?_, fun hn => ?_⟩, ?_⟩
      · obtain ⟨rfl, rfl⟩ := g3 hn
        exact ⟨by simp, by omega⟩
      · obtain ⟨ad, lc, rfl, hlc, g5⟩ := g4 hn
        by_cases hml : m = l
        · exact ⟨ad, lc, by rw [if_pos hml], hlc, .inl (by omega)⟩
        · rw [if_neg hml]
          rcases g5 with g5 | ⟨rfl, g6⟩
          · omega
          · refine ⟨_, lc, rfl, hlc, .inr ⟨?_, ?_⟩⟩
            · show (⟨lc.blk, lc.base + off, none⟩ : Addr).add (l * ei.size) = _
              rw [add_eq, hsz hn, Nat.add_assoc]
            · have e1 : (m - l) * sz + l * sz = m * sz := by rw [← Nat.add_mul]; congr 1; omega
              have e2 : m * sz ≤ cap * sz := Nat.mul_le_mul_right _ hmcap
              omega
      · simp only [Instr.sliceAt, Instr.slice, Sem.run_bind, run_underlying hd, Result.andThen_ok, hbs, run_sizeOf hei, Sem.run_pure]
    split at hh
    · obtain ⟨⟨n1, n2, n3⟩, hh⟩ := need_some hh
      simp at hh; subst hh
      obtain ⟨q1, q2⟩ := main cap (.inl ⟨rfl, rfl⟩) n1 (by omega) n3 mc g2
      exact ⟨_, q2, q1⟩
    · split at hh
      · cases hh
      · simp only [Option.bind_eq_some_iff] at hh
        obtain ⟨m, hm, hh⟩ := hh
        obtain ⟨⟨n1, n2, n3, n4⟩, hh⟩ := need_some hh
        simp at hh; subst hh
        obtain ⟨q1, q2⟩ := main m (.inr ⟨hm, by simp, by simp, by omega⟩) n1 n2 n4 m (Nat.le_refl _)
        exact ⟨_, q2, q1⟩
  · cases hh

/-! ### Fields and elements -/
def evFieldAddr (P : Program) (t : TypeId) (x : AV) (f : Nat) : Option AV := match x with
  | .ptr b off => (tinfo P t).bind fun ti => match ti.k with
    | .struct fs => fs[f]?.bind fun p => (tinfo P p.2).bind fun fi => need (fi.size ≠ 0) (some (.ptr b (off + p.1)))
    | _ => none
  | _ => none
theorem evFieldAddr_ok {P : Program} {t : TypeId} {x v : AV} {f : Nat} (h : evFieldAddr P t x f = some v) {ρ : Loc.Map} {c : Value} (hx : RV ρ x c) (w : World) :
    ∃ r, (Instr.fieldAt t c f).run P w = .ok r w ∧ RV ρ v r := by
  unfold evFieldAddr at h
  split at h
  · simp only [Option.bind_eq_some_iff] at h
    obtain ⟨ti, hti, h⟩ := h
    obtain ⟨i, d, hi', hd, hk, _⟩ := tinfo_spec hti
    split at h
    · rename_i fs hfs
      obtain ⟨ff, rfl, hff⟩ := kd_struct (hk.trans hfs)
      simp only [Option.bind_eq_some_iff] at h
      obtain ⟨p, hp, fi, hfi, h⟩ := h
      obtain ⟨hne, h⟩ := need_some h
      simp at h; subst h
      obtain ⟨l, hl, rfl⟩ := hx
      rw [← hff, List.getElem?_map] at hp
      cases hg : ff[f]? with
      | none => rw [← Array.getElem?_toList] at hg; simp [hg] at hp
      | some fd =>
        have hg' := hg
        rw [← Array.getElem?_toList] at hg
        simp [hg] at hp; subst hp
        refine ⟨_, ?_, ⟨l, hl, rfl⟩⟩
        simp only [Instr.fieldAt, Sem.run_bind, run_underlying hd, Result.andThen_ok, hg', Instr.sureAddr, Sem.run_pure, fieldPlace, run_sizeOf hfi, Sem.run_ite, if_neg hne, add_eq]
        simp [Nat.add_assoc]
    · cases h
  · cases h

def partA (P : Program) (t : TypeId) (cs : List AV) (off : Nat) : Option AV :=
  (tinfo P t).bind fun ti => if ti.k.agg then (loadN cs off ti.size).bind fun l => some (.agg l) else cs[off]?
theorem partA_ok {P : Program} {t : TypeId} {cs : List AV} {off : Nat} {v : AV} (h : partA P t cs off = some v) {ρ : Loc.Map} {xs : Array Value} (hx : RVs ρ cs xs.toList) (w : World) :
    ∃ r, (part t xs off).run P w = .ok r w ∧ RV ρ v r := by
  unfold partA at h
  simp only [Option.bind_eq_some_iff] at h
  obtain ⟨ti, hti, h⟩ := h
  simp only [part, Sem.run_bind, run_isAgg hti, Result.andThen_ok, Sem.run_ite, run_sizeOf hti, Sem.run_pure]
  split at h
  · rename_i ha
    rw [if_pos ha]
    simp only [Option.bind_eq_some_iff] at h
    obtain ⟨l, hl, h⟩ := h
    simp at h; subst h
    obtain ⟨h1, h2⟩ := loadN_spec hl
    refine ⟨_, rfl, (xs.extract off (off + ti.size)).toList, rfl, RVs.of ?_ fun i a hi => ?_⟩
    · have hlen := hx.length
      simp only [Array.length_toList] at hlen
      have : off + ti.size ≤ xs.size ∨ ti.size = 0 := by
        rcases Nat.eq_zero_or_pos ti.size with h0 | h0
        · exact .inr h0
        · have h3 := h2 (ti.size - 1) (by omega)
          rw [List.getElem?_eq_getElem (by omega)] at h3
          have := (List.getElem?_eq_some_iff.1 h3.symm).1
          omega
      simp only [Array.toList_extract, List.extract_eq_take_drop, List.length_take, List.length_drop, Array.length_toList]
      omega
    · have hin : i < ti.size := by have := (List.getElem?_eq_some_iff.1 hi).1; omega
      rw [h2 i hin] at hi
      obtain ⟨c, hc, hr⟩ := RVs.get hx hi
      refine ⟨c, ?_, hr⟩
      simp only [Array.toList_extract, List.extract_eq_take_drop, List.getElem?_take, List.getElem?_drop]
      rw [if_pos (by omega)]
      exact hc
  · rename_i ha
    rw [if_neg ha]
    obtain ⟨c, hc, hr⟩ := RVs.get hx h
    rw [Array.getElem?_toList] at hc
    exact ⟨c, by simp [hc], hr⟩

def evField (P : Program) (t : TypeId) (x : AV) (f : Nat) : Option AV := match x with
  | .agg cs => (tinfo P t).bind fun ti => match ti.k with
    | .struct fs => fs[f]?.bind fun p => partA P p.2 cs p.1
    | _ => none
  | _ => none
theorem evField_ok {P : Program} {t : TypeId} {x v : AV} {f : Nat} (h : evField P t x f = some v) {ρ : Loc.Map} {c : Value} (hx : RV ρ x c) (w : World) :
    ∃ r, (Instr.field t c f).run P w = .ok r w ∧ RV ρ v r := by
  unfold evField at h
  split at h
  · simp only [Option.bind_eq_some_iff] at h
    obtain ⟨ti, hti, h⟩ := h
    obtain ⟨i, d, hi', hd, hk, _⟩ := tinfo_spec hti
    split at h
    · rename_i fs hfs
      obtain ⟨ff, rfl, hff⟩ := kd_struct (hk.trans hfs)
      simp only [Option.bind_eq_some_iff] at h
      obtain ⟨p, hp, h⟩ := h
      obtain ⟨cs, rfl, hcs⟩ := hx
      rw [← hff, List.getElem?_map] at hp
      cases hg : ff[f]? with
      | none => rw [← Array.getElem?_toList] at hg; simp [hg] at hp
      | some fd =>
        have hg' := hg
        rw [← Array.getElem?_toList] at hg
        simp [hg] at hp; subst hp
        obtain ⟨r, hrun, hr⟩ := partA_ok h (xs := ⟨cs⟩) hcs w
        refine ⟨r, ?_, hr⟩
        simp only [Instr.field, Sem.run_bind, run_underlying hd, Result.andThen_ok, hg', asAgg, Sem.run_pure, hrun]
    · cases h
  · cases h

def evIndexAddr (P : Program) (t : TypeId) (x i : AV) : Option AV := match x, i with
  | .sl sz b off len _ _, .int _ n => (tinfo P t).bind fun ti => match ti.k with
    | .sl e => (tinfo P e).bind fun ei => need (ei.size = sz ∧ 0 ≤ n ∧ n < len) (some (.ptr b (off + n.toNat * sz)))
    | _ => none
  | .ptr b off, .int _ n => (tinfo P t).bind fun ti => match ti.k with
    | .arr len e => (tinfo P e).bind fun ei => need (0 ≤ n ∧ n < len) (some (.ptr b (off + n.toNat * ei.size)))
    | _ => none
  | _, _ => none
theorem evIndexAddr_ok {P : Program} {t : TypeId} {x i v : AV} (h : evIndexAddr P t x i = some v) {ρ : Loc.Map} {c ci : Value} (hx : RV ρ x c) (hi : RV ρ i ci) (w : World) :
    ∃ r, (Instr.indexAt t c ci).run P w = .ok r w ∧ RV ρ v r := by
  unfold evIndexAddr at h
  split at h
  · simp only [Option.bind_eq_some_iff] at h
    obtain ⟨ti, hti, h⟩ := h
    obtain ⟨_, d, _, hd, hk, _⟩ := tinfo_spec hti
    split at h
    · rename_i e he
      have hd' := kd_sl (hk.trans he); subst hd'
      simp only [Option.bind_eq_some_iff] at h
      obtain ⟨ei, hei, h⟩ := h
      obtain ⟨⟨hs, h0, hlt⟩, h⟩ := need_some h
      simp at h; subst h
      simp only [RV] at hi; subst hi
      obtain ⟨l, cap, hl, rfl, _⟩ := RV.sl_at hx (by omega)
      refine ⟨_, ?_, ⟨l, hl, rfl⟩⟩
      simp only [Instr.indexAt, asIntOf, Sem.run_bind, Sem.run_pure, run_underlying hd, Result.andThen_ok, Sem.run_ite, run_sizeOf hei]
      rw [if_pos ⟨h0, hlt⟩, hs, add_eq, Nat.add_assoc]
    · cases h
  · simp only [Option.bind_eq_some_iff] at h
    obtain ⟨ti, hti, h⟩ := h
    obtain ⟨_, d, _, hd, hk, _⟩ := tinfo_spec hti
    split at h
    · rename_i len e he
      have hd' := kd_arr (hk.trans he); subst hd'
      simp only [Option.bind_eq_some_iff] at h
      obtain ⟨ei, hei, h⟩ := h
      obtain ⟨⟨h0, hlt⟩, h⟩ := need_some h
      simp at h; subst h
      simp only [RV] at hi; subst hi
      obtain ⟨l, hl, rfl⟩ := hx
      refine ⟨_, ?_, ⟨l, hl, rfl⟩⟩
      simp only [Instr.indexAt, asIntOf, Sem.run_bind, Sem.run_pure, run_underlying hd, Result.andThen_ok, Sem.run_ite, run_sizeOf hei, Instr.sureAddr]
      rw [if_pos ⟨h0, hlt⟩, add_eq, Nat.add_assoc]
    · cases h
  · cases h

def evIndex (P : Program) (t : TypeId) (x i : AV) : Option AV := match x, i with
  | .str l, .int _ n => (tinfo P t).bind fun ti => match ti.k with
    | .str => need (0 ≤ n) (l[n.toNat]?.bind fun b => some (.int .u8 b.toNat))
    | _ => none
  | .agg cs, .int _ n => (tinfo P t).bind fun ti => match ti.k with
    | .arr len e => (tinfo P e).bind fun ei => need (0 ≤ n ∧ n < len) (partA P e cs (n.toNat * ei.size))
    | _ => none
  | _, _ => none
theorem evIndex_ok {P : Program} {t : TypeId} {x i v : AV} (h : evIndex P t x i = some v) {ρ : Loc.Map} {c ci : Value} (hx : RV ρ x c) (hi : RV ρ i ci) (w : World) :
    ∃ r, (Instr.index t c ci).run P w = .ok r w ∧ RV ρ v r := by
  unfold evIndex at h
  split at h
  · simp only [Option.bind_eq_some_iff] at h
    obtain ⟨ti, hti, h⟩ := h
    obtain ⟨_, d, _, hd, hk, _⟩ := tinfo_spec hti
    split at h
    · rename_i he
      have hd' := kd_str (hk.trans he); subst hd'
      obtain ⟨h0, h⟩ := need_some h
      simp only [Option.bind_eq_some_iff] at h
      obtain ⟨b, hb, h⟩ := h
      simp at h; subst h
      simp only [RV] at hi hx; subst hi; subst hx
      refine ⟨_, ?_, rfl⟩
      simp only [Instr.index, asIntOf, Sem.run_bind, Sem.run_pure, run_underlying hd, Result.andThen_ok, if_pos h0, mk_get, hb]
    · cases h
  · simp only [Option.bind_eq_some_iff] at h
    obtain ⟨ti, hti, h⟩ := h
    obtain ⟨_, d, _, hd, hk, _⟩ := tinfo_spec hti
    split at h
    · rename_i len e he
      have hd' := kd_arr (hk.trans he); subst hd'
      simp only [Option.bind_eq_some_iff] at h
      obtain ⟨ei, hei, h⟩ := h
      obtain ⟨⟨h0, hlt⟩, h⟩ := need_some h
      simp only [RV] at hi; subst hi
      obtain ⟨cs', rfl, hcs⟩ := hx
      obtain ⟨r, hrun, hr⟩ := partA_ok h (xs := ⟨cs'⟩) hcs w
      refine ⟨r, ?_, hr⟩
      simp only [Instr.index, asIntOf, Sem.run_bind, Sem.run_pure, run_underlying hd, Result.andThen_ok, Sem.run_ite, run_sizeOf hei]
      rw [if_pos ⟨h0, hlt⟩]
      exact hrun
    · cases h
  · cases h
end Gab
