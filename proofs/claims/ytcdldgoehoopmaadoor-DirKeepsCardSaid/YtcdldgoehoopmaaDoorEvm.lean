/- The operations of the model over the abstract memory, continued: maps. -/
import Derived.Test.YtcdldgoehoopmaaDoorEvd
import Derived.MapKept
import Derived.Carry
import Derived.Laws.IdiomRangeMap
set_option linter.unusedSimpArgs false
set_option linter.unusedVariables false
namespace Gab
open Go

/-! ### Keys -/
def keyEq : AV → AV → Option Bool
  | .int k a, .int k' b => if k = k' then some (decide (a = b)) else none
  | .str a, .str b => some (decide (a = b))
  | .bool a, .bool b => some (decide (a = b))
  | _, _ => none
def keyK : TK → AV → Bool
  | .int k, .int k' _ => decide (k' = k)
  | .str, .str _ => true
  | .bool, .bool _ => true
  | _, _ => false
abbrev MEnts := List (AV × AV × Nat)
def findA (k : AV) : MEnts → Option (Option (Nat × AV))
  | [] => some none
  | e :: r => match keyEq k e.1 with
    | some true => some (some (0, e.2.1))
    | some false => (findA k r).map fun o => o.map fun p => (p.1 + 1, p.2)
    | none => none
/-- The entries of a map object, as the model has them. -/
def EntsRel (ρ : Loc.Map) (es : MEnts) (ents : List MapEntry) : Prop := ents.length = es.length ∧ ∀ (i : Nat) (k v : AV) (b : Nat), es[i]? = some (k, v, b) → ∃ e : MapEntry, ents[i]? = some e ∧ RV ρ k e.key ∧ RV ρ v e.val ∧ e.born = b
theorem EntsRel.tail {ρ : Loc.Map} {x : AV × AV × Nat} {es : MEnts} {e : MapEntry} {ents : List MapEntry} (h : EntsRel ρ (x :: es) (e :: ents)) : EntsRel ρ es ents :=
  ⟨by have := h.1; simpa using this, fun i k v b hi => by simpa using h.2 (i + 1) k v b (by simpa using hi)⟩
theorem EntsRel.head {ρ : Loc.Map} {x : AV × AV × Nat} {es : MEnts} {e : MapEntry} {ents : List MapEntry} (h : EntsRel ρ (x :: es) (e :: ents)) : RV ρ x.1 e.key ∧ RV ρ x.2.1 e.val ∧ e.born = x.2.2 := by
  obtain ⟨e', he, h1, h2, h3⟩ := h.2 0 x.1 x.2.1 x.2.2 rfl
  simp at he; subst he; exact ⟨h1, h2, h3⟩
theorem key_isKey {ρ : Loc.Map} {t : TK} {d : TypeDesc} {k : AV} {c : Value} (ht : kd d = t) (hk : keyK t k = true) (hc : RV ρ k c) : MapKept.IsKey d c := by
  subst ht
  cases d <;> simp only [kd] at hk <;> cases k <;> simp [keyK] at hk <;> simp only [RV] at hc <;> subst hc <;> simp [MapKept.IsKey, hk]
theorem keyEq_same {ρ : Loc.Map} {t : TK} {d : TypeDesc} {k k' : AV} {c c' : Value} {q : Bool} (ht : kd d = t) (hk : keyK t k = true) (hc : RV ρ k c) (hc' : RV ρ k' c') (h : keyEq k k' = some q) : Instr.sameNow d c c' = some q := by
  subst ht
  cases d <;> simp only [kd] at hk <;> cases k <;> simp [keyK] at hk <;> cases k' <;> simp [keyEq] at h <;> simp only [RV] at hc hc' <;> subst hc <;> subst hc'
  · subst h; rfl
  · rename_i j a b; simp only [Instr.sameNow]; rw [if_pos h.1]
    obtain ⟨_, rfl⟩ := h; rfl
  · subst h
    rename_i a b
    show some ((⟨⟨a⟩⟩ : ByteArray) == ⟨⟨b⟩⟩) = some (decide (a = b))
    rw [beq_toListBytes, mk_toList, mk_toList]
    congr 1
    rw [Bool.eq_iff_iff]
    simp
theorem findNow_at {d : TypeDesc} {k : Value} : ∀ {ents : List MapEntry} {i : Nat} {r : Option (Nat × Value)}, Instr.findNow d k ents 0 = some r → Instr.findNow d k ents i = some (r.map fun p => (p.1 + i, p.2))
  | [], i, r, h => by simp [Instr.findNow] at h; subst h; rfl
  | e :: es, i, r, h => by
    have gen : ∀ {ents : List MapEntry} {i j : Nat} {r : Option (Nat × Value)}, Instr.findNow d k ents i = some r → Instr.findNow d k ents (i + j) = some (r.map fun p => (p.1 + j, p.2)) := by
      intro ents
      induction ents with
      | nil => intro i j r h; simp [Instr.findNow] at h; subst h; rfl
      | cons e es ih =>
        intro i j r h
        unfold Instr.findNow at h ⊢
        split at h
        · rename_i hs; simp at h; subst h; rfl
        · rename_i hs
          have := ih (j := j) h
          rw [show i + j + 1 = i + 1 + j by omega]; exact this
        · cases h
    have := gen (j := i) h
    rwa [Nat.zero_add] at this
theorem findA_ok {ρ : Loc.Map} {t : TK} {d : TypeDesc} {k : AV} {c : Value} (ht : kd d = t) (hk : keyK t k = true) (hc : RV ρ k c) : ∀ {es : MEnts} {ents : List MapEntry} {r : Option (Nat × AV)}, EntsRel ρ es ents → findA k es = some r →
    ∃ r', Instr.findNow d c ents 0 = some r' ∧ ((r = none ∧ r' = none) ∨ ∃ i v x, r = some (i, v) ∧ r' = some (i, x) ∧ RV ρ v x)
  | [], [], r, _, h => by simp [findA] at h; subst h; exact ⟨none, rfl, .inl ⟨rfl, rfl⟩⟩
  | [], _ :: _, r, he, _ => absurd he.1 (by simp)
  | _ :: _, [], r, he, _ => absurd he.1 (by simp)
  | x :: es, e :: ents, r, he, h => by
    obtain ⟨h1, h2, h3⟩ := he.head
    unfold findA at h
    split at h
    · rename_i hq
      simp at h; subst h
      refine ⟨some (0, e.val), ?_, .inr ⟨0, _, _, rfl, rfl, h2⟩⟩
      unfold Instr.findNow
      rw [keyEq_same ht hk hc h1 hq]
    · rename_i hq
      simp only [Option.map_eq_some_iff] at h
      obtain ⟨r0, hr0, rfl⟩ := h
      obtain ⟨r', hr', hcase⟩ := findA_ok ht hk hc he.tail hr0
      refine ⟨r'.map fun p => (p.1 + 1, p.2), ?_, ?_⟩
      · unfold Instr.findNow
        rw [keyEq_same ht hk hc h1 hq]
        exact findNow_at hr'
      · rcases hcase with ⟨rfl, rfl⟩ | ⟨i, v, x, rfl, rfl, hv⟩
        · exact .inl ⟨rfl, rfl⟩
        · exact .inr ⟨i + 1, v, x, rfl, rfl, hv⟩
    · cases h

/-! ### A map's entries -/
def getMap (st : St) (b : Nat) : Option (MEnts × Nat) := match st.get b with
  | some (.map es c) => some (es, c)
  | _ => none
theorem getMap_spec {st : St} {b : Nat} {es : MEnts} {c : Nat} (h : getMap st b = some (es, c)) : st.get b = some (.map es c) := by
  unfold getMap at h
  split at h
  · simp at h; obtain ⟨rfl, rfl⟩ := h; assumption
  · cases h
theorem getMap_of {st : St} {b : Nat} {es : MEnts} {c : Nat} (h : st.get b = some (.map es c)) : getMap st b = some (es, c) := by unfold getMap; rw [h]
theorem map_obj {ρ : Loc.Map} {st : St} {w : World} (hr : Rel ρ st w) {b : Nat} {es : MEnts} {c : Nat} (h : getMap st b = some (es, c)) {l : Loc} (hl : ρ[b]? = some l) : ∃ ents : Array MapEntry, w.heap[l.blk]? = some (.map ents c) ∧ EntsRel ρ es ents.toList := by
  obtain ⟨l', hl', ents, hh, hsz, hes⟩ := hr.obj b _ (getMap_spec h)
  rw [hl] at hl'; simp at hl'; subst hl'
  exact ⟨ents, hh, by simpa using hsz, fun i k v b hi => by simpa using hes i k v b hi⟩
def zinfo (P : Program) (t : TypeId) : Option AV := ((P.info? t).bind (·.zero)).map AV.ofV
theorem zinfo_run {P : Program} {t : TypeId} {z : AV} (h : zinfo P t = some z) (w : World) (ρ : Loc.Map) : ∃ v, (zeroValue t).run P w = .ok v w ∧ RV ρ z v := by
  unfold zinfo at h
  simp only [Option.map_eq_some_iff, Option.bind_eq_some_iff] at h
  obtain ⟨v, ⟨i, hi, hz⟩, rfl⟩ := h
  exact ⟨v, by simp [zeroValue, typeInfo, hi, hz], RV.ofV _ _⟩

/-! ### Reading -/
def entsOf (st : St) : AV → Option MEnts
  | .nilmap => some []
  | .map b => (getMap st b).map (·.1)
  | _ => none
def evLookup (P : Program) (t : TypeId) (m k : AV) (ok : Bool) (st : St) : Option AV :=
  (tinfo P t).bind fun ti => match ti.k with
    | .map kt et => (tinfo P kt).bind fun ki => if keyK ki.k k then (entsOf st m).bind fun es => (findA k es).bind fun r => match r with
        | some p => some (if ok then .tup [p.2, .bool true] else p.2)
        | none => (zinfo P et).bind fun z => some (if ok then .tup [z, .bool false] else z)
      else none
    | _ => none
theorem kd_map {d : TypeDesc} {k e : TypeId} (h : kd d = .map k e) : d = .map k e := by cases d <;> simp_all [kd]
theorem evLookup_ok {P : Program} {t : TypeId} {m k v : AV} {ok : Bool} {st : St} (h : evLookup P t m k ok st = some v) {ρ : Loc.Map} {w : World} {cm ck : Value} (hr : Rel ρ st w) (hm : RV ρ m cm) (hk : RV ρ k ck) :
    ∃ x, (Instr.lookup t cm ck ok).run P w = .ok x w ∧ RV ρ v x := by
  unfold evLookup at h
  simp only [Option.bind_eq_some_iff] at h
  obtain ⟨ti, hti, h⟩ := h
  obtain ⟨i, d, hi, hd, hkd, _⟩ := tinfo_spec hti
  split at h
  · rename_i kt et hkk
    have hd' := kd_map (hkd.trans hkk); subst hd'
    simp only [Option.bind_eq_some_iff] at h
    obtain ⟨ki, hki, h⟩ := h
    obtain ⟨i2, d2, hi2, hd2, hkd2, _⟩ := tinfo_spec hki
    split at h
    · rename_i hkey
      simp only [Option.bind_eq_some_iff] at h
      obtain ⟨es, hes, r, hf, h⟩ := h
      have hent : ∃ ents : Array MapEntry, EntsRel ρ es ents.toList ∧ ((cm = .map none ∧ ents = #[]) ∨ ∃ r c, cm = .map (some r) ∧ w.heap[r]? = some (.map ents c)) := by
        unfold entsOf at hes
        split at hes
        · simp at hes; subst hes
          simp only [RV] at hm; subst hm
          exact ⟨#[], ⟨rfl, fun i k v b hi => by simp at hi⟩, .inl ⟨rfl, rfl⟩⟩
        · rename_i b
          simp only [Option.map_eq_some_iff] at hes
          obtain ⟨⟨es', c⟩, hg, rfl⟩ := hes
          obtain ⟨l, hl, rfl⟩ := hm
          obtain ⟨ents, hh, he⟩ := map_obj hr hg hl
          exact ⟨ents, he, .inr ⟨_, _, rfl, hh⟩⟩
        · cases hes
      obtain ⟨ents, he, hcm⟩ := hent
      obtain ⟨r', hr', hcase⟩ := findA_ok hkd2 hkey hk he hf
      have hchk := MapKept.run_checkKey (w := w) hd2 (key_isKey hkd2 hkey hk) ents.isEmpty 9999
      have hfk := MapKept.run_findKey (w := w) hd2 hr'
      rcases hcase with ⟨rfl, rfl⟩ | ⟨j, v', x, rfl, rfl, hv⟩
      · simp only [Option.bind_eq_some_iff] at h
        obtain ⟨z, hz, h⟩ := h
        obtain ⟨zv, hzr, hzv⟩ := zinfo_run hz w ρ
        refine ⟨if ok then .tuple #[zv, .bool false] else zv, ?_, ?_⟩
        · rcases hcm with ⟨rfl, rfl⟩ | ⟨r, c, rfl, hh⟩
          · simp only [Instr.lookup, Sem.run_bind, run_underlying hd, Result.andThen_ok, hchk, hfk, hzr, Sem.run_pure]
          · simp only [Instr.lookup, Sem.run_bind, run_underlying hd, Result.andThen_ok, MapKept.run_getObj_map hh, hchk, hfk, hzr, Sem.run_pure]
        · cases ok with
          | true => simp at h; subst h; exact ⟨[zv, .bool false], rfl, _, _, rfl, hzv, _, _, rfl, rfl, rfl⟩
          | false => simp at h; subst h; exact hzv
      · refine ⟨if ok then .tuple #[x, .bool true] else x, ?_, ?_⟩
        · rcases hcm with ⟨rfl, rfl⟩ | ⟨r, c, rfl, hh⟩
          · simp only [Instr.lookup, Sem.run_bind, run_underlying hd, Result.andThen_ok, hchk, hfk, Sem.run_pure]
          · simp only [Instr.lookup, Sem.run_bind, run_underlying hd, Result.andThen_ok, MapKept.run_getObj_map hh, hchk, hfk, Sem.run_pure]
        · cases ok with
          | true => simp at h; subst h; exact ⟨[x, .bool true], rfl, _, _, rfl, hv, _, _, rfl, rfl, rfl⟩
          | false => simp at h; subst h; exact hv
    · cases h
  · cases h

/-! ### Writing -/
theorem map_upd {P : Program} {ρ : Loc.Map} {st : St} {w : World} (hr : Rel ρ st w) {b : Nat} {es : MEnts} {c : Nat} (h : getMap st b = some (es, c)) {l : Loc} (hl : ρ[b]? = some l) {ents' : Array MapEntry} {es' : MEnts} {c' : Nat} (he : EntsRel ρ es' ents'.toList) {ents : Array MapEntry} (hh : w.heap[l.blk]? = some (.map ents c)) :
    ∃ w', (setObj l.blk (.map ents' c')).run P w = .ok () w' ∧ Rel ρ (st.set b (.map es' c')) w' ∧ Step st.n ρ st w ρ (st.set b (.map es' c')) w' := by
  refine ⟨_, MapKept.run_setObj_map _ hh, ?_⟩
  obtain ⟨g1, g2⟩ := MapKept.heap_set (o' := .map ents' c') hh
  exact hr.upd (getMap_spec h) rfl hl g2 (by simp) rfl rfl rfl (Nat.le_refl _) ⟨ents', g1, by simpa using he.1, fun i k v b hi => by simpa using he.2 i k v b hi⟩
def evMapUpdate (P : Program) (t : TypeId) (m k v : AV) (st : St) : Option St :=
  (tinfo P t).bind fun ti => match ti.k with
    | .map kt _ => (tinfo P kt).bind fun ki => if keyK ki.k k then (match m with
        | .map b => (getMap st b).bind fun p => (findA k p.1).bind fun r => match r with
          | some q => (p.1[q.1]?).bind fun e => some (st.set b (.map (p.1.set q.1 (k, v, e.2.2)) p.2))
          | none => some (st.set b (.map (p.1 ++ [(k, v, p.2)]) (p.2 + 1)))
        | _ => none) else none
    | _ => none
theorem find_key {ρ : Loc.Map} {t : TK} {d : TypeDesc} {k : AV} {c : Value} (ht : kd d = t) (hk : keyK t k = true) (hc : RV ρ k c) : ∀ {es : MEnts} {ents : List MapEntry} {i : Nat} {v : AV}, EntsRel ρ es ents → findA k es = some (some (i, v)) → ∃ e : MapEntry, ents[i]? = some e ∧ e.key = c ∧ i < es.length
  | [], _, _, _, _, h => by simp [findA] at h
  | _ :: _, [], _, _, he, _ => absurd he.1 (by simp)
  | x :: es, e :: ents, i, v, he, h => by
    obtain ⟨h1, h2, h3⟩ := he.head
    unfold findA at h
    split at h
    · rename_i hq
      simp at h; obtain ⟨rfl, rfl⟩ := h
      refine ⟨e, rfl, ?_, by simp⟩
      subst ht
      generalize hxe : x.1 = x1 at h1 hq
      cases d <;> simp only [kd] at hk <;> cases k <;> simp [keyK] at hk <;> cases x1 <;> simp [keyEq] at hq <;> simp only [RV] at h1 hc <;> subst hc <;> rw [h1]
      · rw [hq]
      · rw [hq.1, hq.2]
      · rw [hq]
    · rename_i hq
      simp only [Option.map_eq_some_iff] at h
      obtain ⟨r0, hr0, h⟩ := h
      obtain ⟨⟨i0, v0⟩, rfl, hi⟩ := h
      simp at hi; obtain ⟨rfl, rfl⟩ := hi
      obtain ⟨e', he', hk', hlt⟩ := find_key ht hk hc he.tail hr0
      exact ⟨e', by simpa using he', hk', by simp; omega⟩
    · cases h
theorem evMapUpdate_ok {P : Program} {t : TypeId} {m k v : AV} {st st' : St} (h : evMapUpdate P t m k v st = some st') {ρ : Loc.Map} {w : World} {cm ck cv : Value} (hr : Rel ρ st w) (hm : RV ρ m cm) (hk : RV ρ k ck) (hv : RV ρ v cv) :
    ∃ w', (Instr.mapUpdate t cm ck cv).run P w = .ok () w' ∧ Rel ρ st' w' ∧ Step st.n ρ st w ρ st' w' := by
  unfold evMapUpdate at h
  simp only [Option.bind_eq_some_iff] at h
  obtain ⟨ti, hti, h⟩ := h
  obtain ⟨i, d, hi, hd, hkd, _⟩ := tinfo_spec hti
  split at h
  · rename_i kt et hkk
    have hd' := kd_map (hkd.trans hkk); subst hd'
    simp only [Option.bind_eq_some_iff] at h
    obtain ⟨ki, hki, h⟩ := h
    obtain ⟨i2, d2, hi2, hd2, hkd2, _⟩ := tinfo_spec hki
    split at h
    · rename_i hkey
      split at h
      · rename_i b
        simp only [Option.bind_eq_some_iff] at h
        obtain ⟨⟨es, c⟩, hg, r, hf, h⟩ := h
        obtain ⟨l, hl, rfl⟩ := hm
        obtain ⟨ents, hh, he⟩ := map_obj hr hg hl
        have hik := key_isKey hkd2 hkey hk
        obtain ⟨r', hr', hcase⟩ := findA_ok hkd2 hkey hk he hf
        have hchk := MapKept.run_checkKey (w := w) hd2 hik false 9999
        have hfk := MapKept.run_findKey (w := w) hd2 hr'
        rcases hcase with ⟨rfl, rfl⟩ | ⟨j, v', x, rfl, rfl, _⟩
        · simp at h; subst h
          obtain ⟨w', h1, h2, h3⟩ := map_upd (P := P) hr hg hl (ents' := ents.push { key := ck, val := cv, born := c }) (es' := es ++ [(k, v, c)]) (c' := c + 1) ⟨by simp; exact he.1, fun i k' v' b' hi => by
            rcases Nat.lt_or_ge i es.length with hlt | hge
            · rw [List.getElem?_append_left hlt] at hi
              obtain ⟨e, h1, h2⟩ := he.2 i k' v' b' hi
              refine ⟨e, ?_, h2⟩
              rw [Array.toList_push, List.getElem?_append_left (by have := he.1; omega)]; exact h1
            · rw [List.getElem?_append_right hge] at hi
              have h0 : i - es.length = 0 := by
                rcases Nat.eq_zero_or_pos (i - es.length) with h0 | h0
                · exact h0
                · rw [List.getElem?_eq_none (by simp; omega)] at hi; cases hi
              rw [h0] at hi
              simp at hi; obtain ⟨rfl, rfl, rfl⟩ := hi
              refine ⟨{ key := ck, val := cv, born := c }, ?_, hk, hv, rfl⟩
              have := he.1
              rw [Array.toList_push, List.getElem?_append_right (by omega), show i - ents.toList.length = 0 by omega]; rfl⟩ hh
          refine ⟨w', ?_, h2, h3⟩
          simp only [Instr.mapUpdate, Sem.run_bind, run_underlying hd, Result.andThen_ok, MapKept.run_getObj_map hh, hchk, hfk, h1]
        · simp only [Option.bind_eq_some_iff] at h
          obtain ⟨e0, he0, h⟩ := h
          simp at h; subst h
          obtain ⟨e, hge, hke, hlt⟩ := find_key hkd2 hkey hk he hf
          obtain ⟨e1, hge1, _, _, hb1⟩ := he.2 j e0.1 e0.2.1 e0.2.2 he0
          rw [hge] at hge1; simp at hge1; subst hge1
          obtain ⟨w', h1, h2, h3⟩ := map_upd (P := P) hr hg hl (ents' := ents.modify j fun e => { e with key := ck, val := cv }) (es' := es.set j (k, v, e0.2.2)) (c' := c) ⟨by simp; exact he.1, fun i k' v' b' hi => by
            rw [List.getElem?_set] at hi
            rw [Array.getElem?_toList, Array.getElem?_modify]
            rw [Array.getElem?_toList] at hge
            split at hi
            · rename_i hij
              subst hij
              rw [if_pos rfl, hge]
              simp [hlt] at hi; obtain ⟨rfl, rfl, rfl⟩ := hi
              exact ⟨_, rfl, hk, hv, hb1⟩
            · rename_i hij
              rw [if_neg hij]
              obtain ⟨e', a1, a2⟩ := he.2 i k' v' b' hi
              rw [Array.getElem?_toList] at a1
              exact ⟨e', a1, a2⟩⟩ hh
          refine ⟨w', ?_, h2, h3⟩
          have hks : (((ents[j]?).map (·.key)).getD ck) = ck := by
            rw [Array.getElem?_toList] at hge
            rw [hge]; exact hke
          simp only [Instr.mapUpdate, Sem.run_bind, run_underlying hd, Result.andThen_ok, MapKept.run_getObj_map hh, hchk, hfk, hks, MapKept.run_keyThatStays hik, h1]
      · cases h
    · cases h
  · cases h
end Gab
namespace Gab
open Go
/-! ### New maps, iterators; delete, len -/
theorem Rel.newObj {ρ : Loc.Map} {st : St} {w : World} (h : Rel ρ st w) (o : AObj) (obj : Obj) (ho : ObjRel (ρ ++ [⟨w.heap.size, 0, 0⟩]) o ⟨w.heap.size, 0, 0⟩ (w.alloc obj)) :
    Rel (ρ ++ [⟨w.heap.size, 0, 0⟩]) (st.push o) (w.alloc obj) ∧ Step st.n ρ st w (ρ ++ [⟨w.heap.size, 0, 0⟩]) (st.push o) (w.alloc obj) ∧ (ρ ++ [(⟨w.heap.size, 0, 0⟩ : Loc)])[st.n]? = some ⟨w.heap.size, 0, 0⟩ := by
  have hloc : (ρ ++ [(⟨w.heap.size, 0, 0⟩ : Loc)])[st.n]? = some ⟨w.heap.size, 0, 0⟩ := by rw [← h.len]; simp
  have hold : ∀ k, k < w.heap.size → (w.alloc obj).heap[k]? = w.heap[k]? := fun k hk => by
    show (w.heap.push obj)[k]? = _
    rw [Array.getElem?_push, if_neg (by omega)]
  have hof : ∀ b x, (st.push o).get b = some x → (b = st.n ∧ x = o) ∨ (b < st.n ∧ st.get b = some x) := fun b x hb => by
    rw [St.push_get] at hb
    split at hb
    · exact .inl ⟨‹_›, by simpa using hb.symm⟩
    · exact .inr ⟨h.lt hb, hb⟩
  have hloc' : ∀ b x l, b < st.n → st.get b = some x → (ρ ++ [(⟨w.heap.size, 0, 0⟩ : Loc)])[b]? = some l → ρ[b]? = some l ∧ l.blk < w.heap.size := fun b x l hlt hb hl => by
    rw [List.getElem?_append_left (by have := h.len; omega)] at hl
    obtain ⟨l', hl', hr⟩ := h.obj b x hb
    rw [hl] at hl'; simp at hl'; subst hl'
    exact ⟨hl, hr.lt⟩
  refine gi3 h ⟨⟨by simp [St.push_n, h.len], fun b x hb => ?_, fun b b' l l' x x' hne hb hrw hb' hl hl' => ?_⟩, ⟨Ext.append _ _ (by have := h.len; omega), rfl, rfl, rfl, Nat.le_refl _, by show _ ≤ (w.heap.push obj).size; simp, fun k hk _ => hold k hk, fun b x l hb hrw hl hlt => ?_⟩, hloc⟩
  · rcases hof b x hb with ⟨rfl, rfl⟩ | ⟨hlt, hb⟩
    · exact ⟨_, hloc, ho⟩
    · obtain ⟨l, hl, hr⟩ := h.obj b x hb
      exact ⟨l, Sup.append _ _ _ _ hl, (hr.world (hold _ hr.lt)).sup (Sup.append _ _)⟩
  · rcases hof b x hb with ⟨e1, _⟩ | ⟨hlt, hb1⟩ <;> rcases hof b' x' hb' with ⟨e2, _⟩ | ⟨hlt', hb2⟩
    · exact absurd (e1.trans e2.symm) hne
    · subst e1; rw [hloc] at hl; simp at hl; subst hl
      have := (hloc' b' x' l' hlt' hb2 hl').2
      show w.heap.size ≠ l'.blk; omega
    · subst e2; rw [hloc] at hl'; simp at hl'; subst hl'
      have := (hloc' b x l hlt hb1 hl).2
      show l.blk ≠ w.heap.size; omega
    · exact h.sep b b' l l' x x' hne hb1 hrw hb2 (hloc' b x l hlt hb1 hl).1 (hloc' b' x' l' hlt' hb2 hl').1
  · rcases hof b x hb with ⟨rfl, rfl⟩ | ⟨hlt', hb⟩
    · rw [hloc] at hl; simp at hl; subst hl; exact absurd hlt (by show ¬ w.heap.size < w.heap.size; omega)
    · exact ⟨b, x, l, hb, hrw, (hloc' b x l hlt' hb hl).1, rfl⟩
theorem heap_new (w : World) (o : Obj) : (w.alloc o).heap[w.heap.size]? = some o := by
  show (w.heap.push o)[w.heap.size]? = some o
  simp
def evMakeMap (st : St) : Option AV → Option (AV × St)
  | none => some (.map st.n, st.push (.map [] 0))
  | some _ => none
theorem evMakeMap_ok {P : Program} {r : Option AV} {st st' : St} {v : AV} (h : evMakeMap st r = some (v, st')) {ρ : Loc.Map} {w : World} (hr : Rel ρ st w) (t : TypeId) {cr : Option Value} (hc : ROv ρ r cr) :
    ∃ c w' ρ', (Instr.makeMap t cr).run P w = .ok c w' ∧ Rel ρ' st' w' ∧ RV ρ' v c ∧ Step st.n ρ st w ρ' st' w' := by
  cases r with
  | none =>
    simp [evMakeMap] at h; obtain ⟨rfl, rfl⟩ := h
    obtain rfl := hc
    obtain ⟨h1, h2, h3⟩ := hr.newObj (.map [] 0) (.map #[] 0) ⟨#[], heap_new _ _, rfl, fun i k v b hi => by simp at hi⟩
    exact ⟨.map (some w.heap.size), w.alloc (.map #[] 0), _, rfl, h1, ⟨_, h3, rfl⟩, h2⟩
  | some x => cases h
def evLenM (P : Program) (t : TypeId) (m : AV) (st : St) : Option AV := (tinfo P t).bind fun ti => match ti.k with
  | .map _ _ => (entsOf st m).bind fun es => some (.int .i64 es.length)
  | _ => none
theorem entsOf_ok {st : St} {m : AV} {es : MEnts} (hes : entsOf st m = some es) {ρ : Loc.Map} {w : World} {cm : Value} (hr : Rel ρ st w) (hm : RV ρ m cm) : ∃ ents : Array MapEntry, EntsRel ρ es ents.toList ∧ ((cm = .map none ∧ ents = #[]) ∨ ∃ r c, cm = .map (some r) ∧ w.heap[r]? = some (.map ents c)) := by
  unfold entsOf at hes
  split at hes
  · simp at hes; subst hes
    simp only [RV] at hm; subst hm
    exact ⟨#[], ⟨rfl, fun i k v b hi => by simp at hi⟩, .inl ⟨rfl, rfl⟩⟩
  · rename_i b
    simp only [Option.map_eq_some_iff] at hes
    obtain ⟨⟨es', c⟩, hg, rfl⟩ := hes
    obtain ⟨l, hl, rfl⟩ := hm
    obtain ⟨ents, hh, he⟩ := map_obj hr hg hl
    exact ⟨ents, he, .inr ⟨_, _, rfl, hh⟩⟩
  · cases hes
theorem evLenM_ok {P : Program} {t : TypeId} {m v : AV} {st : St} (h : evLenM P t m st = some v) {ρ : Loc.Map} {w : World} {cm : Value} (hr : Rel ρ st w) (hm : RV ρ m cm) (ts : Array TypeId) (ty : TypeId) (hts : ts[0]? = some t) :
    ∃ c, (Builtin.len_ ts ty #[cm]).run P w = .ok c w ∧ RV ρ v c := by
  unfold evLenM at h
  simp only [Option.bind_eq_some_iff] at h
  obtain ⟨ti, hti, h⟩ := h
  obtain ⟨i, d, hi, hd, hkd, _⟩ := tinfo_spec hti
  split at h
  · rename_i kt et hkk
    have hd' := kd_map (hkd.trans hkk); subst hd'
    simp only [Option.bind_eq_some_iff] at h
    obtain ⟨es, hes, h⟩ := h
    simp at h; subst h
    obtain ⟨ents, he, hcm⟩ := entsOf_ok hes hr hm
    have hl := he.1
    rcases hcm with ⟨rfl, rfl⟩ | ⟨r, c, rfl, hh⟩
    · refine ⟨_, by simp only [Builtin.len_, hts, Sem.run_bind, run_underlying hd, Result.andThen_ok, List.getElem?_toArray, List.getElem?_cons_zero]; rfl, ?_⟩
      have : es = [] := List.eq_nil_of_length_eq_zero (by simpa using hl.symm)
      subst this; rfl
    · refine ⟨goInt ents.size, by simp only [Builtin.len_, hts, Sem.run_bind, run_underlying hd, Result.andThen_ok, List.getElem?_toArray, List.getElem?_cons_zero, MapKept.run_getObj_map hh]; rfl, ?_⟩
      show goInt ents.size = .int .i64 (es.length : Int)
      rw [← hl]; rfl
  · cases h
def evDelete (P : Program) (t : TypeId) (m k : AV) (st : St) : Option St := (tinfo P t).bind fun ti => match ti.k with
  | .map kt _ => (tinfo P kt).bind fun ki => if keyK ki.k k then (match m with
      | .map b => (getMap st b).bind fun p => (findA k p.1).bind fun r => match r with
        | some q => some (st.set b (.map (p.1.eraseIdx q.1) p.2))
        | none => some (st.set b (.map p.1 p.2))
      | _ => none) else none
  | _ => none
theorem evDelete_ok {P : Program} {t : TypeId} {m k : AV} {st st' : St} (h : evDelete P t m k st = some st') {ρ : Loc.Map} {w : World} {cm ck : Value} (hr : Rel ρ st w) (hm : RV ρ m cm) (hk : RV ρ k ck) (ts : Array TypeId) (ty : TypeId) (hts : ts[0]? = some t) :
    ∃ w', (Builtin.delete_ ts ty #[cm, ck]).run P w = .ok (.tuple #[]) w' ∧ Rel ρ st' w' ∧ Step st.n ρ st w ρ st' w' := by
  unfold evDelete at h
  simp only [Option.bind_eq_some_iff] at h
  obtain ⟨ti, hti, h⟩ := h
  obtain ⟨i, d, hi, hd, hkd, _⟩ := tinfo_spec hti
  split at h
  · rename_i kt et hkk
    have hd' := kd_map (hkd.trans hkk); subst hd'
    simp only [Option.bind_eq_some_iff] at h
    obtain ⟨ki, hki, h⟩ := h
    obtain ⟨i2, d2, hi2, hd2, hkd2, _⟩ := tinfo_spec hki
    split at h
    · rename_i hkey
      split at h
      · rename_i b
        simp only [Option.bind_eq_some_iff] at h
        obtain ⟨⟨es, c⟩, hg, r, hf, h⟩ := h
        obtain ⟨l, hl, rfl⟩ := hm
        obtain ⟨ents, hh, he⟩ := map_obj hr hg hl
        have hik := key_isKey hkd2 hkey hk
        obtain ⟨r', hr', hcase⟩ := findA_ok hkd2 hkey hk he hf
        have hchk := MapKept.run_checkKey (w := w) hd2 hik ents.isEmpty 9999
        have hfk := MapKept.run_findKey (w := w) hd2 hr'
        rcases hcase with ⟨rfl, rfl⟩ | ⟨j, v', x, rfl, rfl, _⟩
        · simp at h; subst h
          obtain ⟨w', h1, h2, h3⟩ := map_upd (P := P) hr hg hl he (c' := c) hh
          refine ⟨w', ?_, h2, h3⟩
          simp only [Builtin.delete_, hts, Sem.run_bind, run_underlying hd, Result.andThen_ok, List.getElem?_toArray, List.getElem?_cons_zero, List.getElem?_cons_succ, MapKept.run_getObj_map hh, hchk, hfk, h1, Sem.run_pure]
        · simp at h; subst h
          have hlt : j < es.length := by
            obtain ⟨e, _, _, hlt⟩ := find_key hkd2 hkey hk he hf; exact hlt
          have hle := he.1
          obtain ⟨w', h1, h2, h3⟩ := map_upd (P := P) hr hg hl (ents' := ents.eraseIdxIfInBounds j) (es' := es.eraseIdx j) (c' := c) ⟨by
            rw [Array.toList_eraseIdxIfInBounds, List.length_eraseIdx, List.length_eraseIdx, hle], fun i k' v' b' hi => by
            rw [Array.toList_eraseIdxIfInBounds, List.getElem?_eraseIdx]
            rw [List.getElem?_eraseIdx] at hi
            split at hi
            · rename_i hij; rw [if_pos hij]; exact he.2 i k' v' b' hi
            · rename_i hij; rw [if_neg hij]; exact he.2 (i + 1) k' v' b' hi⟩ hh
          refine ⟨w', ?_, h2, h3⟩
          simp only [Builtin.delete_, hts, Sem.run_bind, run_underlying hd, Result.andThen_ok, List.getElem?_toArray, List.getElem?_cons_zero, List.getElem?_cons_succ, MapKept.run_getObj_map hh, hchk, hfk, h1, Sem.run_pure]
      · cases h
    · cases h
  · cases h
end Gab
namespace Gab
open Go
/-! ### Iterators -/
def evRange (P : Program) (t : TypeId) (x : AV) (st : St) : Option (AV × St) := (tinfo P t).bind fun ti => match ti.k, x with
  | .str, .str l => some (.ptr st.n 0, st.push (.siter l 0))
  | .map _ _, .nilmap => some (.ptr st.n 0, st.push (.miter none 0 [] 0))
  | .map _ _, .map b => (getMap st b).bind fun p => some (.ptr st.n 0, st.push (.miter (some b) p.2 [] p.2))
  | _, _ => none
theorem evRange_ok {P : Program} {t : TypeId} {x v : AV} {st st' : St} (h : evRange P t x st = some (v, st')) {ρ : Loc.Map} {w : World} {cx : Value} (hr : Rel ρ st w) (hx : RV ρ x cx) :
    ∃ c w' ρ', (Instr.range t cx).run P w = .ok c w' ∧ Rel ρ' st' w' ∧ RV ρ' v c ∧ Step st.n ρ st w ρ' st' w' := by
  unfold evRange at h
  simp only [Option.bind_eq_some_iff] at h
  obtain ⟨ti, hti, h⟩ := h
  obtain ⟨i, d, hi, hd, hkd, _⟩ := tinfo_spec hti
  split at h
  · rename_i l hk
    have hd' := kd_str (hkd.trans hk); subst hd'
    simp at h; obtain ⟨rfl, rfl⟩ := h
    simp only [RV] at hx; subst hx
    obtain ⟨h1, h2, h3⟩ := hr.newObj (.siter l 0) (.stringIter ⟨l.toArray⟩ 0) ⟨heap_new _ _, rfl⟩
    exact ⟨_, _, _, by simp [Instr.range, run_underlying hd], h1, ⟨_, h3, rfl⟩, h2⟩
  · rename_i kt et hk
    have hd' := kd_map (hkd.trans hk); subst hd'
    simp at h; obtain ⟨rfl, rfl⟩ := h
    simp only [RV] at hx; subst hx
    obtain ⟨h1, h2, h3⟩ := hr.newObj (.miter none 0 [] 0) (.mapIter none 0 #[] 0) ⟨rfl, .inl ⟨rfl, heap_new _ _⟩⟩
    exact ⟨_, _, _, run_range_nilMap w t _ _ hd, h1, ⟨_, h3, rfl⟩, h2⟩
  · rename_i kt et b hk
    have hd' := kd_map (hkd.trans hk); subst hd'
    simp only [Option.bind_eq_some_iff] at h
    obtain ⟨⟨es, c⟩, hg, h⟩ := h
    simp at h; obtain ⟨rfl, rfl⟩ := h
    obtain ⟨l, hl, rfl⟩ := hx
    obtain ⟨ents, hh, he⟩ := map_obj hr hg hl
    obtain ⟨h1, h2, h3⟩ := hr.newObj (.miter (some b) c [] c) (.mapIter (some l.blk) c #[] c) ⟨rfl, .inr ⟨b, l, rfl, Sup.append _ _ _ _ hl, heap_new _ _⟩⟩
    exact ⟨_, _, _, run_range_map w t _ _ l.blk ents c hd hh, h1, ⟨_, h3, rfl⟩, h2⟩
  · cases h
theorem run_setObj_s {P : Program} {w : World} {r : Nat} {s : ByteArray} {p : Nat} (o' : Obj) (hb : w.heap[r]? = some (.stringIter s p)) : (setObj r o').run P w = .ok () { w with heap := w.heap.setIfInBounds r o' } := by
  simp [setObj, Sem.run, hb]
theorem run_getObj_s {P : Program} {w : World} {r : Nat} {s : ByteArray} {p : Nat} (hb : w.heap[r]? = some (.stringIter s p)) : (getObj r).run P w = .ok (.stringIter s p) w := by
  simp [getObj, Sem.run, hb]
theorem run_setObj_i {P : Program} {w : World} {r a l : Nat} {m : Option Nat} {s : Array Nat} (o' : Obj) (hb : w.heap[r]? = some (.mapIter m a s l)) : (setObj r o').run P w = .ok () { w with heap := w.heap.setIfInBounds r o' } := by
  simp [setObj, Sem.run, hb]
theorem run_getObj_i {P : Program} {w : World} {r a l : Nat} {m : Option Nat} {s : Array Nat} (hb : w.heap[r]? = some (.mapIter m a s l)) : (getObj r).run P w = .ok (.mapIter m a s l) w := by
  simp [getObj, Sem.run, hb]
/-- A step of an iterator over a string. -/
def evNextS (x : AV) (st : St) : Option (AV × St) := match x with
  | .ptr b 0 => match st.get b with
    | some (.siter l pos) => if pos < l.length then some (.tup [.bool true, .int .i64 pos, .int .i32 (Utf8.decode ⟨l.toArray⟩ pos).1], st.set b (.siter l (pos + (Utf8.decode ⟨l.toArray⟩ pos).2))) else some (.tup [.bool false], st)
    | _ => none
  | _ => none
theorem evNextS_ok {P : Program} {x v : AV} {st st' : St} (h : evNextS x st = some (v, st')) {ρ : Loc.Map} {w : World} {cx : Value} (hr : Rel ρ st w) (hx : RV ρ x cx) (ty : TypeId) :
    ∃ c w', (Instr.next cx true ty).run P w = .ok c w' ∧ Rel ρ st' w' ∧ RV ρ v c ∧ Step st.n ρ st w ρ st' w' := by
  unfold evNextS at h
  split at h
  · rename_i b
    split at h
    · rename_i l pos hg
      obtain ⟨lc, hl, hh, hb0⟩ := hr.obj b _ hg
      obtain ⟨lc', hl', rfl⟩ := hx
      rw [hl] at hl'; simp at hl'; subst hl'
      rw [hb0]
      split at h
      · rename_i hlt
        simp at h; obtain ⟨rfl, rfl⟩ := h
        have hlt' : pos < (⟨l.toArray⟩ : ByteArray).size := hlt
        obtain ⟨g1, g2⟩ := MapKept.heap_set (o' := .stringIter ⟨l.toArray⟩ (pos + (Utf8.decode ⟨l.toArray⟩ pos).2)) hh
        obtain ⟨h1, h2⟩ := hr.upd (o' := .siter l (pos + (Utf8.decode ⟨l.toArray⟩ pos).2)) hg rfl hl (w' := { w with heap := w.heap.setIfInBounds lc.blk (.stringIter ⟨l.toArray⟩ (pos + (Utf8.decode ⟨l.toArray⟩ pos).2)) }) g2 (by simp) rfl rfl rfl (Nat.le_refl _) ⟨g1, hb0⟩
        refine ⟨.tuple #[.bool true, goInt pos, .int .i32 (Utf8.decode ⟨l.toArray⟩ pos).1], _, ?_, h1, ⟨_, rfl, _, _, rfl, rfl, _, _, rfl, rfl, _, _, rfl, rfl, rfl⟩, h2⟩
        simp only [Instr.next, Sem.run_bind, run_getObj_s hh, Result.andThen_ok, hlt', if_true, run_setObj_s _ hh, Sem.run_pure]
      · rename_i hlt
        simp at h; obtain ⟨rfl, rfl⟩ := h
        have hlt' : ¬ pos < (⟨l.toArray⟩ : ByteArray).size := hlt
        refine ⟨.tuple #[.bool false], w, ?_, hr, ⟨_, rfl, _, _, rfl, rfl, rfl⟩, .refl ..⟩
        simp only [Instr.next, Sem.run_bind, run_getObj_s hh, Result.andThen_ok, hlt', if_false, Sem.run_pure]
    · cases h
  · cases h
/-- The key and the value of a step of an iterator over a map. -/
def evEntry (x : AV) (st : St) : Option AV := match x with
  | .ptr b 0 => match st.get b with
    | some (.miter (some m) _ seen last) => (getMap st m).bind fun p => if p.2 = last then (seen.getLast?).bind fun s => (p.1.find? fun e => e.2.2 == s).bind fun e => some (.tup [e.1, e.2.1]) else none
    | _ => none
  | _ => none
theorem find_ents {ρ : Loc.Map} {s : Nat} : ∀ {es : MEnts} {ents : List MapEntry} {e : AV × AV × Nat}, EntsRel ρ es ents → (es.find? fun e => e.2.2 == s) = some e → ∃ x : MapEntry, (ents.find? fun x => x.born == s) = some x ∧ RV ρ e.1 x.key ∧ RV ρ e.2.1 x.val
  | [], _, e, _, h => by simp at h
  | _ :: _, [], e, he, _ => absurd he.1 (by simp)
  | a :: es, b :: ents, e, he, h => by
    obtain ⟨h1, h2, h3⟩ := he.head
    rw [List.find?_cons] at h ⊢
    rw [h3]
    cases hq : (a.2.2 == s) with
    | true => simp only [hq] at h ⊢; cases h; exact ⟨b, rfl, h1, h2⟩
    | false => simp only [hq] at h ⊢; exact find_ents he.tail h
theorem evEntry_ok {P : Program} {x v : AV} {st : St} (h : evEntry x st = some v) {ρ : Loc.Map} {w : World} {cx : Value} (hr : Rel ρ st w) (hx : RV ρ x cx) : ∃ c, (Instr.entry cx).run P w = .ok c w ∧ RV ρ v c := by
  unfold evEntry at h
  split at h
  · rename_i b
    split at h
    · rename_i m since seen last hg
      simp only [Option.bind_eq_some_iff] at h
      obtain ⟨⟨es, c⟩, hm, h⟩ := h
      split at h
      · rename_i hc
        simp only at hc; subst hc
        simp only [Option.bind_eq_some_iff] at h
        obtain ⟨s, hs, e, he, h⟩ := h
        simp at h; subst h
        obtain ⟨lc, hl, hb0, hit⟩ := hr.obj b _ hg
        obtain ⟨lc', hl', rfl⟩ := hx
        rw [hl] at hl'; simp at hl'; subst hl'
        rw [hb0]
        rcases hit with ⟨e', _⟩ | ⟨m', lm, e', hlm, hh⟩
        · cases e'
        · cases e'
          obtain ⟨ents, hhm, hents⟩ := map_obj hr hm hlm
          obtain ⟨x, hx, hk, hv⟩ := find_ents hents he
          refine ⟨.tuple #[x.key, x.val], ?_, ⟨_, rfl, _, _, rfl, hk, _, _, rfl, hv, rfl⟩⟩
          have hbk : seen.toArray.back? = some s := by rw [List.back?_toArray]; exact hs
          have hfd : ents.find? (fun x => x.born == s) = some x := by rw [← Array.find?_toList]; exact hx
          simp only [Instr.entry, Sem.run_bind, run_getObj_i hh, MapKept.run_getObj_map hhm, Result.andThen_ok, hbk, hfd, bne_self_eq_false, Bool.false_eq_true, if_false, Sem.run_pure]
      · cases h
    · cases h
  · cases h
end Gab
