/- Arguments of a law as the printed contracts want them: slices, structs. -/
import Derived.Test.YtcdldgoehoopmaaDoorLw
import Derived.Deep.Slices
import Derived.OpenShut
import Derived.WideShapes
set_option linter.unusedVariables false
set_option linter.unusedSimpArgs false
namespace Gab
open Go
section
variable {H : Type} {enc : TypeId × Value → H} {P : Program} {α β : Type}

/-- What a type's reading tells of its cells. -/
def OpF (enc : TypeId × Value → H) (P : Program) (T : TypeId) (t : Ty α) (WF : α → Prop) : Prop :=
  P.cellsOf T = t.sz ∧ ∀ {W : World} {base : Nat} {spare : Nat → Bool} {held : Bool} {fuel : Nat} {cs : List Value} {x : DataW H × List MemPlace}, DataW.trod enc P W base spare held fuel T cs = some x →
    ∃ (y : α) (vs : List AV), (∀ B, t.R B vs y) ∧ (∀ ρ, RVs ρ vs cs) ∧ WF y
theorem opf_int {T : TypeId} {k : IntKind} (ht : P.underlying T = some (.int k)) (hc : P.cellsOf T = 1) : OpF enc P T (Ty.int k) (fun n => (Lit.int k n).wf = true) :=
  ⟨hc, fun h => by
    obtain ⟨n, rfl, _, hw⟩ := DataW.trod_int ht h
    exact ⟨n, [.int k n], fun _ => rfl, fun ρ => ⟨_, _, rfl, rfl, rfl⟩, hw⟩⟩
theorem opf_bool {T : TypeId} (ht : P.underlying T = some .bool) (hc : P.cellsOf T = 1) : OpF enc P T Ty.bool (fun _ => True) :=
  ⟨hc, fun h => by
    obtain ⟨n, rfl, _⟩ := DataW.trod_bool ht h
    exact ⟨n, [.bool n], fun _ => rfl, fun ρ => ⟨_, _, rfl, rfl, rfl⟩, trivial⟩⟩
theorem opf_str {T : TypeId} (ht : P.underlying T = some .string) (hc : P.cellsOf T = 1) : OpF enc P T Ty.str (fun l => l.length ≤ 9223372036854775807) :=
  ⟨hc, fun h => by
    obtain ⟨s, rfl, _, hs⟩ := DataW.trod_string ht h
    refine ⟨s.data.toList, [.str s.data.toList], fun _ => rfl, fun ρ => ⟨_, _, rfl, ?_, rfl⟩, ?_⟩
    · show Value.string s = .string ⟨s.data.toList.toArray⟩
      simp
    · show s.data.toList.length ≤ _
      rw [Array.length_toList]; exact hs⟩

/-- The fields of a struct, from an offset on. -/
def OpC (enc : TypeId × Value → H) (P : Program) (fs : List Field) (off : Nat) (t : Ty α) (WF : α → Prop) : Prop :=
  ∀ {W : World} {base : Nat} {spare : Nat → Bool} {held : Bool} {n : Nat} {cs : List Value}, cs.length = off + t.sz → (∀ f ∈ fs, ∃ x, DataW.trod enc P W base spare held n f.type ((cs.drop f.offset).take (P.cellsOf f.type)) = some x) →
    ∃ (y : α) (vs : List AV), (∀ B, t.R B vs y) ∧ (∀ ρ, RVs ρ vs (cs.drop off)) ∧ WF y
theorem opc_one {f : Field} {off : Nat} {t : Ty α} {WF : α → Prop} (ho : f.offset = off) (h : OpF enc P f.type t WF) : OpC enc P [f] off t WF := fun {W base spare held n cs} hl hf => by
  obtain ⟨x, hx⟩ := hf f (by simp)
  rw [ho, h.1, List.take_of_length_le (by rw [List.length_drop]; omega)] at hx
  exact h.2 hx
theorem opc_cons {f : Field} {r : List Field} {off : Nat} {s : Ty α} {t : Ty β} {WF : α → Prop} {WG : β → Prop} (ho : f.offset = off) (h : OpF enc P f.type s WF) (hr : OpC enc P r (off + s.sz) t WG) : OpC enc P (f :: r) off (Ty.pair s t) (fun y => WF y.1 ∧ WG y.2) := fun {W base spare held n cs} hl hf => by
  have hl' : cs.length = off + (s.sz + t.sz) := hl
  obtain ⟨x, hx⟩ := hf f (by simp)
  rw [ho, h.1] at hx
  obtain ⟨y, vs, a1, a2, a3⟩ := h.2 hx
  obtain ⟨z, us, b1, b2, b3⟩ := hr (cs := cs) (by omega) fun g hg => hf g (by simp [hg])
  refine ⟨(y, z), vs ++ us, fun B => ⟨vs, us, rfl, a1 B, b1 B⟩, fun ρ => ?_, a3, b3⟩
  have hd : cs.drop off = (cs.drop off).take s.sz ++ cs.drop (off + s.sz) := by rw [← List.drop_drop, List.take_append_drop]
  rw [hd]
  exact RVs.append (a2 ρ) (b2 ρ)
theorem opf_struct {T : TypeId} {fs : Array Field} {t : Ty α} {WF : α → Prop} (ht : P.underlying T = some (.struct fs)) (hc : P.cellsOf T = t.sz) (h : OpC enc P fs.toList 0 t WF) : OpF enc P T t WF :=
  ⟨hc, fun {W base spare held fuel cs x} hx => by
    obtain ⟨xs, n, _, _, hlen, hxl, hf⟩ := DataW.trod_struct ht hx
    have := h (W := W) (base := base) (spare := spare) (held := held) (n := n) (cs := cs) (by omega) fun f hfm => by
      obtain ⟨i, hi, rfl⟩ := List.mem_iff_getElem.1 hfm
      have h1 := hf i fs.toList[i] (by rw [← Array.getElem?_toList]; exact List.getElem?_eq_getElem hi)
      have hi' : i < xs.length := by rw [hxl]; simpa using hi
      rw [List.getElem?_eq_getElem hi'] at h1
      exact ⟨_, h1⟩
    simpa using this⟩

/-- Elements of an array from the i-th on. -/
def OpA (enc : TypeId × Value → H) (P : Program) (e : TypeId) (i n : Nat) (t : Ty α) (WF : α → Prop) : Prop :=
  ∀ {W : World} {base : Nat} {spare : Nat → Bool} {held : Bool} {m : Nat} {cs : List Value}, cs.length = i * P.cellsOf e + t.sz → (∀ j, i ≤ j → j < i + n → ∃ x, DataW.trod enc P W base spare held m e ((cs.drop (j * P.cellsOf e)).take (P.cellsOf e)) = some x) →
    ∃ (y : α) (vs : List AV), (∀ B, t.R B vs y) ∧ (∀ ρ, RVs ρ vs (cs.drop (i * P.cellsOf e))) ∧ WF y
theorem opa_one {e : TypeId} {i : Nat} {t : Ty α} {WF : α → Prop} (h : OpF enc P e t WF) : OpA enc P e i 1 t WF := fun {W base spare held m cs} hl hf => by
  obtain ⟨x, hx⟩ := hf i (Nat.le_refl _) (by omega)
  rw [List.take_of_length_le (by rw [List.length_drop, h.1]; rw [h.1] at hl; omega)] at hx
  exact h.2 hx
theorem opa_cons {e : TypeId} {i n : Nat} {s : Ty α} {t : Ty β} {WF : α → Prop} {WG : β → Prop} (h : OpF enc P e s WF) (hr : OpA enc P e (i + 1) n t WG) : OpA enc P e i (n + 1) (Ty.pair s t) (fun y => WF y.1 ∧ WG y.2) := fun {W base spare held m cs} hl hf => by
  have hl' : cs.length = i * P.cellsOf e + (s.sz + t.sz) := hl
  obtain ⟨x, hx⟩ := hf i (Nat.le_refl _) (by omega)
  obtain ⟨y, vs, a1, a2, a3⟩ := h.2 hx
  have hm : (i + 1) * P.cellsOf e = i * P.cellsOf e + P.cellsOf e := Nat.succ_mul _ _
  obtain ⟨z, us, b1, b2, b3⟩ := hr (cs := cs) (by rw [hm, h.1]; rw [h.1] at hl'; omega) fun j h1 h2 => hf j (by omega) (by omega)
  refine ⟨(y, z), vs ++ us, fun B => ⟨vs, us, rfl, a1 B, b1 B⟩, fun ρ => ?_, a3, b3⟩
  have hd : cs.drop (i * P.cellsOf e) = (cs.drop (i * P.cellsOf e)).take (P.cellsOf e) ++ cs.drop ((i + 1) * P.cellsOf e) := by rw [hm, ← List.drop_drop, List.take_append_drop]
  rw [hd]
  exact RVs.append (a2 ρ) (b2 ρ)
theorem opf_arr {T e : TypeId} {n : Nat} {t : Ty α} {WF : α → Prop} (ht : P.underlying T = some (.array n e)) (hc : P.cellsOf T = t.sz) (h : OpA enc P e 0 n t WF) : OpF enc P T t WF :=
  ⟨hc, fun {W base spare held fuel cs x} hx => by
    obtain ⟨xs, m, _, _, hlen, hxl, hf⟩ := DataW.trod_array ht hx
    have := h (W := W) (base := base) (spare := spare) (held := held) (m := m) (cs := cs) (by omega) fun j _ hj => by
      have h1 := hf j (by omega)
      rw [List.getElem?_eq_getElem (by omega)] at h1
      exact ⟨_, h1⟩
    simpa using this⟩

/-- A slice that came in. -/
structure SArg (W : World) (t : Ty α) (WF : α → Prop) (v : Value) (y : List α) (nl : Bool) (loc : Loc) (cells : List AV) : Prop where
  rl : ∀ B, RL t B cells y
  nil : nl = true → y = []
  rv : ∀ (ρ : Loc.Map) (b : Nat), ρ[b]? = some loc → RV ρ (.sl t.sz b 0 y.length y.length nl) v
  obj : y ≠ [] → ∀ ρ, ObjRel ρ (.blk cells false) loc W
  wf : ∀ x ∈ y, WF x
  len : y.length ≤ 9223372036854775807
theorem cells_obj {W : World} {a : Addr} : ∀ {n : Nat}, 0 < n → (∀ i, i < n → ∃ c, W.cell? (a.add i) = some c) → a.spot = none ∧ ∃ c e fz, W.heap[a.block]? = some (.cells c e fz) ∧ a.off + n ≤ c.size ∧ ∀ i, i < n → W.cell? (a.add i) = c[a.off + i]? := by
  intro n hn hc
  obtain ⟨c0, h0⟩ := hc 0 hn
  have hadd : ∀ i, (a.add i).block = a.block ∧ (a.add i).off = a.off + i := fun i => by
    unfold Addr.add
    split
    · rename_i e; subst e; exact ⟨rfl, rfl⟩
    · exact ⟨rfl, rfl⟩
  have key : ∀ i c, W.cell? (a.add i) = some c → ∃ cc e fz, W.heap[a.block]? = some (.cells cc e fz) ∧ (a.add i).spot = none ∧ cc[a.off + i]? = some c := fun i c h => by
    unfold World.cell? at h
    rw [(hadd i).1] at h
    split at h
    · rename_i cc e fz hh
      rw [(hadd i).2] at h
      split at h
      · cases h
      · rename_i hs
        exact ⟨cc, e, fz, hh, by simpa using hs, h⟩
    · cases h
  obtain ⟨cc, e, fz, hh, hs, hc0⟩ := key 0 c0 h0
  refine ⟨by simpa [Addr.add] using hs, cc, e, fz, hh, ?_, fun i hi => ?_⟩
  · obtain ⟨c1, h1⟩ := hc (n - 1) (by omega)
    obtain ⟨cc', e', fz', hh', _, hc1⟩ := key (n - 1) c1 h1
    rw [hh] at hh'; cases hh'
    have := (Array.getElem?_eq_some_iff.1 hc1).1
    omega
  · obtain ⟨c1, h1⟩ := hc i hi
    obtain ⟨cc', e', fz', hh', _, hc1⟩ := key i c1 h1
    rw [hh] at hh'; cases hh'
    rw [h1, hc1]
theorem sarg_of {T E : TypeId} {t : Ty α} {WF : α → Prop} (ht : P.underlying T = some (.slice E)) (hpos : 0 < t.sz) (he : OpF enc P E t WF) {W : World} {held : Bool} {fuel : Nat} {cs : List Value} {x : DataW H × List MemPlace} (h : DataW.trod enc P W 0 (fun _ => true) held fuel T cs = some x) :
    ∃ v y nl loc cells, cs = [v] ∧ SArg W t WF v y nl loc cells := by
  rcases Deep.open_slice ht h with ⟨rfl, _⟩ | ⟨a, len, cap, m, n, D, Pl, rfl, _, hl, hm, hmm, _, hel⟩
  · exact ⟨_, [], true, ⟨0, 0, 0⟩, [], rfl, fun _ => rfl, fun _ => rfl, fun ρ b hb => ⟨none, 0, rfl, Nat.le_refl _, Nat.le_refl _, fun _ => ⟨rfl, rfl⟩, fun h => by cases h⟩, fun h => absurd rfl h, by simp, by simp⟩
  · have hmm : m = cap := by simpa using hmm
    subst hmm
    rw [he.1] at hel
    have each : ∀ k, k ≤ len → ∃ (y : List α) (vs : List AV) (xs : List Value), y.length = k ∧ (∀ B, RL t B vs y) ∧ (∀ ρ, RVs ρ vs xs) ∧ xs.length = k * t.sz ∧ (∀ i, i < k * t.sz → W.cell? (a.add i) = xs[i]?) ∧ ∀ z ∈ y, WF z := by
      intro k
      induction k with
      | zero => exact fun _ => ⟨[], [], [], rfl, fun _ => rfl, fun _ => rfl, by simp, fun i hi => by simp at hi, by simp⟩
      | succ k ih =>
        intro hk
        obtain ⟨y, vs, xs, h1, h2, h3, h4, h5, h6⟩ := ih (by omega)
        obtain ⟨cs', hcs, htr⟩ := hel k (by omega)
        obtain ⟨z, us, g1, g2, g3⟩ := he.2 htr
        obtain ⟨_, hcl, hcell⟩ := World.cells?_some hcs
        refine ⟨y ++ [z], vs ++ us, xs ++ cs', by simp [h1], fun B => (h2 B).append (RL.one1 (g1 B)), fun ρ => RVs.append (h3 ρ) (g2 ρ), by rw [List.length_append, h4, hcl, Nat.add_mul, Nat.one_mul], fun i hi => ?_, fun w hw => ?_⟩
        · rw [Nat.add_mul, Nat.one_mul] at hi
          by_cases hlt : i < k * t.sz
          · rw [List.getElem?_append_left (by omega)]; exact h5 i hlt
          · rw [List.getElem?_append_right (by omega), h4, ← hcell (i - k * t.sz) (by omega)]
            rw [Deep.add_add, show k * t.sz + (i - k * t.sz) = i by omega]
        · rcases List.mem_append.1 hw with hw | hw
          · exact h6 w hw
          · simp at hw; subst hw; exact g3
    obtain ⟨y, vs, xs, h1, h2, h3, h4, h5, h6⟩ := each len (Nat.le_refl _)
    subst h1
    have hcellAll : ∀ i, i < m * t.sz → ∃ c, W.cell? (a.add i) = some c := fun i hi => by
      obtain ⟨cs', hcs, _⟩ := hel (i / t.sz) (Nat.div_lt_of_lt_mul (by rw [Nat.mul_comm]; exact hi))
      obtain ⟨_, hcl, hcell⟩ := World.cells?_some hcs
      have hmod := Nat.mod_lt i hpos
      have := hcell (i % t.sz) hmod
      rw [List.getElem?_eq_getElem (by omega)] at this
      rw [Deep.add_add] at this
      have hdm := Nat.div_add_mod i t.sz
      rw [Nat.mul_comm] at hdm
      rw [hdm] at this
      exact ⟨_, this⟩
    by_cases hm0 : m = 0
    · subst hm0
      have hy : y = [] := List.eq_nil_of_length_eq_zero (by omega)
      subst hy
      exact ⟨_, [], false, ⟨0, 0, 0⟩, [], rfl, fun _ => rfl, fun h => (by cases h), fun ρ b hb => ⟨some a, 0, rfl, Nat.le_refl _, Nat.le_refl _, fun h => (by cases h), fun _ => ⟨a, _, rfl, hb, .inl rfl⟩⟩, fun h => absurd rfl h, by simp, by simp⟩
    · have hpos2 : 0 < m * t.sz := Nat.mul_pos (by omega) hpos
      obtain ⟨hs, c, e, fz, hh, hfit, hcc⟩ := cells_obj hpos2 hcellAll
      have hle := Nat.mul_le_mul_right t.sz hl
      refine ⟨_, y, false, ⟨a.block, a.off, c.size⟩, vs, rfl, h2, fun h => (by cases h), fun ρ b hb => ⟨some a, m, rfl, hl, hl, fun h => (by cases h), fun _ => ⟨a, _, rfl, hb, .inr ⟨?_, by simp only; omega⟩⟩⟩, fun _ ρ => ⟨c, e, fz, hh, rfl, fun i v hv => ?_, fun h => (by cases h)⟩, h6, by have : m ≤ 9223372036854775807 := hm; omega⟩
      · obtain ⟨bk, of, sp⟩ := a
        simp only at hs
        subst hs; rfl
      · obtain ⟨w, hw, hrv⟩ := RVs.get (h3 ρ) hv
        have hi := (List.getElem?_eq_some_iff.1 hw).1
        rw [h4] at hi
        refine ⟨w, ?_, hrv⟩
        rw [← hcc i (by omega), h5 i hi, hw]

/-- The memory of what came in: blocks that are read alone. -/
def stL (L : List (Option (List AV))) : St := ⟨L.length, fun b => match L[b]? with
  | some (some cs) => some (.blk cs false)
  | _ => none⟩
theorem stL_ro (L : List (Option (List AV))) : ∀ b o, (stL L).get b = some o → o.rw = false := fun b o h => by
  unfold stL at h
  simp only at h
  split at h
  · cases h; rfl
  · cases h
theorem rel_L {W : World} (hg : Laid W) (E : List (Option (List AV) × Loc)) (h : ∀ e ∈ E, ∀ cs, e.1 = some cs → ∀ ρ, ObjRel ρ (.blk cs false) e.2 W) : Rel (E.map (·.2)) (stL (E.map (·.1))) W := by
  refine ⟨⟨by simp [stL], fun b o hb => ?_, fun b b' l l' o o' _ hb hrw => ?_⟩, ⟨hg, fun b o l hb hrw => (by rw [stL_ro _ b o hb] at hrw; cases hrw)⟩⟩
  · unfold stL at hb
    simp only at hb
    split at hb
    · rename_i cs hc
      cases hb
      rw [List.getElem?_map, Option.map_eq_some_iff] at hc
      obtain ⟨e, he, hec⟩ := hc
      exact ⟨e.2, by rw [List.getElem?_map, he]; rfl, h e (List.mem_of_getElem? he) cs hec _⟩
    · cases hb
  · rw [stL_ro _ b o hb] at hrw; cases hrw
def knL (L : List (Option (List AV))) : Kn := ⟨(stL L).get, fun _ => []⟩
theorem hp_L (L : List (Option (List AV))) : Hp (knL L) [] (stL L) := ⟨⟨fun b o h => h, fun _ _ h => (by cases h)⟩, fun _ _ h => (by cases h), List.Pairwise.nil⟩
/-- The block of a slice that came in. -/
def blkOf (y : List α) (cells : List AV) : Option (List AV) := match y with
  | [] => none
  | _ :: _ => some cells
theorem sarg_rsl {W : World} {t : Ty α} {WF : α → Prop} {v : Value} {y : List α} {nl : Bool} {loc : Loc} {cells : List AV} (h : SArg W t WF v y nl loc cells) {L : List (Option (List AV))} {b : Nat} (hb : L[b]? = some (blkOf y cells)) : RSl t (knL L) (.sl t.sz b 0 y.length y.length nl) y := by
  refine ⟨t.sz, b, 0, y.length, nl, rfl, Nat.le_refl _, h.nil, fun _ => rfl, fun hne => ?_⟩
  have hbk : blkOf y cells = some cells := by
    cases y with
    | nil => exact absurd rfl hne
    | cons a r => rfl
  rw [hbk] at hb
  refine ⟨cells, false, by show (stL L).get b = _; unfold stL; simp only [hb], by rw [(h.rl kn0).len]; omega, ?_⟩
  rw [List.drop_zero, ← (h.rl kn0).len, List.take_length]
  exact h.rl _
theorem sarg_obj {W : World} {t : Ty α} {WF : α → Prop} {v : Value} {y : List α} {nl : Bool} {loc : Loc} {cells : List AV} (h : SArg W t WF v y nl loc cells) : ∀ cs, blkOf y cells = some cs → ∀ ρ, ObjRel ρ (.blk cs false) loc W := fun cs hc => by
  cases y with
  | nil => cases hc
  | cons a r => cases hc; exact h.obj (by simp)
end

theorem okAggS {P : Program} {w : World} {r : Reach} {base : Nat} {t : TypeId} {v : Value} {fs : Array Field} (ht : P.underlying t = some (.struct fs)) (h : Value.okWide P w r base t v) : ∃ cs, v = .agg cs := by
  obtain ⟨cs, h, _⟩ := WideShapes.okWide_struct ht h
  exact ⟨cs, h⟩
theorem okAggA {P : Program} {w : World} {r : Reach} {base : Nat} {t e : TypeId} {n : Nat} {v : Value} (ht : P.underlying t = some (.array n e)) (h : Value.okWide P w r base t v) : ∃ cs, v = .agg cs := by
  simp only [Value.okWide, ht] at h
  obtain ⟨cs, h1, _⟩ := h
  exact ⟨cs, h1⟩
end Gab
