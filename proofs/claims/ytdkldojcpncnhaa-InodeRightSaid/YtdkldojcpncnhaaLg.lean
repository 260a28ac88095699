/- Arguments of a law that hold slices within: each slice that came in has a block of its own name. -/
import Derived.Test.YtdkldojcpncnhaaLs
set_option linter.unusedVariables false
set_option linter.unusedSimpArgs false
namespace Gab
open Go
abbrev Blks := List (Option (List AV) × Loc)
section
variable {H : Type} {enc : TypeId × Value → H} {P : Program} {α β : Type}

structure ArgR (W : World) (R : Kn → List AV → Prop) (n0 : Nat) (cs : List Value) (E : Blks) (vs : List AV) : Prop where
  rel : ∀ K : Kn, (∀ (i : Nat) (c : List AV) (l : Loc), E[i]? = some (some c, l) → K (n0 + i) = some (.blk c false)) → R K vs
  rv : ∀ ρ : Loc.Map, (∀ (i : Nat) (e : Option (List AV) × Loc), E[i]? = some e → ρ[n0 + i]? = some e.2) → RVs ρ vs cs ∧ ∀ (i : Nat) (c : List AV) (l : Loc), E[i]? = some (some c, l) → ObjRel ρ (.blk c false) l W
theorem ArgR.app {W : World} {R S T : Kn → List AV → Prop} {n0 : Nat} {cs ds : List Value} {E F : Blks} {vs us : List AV} (h : ArgR W R n0 cs E vs) (k : ArgR W S (n0 + E.length) ds F us) (ht : ∀ K, R K vs → S K us → T K (vs ++ us)) : ArgR W T n0 (cs ++ ds) (E ++ F) (vs ++ us) := by
  have hE : ∀ {i : Nat} {e : Option (List AV) × Loc}, E[i]? = some e → (E ++ F)[i]? = some e := fun {i e} hi => by rw [List.getElem?_append_left (List.getElem?_eq_some_iff.1 hi).1]; exact hi
  have hF : ∀ {i : Nat} {e : Option (List AV) × Loc}, F[i]? = some e → (E ++ F)[E.length + i]? = some e := fun {i e} hi => by rw [List.getElem?_append_right (by omega), show E.length + i - E.length = i by omega]; exact hi
  refine ⟨fun K hK => ht K (h.rel K fun i c l hi => hK i c l (hE hi)) (k.rel K fun i c l hi => ?_), fun ρ hρ => ?_⟩
  · rw [Nat.add_assoc]; exact hK _ c l (hF hi)
  · obtain ⟨a1, a2⟩ := h.rv ρ fun i e hi => hρ i e (hE hi)
    obtain ⟨b1, b2⟩ := k.rv ρ fun i e hi => by rw [Nat.add_assoc]; exact hρ _ e (hF hi)
    refine ⟨RVs.append a1 b1, fun i c l hi => ?_⟩
    rcases Nat.lt_or_ge i E.length with hlt | hge
    · rw [List.getElem?_append_left hlt] at hi; exact a2 i c l hi
    · rw [List.getElem?_append_right hge] at hi; exact b2 _ c l hi

def OpG (enc : TypeId × Value → H) (P : Program) (T : TypeId) (t : Ty α) (WF : α → Prop) : Prop :=
  P.cellsOf T = t.sz ∧ ∀ {W : World} {held : Bool} {fuel : Nat} {cs : List Value} {x : DataW H × List MemPlace}, DataW.trod enc P W 0 (fun _ => true) held fuel T cs = some x →
    ∀ n0, ∃ (y : α) (E : Blks) (vs : List AV), ArgR W (fun K vs => t.R K vs y) n0 cs E vs ∧ WF y
theorem OpF.g {T : TypeId} {t : Ty α} {WF : α → Prop} (h : OpF enc P T t WF) : OpG enc P T t WF :=
  ⟨h.1, fun hx n0 => let ⟨y, vs, a, b, c⟩ := h.2 hx; ⟨y, [], vs, ⟨fun K _ => a K, fun ρ _ => ⟨b ρ, fun i c l hi => by simp at hi⟩⟩, c⟩⟩

def OpCg (enc : TypeId × Value → H) (P : Program) (fs : List Field) (off : Nat) (t : Ty α) (WF : α → Prop) : Prop :=
  ∀ {W : World} {held : Bool} {n : Nat} {cs : List Value}, cs.length = off + t.sz → (∀ f ∈ fs, ∃ x, DataW.trod enc P W 0 (fun _ => true) held n f.type ((cs.drop f.offset).take (P.cellsOf f.type)) = some x) →
    ∀ n0, ∃ (y : α) (E : Blks) (vs : List AV), ArgR W (fun K vs => t.R K vs y) n0 (cs.drop off) E vs ∧ WF y
theorem opgc_one {f : Field} {off : Nat} {t : Ty α} {WF : α → Prop} (ho : f.offset = off) (h : OpG enc P f.type t WF) : OpCg enc P [f] off t WF := fun {W held n cs} hl hf n0 => by
  obtain ⟨x, hx⟩ := hf f (by simp)
  rw [ho, h.1, List.take_of_length_le (by rw [List.length_drop]; omega)] at hx
  exact h.2 hx n0
theorem opgc_cons {f : Field} {r : List Field} {off : Nat} {s : Ty α} {t : Ty β} {WF : α → Prop} {WG : β → Prop} (ho : f.offset = off) (h : OpG enc P f.type s WF) (hr : OpCg enc P r (off + s.sz) t WG) : OpCg enc P (f :: r) off (Ty.pair s t) (fun y => WF y.1 ∧ WG y.2) := fun {W held n cs} hl hf n0 => by
  have hl' : cs.length = off + (s.sz + t.sz) := hl
  obtain ⟨x, hx⟩ := hf f (by simp)
  rw [ho, h.1] at hx
  obtain ⟨y, E, vs, a1, a3⟩ := h.2 hx n0
  obtain ⟨z, F, us, b1, b3⟩ := hr (cs := cs) (by omega) (fun g hg => hf g (by simp [hg])) (n0 + E.length)
  have hd : cs.drop off = (cs.drop off).take s.sz ++ cs.drop (off + s.sz) := by rw [← List.drop_drop, List.take_append_drop]
  rw [hd]
  exact ⟨(y, z), E ++ F, vs ++ us, a1.app b1 fun K p q => ⟨vs, us, rfl, p, q⟩, a3, b3⟩
theorem opg_struct {T : TypeId} {fs : Array Field} {t : Ty α} {WF : α → Prop} (ht : P.underlying T = some (.struct fs)) (hc : P.cellsOf T = t.sz) (h : OpCg enc P fs.toList 0 t WF) : OpG enc P T t WF :=
  ⟨hc, fun {W held fuel cs x} hx n0 => by
    obtain ⟨xs, n, _, _, hlen, hxl, hf⟩ := DataW.trod_struct ht hx
    have := h (W := W) (held := held) (n := n) (cs := cs) (by omega) (fun f hfm => by
      obtain ⟨i, hi, rfl⟩ := List.mem_iff_getElem.1 hfm
      have h1 := hf i fs.toList[i] (by rw [← Array.getElem?_toList]; exact List.getElem?_eq_getElem hi)
      have hi' : i < xs.length := by rw [hxl]; simpa using hi
      rw [List.getElem?_eq_getElem hi'] at h1
      exact ⟨_, h1⟩) n0
    simpa using this⟩
def OpAg (enc : TypeId × Value → H) (P : Program) (e : TypeId) (i n : Nat) (t : Ty α) (WF : α → Prop) : Prop :=
  ∀ {W : World} {held : Bool} {m : Nat} {cs : List Value}, cs.length = i * P.cellsOf e + t.sz → (∀ j, i ≤ j → j < i + n → ∃ x, DataW.trod enc P W 0 (fun _ => true) held m e ((cs.drop (j * P.cellsOf e)).take (P.cellsOf e)) = some x) →
    ∀ n0, ∃ (y : α) (E : Blks) (vs : List AV), ArgR W (fun K vs => t.R K vs y) n0 (cs.drop (i * P.cellsOf e)) E vs ∧ WF y
theorem opga_one {e : TypeId} {i : Nat} {t : Ty α} {WF : α → Prop} (h : OpG enc P e t WF) : OpAg enc P e i 1 t WF := fun {W held m cs} hl hf n0 => by
  obtain ⟨x, hx⟩ := hf i (Nat.le_refl _) (by omega)
  rw [List.take_of_length_le (by rw [List.length_drop, h.1]; rw [h.1] at hl; omega)] at hx
  exact h.2 hx n0
theorem opga_cons {e : TypeId} {i n : Nat} {s : Ty α} {t : Ty β} {WF : α → Prop} {WG : β → Prop} (h : OpG enc P e s WF) (hr : OpAg enc P e (i + 1) n t WG) : OpAg enc P e i (n + 1) (Ty.pair s t) (fun y => WF y.1 ∧ WG y.2) := fun {W held m cs} hl hf n0 => by
  have hl' : cs.length = i * P.cellsOf e + (s.sz + t.sz) := hl
  obtain ⟨x, hx⟩ := hf i (Nat.le_refl _) (by omega)
  obtain ⟨y, E, vs, a1, a3⟩ := h.2 hx n0
  have hm : (i + 1) * P.cellsOf e = i * P.cellsOf e + P.cellsOf e := Nat.succ_mul _ _
  obtain ⟨z, F, us, b1, b3⟩ := hr (cs := cs) (by rw [hm, h.1]; rw [h.1] at hl'; omega) (fun j h1 h2 => hf j (by omega) (by omega)) (n0 + E.length)
  have hd : cs.drop (i * P.cellsOf e) = (cs.drop (i * P.cellsOf e)).take (P.cellsOf e) ++ cs.drop ((i + 1) * P.cellsOf e) := by rw [hm, ← List.drop_drop, List.take_append_drop]
  rw [hd]
  exact ⟨(y, z), E ++ F, vs ++ us, a1.app b1 fun K p q => ⟨vs, us, rfl, p, q⟩, a3, b3⟩
theorem opg_arr {T e : TypeId} {n : Nat} {t : Ty α} {WF : α → Prop} (ht : P.underlying T = some (.array n e)) (hc : P.cellsOf T = t.sz) (h : OpAg enc P e 0 n t WF) : OpG enc P T t WF :=
  ⟨hc, fun {W held fuel cs x} hx n0 => by
    obtain ⟨xs, m, _, _, hlen, hxl, hf⟩ := DataW.trod_array ht hx
    have := h (W := W) (held := held) (m := m) (cs := cs) (by omega) (fun j _ hj => by
      have h1 := hf j (by omega)
      rw [List.getElem?_eq_getElem (by omega)] at h1
      exact ⟨_, h1⟩) n0
    simpa using this⟩

theorem opg_slice {T E : TypeId} {t : Ty α} {WF : α → Prop} (ht : P.underlying T = some (.slice E)) (hc : P.cellsOf T = 1) (hpos : 0 < t.sz) (he : OpG enc P E t WF) : OpG enc P T (Ty.slice t) (fun l => (∀ x ∈ l, WF x) ∧ l.length ≤ 9223372036854775807) :=
  ⟨hc, fun {W held fuel cs x} h n0 => by
    have hnil : ∀ {K : Kn} {nl : Bool} {b : Nat}, RSl t K (.sl t.sz b 0 0 0 nl) [] := fun {K nl b} => ⟨t.sz, b, 0, 0, nl, rfl, Nat.le_refl _, fun _ => rfl, fun _ => rfl, fun h => absurd rfl h⟩
    rcases Deep.open_slice ht h with ⟨rfl, _⟩ | ⟨a, len, cap, m, n, D, Pl, rfl, _, hl, hm, hmm, _, hel⟩
    · exact ⟨[], [], [.sl t.sz 0 0 0 0 true], ⟨fun K _ => ⟨_, rfl, hnil⟩, fun ρ _ => ⟨⟨_, _, rfl, ⟨none, 0, rfl, Nat.le_refl _, Nat.le_refl _, fun _ => ⟨rfl, rfl⟩, fun h => by cases h⟩, rfl⟩, fun i c l hi => by simp at hi⟩⟩, by simp, by simp⟩
    · have hmm : m = cap := by simpa using hmm
      subst hmm
      rw [he.1] at hel
      have each : ∀ k, k ≤ len → ∃ (y : List α) (F : Blks) (vs : List AV) (xs : List Value), y.length = k ∧ ArgR W (fun K vs => RL t K vs y) n0 xs F vs ∧ xs.length = k * t.sz ∧ (∀ i, i < k * t.sz → W.cell? (a.add i) = xs[i]?) ∧ ∀ z ∈ y, WF z := by
        intro k
        induction k with
        | zero => exact fun _ => ⟨[], [], [], [], rfl, ⟨fun _ _ => rfl, fun _ _ => ⟨rfl, fun i c l hi => by simp at hi⟩⟩, by simp, fun i hi => by simp at hi, by simp⟩
        | succ k ih =>
          intro hk
          obtain ⟨y, F, vs, xs, h1, h2, h4, h5, h6⟩ := ih (by omega)
          obtain ⟨cs', hcs, htr⟩ := hel k (by omega)
          obtain ⟨z, G, us, g1, g3⟩ := he.2 htr (n0 + F.length)
          obtain ⟨_, hcl, hcell⟩ := World.cells?_some hcs
          refine ⟨y ++ [z], F ++ G, vs ++ us, xs ++ cs', by simp [h1], h2.app g1 fun K p q => p.append (RL.one1 q), by rw [List.length_append, h4, hcl, Nat.add_mul, Nat.one_mul], fun i hi => ?_, fun w hw => ?_⟩
          · rw [Nat.add_mul, Nat.one_mul] at hi
            by_cases hlt : i < k * t.sz
            · rw [List.getElem?_append_left (by omega)]; exact h5 i hlt
            · rw [List.getElem?_append_right (by omega), h4, ← hcell (i - k * t.sz) (by omega)]
              rw [Deep.add_add, show k * t.sz + (i - k * t.sz) = i by omega]
          · rcases List.mem_append.1 hw with hw | hw
            · exact h6 w hw
            · simp at hw; subst hw; exact g3
      obtain ⟨y, F, vs, xs, h1, h2, h4, h5, h6⟩ := each len (Nat.le_refl _)
      subst h1
      have hcellAll : ∀ i, i < m * t.sz → ∃ c, W.cell? (a.add i) = some c := fun i hi => by
        obtain ⟨cs', hcs, _⟩ := hel (i / t.sz) (Nat.div_lt_of_lt_mul (by rw [Nat.mul_comm]; exact hi))
        obtain ⟨_, hcl, hcell⟩ := World.cells?_some hcs
        have hmod := Nat.mod_lt i hpos
        have := hcell (i % t.sz) hmod
        rw [List.getElem?_eq_getElem (by omega)] at this
        rw [Deep.add_add] at this
        have hdm := Nat.div_add_mod i t.sz
        rw [Nat.mul_comm] at hdm
        rw [hdm] at this
        exact ⟨_, this⟩
      have hm' : m ≤ 9223372036854775807 := hm
      by_cases hm0 : m = 0
      · subst hm0
        have hy : y = [] := List.eq_nil_of_length_eq_zero (by omega)
        subst hy
        exact ⟨[], [(none, ⟨0, 0, 0⟩)], [.sl t.sz n0 0 0 0 false], ⟨fun K _ => ⟨_, rfl, hnil⟩, fun ρ hρ => ⟨⟨_, _, rfl, ⟨some a, 0, rfl, Nat.le_refl _, Nat.le_refl _, fun h => (by cases h), fun _ => ⟨a, _, rfl, hρ 0 _ rfl, .inl rfl⟩⟩, rfl⟩, fun i c l hi => by
          cases i with
          | zero => cases hi
          | succ i => simp at hi⟩⟩, by simp, by simp⟩
      · have hpos2 : 0 < m * t.sz := Nat.mul_pos (by omega) hpos
        obtain ⟨hs, c, e, fz, hh, hfit, hcc⟩ := cells_obj hpos2 hcellAll
        have hle := Nat.mul_le_mul_right t.sz hl
        have hF : ∀ {i : Nat} {e : Option (List AV) × Loc}, F[i]? = some e → (F ++ [(some vs, (⟨a.block, a.off, c.size⟩ : Loc))])[i]? = some e := fun {i e} hi => by rw [List.getElem?_append_left (List.getElem?_eq_some_iff.1 hi).1]; exact hi
        have hlast : (F ++ [(some vs, (⟨a.block, a.off, c.size⟩ : Loc))])[F.length]? = some (some vs, ⟨a.block, a.off, c.size⟩) := by simp
        refine ⟨y, F ++ [(some vs, ⟨a.block, a.off, c.size⟩)], [.sl t.sz (n0 + F.length) 0 y.length y.length false], ⟨fun K hK => ⟨_, rfl, ?_⟩, fun ρ hρ => ?_⟩, h6, by omega⟩
        · have hr := h2.rel K fun i c l hi => hK i c l (hF hi)
          refine ⟨t.sz, n0 + F.length, 0, y.length, false, rfl, Nat.le_refl _, fun h => (by cases h), fun _ => rfl, fun _ => ⟨vs, false, hK _ _ _ hlast, by rw [hr.len]; omega, ?_⟩⟩
          rw [List.drop_zero, ← hr.len, List.take_length]; exact hr
        · obtain ⟨b1, b2⟩ := h2.rv ρ fun i e hi => hρ i e (hF hi)
          refine ⟨⟨_, _, rfl, ⟨some a, m, rfl, hl, hl, fun h => (by cases h), fun _ => ⟨a, _, rfl, hρ _ _ hlast, .inr ⟨?_, by simp only; omega⟩⟩⟩, rfl⟩, fun i c' l hi => ?_⟩
          · obtain ⟨bk, of, sp⟩ := a
            simp only at hs
            subst hs; rfl
          · rcases Nat.lt_or_ge i F.length with hlt | hge
            · rw [List.getElem?_append_left hlt] at hi; exact b2 i c' l hi
            · rw [List.getElem?_append_right hge] at hi
              have : i - F.length = 0 := by
                rcases Nat.eq_zero_or_pos (i - F.length) with h0 | h0
                · exact h0
                · rw [List.getElem?_eq_none (by simp; omega)] at hi; cases hi
              rw [this] at hi
              simp only [List.getElem?_cons_zero, Option.some.injEq, Prod.mk.injEq] at hi
              obtain ⟨rfl, rfl⟩ := hi
              refine ⟨c, e, fz, hh, rfl, fun i v hv => ?_, fun h => (by cases h)⟩
              obtain ⟨w, hw, hrv⟩ := RVs.get b1 hv
              have hi := (List.getElem?_eq_some_iff.1 hw).1
              rw [h4] at hi
              refine ⟨w, ?_, hrv⟩
              rw [← hcc i (by omega), h5 i hi, hw]⟩

/-- All arguments together. -/
theorem rel_G {W : World} {E : Blks} (h : ∀ (i : Nat) (c : List AV) (l : Loc), E[i]? = some (some c, l) → ObjRel (E.map (·.2)) (.blk c false) l W) : Rel (E.map (·.2)) (stL (E.map (·.1))) W := by
  refine ⟨by simp [stL], fun b o hb => ?_, fun b b' l l' o o' _ hb hrw => ?_⟩
  · unfold stL at hb
    simp only at hb
    split at hb
    · rename_i cs hc
      cases hb
      rw [List.getElem?_map, Option.map_eq_some_iff] at hc
      obtain ⟨⟨e1, e2⟩, he, hec⟩ := hc
      simp only at hec
      subst hec
      exact ⟨e2, by rw [List.getElem?_map, he]; rfl, h b cs e2 he⟩
    · cases hb
  · rw [stL_ro _ b o hb] at hrw; cases hrw
theorem stL_at {E : Blks} {i : Nat} {c : List AV} {l : Loc} (h : E[i]? = some (some c, l)) : (stL (E.map (·.1))).get i = some (.blk c false) := by
  unfold stL
  simp only [List.getElem?_map, h, Option.map_some]
theorem loc_at {E : Blks} {i : Nat} {e : Option (List AV) × Loc} (h : E[i]? = some e) : (E.map (·.2))[i]? = some e.2 := by rw [List.getElem?_map, h]; rfl
theorem argR_nil {W : World} : ArgR W (fun _ vs => vs = []) 0 [] [] [] := ⟨fun _ _ => rfl, fun _ _ => ⟨rfl, fun i c l hi => by simp at hi⟩⟩
/-- What one argument tells, among all. -/
theorem ArgR.in_ {W : World} {R : Kn → List AV → Prop} {cs : List Value} {E A F : Blks} {vs : List AV} (h : ArgR W R A.length cs E vs) : R (stL ((A ++ E ++ F).map (·.1))).get vs ∧ RVs ((A ++ E ++ F).map (·.2)) vs cs ∧ ∀ (i : Nat) (c : List AV) (l : Loc), E[i]? = some (some c, l) → ObjRel ((A ++ E ++ F).map (·.2)) (.blk c false) l W := by
  have hE : ∀ {i : Nat} {e : Option (List AV) × Loc}, E[i]? = some e → (A ++ E ++ F)[A.length + i]? = some e := fun {i e} hi => by
    have hlt := (List.getElem?_eq_some_iff.1 hi).1
    rw [List.getElem?_append_left (by rw [List.length_append]; omega), List.getElem?_append_right (by omega), show A.length + i - A.length = i by omega]; exact hi
  exact ⟨h.rel _ fun i c l hi => stL_at (hE hi), h.rv _ fun i e hi => loc_at (hE hi)⟩
theorem objs_app {W : World} {ρ : Loc.Map} {E F : Blks} (h : ∀ (i : Nat) (c : List AV) (l : Loc), E[i]? = some (some c, l) → ObjRel ρ (.blk c false) l W) (k : ∀ (i : Nat) (c : List AV) (l : Loc), F[i]? = some (some c, l) → ObjRel ρ (.blk c false) l W) : ∀ (i : Nat) (c : List AV) (l : Loc), (E ++ F)[i]? = some (some c, l) → ObjRel ρ (.blk c false) l W := fun i c l hi => by
  rcases Nat.lt_or_ge i E.length with hlt | hge
  · rw [List.getElem?_append_left hlt] at hi; exact h i c l hi
  · rw [List.getElem?_append_right hge] at hi; exact k _ c l hi
theorem objs_nil {W : World} {ρ : Loc.Map} : ∀ (i : Nat) (c : List AV) (l : Loc), ([] : Blks)[i]? = some (some c, l) → ObjRel ρ (.blk c false) l W := fun i c l hi => by simp at hi
end
end Gab
namespace Gab
open Go
theorem rvs_one {ρ : Loc.Map} {a : AV} {c : Value} (h : RVs ρ [a] [c]) : RV ρ a c := by
  obtain ⟨c', r, e, h1, _⟩ := h
  cases e; exact h1
end Gab
