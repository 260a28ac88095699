/- Calls, bodies of functions, and what may be forgotten. -/
import Derived.Test.YtcdldgoehoopmaaDoorRun
set_option linter.unusedSimpArgs false
set_option linter.unusedVariables false
namespace Gab
open Go

/-! ### Renaming and forgetting -/
mutual
/-- `Sub m n new old`: the new value says no more than the old one; a new name b, of n, stands for the old name m b. -/
def Sub (m : Nat → Nat) (n : Nat) : AV → AV → Prop
  | .any, _ => True
  | .ptr b off, v => b < n ∧ v = .ptr (m b) off
  | .map b, v => b < n ∧ v = .map (m b)
  | .sl sz b off len mc nl, v => ∃ mc', mc ≤ mc' ∧ ((nl = true ∧ ∃ sz' b' off', v = .sl sz' b' off' len mc' true) ∨ (b < n ∧ v = .sl sz (m b) off len mc' nl))
  | .fn f a c, v => ∃ a' c', v = .fn f a' c' ∧ Subs m n a a' ∧ Subs m n c c'
  | .agg l, v => ∃ l', v = .agg l' ∧ Subs m n l l'
  | .tup l, v => ∃ l', v = .tup l' ∧ Subs m n l l'
  | .iface t x, v => ∃ y, v = .iface t y ∧ Sub m n x y
  | .bool b, v => v = .bool b
  | .int k i, v => v = .int k i
  | .str s, v => v = .str s
  | .nilptr, v => v = .nilptr
  | .nilfn, v => v = .nilfn
  | .nilmap, v => v = .nilmap
  | .nilif, v => v = .nilif
  | .raw x, v => v = .raw x
def Subs (m : Nat → Nat) (n : Nat) : List AV → List AV → Prop
  | [], l => l = []
  | a :: r, l => ∃ b s, l = b :: s ∧ Sub m n a b ∧ Subs m n r s
end

section
variable {m : Nat → Nat} {n : Nat} {ρ ρ2 : Loc.Map}
mutual
theorem Sub.rv (h : ∀ (b : Nat) (l : Loc), b < n → ρ[m b]? = some l → ρ2[b]? = some l) : ∀ (a v : AV) (c : Value), Sub m n a v → RV ρ v c → RV ρ2 a c
  | .any, _, _, _, _ => trivial
  | .ptr b off, _, c, hs, hv => by
    obtain ⟨hb, rfl⟩ := hs
    obtain ⟨l, hl, e⟩ := hv
    exact ⟨l, h b l hb hl, e⟩
  | .map b, _, c, hs, hv => by
    obtain ⟨hb, rfl⟩ := hs
    obtain ⟨l, hl, e⟩ := hv
    exact ⟨l, h b l hb hl, e⟩
  | .sl sz b off len mc nl, _, c, hs, hv => by
    obtain ⟨mc', hmc, hs⟩ := hs
    rcases hs with ⟨rfl, sz', b', off', rfl⟩ | ⟨hb, rfl⟩
    · obtain ⟨a, cap, e, h1, h2, h3, _⟩ := hv
      exact ⟨a, cap, e, h1, by omega, h3, by simp⟩
    · obtain ⟨a, cap, e, h1, h2, h3, h4⟩ := hv
      refine ⟨a, cap, e, h1, by omega, h3, fun hn => ?_⟩
      obtain ⟨ad, l, ea, hl, h5⟩ := h4 hn
      exact ⟨ad, l, ea, h b l hb hl, h5⟩
  | .fn f a cp, _, c, hs, hv => by
    obtain ⟨a', c', rfl, h1, h2⟩ := hs
    obtain ⟨cf, cc, e, g1, g2⟩ := hv
    exact ⟨cf, cc, e, Subs.rv h a a' cf h1 g1, Subs.rv h cp c' cc h2 g2⟩
  | .agg l, _, c, hs, hv => by
    obtain ⟨l', rfl, h1⟩ := hs
    obtain ⟨cs, e, g1⟩ := hv
    exact ⟨cs, e, Subs.rv h l l' cs h1 g1⟩
  | .tup l, _, c, hs, hv => by
    obtain ⟨l', rfl, h1⟩ := hs
    obtain ⟨cs, e, g1⟩ := hv
    exact ⟨cs, e, Subs.rv h l l' cs h1 g1⟩
  | .iface t x, _, c, hs, hv => by
    obtain ⟨y, rfl, h1⟩ := hs
    obtain ⟨z, e, g1⟩ := hv
    exact ⟨z, e, Sub.rv h x y z h1 g1⟩
  | .bool b, _, c, hs, hv => by obtain rfl := hs; exact hv
  | .int k i, _, c, hs, hv => by obtain rfl := hs; exact hv
  | .str s, _, c, hs, hv => by obtain rfl := hs; exact hv
  | .nilptr, _, c, hs, hv => by obtain rfl := hs; exact hv
  | .nilfn, _, c, hs, hv => by obtain rfl := hs; exact hv
  | .nilmap, _, c, hs, hv => by obtain rfl := hs; exact hv
  | .nilif, _, c, hs, hv => by obtain rfl := hs; exact hv
  | .raw x, _, c, hs, hv => by obtain rfl := hs; exact hv
theorem Subs.rv (h : ∀ (b : Nat) (l : Loc), b < n → ρ[m b]? = some l → ρ2[b]? = some l) : ∀ (a v : List AV) (c : List Value), Subs m n a v → RVs ρ v c → RVs ρ2 a c
  | [], _, c, hs, hv => by obtain rfl := hs; exact hv
  | a :: r, _, c, hs, hv => by
    obtain ⟨b, s, rfl, h1, h2⟩ := hs
    obtain ⟨x, y, e, g1, g2⟩ := hv
    exact ⟨x, y, e, Sub.rv h a b x h1 g1, Subs.rv h r s y h2 g2⟩
end

mutual
/-- What stands for something names nothing new. -/
theorem RV.low : ∀ (v : AV) (c : Value), RV ρ v c → Sub id ρ.length v v
  | .any, _, _ => trivial
  | .ptr b off, c, hv => by
    obtain ⟨l, hl, e⟩ := hv
    exact ⟨(List.getElem?_eq_some_iff.1 hl).1, rfl⟩
  | .map b, c, hv => by
    obtain ⟨l, hl, e⟩ := hv
    exact ⟨(List.getElem?_eq_some_iff.1 hl).1, rfl⟩
  | .sl sz b off len mc nl, c, hv => by
    obtain ⟨a, cap, e, h1, h2, h3, h4⟩ := hv
    refine ⟨mc, Nat.le_refl _, ?_⟩
    cases nl with
    | true => exact .inl ⟨rfl, sz, b, off, rfl⟩
    | false =>
      obtain ⟨ad, l, _, hl, _⟩ := h4 rfl
      exact .inr ⟨(List.getElem?_eq_some_iff.1 hl).1, rfl⟩
  | .fn f a cp, c, hv => by
    obtain ⟨cf, cc, e, g1, g2⟩ := hv
    exact ⟨a, cp, rfl, RVs.low a cf g1, RVs.low cp cc g2⟩
  | .agg l, c, hv => by
    obtain ⟨cs, e, g1⟩ := hv
    exact ⟨l, rfl, RVs.low l cs g1⟩
  | .tup l, c, hv => by
    obtain ⟨cs, e, g1⟩ := hv
    exact ⟨l, rfl, RVs.low l cs g1⟩
  | .iface t x, c, hv => by
    obtain ⟨z, e, g1⟩ := hv
    exact ⟨x, rfl, RV.low x z g1⟩
  | .bool b, c, hv | .int k i, c, hv | .str s, c, hv | .nilptr, c, hv | .nilfn, c, hv | .nilmap, c, hv | .nilif, c, hv | .raw x, c, hv => rfl
theorem RVs.low : ∀ (v : List AV) (c : List Value), RVs ρ v c → Subs id ρ.length v v
  | [], c, hv => rfl
  | a :: r, c, hv => by
    obtain ⟨x, y, e, g1, g2⟩ := hv
    exact ⟨a, r, rfl, RV.low a x g1, RVs.low r y g2⟩
end
end

theorem Sub.mono {m : Nat → Nat} {n0 n : Nat} (hn : n0 ≤ n) (hm : ∀ b, b < n0 → m b = b) : (∀ (a v : AV), Sub id n0 a v → Sub m n a v) ∧ (∀ (a v : List AV), Subs id n0 a v → Subs m n a v) := by
  have key : ∀ (a : AV), ∀ v, Sub id n0 a v → Sub m n a v := fun a => by
    refine AV.rec (motive_1 := fun a => ∀ v, Sub id n0 a v → Sub m n a v) (motive_2 := fun l => ∀ v, Subs id n0 l v → Subs m n l v) ?_ ?_ ?_ ?_ ?_ ?_ ?_ ?_ ?_ ?_ ?_ ?_ ?_ ?_ ?_ ?_ ?_ ?_ a
    · exact fun v h => h
    · exact fun b v h => h
    · exact fun k i v h => h
    · exact fun l v h => h
    · rintro b off v ⟨h, rfl⟩; exact ⟨by omega, by rw [hm b h]; rfl⟩
    · exact fun v h => h
    · rintro sz b off len mc nl v ⟨mc', h1, h2⟩
      refine ⟨mc', h1, ?_⟩
      rcases h2 with h2 | ⟨h2, rfl⟩
      · exact .inl h2
      · exact .inr ⟨by omega, by rw [hm b h2]; rfl⟩
    · rintro f a c iha ihc v ⟨a', c', rfl, h1, h2⟩; exact ⟨a', c', rfl, iha _ h1, ihc _ h2⟩
    · exact fun v h => h
    · rintro b v ⟨h, rfl⟩; exact ⟨by omega, by rw [hm b h]; rfl⟩
    · exact fun v h => h
    · rintro t x ih v ⟨y, rfl, h1⟩; exact ⟨y, rfl, ih _ h1⟩
    · exact fun v h => h
    · rintro l ih v ⟨l', rfl, h1⟩; exact ⟨l', rfl, ih _ h1⟩
    · rintro l ih v ⟨l', rfl, h1⟩; exact ⟨l', rfl, ih _ h1⟩
    · exact fun x v h => h
    · exact fun v h => h
    · rintro a r iha ihr v ⟨b, s, rfl, h1, h2⟩; exact ⟨b, s, rfl, iha _ h1, ihr _ h2⟩
  refine ⟨key, fun a => ?_⟩
  induction a with
  | nil => exact fun v h => h
  | cons x r ih => rintro v ⟨b, s, rfl, h1, h2⟩; exact ⟨b, s, rfl, key _ _ h1, ih _ h2⟩

def OSub (m : Nat → Nat) (n : Nat) : AObj → AObj → Prop
  | .blk cs' rw', .blk cs rw => (rw' = true → rw = true) ∧ ∀ (i : Nat) (v' : AV), cs'[i]? = some v' → ∃ v, cs[i]? = some v ∧ Sub m n v' v
  | .siter s p, .siter s' p' => s = s' ∧ p = p'
  | .map es' c', .map es c => c' = c ∧ es'.length = es.length ∧ ∀ (i : Nat) (k' v' : AV) (b : Nat), es'[i]? = some (k', v', b) → ∃ k v, es[i]? = some (k, v, b) ∧ Sub m n k' k ∧ Sub m n v' v
  | .miter x' a' s' l', .miter x a s l => a' = a ∧ s' = s ∧ l' = l ∧ ((x' = none ∧ x = none) ∨ ∃ b', x' = some b' ∧ b' < n ∧ x = some (m b'))
  | _, _ => False

theorem OSub.rel {m : Nat → Nat} {n : Nat} {ρ ρ2 : Loc.Map} (h : ∀ (b : Nat) (l : Loc), b < n → ρ[m b]? = some l → ρ2[b]? = some l) {o o' : AObj} (hs : OSub m n o' o) {l : Loc} {w : World} (ho : ObjRel ρ o l w) : ObjRel ρ2 o' l w := by
  cases o' with
  | blk cs' rw' =>
    cases o with
    | siter => exact hs.elim
    | map => exact hs.elim
    | miter => exact hs.elim
    | blk cs rw =>
      obtain ⟨c, e, fz, hh, hsz, hcs, hfz⟩ := ho
      refine ⟨c, e, fz, hh, hsz, fun i v' hi => ?_, fun hr => hfz (hs.1 hr)⟩
      obtain ⟨v, hv, hsub⟩ := hs.2 i v' hi
      obtain ⟨x, hx, hrv⟩ := hcs i v hv
      exact ⟨x, hx, Sub.rv h _ _ _ hsub hrv⟩
  | siter s p =>
    cases o with
    | siter s' p' => obtain ⟨rfl, rfl⟩ := hs; exact ho
    | blk => exact hs.elim
    | map => exact hs.elim
    | miter => exact hs.elim
  | map es' c' =>
    cases o with
    | siter => exact hs.elim
    | blk => exact hs.elim
    | miter => exact hs.elim
    | map es c =>
      obtain ⟨rfl, hlen, hs⟩ := hs
      obtain ⟨ents, hh, hsz, hes⟩ := ho
      refine ⟨ents, hh, hsz.trans hlen.symm, fun i k' v' b hi => ?_⟩
      obtain ⟨k, v, hi', h1, h2⟩ := hs i k' v' b hi
      obtain ⟨e, he, r1, r2, r3⟩ := hes i k v b hi'
      exact ⟨e, he, Sub.rv h _ _ _ h1 r1, Sub.rv h _ _ _ h2 r2, r3⟩
  | miter x' a' s' l' =>
    cases o with
    | siter => exact hs.elim
    | blk => exact hs.elim
    | map => exact hs.elim
    | miter x a s l' =>
      obtain ⟨rfl, rfl, rfl, hx⟩ := hs
      rcases hx with ⟨rfl, rfl⟩ | ⟨b', rfl, hlt, rfl⟩
      · refine ⟨ho.1, ?_⟩
        rcases ho.2 with ho | ⟨_, _, e, _⟩
        · exact .inl ho
        · cases e
      · refine ⟨ho.1, ?_⟩
        rcases ho.2 with ⟨e, _⟩ | ⟨b, lm, e, hl, hh⟩
        · cases e
        · cases e; exact .inr ⟨b', lm, rfl, h b' lm hlt hl, hh⟩
theorem OSub.rw {m : Nat → Nat} {n : Nat} {o o' : AObj} (hs : OSub m n o' o) (h : o'.rw = true) : o.rw = true := by
  cases o' <;> cases o <;> simp_all [OSub, AObj.rw]

/-- All that the memory holds names what is there. -/
def St.wf (st : St) : Prop := ∀ b o, st.get b = some o → b < st.n ∧ OSub id st.n o o
theorem Rel.wf {ρ : Loc.Map} {st : St} {w : World} (h : Rel ρ st w) : st.wf := fun b o hb => by
  refine ⟨h.lt hb, ?_⟩
  obtain ⟨l, hl, ho⟩ := h.obj b o hb
  cases o with
  | blk cs rw =>
    obtain ⟨c, e, fz, hh, hsz, hcs, hfz⟩ := ho
    refine ⟨id, fun i v hi => ⟨v, hi, ?_⟩⟩
    obtain ⟨x, _, hrv⟩ := hcs i v hi
    rw [← h.len]
    exact RV.low v x hrv
  | siter => exact ⟨rfl, rfl⟩
  | map es c =>
    obtain ⟨ents, hh, hsz, hes⟩ := ho
    refine ⟨rfl, rfl, fun i k v b hi => ⟨k, v, hi, ?_⟩⟩
    obtain ⟨e, _, r1, r2, _⟩ := hes i k v b hi
    rw [← h.len]
    exact ⟨RV.low _ _ r1, RV.low _ _ r2⟩
  | miter x a s l' =>
    refine ⟨rfl, rfl, rfl, ?_⟩
    rcases ho.2 with ⟨e, _⟩ | ⟨b, lm, e, hl, _⟩
    · exact .inl ⟨e, e⟩
    · exact .inr ⟨b, e, by rw [← h.len]; exact (List.getElem?_eq_some_iff.1 hl).1, e⟩
theorem OSub.up {m : Nat → Nat} {n0 n : Nat} (hn : n0 ≤ n) (hm : ∀ b, b < n0 → m b = b) {o o' : AObj} (h : OSub id n0 o' o) : OSub m n o' o := by
  cases o' <;> cases o <;> simp only [OSub] at h ⊢
  · exact ⟨h.1, fun i v' hi => let ⟨v, hv, hs⟩ := h.2 i v' hi; ⟨v, hv, (Sub.mono hn hm).1 _ _ hs⟩⟩
  · exact h
  · exact ⟨h.1, h.2.1, fun i k' v' b hi => let ⟨k, v, hv, h1, h2⟩ := h.2.2 i k' v' b hi; ⟨k, v, hv, (Sub.mono hn hm).1 _ _ h1, (Sub.mono hn hm).1 _ _ h2⟩⟩
  · refine ⟨h.1, h.2.1, h.2.2.1, ?_⟩
    rcases h.2.2.2 with h | ⟨b', h1, h2, h3⟩
    · exact .inl h
    · exact .inr ⟨b', h1, by omega, by rw [hm b' h2]; exact h3⟩

/-- One memory told as another: `m` says for each name of the new one what it is called in the old one. -/
structure Tell (m : Nat → Nat) (n0 : Nat) (st st2 : St) : Prop where
  n : n0 ≤ st2.n
  low : ∀ b, b < n0 → m b = b
  obj : ∀ b o, st2.get b = some o → b < st2.n ∧ ∃ o', st.get (m b) = some o' ∧ OSub m st2.n o o'
  inj : ∀ b b' o o', st2.get b = some o → st2.get b' = some o' → m b = m b' → b = b'

theorem Tell.rel {m : Nat → Nat} {n0 : Nat} {st st2 : St} (h : Tell m n0 st st2) {ρ : Loc.Map} {w : World} (hn : n0 ≤ ρ.length) (hr : Rel ρ st w) :
    ∃ ρ2, Rel ρ2 st2 w ∧ (∀ (b : Nat) (l : Loc), b < st2.n → ρ[m b]? = some l → ρ2[b]? = some l) ∧ Step n0 ρ st w ρ2 st2 w := by
  let ρ2 : Loc.Map := (List.range st2.n).map fun b => (ρ[m b]?).getD ⟨0, 0, 0⟩
  have hget : ∀ (b : Nat) (l : Loc), b < st2.n → ρ[m b]? = some l → ρ2[b]? = some l := fun b l hb hl => by simp [ρ2, hb, hl]
  have hback : ∀ b o l, st2.get b = some o → ρ2[b]? = some l → ∃ o', st.get (m b) = some o' ∧ OSub m st2.n o o' ∧ ρ[m b]? = some l := fun b o l hb hl => by
    obtain ⟨hlt, o', ho', hs⟩ := h.obj b o hb
    obtain ⟨l', hl', _⟩ := hr.obj _ _ ho'
    rw [hget b l' hlt hl'] at hl
    simp at hl; subst hl
    exact ⟨o', ho', hs, hl'⟩
  refine ⟨ρ2, ⟨⟨by simp [ρ2], fun b o hb => ?_, fun b b' l l' o o' hne hb hrw hb' hl hl' => ?_⟩, ⟨hr.gi.glb, fun b o l hb hrw hl => ?_⟩⟩, hget, ⟨fun b hb => ?_, rfl, rfl, rfl, Nat.le_refl _, Nat.le_refl _, fun _ _ _ => rfl, fun b o l hb hrw hl _ => ?_⟩⟩
  · obtain ⟨hlt, o', ho', hs⟩ := h.obj b o hb
    obtain ⟨l', hl', hobj⟩ := hr.obj _ _ ho'
    exact ⟨l', hget b l' hlt hl', hs.rel hget hobj⟩
  · obtain ⟨o1, g1, s1, e1⟩ := hback b o l hb hl
    obtain ⟨o2, g2, s2, e2⟩ := hback b' o' l' hb' hl'
    exact hr.sep _ _ l l' o1 o2 (fun e => hne (h.inj b b' o o' hb hb' e)) g1 (s1.rw hrw) g2 e1 e2
  · obtain ⟨o1, g1, s1, e1⟩ := hback b o l hb hl
    exact hr.gi.gsep _ o1 l g1 (s1.rw hrw) e1
  · have h1 : ρ[m b]? = some (ρ[b]'(by omega)) := by rw [h.low b hb]; exact List.getElem?_eq_getElem (by omega)
    rw [hget b _ (by have := h.n; omega) h1, List.getElem?_eq_getElem (by omega)]
  · obtain ⟨o1, g1, s1, e1⟩ := hback b o l hb hl
    exact ⟨m b, o1, l, g1, s1.rw hrw, e1, rfl⟩

def LeV (n0 : Nat) (v : AV) (st : St) (v2 : AV) (st2 : St) : Prop :=
  ∀ (ρ : Loc.Map) (w : World) (c : Value), n0 ≤ ρ.length → Rel ρ st w → RV ρ v c → ∃ ρ2, Rel ρ2 st2 w ∧ RV ρ2 v2 c ∧ Step n0 ρ st w ρ2 st2 w

theorem LeV.tell {m : Nat → Nat} {n0 : Nat} {v v2 : AV} {st st2 : St} (h : Tell m n0 st st2) (hv : Sub m st2.n v2 v) : LeV n0 v st v2 st2 := fun ρ w c hn hr hc => by
  obtain ⟨ρ2, h1, h2, h3⟩ := h.rel hn hr
  exact ⟨ρ2, h1, Sub.rv h2 _ _ _ hv hc, h3⟩

/-- A frame told as another. -/
def FrSub (m : Nat → Nat) (n : Nat) (fr : Fr) : Fr → Prop
  | [] => True
  | (k, v) :: r => Sub m n v (Fr.get fr k) ∧ FrSub m n fr r
theorem FrSub.get {m : Nat → Nat} {n : Nat} {fr : Fr} : ∀ {fr2 : Fr}, FrSub m n fr fr2 → ∀ t, Sub m n (Fr.get fr2 t) (Fr.get fr t)
  | [], _, t => trivial
  | (k, v) :: r, h, t => by
    show Sub m n (if k = t then v else Fr.get r t) (Fr.get fr t)
    split
    · rename_i e; subst e; exact h.1
    · exact FrSub.get h.2 t
theorem Le.tell {m : Nat → Nat} {N n0 : Nat} {fr fr2 : Fr} {st st2 : St} (h : Tell m n0 st st2) (hv : FrSub m st2.n fr fr2) : Le N n0 fr st fr2 st2 := fun ρ w tmps hn hr hf => by
  obtain ⟨ρ2, h1, h2, h3⟩ := h.rel hn hr
  exact ⟨ρ2, h1, ⟨hf.1, fun t => Sub.rv h2 _ _ _ (hv.get t) (hf.2 t)⟩, h3⟩

/-- Nothing is renamed, all new blocks are forgotten. -/
theorem Tell.forget {st st' : St} (hwf : st.wf) (h : ∀ b o, st.get b = some o → st'.get b = some o) : Tell id st.n st' st where
  n := Nat.le_refl _
  low := fun _ _ => rfl
  obj := fun b o hb => ⟨(hwf b o hb).1, o, h b o hb, (hwf b o hb).2⟩
  inj := fun _ _ _ _ _ _ e => e

def ren1 (n k : Nat) : Nat → Nat := fun b => if b = n then k else b
theorem ren1_low {n k : Nat} : ∀ b, b < n → ren1 n k b = b := fun b hb => by unfold ren1; rw [if_neg (by omega)]
theorem ren1_at {n k : Nat} : ren1 n k n = k := if_pos rfl
/-- All new blocks are forgotten but one, the block k. -/
theorem Tell.keep1 {st st' : St} (k : Nat) {o2 : Option AObj} (hwf : st.wf) (h : ∀ b o, st.get b = some o → st'.get b = some o) (hk : st.n ≤ k) (ho : ∀ x, o2 = some x → ∃ y, st'.get k = some y ∧ OSub (ren1 st.n k) (st.n + 1) x y) : Tell (ren1 st.n k) st.n st' (st.pushO o2) where
  n := by rw [St.pushO_n]; omega
  low := ren1_low
  obj := fun b o hb => by
    rw [St.pushO_get] at hb
    rw [St.pushO_n]
    split at hb
    · rename_i e; subst e
      obtain ⟨y, hy, hs⟩ := ho o hb
      exact ⟨by omega, y, by rw [ren1_at]; exact hy, hs⟩
    · have := (hwf b o hb).1
      exact ⟨by omega, o, by rw [ren1_low b this]; exact h b o hb, (hwf b o hb).2.up (by omega) ren1_low⟩
  inj := fun b b' o o' hb hb' e => by
    rw [St.pushO_get] at hb hb'
    split at hb <;> split at hb'
    · omega
    · have := (hwf b' o' hb').1
      rename_i e1 _; subst e1
      rw [ren1_at, ren1_low b' this] at e; omega
    · have := (hwf b o hb).1
      rename_i e1; subst e1
      rw [ren1_at, ren1_low b this] at e; omega
    · have h1 := (hwf b o hb).1
      have h2 := (hwf b' o' hb').1
      rw [ren1_low b h1, ren1_low b' h2] at e; exact e

/-! ### Functions -/
def enumFr : Nat → List AV → Fr
  | _, [] => []
  | i, v :: r => (i, v) :: enumFr (i + 1) r
theorem enumFr_get : ∀ (l : List AV) (i t : Nat), Fr.get (enumFr i l) t = if i ≤ t then (l[t - i]?).getD .any else .any
  | [], i, t => by simp [enumFr, Fr.get]
  | v :: r, i, t => by
    rw [enumFr, Fr.get, enumFr_get r (i + 1) t]
    by_cases h : i = t
    · subst h; simp
    · rw [if_neg h]
      by_cases h2 : i + 1 ≤ t
      · rw [if_pos h2, if_pos (by omega), show t - i = (t - (i + 1)) + 1 by omega, List.getElem?_cons_succ]
      · rw [if_neg h2, if_neg (by omega)]

def evRes1 (P : Program) (fr : Fr) (st : St) : ResultVar → Option AV
  | .tmp t => some (Fr.get fr t)
  | .cell a t => evLoad P t (Fr.get fr a) st
def evRess (P : Program) (fr : Fr) (st : St) : List ResultVar → Option (List AV)
  | [] => some []
  | r :: rs => (evRes1 P fr st r).bind fun v => (evRess P fr st rs).bind fun l => some (v :: l)
def tupOf : List AV → AV
  | [v] => v
  | l => .tup l
def evResults (P : Program) (rs : List ResultVar) (fr : Fr) (st : St) : Option AV := (evRess P fr st rs).bind fun l => some (tupOf l)

theorem evRess_ok {P : Program} {fr : Fr} {st : St} {ρ : Loc.Map} {w : World} {N : Nat} {tmps : Array Value} (hr : Rel ρ st w) (hf : FrameRel ρ N fr tmps) : ∀ {rs : List ResultVar} {l : List AV}, evRess P fr st rs = some l →
    ∃ cs, (rs.mapM (m := Sem) fun | .tmp t => pure (tmps.getD t undef) | .cell a t => do loadVar t (← asAddr (tmps.getD a undef))).run P w = .ok cs w ∧ RVs ρ l cs
  | [], l, h => by simp [evRess] at h; subst h; exact ⟨[], rfl, rfl⟩
  | r :: rs, l, h => by
    simp only [evRess, Option.bind_eq_some_iff] at h
    obtain ⟨v, hv, l', hl', h⟩ := h
    simp at h; subst h
    obtain ⟨cs, hrun, hcs⟩ := evRess_ok hr hf hl'
    cases r with
    | tmp t =>
      simp [evRes1] at hv; subst hv
      refine ⟨tmps.getD t undef :: cs, ?_, _, _, rfl, hf.2 t, hcs⟩
      simp only [List.mapM_cons, Sem.run_bind, Sem.run_pure, Result.andThen_ok, hrun]
    | cell a t =>
      simp only [evRes1] at hv
      obtain ⟨x, hx, hrv⟩ := evLoad_ok (P := P) hv hr (hf.2 a)
      refine ⟨x :: cs, ?_, _, _, rfl, hrv, hcs⟩
      have hptr : ∃ b off, Fr.get fr a = .ptr b off := by
        unfold evLoad at hv
        split at hv
        · exact ⟨_, _, ‹_›⟩
        · cases hv
      obtain ⟨b, off, hp⟩ := hptr
      have hav := hf.2 a
      rw [hp] at hav
      obtain ⟨lc, hlc, hav⟩ := hav
      rw [hav] at hx
      simp only [Instr.loadAt, Instr.sureAddr, Sem.run_bind, Sem.run_pure, Result.andThen_ok] at hx
      have has : (asAddr (tmps.getD a undef)).run P w = .ok ⟨lc.blk, lc.base + off, none⟩ w := by rw [hav]; rfl
      simp only [List.mapM_cons, Sem.run_bind, Sem.run_pure, Result.andThen_ok, has, hx, hrun]

theorem evResults_ok {P : Program} {fn : Func} {fr : Fr} {st : St} {v : AV} (h : evResults P fn.results.toList fr st = some v) {ρ : Loc.Map} {w : World} {N : Nat} {tmps : Array Value} (hr : Rel ρ st w) (hf : FrameRel ρ N fr tmps) :
    ∃ c, (results fn tmps).run P w = .ok c w ∧ RV ρ v c := by
  simp only [evResults, Option.bind_eq_some_iff] at h
  obtain ⟨l, hl, h⟩ := h
  simp at h; subst h
  obtain ⟨cs, hrun, hcs⟩ := evRess_ok hr hf hl
  have hlen := hcs.length
  refine ⟨if h : (cs.toArray).size = 1 then (cs.toArray)[0] else .tuple cs.toArray, ?_, ?_⟩
  · unfold results
    rw [Array.mapM_eq_mapM_toList]
    simp only [Sem.run_bind, Sem.run_map]
    erw [hrun]
    simp only [Result.andThen_ok, Sem.run_pure]
  · match l, cs, hcs, hlen with
    | [], cs, hcs, hlen => simp at hlen; subst hlen; exact ⟨[], rfl, rfl⟩
    | [a], cs, hcs, hlen => obtain ⟨c, r, rfl, h1, rfl⟩ := hcs; exact h1
    | a :: b :: r, cs, hcs, hlen =>
      have : ¬ (cs.toArray.size = 1) := by simp at hlen ⊢; omega
      rw [dif_neg this]
      exact ⟨cs, rfl, hcs⟩

def Fin (P : Program) (rs : List ResultVar) (n0 : Nat) (Q : AV → St → Prop) : Post := fun e fr st =>
  (e = .normal ∨ e = .ret) ∧ ∃ v, evResults P rs fr st = some v ∧ ∃ v2 st2, LeV n0 v st v2 st2 ∧ Q v2 st2

theorem ASpec.body {P : Program} {f : FuncId} {fn : Func} {c : Code} {args : List AV} {st : St} {Q : AV → St → Prop} {N : Nat} (hf : P.funcs[f]? = some fn) (hname : (fn.name == "runtime.NumGoroutine") = false) (hb : fn.body = some c) (hN : fn.ntmps = N) (hle : args.length ≤ N)
    (h : st.wf → Subs id st.n args args → ACode P N st.n c (AX P N st.n (Fin P fn.results.toList st.n Q) []) (enumFr 0 args) st) : ASpec P f args st Q := by
  refine ⟨⟨fn, hf, hname, by rw [hb]; rfl⟩, fun ρ w cargs hr ha => ?_⟩
  have hlen := ha.length
  have hlow := RVs.low args cargs ha
  rw [hr.len] at hlow
  refine calls_of_wp hf hb (wp_mono (h hr.wf hlow ρ w _ (by have := hr.len; omega) hr ⟨by simp; omega, fun t => ?_⟩ rfl) fun e a w' hq => ?_)
  · rw [enumFr_get]
    simp only [Nat.zero_le, if_true, Nat.sub_zero]
    cases ht : args[t]? with
    | none => trivial
    | some v =>
      obtain ⟨c, hc, hrv⟩ := RVs.get ha ht
      have hlt := (List.getElem?_eq_some_iff.1 hc).1
      simp only [Option.getD_some]
      have : (⟨cargs⟩ ++ Array.replicate (fn.ntmps - (⟨cargs⟩ : Array Value).size) undef)[t]? = some c := by
        rw [Array.getElem?_append_left (by simpa using hlt)]
        simpa using hc
      rw [Array.getD_eq_getD_getElem?, this]; exact hrv
  · obtain ⟨fr', st', ρ', q, r, f', d, s⟩ := hq
    obtain ⟨he, v, hv, v2, st2, hle, hQ⟩ := q
    obtain ⟨c', hrun, hrv⟩ := evResults_ok hv r f'
    obtain ⟨ρ2, h1, h2, h3⟩ := hle ρ' w' c' (s.ext.len (by have := hr.len; omega)) r hrv
    rcases he with rfl | rfl
    · exact ⟨d, c', hrun, c', v2, ρ2, st2, rfl, hQ, h2, h1, s.trans h3⟩
    · exact ⟨d, c', hrun, c', v2, ρ2, st2, rfl, hQ, h2, h1, s.trans h3⟩

theorem AOps.call {P : Program} {N n0 : Nat} {Q : Post} {fr : Fr} {st : St} {ops : Array Oper} {o : Oper} {rest : List Oper} {c : Call} {g : Operand} {f : FuncId} {first cap args : List AV} (hop : o.op = .call c) (hc : c.callee = .value g)
    (hw : wantedA ops.toList fr o = some true) (hg : fr.ev g = .fn (.func f) first cap) (hargs : first ++ c.args.toList.map fr.ev ++ cap = args) (hd : dstOk N o.dst = true) (h : ASpec P f args st fun v st' => AOps P N n0 ops rest Q (fr.put o.dst v) st') : AOps P N n0 ops (o :: rest) Q fr st := by
  intro ρ w a hn hr hf hdf
  obtain ⟨⟨fn, hfn, hname, hbody⟩, h⟩ := h
  have he := fun x => hf.ev x
  have hgv := he g
  rw [hg] at hgv
  obtain ⟨cf, cc, hgv, h1, h2⟩ := hgv
  have hcargs : RVs ρ args (cf ++ (c.args.map a.eval).toList ++ cc) := by
    rw [← hargs]
    refine RVs.append (RVs.append h1 ?_) h2
    rw [Array.toList_map]; exact RVs.map he _
  unfold wpList
  rw [wantedA_ok hw hf, if_pos rfl]
  refine .inl ?_
  have hrun : (execOp a.eval o).run P w = .ok (.enter f ⟨cf ++ (c.args.map a.eval).toList ++ cc⟩) w := by
    have hres : (resolve a.eval c o.type).run P w = .ok { target := .fn (.func f) ⟨cc⟩, args := ⟨cf⟩ ++ c.args.map a.eval } w := by
      simp only [resolve, hc, hgv, Deferred.ofValue, Sem.run_pure]
    simp only [execOp, hop, Sem.run_bind, hres, Result.andThen_ok, invoke, callFunc, run_program, hfn, hname, hbody, Bool.false_eq_true, if_false, Sem.run_pure]
    congr 2
    apply Array.ext'
    simp
  unfold Oper.wp
  rw [hrun, Oper.upon_enter]
  refine Calls.mono (h ρ w _ hr hcargs) fun e w' hq => ?_
  obtain ⟨cv, v, ρ', st', rfl, hQ, hrv, hr', hs⟩ := hq
  have hsup := hr.n_le hr' hs
  have hs' := hs.le (n1 := n0) (by have := hr.len; omega)
  exact wpList_mono (fun _ _ _ hq => CPost.step hs' hq) (hQ ρ' w' _ (hs'.ext.len hn) hr' ((hf.sup hsup).put (dstOk_spec hd) hrv) (by cases o.dst <;> exact hdf))
end Gab
