/- The abstract memory that the proofs of this claim walk in: values with named blocks, the relation to the model's world, the meaning of a contract and of a piece of code over it, and the rules for control flow. -/
import Derived.Calls
import Derived.Orders
import Derived.LoopN
import Derived.Laws.World
import Derived.Laws.Sem
import Derived.Laws.Cells
import Derived.Laws.Append
import Derived.Laws.AppendOwn
import Derived.Below
import Derived.Test.YtcdldgoehoopmaaDoorGl
namespace Gab
open Go

structure Loc where
  blk : Nat
  base : Nat
  size : Nat
abbrev Loc.Map := List Loc

inductive AV where
  | any
  | bool (b : Bool)
  | int (k : IntKind) (n : Int)
  | str (l : List UInt8)
  | ptr (b off : Nat)
  | nilptr
  | sl (sz b off len mc : Nat) (nl : Bool)
  | fn (f : Fn) (first cap : List AV)
  | nilfn
  | map (b : Nat)
  | nilmap
  | iface (t : TypeId) (v : AV)
  | nilif
  | agg (l : List AV)
  | tup (l : List AV)
  | raw (v : Value)
deriving Inhabited

mutual
def RV (ρ : Loc.Map) : AV → Value → Prop
  | .any, _ => True
  | .bool b, c => c = .bool b
  | .int k n, c => c = .int k n
  | .str l, c => c = .string ⟨l.toArray⟩
  | .ptr b off, c => ∃ l, ρ[b]? = some l ∧ c = .pointer (some ⟨l.blk, l.base + off, none⟩)
  | .nilptr, c => c = .pointer none
  | .sl sz b off len mc nl, c => ∃ a cap, c = .slice a len cap ∧ len ≤ cap ∧ mc ≤ cap ∧ (nl = true → a = none ∧ cap = 0) ∧
      (nl = false → ∃ ad l, a = some ad ∧ ρ[b]? = some l ∧ (cap = 0 ∨ (ad = ⟨l.blk, l.base + off, none⟩ ∧ l.base + off + cap * sz ≤ l.size)))
  | .fn f first cap, c => ∃ cf cc, c = .func f ⟨cf⟩ ⟨cc⟩ ∧ RVs ρ first cf ∧ RVs ρ cap cc
  | .nilfn, c => c = .nilFunc
  | .map b, c => ∃ l, ρ[b]? = some l ∧ c = .map (some l.blk)
  | .nilmap, c => c = .map none
  | .iface t v, c => ∃ x, c = .iface t x ∧ RV ρ v x
  | .nilif, c => c = .nilIface
  | .agg l, c => ∃ cs, c = .agg ⟨cs⟩ ∧ RVs ρ l cs
  | .tup l, c => ∃ cs, c = .tuple ⟨cs⟩ ∧ RVs ρ l cs
  | .raw v, c => c = v
def RVs (ρ : Loc.Map) : List AV → List Value → Prop
  | [], cs => cs = []
  | a :: l, cs => ∃ c r, cs = c :: r ∧ RV ρ a c ∧ RVs ρ l r
end

def Ext (n : Nat) (ρ ρ' : Loc.Map) : Prop := ∀ b, b < n → ρ'[b]? = ρ[b]?

theorem Ext.refl (n : Nat) (ρ : Loc.Map) : Ext n ρ ρ := fun _ _ => rfl
theorem Ext.trans {n : Nat} {a b c : Loc.Map} (h : Ext n a b) (k : Ext n b c) : Ext n a c := fun i hi => (k i hi).trans (h i hi)
theorem Ext.le {n m : Nat} {a b : Loc.Map} (h : Ext n a b) (hm : m ≤ n) : Ext m a b := fun i hi => h i (by omega)

/-- What is told of a value over some locations is told over more. -/
def Sup (ρ ρ' : Loc.Map) : Prop := ∀ (b : Nat) (l : Loc), ρ[b]? = some l → ρ'[b]? = some l
theorem Sup.refl (ρ : Loc.Map) : Sup ρ ρ := fun _ _ h => h
theorem Sup.trans {a b c : Loc.Map} (h : Sup a b) (k : Sup b c) : Sup a c := fun i l hi => k i l (h i l hi)
theorem Ext.sup {ρ ρ' : Loc.Map} (h : Ext ρ.length ρ ρ') : Sup ρ ρ' := fun b l hb => by
  rw [h b (List.getElem?_eq_some_iff.1 hb).1]; exact hb
theorem Ext.len {n : Nat} {ρ ρ' : Loc.Map} (h : Ext n ρ ρ') (hn : n ≤ ρ.length) : n ≤ ρ'.length := by
  rcases Nat.eq_zero_or_pos n with h0 | h0
  · omega
  · have h1 := h (n - 1) (by omega)
    have h2 : ρ[n - 1]? = some (ρ[n - 1]'(by omega)) := List.getElem?_eq_getElem (by omega)
    have := (List.getElem?_eq_some_iff.1 (h1.trans h2)).1
    omega
theorem Sup.append (ρ : Loc.Map) (l : Loc.Map) : Sup ρ (ρ ++ l) := fun b x hb => by
  rw [List.getElem?_append_left (List.getElem?_eq_some_iff.1 hb).1]; exact hb
theorem Ext.append (ρ : Loc.Map) (l : Loc.Map) {n : Nat} (h : n ≤ ρ.length) : Ext n ρ (ρ ++ l) := fun b hb => by
  rw [List.getElem?_append_left (by omega)]

mutual
theorem RV.sup {ρ ρ' : Loc.Map} (h : Sup ρ ρ') : ∀ (a : AV) (c : Value), RV ρ a c → RV ρ' a c
  | .any, _, _ => trivial
  | .bool _, _, hc | .int _ _, _, hc | .str _, _, hc | .nilptr, _, hc | .nilfn, _, hc | .nilmap, _, hc | .nilif, _, hc | .raw _, _, hc => hc
  | .ptr b off, _, hc => by
    obtain ⟨l, hl, e⟩ := hc
    exact ⟨l, h _ _ hl, e⟩
  | .sl sz b off len mc nl, _, hc => by
    obtain ⟨a, cap, e, h1, h2, h3, h4⟩ := hc
    refine ⟨a, cap, e, h1, h2, h3, fun hn => ?_⟩
    obtain ⟨ad, l, ea, hl, h5⟩ := h4 hn
    exact ⟨ad, l, ea, h _ _ hl, h5⟩
  | .fn f first cap, _, hc => by
    obtain ⟨cf, cc, e, h1, h2⟩ := hc
    exact ⟨cf, cc, e, RVs.sup h first cf h1, RVs.sup h cap cc h2⟩
  | .map b, _, hc => by
    obtain ⟨l, hl, e⟩ := hc
    exact ⟨l, h _ _ hl, e⟩
  | .iface t v, _, hc => by
    obtain ⟨x, e, hx⟩ := hc
    exact ⟨x, e, RV.sup h v x hx⟩
  | .agg l, _, hc => by
    obtain ⟨cs, e, hx⟩ := hc
    exact ⟨cs, e, RVs.sup h l cs hx⟩
  | .tup l, _, hc => by
    obtain ⟨cs, e, hx⟩ := hc
    exact ⟨cs, e, RVs.sup h l cs hx⟩
theorem RVs.sup {ρ ρ' : Loc.Map} (h : Sup ρ ρ') : ∀ (l : List AV) (cs : List Value), RVs ρ l cs → RVs ρ' l cs
  | [], _, hc => hc
  | a :: l, _, hc => by
    obtain ⟨c, r, e, h1, h2⟩ := hc
    exact ⟨c, r, e, RV.sup h a c h1, RVs.sup h l r h2⟩
end

theorem RVs.length {ρ : Loc.Map} : ∀ {l : List AV} {cs : List Value}, RVs ρ l cs → cs.length = l.length
  | [], _, h => by simp [RVs] at h; subst h; rfl
  | a :: l, _, h => by
    obtain ⟨c, r, rfl, _, h2⟩ := h
    simp [RVs.length h2]
theorem RVs.get {ρ : Loc.Map} : ∀ {l : List AV} {cs : List Value}, RVs ρ l cs → ∀ {i : Nat} {a : AV}, l[i]? = some a → ∃ c, cs[i]? = some c ∧ RV ρ a c
  | [], _, _, i, a, h => by simp at h
  | x :: l, _, h, i, a, hi => by
    obtain ⟨c, r, rfl, h1, h2⟩ := h
    cases i with
    | zero => simp at hi; subst hi; exact ⟨c, rfl, h1⟩
    | succ i => simpa using RVs.get h2 (i := i) (by simpa using hi)
theorem RVs.of {ρ : Loc.Map} : ∀ {l : List AV} {cs : List Value}, cs.length = l.length → (∀ (i : Nat) (a : AV), l[i]? = some a → ∃ c, cs[i]? = some c ∧ RV ρ a c) → RVs ρ l cs
  | [], cs, h, _ => by simpa [RVs] using List.eq_nil_of_length_eq_zero h
  | x :: l, [], h, _ => by simp at h
  | x :: l, c :: r, h, hg => by
    refine ⟨c, r, rfl, ?_, RVs.of (by simpa using h) fun i a hi => by simpa using hg (i + 1) a (by simpa using hi)⟩
    obtain ⟨c', hc, hr⟩ := hg 0 x rfl
    simp at hc; subst hc; exact hr
theorem RVs.append {ρ : Loc.Map} : ∀ {l m : List AV} {cs ds : List Value}, RVs ρ l cs → RVs ρ m ds → RVs ρ (l ++ m) (cs ++ ds)
  | [], _, _, _, h, h' => by simp [RVs] at h; subst h; simpa using h'
  | x :: l, _, _, _, h, h' => by
    obtain ⟨c, r, rfl, h1, h2⟩ := h
    exact ⟨c, r ++ _, rfl, h1, RVs.append h2 h'⟩

inductive AObj where
  | blk (cs : List AV) (rw : Bool)
  | siter (l : List UInt8) (pos : Nat)
  | map (es : List (AV × AV × Nat)) (clock : Nat)
  | miter (m : Option Nat) (since : Nat) (seen : List Nat) (last : Nat)
def AObj.rw : AObj → Bool
  | .blk _ rw => rw
  | _ => true

@[ext] structure St where
  n : Nat
  get : Nat → Option AObj

def St.push (s : St) (o : AObj) : St := ⟨s.n + 1, fun b => if b = s.n then some o else s.get b⟩
def St.pushO (s : St) (o : Option AObj) : St := ⟨s.n + 1, fun b => if b = s.n then o else s.get b⟩
def St.set (s : St) (b : Nat) (o : AObj) : St := ⟨s.n, fun i => if i = b then some o else s.get i⟩
def St.kill (s : St) (b : Nat) : St := ⟨s.n, fun i => if i = b then none else s.get i⟩

theorem St.push_n (s : St) (o : AObj) : (s.push o).n = s.n + 1 := rfl
theorem St.pushO_n (s : St) (o : Option AObj) : (s.pushO o).n = s.n + 1 := rfl
theorem St.set_n (s : St) (b : Nat) (o : AObj) : (s.set b o).n = s.n := rfl
theorem St.kill_n (s : St) (b : Nat) : (s.kill b).n = s.n := rfl
theorem St.push_get (s : St) (o : AObj) (b : Nat) : (s.push o).get b = if b = s.n then some o else s.get b := rfl
theorem St.pushO_get (s : St) (o : Option AObj) (b : Nat) : (s.pushO o).get b = if b = s.n then o else s.get b := rfl
theorem St.set_get (s : St) (o : AObj) (b i : Nat) : (s.set b o).get i = if i = b then some o else s.get i := rfl
theorem St.kill_get (s : St) (b i : Nat) : (s.kill b).get i = if i = b then none else s.get i := rfl

def ObjRel (ρ : Loc.Map) : AObj → Loc → World → Prop
  | .blk cs rw, l, w => ∃ c e fz, w.heap[l.blk]? = some (.cells c e fz) ∧ c.size = l.size ∧
      (∀ i v, cs[i]? = some v → ∃ x, c[l.base + i]? = some x ∧ RV ρ v x) ∧ (rw = true → ∀ j, j < c.size → ¬ (fz.1 ≤ j ∧ j < fz.2))
  | .siter s pos, l, w => w.heap[l.blk]? = some (.stringIter ⟨s.toArray⟩ pos) ∧ l.base = 0
  | .map es clock, l, w => ∃ ents : Array MapEntry, w.heap[l.blk]? = some (.map ents clock) ∧ ents.size = es.length ∧
      ∀ (i : Nat) (k v : AV) (b : Nat), es[i]? = some (k, v, b) → ∃ e : MapEntry, ents[i]? = some e ∧ RV ρ k e.key ∧ RV ρ v e.val ∧ e.born = b
  | .miter m since seen last, l, w => l.base = 0 ∧ ((m = none ∧ w.heap[l.blk]? = some (.mapIter none since seen.toArray last)) ∨
      ∃ b lm, m = some b ∧ ρ[b]? = some lm ∧ w.heap[l.blk]? = some (.mapIter (some lm.blk) since seen.toArray last))

structure Rel0 (ρ : Loc.Map) (st : St) (w : World) : Prop where
  len : ρ.length = st.n
  obj : ∀ b o, st.get b = some o → ∃ l, ρ[b]? = some l ∧ ObjRel ρ o l w
  sep : ∀ b b' l l' o o', b ≠ b' → st.get b = some o → o.rw = true → st.get b' = some o' → ρ[b]? = some l → ρ[b']? = some l' → l.blk ≠ l'.blk
/-- The tables that the program's text lays: nobody writes them. -/
structure GI (ρ : Loc.Map) (st : St) (w : World) : Prop where
  glb : ∀ (g : Nat) (cs : Array Value), globT g = some cs → ∃ e fz, w.heap[g]? = some (.cells cs e fz)
  gsep : ∀ (b : Nat) (o : AObj) (l : Loc), st.get b = some o → o.rw = true → ρ[b]? = some l → globT l.blk = none
structure Rel (ρ : Loc.Map) (st : St) (w : World) : Prop extends Rel0 ρ st w where
  gi : GI ρ st w

structure Step (n0 : Nat) (ρ : Loc.Map) (st : St) (w : World) (ρ' : Loc.Map) (st' : St) (w' : World) : Prop where
  ext : Ext n0 ρ ρ'
  os : w'.os = w.os
  tape : w'.tape = w.tape
  output : w'.output = w.output
  drawn : w.drawn ≤ w'.drawn
  size : w.heap.size ≤ w'.heap.size
  keep : ∀ k, k < w.heap.size → (∀ b o l, st.get b = some o → o.rw = true → ρ[b]? = some l → l.blk ≠ k) → w'.heap[k]? = w.heap[k]?
  own : ∀ b o l, st'.get b = some o → o.rw = true → ρ'[b]? = some l → l.blk < w.heap.size → ∃ b0 o0 l0, st.get b0 = some o0 ∧ o0.rw = true ∧ ρ[b0]? = some l0 ∧ l0.blk = l.blk

theorem Step.refl (n0 : Nat) (ρ : Loc.Map) (st : St) (w : World) : Step n0 ρ st w ρ st w :=
  ⟨.refl _ _, rfl, rfl, rfl, Nat.le_refl _, Nat.le_refl _, fun _ _ _ => rfl, fun b o l h1 h2 h3 _ => ⟨b, o, l, h1, h2, h3, rfl⟩⟩

theorem Step.trans {n0 : Nat} {ρ ρ₁ ρ₂ : Loc.Map} {st st₁ st₂ : St} {w w₁ w₂ : World} (h : Step n0 ρ st w ρ₁ st₁ w₁) (k : Step n0 ρ₁ st₁ w₁ ρ₂ st₂ w₂) : Step n0 ρ st w ρ₂ st₂ w₂ where
  ext := h.ext.trans k.ext
  os := k.os.trans h.os
  tape := k.tape.trans h.tape
  output := k.output.trans h.output
  drawn := Nat.le_trans h.drawn k.drawn
  size := Nat.le_trans h.size k.size
  keep := fun i hi hno => by
    rw [k.keep i (Nat.lt_of_lt_of_le hi h.size) fun b o l hb ho hl e => ?_, h.keep i hi hno]
    obtain ⟨b0, o0, l0, h1, h2, h3, h4⟩ := h.own b o l hb ho hl (by omega)
    exact hno b0 o0 l0 h1 h2 h3 (by omega)
  own := fun b o l hb ho hl hlt => by
    obtain ⟨b0, o0, l0, h1, h2, h3, h4⟩ := k.own b o l hb ho hl (Nat.lt_of_lt_of_le hlt h.size)
    obtain ⟨b1, o1, l1, g1, g2, g3, g4⟩ := h.own b0 o0 l0 h1 h2 h3 (by omega)
    exact ⟨b1, o1, l1, g1, g2, g3, by omega⟩

theorem GI.next {n0 : Nat} {ρ ρ' : Loc.Map} {st st' : St} {w w' : World} (h : GI ρ st w) (s : Step n0 ρ st w ρ' st' w') : GI ρ' st' w' where
  glb := fun g cs hg => by
    obtain ⟨e, fz, hh⟩ := h.glb g cs hg
    refine ⟨e, fz, ?_⟩
    rw [s.keep g (Array.getElem?_eq_some_iff.1 hh).1 fun b o l hb ho hl e => ?_, hh]
    have := h.gsep b o l hb ho hl
    rw [e, hg] at this; cases this
  gsep := fun b o l hb ho hl => by
    cases hg : globT l.blk with
    | none => rfl
    | some cs =>
      obtain ⟨e, fz, hh⟩ := h.glb _ cs hg
      obtain ⟨b0, o0, l0, h1, h2, h3, h4⟩ := s.own b o l hb ho hl (Array.getElem?_eq_some_iff.1 hh).1
      have := h.gsep b0 o0 l0 h1 h2 h3
      rw [h4, hg] at this; cases this
theorem gi2 {n0 : Nat} {ρ ρ' : Loc.Map} {st st' : St} {w w' : World} (h : Rel ρ st w) (k : Rel0 ρ' st' w' ∧ Step n0 ρ st w ρ' st' w') : Rel ρ' st' w' ∧ Step n0 ρ st w ρ' st' w' := ⟨⟨k.1, h.gi.next k.2⟩, k.2⟩
theorem gi3 {n0 : Nat} {ρ ρ' : Loc.Map} {st st' : St} {w w' : World} {X : Prop} (h : Rel ρ st w) (k : Rel0 ρ' st' w' ∧ Step n0 ρ st w ρ' st' w' ∧ X) : Rel ρ' st' w' ∧ Step n0 ρ st w ρ' st' w' ∧ X := ⟨⟨k.1, h.gi.next k.2.1⟩, k.2⟩

theorem Step.le {n0 n1 : Nat} {ρ ρ₁ : Loc.Map} {st st₁ : St} {w w₁ : World} (h : Step n0 ρ st w ρ₁ st₁ w₁) (hn : n1 ≤ n0) : Step n1 ρ st w ρ₁ st₁ w₁ :=
  { h with ext := h.ext.le hn }

/-- With nothing to write to, nothing that was there has turned. -/
theorem Step.below {n0 : Nat} {ρ ρ' : Loc.Map} {st st' : St} {w w' : World} (h : Step n0 ρ st w ρ' st' w') (hro : ∀ b o, st.get b = some o → o.rw = false) : Go.RowKit.Below w.heap.size w w' :=
  ⟨h.os, h.tape, h.output, h.size, fun k hk => h.keep k hk fun b o l hb ho _ => by rw [hro b o hb] at ho; cases ho⟩

theorem Rel0.lt {ρ : Loc.Map} {st : St} {w : World} (h : Rel0 ρ st w) {b : Nat} {o : AObj} (hb : st.get b = some o) : b < st.n := by
  obtain ⟨l, hl, _⟩ := h.obj b o hb
  have := (List.getElem?_eq_some_iff.1 hl).1
  have := h.len
  omega

theorem ObjRel.lt {ρ : Loc.Map} {o : AObj} {l : Loc} {w : World} (h : ObjRel ρ o l w) : l.blk < w.heap.size := by
  cases o with
  | blk cs rw =>
    obtain ⟨c, e, fz, hh, _⟩ := h
    exact (Array.getElem?_eq_some_iff.1 hh).1
  | siter s p => exact (Array.getElem?_eq_some_iff.1 h.1).1
  | map es c =>
    obtain ⟨ents, hh, _⟩ := h
    exact (Array.getElem?_eq_some_iff.1 hh).1
  | miter m a b c =>
    rcases h.2 with ⟨_, hh⟩ | ⟨_, _, _, _, hh⟩ <;> exact (Array.getElem?_eq_some_iff.1 hh).1

theorem ObjRel.sup {ρ ρ' : Loc.Map} (hs : Sup ρ ρ') {o : AObj} {l : Loc} {w : World} (h : ObjRel ρ o l w) : ObjRel ρ' o l w := by
  cases o with
  | blk cs rw =>
    obtain ⟨c, e, fz, hh, h0, h1, h2⟩ := h
    exact ⟨c, e, fz, hh, h0, fun i v hi => let ⟨x, hx, hr⟩ := h1 i v hi; ⟨x, hx, RV.sup hs v x hr⟩, h2⟩
  | siter s p => exact h
  | map es c =>
    obtain ⟨ents, hh, h0, h1⟩ := h
    exact ⟨ents, hh, h0, fun i k v b hi => let ⟨e, he, a, b, c⟩ := h1 i k v b hi; ⟨e, he, RV.sup hs _ _ a, RV.sup hs _ _ b, c⟩⟩
  | miter m a b c =>
    refine ⟨h.1, ?_⟩
    rcases h.2 with h | ⟨b, lm, h1, h2, h3⟩
    · exact .inl h
    · exact .inr ⟨b, lm, h1, hs _ _ h2, h3⟩

theorem ObjRel.world {ρ : Loc.Map} {o : AObj} {l : Loc} {w w' : World} (h : ObjRel ρ o l w) (hw : w'.heap[l.blk]? = w.heap[l.blk]?) : ObjRel ρ o l w' := by
  cases o with
  | blk cs rw =>
    obtain ⟨c, e, fz, hh, h1⟩ := h
    exact ⟨c, e, fz, hw.trans hh, h1⟩
  | siter s p => exact ⟨hw.trans h.1, h.2⟩
  | map es c =>
    obtain ⟨ents, hh, h1⟩ := h
    exact ⟨ents, hw.trans hh, h1⟩
  | miter m a b c =>
    refine ⟨h.1, ?_⟩
    rcases h.2 with ⟨h1, h2⟩ | ⟨b, lm, h1, h2, h3⟩
    · exact .inl ⟨h1, hw.trans h2⟩
    · exact .inr ⟨b, lm, h1, h2, hw.trans h3⟩

abbrev Fr := List (Nat × AV)
def Fr.get : Fr → Nat → AV
  | [], _ => .any
  | (k, v) :: r, t => if k = t then v else Fr.get r t
def Fr.put (fr : Fr) : Option Nat → AV → Fr
  | none, _ => fr
  | some d, v => (d, v) :: fr

def FrameRel (ρ : Loc.Map) (N : Nat) (fr : Fr) (tmps : Array Value) : Prop :=
  tmps.size = N ∧ ∀ t, RV ρ (Fr.get fr t) (tmps.getD t undef)

theorem FrameRel.sup {ρ ρ' : Loc.Map} {N : Nat} {fr : Fr} {tmps : Array Value} (h : FrameRel ρ N fr tmps) (hs : Sup ρ ρ') : FrameRel ρ' N fr tmps :=
  ⟨h.1, fun t => RV.sup hs _ _ (h.2 t)⟩

theorem FrameRel.put {ρ : Loc.Map} {N : Nat} {fr : Fr} {a : Act} (h : FrameRel ρ N fr a.tmps) {d : Option Nat} {v : AV} {c : Value} (hd : ∀ t, d = some t → t < N) (hv : RV ρ v c) :
    FrameRel ρ N (fr.put d v) (a.put d c).tmps := by
  cases d with
  | none => exact h
  | some d =>
    refine ⟨by simp [Act.put, h.1], fun t => ?_⟩
    have hd := hd d rfl
    by_cases e : d = t
    · subst e
      simp [Fr.put, Fr.get, Act.put, h.1, hd, hv]
    · have := h.2 t
      simpa [Fr.put, Fr.get, Act.put, e, Array.getElem?_setIfInBounds_ne e] using this

def AV.ofV : Value → AV
  | .bool b => .bool b
  | .int k n => .int k n
  | .string s => .str s.data.toList
  | .pointer none => .nilptr
  | .slice none 0 0 => .sl 0 0 0 0 0 true
  | .nilFunc => .nilfn
  | .map none => .nilmap
  | .nilIface => .nilif
  | v => .raw v
theorem RV.ofV (ρ : Loc.Map) (v : Value) : RV ρ (AV.ofV v) v := by
  unfold AV.ofV
  split <;> simp [RV]

def Fr.ev (fr : Fr) : Operand → AV
  | .tmp t => Fr.get fr t
  | .const v => AV.ofV v
  | .global g => .raw (.pointer (some ⟨g, 0, none⟩))
  | .func f => .fn (.func f) [] []
theorem FrameRel.ev {ρ : Loc.Map} {N : Nat} {fr : Fr} {a : Act} (h : FrameRel ρ N fr a.tmps) (x : Operand) : RV ρ (fr.ev x) (a.eval x) := by
  cases x with
  | tmp t => exact h.2 t
  | const v => exact RV.ofV _ _
  | global g => simp [Fr.ev, Act.eval, RV]
  | func f => exact ⟨[], [], rfl, rfl, rfl⟩

def Callable (P : Program) (f : FuncId) : Prop := ∃ fn, P.funcs[f]? = some fn ∧ (fn.name == "runtime.NumGoroutine") = false ∧ fn.body.isNone = false

def ASpec (P : Program) (f : FuncId) (args : List AV) (st : St) (Q : AV → St → Prop) : Prop :=
  Callable P f ∧ ∀ ρ w cargs, Rel ρ st w → RVs ρ args cargs → Calls P f ⟨cargs⟩ w fun e w' =>
    ∃ c v ρ' st', e = .returned c ∧ Q v st' ∧ RV ρ' v c ∧ Rel ρ' st' w' ∧ Step st.n ρ st w ρ' st' w'

theorem ASpec.mono {P : Program} {f : FuncId} {args : List AV} {st : St} {Q Q' : AV → St → Prop} (h : ASpec P f args st Q) (hq : ∀ v s, Q v s → Q' v s) : ASpec P f args st Q' :=
  ⟨h.1, fun ρ w cargs hr ha => (h.2 ρ w cargs hr ha).mono fun _ _ ⟨c, v, ρ', st', e, q, r⟩ => ⟨c, v, ρ', st', e, hq _ _ q, r⟩⟩

abbrev Post := Exit → Fr → St → Prop

def CPost (N n0 : Nat) (Q : Post) (ρ : Loc.Map) (st : St) (w : World) : Exit → Act → World → Prop := fun e a' w' =>
  ∃ fr' st' ρ', Q e fr' st' ∧ Rel ρ' st' w' ∧ FrameRel ρ' N fr' a'.tmps ∧ a'.defers = [] ∧ Step n0 ρ st w ρ' st' w'

def ACode (P : Program) (N n0 : Nat) (c : Code) (Q : Post) (fr : Fr) (st : St) : Prop :=
  ∀ (ρ : Loc.Map) (w : World) (a : Act), n0 ≤ ρ.length → Rel ρ st w → FrameRel ρ N fr a.tmps → a.defers = [] → c.wp P (CPost N n0 Q ρ st w) a w

def IWp (P : Program) (x : Item) (Q : Exit → Act → World → Prop) (a : Act) (w : World) : Prop :=
  ∀ (b : Frame) (k : List Item) (cs : List Frame), ∃ e a' w', Q e a' w' ∧ Arrives P (lone (b.at a (x :: k)) cs w) b k cs e a' w'

def ALp (P : Program) (N n0 : Nat) (c : Code) (Q : Post) (fr : Fr) (st : St) : Prop :=
  ∀ (ρ : Loc.Map) (w : World) (a : Act), n0 ≤ ρ.length → Rel ρ st w → FrameRel ρ N fr a.tmps → a.defers = [] → IWp P (.inLoop c) (CPost N n0 Q ρ st w) a w

inductive It where
  | code (c : Code)
  | blk (id : Nat)
  | lp (c : Code)

def AX (P : Program) (N n0 : Nat) (Q : Post) : List It → Post
  | [], e => Q e
  | .code c :: k, .normal => ACode P N n0 c (AX P N n0 Q k)
  | .lp c :: k, .normal => ALp P N n0 c (AX P N n0 Q k)
  | .blk id :: k, .exit id' => if id' = id then AX P N n0 Q k .normal else AX P N n0 Q k (.exit id')
  | .blk _ :: k, .normal => AX P N n0 Q k .normal
  | .blk _ :: k, .goto l => AX P N n0 Q k (.goto l)
  | .blk _ :: k, .ret => AX P N n0 Q k .ret
  | .blk _ :: k, .panic c => AX P N n0 Q k (.panic c)
  | .blk _ :: k, .outgrown => AX P N n0 Q k .outgrown
  | .code _ :: k, .exit i => AX P N n0 Q k (.exit i)
  | .code _ :: k, .goto l => AX P N n0 Q k (.goto l)
  | .code _ :: k, .ret => AX P N n0 Q k .ret
  | .code _ :: k, .panic c => AX P N n0 Q k (.panic c)
  | .code _ :: k, .outgrown => AX P N n0 Q k .outgrown
  | .lp _ :: k, .exit i => AX P N n0 Q k (.exit i)
  | .lp _ :: k, .goto l => AX P N n0 Q k (.goto l)
  | .lp _ :: k, .ret => AX P N n0 Q k .ret
  | .lp _ :: k, .panic c => AX P N n0 Q k (.panic c)
  | .lp _ :: k, .outgrown => AX P N n0 Q k .outgrown

section rules
variable {P : Program} {N n0 : Nat} {Q : Post} {fr : Fr} {st : St}

theorem ACode.mono {c : Code} {Q' : Post} (h : ACode P N n0 c Q fr st) (hq : ∀ e fr st, Q e fr st → Q' e fr st) : ACode P N n0 c Q' fr st :=
  fun ρ w a hn hr hf hd => wp_mono (h ρ w a hn hr hf hd) fun _ _ _ ⟨fr', st', ρ', q, r⟩ => ⟨fr', st', ρ', hq _ _ _ q, r⟩

theorem CPost.step {ρ ρ₁ : Loc.Map} {st st₁ : St} {w w₁ : World} (h : Step n0 ρ st w ρ₁ st₁ w₁) {e : Exit} {a : Act} {w' : World} (hq : CPost N n0 Q ρ₁ st₁ w₁ e a w') : CPost N n0 Q ρ st w e a w' := by
  obtain ⟨fr', st', ρ', q, r, f, d, s⟩ := hq
  exact ⟨fr', st', ρ', q, r, f, d, h.trans s⟩

theorem ACode.seq {x y : Code} {k : List It} (h : ACode P N n0 x (AX P N n0 Q (.code y :: k)) fr st) : ACode P N n0 (.seq x y) (AX P N n0 Q k) fr st := by
  intro ρ w a hn hr hf hd
  refine wp_seq (wp_mono (h ρ w a hn hr hf hd) fun e a' w' hq => ?_)
  obtain ⟨fr', st', ρ', q, r, f, d, s⟩ := hq
  cases e with
  | normal => exact wp_mono (q ρ' w' a' (s.ext.len hn) r f d) fun _ _ _ hq => CPost.step s hq
  | _ => exact ⟨fr', st', ρ', q, r, f, d, s⟩

theorem ACode.skip {k : List It} (h : AX P N n0 Q k .normal fr st) : ACode P N n0 .skip (AX P N n0 Q k) fr st :=
  fun ρ _ _ _ hr hf hd => wp_skip ⟨fr, st, ρ, h, hr, hf, hd, .refl ..⟩
theorem ACode.exit {k : List It} {id : Nat} (h : AX P N n0 Q k (.exit id) fr st) : ACode P N n0 (.exit id) (AX P N n0 Q k) fr st :=
  fun ρ _ _ _ hr hf hd => wp_exit ⟨fr, st, ρ, h, hr, hf, hd, .refl ..⟩
theorem ACode.ret {k : List It} (h : AX P N n0 Q k .ret fr st) : ACode P N n0 .ret (AX P N n0 Q k) fr st :=
  fun ρ _ _ _ hr hf hd => wp_ret ⟨fr, st, ρ, h, hr, hf, hd, .refl ..⟩
theorem ACode.cond {k : List It} {c : Operand} {x y : Code} {t : Bool} (hc : fr.ev c = .bool t) (ht : t = true → ACode P N n0 x (AX P N n0 Q k) fr st) (hf : t = false → ACode P N n0 y (AX P N n0 Q k) fr st) :
    ACode P N n0 (.cond c x y) (AX P N n0 Q k) fr st := by
  intro ρ w a hn hr hfr hd
  have he := hfr.ev c
  rw [hc] at he
  exact wp_cond_split (t := t) he (fun e => ht e ρ w a hn hr hfr hd) (fun e => hf e ρ w a hn hr hfr hd)
theorem ACode.block {k : List It} {id : Nat} {c : Code} (h : ACode P N n0 c (AX P N n0 Q (.blk id :: k)) fr st) : ACode P N n0 (.block id c) (AX P N n0 Q k) fr st := by
  intro ρ w a hn hr hf hd
  refine wp_block (wp_mono (h ρ w a hn hr hf hd) fun e a' w' hq => ?_)
  obtain ⟨fr', st', ρ', q, r⟩ := hq
  cases e with
  | exit id' =>
    simp only [AX] at q
    simp only [Go.Exit.inBlock]
    split
    · rename_i he; rw [if_pos he] at q; exact ⟨fr', st', ρ', q, r⟩
    · rename_i he; rw [if_neg he] at q; exact ⟨fr', st', ρ', q, r⟩
  | _ => exact ⟨fr', st', ρ', q, r⟩

theorem iwp_loop {c : Code} {Q : Exit → Act → World → Prop} {a : Act} {w : World} (h : c.wp P (Exit.then (IWp P (.inLoop c) Q) Q) a w) {x : Item}
    (hx : ∀ (b : Frame) (k : List Item) (cs : List Frame), step P (lone (b.at a (x :: k)) cs w) = .next (lone (b.at a (.code c :: .inLoop c :: k)) cs w)) : IWp P x Q a w := by
  intro b k cs
  obtain ⟨e, a₁, w₁, hq, harr⟩ := h b (.inLoop c :: k) cs
  cases e with
  | normal =>
    obtain ⟨e₂, a₂, w₂, hq₂, harr₂⟩ := hq b k cs
    exact ⟨e₂, a₂, w₂, hq₂, .of_steps (.head (hx b k cs) harr) harr₂⟩
  | exit id => exact ⟨_, a₁, w₁, hq, .of_steps (.one (hx b k cs)) (.pass (x := .inLoop c) rfl (fun _ _ => .inl (by simp)) harr)⟩
  | goto l => exact ⟨_, a₁, w₁, hq, .of_steps (.one (hx b k cs)) (.pass (x := .inLoop c) rfl (fun _ _ => .inl (by simp)) harr)⟩
  | ret => exact ⟨_, a₁, w₁, hq, .of_steps (.one (hx b k cs)) (.pass (x := .inLoop c) rfl (fun _ _ => .inl (by simp)) harr)⟩
  | panic ch => exact ⟨_, a₁, w₁, hq, .of_steps (.one (hx b k cs)) (.pass (x := .inLoop c) rfl (fun _ _ => .inl (by simp)) harr)⟩
  | outgrown => exact ⟨_, a₁, w₁, hq, .of_steps (.one (hx b k cs)) (.pass (x := .inLoop c) rfl (fun _ _ => .inl (by simp)) harr)⟩

theorem loop_then {k : List It} {c : Code} (h : ACode P N n0 c (AX P N n0 Q (.lp c :: k)) fr st) {ρ : Loc.Map} {w : World} {a : Act} (hn : n0 ≤ ρ.length) (hr : Rel ρ st w) (hf : FrameRel ρ N fr a.tmps) (hd : a.defers = []) :
    c.wp P (Exit.then (IWp P (.inLoop c) (CPost N n0 (AX P N n0 Q k) ρ st w)) (CPost N n0 (AX P N n0 Q k) ρ st w)) a w := by
  refine wp_mono (h ρ w a hn hr hf hd) fun e a' w' hq => ?_
  obtain ⟨fr', st', ρ', q, r, f, d, s⟩ := hq
  cases e with
  | normal =>
    intro b k' cs
    obtain ⟨e₂, a₂, w₂, hq₂, harr₂⟩ := q ρ' w' a' (s.ext.len hn) r f d b k' cs
    exact ⟨e₂, a₂, w₂, CPost.step s hq₂, harr₂⟩
  | _ => exact ⟨fr', st', ρ', q, r, f, d, s⟩

theorem ACode.loop {k : List It} {c : Code} (h : ACode P N n0 c (AX P N n0 Q (.lp c :: k)) fr st) : ACode P N n0 (.loop c) (AX P N n0 Q k) fr st :=
  fun _ _ _ hn hr hf hd => iwp_loop (x := .code (.loop c)) (loop_then h hn hr hf hd) fun _ _ _ => step_loop
theorem ALp.round {k : List It} {c : Code} (h : ACode P N n0 c (AX P N n0 Q (.lp c :: k)) fr st) : ALp P N n0 c (AX P N n0 Q k) fr st :=
  fun _ _ _ hn hr hf hd => iwp_loop (x := .inLoop c) (loop_then h hn hr hf hd) fun _ _ _ => step_inLoop

/-- The state that stands for a weaker one. -/
def Le (N n0 : Nat) (fr : Fr) (st : St) (fr' : Fr) (st' : St) : Prop :=
  ∀ (ρ : Loc.Map) (w : World) (tmps : Array Value), n0 ≤ ρ.length → Rel ρ st w → FrameRel ρ N fr tmps → ∃ ρ', Rel ρ' st' w ∧ FrameRel ρ' N fr' tmps ∧ Step n0 ρ st w ρ' st' w

theorem ACode.weaken {c : Code} {fr' : Fr} {st' : St} (hl : Le N n0 fr st fr' st') (h : ACode P N n0 c Q fr' st') : ACode P N n0 c Q fr st := by
  intro ρ w a hn hr hf hd
  obtain ⟨ρ', hr', hf', hs⟩ := hl ρ w a.tmps hn hr hf
  exact wp_mono (h ρ' w a (hs.ext.len hn) hr' hf' hd) fun _ _ _ hq => CPost.step hs hq
theorem ALp.weaken {c : Code} {fr' : Fr} {st' : St} (hl : Le N n0 fr st fr' st') (h : ALp P N n0 c Q fr' st') : ALp P N n0 c Q fr st := by
  intro ρ w a hn hr hf hd
  obtain ⟨ρ', hr', hf', hs⟩ := hl ρ w a.tmps hn hr hf
  intro b k cs
  obtain ⟨e, a₂, w₂, hq, harr⟩ := h ρ' w a (hs.ext.len hn) hr' hf' hd b k cs
  exact ⟨e, a₂, w₂, CPost.step hs hq, harr⟩
end rules
end Gab
