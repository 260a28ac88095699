/- Joined out of Gl Core Ops Ev Eva Evb Evc Evd Evm Run Call Ax Sl by a program. -/
import Derived.Calls
import Derived.Orders
import Derived.LoopN
import Derived.TacticsIn
import Derived.OrdersIn
import Derived.RangeFuncRecord
import Derived.Laws.World
import Derived.Laws.Sem
import Derived.Laws.Cells
import Derived.Laws.Append
import Derived.Laws.AppendOwn
import Derived.Below
import Derived.IntWalk
import Derived.Tactics
import Derived.Laws.Strings
import Derived.Laws.Slices
import Derived.Laws.Closers25
import Derived.Laws.StructEq
import Derived.ChangeKeysEq
import Derived.MapKept
import Derived.Carry
import Derived.Laws.IdiomRangeMap
import Derived.WideKeyRuns
import Derived.Laws.Externs
section
namespace Gab
open Go
def globT : Nat → Option (Array Value)
  | _ => none
end Gab
end
section
namespace Gab
open Go
structure Loc where
  blk : Nat
  base : Nat
  size : Nat
abbrev Loc.Map := List Loc
inductive AV where
  | any
  | bool (b : Bool)
  | int (k : IntKind) (n : Int)
  | str (l : List UInt8)
  | ptr (b off : Nat)
  | nilptr
  | sl (sz b off len mc : Nat) (nl : Bool)
  | fn (f : Fn) (first cap : List AV)
  | nilfn
  | map (b : Nat)
  | nilmap
  | iface (t : TypeId) (v : AV)
  | nilif
  | agg (l : List AV)
  | tup (l : List AV)
  | raw (v : Value)
deriving Inhabited
mutual
def RV (ρ : Loc.Map) : AV → Value → Prop
  | .any, _ => True
  | .bool b, c => c = .bool b
  | .int k n, c => c = .int k n
  | .str l, c => c = .string ⟨l.toArray⟩
  | .ptr b off, c => ∃ l, ρ[b]? = some l ∧ c = .pointer (some ⟨l.blk, l.base + off, none⟩)
  | .nilptr, c => c = .pointer none
  | .sl sz b off len mc nl, c => ∃ a cap, c = .slice a len cap ∧ len ≤ cap ∧ mc ≤ cap ∧ (nl = true → a = none ∧ cap = 0) ∧
      (nl = false → ∃ ad l, a = some ad ∧ ρ[b]? = some l ∧ (cap = 0 ∨ (ad = ⟨l.blk, l.base + off, none⟩ ∧ l.base + off + cap * sz ≤ l.size)))
  | .fn f first cap, c => ∃ cf cc, c = .func f ⟨cf⟩ ⟨cc⟩ ∧ RVs ρ first cf ∧ RVs ρ cap cc
  | .nilfn, c => c = .nilFunc
  | .map b, c => ∃ l, ρ[b]? = some l ∧ c = .map (some l.blk)
  | .nilmap, c => c = .map none
  | .iface t v, c => ∃ x, c = .iface t x ∧ RV ρ v x
  | .nilif, c => c = .nilIface
  | .agg l, c => ∃ cs, c = .agg ⟨cs⟩ ∧ RVs ρ l cs
  | .tup l, c => ∃ cs, c = .tuple ⟨cs⟩ ∧ RVs ρ l cs
  | .raw v, c => c = v
def RVs (ρ : Loc.Map) : List AV → List Value → Prop
  | [], cs => cs = []
  | a :: l, cs => ∃ c r, cs = c :: r ∧ RV ρ a c ∧ RVs ρ l r
end
def Ext (n : Nat) (ρ ρ' : Loc.Map) : Prop := ∀ b, b < n → ρ'[b]? = ρ[b]?
theorem Ext.refl (n : Nat) (ρ : Loc.Map) : Ext n ρ ρ := fun _ _ => rfl
theorem Ext.trans {n : Nat} {a b c : Loc.Map} (h : Ext n a b) (k : Ext n b c) : Ext n a c := fun i hi => (k i hi).trans (h i hi)
theorem Ext.le {n m : Nat} {a b : Loc.Map} (h : Ext n a b) (hm : m ≤ n) : Ext m a b := fun i hi => h i (by omega)
def Sup (ρ ρ' : Loc.Map) : Prop := ∀ (b : Nat) (l : Loc), ρ[b]? = some l → ρ'[b]? = some l
theorem Sup.refl (ρ : Loc.Map) : Sup ρ ρ := fun _ _ h => h
theorem Sup.trans {a b c : Loc.Map} (h : Sup a b) (k : Sup b c) : Sup a c := fun i l hi => k i l (h i l hi)
theorem Ext.sup {ρ ρ' : Loc.Map} (h : Ext ρ.length ρ ρ') : Sup ρ ρ' := fun b l hb => by
  rw [h b (List.getElem?_eq_some_iff.1 hb).1]; exact hb
theorem Ext.len {n : Nat} {ρ ρ' : Loc.Map} (h : Ext n ρ ρ') (hn : n ≤ ρ.length) : n ≤ ρ'.length := by
  rcases Nat.eq_zero_or_pos n with h0 | h0
  · omega
  · have h1 := h (n - 1) (by omega)
    have h2 : ρ[n - 1]? = some (ρ[n - 1]'(by omega)) := List.getElem?_eq_getElem (by omega)
    have := (List.getElem?_eq_some_iff.1 (h1.trans h2)).1
    omega
theorem Sup.append (ρ : Loc.Map) (l : Loc.Map) : Sup ρ (ρ ++ l) := fun b x hb => by
  rw [List.getElem?_append_left (List.getElem?_eq_some_iff.1 hb).1]; exact hb
theorem Ext.append (ρ : Loc.Map) (l : Loc.Map) {n : Nat} (h : n ≤ ρ.length) : Ext n ρ (ρ ++ l) := fun b hb => by
  rw [List.getElem?_append_left (by omega)]
mutual
theorem RV.sup {ρ ρ' : Loc.Map} (h : Sup ρ ρ') : ∀ (a : AV) (c : Value), RV ρ a c → RV ρ' a c
  | .any, _, _ => trivial
  | .bool _, _, hc | .int _ _, _, hc | .str _, _, hc | .nilptr, _, hc | .nilfn, _, hc | .nilmap, _, hc | .nilif, _, hc | .raw _, _, hc => hc
  | .ptr b off, _, hc => by
    obtain ⟨l, hl, e⟩ := hc
    exact ⟨l, h _ _ hl, e⟩
  | .sl sz b off len mc nl, _, hc => by
    obtain ⟨a, cap, e, h1, h2, h3, h4⟩ := hc
    refine ⟨a, cap, e, h1, h2, h3, fun hn => ?_⟩
    obtain ⟨ad, l, ea, hl, h5⟩ := h4 hn
    exact ⟨ad, l, ea, h _ _ hl, h5⟩
  | .fn f first cap, _, hc => by
    obtain ⟨cf, cc, e, h1, h2⟩ := hc
    exact ⟨cf, cc, e, RVs.sup h first cf h1, RVs.sup h cap cc h2⟩
  | .map b, _, hc => by
    obtain ⟨l, hl, e⟩ := hc
    exact ⟨l, h _ _ hl, e⟩
  | .iface t v, _, hc => by
    obtain ⟨x, e, hx⟩ := hc
    exact ⟨x, e, RV.sup h v x hx⟩
  | .agg l, _, hc => by
    obtain ⟨cs, e, hx⟩ := hc
    exact ⟨cs, e, RVs.sup h l cs hx⟩
  | .tup l, _, hc => by
    obtain ⟨cs, e, hx⟩ := hc
    exact ⟨cs, e, RVs.sup h l cs hx⟩
theorem RVs.sup {ρ ρ' : Loc.Map} (h : Sup ρ ρ') : ∀ (l : List AV) (cs : List Value), RVs ρ l cs → RVs ρ' l cs
  | [], _, hc => hc
  | a :: l, _, hc => by
    obtain ⟨c, r, e, h1, h2⟩ := hc
    exact ⟨c, r, e, RV.sup h a c h1, RVs.sup h l r h2⟩
end
theorem RVs.length {ρ : Loc.Map} : ∀ {l : List AV} {cs : List Value}, RVs ρ l cs → cs.length = l.length
  | [], _, h => by simp [RVs] at h; subst h; rfl
  | a :: l, _, h => by
    obtain ⟨c, r, rfl, _, h2⟩ := h
    simp [RVs.length h2]
theorem RVs.get {ρ : Loc.Map} : ∀ {l : List AV} {cs : List Value}, RVs ρ l cs → ∀ {i : Nat} {a : AV}, l[i]? = some a → ∃ c, cs[i]? = some c ∧ RV ρ a c
  | [], _, _, i, a, h => by simp at h
  | x :: l, _, h, i, a, hi => by
    obtain ⟨c, r, rfl, h1, h2⟩ := h
    cases i with
    | zero => simp at hi; subst hi; exact ⟨c, rfl, h1⟩
    | succ i => simpa using RVs.get h2 (i := i) (by simpa using hi)
theorem RVs.of {ρ : Loc.Map} : ∀ {l : List AV} {cs : List Value}, cs.length = l.length → (∀ (i : Nat) (a : AV), l[i]? = some a → ∃ c, cs[i]? = some c ∧ RV ρ a c) → RVs ρ l cs
  | [], cs, h, _ => by simpa [RVs] using List.eq_nil_of_length_eq_zero h
  | x :: l, [], h, _ => by simp at h
  | x :: l, c :: r, h, hg => by
    refine ⟨c, r, rfl, ?_, RVs.of (by simpa using h) fun i a hi => by simpa using hg (i + 1) a (by simpa using hi)⟩
    obtain ⟨c', hc, hr⟩ := hg 0 x rfl
    simp at hc; subst hc; exact hr
theorem RVs.append {ρ : Loc.Map} : ∀ {l m : List AV} {cs ds : List Value}, RVs ρ l cs → RVs ρ m ds → RVs ρ (l ++ m) (cs ++ ds)
  | [], _, _, _, h, h' => by simp [RVs] at h; subst h; simpa using h'
  | x :: l, _, _, _, h, h' => by
    obtain ⟨c, r, rfl, h1, h2⟩ := h
    exact ⟨c, r ++ _, rfl, h1, RVs.append h2 h'⟩
inductive AObj where
  | blk (cs : List AV) (rw : Bool)
  | siter (l : List UInt8) (pos : Nat)
  | map (es : List (AV × AV × Nat)) (clock : Nat)
  | miter (m : Option Nat) (since : Nat) (seen : List Nat) (last : Nat)
  | ext (k N : Nat) (fr : List (Nat × AV)) (mk : Array Value → Obj)
def AObj.rw : AObj → Bool
  | .blk _ rw => rw
  | _ => true
@[ext] structure St where
  n : Nat
  get : Nat → Option AObj
def St.push (s : St) (o : AObj) : St := ⟨s.n + 1, fun b => if b = s.n then some o else s.get b⟩
def St.pushO (s : St) (o : Option AObj) : St := ⟨s.n + 1, fun b => if b = s.n then o else s.get b⟩
def St.set (s : St) (b : Nat) (o : AObj) : St := ⟨s.n, fun i => if i = b then some o else s.get i⟩
def St.kill (s : St) (b : Nat) : St := ⟨s.n, fun i => if i = b then none else s.get i⟩
theorem St.push_n (s : St) (o : AObj) : (s.push o).n = s.n + 1 := rfl
theorem St.pushO_n (s : St) (o : Option AObj) : (s.pushO o).n = s.n + 1 := rfl
theorem St.set_n (s : St) (b : Nat) (o : AObj) : (s.set b o).n = s.n := rfl
theorem St.kill_n (s : St) (b : Nat) : (s.kill b).n = s.n := rfl
theorem St.push_get (s : St) (o : AObj) (b : Nat) : (s.push o).get b = if b = s.n then some o else s.get b := rfl
theorem St.pushO_get (s : St) (o : Option AObj) (b : Nat) : (s.pushO o).get b = if b = s.n then o else s.get b := rfl
theorem St.set_get (s : St) (o : AObj) (b i : Nat) : (s.set b o).get i = if i = b then some o else s.get i := rfl
theorem St.kill_get (s : St) (b i : Nat) : (s.kill b).get i = if i = b then none else s.get i := rfl
abbrev Fr := List (Nat × AV)
def Fr.get : Fr → Nat → AV
  | [], _ => .any
  | (k, v) :: r, t => if k = t then v else Fr.get r t
def Fr.put (fr : Fr) : Option Nat → AV → Fr
  | none, _ => fr
  | some d, v => (d, v) :: fr
def FrameRel (ρ : Loc.Map) (N : Nat) (fr : Fr) (tmps : Array Value) : Prop :=
  tmps.size = N ∧ ∀ t, RV ρ (Fr.get fr t) (tmps.getD t undef)
theorem FrameRel.sup {ρ ρ' : Loc.Map} {N : Nat} {fr : Fr} {tmps : Array Value} (h : FrameRel ρ N fr tmps) (hs : Sup ρ ρ') : FrameRel ρ' N fr tmps :=
  ⟨h.1, fun t => RV.sup hs _ _ (h.2 t)⟩
def ObjRel (ρ : Loc.Map) : AObj → Loc → World → Prop
  | .blk cs rw, l, w => ∃ c e fz, w.heap[l.blk]? = some (.cells c e fz) ∧ c.size = l.size ∧
      (∀ i v, cs[i]? = some v → ∃ x, c[l.base + i]? = some x ∧ RV ρ v x) ∧ (rw = true → ∀ j, j < c.size → ¬ (fz.1 ≤ j ∧ j < fz.2))
  | .siter s pos, l, w => w.heap[l.blk]? = some (.stringIter ⟨s.toArray⟩ pos) ∧ l.base = 0
  | .map es clock, l, w => ∃ ents : Array MapEntry, w.heap[l.blk]? = some (.map ents clock) ∧ ents.size = es.length ∧
      ∀ (i : Nat) (k v : AV) (b : Nat), es[i]? = some (k, v, b) → ∃ e : MapEntry, ents[i]? = some e ∧ RV ρ k e.key ∧ RV ρ v e.val ∧ e.born = b
  | .miter m since seen last, l, w => l.base = 0 ∧ ((m = none ∧ w.heap[l.blk]? = some (.mapIter none since seen.toArray last)) ∨
      ∃ b lm, m = some b ∧ ρ[b]? = some lm ∧ w.heap[l.blk]? = some (.mapIter (some lm.blk) since seen.toArray last))
  | .ext k N fr mk, l, w => l.blk = k ∧ ∃ tmps, w.heap[l.blk]? = some (mk tmps) ∧ FrameRel ρ N fr tmps
structure Rel0 (ρ : Loc.Map) (st : St) (w : World) : Prop where
  len : ρ.length = st.n
  obj : ∀ b o, st.get b = some o → ∃ l, ρ[b]? = some l ∧ ObjRel ρ o l w
  sep : ∀ b b' l l' o o', b ≠ b' → st.get b = some o → o.rw = true → st.get b' = some o' → ρ[b]? = some l → ρ[b']? = some l' → l.blk ≠ l'.blk
structure GI (ρ : Loc.Map) (st : St) (w : World) : Prop where
  glb : ∀ (g : Nat) (cs : Array Value), globT g = some cs → ∃ e fz, w.heap[g]? = some (.cells cs e fz)
  gsep : ∀ (b : Nat) (o : AObj) (l : Loc), st.get b = some o → o.rw = true → ρ[b]? = some l → globT l.blk = none
structure Rel (ρ : Loc.Map) (st : St) (w : World) : Prop extends Rel0 ρ st w where
  gi : GI ρ st w
structure Step (n0 : Nat) (ρ : Loc.Map) (st : St) (w : World) (ρ' : Loc.Map) (st' : St) (w' : World) : Prop where
  ext : Ext n0 ρ ρ'
  os : w'.os = w.os
  tape : w'.tape = w.tape
  output : w'.output = w.output
  drawn : w.drawn ≤ w'.drawn
  size : w.heap.size ≤ w'.heap.size
  keep : ∀ k, k < w.heap.size → (∀ b o l, st.get b = some o → o.rw = true → ρ[b]? = some l → l.blk ≠ k) → w'.heap[k]? = w.heap[k]?
  own : ∀ b o l, st'.get b = some o → o.rw = true → ρ'[b]? = some l → l.blk < w.heap.size → ∃ b0 o0 l0, st.get b0 = some o0 ∧ o0.rw = true ∧ ρ[b0]? = some l0 ∧ l0.blk = l.blk
theorem Step.refl (n0 : Nat) (ρ : Loc.Map) (st : St) (w : World) : Step n0 ρ st w ρ st w :=
  ⟨.refl _ _, rfl, rfl, rfl, Nat.le_refl _, Nat.le_refl _, fun _ _ _ => rfl, fun b o l h1 h2 h3 _ => ⟨b, o, l, h1, h2, h3, rfl⟩⟩
theorem Step.trans {n0 : Nat} {ρ ρ₁ ρ₂ : Loc.Map} {st st₁ st₂ : St} {w w₁ w₂ : World} (h : Step n0 ρ st w ρ₁ st₁ w₁) (k : Step n0 ρ₁ st₁ w₁ ρ₂ st₂ w₂) : Step n0 ρ st w ρ₂ st₂ w₂ where
  ext := h.ext.trans k.ext
  os := k.os.trans h.os
  tape := k.tape.trans h.tape
  output := k.output.trans h.output
  drawn := Nat.le_trans h.drawn k.drawn
  size := Nat.le_trans h.size k.size
  keep := fun i hi hno => by
    rw [k.keep i (Nat.lt_of_lt_of_le hi h.size) fun b o l hb ho hl e => ?_, h.keep i hi hno]
    obtain ⟨b0, o0, l0, h1, h2, h3, h4⟩ := h.own b o l hb ho hl (by omega)
    exact hno b0 o0 l0 h1 h2 h3 (by omega)
  own := fun b o l hb ho hl hlt => by
    obtain ⟨b0, o0, l0, h1, h2, h3, h4⟩ := k.own b o l hb ho hl (Nat.lt_of_lt_of_le hlt h.size)
    obtain ⟨b1, o1, l1, g1, g2, g3, g4⟩ := h.own b0 o0 l0 h1 h2 h3 (by omega)
    exact ⟨b1, o1, l1, g1, g2, g3, by omega⟩
theorem GI.next {n0 : Nat} {ρ ρ' : Loc.Map} {st st' : St} {w w' : World} (h : GI ρ st w) (s : Step n0 ρ st w ρ' st' w') : GI ρ' st' w' where
  glb := fun g cs hg => by
    obtain ⟨e, fz, hh⟩ := h.glb g cs hg
    refine ⟨e, fz, ?_⟩
    rw [s.keep g (Array.getElem?_eq_some_iff.1 hh).1 fun b o l hb ho hl e => ?_, hh]
    have := h.gsep b o l hb ho hl
    rw [e, hg] at this; cases this
  gsep := fun b o l hb ho hl => by
    cases hg : globT l.blk with
    | none => rfl
    | some cs =>
      obtain ⟨e, fz, hh⟩ := h.glb _ cs hg
      obtain ⟨b0, o0, l0, h1, h2, h3, h4⟩ := s.own b o l hb ho hl (Array.getElem?_eq_some_iff.1 hh).1
      have := h.gsep b0 o0 l0 h1 h2 h3
      rw [h4, hg] at this; cases this
theorem gi2 {n0 : Nat} {ρ ρ' : Loc.Map} {st st' : St} {w w' : World} (h : Rel ρ st w) (k : Rel0 ρ' st' w' ∧ Step n0 ρ st w ρ' st' w') : Rel ρ' st' w' ∧ Step n0 ρ st w ρ' st' w' := ⟨⟨k.1, h.gi.next k.2⟩, k.2⟩
theorem gi3 {n0 : Nat} {ρ ρ' : Loc.Map} {st st' : St} {w w' : World} {X : Prop} (h : Rel ρ st w) (k : Rel0 ρ' st' w' ∧ Step n0 ρ st w ρ' st' w' ∧ X) : Rel ρ' st' w' ∧ Step n0 ρ st w ρ' st' w' ∧ X := ⟨⟨k.1, h.gi.next k.2.1⟩, k.2⟩
theorem Step.le {n0 n1 : Nat} {ρ ρ₁ : Loc.Map} {st st₁ : St} {w w₁ : World} (h : Step n0 ρ st w ρ₁ st₁ w₁) (hn : n1 ≤ n0) : Step n1 ρ st w ρ₁ st₁ w₁ :=
  { h with ext := h.ext.le hn }
theorem Step.below {n0 : Nat} {ρ ρ' : Loc.Map} {st st' : St} {w w' : World} (h : Step n0 ρ st w ρ' st' w') (hro : ∀ b o, st.get b = some o → o.rw = false) : Go.RowKit.Below w.heap.size w w' :=
  ⟨h.os, h.tape, h.output, h.size, fun k hk => h.keep k hk fun b o l hb ho _ => by rw [hro b o hb] at ho; cases ho⟩
theorem Rel0.lt {ρ : Loc.Map} {st : St} {w : World} (h : Rel0 ρ st w) {b : Nat} {o : AObj} (hb : st.get b = some o) : b < st.n := by
  obtain ⟨l, hl, _⟩ := h.obj b o hb
  have := (List.getElem?_eq_some_iff.1 hl).1
  have := h.len
  omega
theorem ObjRel.lt {ρ : Loc.Map} {o : AObj} {l : Loc} {w : World} (h : ObjRel ρ o l w) : l.blk < w.heap.size := by
  cases o with
  | blk cs rw =>
    obtain ⟨c, e, fz, hh, _⟩ := h
    exact (Array.getElem?_eq_some_iff.1 hh).1
  | siter s p => exact (Array.getElem?_eq_some_iff.1 h.1).1
  | map es c =>
    obtain ⟨ents, hh, _⟩ := h
    exact (Array.getElem?_eq_some_iff.1 hh).1
  | miter m a b c =>
    rcases h.2 with ⟨_, hh⟩ | ⟨_, _, _, _, hh⟩ <;> exact (Array.getElem?_eq_some_iff.1 hh).1
  | ext k N fr mk =>
    obtain ⟨_, _, hh, _⟩ := h
    exact (Array.getElem?_eq_some_iff.1 hh).1
theorem ObjRel.sup {ρ ρ' : Loc.Map} (hs : Sup ρ ρ') {o : AObj} {l : Loc} {w : World} (h : ObjRel ρ o l w) : ObjRel ρ' o l w := by
  cases o with
  | blk cs rw =>
    obtain ⟨c, e, fz, hh, h0, h1, h2⟩ := h
    exact ⟨c, e, fz, hh, h0, fun i v hi => let ⟨x, hx, hr⟩ := h1 i v hi; ⟨x, hx, RV.sup hs v x hr⟩, h2⟩
  | siter s p => exact h
  | map es c =>
    obtain ⟨ents, hh, h0, h1⟩ := h
    exact ⟨ents, hh, h0, fun i k v b hi => let ⟨e, he, a, b, c⟩ := h1 i k v b hi; ⟨e, he, RV.sup hs _ _ a, RV.sup hs _ _ b, c⟩⟩
  | miter m a b c =>
    refine ⟨h.1, ?_⟩
    rcases h.2 with h | ⟨b, lm, h1, h2, h3⟩
    · exact .inl h
    · exact .inr ⟨b, lm, h1, hs _ _ h2, h3⟩
  | ext k N fr mk =>
    obtain ⟨h1, tmps, h2, h3⟩ := h
    exact ⟨h1, tmps, h2, h3.sup hs⟩
theorem ObjRel.world {ρ : Loc.Map} {o : AObj} {l : Loc} {w w' : World} (h : ObjRel ρ o l w) (hw : w'.heap[l.blk]? = w.heap[l.blk]?) : ObjRel ρ o l w' := by
  cases o with
  | blk cs rw =>
    obtain ⟨c, e, fz, hh, h1⟩ := h
    exact ⟨c, e, fz, hw.trans hh, h1⟩
  | siter s p => exact ⟨hw.trans h.1, h.2⟩
  | map es c =>
    obtain ⟨ents, hh, h1⟩ := h
    exact ⟨ents, hw.trans hh, h1⟩
  | miter m a b c =>
    refine ⟨h.1, ?_⟩
    rcases h.2 with ⟨h1, h2⟩ | ⟨b, lm, h1, h2, h3⟩
    · exact .inl ⟨h1, hw.trans h2⟩
    · exact .inr ⟨b, lm, h1, h2, hw.trans h3⟩
  | ext k N fr mk =>
    obtain ⟨h1, tmps, h2, h3⟩ := h
    exact ⟨h1, tmps, hw.trans h2, h3⟩
theorem FrameRel.put {ρ : Loc.Map} {N : Nat} {fr : Fr} {a : Act} (h : FrameRel ρ N fr a.tmps) {d : Option Nat} {v : AV} {c : Value} (hd : ∀ t, d = some t → t < N) (hv : RV ρ v c) :
    FrameRel ρ N (fr.put d v) (a.put d c).tmps := by
  cases d with
  | none => exact h
  | some d =>
    refine ⟨by simp [Act.put, h.1], fun t => ?_⟩
    have hd := hd d rfl
    by_cases e : d = t
    · subst e
      simp [Fr.put, Fr.get, Act.put, h.1, hd, hv]
    · have := h.2 t
      simpa [Fr.put, Fr.get, Act.put, e, Array.getElem?_setIfInBounds_ne e] using this
def AV.ofV : Value → AV
  | .bool b => .bool b
  | .int k n => .int k n
  | .string s => .str s.data.toList
  | .pointer none => .nilptr
  | .slice none 0 0 => .sl 0 0 0 0 0 true
  | .nilFunc => .nilfn
  | .map none => .nilmap
  | .nilIface => .nilif
  | v => .raw v
theorem RV.ofV (ρ : Loc.Map) (v : Value) : RV ρ (AV.ofV v) v := by
  unfold AV.ofV
  split <;> simp [RV]
def Fr.ev (fr : Fr) : Operand → AV
  | .tmp t => Fr.get fr t
  | .const v => AV.ofV v
  | .global g => .raw (.pointer (some ⟨g, 0, none⟩))
  | .func f => .fn (.func f) [] []
theorem FrameRel.ev {ρ : Loc.Map} {N : Nat} {fr : Fr} {a : Act} (h : FrameRel ρ N fr a.tmps) (x : Operand) : RV ρ (fr.ev x) (a.eval x) := by
  cases x with
  | tmp t => exact h.2 t
  | const v => exact RV.ofV _ _
  | global g => simp [Fr.ev, Act.eval, RV]
  | func f => exact ⟨[], [], rfl, rfl, rfl⟩
def Callable (P : Program) (f : FuncId) : Prop := ∃ fn, P.funcs[f]? = some fn ∧ (fn.name == "runtime.NumGoroutine") = false ∧ fn.body.isNone = false
def ASpec (P : Program) (f : FuncId) (args : List AV) (st : St) (Q : AV → St → Prop) : Prop :=
  Callable P f ∧ ∀ ρ w cargs, Rel ρ st w → RVs ρ args cargs → Calls P f ⟨cargs⟩ w fun e w' =>
    ∃ c v ρ' st', e = .returned c ∧ Q v st' ∧ RV ρ' v c ∧ Rel ρ' st' w' ∧ Step st.n ρ st w ρ' st' w'
theorem ASpec.mono {P : Program} {f : FuncId} {args : List AV} {st : St} {Q Q' : AV → St → Prop} (h : ASpec P f args st Q) (hq : ∀ v s, Q v s → Q' v s) : ASpec P f args st Q' :=
  ⟨h.1, fun ρ w cargs hr ha => (h.2 ρ w cargs hr ha).mono fun _ _ ⟨c, v, ρ', st', e, q, r⟩ => ⟨c, v, ρ', st', e, hq _ _ q, r⟩⟩
abbrev Post := Exit → Fr → St → Prop
def FW (ro : Option Nat) : Fence := { Fence.wide with round := ro }
def nr : Code → Bool
  | .seq a b => nr a || nr b
  | .cond _ a b => nr a || nr b
  | .block _ b => nr b
  | .loop b => nr b
  | .rangeFunc .. => true
  | .scope _ => true
  | _ => false
def Dk (m : Nat) (ρ : Loc.Map) (st : St) (w : World) (ds : List Deferred) : Prop :=
  m ≤ w.heap.size ∧ ∃ Ds : List Nat, Ds.Nodup ∧ ds = Ds.map (fun D => { target := .collected D, args := #[] }) ∧
    ∀ D ∈ Ds, m ≤ D ∧ w.heap[D]? = some (.deferred (some [])) ∧ ∀ b o l, st.get b = some o → o.rw = true → ρ[b]? = some l → l.blk ≠ D
theorem Dk.nil (ρ : Loc.Map) (st : St) (w : World) : Dk w.heap.size ρ st w [] := ⟨Nat.le_refl _, [], List.nodup_nil, rfl, fun _ h => by cases h⟩
theorem Dk.next {m n0 : Nat} {ρ ρ' : Loc.Map} {st st' : St} {w w' : World} {ds : List Deferred} (h : Dk m ρ st w ds) (s : Step n0 ρ st w ρ' st' w') : Dk m ρ' st' w' ds := by
  obtain ⟨h0, Ds, h1, h2, h3⟩ := h
  refine ⟨Nat.le_trans h0 s.size, Ds, h1, h2, fun D hD => ?_⟩
  obtain ⟨g1, g2, g3⟩ := h3 D hD
  have hlt := (Array.getElem?_eq_some_iff.1 g2).1
  refine ⟨g1, (s.keep D hlt g3).trans g2, fun b o l hb ho hl e => ?_⟩
  obtain ⟨b0, o0, l0, k1, k2, k3, k4⟩ := s.own b o l hb ho hl (by omega)
  exact g3 b0 o0 l0 k1 k2 k3 (by omega)
def CPost (N n0 m : Nat) (Q : Post) (ρ : Loc.Map) (st : St) (w : World) : Exit → Act → World → Prop := fun e a' w' =>
  ∃ fr' st' ρ', Q e fr' st' ∧ Rel ρ' st' w' ∧ FrameRel ρ' N fr' a'.tmps ∧ Dk m ρ' st' w' a'.defers ∧ Step n0 ρ st w ρ' st' w'
def ACode (P : Program) (N n0 : Nat) (c : Code) (Q : Post) (fr : Fr) (st : St) : Prop :=
  ∀ (ro : Option Nat) (m : Nat) (_ : nr c = true → ro = none) (ρ : Loc.Map) (w : World) (a : Act), n0 ≤ ρ.length → Rel ρ st w → FrameRel ρ N fr a.tmps → Dk m ρ st w a.defers → c.wpIn (FW ro) 0 P (CPost N n0 m Q ρ st w) a w
def IWp (ro : Option Nat) (P : Program) (x : Item) (Q : Exit → Act → World → Prop) (a : Act) (w : World) : Prop :=
  ∀ (b : Frame) (k : List Item) (cs : List Frame), b.roundOf = ro → ∃ e a' w', Q e a' w' ∧ ArrivesIn (Machine.fenced P (FW ro)) P (lone (b.atR a (x :: k)) cs w) b k cs e a' w'
theorem roomW {ro : Option Nat} (n : Nat) : (FW ro).room n := fun _ h => by simp [FW, Fence.wide] at h
theorem fencedW {ro : Option Nat} (P : Program) (m : Machine) : m.fenced P (FW ro) := fenced_wide P m
def ALp (P : Program) (N n0 : Nat) (c : Code) (Q : Post) (fr : Fr) (st : St) : Prop :=
  ∀ (ro : Option Nat) (m : Nat) (_ : nr c = true → ro = none) (ρ : Loc.Map) (w : World) (a : Act), n0 ≤ ρ.length → Rel ρ st w → FrameRel ρ N fr a.tmps → Dk m ρ st w a.defers → IWp ro P (.inLoop c) (CPost N n0 m Q ρ st w) a w
inductive It where
  | code (c : Code)
  | blk (id : Nat)
  | lp (c : Code)
def AX (P : Program) (N n0 : Nat) (Q : Post) : List It → Post
  | [], e => Q e
  | .code c :: k, .normal => ACode P N n0 c (AX P N n0 Q k)
  | .lp c :: k, .normal => ALp P N n0 c (AX P N n0 Q k)
  | .blk id :: k, .exit id' => if id' = id then AX P N n0 Q k .normal else AX P N n0 Q k (.exit id')
  | .blk _ :: k, .normal => AX P N n0 Q k .normal
  | .blk _ :: k, .goto l => AX P N n0 Q k (.goto l)
  | .blk _ :: k, .ret => AX P N n0 Q k .ret
  | .blk _ :: k, .panic c => AX P N n0 Q k (.panic c)
  | .blk _ :: k, .outgrown => AX P N n0 Q k .outgrown
  | .code _ :: k, .exit i => AX P N n0 Q k (.exit i)
  | .code _ :: k, .goto l => AX P N n0 Q k (.goto l)
  | .code _ :: k, .ret => AX P N n0 Q k .ret
  | .code _ :: k, .panic c => AX P N n0 Q k (.panic c)
  | .code _ :: k, .outgrown => AX P N n0 Q k .outgrown
  | .lp _ :: k, .exit i => AX P N n0 Q k (.exit i)
  | .lp _ :: k, .goto l => AX P N n0 Q k (.goto l)
  | .lp _ :: k, .ret => AX P N n0 Q k .ret
  | .lp _ :: k, .panic c => AX P N n0 Q k (.panic c)
  | .lp _ :: k, .outgrown => AX P N n0 Q k .outgrown
section rules
variable {P : Program} {N n0 : Nat} {Q : Post} {fr : Fr} {st : St}
theorem ACode.mono {c : Code} {Q' : Post} (h : ACode P N n0 c Q fr st) (hq : ∀ e fr st, Q e fr st → Q' e fr st) : ACode P N n0 c Q' fr st :=
  fun ro m hro ρ w a hn hr hf hd => wpIn_mono (h ro m hro ρ w a hn hr hf hd) fun _ _ _ ⟨fr', st', ρ', q, r⟩ => ⟨fr', st', ρ', hq _ _ _ q, r⟩
theorem CPost.step {m : Nat} {ρ ρ₁ : Loc.Map} {st st₁ : St} {w w₁ : World} (h : Step n0 ρ st w ρ₁ st₁ w₁) {e : Exit} {a : Act} {w' : World} (hq : CPost N n0 m Q ρ₁ st₁ w₁ e a w') : CPost N n0 m Q ρ st w e a w' := by
  obtain ⟨fr', st', ρ', q, r, f, d, s⟩ := hq
  exact ⟨fr', st', ρ', q, r, f, d, h.trans s⟩
theorem ACode.seq {x y : Code} {k : List It} (h : ACode P N n0 x (AX P N n0 Q (.code y :: k)) fr st) : ACode P N n0 (.seq x y) (AX P N n0 Q k) fr st := by
  intro ro m hro ρ w a hn hr hf hd
  refine wpIn_seq (wpIn_mono (h ro m (fun e => hro (by simp [nr, e])) ρ w a hn hr hf hd) fun e a' w' hq => ?_)
  obtain ⟨fr', st', ρ', q, r, f, d, s⟩ := hq
  cases e with
  | normal => exact wpIn_mono (q ro m (fun e => hro (by simp [nr, e])) ρ' w' a' (s.ext.len hn) r f d) fun _ _ _ hq => CPost.step s hq
  | _ => exact ⟨fr', st', ρ', q, r, f, d, s⟩
theorem ACode.skip {k : List It} (h : AX P N n0 Q k .normal fr st) : ACode P N n0 .skip (AX P N n0 Q k) fr st :=
  fun _ _ _ ρ _ _ _ hr hf hd => wpIn_skip ⟨fr, st, ρ, h, hr, hf, hd, .refl ..⟩
theorem ACode.exit {k : List It} {id : Nat} (h : AX P N n0 Q k (.exit id) fr st) : ACode P N n0 (.exit id) (AX P N n0 Q k) fr st :=
  fun _ _ _ ρ _ _ _ hr hf hd => wpIn_exit ⟨fr, st, ρ, h, hr, hf, hd, .refl ..⟩
theorem ACode.ret {k : List It} (h : AX P N n0 Q k .ret fr st) : ACode P N n0 .ret (AX P N n0 Q k) fr st :=
  fun _ _ _ ρ _ _ _ hr hf hd => wpIn_ret ⟨fr, st, ρ, h, hr, hf, hd, .refl ..⟩
theorem ACode.cond {k : List It} {c : Operand} {x y : Code} {t : Bool} (hc : fr.ev c = .bool t) (ht : t = true → ACode P N n0 x (AX P N n0 Q k) fr st) (hf : t = false → ACode P N n0 y (AX P N n0 Q k) fr st) :
    ACode P N n0 (.cond c x y) (AX P N n0 Q k) fr st := by
  intro ro m hro ρ w a hn hr hfr hd
  have he := hfr.ev c
  rw [hc] at he
  exact wpIn_cond_split (t := t) he (fun e => ht e ro m (fun e => hro (by simp [nr, e])) ρ w a hn hr hfr hd) (fun e => hf e ro m (fun e => hro (by simp [nr, e])) ρ w a hn hr hfr hd)
theorem ACode.block {k : List It} {id : Nat} {c : Code} (h : ACode P N n0 c (AX P N n0 Q (.blk id :: k)) fr st) : ACode P N n0 (.block id c) (AX P N n0 Q k) fr st := by
  intro ro m hro ρ w a hn hr hf hd
  refine wpIn_block (wpIn_mono (h ro m (fun e => hro (by simp [nr, e])) ρ w a hn hr hf hd) fun e a' w' hq => ?_)
  obtain ⟨fr', st', ρ', q, r⟩ := hq
  cases e with
  | exit id' =>
    simp only [AX] at q
    simp only [Go.Exit.inBlock]
    split
    · rename_i he; rw [if_pos he] at q; exact ⟨fr', st', ρ', q, r⟩
    · rename_i he; rw [if_neg he] at q; exact ⟨fr', st', ρ', q, r⟩
  | _ => exact ⟨fr', st', ρ', q, r⟩
theorem iwp_loop {ro : Option Nat} {c : Code} {Q : Exit → Act → World → Prop} {a : Act} {w : World} (h : c.wpIn (FW ro) 0 P (Exit.then (IWp ro P (.inLoop c) Q) Q) a w) {x : Item}
    (hx : ∀ (b : Frame) (k : List Item) (cs : List Frame), step P (lone (b.atR a (x :: k)) cs w) = .next (lone (b.atR a (.code c :: .inLoop c :: k)) cs w)) : IWp ro P x Q a w := by
  intro b k cs hb
  obtain ⟨e, a₁, w₁, hq, harr⟩ := h b (.inLoop c :: k) cs hb trivial (roomW _)
  have h1 : StepsIn (Machine.fenced P (FW ro)) P (lone (b.atR a (x :: k)) cs w) (lone (b.atR a (.code c :: .inLoop c :: k)) cs w) := .one (fencedW _ _) (hx b k cs)
  cases e with
  | normal =>
    obtain ⟨e₂, a₂, w₂, hq₂, harr₂⟩ := hq b k cs hb
    exact ⟨e₂, a₂, w₂, hq₂, .of_steps (h1.trans harr) harr₂⟩
  | exit id => exact ⟨_, a₁, w₁, hq, .of_steps h1 (.pass (x := .inLoop c) rfl (fun _ _ => .inl (by simp)) harr)⟩
  | goto l => exact ⟨_, a₁, w₁, hq, .of_steps h1 (.pass (x := .inLoop c) rfl (fun _ _ => .inl (by simp)) harr)⟩
  | ret => exact ⟨_, a₁, w₁, hq, .of_steps h1 (.pass (x := .inLoop c) rfl (fun _ _ => .inl (by simp)) harr)⟩
  | panic ch => exact ⟨_, a₁, w₁, hq, .of_steps h1 (.pass (x := .inLoop c) rfl (fun _ _ => .inl (by simp)) harr)⟩
  | outgrown => exact ⟨_, a₁, w₁, hq, .of_steps h1 (.pass (x := .inLoop c) rfl (fun _ _ => .inl (by simp)) harr)⟩
theorem loop_then {k : List It} {c : Code} (h : ACode P N n0 c (AX P N n0 Q (.lp c :: k)) fr st) {ro : Option Nat} {m : Nat} (hro : nr c = true → ro = none) {ρ : Loc.Map} {w : World} {a : Act} (hn : n0 ≤ ρ.length) (hr : Rel ρ st w) (hf : FrameRel ρ N fr a.tmps) (hd : Dk m ρ st w a.defers) :
    c.wpIn (FW ro) 0 P (Exit.then (IWp ro P (.inLoop c) (CPost N n0 m (AX P N n0 Q k) ρ st w)) (CPost N n0 m (AX P N n0 Q k) ρ st w)) a w := by
  refine wpIn_mono (h ro m hro ρ w a hn hr hf hd) fun e a' w' hq => ?_
  obtain ⟨fr', st', ρ', q, r, f, d, s⟩ := hq
  cases e with
  | normal =>
    intro b k' cs hb
    obtain ⟨e₂, a₂, w₂, hq₂, harr₂⟩ := q ro m hro ρ' w' a' (s.ext.len hn) r f d b k' cs hb
    exact ⟨e₂, a₂, w₂, CPost.step s hq₂, harr₂⟩
  | _ => exact ⟨fr', st', ρ', q, r, f, d, s⟩
theorem ACode.loop {k : List It} {c : Code} (h : ACode P N n0 c (AX P N n0 Q (.lp c :: k)) fr st) : ACode P N n0 (.loop c) (AX P N n0 Q k) fr st :=
  fun _ _ hro _ _ _ hn hr hf hd => let g := iwp_loop (x := .code (.loop c)) (loop_then h hro hn hr hf hd) fun _ _ _ => stepR_loop; fun b k cs hb _ _ => g b k cs hb
theorem ALp.round {k : List It} {c : Code} (h : ACode P N n0 c (AX P N n0 Q (.lp c :: k)) fr st) : ALp P N n0 c (AX P N n0 Q k) fr st :=
  fun _ _ hro _ _ _ hn hr hf hd => iwp_loop (x := .inLoop c) (loop_then h hro hn hr hf hd) fun _ _ _ => stepR_inLoop
def Le (N n0 : Nat) (fr : Fr) (st : St) (fr' : Fr) (st' : St) : Prop :=
  ∀ (ρ : Loc.Map) (w : World) (tmps : Array Value), n0 ≤ ρ.length → Rel ρ st w → FrameRel ρ N fr tmps → ∃ ρ', Rel ρ' st' w ∧ FrameRel ρ' N fr' tmps ∧ Step n0 ρ st w ρ' st' w
theorem ACode.weaken {c : Code} {fr' : Fr} {st' : St} (hl : Le N n0 fr st fr' st') (h : ACode P N n0 c Q fr' st') : ACode P N n0 c Q fr st := by
  intro ro m hro ρ w a hn hr hf hd
  obtain ⟨ρ', hr', hf', hs⟩ := hl ρ w a.tmps hn hr hf
  exact wpIn_mono (h ro m hro ρ' w a (hs.ext.len hn) hr' hf' (hd.next hs)) fun _ _ _ hq => CPost.step hs hq
theorem ALp.weaken {c : Code} {fr' : Fr} {st' : St} (hl : Le N n0 fr st fr' st') (h : ALp P N n0 c Q fr' st') : ALp P N n0 c Q fr st := by
  intro ro m hro ρ w a hn hr hf hd
  obtain ⟨ρ', hr', hf', hs⟩ := hl ρ w a.tmps hn hr hf
  intro b k cs hb
  obtain ⟨e, a₂, w₂, hq, harr⟩ := h ro m hro ρ' w a (hs.ext.len hn) hr' hf' (hd.next hs) b k cs hb
  exact ⟨e, a₂, w₂, CPost.step hs hq, harr⟩
end rules
end Gab
end
section
namespace Gab
open Go
inductive TK where
  | int (k : IntKind) | bool | str
  | sl (e : TypeId) | ptr (e : TypeId)
  | struct (fs : List (Nat × TypeId))
  | arr (n : Nat) (e : TypeId)
  | map (k e : TypeId)
  | iface | fn | tup | other
def TK.agg : TK → Bool
  | .struct _ | .arr _ _ => true
  | _ => false
structure TI where
  k : TK
  size : Nat
  bytes : Nat
  zero : Option (List AV)
def kd : TypeDesc → TK
  | .int k => .int k
  | .bool => .bool
  | .string => .str
  | .slice e => .sl e
  | .pointer e => .ptr e
  | .struct fs => .struct (fs.toList.map fun f => (f.offset, f.type))
  | .array n e => .arr n e
  | .map k e => .map k e
  | .interface _ => .iface
  | .func _ _ _ => .fn
  | .tuple _ => .tup
  | _ => .other
def tinfo (P : Program) (t : TypeId) : Option TI :=
  (P.info? t).bind fun i => (P.underlying t).bind fun d => some ⟨kd d, i.size, i.bytes, i.zero.map fun z => z.cells.toList.map AV.ofV⟩
theorem tinfo_spec {P : Program} {t : TypeId} {ti : TI} (h : tinfo P t = some ti) :
    ∃ i d, P.info? t = some i ∧ P.underlying t = some d ∧ kd d = ti.k ∧ i.size = ti.size ∧ i.bytes = ti.bytes ∧ (i.zero.map fun z => z.cells.toList.map AV.ofV) = ti.zero := by
  unfold tinfo at h
  cases hi : P.info? t with
  | none => simp [hi] at h
  | some i =>
    cases hd : P.underlying t with
    | none => simp [hi, hd] at h
    | some d =>
      simp [hi, hd] at h
      subst h
      exact ⟨i, d, rfl, rfl, rfl, rfl, rfl, rfl⟩
theorem kd_sl {d : TypeDesc} {e : TypeId} (h : kd d = .sl e) : d = .slice e := by cases d <;> simp_all [kd]
theorem kd_ptr {d : TypeDesc} {e : TypeId} (h : kd d = .ptr e) : d = .pointer e := by cases d <;> simp_all [kd]
theorem kd_str {d : TypeDesc} (h : kd d = .str) : d = .string := by cases d <;> simp_all [kd]
theorem kd_bool {d : TypeDesc} (h : kd d = .bool) : d = .bool := by cases d <;> simp_all [kd]
theorem kd_int {d : TypeDesc} {k : IntKind} (h : kd d = .int k) : d = .int k := by cases d <;> simp_all [kd]
theorem kd_arr {d : TypeDesc} {n e : Nat} (h : kd d = .arr n e) : d = .array n e := by cases d <;> simp_all [kd]
theorem kd_struct {d : TypeDesc} {l : List (Nat × TypeId)} (h : kd d = .struct l) : ∃ fs, d = .struct fs ∧ fs.toList.map (fun f => (f.offset, f.type)) = l := by
  cases d <;> simp_all [kd]
theorem kd_agg (d : TypeDesc) : (kd d).agg = (match d with | .struct _ | .array _ _ => true | _ => false) := by cases d <;> rfl
theorem run_isAgg {P : Program} {t : TypeId} {ti : TI} (h : tinfo P t = some ti) (w : World) : (isAgg t).run P w = .ok ti.k.agg w := by
  obtain ⟨i, d, _, hd, hk, _⟩ := tinfo_spec h
  rw [← hk, kd_agg]
  cases d <;> simp [isAgg, run_underlying hd]
theorem run_sizeOf {P : Program} {t : TypeId} {ti : TI} (h : tinfo P t = some ti) (w : World) : (Go.sizeOf t).run P w = Result.ok ti.size w := by
  obtain ⟨i, d, hi, _, _, hs, _⟩ := tinfo_spec h
  simp [Go.sizeOf, typeInfo, hi, hs]
theorem run_zeroValue {P : Program} {t : TypeId} {ti : TI} {z : List AV} (h : tinfo P t = some ti) (hz : ti.zero = some z) (w : World) (ρ : Loc.Map) :
    ∃ v, (zeroValue t).run P w = .ok v w ∧ RVs ρ z v.cells.toList := by
  obtain ⟨i, d, hi, _, _, _, _, hz'⟩ := tinfo_spec h
  rw [hz] at hz'
  cases hv : i.zero with
  | none => simp [hv] at hz'
  | some v =>
    simp [hv] at hz'
    refine ⟨v, by simp [zeroValue, typeInfo, hi, hv], RVs.of (by rw [← hz']; simp) fun j x hj => ?_⟩
    rw [← hz'] at hj
    simp only [List.getElem?_map, Option.map_eq_some_iff] at hj
    obtain ⟨c, hc, rfl⟩ := hj
    exact ⟨c, hc, RV.ofV _ _⟩
def AV.cells : AV → Option (List AV)
  | .agg l => some l
  | .any | .tup _ => none
  | .raw (.agg _) | .raw (.tuple _) => none
  | v => some [v]
def AV.one : AV → Bool
  | .any | .agg _ | .tup _ | .raw (.agg _) | .raw (.tuple _) => false
  | _ => true
theorem RV.one {ρ : Loc.Map} {v : AV} {c : Value} (h : RV ρ v c) (ho : v.one = true) : c.oneCell' = true ∧ c.cells = #[c] := by
  cases v <;> simp [AV.one] at ho <;> simp only [RV] at h
  case bool => subst h; exact ⟨rfl, rfl⟩
  case int => subst h; exact ⟨rfl, rfl⟩
  case str => subst h; exact ⟨rfl, rfl⟩
  case ptr => obtain ⟨l, _, rfl⟩ := h; exact ⟨rfl, rfl⟩
  case nilptr => subst h; exact ⟨rfl, rfl⟩
  case sl => obtain ⟨a, cap, rfl, _⟩ := h; exact ⟨rfl, rfl⟩
  case fn => obtain ⟨cf, cc, rfl, _⟩ := h; exact ⟨rfl, rfl⟩
  case nilfn => subst h; exact ⟨rfl, rfl⟩
  case map => obtain ⟨l, _, rfl⟩ := h; exact ⟨rfl, rfl⟩
  case nilmap => subst h; exact ⟨rfl, rfl⟩
  case iface => obtain ⟨x, rfl, _⟩ := h; exact ⟨rfl, rfl⟩
  case nilif => subst h; exact ⟨rfl, rfl⟩
  case raw v => subst h; cases c <;> simp_all [Value.oneCell', Value.cells]
theorem AV.cells_one {v : AV} {l : List AV} (h : v.cells = some l) : (∃ m, v = .agg m ∧ l = m) ∨ (v.one = true ∧ l = [v]) := by
  cases v <;> simp_all [AV.cells, AV.one]
  case raw v => cases v <;> simp_all
theorem RV.cells {ρ : Loc.Map} {v : AV} {c : Value} {l : List AV} (h : RV ρ v c) (hl : v.cells = some l) : RVs ρ l c.cells.toList := by
  rcases AV.cells_one hl with ⟨m, rfl, rfl⟩ | ⟨ho, rfl⟩
  · obtain ⟨cs, rfl, hc⟩ := h
    exact hc
  · rw [(h.one ho).2]
    exact ⟨c, [], rfl, h, rfl⟩
section mem
variable {ρ : Loc.Map} {st : St} {w : World}
theorem Rel.alloc (h : Rel ρ st w) {cs : List AV} {ds : List Value} (hc : RVs ρ cs ds) (e : TypeId) {w' : World} (hw : w'.heap = w.heap.push (.cells ds.toArray e)) (ho : w'.os = w.os) (ht : w'.tape = w.tape) (hp : w'.output = w.output) (hd : w.drawn ≤ w'.drawn := by exact Nat.le_refl _) :
    Rel (ρ ++ [⟨w.heap.size, 0, ds.length⟩]) (st.push (.blk cs true)) w' ∧ Step st.n ρ st w (ρ ++ [⟨w.heap.size, 0, ds.length⟩]) (st.push (.blk cs true)) w' := by
  have hold : ∀ k, k < w.heap.size → w'.heap[k]? = w.heap[k]? := fun k hk => by rw [hw, Array.getElem?_push, if_neg (by omega)]
  have hnew : w'.heap[w.heap.size]? = some (.cells ds.toArray e) := by rw [hw, Array.getElem?_push, if_pos rfl]
  have hloc : (ρ ++ [(⟨w.heap.size, 0, ds.length⟩ : Loc)])[st.n]? = some ⟨w.heap.size, 0, ds.length⟩ := by rw [← h.len]; simp
  have hof : ∀ b o, (st.push (.blk cs true)).get b = some o → (b = st.n ∧ o = .blk cs true) ∨ (b < st.n ∧ st.get b = some o) := fun b o hb => by
    rw [St.push_get] at hb
    split at hb
    · exact .inl ⟨‹_›, by simpa using hb.symm⟩
    · exact .inr ⟨h.lt hb, hb⟩
  have hobj : ∀ b o, (st.push (.blk cs true)).get b = some o → ∃ l, (ρ ++ [(⟨w.heap.size, 0, ds.length⟩ : Loc)])[b]? = some l ∧ ObjRel (ρ ++ [⟨w.heap.size, 0, ds.length⟩]) o l w' := by
    intro b o hb
    rcases hof b o hb with ⟨rfl, rfl⟩ | ⟨hlt, hb⟩
    · refine ⟨_, hloc, _, _, _, hnew, rfl, fun i v hi => ?_, fun _ j _ => by show ¬ (0 ≤ j ∧ j < 0); omega⟩
      obtain ⟨x, hx, hr⟩ := RVs.get hc hi
      exact ⟨x, by simpa using hx, RV.sup (Sup.append _ _) _ _ hr⟩
    · obtain ⟨l, hl, hr⟩ := h.obj b o hb
      exact ⟨l, Sup.append _ _ _ _ hl, (hr.world (hold _ hr.lt)).sup (Sup.append _ _)⟩
  have hloc' : ∀ b o l, b < st.n → st.get b = some o → (ρ ++ [(⟨w.heap.size, 0, ds.length⟩ : Loc)])[b]? = some l → ρ[b]? = some l ∧ l.blk < w.heap.size := fun b o l hlt hb hl => by
    rw [List.getElem?_append_left (by have := h.len; omega)] at hl
    obtain ⟨l', hl', hr⟩ := h.obj b o hb
    rw [hl] at hl'; simp at hl'; subst hl'
    exact ⟨hl, hr.lt⟩
  refine gi2 h ⟨⟨by simp [St.push_n, h.len], hobj, ?_⟩, ⟨Ext.append _ _ (by have := h.len; omega), ho, ht, hp, hd, by rw [hw]; simp, fun k hk _ => hold k hk, ?_⟩⟩
  · intro b b' l l' o o' hne hb hrw hb' hl hl'
    rcases hof b o hb with ⟨rfl, rfl⟩ | ⟨hlt, hb⟩ <;> rcases hof b' o' hb' with ⟨rfl, rfl⟩ | ⟨hlt', hb'⟩
    · exact absurd rfl hne
    · rw [hloc] at hl; simp at hl; subst hl
      have := (hloc' b' o' l' hlt' hb' hl').2
      show w.heap.size ≠ l'.blk; omega
    · rw [hloc] at hl'; simp at hl'; subst hl'
      have := (hloc' b o l hlt hb hl).2
      show l.blk ≠ w.heap.size; omega
    · exact h.sep b b' l l' o o' hne hb hrw hb' (hloc' b o l hlt hb hl).1 (hloc' b' o' l' hlt' hb' hl').1
  · intro b o l hb hrw hl hlt
    rcases hof b o hb with ⟨rfl, rfl⟩ | ⟨hlt', hb⟩
    · rw [hloc] at hl; simp at hl; subst hl; exact absurd hlt (by show ¬ w.heap.size < w.heap.size; omega)
    · exact ⟨b, o, l, hb, hrw, (hloc' b o l hlt' hb hl).1, rfl⟩
theorem Rel.upd (h : Rel ρ st w) {b : Nat} {o o' : AObj} {l : Loc} (hb : st.get b = some o) (hrw : o.rw = true) (hl : ρ[b]? = some l) {w' : World}
    (hoth : ∀ k, k ≠ l.blk → w'.heap[k]? = w.heap[k]?) (hsz : w'.heap.size = w.heap.size) (hos : w'.os = w.os) (ht : w'.tape = w.tape) (hp : w'.output = w.output) (hd : w.drawn ≤ w'.drawn) (ho' : ObjRel ρ o' l w') :
    Rel ρ (st.set b o') w' ∧ Step st.n ρ st w ρ (st.set b o') w' := by
  have hof : ∀ i x, (st.set b o').get i = some x → (i = b ∧ x = o') ∨ (i ≠ b ∧ st.get i = some x) := fun i x hi => by
    rw [St.set_get] at hi
    split at hi
    · exact .inl ⟨‹_›, by simpa using hi.symm⟩
    · exact .inr ⟨‹_›, hi⟩
  refine gi2 h ⟨⟨h.len, fun i x hi => ?_, fun i i' l1 l2 x x' hne hi hx hi' h1 h2 => ?_⟩, ⟨.refl _ _, hos, ht, hp, hd, by omega, fun k hk hno => hoth k (Ne.symm (hno b o l hb hrw hl)), fun i x l1 hi hx h1 _ => ?_⟩⟩
  · rcases hof i x hi with ⟨rfl, rfl⟩ | ⟨hne, hi⟩
    · exact ⟨l, hl, ho'⟩
    · obtain ⟨l', hl', hr⟩ := h.obj i x hi
      exact ⟨l', hl', hr.world (hoth _ (Ne.symm (h.sep b i l l' o x (Ne.symm hne) hb hrw hi hl hl')))⟩
  · rcases hof i x hi with ⟨e1, e2⟩ | ⟨_, hi1⟩ <;> rcases hof i' x' hi' with ⟨e3, e4⟩ | ⟨_, hi2⟩
    · exact absurd (e1.trans e3.symm) hne
    · subst e1; exact h.sep i i' l1 l2 o x' hne hb hrw hi2 h1 h2
    · subst e3; exact fun e => h.sep i' i l2 l1 o x (Ne.symm hne) hb hrw hi1 h2 h1 e.symm
    · exact h.sep i i' l1 l2 x x' hne hi1 hx hi2 h1 h2
  · rcases hof i x hi with ⟨rfl, rfl⟩ | ⟨hne, hi⟩
    · exact ⟨i, o, l1, hb, hrw, h1, rfl⟩
    · exact ⟨i, x, l1, hi, hx, h1, rfl⟩
theorem ObjRel.cell {cs : List AV} {rw : Bool} {l : Loc} (h : ObjRel ρ (.blk cs rw) l w) {i : Nat} {v : AV} (hi : cs[i]? = some v) : ∃ x, w.cell? ⟨l.blk, l.base + i, none⟩ = some x ∧ RV ρ v x := by
  obtain ⟨c, e, fz, hh, _, h1, _⟩ := h
  obtain ⟨x, hx, hr⟩ := h1 i v hi
  exact ⟨x, by simp [World.cell?, hh, hx], hr⟩
end mem
theorem add_eq (blk off n : Nat) : (⟨blk, off, none⟩ : Addr).add n = ⟨blk, off + n, none⟩ := by
  unfold Addr.add
  split
  · simp_all
  · rfl
def loadN (cs : List AV) : Nat → Nat → Option (List AV)
  | _, 0 => some []
  | off, n + 1 => cs[off]?.bind fun v => (loadN cs (off + 1) n).bind fun r => some (v :: r)
theorem loadN_spec {cs : List AV} : ∀ {n off : Nat} {r : List AV}, loadN cs off n = some r → r.length = n ∧ ∀ j, j < n → r[j]? = cs[off + j]?
  | 0, off, r, h => by simp [loadN] at h; subst h; exact ⟨rfl, fun j hj => by omega⟩
  | n + 1, off, r, h => by
    simp only [loadN, Option.bind_eq_some_iff] at h
    obtain ⟨v, hv, r', hr', he⟩ := h
    simp at he; subst he
    obtain ⟨h1, h2⟩ := loadN_spec hr'
    refine ⟨by simp [h1], fun j hj => ?_⟩
    cases j with
    | zero => simp [hv]
    | succ j => simpa [Nat.add_assoc, Nat.add_comm 1 j] using h2 j (by omega)
def rdBlk (st : St) (b : Nat) : Option (List AV) := match st.get b with
  | some (.blk cs _) => some cs
  | _ => none
theorem rdBlk_spec {st : St} {b : Nat} {cs : List AV} (h : rdBlk st b = some cs) : ∃ rw, st.get b = some (.blk cs rw) := by
  unfold rdBlk at h
  split at h
  · simp at h; subst h; exact ⟨_, ‹_›⟩
  · cases h
def evLoad (P : Program) (t : TypeId) (p : AV) (st : St) : Option AV := match p with
  | .ptr b off => (tinfo P t).bind fun ti => (rdBlk st b).bind fun cs => if ti.k.agg then (loadN cs off ti.size).bind fun l => some (.agg l) else cs[off]?
  | _ => none
theorem load_cells {P : Program} {ρ : Loc.Map} {st : St} {w : World} (hr : Rel ρ st w) {b : Nat} {cs : List AV} (hb : rdBlk st b = some cs) {l : Loc} (hl : ρ[b]? = some l) {off n : Nat} {r : List AV} (hn : loadN cs off n = some r) :
    ∃ ds, (loadCells ⟨l.blk, l.base + off, none⟩ n).run P w = .ok ds.toArray w ∧ RVs ρ r ds := by
  obtain ⟨rw, hb⟩ := rdBlk_spec hb
  obtain ⟨l', hl', ho⟩ := hr.obj b _ hb
  rw [hl] at hl'; simp at hl'; subst hl'
  obtain ⟨h1, h2⟩ := loadN_spec hn
  have hex : ∀ j, j < n → ∃ x, w.cell? ⟨l.blk, l.base + (off + j), none⟩ = some x ∧ ∀ v, r[j]? = some v → RV ρ v x := by
    intro j hj
    have hj' : r[j]? = some (r[j]'(by omega)) := List.getElem?_eq_getElem (by omega)
    obtain ⟨x, hx, hv⟩ := ho.cell ((h2 j hj).symm.trans hj')
    exact ⟨x, hx, fun v hv' => by rw [hj'] at hv'; simp at hv'; subst hv'; exact hv⟩
  have hrun := run_loadCells (P := P) w ⟨l.blk, l.base + off, none⟩ n (fun j => (w.cell? ⟨l.blk, l.base + (off + j), none⟩).getD undef) (fun j hj => by
    obtain ⟨x, hx, _⟩ := hex j hj
    rw [add_eq, Nat.add_assoc, hx]; rfl)
  refine ⟨_, hrun, RVs.of (by simp [h1]) fun j v hj => ?_⟩
  have hjn : j < n := by have := (List.getElem?_eq_some_iff.1 hj).1; omega
  obtain ⟨x, hx, hv⟩ := hex j hjn
  refine ⟨x, ?_, hv v hj⟩
  simp [hjn, hx]
theorem evLoad_ok {P : Program} {t : TypeId} {p v : AV} {st : St} (h : evLoad P t p st = some v) {ρ : Loc.Map} {w : World} {c : Value} (hr : Rel ρ st w) (hp : RV ρ p c) :
    ∃ x, (Instr.loadAt t c).run P w = .ok x w ∧ RV ρ v x := by
  unfold evLoad at h
  split at h
  · rename_i b off
    simp only [Option.bind_eq_some_iff] at h
    obtain ⟨ti, hti, cs, hcs, h⟩ := h
    obtain ⟨l, hl, rfl⟩ := hp
    simp only [Instr.loadAt, Instr.sureAddr, loadVar, Sem.run_bind, Sem.run_pure, Result.andThen_ok, run_isAgg hti, Sem.run_ite, run_sizeOf hti]
    split at h
    · rename_i ha
      simp only [Option.bind_eq_some_iff] at h
      obtain ⟨r, hn, h⟩ := h
      simp at h; subst h
      obtain ⟨ds, hrun, hrv⟩ := load_cells (P := P) hr hcs hl hn
      rw [if_pos ha]
      exact ⟨_, by rw [hrun]; rfl, ds, rfl, hrv⟩
    · rename_i ha
      rw [if_neg ha]
      obtain ⟨rw, hb⟩ := rdBlk_spec hcs
      obtain ⟨l', hl', ho⟩ := hr.obj b _ hb
      rw [hl] at hl'; simp at hl'; subst hl'
      obtain ⟨x, hx, hv⟩ := ho.cell h
      exact ⟨x, by simp [run_load, hx], hv⟩
  · cases h
def setL : List AV → Nat → List AV → List AV
  | cs, _, [] => cs
  | cs, off, v :: r => setL (cs.set off v) (off + 1) r
theorem run_storeCells_blk {P : Program} {blk : Nat} {e : TypeId} {fz : Nat × Nat} : ∀ (vs : List Value) (o i : Nat) (c : Array Value) (w : World), w.heap[blk]? = some (.cells c e fz) → o + i + vs.length ≤ c.size →
    (∀ j, j < c.size → ¬ (fz.1 ≤ j ∧ j < fz.2)) → (∀ v ∈ vs, v.oneCell' = true) →
    ∃ w' c', (storeCells ⟨blk, o, none⟩ vs i).run P w = .ok () w' ∧ w'.heap[blk]? = some (.cells c' e fz) ∧ c'.size = c.size ∧ (∀ k, k ≠ blk → w'.heap[k]? = w.heap[k]?) ∧ w'.heap.size = w.heap.size ∧ w'.os = w.os ∧ w'.tape = w.tape ∧ w'.output = w.output ∧ w'.drawn = w.drawn ∧
      (∀ j, c'[j]? = if o + i ≤ j ∧ j < o + i + vs.length then vs[j - (o + i)]? else c[j]?)
  | [], o, i, c, w, hh, _, _, _ => ⟨w, c, rfl, hh, rfl, fun _ _ => rfl, rfl, rfl, rfl, rfl, rfl, fun j => by rw [if_neg (by rw [List.length_nil]; omega)]⟩
  | v :: vs, o, i, c, w, hh, hl, hf, h1 => by
    have hlt : o + i < c.size := by simp at hl; omega
    have hcell : w.cell? ⟨blk, o + i, none⟩ = some c[o + i] := by simp [World.cell?, hh, hlt]
    have hfz : w.frozen? ⟨blk, o + i, none⟩ = false := by
      have := hf (o + i) hlt
      simp only [World.frozen?, hh]
      simpa using this
    have hset : (w.setCell ⟨blk, o + i, none⟩ v).heap[blk]? = some (.cells (c.setIfInBounds (o + i) v) e fz) := by
      simp [World.setCell, Array.getElem?_modify, hh]
    obtain ⟨w', c', hrun, hh', hs', hoth, hsz, hos, ht, hp, hdr, hc⟩ := run_storeCells_blk vs o (i + 1) (c.setIfInBounds (o + i) v) (w.setCell ⟨blk, o + i, none⟩ v) hset (by simp at hl ⊢; omega) (by simpa using hf) (fun x hx => h1 x (by simp [hx]))
    refine ⟨w', c', ?_, hh', by rw [hs']; simp, fun k hk => ?_, by rw [hsz]; simp, hos, ht, hp, hdr, fun j => ?_⟩
    · simp only [storeCells, Sem.run_bind, add_eq, run_store P w _ v .plain (h1 v (by simp)), hcell, hfz]
      simpa using hrun
    · rw [hoth k hk]
      exact Go.RowKit.Below.heap_setCell _ _ _ _ hk
    · rw [hc j]
      simp only [List.length_cons]
      by_cases h2 : o + (i + 1) ≤ j ∧ j < o + (i + 1) + vs.length
      · rw [if_pos h2, if_pos (by omega), show j - (o + i) = (j - (o + (i + 1))) + 1 by omega, List.getElem?_cons_succ]
      · rw [if_neg h2]
        by_cases h3 : j = o + i
        · subst h3
          rw [if_pos (by omega)]
          simp [hlt]
        · rw [if_neg (by omega), Array.getElem?_setIfInBounds_ne (by omega)]
theorem setL_get : ∀ (vs cs : List AV) (off j : Nat), off + vs.length ≤ cs.length → (setL cs off vs)[j]? = if off ≤ j ∧ j < off + vs.length then vs[j - off]? else cs[j]?
  | [], cs, off, j, _ => by rw [setL, if_neg (by rw [List.length_nil]; omega)]
  | v :: r, cs, off, j, h => by
    simp only [List.length_cons] at h ⊢
    rw [setL, setL_get r (cs.set off v) (off + 1) j (by simp; omega)]
    by_cases h2 : off + 1 ≤ j ∧ j < off + 1 + r.length
    · rw [if_pos h2, if_pos (by omega), show j - off = (j - (off + 1)) + 1 by omega, List.getElem?_cons_succ]
    · rw [if_neg h2]
      by_cases h3 : j = off
      · subst h3
        rw [if_pos (by omega), Nat.sub_self, List.getElem?_set_self (by omega)]
        rfl
      · rw [if_neg (by omega), List.getElem?_set_ne (by omega)]
theorem store_cells {P : Program} {ρ : Loc.Map} {st : St} {w : World} (hr : Rel ρ st w) {b : Nat} {cs : List AV} (hb : st.get b = some (.blk cs true)) {l : Loc} (hl : ρ[b]? = some l) {off : Nat} {vs : List AV} {ds : List Value}
    (hv : RVs ρ vs ds) (ho : vs.all AV.one = true) (hfit : off + vs.length ≤ cs.length) :
    ∃ w', (storeCells ⟨l.blk, l.base + off, none⟩ ds).run P w = .ok () w' ∧ Rel ρ (st.set b (.blk (setL cs off vs) true)) w' ∧ Step st.n ρ st w ρ (st.set b (.blk (setL cs off vs) true)) w' := by
  obtain ⟨l', hl', hobj⟩ := hr.obj b _ hb
  rw [hl] at hl'; simp at hl'; subst hl'
  obtain ⟨c, e, fz, hh, hsz, hcs, hfz⟩ := hobj
  have hlen := hv.length
  have hone : ∀ v ∈ ds, v.oneCell' = true := fun v hm => by
    obtain ⟨j, hj⟩ := List.getElem?_of_mem hm
    have hjl : j < vs.length := by have := (List.getElem?_eq_some_iff.1 hj).1; omega
    obtain ⟨x, hx, hrv⟩ := RVs.get hv (List.getElem?_eq_getElem hjl)
    rw [hj] at hx; simp at hx; subst hx
    exact (hrv.one (List.all_eq_true.1 ho _ (List.getElem_mem hjl))).1
  rcases Nat.eq_zero_or_pos ds.length with h0 | h0
  · have hd : ds = [] := List.eq_nil_of_length_eq_zero h0
    have hv0 : vs = [] := List.eq_nil_of_length_eq_zero (by omega)
    subst hd; subst hv0
    exact ⟨w, rfl, hr.upd hb rfl hl (fun _ _ => rfl) rfl rfl rfl rfl (Nat.le_refl _) ⟨c, e, fz, hh, hsz, hcs, hfz⟩⟩
  obtain ⟨x0, hx0, _⟩ := hcs (off + vs.length - 1) _ (List.getElem?_eq_getElem (by omega))
  have hb2 := (Array.getElem?_eq_some_iff.1 hx0).1
  obtain ⟨w', c', hrun, hh', hs', hoth, hsz', hos, ht, hp, hdr, hc⟩ := run_storeCells_blk (P := P) ds (l.base + off) 0 c w hh (by omega) (hfz rfl) hone
  refine ⟨w', hrun, hr.upd hb rfl hl hoth hsz' hos ht hp (by omega) ⟨c', e, fz, hh', by omega, fun i v hi => ?_, fun _ j hj => hfz rfl j (by omega)⟩⟩
  rw [setL_get vs cs off i hfit] at hi
  rw [hc]
  by_cases h2 : off ≤ i ∧ i < off + vs.length
  · rw [if_pos h2] at hi
    rw [if_pos (by omega), show l.base + i - (l.base + off + 0) = i - off by omega]
    exact RVs.get hv hi
  · rw [if_neg h2] at hi
    rw [if_neg (by omega)]
    exact hcs i v hi
end Gab
end
section
set_option linter.unusedSimpArgs false
set_option linter.unusedVariables false
namespace Gab
open Go
def need (c : Prop) [Decidable c] {α : Type} (x : Option α) : Option α := if c then x else none
theorem need_pos {c : Prop} [Decidable c] {α : Type} {x : Option α} (h : c) : need c x = x := if_pos h
theorem need_some {c : Prop} [Decidable c] {α : Type} {x : Option α} {y : α} (h : need c x = some y) : c ∧ x = some y := by
  unfold need at h
  split at h
  · exact ⟨‹_›, h⟩
  · cases h
def wrBlk (st : St) (b : Nat) : Option (List AV) := match st.get b with
  | some (.blk cs true) => some cs
  | _ => none
theorem wrBlk_spec {st : St} {b : Nat} {cs : List AV} (h : wrBlk st b = some cs) : st.get b = some (.blk cs true) := by
  unfold wrBlk at h
  split at h
  · simp at h; subst h; exact ‹_›
  · cases h
def evStore (P : Program) (t : TypeId) (p v : AV) (st : St) : Option St := match p with
  | .ptr b off => (tinfo P t).bind fun ti => v.cells.bind fun vs => (wrBlk st b).bind fun cs => need (vs.length = ti.size ∧ off + vs.length ≤ cs.length) (if vs.all AV.one then some (st.set b (.blk (setL cs off vs) true)) else none)
  | _ => none
theorem evStore_ok {P : Program} {t : TypeId} {p v : AV} {st st' : St} (h : evStore P t p v st = some st') {ρ : Loc.Map} {w : World} {c x : Value} (hr : Rel ρ st w) (hp : RV ρ p c) (hv : RV ρ v x) :
    ∃ w', (Instr.storeAt t c x).run P w = .ok () w' ∧ Rel ρ st' w' ∧ Step st.n ρ st w ρ st' w' := by
  unfold evStore at h
  split at h
  · rename_i b off
    simp only [Option.bind_eq_some_iff] at h
    obtain ⟨ti, hti, vs, hvs, cs, hcs, h⟩ := h
    obtain ⟨⟨hlen, hfit⟩, h⟩ := need_some h
    split at h
    · rename_i hone
      simp at h; subst h
      obtain ⟨l, hl, rfl⟩ := hp
      have hrv := hv.cells hvs
      have hcl : x.cells.size = ti.size := by rw [← hlen, ← hrv.length]; simp
      obtain ⟨w', hrun, h1, h2⟩ := store_cells (P := P) hr (wrBlk_spec hcs) hl hrv hone hfit
      refine ⟨w', ?_, h1, h2⟩
      simp only [Instr.storeAt, Instr.sureAddr, storeVar, Sem.run_bind, Sem.run_pure, Result.andThen_ok, run_sizeOf hti, Sem.run_ite, hcl, ne_eq, not_true_eq_false, if_false]
      exact hrun
    · cases h
  · cases h
def evBox (v : AV) (st : St) : Option (AV × St) := v.cells.bind fun cs => some (.ptr st.n 0, st.push (.blk cs true))
def evAlloc (P : Program) (t : TypeId) (st : St) : Option (AV × St) := (tinfo P t).bind fun ti => ti.zero.bind fun z => some (.ptr st.n 0, st.push (.blk z true))
theorem Rel.new {ρ : Loc.Map} {st : St} {w : World} (hr : Rel ρ st w) {cs : List AV} {ds : Array Value} (hc : RVs ρ cs ds.toList) (e : TypeId) :
    ∃ ρ', Rel ρ' (st.push (.blk cs true)) (w.alloc (.cells ds e)) ∧ Step st.n ρ st w ρ' (st.push (.blk cs true)) (w.alloc (.cells ds e)) ∧ ρ'[st.n]? = some ⟨w.heap.size, 0, ds.size⟩ := by
  have h := hr.alloc hc e (w' := w.alloc (.cells ds e)) rfl rfl rfl rfl
  refine ⟨_, h.1, h.2, ?_⟩
  rw [← hr.len]
  simp
theorem evBox_ok {P : Program} {e : TypeId} {v r : AV} {st st' : St} (h : evBox v st = some (r, st')) {ρ : Loc.Map} {w : World} {x : Value} (hr : Rel ρ st w) (hv : RV ρ v x) :
    ∃ c w' ρ', (Instr.box e x).run P w = .ok c w' ∧ Rel ρ' st' w' ∧ RV ρ' r c ∧ Step st.n ρ st w ρ' st' w' := by
  unfold evBox at h
  simp only [Option.bind_eq_some_iff] at h
  obtain ⟨cs, hcs, h⟩ := h
  simp at h
  obtain ⟨rfl, rfl⟩ := h
  obtain ⟨ρ', h1, h2, h3⟩ := hr.new (hv.cells hcs) e
  exact ⟨_, _, ρ', by simp [Instr.box, newVar, newRow], h1, ⟨_, h3, rfl⟩, h2⟩
theorem evAlloc_ok {P : Program} {e : TypeId} {r : AV} {st st' : St} (h : evAlloc P e st = some (r, st')) {ρ : Loc.Map} {w : World} (hr : Rel ρ st w) :
    ∃ c w' ρ', (Instr.alloc e true (.tuple #[])).run P w = .ok c w' ∧ Rel ρ' st' w' ∧ RV ρ' r c ∧ Step st.n ρ st w ρ' st' w' := by
  unfold evAlloc at h
  simp only [Option.bind_eq_some_iff] at h
  obtain ⟨ti, hti, z, hz, h⟩ := h
  simp at h
  obtain ⟨rfl, rfl⟩ := h
  obtain ⟨v, hrun, hv⟩ := run_zeroValue hti hz w ρ
  obtain ⟨ρ', h1, h2, h3⟩ := hr.new hv e
  exact ⟨_, _, ρ', by simp [Instr.alloc, newVar, newRow, hrun], h1, ⟨_, h3, rfl⟩, h2⟩
theorem RVs_set {ρ : Loc.Map} : ∀ {l : List AV} {cs : List Value}, RVs ρ l cs → ∀ {a : AV} {c : Value} (i : Nat), RV ρ a c → RVs ρ (l.set i a) (cs.set i c)
  | [], _, h, _, _, _, _ => by simp [RVs] at h; subst h; exact rfl
  | x :: l, _, h, a, c, i, hv => by
    obtain ⟨d, r, rfl, h1, h2⟩ := h
    cases i with
    | zero => exact ⟨c, r, rfl, hv, h2⟩
    | succ i => exact ⟨d, r.set i c, rfl, h1, RVs_set h2 i hv⟩
def setV (cs : Array Value) (off : Nat) : List Value → Array Value
  | [] => cs
  | v :: r => setV (cs.setIfInBounds off v) (off + 1) r
theorem RVs_setL {ρ : Loc.Map} : ∀ {vs : List AV} {xs : List Value} {l : List AV} {cs : Array Value} {off : Nat}, RVs ρ l cs.toList → RVs ρ vs xs → RVs ρ (setL l off vs) (setV cs off xs).toList
  | [], _, _, _, _, h, hv => by simp [RVs] at hv; subst hv; exact h
  | v :: vs, _, l, cs, off, h, hv => by
    obtain ⟨c, r, rfl, h1, h2⟩ := hv
    show RVs ρ (setL (l.set off v) (off + 1) vs) (setV (cs.setIfInBounds off c) (off + 1) r).toList
    exact RVs_setL (by simpa using RVs_set h off h1) h2
theorem foldl_setV : ∀ (xs : List Value) (cs : Array Value) (off k : Nat), (xs.zipIdx k).foldl (fun cs (p : Value × Nat) => cs.setIfInBounds (off + p.2) p.1) cs = setV cs (off + k) xs
  | [], _, _, _ => rfl
  | x :: xs, cs, off, k => by
    rw [List.zipIdx_cons, List.foldl_cons, foldl_setV xs _ off (k + 1)]
    rfl
def fillA (place : Nat → Option (Nat × Nat)) : List AV → List (Nat × AV) → Option (List AV)
  | cells, [] => some cells
  | cells, (i, v) :: r => (place i).bind fun p => v.cells.bind fun vs => need (vs.length = p.2 ∧ p.1 + vs.length ≤ cells.length) (fillA place (setL cells p.1 vs) r)
def RPs (ρ : Loc.Map) : List (Nat × AV) → List (Nat × Value) → Prop
  | [], cs => cs = []
  | (i, v) :: r, cs => ∃ c s, cs = (i, c) :: s ∧ RV ρ v c ∧ RPs ρ r s
theorem fillA_ok {ρ : Loc.Map} {place : Nat → Option (Nat × Nat)} : ∀ {parts : List (Nat × AV)} {ps : List (Nat × Value)} {cells r : List AV} {cs : Array Value}, fillA place cells parts = some r → RPs ρ parts ps → RVs ρ cells cs.toList →
    ∃ rs, Instr.fill place cs ps = some rs ∧ RVs ρ r rs.toList
  | [], _, cells, r, cs, h, hp, hc => by
    simp [RPs] at hp; subst hp
    simp [fillA] at h; subst h
    exact ⟨cs, rfl, hc⟩
  | (i, v) :: rest, _, cells, r, cs, h, hp, hc => by
    obtain ⟨c, s, rfl, hv, hs⟩ := hp
    simp only [fillA, Option.bind_eq_some_iff] at h
    obtain ⟨p, hpl, vs, hvs, h⟩ := h
    obtain ⟨⟨hlen, hfit⟩, h⟩ := need_some h
    have hrv := hv.cells hvs
    have h1 : c.cells.size = vs.length := by rw [← hrv.length]; simp
    have h2 := hc.length
    obtain ⟨rs, hf, hr⟩ := fillA_ok h hs (RVs_setL (off := p.1) hc hrv)
    refine ⟨rs, ?_, hr⟩
    obtain ⟨off, size⟩ := p
    simp only [Instr.fill, hpl]
    simp only [Array.length_toList] at h2
    rw [if_neg (by simp at hlen hfit ⊢; omega)]
    rw [← Array.foldl_toList, Array.toList_zipIdx, foldl_setV]
    exact hf
def placesA (P : Program) : List (Nat × TypeId) → Option (List (Nat × Nat))
  | [] => some []
  | (o, t) :: r => (tinfo P t).bind fun ti => (placesA P r).bind fun s => some ((o, ti.size) :: s)
theorem placesA_ok {P : Program} : ∀ {fs : List Field} {ps : List (Nat × Nat)}, placesA P (fs.map fun f => (f.offset, f.type)) = some ps → ∀ w, (fs.mapM (m := Sem) fun f => do pure (f.offset, ← Go.sizeOf f.type)).run P w = .ok ps w
  | [], ps, h, w => by simp [placesA] at h; subst h; simp
  | f :: fs, ps, h, w => by
    simp only [List.map_cons, placesA, Option.bind_eq_some_iff] at h
    obtain ⟨ti, hti, s, hs, h⟩ := h
    simp at h; subst h
    have ih := placesA_ok hs w
    simp only [List.mapM_cons, Sem.run_bind, run_sizeOf hti, Sem.run_pure, Result.andThen_ok] at ih ⊢
    rw [ih]; rfl
def evBuild (P : Program) (t : TypeId) (parts : List (Nat × AV)) : Option AV :=
  (tinfo P t).bind fun ti => ti.zero.bind fun z => match ti.k with
    | .struct fs => (placesA P fs).bind fun ps => (fillA (ps[·]?) z parts).bind fun l => some (.agg l)
    | .arr _ e => (tinfo P e).bind fun ei => (fillA (fun i => some (i * ei.size, ei.size)) z parts).bind fun l => some (.agg l)
    | _ => none
theorem evBuild_ok {P : Program} {t : TypeId} {parts : List (Nat × AV)} {v : AV} (h : evBuild P t parts = some v) {ρ : Loc.Map} {ps : Array (Nat × Value)} (hp : RPs ρ parts ps.toList) (w : World) :
    ∃ c, (Instr.build t ps).run P w = .ok c w ∧ RV ρ v c := by
  unfold evBuild at h
  simp only [Option.bind_eq_some_iff] at h
  obtain ⟨ti, hti, z, hz, h⟩ := h
  obtain ⟨zv, hrun, hzv⟩ := run_zeroValue hti hz w ρ
  obtain ⟨i, d, hi, hd, hk, _⟩ := tinfo_spec hti
  split at h
  · rename_i fs hfs
    obtain ⟨ff, rfl, hff⟩ := kd_struct (hk.trans hfs)
    simp only [Option.bind_eq_some_iff] at h
    obtain ⟨pl, hpl, l, hl, h⟩ := h
    simp at h; subst h
    rw [← hff] at hpl
    obtain ⟨rs, hf, hr⟩ := fillA_ok hl hp hzv
    have hm := placesA_ok hpl w
    refine ⟨.agg rs, ?_, rs.toList, rfl, hr⟩
    have hm' : (ff.mapM (m := Sem) fun f => do pure (f.offset, ← Go.sizeOf f.type)).run P w = .ok pl.toArray w := by
      rw [Array.mapM_eq_mapM_toList]
      simp only [Sem.run_map, hm, Result.andThen_ok]
    simp only [Instr.build, Sem.run_bind, hrun, Result.andThen_ok, run_underlying hd, hm']
    have : (fun x : Nat => pl.toArray[x]?) = (fun x : Nat => pl[x]?) := by funext x; simp
    rw [this, hf]
    rfl
  · rename_i n e he
    have hd' := kd_arr (hk.trans he)
    subst hd'
    simp only [Option.bind_eq_some_iff] at h
    obtain ⟨ei, hei, l, hl, h⟩ := h
    simp at h; subst h
    obtain ⟨rs, hf, hr⟩ := fillA_ok hl hp hzv
    refine ⟨.agg rs, ?_, rs.toList, rfl, hr⟩
    simp only [Instr.build, Sem.run_bind, hrun, Result.andThen_ok, run_underlying hd, run_sizeOf hei, hf]
    rfl
  · cases h
def zeroRow (z : List AV) : Nat → List AV
  | 0 => []
  | n + 1 => z ++ zeroRow z n
theorem zeroRow_length (z : List AV) : ∀ n, (zeroRow z n).length = n * z.length
  | 0 => by simp [zeroRow]
  | n + 1 => by rw [zeroRow, List.length_append, zeroRow_length z n, Nat.add_mul, Nat.one_mul, Nat.add_comm]
theorem zeroRow_get {z : List AV} : ∀ {n i : Nat}, i < n * z.length → (zeroRow z n)[i]? = z[i % z.length]?
  | 0, i, h => by simp at h
  | n + 1, i, h => by
    rw [zeroRow]
    by_cases hi : i < z.length
    · rw [List.getElem?_append_left hi, Nat.mod_eq_of_lt hi]
    · have h' : i - z.length < n * z.length := by rw [Nat.add_mul, Nat.one_mul] at h; omega
      rw [List.getElem?_append_right (by omega), zeroRow_get h', Nat.mod_eq_sub_mod (a := i) (by omega)]
theorem RVs_zeroRow {ρ : Loc.Map} {z : List AV} {zs : Array Value} (h : RVs ρ z zs.toList) (n : Nat) :
    RVs ρ (zeroRow z n) ((Array.range (n * zs.size)).map (zs[· % zs.size]!)).toList := by
  have hl := h.length
  simp only [Array.length_toList] at hl
  refine RVs.of (by simp [zeroRow_length, hl]) fun i a hi => ?_
  have hlt : i < n * z.length := by rw [← zeroRow_length]; exact (List.getElem?_eq_some_iff.1 hi).1
  rw [zeroRow_get hlt] at hi
  obtain ⟨c, hc, hr⟩ := RVs.get h hi
  refine ⟨c, ?_, hr⟩
  rw [← hl] at hlt hc
  simp only [Array.toList_map, List.getElem?_map, Array.toList_range, List.getElem?_range hlt, Option.map_some, Option.some.injEq]
  have hlt2 : i % zs.size < zs.size := (List.getElem?_eq_some_iff.1 hc).1
  rw [getElem!_pos zs (i % zs.size) hlt2]
  have := (List.getElem?_eq_some_iff.1 hc).2
  simpa using this
def evBuildSlice (P : Program) (t : TypeId) (len : Nat) (parts : List (Nat × AV)) (st : St) : Option (AV × St) :=
  (tinfo P t).bind fun ti => match ti.k with
    | .sl e => (tinfo P e).bind fun ei => ei.zero.bind fun z => need (len * ei.size ≤ 16777216 ∧ z.length = ei.size) ((fillA (fun i => some (i * ei.size, ei.size)) (zeroRow z len) parts).bind fun l =>
        need (l.length = len * ei.size) (some (.sl ei.size st.n 0 len len false, st.push (.blk l true))))
    | _ => none
theorem evBuildSlice_ok {P : Program} {t : TypeId} {len : Nat} {parts : List (Nat × AV)} {v : AV} {st st' : St} (h : evBuildSlice P t len parts st = some (v, st')) {ρ : Loc.Map} {w : World} (hr : Rel ρ st w) {ps : Array (Nat × Value)} (hp : RPs ρ parts ps.toList) :
    ∃ c w' ρ', (Instr.buildSlice t len ps).run P w = .ok c w' ∧ Rel ρ' st' w' ∧ RV ρ' v c ∧ Step st.n ρ st w ρ' st' w' := by
  unfold evBuildSlice at h
  simp only [Option.bind_eq_some_iff] at h
  obtain ⟨ti, hti, h⟩ := h
  obtain ⟨i, d, hi, hd, hk, _⟩ := tinfo_spec hti
  split at h
  · rename_i e he
    have hd' := kd_sl (hk.trans he)
    subst hd'
    simp only [Option.bind_eq_some_iff] at h
    obtain ⟨ei, hei, z, hz, h⟩ := h
    obtain ⟨⟨h24, hzl⟩, h⟩ := need_some h
    simp only [Option.bind_eq_some_iff] at h
    obtain ⟨l, hl, h⟩ := h
    obtain ⟨hll, h⟩ := need_some h
    simp at h
    obtain ⟨rfl, rfl⟩ := h
    obtain ⟨zv, hrun, hzv⟩ := run_zeroValue hei hz w ρ
    have hzs : zv.cells.size = ei.size := by rw [← hzl, ← hzv.length]; simp
    have hrow := RVs_zeroRow hzv len
    rw [hzs] at hrow
    obtain ⟨rs, hf, hr'⟩ := fillA_ok hl hp hrow
    obtain ⟨ρ', h1, h2, h3⟩ := hr.new hr' e
    have hrs : rs.size = len * ei.size := by rw [← hll, ← hr'.length]; simp
    refine ⟨.slice (some ⟨w.heap.size, 0, none⟩) len len, _, ρ', ?_, h1, ⟨_, _, rfl, Nat.le_refl _, Nat.le_refl _, by simp, fun _ => ⟨_, _, rfl, h3, .inr ⟨rfl, ?_⟩⟩⟩, h2⟩
    · simp only [Instr.buildSlice, Sem.run_bind, run_underlying hd, Result.andThen_ok, run_sizeOf hei, Sem.run_ite]
      rw [if_neg (by omega)]
      by_cases h0 : len * ei.size = 0
      · simp only [Sem.run_pure, if_pos h0, Result.andThen_ok]
        have hsame' : ((Array.range (len * ei.size)).map (fun x => (#[] : Array Value)[x % (#[] : Array Value).size]!)) = ((Array.range (len * ei.size)).map (zv.cells[· % ei.size]!)) := by
          rw [h0]; simp
        rw [hsame', hf]
        simp [newRow]
      · simp only [Sem.run_pure, if_neg h0, Sem.run_bind, hrun, Result.andThen_ok, hzs, hf]
        simp [newRow]
    · show 0 + 0 + len * ei.size ≤ rs.size
      omega
  · cases h
def evMakeSlice (P : Program) (t : TypeId) (l c : AV) (st : St) : Option (AV × St) := match l, c with
  | .int _ ln, .int _ cn => (tinfo P t).bind fun ti => match ti.k with
    | .sl e => (tinfo P e).bind fun ei => ei.zero.bind fun z => need (0 ≤ ln ∧ ln ≤ cn ∧ cn ≤ 9223372036854775807 ∧ ei.bytes * cn ≤ 281474976710656 ∧ z.length = ei.size)
        (some (.sl ei.size st.n 0 ln.toNat cn.toNat false, st.push (.blk (zeroRow z cn.toNat) true)))
    | _ => none
  | _, _ => none
theorem evMakeSlice_ok {P : Program} {t : TypeId} {l c v : AV} {st st' : St} (h : evMakeSlice P t l c st = some (v, st')) {ρ : Loc.Map} {w : World} (hr : Rel ρ st w) {x y : Value} (hx : RV ρ l x) (hy : RV ρ c y) :
    ∃ r w' ρ', (Instr.makeSlice t x y).run P w = .ok r w' ∧ Rel ρ' st' w' ∧ RV ρ' v r ∧ Step st.n ρ st w ρ' st' w' := by
  unfold evMakeSlice at h
  split at h
  · rename_i k1 ln k2 cn
    simp only [Option.bind_eq_some_iff] at h
    obtain ⟨ti, hti, h⟩ := h
    obtain ⟨i, d, hi, hd, hk, _⟩ := tinfo_spec hti
    split at h
    · rename_i e he
      have hd' := kd_sl (hk.trans he)
      subst hd'
      simp only [Option.bind_eq_some_iff] at h
      obtain ⟨ei, hei, z, hz, h⟩ := h
      obtain ⟨⟨hl0, hlc, hc63, hby, hzl⟩, h⟩ := need_some h
      simp at h
      obtain ⟨rfl, rfl⟩ := h
      simp only [RV] at hx hy
      subst hx; subst hy
      obtain ⟨j, d', hj, _, _, hjs, hjb, _⟩ := tinfo_spec hei
      obtain ⟨zv, hrun, hzv⟩ := run_zeroValue hei hz w ρ
      have hzs : zv.cells.size = ei.size := by rw [← hzl, ← hzv.length]; simp
      have hrow := RVs_zeroRow hzv cn.toNat
      rw [hzs] at hrow
      obtain ⟨ρ', h1, h2, h3⟩ := hr.new hrow e
      have hwl : IntKind.i64.wrap ln = ln := IntWalk.i64_in ln (by omega)
      have hwc : IntKind.i64.wrap cn = cn := IntWalk.i64_in cn (by omega)
      refine ⟨.slice (some ⟨w.heap.size, 0, none⟩) ln.toNat cn.toNat, _, ρ', ?_, h1, ⟨_, _, rfl, by omega, Nat.le_refl _, by simp, fun _ => ⟨_, _, rfl, h3, .inr ⟨rfl, ?_⟩⟩⟩, h2⟩
      · have hb1 : (decide (cn < 0) || decide ((j.bytes : Int) * cn > 2 ^ 48)) = false := by
          rw [hjb]; simp; omega
        simp only [Instr.makeSlice, Sem.run_bind, run_underlying hd, Result.andThen_ok, asInt, asIntOf, Sem.run_pure, typeInfo, run_program, hj, hwl, hwc, Sem.run_ite, run_askRoom, run_sizeOf hei]
        rw [if_neg (by rw [hb1]; simp; omega)]
        by_cases h0 : cn.toNat * ei.size = 0
        · simp only [if_pos h0, Result.andThen_ok]
          simp only [newRow, h0, Sem.run_bind, run_newObj, Result.andThen_ok, Sem.run_pure, run_sizeOf hei]
          have e0 : ∀ f : Nat → Value, (Array.range 0).map f = #[] := fun f => by simp
          simp [e0]
        · simp only [if_neg h0, Sem.run_bind, hrun, Result.andThen_ok, Sem.run_pure, hzs]
          simp [newRow]
      · show 0 + 0 + cn.toNat * ei.size ≤ _
        simp
    · cases h
  · cases h
end Gab
end
section
set_option linter.unusedSimpArgs false
set_option linter.unusedVariables false
namespace Gab
open Go
theorem RV.sl_at {ρ : Loc.Map} {sz b off len mc : Nat} {nl : Bool} {c : Value} (h : RV ρ (.sl sz b off len mc nl) c) (hl : 0 < len) :
    ∃ l cap, ρ[b]? = some l ∧ c = .slice (some ⟨l.blk, l.base + off, none⟩) len cap ∧ len ≤ cap ∧ mc ≤ cap ∧ l.base + off + cap * sz ≤ l.size ∧ nl = false := by
  obtain ⟨a, cap, rfl, h1, h2, h3, h4⟩ := h
  cases nl with
  | true => have := (h3 rfl).2; omega
  | false =>
    obtain ⟨ad, l, rfl, hl', h5⟩ := h4 rfl
    rcases h5 with h5 | ⟨rfl, h6⟩
    · omega
    · exact ⟨l, cap, hl', rfl, h1, h2, h6, rfl⟩
def bnd (d : Nat) : Option AV → Option Nat
  | none => some d
  | some (.int _ i) => need (0 ≤ i) (some i.toNat)
  | some _ => none
def evSlice (P : Program) (t : TypeId) (x : AV) (lo hi mx : Option AV) : Option AV := (tinfo P t).bind fun ti => match ti.k, x with
  | .str, .str l => (bnd 0 lo).bind fun a => (bnd l.length hi).bind fun b => match mx with
    | none => need (a ≤ b ∧ b ≤ l.length) (some (.str ((l.take b).drop a)))
    | some _ => none
  | .sl e, .sl sz b off len mc nl => (tinfo P e).bind fun ei => (bnd 0 lo).bind fun l => (bnd len hi).bind fun h => match mx with
    | none => need (l ≤ h ∧ h ≤ mc ∧ (nl = false → ei.size = sz)) (some (.sl sz b (off + l * sz) (h - l) (mc - l) nl))
    | some _ => match hi with
      | none => none
      | some _ => (bnd 0 mx).bind fun m => need (l ≤ h ∧ h ≤ m ∧ m ≤ mc ∧ (nl = false → ei.size = sz)) (some (.sl sz b (off + l * sz) (h - l) (m - l) nl))
  | _, _ => none
def ROv (ρ : Loc.Map) : Option AV → Option Value → Prop
  | none, c => c = none
  | some v, c => ∃ x, c = some x ∧ RV ρ v x
theorem bnd_run {P : Program} {ρ : Loc.Map} {d i : Nat} {v : AV} {c : Value} (h : bnd d (some v) = some i) (hv : RV ρ v c) {y : Nat} (hy : i ≤ y) (code : BoundsCode) (w : World) :
    (Instr.sliceBound c y code).run P w = .ok i w := by
  unfold bnd at h
  split at h
  · cases ‹some v = none›
  · rename_i k n hv'
    simp at hv'; subst hv'
    obtain ⟨h0, h⟩ := need_some h
    simp at h; subst h
    simp only [RV] at hv; subst hv
    simp only [Instr.sliceBound, asIntOf, Sem.run_bind, Sem.run_pure, Result.andThen_ok, Sem.run_ite]
    rw [if_pos (by omega)]
  · cases h
theorem sliceBounds_run {P : Program} {ρ : Loc.Map} {isSlice : Bool} {len cap l h m : Nat} {lo hi mx : Option AV} {clo chi cmx : Option Value} (h1 : bnd 0 lo = some l) (h2 : bnd len hi = some h)
    (h3 : (mx = none ∧ m = cap) ∨ (bnd 0 mx = some m ∧ mx ≠ none ∧ hi ≠ none ∧ m ≤ cap)) (r1 : ROv ρ lo clo) (r2 : ROv ρ hi chi) (r3 : ROv ρ mx cmx) (hl : l ≤ h) (hh : h ≤ m) (w : World) :
    (Instr.sliceBounds isSlice len cap clo chi cmx).run P w = .ok (l, h, m) w := by
  have low : (clo = none ∧ l = 0) ∨ ∃ v, clo = some v ∧ ∀ code, (Instr.sliceBound v h code).run P w = .ok l w := by
    cases lo with
    | none => simp only [ROv] at r1; subst r1; simp [bnd] at h1; subst h1; exact .inl ⟨rfl, rfl⟩
    | some v => obtain ⟨x, rfl, hx⟩ := r1; exact .inr ⟨x, rfl, fun code => bnd_run h1 hx hl code w⟩
  rcases h3 with ⟨rfl, rfl⟩ | ⟨h3, hne, hne', hm⟩
  · simp only [ROv] at r3; subst r3
    have high : ∀ code, (match chi with | some v => Instr.sliceBound v m code | none => pure len).run P w = .ok h w := fun code => by
      cases hi with
      | none => simp only [ROv] at r2; subst r2; simp [bnd] at h2; subst h2; rfl
      | some v => obtain ⟨x, rfl, hx⟩ := r2; exact bnd_run h2 hx hh code w
    cases chi with
    | none =>
      have := high .sliceB
      simp at this; subst this
      rcases low with ⟨rfl, rfl⟩ | ⟨v, rfl, hv⟩ <;> simp only [Instr.sliceBounds, Sem.run_bind, Sem.run_pure, Result.andThen_ok, *]
    | some v =>
      have hv := high (if isSlice then .sliceAcap else .sliceAlen)
      simp only at hv
      rcases low with ⟨rfl, rfl⟩ | ⟨v', rfl, hv'⟩ <;> simp only [Instr.sliceBounds, Sem.run_bind, Sem.run_pure, Result.andThen_ok, *]
  · cases mx with
    | none => exact absurd rfl hne
    | some vm =>
      cases hi with
      | none => exact absurd rfl hne'
      | some vh =>
        obtain ⟨xm, rfl, hxm⟩ := r3
        obtain ⟨xh, rfl, hxh⟩ := r2
        have e1 := fun code => bnd_run (P := P) h3 hxm hm code w
        have e2 := fun code => bnd_run (P := P) h2 hxh hh code w
        rcases low with ⟨rfl, rfl⟩ | ⟨v', rfl, hv'⟩ <;> simp only [Instr.sliceBounds, Sem.run_bind, Sem.run_pure, Result.andThen_ok, *]
theorem mk_extract (l : List UInt8) (a b : Nat) : (ByteArray.mk l.toArray).extract a b = ⟨((l.take b).drop a).toArray⟩ := by
  apply ByteArray.ext
  simp only [ByteArray.data_extract]
  apply Array.ext'
  simp [Array.toList_extract, List.extract_eq_take_drop, List.drop_take]
theorem mk_size (l : List UInt8) : (ByteArray.mk l.toArray).size = l.length := by simp [ByteArray.size]
theorem mk_toList (l : List UInt8) : (ByteArray.mk l.toArray).toList = l := by rw [ByteArray.toList_eq]
theorem mk_append (l m : List UInt8) : (ByteArray.mk l.toArray) ++ (ByteArray.mk m.toArray) = ⟨(l ++ m).toArray⟩ := by
  apply ByteArray.ext; simp
theorem mk_get (l : List UInt8) (i : Nat) : (ByteArray.mk l.toArray)[i]? = l[i]? := by
  by_cases h : i < l.length
  · rw [getElem?_pos _ i (by rw [mk_size]; exact h), getElem?_pos l i h]
    rfl
  · rw [getElem?_neg _ i (by rw [mk_size]; exact h), getElem?_neg l i h]
theorem evSlice_ok {P : Program} {t : TypeId} {x v : AV} {lo hi mx : Option AV} (hh : evSlice P t x lo hi mx = some v) {ρ : Loc.Map} {c : Value} {clo chi cmx : Option Value} (hx : RV ρ x c) (r1 : ROv ρ lo clo) (r2 : ROv ρ hi chi) (r3 : ROv ρ mx cmx) (w : World) :
    ∃ r, (Instr.sliceAt t c clo chi cmx).run P w = .ok r w ∧ RV ρ v r := by
  unfold evSlice at hh
  simp only [Option.bind_eq_some_iff] at hh
  obtain ⟨ti, hti, hh⟩ := hh
  obtain ⟨i, d, hi', hd, hk, _⟩ := tinfo_spec hti
  split at hh
  · rename_i l hl
    have hd' := kd_str (hk.trans hl); subst hd'
    simp only [Option.bind_eq_some_iff] at hh
    obtain ⟨a, ha, b, hb, hh⟩ := hh
    split at hh
    · obtain ⟨⟨hab, hbl⟩, hh⟩ := need_some hh
      simp at hh; subst hh
      simp only [RV] at hx; subst hx
      simp only [ROv] at r3; subst r3
      have hbs := sliceBounds_run (P := P) (isSlice := false) (cap := l.length) (m := l.length) (len := l.length) ha hb (.inl ⟨rfl, rfl⟩) r1 r2 (mx := none) rfl hab hbl w
      refine ⟨.string ⟨((l.take b).drop a).toArray⟩, ?_, rfl⟩
      simp only [Instr.sliceAt, Instr.slice, Sem.run_bind, run_underlying hd, Result.andThen_ok, Option.isSome_none, Bool.false_eq_true, if_false, Sem.run_pure, mk_size, hbs, mk_extract]
    · cases hh
  · rename_i e sz b off len mc nl he
    have hd' := kd_sl (hk.trans he); subst hd'
    simp only [Option.bind_eq_some_iff] at hh
    obtain ⟨ei, hei, l, hl, h, hhi, hh⟩ := hh
    obtain ⟨a, cap, rfl, g1, g2, g3, g4⟩ := hx
    have main : ∀ m, ((mx = none ∧ m = cap) ∨ (bnd 0 mx = some m ∧ mx ≠ none ∧ hi ≠ none ∧ m ≤ cap)) → l ≤ h → h ≤ m → (nl = false → ei.size = sz) → ∀ mc', mc' ≤ m → RV ρ (.sl sz b (off + l * sz) (h - l) (mc' - l) nl) (.slice (if m = l then a else a.map (·.add (l * ei.size))) (h - l) (m - l)) ∧
        (Instr.sliceAt t (.slice a len cap) clo chi cmx).run P w = .ok (.slice (if m = l then a else a.map (·.add (l * ei.size))) (h - l) (m - l)) w := by
      intro m hm hlh hhm hsz mc' hmc
      have hmcap : m ≤ cap := by rcases hm with ⟨_, rfl⟩ | ⟨_, _, _, hm⟩ <;> omega
      have hbs := sliceBounds_run (P := P) (isSlice := true) hl hhi hm r1 r2 r3 hlh hhm w
      refine ⟨⟨_, _, rfl, by omega, by omega, fun hn => ?_, fun hn => ?_⟩, ?_⟩
      · obtain ⟨rfl, rfl⟩ := g3 hn
        exact ⟨by simp, by omega⟩
      · obtain ⟨ad, lc, rfl, hlc, g5⟩ := g4 hn
        by_cases hml : m = l
        · exact ⟨ad, lc, by rw [if_pos hml], hlc, .inl (by omega)⟩
        · rw [if_neg hml]
          rcases g5 with g5 | ⟨rfl, g6⟩
          · omega
          · refine ⟨_, lc, rfl, hlc, .inr ⟨?_, ?_⟩⟩
            · show (⟨lc.blk, lc.base + off, none⟩ : Addr).add (l * ei.size) = _
              rw [add_eq, hsz hn, Nat.add_assoc]
            · have e1 : (m - l) * sz + l * sz = m * sz := by rw [← Nat.add_mul]; congr 1; omega
              have e2 : m * sz ≤ cap * sz := Nat.mul_le_mul_right _ hmcap
              omega
      · simp only [Instr.sliceAt, Instr.slice, Sem.run_bind, run_underlying hd, Result.andThen_ok, hbs, run_sizeOf hei, Sem.run_pure]
    split at hh
    · obtain ⟨⟨n1, n2, n3⟩, hh⟩ := need_some hh
      simp at hh; subst hh
      obtain ⟨q1, q2⟩ := main cap (.inl ⟨rfl, rfl⟩) n1 (by omega) n3 mc g2
      exact ⟨_, q2, q1⟩
    · split at hh
      · cases hh
      · simp only [Option.bind_eq_some_iff] at hh
        obtain ⟨m, hm, hh⟩ := hh
        obtain ⟨⟨n1, n2, n3, n4⟩, hh⟩ := need_some hh
        simp at hh; subst hh
        obtain ⟨q1, q2⟩ := main m (.inr ⟨hm, by simp, by simp, by omega⟩) n1 n2 n4 m (Nat.le_refl _)
        exact ⟨_, q2, q1⟩
  · cases hh
def evFieldAddr (P : Program) (t : TypeId) (x : AV) (f : Nat) : Option AV := match x with
  | .ptr b off => (tinfo P t).bind fun ti => match ti.k with
    | .struct fs => fs[f]?.bind fun p => (tinfo P p.2).bind fun fi => need (fi.size ≠ 0) (some (.ptr b (off + p.1)))
    | _ => none
  | _ => none
theorem evFieldAddr_ok {P : Program} {t : TypeId} {x v : AV} {f : Nat} (h : evFieldAddr P t x f = some v) {ρ : Loc.Map} {c : Value} (hx : RV ρ x c) (w : World) :
    ∃ r, (Instr.fieldAt t c f).run P w = .ok r w ∧ RV ρ v r := by
  unfold evFieldAddr at h
  split at h
  · simp only [Option.bind_eq_some_iff] at h
    obtain ⟨ti, hti, h⟩ := h
    obtain ⟨i, d, hi', hd, hk, _⟩ := tinfo_spec hti
    split at h
    · rename_i fs hfs
      obtain ⟨ff, rfl, hff⟩ := kd_struct (hk.trans hfs)
      simp only [Option.bind_eq_some_iff] at h
      obtain ⟨p, hp, fi, hfi, h⟩ := h
      obtain ⟨hne, h⟩ := need_some h
      simp at h; subst h
      obtain ⟨l, hl, rfl⟩ := hx
      rw [← hff, List.getElem?_map] at hp
      cases hg : ff[f]? with
      | none => rw [← Array.getElem?_toList] at hg; simp [hg] at hp
      | some fd =>
        have hg' := hg
        rw [← Array.getElem?_toList] at hg
        simp [hg] at hp; subst hp
        refine ⟨_, ?_, ⟨l, hl, rfl⟩⟩
        simp only [Instr.fieldAt, Sem.run_bind, run_underlying hd, Result.andThen_ok, hg', Instr.sureAddr, Sem.run_pure, fieldPlace, run_sizeOf hfi, Sem.run_ite, if_neg hne, add_eq]
        simp [Nat.add_assoc]
    · cases h
  · cases h
def partA (P : Program) (t : TypeId) (cs : List AV) (off : Nat) : Option AV :=
  (tinfo P t).bind fun ti => if ti.k.agg then (loadN cs off ti.size).bind fun l => some (.agg l) else cs[off]?
theorem partA_ok {P : Program} {t : TypeId} {cs : List AV} {off : Nat} {v : AV} (h : partA P t cs off = some v) {ρ : Loc.Map} {xs : Array Value} (hx : RVs ρ cs xs.toList) (w : World) :
    ∃ r, (part t xs off).run P w = .ok r w ∧ RV ρ v r := by
  unfold partA at h
  simp only [Option.bind_eq_some_iff] at h
  obtain ⟨ti, hti, h⟩ := h
  simp only [part, Sem.run_bind, run_isAgg hti, Result.andThen_ok, Sem.run_ite, run_sizeOf hti, Sem.run_pure]
  split at h
  · rename_i ha
    rw [if_pos ha]
    simp only [Option.bind_eq_some_iff] at h
    obtain ⟨l, hl, h⟩ := h
    simp at h; subst h
    obtain ⟨h1, h2⟩ := loadN_spec hl
    refine ⟨_, rfl, (xs.extract off (off + ti.size)).toList, rfl, RVs.of ?_ fun i a hi => ?_⟩
    · have hlen := hx.length
      simp only [Array.length_toList] at hlen
      have : off + ti.size ≤ xs.size ∨ ti.size = 0 := by
        rcases Nat.eq_zero_or_pos ti.size with h0 | h0
        · exact .inr h0
        · have h3 := h2 (ti.size - 1) (by omega)
          rw [List.getElem?_eq_getElem (by omega)] at h3
          have := (List.getElem?_eq_some_iff.1 h3.symm).1
          omega
      simp only [Array.toList_extract, List.extract_eq_take_drop, List.length_take, List.length_drop, Array.length_toList]
      omega
    · have hin : i < ti.size := by have := (List.getElem?_eq_some_iff.1 hi).1; omega
      rw [h2 i hin] at hi
      obtain ⟨c, hc, hr⟩ := RVs.get hx hi
      refine ⟨c, ?_, hr⟩
      simp only [Array.toList_extract, List.extract_eq_take_drop, List.getElem?_take, List.getElem?_drop]
      rw [if_pos (by omega)]
      exact hc
  · rename_i ha
    rw [if_neg ha]
    obtain ⟨c, hc, hr⟩ := RVs.get hx h
    rw [Array.getElem?_toList] at hc
    exact ⟨c, by simp [hc], hr⟩
def evField (P : Program) (t : TypeId) (x : AV) (f : Nat) : Option AV := match x with
  | .agg cs => (tinfo P t).bind fun ti => match ti.k with
    | .struct fs => fs[f]?.bind fun p => partA P p.2 cs p.1
    | _ => none
  | _ => none
theorem evField_ok {P : Program} {t : TypeId} {x v : AV} {f : Nat} (h : evField P t x f = some v) {ρ : Loc.Map} {c : Value} (hx : RV ρ x c) (w : World) :
    ∃ r, (Instr.field t c f).run P w = .ok r w ∧ RV ρ v r := by
  unfold evField at h
  split at h
  · simp only [Option.bind_eq_some_iff] at h
    obtain ⟨ti, hti, h⟩ := h
    obtain ⟨i, d, hi', hd, hk, _⟩ := tinfo_spec hti
    split at h
    · rename_i fs hfs
      obtain ⟨ff, rfl, hff⟩ := kd_struct (hk.trans hfs)
      simp only [Option.bind_eq_some_iff] at h
      obtain ⟨p, hp, h⟩ := h
      obtain ⟨cs, rfl, hcs⟩ := hx
      rw [← hff, List.getElem?_map] at hp
      cases hg : ff[f]? with
      | none => rw [← Array.getElem?_toList] at hg; simp [hg] at hp
      | some fd =>
        have hg' := hg
        rw [← Array.getElem?_toList] at hg
        simp [hg] at hp; subst hp
        obtain ⟨r, hrun, hr⟩ := partA_ok h (xs := ⟨cs⟩) hcs w
        refine ⟨r, ?_, hr⟩
        simp only [Instr.field, Sem.run_bind, run_underlying hd, Result.andThen_ok, hg', asAgg, Sem.run_pure, hrun]
    · cases h
  · cases h
def evIndexAddr (P : Program) (t : TypeId) (x i : AV) : Option AV := match x, i with
  | .sl sz b off len _ _, .int _ n => (tinfo P t).bind fun ti => match ti.k with
    | .sl e => (tinfo P e).bind fun ei => need (ei.size = sz ∧ 0 ≤ n ∧ n < len) (some (.ptr b (off + n.toNat * sz)))
    | _ => none
  | .ptr b off, .int _ n => (tinfo P t).bind fun ti => match ti.k with
    | .arr len e => (tinfo P e).bind fun ei => need (0 ≤ n ∧ n < len) (some (.ptr b (off + n.toNat * ei.size)))
    | _ => none
  | _, _ => none
theorem evIndexAddr_ok {P : Program} {t : TypeId} {x i v : AV} (h : evIndexAddr P t x i = some v) {ρ : Loc.Map} {c ci : Value} (hx : RV ρ x c) (hi : RV ρ i ci) (w : World) :
    ∃ r, (Instr.indexAt t c ci).run P w = .ok r w ∧ RV ρ v r := by
  unfold evIndexAddr at h
  split at h
  · simp only [Option.bind_eq_some_iff] at h
    obtain ⟨ti, hti, h⟩ := h
    obtain ⟨_, d, _, hd, hk, _⟩ := tinfo_spec hti
    split at h
    · rename_i e he
      have hd' := kd_sl (hk.trans he); subst hd'
      simp only [Option.bind_eq_some_iff] at h
      obtain ⟨ei, hei, h⟩ := h
      obtain ⟨⟨hs, h0, hlt⟩, h⟩ := need_some h
      simp at h; subst h
      simp only [RV] at hi; subst hi
      obtain ⟨l, cap, hl, rfl, _⟩ := RV.sl_at hx (by omega)
      refine ⟨_, ?_, ⟨l, hl, rfl⟩⟩
      simp only [Instr.indexAt, asIntOf, Sem.run_bind, Sem.run_pure, run_underlying hd, Result.andThen_ok, Sem.run_ite, run_sizeOf hei]
      rw [if_pos ⟨h0, hlt⟩, hs, add_eq, Nat.add_assoc]
    · cases h
  · simp only [Option.bind_eq_some_iff] at h
    obtain ⟨ti, hti, h⟩ := h
    obtain ⟨_, d, _, hd, hk, _⟩ := tinfo_spec hti
    split at h
    · rename_i len e he
      have hd' := kd_arr (hk.trans he); subst hd'
      simp only [Option.bind_eq_some_iff] at h
      obtain ⟨ei, hei, h⟩ := h
      obtain ⟨⟨h0, hlt⟩, h⟩ := need_some h
      simp at h; subst h
      simp only [RV] at hi; subst hi
      obtain ⟨l, hl, rfl⟩ := hx
      refine ⟨_, ?_, ⟨l, hl, rfl⟩⟩
      simp only [Instr.indexAt, asIntOf, Sem.run_bind, Sem.run_pure, run_underlying hd, Result.andThen_ok, Sem.run_ite, run_sizeOf hei, Instr.sureAddr]
      rw [if_pos ⟨h0, hlt⟩, add_eq, Nat.add_assoc]
    · cases h
  · cases h
def evIndex (P : Program) (t : TypeId) (x i : AV) : Option AV := match x, i with
  | .str l, .int _ n => (tinfo P t).bind fun ti => match ti.k with
    | .str => need (0 ≤ n) (l[n.toNat]?.bind fun b => some (.int .u8 b.toNat))
    | _ => none
  | .agg cs, .int _ n => (tinfo P t).bind fun ti => match ti.k with
    | .arr len e => (tinfo P e).bind fun ei => need (0 ≤ n ∧ n < len) (partA P e cs (n.toNat * ei.size))
    | _ => none
  | _, _ => none
theorem evIndex_ok {P : Program} {t : TypeId} {x i v : AV} (h : evIndex P t x i = some v) {ρ : Loc.Map} {c ci : Value} (hx : RV ρ x c) (hi : RV ρ i ci) (w : World) :
    ∃ r, (Instr.index t c ci).run P w = .ok r w ∧ RV ρ v r := by
  unfold evIndex at h
  split at h
  · simp only [Option.bind_eq_some_iff] at h
    obtain ⟨ti, hti, h⟩ := h
    obtain ⟨_, d, _, hd, hk, _⟩ := tinfo_spec hti
    split at h
    · rename_i he
      have hd' := kd_str (hk.trans he); subst hd'
      obtain ⟨h0, h⟩ := need_some h
      simp only [Option.bind_eq_some_iff] at h
      obtain ⟨b, hb, h⟩ := h
      simp at h; subst h
      simp only [RV] at hi hx; subst hi; subst hx
      refine ⟨_, ?_, rfl⟩
      simp only [Instr.index, asIntOf, Sem.run_bind, Sem.run_pure, run_underlying hd, Result.andThen_ok, if_pos h0, mk_get, hb]
    · cases h
  · simp only [Option.bind_eq_some_iff] at h
    obtain ⟨ti, hti, h⟩ := h
    obtain ⟨_, d, _, hd, hk, _⟩ := tinfo_spec hti
    split at h
    · rename_i len e he
      have hd' := kd_arr (hk.trans he); subst hd'
      simp only [Option.bind_eq_some_iff] at h
      obtain ⟨ei, hei, h⟩ := h
      obtain ⟨⟨h0, hlt⟩, h⟩ := need_some h
      simp only [RV] at hi; subst hi
      obtain ⟨cs', rfl, hcs⟩ := hx
      obtain ⟨r, hrun, hr⟩ := partA_ok h (xs := ⟨cs'⟩) hcs w
      refine ⟨r, ?_, hr⟩
      simp only [Instr.index, asIntOf, Sem.run_bind, Sem.run_pure, run_underlying hd, Result.andThen_ok, Sem.run_ite, run_sizeOf hei]
      rw [if_pos ⟨h0, hlt⟩]
      exact hrun
    · cases h
  · cases h
end Gab
end
section
set_option linter.unusedSimpArgs false
set_option linter.unusedVariables false
namespace Gab
open Go
def bitsA (op : BinOp) (k : IntKind) (x y : Int) : Int :=
  let a := BitVec.ofInt k.bits x
  let b := BitVec.ofInt k.bits y
  match op with
  | .and => k.wrap (a &&& b).toNat
  | .or => k.wrap (a ||| b).toNat
  | .xor => k.wrap (a ^^^ b).toNat
  | _ => k.wrap (a &&& ~~~b).toNat
def evInt (op : BinOp) (k : IntKind) (a : Int) (k' : IntKind) (b : Int) : Option AV := match op with
  | .shl => need (0 ≤ b) (some (.int k (k.wrap (a * 2 ^ (min b.toNat k.bits)))))
  | .shr => need (0 ≤ b) (some (.int k (a.fdiv (2 ^ (min b.toNat k.bits)))))
  | .add => if k = k' then some (.int k (k.wrap (a + b))) else none
  | .sub => if k = k' then some (.int k (k.wrap (a - b))) else none
  | .mul => if k = k' then some (.int k (k.wrap (a * b))) else none
  | .quo => if k = k' then need (b ≠ 0) (some (.int k (k.wrap (a.tdiv b)))) else none
  | .rem => if k = k' then need (b ≠ 0) (some (.int k (a.tmod b))) else none
  | .and => if k = k' then some (.int k (bitsA .and k a b)) else none
  | .or => if k = k' then some (.int k (bitsA .or k a b)) else none
  | .xor => if k = k' then some (.int k (bitsA .xor k a b)) else none
  | .andNot => if k = k' then some (.int k (bitsA .andNot k a b)) else none
  | .eql => if k = k' then some (.bool (decide (a = b))) else none
  | .neq => if k = k' then some (.bool (decide (a ≠ b))) else none
  | .lss => if k = k' then some (.bool (decide (a < b))) else none
  | .leq => if k = k' then some (.bool (decide (a ≤ b))) else none
  | .gtr => if k = k' then some (.bool (decide (b < a))) else none
  | .geq => if k = k' then some (.bool (decide (b ≤ a))) else none
theorem evInt_ok {P : Program} {op : BinOp} {k k' : IntKind} {a b : Int} {v : AV} (h : evInt op k a k' b = some v) (t : TypeId) (ρ : Loc.Map) (w : World) :
    ∃ r, (binOp op t (.int k a) (.int k' b)).run P w = .ok r w ∧ RV ρ v r := by
  by_cases hk : k = k'
  · subst hk
    cases op <;> simp only [evInt, if_true] at h
    case shl =>
      obtain ⟨h0, h⟩ := need_some h
      simp at h; subst h
      exact ⟨_, by simp only [binOp, Op.shift]; rw [if_neg (by omega)]; rfl, rfl⟩
    case shr =>
      obtain ⟨h0, h⟩ := need_some h
      simp at h; subst h
      exact ⟨_, by simp only [binOp, Op.shift]; rw [if_neg (by omega)]; rfl, rfl⟩
    case quo =>
      obtain ⟨h0, h⟩ := need_some h
      simp at h; subst h
      exact ⟨_, by simp [binOp, Op.intDiv, h0], rfl⟩
    case rem =>
      obtain ⟨h0, h⟩ := need_some h
      simp at h; subst h
      exact ⟨_, by simp [binOp, Op.intDiv, h0], rfl⟩
    all_goals
      simp only [Option.some.injEq] at h
      subst h
      simp only [binOp, ne_eq, not_true_eq_false, if_false, Op.intArith, Op.intBits, Op.intCmp, bitsA, RV]
      refine ⟨_, rfl, ?_⟩
    all_goals try rfl
    all_goals simp [bne, BEq.beq]
  · cases op <;> simp only [evInt, if_neg hk] at h <;> try (cases h; done)
    case shl =>
      obtain ⟨h0, h⟩ := need_some h
      simp at h; subst h
      exact ⟨_, by simp only [binOp, Op.shift]; rw [if_neg (by omega)]; rfl, rfl⟩
    case shr =>
      obtain ⟨h0, h⟩ := need_some h
      simp at h; subst h
      exact ⟨_, by simp only [binOp, Op.shift]; rw [if_neg (by omega)]; rfl, rfl⟩
def eqFields (P : Program) (xs ys : List AV) : List (Nat × TypeId) → Option Bool
  | [] => some true
  | (o, t) :: r => (tinfo P t).bind fun ti => match ti.k with
    | .int _ | .bool | .str => xs[o]?.bind fun a => ys[o]?.bind fun b => match ti.k, a, b with
      | .int _, .int k n, .int k' m => if k = k' then (eqFields P xs ys r).bind fun e => some (decide (n = m) && e) else none
      | .bool, .bool n, .bool m => (eqFields P xs ys r).bind fun e => some (decide (n = m) && e)
      | .str, .str n, .str m => (eqFields P xs ys r).bind fun e => some (decide (n = m) && e)
      | _, _, _ => none
    | _ => none
theorem eqFields_ok {P : Program} {ρ : Loc.Map} {xs ys : List AV} {xv yv : Array Value} (hx : RVs ρ xs xv.toList) (hy : RVs ρ ys yv.toList) (d : Nat) (w : World) : ∀ {fs : List Field} {b : Bool}, (∀ f ∈ fs, f.name ≠ "_") →
    eqFields P xs ys (fs.map fun f => (f.offset, f.type)) = some b → (Op.eqFields (d + 1) xv yv fs).run P w = .ok b w
  | [], b, _, h => by simp [eqFields] at h; subst h; rfl
  | f :: fs, b, hn, h => by
    simp only [List.map_cons, eqFields, Option.bind_eq_some_iff] at h
    obtain ⟨ti, hti, h⟩ := h
    have hnn := hn f (by simp)
    obtain ⟨i, dd, hi, hd, hk, _⟩ := tinfo_spec hti
    have part_at : ti.k.agg = false → ∀ {l : List AV} {lv : Array Value} {a : AV}, RVs ρ l lv.toList → l[f.offset]? = some a → ∃ c, (part f.type lv f.offset).run P w = .ok c w ∧ RV ρ a c := by
      intro hag l lv a hl ha
      obtain ⟨c, hc, hr⟩ := RVs.get hl ha
      rw [Array.getElem?_toList] at hc
      exact ⟨c, by simp [part, run_isAgg hti, hag, hc], hr⟩
    have step : ∀ {e : Bool} {A B : Value} {q : Bool}, (part f.type xv f.offset).run P w = .ok A w → (part f.type yv f.offset).run P w = .ok B w → (Op.equalIn (d + 1) f.type A B).run P w = .ok q w →
        eqFields P xs ys (fs.map fun f => (f.offset, f.type)) = some e → b = (q && e) → (Op.eqFields (d + 1) xv yv (f :: fs)).run P w = .ok b w := by
      intro e A B q h1 h2 h3 h4 h5
      simp only [Op.eqFields, if_pos hnn, Sem.run_bind, h1, h2, h3, Result.andThen_ok, Sem.run_ite, Sem.run_pure]
      cases q with
      | false => simp at h5; subst h5; rfl
      | true =>
        simp only [Bool.true_and] at h5; subst h5
        simpa using eqFields_ok hx hy d w (fun g hg => hn g (by simp [hg])) h4
    split at h
    · rename_i k hkk
      have hd' := kd_int (hk.trans hkk)
      subst hd'
      simp only [Option.bind_eq_some_iff] at h
      obtain ⟨a, ha, c, hc, h⟩ := h
      obtain ⟨A, hA, rA⟩ := part_at (by rw [hkk]; rfl) hx ha
      obtain ⟨B, hB, rB⟩ := part_at (by rw [hkk]; rfl) hy hc
      rw [hkk] at h
      split at h <;> rename_i e1 <;> try (cases e1; done)
      · split at h
        · rename_i hkk'
          simp only [Option.bind_eq_some_iff] at h
          obtain ⟨e, he, h⟩ := h
          simp only [Option.some.injEq] at h
          simp only [RV] at rA rB
          subst rA; subst rB
          rw [← hkk'] at hB
          refine step hA hB (run_equalIn_int w d f.type _ _ _ _ hd) he ?_
          rw [← h]; simp [BEq.beq]
        · cases h
      · cases h
    · rename_i hkk
      have hd' := kd_bool (hk.trans hkk)
      subst hd'
      simp only [Option.bind_eq_some_iff] at h
      obtain ⟨a, ha, c, hc, h⟩ := h
      obtain ⟨A, hA, rA⟩ := part_at (by rw [hkk]; rfl) hx ha
      obtain ⟨B, hB, rB⟩ := part_at (by rw [hkk]; rfl) hy hc
      rw [hkk] at h
      split at h <;> rename_i e1 <;> try (cases e1; done)
      · simp only [Option.bind_eq_some_iff] at h
        obtain ⟨e, he, h⟩ := h
        simp only [Option.some.injEq] at h
        simp only [RV] at rA rB
        subst rA; subst rB
        refine step hA hB (run_equalIn_bool' w d f.type _ _ hd) he ?_
        rw [← h]; simp [BEq.beq]
      · cases h
    · rename_i hkk
      have hd' := kd_str (hk.trans hkk)
      subst hd'
      simp only [Option.bind_eq_some_iff] at h
      obtain ⟨a, ha, c, hc, h⟩ := h
      obtain ⟨A, hA, rA⟩ := part_at (by rw [hkk]; rfl) hx ha
      obtain ⟨B, hB, rB⟩ := part_at (by rw [hkk]; rfl) hy hc
      rw [hkk] at h
      split at h <;> rename_i e1 <;> try (cases e1; done)
      · simp only [Option.bind_eq_some_iff] at h
        obtain ⟨e, he, h⟩ := h
        simp only [Option.some.injEq] at h
        simp only [RV] at rA rB
        subst rA; subst rB
        refine step hA hB (run_equalIn_string w d f.type _ _ hd) he ?_
        rw [← h, mk_toList, mk_toList]
        rw [Bool.eq_iff_iff]; simp
      · cases h
    · cases h
def flatStruct (P : Program) (t : TypeId) : Bool := match P.underlying t with
  | some (.struct fs) => !P.stoodInHeld t && !P.eqGuardType P.depth t && fs.toList.all fun f => f.name != "_"
  | _ => false
def flatArr (P : Program) (t : TypeId) : Bool := match P.underlying t with
  | some (.array _ _) => !P.eqGuardType P.depth t
  | _ => false
def arrFields (e sz : Nat) (is : List Nat) : List (Nat × TypeId) := is.map fun i => (i * sz, e)
def itemF (e c i : Nat) : Field := ⟨"x", e, i * c, false, "", "", 0⟩
theorem eqItems_fields (d e c : Nat) (xs ys : Array Value) : ∀ is : List Nat, Op.eqItems d e c xs ys is = Op.eqFields d xs ys (is.map (itemF e c))
  | [] => rfl
  | i :: is => by
    rw [List.map_cons, Op.eqItems, Op.eqFields, if_pos (show (itemF e c i).name ≠ "_" by show "x" ≠ "_"; decide), eqItems_fields d e c xs ys is]; rfl
def evEq (P : Program) (t : TypeId) (a b : AV) : Option Bool := match a, b with
  | .bool x, .bool y => (tinfo P t).bind fun ti => match ti.k with
    | .bool => some (decide (x = y))
    | _ => none
  | .str x, .str y => some (decide (x = y))
  | .agg xs, .agg ys => if flatStruct P t then (tinfo P t).bind fun ti => match ti.k with
      | .struct fs => eqFields P xs ys fs
      | _ => none
    else if flatArr P t then (tinfo P t).bind fun ti => match ti.k with
      | .arr n e => (tinfo P e).bind fun ei => eqFields P xs ys (arrFields e ei.size (List.range n))
      | _ => none
    else none
  | .sl _ _ _ _ _ nl, .sl _ _ _ _ _ nl' => (tinfo P t).bind fun ti => match ti.k with
    | .sl _ => if nl' then some nl else if nl then some nl' else none
    | _ => none
  | .ptr _ _, .nilptr => (tinfo P t).bind fun ti => match ti.k with
    | .ptr _ => some false
    | _ => none
  | .nilptr, .ptr _ _ => (tinfo P t).bind fun ti => match ti.k with
    | .ptr _ => some false
    | _ => none
  | .nilptr, .nilptr => (tinfo P t).bind fun ti => match ti.k with
    | .ptr _ => some true
    | _ => none
  | _, _ => none
theorem eq_both {P : Program} {t : TypeId} {x y : Value} {q : Bool} {ox oy : Operand} {w : World} (hb : binOp .eql t x y = (do pure (.bool (← Op.equal t x y)))) (hb' : binOp .neq t x y = (do pure (.bool (!(← Op.equal t x y)))))
    (hg : ∀ op, (eqGuard op t ox oy x y).run P w = .ok () w) (he : ∀ d, (Op.equalIn (d + 1) t x y).run P w = .ok q w) :
    (do eqGuard .eql t ox oy x y; binOp .eql t x y).run P w = .ok (.bool q) w ∧ (do eqGuard .neq t ox oy x y; binOp .neq t x y).run P w = .ok (.bool !q) w := by
  have h9 := he 9999
  constructor
  · simp only [Sem.run_bind, hg, Result.andThen_ok, hb, Op.equal, Op.maxDepth, h9, Sem.run_pure]
  · simp only [Sem.run_bind, hg, Result.andThen_ok, hb', Op.equal, Op.maxDepth, h9, Sem.run_pure]
theorem evEq_ok {P : Program} {t : TypeId} {a b : AV} {q : Bool} (h : evEq P t a b = some q) {ρ : Loc.Map} {x y : Value} (hx : RV ρ a x) (hy : RV ρ b y) (ox oy : Operand) (w : World) :
    (do eqGuard .eql t ox oy x y; binOp .eql t x y).run P w = .ok (.bool q) w ∧ (do eqGuard .neq t ox oy x y; binOp .neq t x y).run P w = .ok (.bool !q) w := by
  unfold evEq at h
  split at h
  · simp only [Option.bind_eq_some_iff] at h
    obtain ⟨ti, hti, h⟩ := h
    obtain ⟨i, d, hi, hd, hk, _⟩ := tinfo_spec hti
    split at h
    · rename_i hkk
      have hd' := kd_bool (hk.trans hkk); subst hd'
      simp at h; subst h
      simp only [RV] at hx hy; subst hx; subst hy
      exact eq_both rfl rfl (fun op => by cases op <;> rfl) (fun d => by rw [run_equalIn_bool' w d t _ _ hd]; rfl)
    · cases h
  · simp at h; subst h
    simp only [RV] at hx hy; subst hx; subst hy
    have e1 : ∀ (l m : List UInt8), (l == m) = decide (l = m) := fun l m => by rw [Bool.eq_iff_iff]; simp
    constructor
    · simp only [eqGuard, binOp, Op.stringOp, Sem.run_bind, mk_toList, e1]
      simp
    · simp only [eqGuard, binOp, Op.stringOp, Sem.run_bind, mk_toList, e1]
      simp
  · split at h
    · rename_i xs ys hfl
      simp only [Option.bind_eq_some_iff] at h
      obtain ⟨ti, hti, h⟩ := h
      obtain ⟨i, d, hi, hd, hk, _⟩ := tinfo_spec hti
      split at h
      · rename_i fs hfs
        obtain ⟨ff, rfl, hff⟩ := kd_struct (hk.trans hfs)
        simp only [flatStruct, hd, Bool.and_eq_true, Bool.not_eq_true', List.all_eq_true] at hfl
        obtain ⟨⟨h1, h2⟩, h3⟩ := hfl
        obtain ⟨xv, rfl, hxv⟩ := hx
        obtain ⟨yv, rfl, hyv⟩ := hy
        have hfo : P.fieldsOf t = ff := by simp [Program.fieldsOf, hd]
        rw [← hff] at h
        have he := eqFields_ok (P := P) (xv := ⟨xv⟩) (yv := ⟨yv⟩) hxv hyv 9998 w (fun f hf => by simpa using h3 f hf) h
        have heq : (Op.equalIn 10000 t (.agg ⟨xv⟩) (.agg ⟨yv⟩)).run P w = .ok q w := by
          rw [run_equalIn_struct w 9999 t ⟨xv⟩ ⟨yv⟩ (by rw [hfo]; exact hd) h1, hfo]
          exact he
        constructor
        · simp only [Sem.run_bind, run_eqGuard_agg w _ _ _ _ _ _ h2, Result.andThen_ok, run_eql_struct, heq]
        · simp only [Sem.run_bind, run_eqGuard_agg w _ _ _ _ _ _ h2, Result.andThen_ok, run_neq_struct, heq]
      · cases h
    · split at h
      · rename_i xs ys hfl0 hfl
        simp only [Option.bind_eq_some_iff] at h
        obtain ⟨ti, hti, h⟩ := h
        obtain ⟨i, d, hi, hd, hk, _⟩ := tinfo_spec hti
        split at h
        · rename_i n e hfs
          have hd' := kd_arr (hk.trans hfs)
          subst hd'
          simp only [Option.bind_eq_some_iff] at h
          obtain ⟨ei, hei, h⟩ := h
          obtain ⟨ie, de, hie, _, _, hse, _⟩ := tinfo_spec hei
          simp only [flatArr, hd, Bool.not_eq_true'] at hfl
          obtain ⟨xv, rfl, hxv⟩ := hx
          obtain ⟨yv, rfl, hyv⟩ := hy
          have hce : P.cellsOf e = ei.size := by simp only [Program.cellsOf, hie]; exact hse
          have he := eqFields_ok (P := P) (xv := ⟨xv⟩) (yv := ⟨yv⟩) hxv hyv 9998 w (fs := (List.range n).map (itemF e ei.size)) (fun f hf => by
            obtain ⟨j, _, rfl⟩ := List.mem_map.1 hf
            show "x" ≠ "_"; decide) (by rw [List.map_map]; exact h)
          have heq : (Op.equalIn 10000 t (.agg ⟨xv⟩) (.agg ⟨yv⟩)).run P w = .ok q w := by
            rw [run_equalIn_array w 9999 ⟨xv⟩ ⟨yv⟩ hd hie, hce, eqItems_fields]
            exact he
          constructor
          · simp only [Sem.run_bind, run_eqGuard_agg w _ _ _ _ _ _ hfl, Result.andThen_ok, run_eql_struct, heq]
          · simp only [Sem.run_bind, run_eqGuard_agg w _ _ _ _ _ _ hfl, Result.andThen_ok, run_neq_struct, heq]
        · cases h
      · cases h
  · rename_i nl1 _ _ _ _ _ nl2
    simp only [Option.bind_eq_some_iff] at h
    obtain ⟨ti, hti, h⟩ := h
    obtain ⟨i, d, hi, hd, hk, _⟩ := tinfo_spec hti
    split at h
    · rename_i e he
      have hd' := kd_sl (hk.trans he); subst hd'
      obtain ⟨ax, cx, rfl, _, _, n1, n2⟩ := hx
      obtain ⟨ay, cy, rfl, _, _, m1, m2⟩ := hy
      split at h
      · rename_i hnl
        obtain ⟨rfl, rfl⟩ := m1 hnl
        simp at h; subst h
        cases hq : ax with
        | none =>
          cases nl1 with
          | true => exact eq_both rfl rfl (fun op => by cases op <;> rfl) (fun d => by simp [Op.equalIn, run_underlying hd])
          | false => obtain ⟨ad, _, e, _⟩ := n2 rfl; rw [hq] at e; cases e
        | some ad =>
          cases nl1 with
          | true => obtain ⟨e, _⟩ := n1 rfl; rw [hq] at e; cases e
          | false => exact eq_both rfl rfl (fun op => by cases op <;> rfl) (fun d => by simp [Op.equalIn, run_underlying hd])
      · rename_i hnl
        split at h
        · rename_i hnl'
          obtain ⟨rfl, rfl⟩ := n1 hnl'
          have hf : nl2 = false := by simpa using hnl
          obtain ⟨ad, _, rfl, _⟩ := m2 hf
          simp only [Option.some.injEq] at h
          rw [← h, hf]
          exact eq_both rfl rfl (fun op => by cases op <;> rfl) (fun d => by simp [Op.equalIn, run_underlying hd])
        · cases h
    · cases h
  · simp only [Option.bind_eq_some_iff] at h
    obtain ⟨ti, hti, h⟩ := h
    obtain ⟨i, d, hi, hd, hk, _⟩ := tinfo_spec hti
    split at h
    · rename_i e he
      have hd' := kd_ptr (hk.trans he); subst hd'
      obtain ⟨l, _, rfl⟩ := hx
      simp only [RV] at hy; subst hy
      simp at h; subst h
      exact eq_both rfl rfl (fun op => by cases op <;> rfl) (fun d => by simp [Op.equalIn, run_underlying hd])
    · cases h
  · simp only [Option.bind_eq_some_iff] at h
    obtain ⟨ti, hti, h⟩ := h
    obtain ⟨i, d, hi, hd, hk, _⟩ := tinfo_spec hti
    split at h
    · rename_i e he
      have hd' := kd_ptr (hk.trans he); subst hd'
      obtain ⟨l, _, rfl⟩ := hy
      simp only [RV] at hx; subst hx
      simp at h; subst h
      exact eq_both rfl rfl (fun op => by cases op <;> rfl) (fun d => by simp [Op.equalIn, run_underlying hd])
    · cases h
  · simp only [Option.bind_eq_some_iff] at h
    obtain ⟨ti, hti, h⟩ := h
    obtain ⟨i, d, hi, hd, hk, _⟩ := tinfo_spec hti
    split at h
    · rename_i e he
      have hd' := kd_ptr (hk.trans he); subst hd'
      simp only [RV] at hx hy; subst hx; subst hy
      simp at h; subst h
      exact eq_both rfl rfl (fun op => by cases op <;> rfl) (fun d => by simp [Op.equalIn, run_underlying hd])
    · cases h
  · cases h
def evStr (op : BinOp) (x y : List UInt8) : Option AV := match op with
  | .add => need (x.length + y.length ≤ 9223372036854775807) (some (.str (x ++ y)))
  | .lss => some (.bool (Op.bytesLess x y))
  | .leq => some (.bool (Op.bytesLess x y || decide (x = y)))
  | .gtr => some (.bool !(Op.bytesLess x y || decide (x = y)))
  | .geq => some (.bool !(Op.bytesLess x y))
  | _ => none
theorem evStr_ok {P : Program} {op : BinOp} {x y : List UInt8} {v : AV} (h : evStr op x y = some v) (t : TypeId) (ρ : Loc.Map) (w : World) :
    ∃ r, (binOp op t (.string ⟨x.toArray⟩) (.string ⟨y.toArray⟩)).run P w = .ok r w ∧ RV ρ v r := by
  cases op <;> simp only [evStr] at h <;> try (cases h; done)
  case add =>
    obtain ⟨h0, h⟩ := need_some h
    simp at h; subst h
    refine ⟨_, ?_, rfl⟩
    simp only [binOp, Op.stringOp, mk_size, mk_append]
    rw [if_neg (by simp only [IntKind.max, IntKind.signed, IntKind.bits, if_true]; omega)]
    rfl
  all_goals
    simp at h; subst h
    refine ⟨_, rfl, ?_⟩
    simp [RV, mk_toList]
  all_goals
    try rw [Bool.eq_iff_iff]
    try simp
def evBin (P : Program) (op : BinOp) (t : TypeId) (a b : AV) : Option AV := match a, b with
  | .int k x, .int k' y => evInt op k x k' y
  | a, b => match op with
    | .eql => (evEq P t a b).bind fun q => some (.bool q)
    | .neq => (evEq P t a b).bind fun q => some (.bool !q)
    | op => match a, b with
      | .str x, .str y => evStr op x y
      | _, _ => none
theorem evBin_ok {P : Program} {op : BinOp} {t : TypeId} {a b v : AV} (h : evBin P op t a b = some v) {ρ : Loc.Map} {x y : Value} (hx : RV ρ a x) (hy : RV ρ b y) (ox oy : Operand) (w : World) :
    ∃ r, (do eqGuard op t ox oy x y; binOp op t x y).run P w = .ok r w ∧ RV ρ v r := by
  unfold evBin at h
  split at h
  · simp only [RV] at hx hy; subst hx; subst hy
    obtain ⟨r, hr, hv⟩ := evInt_ok (P := P) h t ρ w
    refine ⟨r, ?_, hv⟩
    have : ∀ k a k' b, (eqGuard op t ox oy (.int k a) (.int k' b)).run P w = .ok () w := fun _ _ _ _ => by cases op <;> rfl
    simp only [Sem.run_bind, this, Result.andThen_ok, hr]
  · split at h
    · simp only [Option.bind_eq_some_iff] at h
      obtain ⟨q, hq, h⟩ := h
      simp at h; subst h
      exact ⟨_, (evEq_ok hq hx hy ox oy w).1, rfl⟩
    · simp only [Option.bind_eq_some_iff] at h
      obtain ⟨q, hq, h⟩ := h
      simp at h; subst h
      exact ⟨_, (evEq_ok hq hx hy ox oy w).2, rfl⟩
    · split at h
      · simp only [RV] at hx hy; subst hx; subst hy
        obtain ⟨r, hr, hv⟩ := evStr_ok (P := P) h t ρ w
        refine ⟨r, ?_, hv⟩
        have : ∀ a b, (eqGuard op t ox oy (.string a) (.string b)).run P w = .ok () w := fun _ _ => by cases op <;> rfl
        simp only [Sem.run_bind, this, Result.andThen_ok, hr]
      · cases h
def evUn (op : UnOp) (a : AV) : Option AV := match op, a with
  | .not, .bool b => some (.bool !b)
  | .neg, .int k n => some (.int k (k.wrap (0 - n)))
  | .xor, .int k n => some (.int k (bitsA .xor k (if k.signed then -1 else k.max) n))
  | _, _ => none
theorem evUn_ok {P : Program} {op : UnOp} {a v : AV} (h : evUn op a = some v) {ρ : Loc.Map} {x : Value} (hx : RV ρ a x) (w : World) : ∃ r, (Op.unary op x).run P w = .ok r w ∧ RV ρ v r := by
  unfold evUn at h
  split at h
  · simp only [RV] at hx; subst hx; simp only [Option.some.injEq] at h; subst h; exact ⟨_, rfl, rfl⟩
  · simp only [RV] at hx; subst hx; simp only [Option.some.injEq] at h; subst h; exact ⟨_, rfl, rfl⟩
  · simp only [RV] at hx; subst hx; simp only [Option.some.injEq] at h; subst h; exact ⟨_, rfl, rfl⟩
  · cases h
def AV.pick (t : Bool) (a b : AV) : AV := match a, b with
  | .bool x, .bool y => .bool (if t then x else y)
  | a, b => if t then a else b
theorem RV.pick {ρ : Loc.Map} {t : Bool} {a b : AV} {x y : Value} (hx : RV ρ a x) (hy : RV ρ b y) : RV ρ (AV.pick t a b) (if t then x else y) := by
  unfold AV.pick
  split
  · simp only [RV] at *; subst hx; subst hy; cases t <;> rfl
  · cases t <;> simpa
end Gab
end
section
set_option linter.unusedSimpArgs false
set_option linter.unusedVariables false
namespace Gab
open Go
theorem Rel.allocF {ρ : Loc.Map} {st : St} {w : World} (h : Rel ρ st w) {cs : List AV} {ds : Array Value} (hc : ∀ (i : Nat) (v : AV), cs[i]? = some v → ∃ x, ds[i]? = some x ∧ RV ρ v x) (e : TypeId) (fz : Nat × Nat) (hfz : ∀ j, j < ds.size → ¬ (fz.1 ≤ j ∧ j < fz.2)) {w' : World} (hw : w'.heap = w.heap.push (.cells ds e fz)) (ho : w'.os = w.os) (ht : w'.tape = w.tape) (hp : w'.output = w.output) (hd : w.drawn ≤ w'.drawn) :
    Rel (ρ ++ [⟨w.heap.size, 0, ds.size⟩]) (st.push (.blk cs true)) w' ∧ Step st.n ρ st w (ρ ++ [⟨w.heap.size, 0, ds.size⟩]) (st.push (.blk cs true)) w' ∧ (ρ ++ [(⟨w.heap.size, 0, ds.size⟩ : Loc)])[st.n]? = some ⟨w.heap.size, 0, ds.size⟩ := by
  have hold : ∀ k, k < w.heap.size → w'.heap[k]? = w.heap[k]? := fun k hk => by rw [hw, Array.getElem?_push, if_neg (by omega)]
  have hnew : w'.heap[w.heap.size]? = some (.cells ds e fz) := by rw [hw, Array.getElem?_push, if_pos rfl]
  have hloc : (ρ ++ [(⟨w.heap.size, 0, ds.size⟩ : Loc)])[st.n]? = some ⟨w.heap.size, 0, ds.size⟩ := by rw [← h.len]; simp
  have hof : ∀ b o, (st.push (.blk cs true)).get b = some o → (b = st.n ∧ o = .blk cs true) ∨ (b < st.n ∧ st.get b = some o) := fun b o hb => by
    rw [St.push_get] at hb
    split at hb
    · exact .inl ⟨‹_›, by simpa using hb.symm⟩
    · exact .inr ⟨h.lt hb, hb⟩
  have hobj : ∀ b o, (st.push (.blk cs true)).get b = some o → ∃ l, (ρ ++ [(⟨w.heap.size, 0, ds.size⟩ : Loc)])[b]? = some l ∧ ObjRel (ρ ++ [⟨w.heap.size, 0, ds.size⟩]) o l w' := by
    intro b o hb
    rcases hof b o hb with ⟨rfl, rfl⟩ | ⟨hlt, hb⟩
    · refine ⟨_, hloc, _, _, _, hnew, rfl, fun i v hi => ?_, fun _ j hj => hfz j hj⟩
      obtain ⟨x, hx, hr⟩ := hc i v hi
      exact ⟨x, by simpa using hx, RV.sup (Sup.append _ _) _ _ hr⟩
    · obtain ⟨l, hl, hr⟩ := h.obj b o hb
      exact ⟨l, Sup.append _ _ _ _ hl, (hr.world (hold _ hr.lt)).sup (Sup.append _ _)⟩
  have hloc' : ∀ b o l, b < st.n → st.get b = some o → (ρ ++ [(⟨w.heap.size, 0, ds.size⟩ : Loc)])[b]? = some l → ρ[b]? = some l ∧ l.blk < w.heap.size := fun b o l hlt hb hl => by
    rw [List.getElem?_append_left (by have := h.len; omega)] at hl
    obtain ⟨l', hl', hr⟩ := h.obj b o hb
    rw [hl] at hl'; simp at hl'; subst hl'
    exact ⟨hl, hr.lt⟩
  refine gi3 h ⟨⟨by simp [St.push_n, h.len], hobj, ?_⟩, ⟨Ext.append _ _ (by have := h.len; omega), ho, ht, hp, hd, by rw [hw]; simp, fun k hk _ => hold k hk, ?_⟩, hloc⟩
  · intro b b' l l' o o' hne hb hrw hb' hl hl'
    rcases hof b o hb with ⟨rfl, rfl⟩ | ⟨hlt, hb⟩ <;> rcases hof b' o' hb' with ⟨rfl, rfl⟩ | ⟨hlt', hb'⟩
    · exact absurd rfl hne
    · rw [hloc] at hl; simp at hl; subst hl
      have := (hloc' b' o' l' hlt' hb' hl').2
      show w.heap.size ≠ l'.blk; omega
    · rw [hloc] at hl'; simp at hl'; subst hl'
      have := (hloc' b o l hlt hb hl).2
      show l.blk ≠ w.heap.size; omega
    · exact h.sep b b' l l' o o' hne hb hrw hb' (hloc' b o l hlt hb hl).1 (hloc' b' o' l' hlt' hb' hl').1
  · intro b o l hb hrw hl hlt
    rcases hof b o hb with ⟨rfl, rfl⟩ | ⟨hlt', hb⟩
    · rw [hloc] at hl; simp at hl; subst hl; exact absurd hlt (by show ¬ w.heap.size < w.heap.size; omega)
    · exact ⟨b, o, l, hb, hrw, (hloc' b o l hlt' hb hl).1, rfl⟩
theorem Rel.kill {ρ : Loc.Map} {st : St} {w : World} (h : Rel ρ st w) (b : Nat) : Rel ρ (st.kill b) w ∧ Step st.n ρ st w ρ (st.kill b) w := by
  have hof : ∀ i o, (st.kill b).get i = some o → st.get i = some o := fun i o hi => by
    rw [St.kill_get] at hi
    split at hi
    · cases hi
    · exact hi
  exact gi2 h ⟨⟨h.len, fun i o hi => h.obj i o (hof i o hi), fun i i' l l' o o' hne hi hrw hi' => h.sep i i' l l' o o' hne (hof _ _ hi) hrw (hof _ _ hi')⟩,
    ⟨.refl _ _, rfl, rfl, rfl, Nat.le_refl _, Nat.le_refl _, fun _ _ _ => rfl, fun i o l hi hrw hl _ => ⟨i, o, l, hof _ _ hi, hrw, hl, rfl⟩⟩⟩
theorem Rel.move {ρ : Loc.Map} {st : St} {w : World} (h : Rel ρ st w) {b : Nat} {o : AObj} (hb : st.get b = some o) (hrw : o.rw = true) {l : Loc} (hl : ρ[b]? = some l) (off : Nat) {cs : List AV} {w' : World} (hoth : ∀ k, k ≠ l.blk → w'.heap[k]? = w.heap[k]?) (hsz : w'.heap.size = w.heap.size)
    (hos : w'.os = w.os) (ht : w'.tape = w.tape) (hp : w'.output = w.output) (hd : w.drawn ≤ w'.drawn) (ho : ObjRel ρ (.blk cs true) ⟨l.blk, l.base + off, l.size⟩ w') :
    Rel (ρ ++ [⟨l.blk, l.base + off, l.size⟩]) ((st.kill b).push (.blk cs true)) w' ∧ Step st.n ρ st w (ρ ++ [⟨l.blk, l.base + off, l.size⟩]) ((st.kill b).push (.blk cs true)) w' ∧ (ρ ++ [(⟨l.blk, l.base + off, l.size⟩ : Loc)])[st.n]? = some ⟨l.blk, l.base + off, l.size⟩ := by
  have hloc : (ρ ++ [(⟨l.blk, l.base + off, l.size⟩ : Loc)])[st.n]? = some ⟨l.blk, l.base + off, l.size⟩ := by rw [← h.len]; simp
  have hof : ∀ i x, ((st.kill b).push (.blk cs true)).get i = some x → (i = st.n ∧ x = .blk cs true) ∨ (i < st.n ∧ i ≠ b ∧ st.get i = some x) := fun i x hi => by
    rw [St.push_get, St.kill_n, St.kill_get] at hi
    split at hi
    · exact .inl ⟨‹_›, by simpa using hi.symm⟩
    · split at hi
      · cases hi
      · exact .inr ⟨h.lt hi, ‹_›, hi⟩
  have hold : ∀ i x l', i < st.n → st.get i = some x → (ρ ++ [(⟨l.blk, l.base + off, l.size⟩ : Loc)])[i]? = some l' → ρ[i]? = some l' := fun i x l' hi hx hl' => by
    rw [List.getElem?_append_left (by have := h.len; omega)] at hl'
    exact hl'
  refine gi3 h ⟨⟨by simp [St.push_n, St.kill_n, h.len], fun i x hi => ?_, fun i i' l1 l2 x x' hne hi hx hi' h1 h2 => ?_⟩, ⟨Ext.append _ _ (by have := h.len; omega), hos, ht, hp, hd, by omega, fun k hk hno => hoth k (Ne.symm (hno b o l hb hrw hl)), fun i x l1 hi hx h1 hlt => ?_⟩, hloc⟩
  · rcases hof i x hi with ⟨rfl, rfl⟩ | ⟨hlt, hne, hi⟩
    · exact ⟨_, hloc, ho.sup (Sup.append _ _)⟩
    · obtain ⟨l', hl', hr⟩ := h.obj i x hi
      exact ⟨l', Sup.append _ _ _ _ hl', (hr.world (hoth _ (Ne.symm (h.sep b i l l' o x (Ne.symm hne) hb hrw hi hl hl')))).sup (Sup.append _ _)⟩
  · rcases hof i x hi with ⟨rfl, rfl⟩ | ⟨hlt, hne1, hi1⟩ <;> rcases hof i' x' hi' with ⟨e1, rfl⟩ | ⟨hlt', hne2, hi2⟩
    · exact absurd e1.symm hne
    · rw [hloc] at h1; simp at h1; subst h1
      exact h.sep b i' l l2 o x' (Ne.symm hne2) hb hrw hi2 hl (hold i' x' l2 hlt' hi2 h2)
    · subst e1
      rw [hloc] at h2; simp at h2; subst h2
      exact fun e => h.sep b i l l1 o x (Ne.symm hne1) hb hrw hi1 hl (hold i x l1 hlt hi1 h1) e.symm
    · exact h.sep i i' l1 l2 x x' hne hi1 hx hi2 (hold i x l1 hlt hi1 h1) (hold i' x' l2 hlt' hi2 h2)
  · rcases hof i x hi with ⟨rfl, rfl⟩ | ⟨hlt', hne, hi⟩
    · rw [hloc] at h1; simp at h1; subst h1
      exact ⟨b, o, l, hb, hrw, hl, rfl⟩
    · exact ⟨i, x, l1, hi, hx, hold i x l1 hlt' hi h1, rfl⟩
def byteCells (l : List UInt8) : List AV := l.map fun b => .int .u8 b.toNat
def cellsBytes : List AV → Option (List UInt8)
  | [] => some []
  | .int .u8 n :: r => (cellsBytes r).bind fun l => some (UInt8.ofNat n.toNat :: l)
  | _ :: _ => none
def evConvert (P : Program) (src dst : TypeId) (x : AV) (st : St) : Option (AV × St) := (tinfo P src).bind fun si => (tinfo P dst).bind fun di => match di.k, x with
  | .int k, .int _ n => some (.int k (k.wrap n), st)
  | .str, .int _ n => some (.str (Utf8.encode n).data.toList, st)
  | .str, .str l => some (.str l, st)
  | .sl e, .str l => (tinfo P e).bind fun ei => match ei.k with
    | .int .u8 => some (.sl 1 st.n 0 l.length l.length false, st.push (.blk (byteCells l) true))
    | _ => none
  | .str, .sl sz b off len _ nl => match si.k with
    | .sl e => (tinfo P e).bind fun ei => match ei.k with
      | .int .u8 => if nl then some (.str [], st) else if len = 0 then some (.str [], st) else (rdBlk st b).bind fun cs => need (off + len ≤ cs.length) ((cellsBytes ((cs.drop off).take len)).bind fun l => some (.str l, st))
      | _ => none
    | _ => none
  | _, _ => none
theorem bytes_fold {ρ : Loc.Map} {P : Program} {w : World} {f : Value → ByteArray → Sem (ForInStep ByteArray)} (hf : ∀ n s, f (.int .u8 n) s = pure (.yield (s.push (UInt8.ofNat n.toNat)))) :
    ∀ {cs : List AV} {ds : List Value} {l : List UInt8} {s : ByteArray}, RVs ρ cs ds → cellsBytes cs = some l → (forIn (m := Sem) ds s f).run P w = .ok ⟨(s.data.toList ++ l).toArray⟩ w
  | [], ds, l, s, h, hl => by
    simp [RVs] at h; subst h
    simp [cellsBytes] at hl; subst hl
    simp
  | v :: cs, ds, l, s, h, hl => by
    obtain ⟨c, r, rfl, hv, hr⟩ := h
    unfold cellsBytes at hl
    split at hl
    · rename_i e; cases e
    · rename_i n r' e
      obtain ⟨rfl, rfl⟩ := List.cons.inj e
      simp only [Option.bind_eq_some_iff] at hl
      obtain ⟨l', hl', hl⟩ := hl
      simp at hl; subst hl
      simp only [RV] at hv; subst hv
      have ih := bytes_fold (P := P) (w := w) hf (s := s.push (UInt8.ofNat n.toNat)) hr hl'
      simp only [List.forIn_cons, hf, Sem.run_bind, Sem.run_pure, Result.andThen_ok]
      refine Eq.trans ih ?_
      congr 2
      apply Array.ext'
      show ((s.push (UInt8.ofNat n.toNat)).data.toList ++ l') = _
      have : (s.push (UInt8.ofNat n.toNat)).data = s.data.push (UInt8.ofNat n.toNat) := rfl
      rw [this]
      simp
    · cases hl
theorem evConvert_ok {P : Program} {src dst : TypeId} {x v : AV} {st st' : St} (h : evConvert P src dst x st = some (v, st')) {ρ : Loc.Map} {w : World} {c : Value} (hr : Rel ρ st w) (hx : RV ρ x c) :
    ∃ r w' ρ', (convert src dst c).run P w = .ok r w' ∧ Rel ρ' st' w' ∧ RV ρ' v r ∧ Step st.n ρ st w ρ' st' w' := by
  unfold evConvert at h
  simp only [Option.bind_eq_some_iff] at h
  obtain ⟨si, hsi, di, hdi, h⟩ := h
  obtain ⟨_, sd, _, hsd, hsk, _⟩ := tinfo_spec hsi
  obtain ⟨_, dd, _, hdd, hdk, _⟩ := tinfo_spec hdi
  split at h
  · rename_i k _ n hk
    have hd' := kd_int (hdk.trans hk); subst hd'
    simp at h; obtain ⟨rfl, rfl⟩ := h
    simp only [RV] at hx; subst hx
    refine ⟨_, w, ρ, ?_, hr, rfl, .refl ..⟩
    simp only [convert, Sem.run_bind, run_underlying hsd, run_underlying hdd, Result.andThen_ok]
    cases sd <;> rfl
  · rename_i _ n hk
    have hd' := kd_str (hdk.trans hk); subst hd'
    simp at h; obtain ⟨rfl, rfl⟩ := h
    simp only [RV] at hx; subst hx
    refine ⟨.string (Utf8.encode n), w, ρ, ?_, hr, ?_, .refl ..⟩
    · simp only [convert, Sem.run_bind, run_underlying hsd, run_underlying hdd, Result.andThen_ok]
      cases sd <;> rfl
    · rfl
  · rename_i l hk
    have hd' := kd_str (hdk.trans hk); subst hd'
    simp at h; obtain ⟨rfl, rfl⟩ := h
    simp only [RV] at hx; subst hx
    refine ⟨_, w, ρ, ?_, hr, rfl, .refl ..⟩
    simp only [convert, Sem.run_bind, run_underlying hsd, run_underlying hdd, Result.andThen_ok]
    cases sd <;> rfl
  · rename_i e l hk
    have hd' := kd_sl (hdk.trans hk); subst hd'
    simp only [Option.bind_eq_some_iff] at h
    obtain ⟨ei, hei, h⟩ := h
    obtain ⟨_, ed, _, hed, hek, _⟩ := tinfo_spec hei
    split at h
    · rename_i hk8
      have he' := kd_int (hek.trans hk8); subst he'
      simp at h; obtain ⟨rfl, rfl⟩ := h
      simp only [RV] at hx; subst hx
      have hge := grownCap_ge w l.length 0 e
      let ds : Array Value := (ByteArray.mk l.toArray).data.map (fun b => Value.int .u8 b.toNat) ++ Array.replicate (grownCap w l.length 0 e - l.length) (.int .u8 0)
      have hds : ds.size = grownCap w l.length 0 e := by simp [ds]; omega
      have hcells : ∀ (i : Nat) (v : AV), (byteCells l)[i]? = some v → ∃ x, ds[i]? = some x ∧ RV ρ v x := fun i v hi => by
        simp only [byteCells, List.getElem?_map, Option.map_eq_some_iff] at hi
        obtain ⟨b, hb, rfl⟩ := hi
        have hlt := (List.getElem?_eq_some_iff.1 hb).1
        refine ⟨.int .u8 b.toNat, ?_, rfl⟩
        simp only [ds]
        rw [Array.getElem?_append_left (by simpa using hlt)]
        simp [hb]
      let w1 : World := (w.drew.alloc (.cells ds e)).freeze ⟨w.heap.size, ds.size, none⟩ 1
      have hw1 : w1.heap = w.heap.push (.cells ds e (ds.size, ds.size + 1)) := by
        simp only [w1, World.freeze, World.alloc, World.drew]
        rw [if_neg (by omega)]
        apply Array.ext_getElem?
        intro i
        rw [Array.getElem?_modify]
        by_cases hi : w.heap.size = i
        · subst hi
          simp
        · rw [if_neg hi, Array.getElem?_push, if_neg (Ne.symm hi), Array.getElem?_push, if_neg (Ne.symm hi)]
      obtain ⟨h1, h2, h3⟩ := hr.allocF hcells e (ds.size, ds.size + 1) (fun j hj => by omega) (w' := w1) hw1 rfl rfl rfl (Nat.le_succ _)
      refine ⟨.slice (some ⟨w.heap.size, 0, none⟩) l.length (grownCap w l.length 0 e), w1, _, ?_, h1, ⟨_, _, rfl, hge, hge, by simp, fun _ => ⟨_, _, rfl, h3, .inr ⟨rfl, by show 0 + 0 + _ * 1 ≤ ds.size; omega⟩⟩⟩, h2⟩
      have hshape : (w.drew.alloc (.cells ds e)).shape? w.heap.size = some (e, ds.size) := by
        have : (w.drew.alloc (.cells ds e)).heap[w.heap.size]? = some (.cells ds e) := heap_alloc_new w.drew _
        unfold World.shape?; rw [this]
      have hconv : (Conv.stringToBytes e ⟨l.toArray⟩).run P w = .ok (.slice (some ⟨w.heap.size, 0, none⟩) l.length (grownCap w l.length 0 e)) w1 := by
        simp only [Conv.stringToBytes, Sem.run_bind, run_choose, mk_size, Question.forced, Bool.false_eq_true, if_false, Result.andThen_ok, newRow, run_newObj, Sem.run_pure, markStringish, run_shape]
        have hd : (({ w with drawn := w.drawn + 1 } : World)) = w.drew := rfl
        have hcap : (Question.appendCap l.length 0 e).cut (w.tape w.drawn (.appendCap l.length 0 e)) = grownCap w l.length 0 e := rfl
        rw [hcap]
        have ha : ({ w.drew with heap := w.drew.heap.push (.cells ds e) } : World) = w.drew.alloc (.cells ds e) := rfl
        show ((match (w.drew.alloc (.cells ds e)).shape? w.heap.size with | some (_, n) => freeze { block := w.heap.size, off := n } 1 | _ => pure ()).run P (w.drew.alloc (.cells ds e))).andThen _ = _
        rw [hshape]
        simp [w1]
      simp only [convert, Sem.run_bind, run_underlying hsd, run_underlying hdd, Result.andThen_ok]
      cases sd <;> simp only [Sem.run_bind, run_underlying hed, Result.andThen_ok, hconv]
    · cases h
  · rename_i sz b off len _ nl hk
    have hd' := kd_str (hdk.trans hk); subst hd'
    split at h
    · rename_i e hse
      have hs' := kd_sl (hsk.trans hse); subst hs'
      simp only [Option.bind_eq_some_iff] at h
      obtain ⟨ei, hei, h⟩ := h
      obtain ⟨_, ed, _, hed, hek, _⟩ := tinfo_spec hei
      split at h
      · rename_i hk8
        have he' := kd_int (hek.trans hk8); subst he'
        have hcv : ∀ A n k, (convert src dst (.slice A n k)).run P w = (Conv.bytesToString (.slice A n k)).run P w := fun A n k => by
          simp only [convert, Sem.run_bind, run_underlying hsd, run_underlying hdd, run_underlying hed, Result.andThen_ok]
        obtain ⟨a, cap, rfl, g1, g2, g3, g4⟩ := hx
        rw [hcv]
        have hempty : ∀ a, (Conv.bytesToString (.slice a 0 cap)).run P w = .ok (.string ⟨#[]⟩) w := fun a => by
          cases a with
          | none => rfl
          | some a => simp [Conv.bytesToString, loadCells, loadCellsFrom]; rfl
        split at h
        · rename_i hn
          obtain ⟨rfl, rfl⟩ := g3 hn
          simp at h; obtain ⟨rfl, rfl⟩ := h
          exact ⟨_, w, ρ, rfl, hr, rfl, .refl ..⟩
        · split at h
          · rename_i h0; subst h0
            simp at h; obtain ⟨rfl, rfl⟩ := h
            exact ⟨_, w, ρ, hempty a, hr, rfl, .refl ..⟩
          · rename_i hn h0
            simp only [Option.bind_eq_some_iff] at h
            obtain ⟨cs, hcs, h⟩ := h
            obtain ⟨hfit, h⟩ := need_some h
            simp only [Option.bind_eq_some_iff] at h
            obtain ⟨l, hl, h⟩ := h
            simp at h; obtain ⟨rfl, rfl⟩ := h
            obtain ⟨ad, lc, rfl, hlc, g5⟩ := g4 (by simpa using hn)
            rcases g5 with g5 | ⟨rfl, g6⟩
            · omega
            · have hload : loadN cs off len = some ((cs.drop off).take len) := by
                have : ∀ (n off : Nat), off + n ≤ cs.length → loadN cs off n = some ((cs.drop off).take n) := by
                  intro n
                  induction n with
                  | zero => intro off _; simp [loadN]
                  | succ n ih =>
                    intro off ho
                    rw [loadN, List.getElem?_eq_getElem (i := off) (by omega), Option.bind_some, ih (off + 1) (by omega), Option.bind_some, List.drop_eq_getElem_cons (i := off) (by omega), List.take_succ_cons]
                exact this len off hfit
              obtain ⟨ds, hrun, hds⟩ := load_cells (P := P) hr hcs hlc hload
              refine ⟨.string ⟨l.toArray⟩, w, ρ, ?_, hr, rfl, .refl ..⟩
              simp only [Conv.bytesToString, Sem.run_bind, hrun, Result.andThen_ok]
              rw [← Array.forIn_toList]
              refine Eq.trans (congrArg (fun r => Result.andThen r _) (bytes_fold (f := _) (fun _ _ => rfl) (s := ByteArray.empty) hds hl)) ?_
              rfl
      · cases h
    · cases h
  · cases h
end Gab
end
section
set_option linter.unusedSimpArgs false
set_option linter.unusedVariables false
namespace Gab
open Go
def evLen (P : Program) (t : TypeId) (x : AV) : Option AV := (tinfo P t).bind fun ti => match ti.k, x with
  | .str, .str l => some (.int .i64 l.length)
  | .sl _, .sl _ _ _ len _ _ => some (.int .i64 len)
  | .arr n _, _ => some (.int .i64 n)
  | _, _ => none
theorem evLen_ok {P : Program} {t : TypeId} {x v : AV} (h : evLen P t x = some v) {ρ : Loc.Map} {c : Value} (hx : RV ρ x c) (ts : Array TypeId) (ty : TypeId) (w : World) (ht : ts[0]? = some t) :
    ∃ r, (Builtin.len_ ts ty #[c]).run P w = .ok r w ∧ RV ρ v r := by
  unfold evLen at h
  simp only [Option.bind_eq_some_iff] at h
  obtain ⟨ti, hti, h⟩ := h
  obtain ⟨_, d, _, hd, hk, _⟩ := tinfo_spec hti
  split at h
  · rename_i hkk
    have hd' := kd_str (hk.trans hkk); subst hd'
    simp only [RV] at hx; subst hx
    simp at h; subst h
    exact ⟨_, by simp [Builtin.len_, ht, run_underlying hd, mk_size]; rfl, rfl⟩
  · rename_i hkk
    have hd' := kd_sl (hk.trans hkk); subst hd'
    obtain ⟨a, cap, rfl, _⟩ := hx
    simp at h; subst h
    exact ⟨_, by simp [Builtin.len_, ht, run_underlying hd]; rfl, rfl⟩
  · rename_i hkk
    have hd' := kd_arr (hk.trans hkk); subst hd'
    simp at h; subst h
    exact ⟨_, by simp [Builtin.len_, ht, run_underlying hd]; rfl, rfl⟩
  · cases h
def evCap (P : Program) (t : TypeId) (x : AV) : Option AV := (tinfo P t).bind fun ti => match ti.k, x with
  | .sl _, .sl _ _ _ _ _ true => some (.int .i64 0)
  | _, _ => none
theorem evCap_ok {P : Program} {t : TypeId} {x v : AV} (h : evCap P t x = some v) {ρ : Loc.Map} {c : Value} (hx : RV ρ x c) (ts : Array TypeId) (ty : TypeId) (w : World) (ht : ts[0]? = some t) :
    ∃ r, (Builtin.cap_ ts ty #[c]).run P w = .ok r w ∧ RV ρ v r := by
  unfold evCap at h
  simp only [Option.bind_eq_some_iff] at h
  obtain ⟨ti, hti, h⟩ := h
  obtain ⟨_, d, _, hd, hk, _⟩ := tinfo_spec hti
  split at h
  · rename_i hkk
    have hd' := kd_sl (hk.trans hkk); subst hd'
    obtain ⟨a, cap, rfl, _, _, g, _⟩ := hx
    obtain ⟨rfl, rfl⟩ := g rfl
    simp at h; subst h
    exact ⟨_, by simp [Builtin.cap_, ht, run_underlying hd]; rfl, rfl⟩
  · cases h
def evMin : List AV → Option AV
  | [.int k x, .int _ y] => some (.int k (if y < x then y else x))
  | _ => none
def evMax : List AV → Option AV
  | [.int k x, .int _ y] => some (.int k (if x < y then y else x))
  | _ => none
theorem evMin_ok {P : Program} {xs : List AV} {v : AV} (h : evMin xs = some v) {ρ : Loc.Map} {cs : List Value} (hx : RVs ρ xs cs) (ts : Array TypeId) (ty : TypeId) (w : World) :
    ∃ r, (Builtin.min_ ts ty ⟨cs⟩).run P w = .ok r w ∧ RV ρ v r := by
  unfold evMin at h
  split at h
  · obtain ⟨c, r, rfl, h1, r', d, rfl, h2, rfl⟩ := hx
    simp only [RV] at h1 h2; subst h1; subst h2
    simp at h; subst h
    exact ⟨_, by simp [Builtin.min_, Builtin.min2], rfl⟩
  · cases h
theorem evMax_ok {P : Program} {xs : List AV} {v : AV} (h : evMax xs = some v) {ρ : Loc.Map} {cs : List Value} (hx : RVs ρ xs cs) (ts : Array TypeId) (ty : TypeId) (w : World) :
    ∃ r, (Builtin.max_ ts ty ⟨cs⟩).run P w = .ok r w ∧ RV ρ v r := by
  unfold evMax at h
  split at h
  · obtain ⟨c, r, rfl, h1, r', d, rfl, h2, rfl⟩ := hx
    simp only [RV] at h1 h2; subst h1; subst h2
    simp at h; subst h
    exact ⟨_, by simp [Builtin.max_, Builtin.max2], rfl⟩
  · cases h
def evNews (P : Program) (e : TypeId) (ei : TI) (xt : Option TypeId) (x : AV) (st : St) : Option (Nat × List AV) := match xt with
  | none => none
  | some xt => (tinfo P xt).bind fun xi => match xi.k, x with
    | .int _, .int _ n => ei.zero.bind fun z => need (0 ≤ n ∧ n ≤ 9223372036854775807 ∧ n * ei.bytes ≤ 281474976710656 ∧ z.length = ei.size) (some (n.toNat, zeroRow z n.toNat))
    | .sl _, .sl sz b off len _ nl => if len = 0 then some (0, []) else need (sz = ei.size) ((rdBlk st b).bind fun cs => need (off + len * sz ≤ cs.length) (some (len, (cs.drop off).take (len * sz))))
    | .str, .str l => need (ei.size = 1) (some (l.length, byteCells l))
    | _, _ => none
theorem loadN_take {cs : List AV} : ∀ (n off : Nat), off + n ≤ cs.length → loadN cs off n = some ((cs.drop off).take n)
  | 0, off, _ => by simp [loadN]
  | n + 1, off, ho => by
    rw [loadN, List.getElem?_eq_getElem (i := off) (by omega), Option.bind_some, loadN_take n (off + 1) (by omega), Option.bind_some, List.drop_eq_getElem_cons (i := off) (by omega), List.take_succ_cons]
theorem evNews_ok {P : Program} {e : TypeId} {ei : TI} (hei : tinfo P e = some ei) {xt : TypeId} {x : AV} {st : St} {n : Nat} {news : List AV} (h : evNews P e ei (some xt) x st = some (n, news)) {ρ : Loc.Map} {w : World} {c : Value} (hr : Rel ρ st w) (hx : RV ρ x c) :
    ∃ d ns, P.underlying xt = some d ∧ RVs ρ news ns ∧ news.length = n * ei.size ∧
      (((∃ k, d = .int k) ∧ ∃ (k : IntKind) (i : Int), c = .int k i ∧ i.toNat = n ∧ 0 ≤ i ∧ i ≤ 9223372036854775807 ∧ i * ei.bytes ≤ 281474976710656 ∧ ∃ zv, (∀ w', (zeroValue e).run P w' = .ok zv w') ∧ zv.cells.size = ei.size ∧ ns = (Builtin.zeroCells zv.cells n).toList) ∨
       ((d = .string ∨ ∃ e', d = .slice e') ∧ (Builtin.lenOf c).run P w = .ok n w ∧ (∀ w' : World, w'.heap = w.heap → (Builtin.firstCells ei.size n c).run P w' = .ok ⟨ns⟩ w'))) := by
  simp only [evNews, Option.bind_eq_some_iff] at h
  obtain ⟨xi, hxi, h⟩ := h
  obtain ⟨_, d, _, hd, hk, _⟩ := tinfo_spec hxi
  split at h
  · rename_i k' k i hkk
    have hd' := kd_int (hk.trans hkk); subst hd'
    simp only [Option.bind_eq_some_iff] at h
    obtain ⟨z, hz, h⟩ := h
    obtain ⟨⟨g1, g2, g3, g4⟩, h⟩ := need_some h
    simp at h; obtain ⟨rfl, rfl⟩ := h
    simp only [RV] at hx; subst hx
    obtain ⟨zv, hrun, hzv⟩ := run_zeroValue hei hz w ρ
    have hall : ∀ w', (zeroValue e).run P w' = .ok zv w' := fun w' => by
      obtain ⟨zv', hrun', _⟩ := run_zeroValue hei hz w' ρ
      obtain ⟨ii, dd, hi, _⟩ := tinfo_spec hei
      simp only [zeroValue, typeInfo, Sem.run_bind, run_program, Result.andThen_ok, hi, Sem.run_pure] at hrun ⊢
      cases hzz : ii.zero with
      | none => rw [hzz] at hrun; cases hrun
      | some v => rw [hzz] at hrun; simp at hrun; subst hrun; rfl
    have hzs : zv.cells.size = ei.size := by rw [← g4, ← hzv.length]; simp
    refine ⟨_, (Builtin.zeroCells zv.cells i.toNat).toList, hd, RVs_zeroRow hzv _, ?_, .inl ⟨⟨_, rfl⟩, _, _, rfl, rfl, g1, g2, g3, zv, hall, hzs, rfl⟩⟩
    rw [zeroRow_length, g4]
  · rename_i sz b off len _ nl hkk
    have hd' := kd_sl (hk.trans hkk); subst hd'
    split at h
    · rename_i h0; subst h0
      simp at h; obtain ⟨rfl, rfl⟩ := h
      obtain ⟨a, cap, rfl, _⟩ := hx
      refine ⟨_, [], hd, rfl, by simp, .inr ⟨.inr ⟨_, rfl⟩, rfl, fun w' _ => ?_⟩⟩
      cases a <;> simp [Builtin.firstCells, loadCells, loadCellsFrom]
    · rename_i h0
      obtain ⟨hsz, h⟩ := need_some h
      subst hsz
      simp only [Option.bind_eq_some_iff] at h
      obtain ⟨cs, hcs, h⟩ := h
      obtain ⟨hfit, h⟩ := need_some h
      simp at h; obtain ⟨rfl, rfl⟩ := h
      obtain ⟨l, cap, hl, rfl, _⟩ := RV.sl_at hx (by omega)
      have hln := loadN_take (len * ei.size) off hfit
      obtain ⟨ds, hrun, hds⟩ := load_cells (P := P) hr hcs hl hln
      refine ⟨_, ds, hd, hds, by simp; omega, .inr ⟨.inr ⟨_, rfl⟩, rfl, fun w' hw' => ?_⟩⟩
      obtain ⟨rw, hb⟩ := rdBlk_spec hcs
      have hr' : Rel ρ st w' := ⟨⟨hr.len, fun b o hb => let ⟨l, hl, ho⟩ := hr.obj b o hb; ⟨l, hl, ho.world (by rw [hw'])⟩, hr.sep⟩, ⟨fun g cs hg => by rw [hw']; exact hr.gi.glb g cs hg, hr.gi.gsep⟩⟩
      have e1 : ds.length = len * ei.size := by rw [hds.length]; simp; omega
      simp only [Builtin.firstCells]
      rw [← e1]
      refine run_loadCells_list w' _ ds fun j v hj => ?_
      have hc := run_loadCells_list (P := P) w ⟨l.blk, l.base + off, none⟩ ds
      obtain ⟨l', hl', ho⟩ := hr'.obj b _ hb
      rw [hl] at hl'; simp at hl'; subst hl'
      obtain ⟨carr, ce, fz, hh, hsize, hcells, _⟩ := ho
      have hjn : j < len * ei.size := by have := (List.getElem?_eq_some_iff.1 hj).1; omega
      have hh0 : w.heap[l.blk]? = some (.cells carr ce fz) := by rw [← hw']; exact hh
      have hrun2 := run_loadCells (P := P) w ⟨l.blk, l.base + off, none⟩ (len * ei.size) (fun j => (carr[l.base + (off + j)]?).getD undef) (fun j hj => by
        obtain ⟨x, hx, _⟩ := hcells (off + j) _ (List.getElem?_eq_getElem (by omega))
        rw [add_eq, Nat.add_assoc]
        simp [World.cell?, hh0, hx])
      rw [hrun] at hrun2
      simp only [Result.ok.injEq, and_true] at hrun2
      have hds' : ds = (List.range (len * ei.size)).map (fun j => (carr[l.base + (off + j)]?).getD undef) := by
        have := congrArg Array.toList hrun2
        simpa using this
      obtain ⟨x, hx, _⟩ := hcells (off + j) _ (List.getElem?_eq_getElem (by omega))
      rw [hds'] at hj
      simp [hjn, hx] at hj
      subst hj
      rw [add_eq, Nat.add_assoc]
      simp [World.cell?, hh, hx]
  · rename_i l hkk
    have hd' := kd_str (hk.trans hkk); subst hd'
    obtain ⟨g1, h⟩ := need_some h
    simp at h; obtain ⟨rfl, rfl⟩ := h
    simp only [RV] at hx; subst hx
    refine ⟨_, l.map (fun b => Value.int .u8 b.toNat), hd, RVs.of (by simp [byteCells]) fun i a hi => ?_, by simp [byteCells, g1], .inr ⟨.inl rfl, by simp [Builtin.lenOf, mk_size], fun w' _ => ?_⟩⟩
    · simp only [byteCells, List.getElem?_map, Option.map_eq_some_iff] at hi ⊢
      obtain ⟨b, hb, rfl⟩ := hi
      exact ⟨_, ⟨b, hb, rfl⟩, rfl⟩
    · simp only [Builtin.firstCells, Sem.run_pure, mk_extract, List.take_length, List.drop_zero]
      simp
  · cases h
def evAppend (P : Program) (ts : List TypeId) (s x : AV) (st : St) : Option (AV × St) := match s, ts with
  | .sl sz b off len mc nl, t :: xt => (tinfo P t).bind fun ti => match ti.k with
    | .sl e => (tinfo P e).bind fun ei => ei.zero.bind fun z => (evNews P e ei xt.head? x st).bind fun p =>
        need ((len + p.1) * ei.bytes ≤ 140737488355328 ∧ len + p.1 ≤ 9223372036854775807 ∧ z.length = ei.size) (
          if nl then some (.sl ei.size st.n 0 p.1 p.1 (decide (p.1 = 0)), st.pushO (if p.1 = 0 then none else some (.blk p.2 true)))
          else if p.2.all AV.one then (wrBlk st b).bind fun cs => need (sz = ei.size)
            (if len + p.1 ≤ mc ∧ off + (len + p.1) * sz ≤ cs.length then some (.sl sz b off (len + p.1) mc false, st.set b (.blk (setL cs (off + len * sz) p.2) true))
             else need (off + len * sz = cs.length) (some (.sl sz st.n 0 (len + p.1) (len + p.1) false, (st.kill b).push (.blk (cs.drop off ++ p.2) true))))
          else none)
    | _ => none
  | _, _ => none
theorem Rel.pushNone {ρ : Loc.Map} {st : St} {w : World} (h : Rel ρ st w) (l : Loc) : Rel (ρ ++ [l]) (st.pushO none) w ∧ Step st.n ρ st w (ρ ++ [l]) (st.pushO none) w := by
  have hof : ∀ b o, (st.pushO none).get b = some o → b < st.n ∧ st.get b = some o := fun b o hb => by
    rw [St.pushO_get] at hb
    split at hb
    · cases hb
    · exact ⟨h.lt hb, hb⟩
  have hold : ∀ i l', i < st.n → (ρ ++ [l])[i]? = some l' → ρ[i]? = some l' := fun i l' hi hl' => by
    rw [List.getElem?_append_left (by have := h.len; omega)] at hl'
    exact hl'
  refine gi2 h ⟨⟨by simp [St.pushO_n, h.len], fun b o hb => ?_, fun i i' l1 l2 x x' hne hi hx hi' h1 h2 => ?_⟩, ⟨Ext.append _ _ (by have := h.len; omega), rfl, rfl, rfl, Nat.le_refl _, Nat.le_refl _, fun _ _ _ => rfl, fun i x l1 hi hx h1 _ => ?_⟩⟩
  · obtain ⟨_, hb⟩ := hof b o hb
    obtain ⟨l', hl', hr⟩ := h.obj b o hb
    exact ⟨l', Sup.append _ _ _ _ hl', hr.sup (Sup.append _ _)⟩
  · obtain ⟨a1, b1⟩ := hof i x hi
    obtain ⟨a2, b2⟩ := hof i' x' hi'
    exact h.sep i i' l1 l2 x x' hne b1 hx b2 (hold i l1 a1 h1) (hold i' l2 a2 h2)
  · obtain ⟨a1, b1⟩ := hof i x hi
    exact ⟨i, x, l1, b1, hx, hold i l1 a1 h1, rfl⟩
theorem pushO_some (st : St) (o : AObj) : st.pushO (some o) = st.push o := rfl
set_option maxHeartbeats 2000000 in
theorem evAppend_ok {P : Program} {ts : Array TypeId} {s x v : AV} {st st' : St} (h : evAppend P ts.toList s x st = some (v, st')) {ρ : Loc.Map} {w : World} {c cx : Value} (hr : Rel ρ st w) (hs : RV ρ s c) (hx : RV ρ x cx) (ty : TypeId) :
    ∃ r w' ρ', (Builtin.append_ ts ty #[c, cx]).run P w = .ok r w' ∧ Rel ρ' st' w' ∧ RV ρ' v r ∧ Step st.n ρ st w ρ' st' w' := by
  obtain ⟨tl⟩ := ts
  unfold evAppend at h
  split at h
  · rename_i sz b off len mc nl t xt htl
    simp only at htl
    subst htl
    simp only [Option.bind_eq_some_iff] at h
    obtain ⟨ti, hti, h⟩ := h
    obtain ⟨_, d, _, hd, hk, _⟩ := tinfo_spec hti
    split at h
    · rename_i e he
      have hd' := kd_sl (hk.trans he); subst hd'
      simp only [Option.bind_eq_some_iff] at h
      obtain ⟨ei, hei, z, hz, p, hp, h⟩ := h
      obtain ⟨n, news⟩ := p
      have hq := need_some h
      clear h
      obtain ⟨⟨hby, h63, hzl⟩, h⟩ := hq
      simp only at h hby h63
      cases hxt : xt.head? with
      | none => rw [hxt] at hp; cases hp
      | some xty =>
      rw [hxt] at hp
      obtain ⟨xd, ns, hxd, hns, hnl, hcase⟩ := evNews_ok hei hp hr hx
      obtain ⟨ii, dd, hii, _, _, hisz, hiby, _⟩ := tinfo_spec hei
      obtain ⟨zv, hzrun, hzv⟩ := run_zeroValue hei hz w ρ
      have hzall : ∀ w', (zeroValue e).run P w' = .ok zv w' := fun w' => by
        simp only [zeroValue, typeInfo, Sem.run_bind, run_program, Result.andThen_ok, hii, Sem.run_pure] at hzrun ⊢
        cases hzz : ii.zero with
        | none => rw [hzz] at hzrun; cases hzrun
        | some v => rw [hzz] at hzrun; simp at hzrun; subst hzrun; rfl
      have hzs : zv.cells.size = ei.size := by rw [← hzl, ← hzv.length]; simp
      have hnsl : ns.length = n * ei.size := by rw [hns.length, hnl]
      have hts1 : (⟨t :: xt⟩ : Array TypeId)[1]? = some xty := by
        cases xt with
        | nil => cases hxt
        | cons a r => simp at hxt; subst hxt; rfl
      obtain ⟨a, cap, rfl, g1, g2, g3, g4⟩ := hs
      have hgrow : ∀ (olds : List Value), len + n > cap → (∀ w' : World, w'.heap = w.heap → (Builtin.firstCells ei.size len (.slice a len cap)).run P w' = .ok ⟨olds⟩ w') →
          (Builtin.append_ ⟨t :: xt⟩ ty #[.slice a len cap, cx]).run P w = .ok (.slice (some ⟨w.heap.size, 0, none⟩) (len + n) (grownCap w (len + n) cap e))
            (w.drew.alloc (.cells (olds.toArray ++ ns.toArray ++ Builtin.zeroCells zv.cells (grownCap w (len + n) cap e - (len + n))) e)) := by
        intro olds hgt hold
        have h1 : ¬ (len + n ≤ cap) := by omega
        have h2 : ¬ (9223372036854775807 < (len : Int) + (n : Int)) := by omega
        have h3 : ¬ (281474976710656 < Builtin.nextslicecap (len + n) cap * ii.bytes) := by
          have := growslice_fits (need := len + n) (old := cap) (bytes := ei.bytes) (by omega) (by omega)
          rw [hiby]; omega
        have hfo := hold w.drew rfl
        have hzz := hzall w.drew
        rcases hcase with ⟨⟨k, rfl⟩, k', i, rfl, hin, hi0, hi63, hiby', zv', hzall', hzs', rfl⟩ | ⟨hne, hlen, hfc⟩
        · have hze : zv' = zv := by
            have := (hzall w).symm.trans (hzall' w)
            simp at this; exact this.symm
          subst hze
          have hwi : IntKind.i64.wrap i = i := IntWalk.i64_in i (by omega)
          have hi1 : ¬ (i < 0) := by omega
          have hi2 : ¬ (281474976710656 < i * (ii.bytes : Int)) := by rw [hiby]; omega
          subst hin
          have h2' : ¬ (9223372036854775807 < (len : Int) + max i 0) := by omega
          by_cases hz0 : i.toNat * ei.size = 0
          · have e0 : Builtin.zeroCells zv'.cells i.toNat = #[] := by
              simp only [Builtin.zeroCells, hzs', hz0]; simp
            have hz0' : i.toNat = 0 ∨ ei.size = 0 := by simpa [Nat.mul_eq_zero] using hz0
            simp [Builtin.append_, hts1, run_underlying hd, run_sizeOf hei, run_underlying hxd, typeInfo, hii, asInt, asIntOf, hwi, hi1, hi2, h1, h2, h2', h3, Question.forced, hfo, hzz, newRow, grownCap, hz0, hz0', e0]
          · have hz0' : ¬ (i.toNat = 0 ∨ ei.size = 0) := by simpa [Nat.mul_eq_zero] using hz0
            simp [Builtin.append_, hts1, run_underlying hd, run_sizeOf hei, run_underlying hxd, typeInfo, hii, asInt, asIntOf, hwi, hi1, hi2, h1, h2, h2', h3, Question.forced, hfo, hzz, newRow, grownCap, hz0, hz0']
        · have hfn := hfc w.drew rfl
          rcases hne with rfl | ⟨e', rfl⟩ <;>
          (simp [Builtin.append_, hts1, run_underlying hd, run_sizeOf hei, run_underlying hxd, typeInfo, hii, hlen, h1, h2, h3, Question.forced, hfo, hfn, hzz, newRow, grownCap]; congr 2; apply Array.ext'; simp [List.append_assoc])
      have hroom : len + n ≤ cap → (Builtin.append_ ⟨t :: xt⟩ ty #[.slice a len cap, cx]).run P w =
          (match a with | some a => ((storeCells (a.add (len * ei.size)) ns).run P w).andThen fun _ w' => .ok (.slice (some a) (len + n) cap) w' | none => .ok (.slice none (len + n) cap) w) := by
        intro hle
        have hfo := hzall w
        rcases hcase with ⟨⟨k, rfl⟩, k', i, rfl, hin, hi0, hi63, hiby', zv', hzall', hzs', rfl⟩ | ⟨hne, hlen, hfc⟩
        · have hze : zv' = zv := by
            have := (hzall w).symm.trans (hzall' w)
            simp at this; exact this.symm
          subst hze
          have hwi : IntKind.i64.wrap i = i := IntWalk.i64_in i (by omega)
          have hi1 : ¬ (i < 0) := by omega
          have hi2 : ¬ (281474976710656 < i * (ii.bytes : Int)) := by rw [hiby]; omega
          subst hin
          by_cases hz0 : i.toNat * ei.size = 0
          · have e0 : Builtin.zeroCells zv'.cells i.toNat = #[] := by
              simp only [Builtin.zeroCells, hzs', hz0]; simp
            have hz0' : i.toNat = 0 ∨ ei.size = 0 := by simpa [Nat.mul_eq_zero] using hz0
            cases a <;> simp [Builtin.append_, hts1, run_underlying hd, run_sizeOf hei, run_underlying hxd, typeInfo, hii, asInt, asIntOf, hwi, hi1, hi2, hle, hfo, hz0, hz0', e0]
          · have hz0' : ¬ (i.toNat = 0 ∨ ei.size = 0) := by simpa [Nat.mul_eq_zero] using hz0
            cases a <;> simp [Builtin.append_, hts1, run_underlying hd, run_sizeOf hei, run_underlying hxd, typeInfo, hii, asInt, asIntOf, hwi, hi1, hi2, hle, hfo, hz0, hz0']
        · have hfn := hfc w rfl
          rcases hne with rfl | ⟨e', rfl⟩ <;> cases a <;>
          simp [Builtin.append_, hts1, run_underlying hd, run_sizeOf hei, run_underlying hxd, typeInfo, hii, hlen, hle, hfn]
      have hge := grownCap_ge w (len + n) cap e
      split at h
      ·
        rename_i hn
        obtain ⟨rfl, rfl⟩ := g3 hn
        have hl0 : len = 0 := by omega
        subst hl0
        simp at h; obtain ⟨rfl, rfl⟩ := h
        by_cases hn0 : n = 0
        · subst hn0
          refine ⟨_, w, ρ ++ [⟨0, 0, 0⟩], hroom (by omega), ?_, ⟨none, 0, rfl, by omega, by omega, by simp, by simp⟩, ?_⟩
          · exact (hr.pushNone _).1
          · exact (hr.pushNone _).2
        · have hg := hgrow [] (by omega) (fun w' _ => by simp [Builtin.firstCells])
          simp only [Nat.zero_add] at hg hge
          rw [if_neg hn0]
          have hcells : ∀ (i : Nat) (v : AV), news[i]? = some v → ∃ x, (([] : List Value).toArray ++ ns.toArray ++ Builtin.zeroCells zv.cells (grownCap w n 0 e - n))[i]? = some x ∧ RV ρ v x := fun i v hi => by
            obtain ⟨x, hx, hrv⟩ := RVs.get hns hi
            refine ⟨x, ?_, hrv⟩
            have := (List.getElem?_eq_some_iff.1 hx).1
            rw [Array.getElem?_append_left (by simp; omega)]
            simpa using hx
          obtain ⟨k1, k2, k3⟩ := hr.allocF hcells e (0, 0) (fun j _ => by omega) (w' := w.drew.alloc (.cells _ e)) rfl rfl rfl rfl (Nat.le_succ _)
          refine ⟨_, _, _, hg, k1, ⟨_, _, rfl, by omega, by omega, by simp [hn0], fun _ => ⟨_, _, rfl, k3, .inr ⟨rfl, ?_⟩⟩⟩, k2⟩
          show 0 + 0 + grownCap w n 0 e * ei.size ≤ Array.size _
          simp [size_zeroCells, hzs, hnsl]
          have e1 : n * ei.size + (grownCap w n 0 e - n) * ei.size = grownCap w n 0 e * ei.size := by rw [← Nat.add_mul]; congr 1; omega
          omega
      · rename_i hn
        have hnf : nl = false := by simpa using hn
        subst hnf
        obtain ⟨ad, l, rfl, hl, g5⟩ := g4 rfl
        split at h
        · rename_i hone
          simp only [Option.bind_eq_some_iff] at h
          obtain ⟨cs, hcs, h⟩ := h
          obtain ⟨hsz, h⟩ := need_some h
          subst hsz
          have hb := wrBlk_spec hcs
          split at h
          ·
            rename_i hin
            simp at h; obtain ⟨rfl, rfl⟩ := h
            have hrm := hroom (by omega)
            rcases g5 with g5 | ⟨rfl, g6⟩
            · have hn0 : n = 0 := by omega
              have hlen0 : len = 0 := by omega
              subst hn0; subst hlen0; subst g5
              have hns0 : ns = [] := List.eq_nil_of_length_eq_zero (by omega)
              have hnews0 : news = [] := List.eq_nil_of_length_eq_zero (by omega)
              subst hns0; subst hnews0
              obtain ⟨l', hl', ho⟩ := hr.obj b _ hb
              rw [hl] at hl'; simp at hl'; subst hl'
              have hu := hr.upd hb rfl hl (fun _ _ => rfl) rfl rfl rfl rfl (Nat.le_refl _) ho
              exact ⟨_, w, ρ, hrm, hu.1, ⟨_, _, rfl, by omega, by omega, by simp, fun _ => ⟨_, l, rfl, hl, .inl rfl⟩⟩, hu.2⟩
            · have hst := store_cells (P := P) hr hb hl (off := off + len * ei.size) hns hone (by rw [hnl, Nat.add_assoc, ← Nat.add_mul]; omega)
              obtain ⟨w', hrun, k1, k2⟩ := hst
              simp only [add_eq] at hrm
              rw [show l.base + off + len * ei.size = l.base + (off + len * ei.size) by omega, hrun] at hrm
              exact ⟨_, w', ρ, hrm, k1, ⟨_, _, rfl, by omega, by omega, by simp, fun _ => ⟨_, l, rfl, hl, .inr ⟨rfl, g6⟩⟩⟩, k2⟩
          · obtain ⟨hend, h⟩ := need_some h
            simp at h; obtain ⟨rfl, rfl⟩ := h
            obtain ⟨l', hl', ho⟩ := hr.obj b _ hb
            rw [hl] at hl'; simp at hl'; subst hl'
            obtain ⟨carr, ce, fz, hh, hsize, hcells, hfz⟩ := ho
            by_cases hle : len + n ≤ cap
            · have hrm := hroom hle
              rcases g5 with g5 | ⟨rfl, g6⟩
              · have hn0 : n = 0 := by omega
                have hlen0 : len = 0 := by omega
                subst hn0; subst hlen0; subst g5
                have hns0 : ns = [] := List.eq_nil_of_length_eq_zero (by omega)
                have hnews0 : news = [] := List.eq_nil_of_length_eq_zero (by omega)
                subst hns0; subst hnews0
                have hdrop : cs.drop off = [] := List.drop_eq_nil_of_le (by omega)
                have hm := hr.move hb rfl hl off (cs := cs.drop off ++ []) (fun _ _ => rfl) rfl rfl rfl rfl (Nat.le_refl _) ⟨carr, ce, fz, hh, hsize, fun i v hi => by rw [hdrop] at hi; simp at hi, hfz⟩
                exact ⟨_, w, _, hrm, hm.1, ⟨_, _, rfl, by omega, by omega, by simp, fun _ => ⟨_, _, rfl, hm.2.2, .inl rfl⟩⟩, hm.2.1⟩
              · have e1 : (len + n) * ei.size ≤ cap * ei.size := Nat.mul_le_mul_right _ hle
                rw [Nat.add_mul] at e1
                have hone' : ∀ v ∈ ns, v.oneCell' = true := fun v hm => by
                  obtain ⟨j, hj⟩ := List.getElem?_of_mem hm
                  have hjl : j < news.length := by have := (List.getElem?_eq_some_iff.1 hj).1; have := hns.length; omega
                  obtain ⟨x, hx, hrv⟩ := RVs.get hns (List.getElem?_eq_getElem hjl)
                  rw [hj] at hx; simp at hx; subst hx
                  exact (hrv.one (List.all_eq_true.1 hone _ (List.getElem_mem hjl))).1
                obtain ⟨w', c', hrun, hh', hs', hoth, hsz', hos, ht, hp', hdr', hc⟩ := run_storeCells_blk (P := P) ns (l.base + off + len * ei.size) 0 carr w hh (by omega) (hfz rfl) hone'
                simp only [add_eq] at hrm
                rw [hrun] at hrm
                have hm := hr.move hb rfl hl off (cs := cs.drop off ++ news) hoth hsz' hos ht hp' (by omega) ⟨c', ce, fz, hh', hs'.trans hsize, fun i v hi => by
                  show ∃ x, c'[l.base + off + i]? = some x ∧ RV ρ v x
                  rw [hc]
                  by_cases hi2 : i < (cs.drop off).length
                  · rw [List.getElem?_append_left hi2, List.getElem?_drop] at hi
                    simp at hi2
                    rw [if_neg (by omega), Nat.add_assoc]
                    exact hcells _ _ hi
                  · rw [List.getElem?_append_right (by omega)] at hi
                    simp at hi2 hi
                    have hlt := (List.getElem?_eq_some_iff.1 hi).1
                    obtain ⟨x, hx, hrv⟩ := RVs.get hns hi
                    refine ⟨x, ?_, hrv⟩
                    rw [if_pos (by omega), ← hx]
                    congr 1; omega, fun _ j hj => hfz rfl j (by omega)⟩
                refine ⟨_, w', _, hrm, hm.1, ⟨_, _, rfl, by omega, by omega, by simp, fun _ => ⟨_, _, rfl, hm.2.2, .inr ⟨by simp, ?_⟩⟩⟩, hm.2.1⟩
                show l.base + off + 0 + cap * ei.size ≤ l.size
                omega
            ·
              have hold : ∃ olds, RVs ρ (cs.drop off) olds ∧ ∀ w' : World, w'.heap = w.heap → (Builtin.firstCells ei.size len (.slice (some ad) len cap)).run P w' = .ok ⟨olds⟩ w' := by
                rcases Nat.eq_zero_or_pos len with h0 | h0
                · subst h0
                  have hdrop : cs.drop off = [] := List.drop_eq_nil_of_le (by omega)
                  exact ⟨[], by rw [hdrop]; rfl, fun w' _ => by simp [Builtin.firstCells, loadCells, loadCellsFrom]⟩
                · rcases g5 with g5 | ⟨rfl, g6⟩
                  · omega
                  · have hlen' : (cs.drop off).length = len * ei.size := by simp; omega
                    refine ⟨(List.range (len * ei.size)).map fun j => (carr[l.base + (off + j)]?).getD undef, RVs.of (by rw [hlen']; simp) fun i v hi => ?_, fun w' hw' => ?_⟩
                    · have hilt := (List.getElem?_eq_some_iff.1 hi).1
                      rw [List.getElem?_drop] at hi
                      obtain ⟨x, hx, hrv⟩ := hcells _ _ hi
                      refine ⟨x, ?_, hrv⟩
                      rw [hlen'] at hilt
                      simp [hilt, hx]
                    · simp only [Builtin.firstCells]
                      refine run_loadCells w' _ _ _ fun j hj => ?_
                      obtain ⟨x, hx, _⟩ := hcells (off + j) _ (List.getElem?_eq_getElem (by omega))
                      rw [add_eq, Nat.add_assoc]
                      simp [World.cell?, hw', hh, hx]
              obtain ⟨olds, holds, hold⟩ := hold
              have hg := hgrow olds (by omega) hold
              have hol := holds.length
              have hcells' : ∀ (i : Nat) (v : AV), (cs.drop off ++ news)[i]? = some v → ∃ x, (olds.toArray ++ ns.toArray ++ Builtin.zeroCells zv.cells (grownCap w (len + n) cap e - (len + n)))[i]? = some x ∧ RV ρ v x := fun i v hi => by
                obtain ⟨x, hx, hrv⟩ := RVs.get (RVs.append holds hns) hi
                refine ⟨x, ?_, hrv⟩
                have := (List.getElem?_eq_some_iff.1 hx).1
                rw [Array.getElem?_append_left (by simpa using this)]
                simpa using hx
              obtain ⟨j1, j2⟩ := hr.kill b
              obtain ⟨k1, k2, k3⟩ := j1.allocF hcells' e (0, 0) (fun j _ => by omega) (w' := w.drew.alloc (.cells _ e)) rfl rfl rfl rfl (Nat.le_succ _)
              refine ⟨_, _, _, hg, k1, ⟨_, _, rfl, by omega, by omega, by simp, fun _ => ⟨_, _, rfl, k3, .inr ⟨rfl, ?_⟩⟩⟩, j2.trans k2⟩
              show 0 + 0 + grownCap w (len + n) cap e * ei.size ≤ Array.size _
              have hdl : (cs.drop off).length = len * ei.size := by simp; omega
              simp [size_zeroCells, hzs, hnsl]
              have e1 : (len + n) * ei.size + (grownCap w (len + n) cap e - (len + n)) * ei.size = grownCap w (len + n) cap e * ei.size := by rw [← Nat.add_mul]; congr 1; omega
              rw [Nat.add_mul] at e1
              omega
        · cases h
    · cases h
  · cases h
def evClear (P : Program) (t : TypeId) (x : AV) (st : St) : Option (AV × St) := (tinfo P t).bind fun ti => match ti.k, x with
  | .sl e, .sl _ b off len _ nl => if len = 0 then some (.any, st) else (tinfo P e).bind fun ei => ei.zero.bind fun z => (wrBlk st b).bind fun cs =>
      need (nl = false ∧ (zeroRow z len).all AV.one = true ∧ off + (zeroRow z len).length ≤ cs.length) (some (.any, st.set b (.blk (setL cs off (zeroRow z len)) true)))
  | _, _ => none
theorem evClear_ok {P : Program} {t : TypeId} {x v : AV} {st st' : St} (h : evClear P t x st = some (v, st')) {ρ : Loc.Map} {w : World} {c : Value} (hr : Rel ρ st w) (hx : RV ρ x c) (ts : Array TypeId) (ty : TypeId) (ht : ts[0]? = some t) :
    ∃ r w', (Builtin.clear_ ts ty #[c]).run P w = .ok r w' ∧ Rel ρ st' w' ∧ RV ρ v r ∧ Step st.n ρ st w ρ st' w' := by
  unfold evClear at h
  simp only [Option.bind_eq_some_iff] at h
  obtain ⟨ti, hti, h⟩ := h
  obtain ⟨_, d, _, hd, hk, _⟩ := tinfo_spec hti
  split at h
  · rename_i e sz b off len mc nl hkk
    have hd' := kd_sl (hk.trans hkk); subst hd'
    obtain ⟨a, cap, rfl, g1, g2, g3, g4⟩ := hx
    split at h
    · rename_i h0
      subst h0
      simp at h; obtain ⟨rfl, rfl⟩ := h
      refine ⟨.tuple #[], w, ?_, hr, trivial, .refl ..⟩
      cases a <;> simp [Builtin.clear_, ht, run_underlying hd]
    · rename_i h0
      simp only [Option.bind_eq_some_iff] at h
      obtain ⟨ei, hei, z, hz, cs, hcs, h⟩ := h
      have hq := need_some h
      clear h
      obtain ⟨⟨rfl, hone, hfit⟩, h⟩ := hq
      simp at h; obtain ⟨rfl, rfl⟩ := h
      obtain ⟨ad, l, rfl, hl, g5⟩ := g4 rfl
      obtain ⟨zv, hzrun, hzv⟩ := run_zeroValue hei hz w ρ
      rcases g5 with g5 | ⟨rfl, _⟩
      · omega
      obtain ⟨w', hrun, h1, h2⟩ := store_cells (P := P) hr (wrBlk_spec hcs) hl (RVs_zeroRow hzv len) hone hfit
      refine ⟨.tuple #[], w', ?_, h1, trivial, h2⟩
      obtain ⟨m, rfl⟩ : ∃ m, len = m + 1 := ⟨len - 1, by omega⟩
      have hrun' : (storeCells ⟨l.blk, l.base + off, none⟩ (Builtin.zeroCells zv.cells (m + 1)).toList).run P w = .ok () w' := hrun
      simp [Builtin.clear_, ht, run_underlying hd, hzrun]
      rw [hrun']; rfl
  · cases h
end Gab
end
section
set_option linter.unusedSimpArgs false
set_option linter.unusedVariables false
namespace Gab
open Go
def keyEq0 : AV → AV → Option Bool
  | .int k a, .int k' b => if k = k' then some (decide (a = b)) else none
  | .str a, .str b => some (decide (a = b))
  | .bool a, .bool b => some (decide (a = b))
  | _, _ => none
def eqCs : List AV → List AV → Option Bool
  | [], [] => some true
  | a :: r, b :: s => (keyEq0 a b).bind fun q => (eqCs r s).bind fun e => some (q && e)
  | _, _ => none
def keyEq : AV → AV → Option Bool
  | .int k a, .int k' b => if k = k' then some (decide (a = b)) else none
  | .str a, .str b => some (decide (a = b))
  | .bool a, .bool b => some (decide (a = b))
  | .agg xs, .agg ys => eqCs xs ys
  | _, _ => none
def keyK : TK → AV → Bool
  | .int k, .int k' _ => decide (k' = k)
  | .str, .str _ => true
  | .bool, .bool _ => true
  | _, _ => false
abbrev MEnts := List (AV × AV × Nat)
def findA (k : AV) : MEnts → Option (Option (Nat × AV))
  | [] => some none
  | e :: r => match keyEq k e.1 with
    | some true => some (some (0, e.2.1))
    | some false => (findA k r).map fun o => o.map fun p => (p.1 + 1, p.2)
    | none => none
def EntsRel (ρ : Loc.Map) (es : MEnts) (ents : List MapEntry) : Prop := ents.length = es.length ∧ ∀ (i : Nat) (k v : AV) (b : Nat), es[i]? = some (k, v, b) → ∃ e : MapEntry, ents[i]? = some e ∧ RV ρ k e.key ∧ RV ρ v e.val ∧ e.born = b
theorem EntsRel.tail {ρ : Loc.Map} {x : AV × AV × Nat} {es : MEnts} {e : MapEntry} {ents : List MapEntry} (h : EntsRel ρ (x :: es) (e :: ents)) : EntsRel ρ es ents :=
  ⟨by have := h.1; simpa using this, fun i k v b hi => by simpa using h.2 (i + 1) k v b (by simpa using hi)⟩
theorem EntsRel.head {ρ : Loc.Map} {x : AV × AV × Nat} {es : MEnts} {e : MapEntry} {ents : List MapEntry} (h : EntsRel ρ (x :: es) (e :: ents)) : RV ρ x.1 e.key ∧ RV ρ x.2.1 e.val ∧ e.born = x.2.2 := by
  obtain ⟨e', he, h1, h2, h3⟩ := h.2 0 x.1 x.2.1 x.2.2 rfl
  simp at he; subst he; exact ⟨h1, h2, h3⟩
theorem key_isKey {ρ : Loc.Map} {t : TK} {d : TypeDesc} {k : AV} {c : Value} (ht : kd d = t) (hk : keyK t k = true) (hc : RV ρ k c) : MapKept.IsKey d c := by
  subst ht
  cases d <;> simp only [kd] at hk <;> cases k <;> simp [keyK] at hk <;> simp only [RV] at hc <;> subst hc <;> simp [MapKept.IsKey, hk]
theorem keyEq_same {ρ : Loc.Map} {t : TK} {d : TypeDesc} {k k' : AV} {c c' : Value} {q : Bool} (ht : kd d = t) (hk : keyK t k = true) (hc : RV ρ k c) (hc' : RV ρ k' c') (h : keyEq k k' = some q) : Instr.sameNow d c c' = some q := by
  subst ht
  cases d <;> simp only [kd] at hk <;> cases k <;> simp [keyK] at hk <;> cases k' <;> simp [keyEq] at h <;> simp only [RV] at hc hc' <;> subst hc <;> subst hc'
  · subst h; rfl
  · rename_i j a b; simp only [Instr.sameNow]; rw [if_pos h.1]
    obtain ⟨_, rfl⟩ := h; rfl
  · subst h
    rename_i a b
    show some ((⟨⟨a⟩⟩ : ByteArray) == ⟨⟨b⟩⟩) = some (decide (a = b))
    rw [beq_toListBytes, mk_toList, mk_toList]
    congr 1
    rw [Bool.eq_iff_iff]
    simp
def keyF (P : Program) : List (Nat × TypeId) → Nat → List AV → Bool
  | [], _, [] => true
  | f :: r, i, c :: cs => decide (f.1 = i) && (match tinfo P f.2 with
    | some ti => keyK ti.k c
    | none => false) && keyF P r (i + 1) cs
  | _, _, _ => false
def keyKP (P : Program) (t : TypeId) (k : TK) (v : AV) : Bool := match k, v with
  | .struct fs, .agg cs => flatStruct P t && keyF P fs 0 cs
  | k, v => keyK k v
theorem keyF_cons {P : Program} {f : Nat × TypeId} {r : List (Nat × TypeId)} {i : Nat} {cs : List AV} (h : keyF P (f :: r) i cs = true) : ∃ c s ti, cs = c :: s ∧ f.1 = i ∧ tinfo P f.2 = some ti ∧ keyK ti.k c = true ∧ keyF P r (i + 1) s = true := by
  cases cs with
  | nil => simp [keyF] at h
  | cons c s =>
    simp only [keyF, Bool.and_eq_true, decide_eq_true_eq] at h
    obtain ⟨⟨h1, h2⟩, h3⟩ := h
    split at h2
    · exact ⟨c, s, _, rfl, h1, by assumption, h2, h3⟩
    · cases h2
theorem keyK_scal {k : TK} {c : AV} (h : keyK k c = true) : (∃ j n, k = .int j ∧ c = .int j n) ∨ (∃ l, k = .str ∧ c = .str l) ∨ ∃ b, k = .bool ∧ c = .bool b := by
  cases k <;> cases c <;> simp [keyK] at h
  · exact .inl ⟨_, _, rfl, by rw [h]⟩
  · exact .inr (.inr ⟨_, rfl, rfl⟩)
  · exact .inr (.inl ⟨_, rfl, rfl⟩)
theorem eqFields_of {P : Program} {xs ys : List AV} : ∀ {fs : List (Nat × TypeId)} {i : Nat} {b : Bool}, keyF P fs i (xs.drop i) = true → eqCs (xs.drop i) (ys.drop i) = some b → eqFields P xs ys fs = some b
  | [], i, b, h1, h2 => by
    cases hx : xs.drop i with
    | nil =>
      rw [hx] at h2
      cases hy : ys.drop i with
      | nil => rw [hy] at h2; simp [eqCs] at h2; subst h2; rfl
      | cons => rw [hy] at h2; simp [eqCs] at h2
    | cons => rw [hx] at h1; simp [keyF] at h1
  | f :: r, i, b, h1, h2 => by
    obtain ⟨c, s, ti, hx, hf, ht, hk, hr⟩ := keyF_cons h1
    rw [hx] at h2
    cases hy : ys.drop i with
    | nil => rw [hy] at h2; simp [eqCs] at h2
    | cons c' s' =>
      rw [hy] at h2
      simp only [eqCs, Option.bind_eq_some_iff] at h2
      obtain ⟨q, hq, e, he, h2⟩ := h2
      have hxd : xs.drop (i + 1) = s := by rw [← List.tail_drop, hx]; rfl
      have hyd : ys.drop (i + 1) = s' := by rw [← List.tail_drop, hy]; rfl
      have ih := eqFields_of (xs := xs) (ys := ys) (fs := r) (i := i + 1) (b := e) (by rw [hxd]; exact hr) (by rw [hxd, hyd]; exact he)
      have hxi : xs[f.1]? = some c := by rw [hf, ← List.head?_drop, hx]; rfl
      have hyi : ys[f.1]? = some c' := by rw [hf, ← List.head?_drop, hy]; rfl
      simp at h2; subst h2
      obtain ⟨o, t⟩ := f
      dsimp only at hf ht hxi hyi
      unfold eqFields
      rw [ht, Option.bind_some, hxi, hyi]
      rcases keyK_scal hk with ⟨j, n, e1, rfl⟩ | ⟨l, e1, rfl⟩ | ⟨l, e1, rfl⟩ <;> cases c' <;> simp [keyEq0] at hq
      · obtain ⟨h3, h4⟩ := hq
        simp only [e1, Option.bind_some, ih]
        rw [if_pos h3, h4]
      · simp only [e1, Option.bind_some, ih, ← hq]
      · simp only [e1, Option.bind_some, ih, ← hq]
theorem keyF_uniq {P : Program} {ρ : Loc.Map} : ∀ {fs : List (Nat × TypeId)} {i : Nat} {xs ys : List AV} {a b : List Value}, keyF P fs i xs = true → eqCs xs ys = some true → RVs ρ xs a → RVs ρ ys b → a = b
  | [], i, xs, ys, a, b, h, he, h1, h2 => by
    cases xs with
    | nil =>
      cases ys with
      | nil => simp only [RVs] at h1 h2; rw [h1, h2]
      | cons => simp [eqCs] at he
    | cons => simp [keyF] at h
  | f :: r, i, xs, ys, a, b, h, he, h1, h2 => by
    obtain ⟨c, s, ti, rfl, hf, ht, hk, hr⟩ := keyF_cons h
    cases ys with
    | nil => simp [eqCs] at he
    | cons c' s' =>
      simp only [eqCs, Option.bind_eq_some_iff] at he
      obtain ⟨q, hq, e, he, h3⟩ := he
      simp at h3; obtain ⟨rfl, rfl⟩ := h3
      obtain ⟨x, y, rfl, g1, g2⟩ := h1
      obtain ⟨x', y', rfl, g3, g4⟩ := h2
      have := keyF_uniq hr he g2 g4
      subst this
      congr 1
      rcases keyK_scal hk with ⟨j, n, e1, rfl⟩ | ⟨l, e1, rfl⟩ | ⟨l, e1, rfl⟩ <;> cases c' <;> simp [keyEq0] at hq <;> simp only [RV] at g1 g3 <;> rw [g1, g3]
      · rw [hq.1, hq.2]
      · rw [hq]
      · rw [hq]
theorem keyF_bits {P : Program} {ρ : Loc.Map} {n : Nat} : ∀ {fs : List (Nat × TypeId)} {i : Nat} {xs : List AV} {a : List Value}, keyF P fs i xs = true → RVs ρ xs a → ∀ c ∈ a, Instr.sameBits n c c = true
  | [], i, xs, a, h, h1 => by
    cases xs with
    | nil => simp only [RVs] at h1; subst h1; simp
    | cons => simp [keyF] at h
  | f :: r, i, xs, a, h, h1 => by
    obtain ⟨c, s, ti, rfl, hf, ht, hk, hr⟩ := keyF_cons h
    obtain ⟨x, y, rfl, g1, g2⟩ := h1
    intro z hz
    rcases List.mem_cons.1 hz with rfl | hz
    · rcases keyK_scal hk with ⟨j, m, e1, rfl⟩ | ⟨l, e1, rfl⟩ | ⟨l, e1, rfl⟩ <;> simp only [RV] at g1 <;> subst g1 <;> cases n <;> simp [Instr.sameBits, beq_toListBytes]
    · exact keyF_bits hr g2 z hz
theorem keyF_check {P : Program} {ρ : Loc.Map} (w : World) (em : Bool) (n : Nat) {xs : List AV} {cv : Array Value} (hcv : RVs ρ xs cv.toList) : ∀ {fs : List Field} {i : Nat}, (∀ f ∈ fs, f.name ≠ "_") → keyF P (fs.map fun f => (f.offset, f.type)) i (xs.drop i) = true →
    ((forIn fs PUnit.unit fun f _ => (if f.name ≠ "_" then do Instr.checkKey em (n + 1) f.type (← part f.type cv f.offset); pure (ForInStep.yield PUnit.unit) else pure (ForInStep.yield PUnit.unit) : Sem (ForInStep PUnit))) : Sem PUnit).run P w = .ok PUnit.unit w
  | [], i, _, _ => by simp
  | f :: fs, i, hn, h => by
    obtain ⟨c, s, ti, hx, hf, ht, hk, hr⟩ := keyF_cons h
    have hxd : xs.drop (i + 1) = s := by rw [← List.tail_drop, hx]; rfl
    have hxi : xs[i]? = some c := by rw [← List.head?_drop, hx]; rfl
    obtain ⟨x, hxx, hrx⟩ := RVs.get hcv hxi
    have hf : f.offset = i := hf
    have ht : tinfo P f.type = some ti := ht
    obtain ⟨i2, d2, hi2, hd2, hk2, _⟩ := tinfo_spec ht
    rw [Array.getElem?_toList] at hxx
    have hag : ti.k.agg = false := by rcases keyK_scal hk with ⟨j, m, e1, rfl⟩ | ⟨l, e1, rfl⟩ | ⟨l, e1, rfl⟩ <;> rw [e1] <;> rfl
    have p1 : (part f.type cv f.offset).run P w = .ok x w := by simp [part, run_isAgg ht, hag, hf, hxx]
    have p2 : (Instr.checkKey em (n + 1) f.type x).run P w = .ok () w := by
      rcases keyK_scal hk with ⟨j, m, e1, rfl⟩ | ⟨l, e1, rfl⟩ | ⟨l, e1, rfl⟩ <;> simp only [RV] at hrx <;> subst hrx <;> rw [e1] at hk2
      · have := kd_int hk2; subst this; simp [Instr.checkKey, run_underlying hd2]
      · have := kd_str hk2; subst this; simp [Instr.checkKey, run_underlying hd2]
      · have := kd_bool hk2; subst this; simp [Instr.checkKey, run_underlying hd2]
    have hnn := hn f (by simp)
    simp only [List.forIn_cons, Sem.run_bind, hnn, ne_eq, not_false_eq_true, if_true, Result.andThen_ok, p1, p2, Sem.run_pure]
    exact keyF_check w em n hcv (fs := fs) (i := i + 1) (fun g hg => hn g (by simp [hg])) (by rw [hxd]; exact hr)
theorem findNow_at {d : TypeDesc} {k : Value} : ∀ {ents : List MapEntry} {i : Nat} {r : Option (Nat × Value)}, Instr.findNow d k ents 0 = some r → Instr.findNow d k ents i = some (r.map fun p => (p.1 + i, p.2))
  | [], i, r, h => by simp [Instr.findNow] at h; subst h; rfl
  | e :: es, i, r, h => by
    have gen : ∀ {ents : List MapEntry} {i j : Nat} {r : Option (Nat × Value)}, Instr.findNow d k ents i = some r → Instr.findNow d k ents (i + j) = some (r.map fun p => (p.1 + j, p.2)) := by
      intro ents
      induction ents with
      | nil => intro i j r h; simp [Instr.findNow] at h; subst h; rfl
      | cons e es ih =>
        intro i j r h
        unfold Instr.findNow at h ⊢
        split at h
        · rename_i hs; simp at h; subst h; rfl
        · rename_i hs
          have := ih (j := j) h
          rw [show i + j + 1 = i + 1 + j by omega]; exact this
        · cases h
    have := gen (j := i) h
    rwa [Nat.zero_add] at this
theorem findA_ok {ρ : Loc.Map} {t : TK} {d : TypeDesc} {k : AV} {c : Value} (ht : kd d = t) (hk : keyK t k = true) (hc : RV ρ k c) : ∀ {es : MEnts} {ents : List MapEntry} {r : Option (Nat × AV)}, EntsRel ρ es ents → findA k es = some r →
    ∃ r', Instr.findNow d c ents 0 = some r' ∧ ((r = none ∧ r' = none) ∨ ∃ i v x, r = some (i, v) ∧ r' = some (i, x) ∧ RV ρ v x)
  | [], [], r, _, h => by simp [findA] at h; subst h; exact ⟨none, rfl, .inl ⟨rfl, rfl⟩⟩
  | [], _ :: _, r, he, _ => absurd he.1 (by simp)
  | _ :: _, [], r, he, _ => absurd he.1 (by simp)
  | x :: es, e :: ents, r, he, h => by
    obtain ⟨h1, h2, h3⟩ := he.head
    unfold findA at h
    split at h
    · rename_i hq
      simp at h; subst h
      refine ⟨some (0, e.val), ?_, .inr ⟨0, _, _, rfl, rfl, h2⟩⟩
      unfold Instr.findNow
      rw [keyEq_same ht hk hc h1 hq]
    · rename_i hq
      simp only [Option.map_eq_some_iff] at h
      obtain ⟨r0, hr0, rfl⟩ := h
      obtain ⟨r', hr', hcase⟩ := findA_ok ht hk hc he.tail hr0
      refine ⟨r'.map fun p => (p.1 + 1, p.2), ?_, ?_⟩
      · unfold Instr.findNow
        rw [keyEq_same ht hk hc h1 hq]
        exact findNow_at hr'
      · rcases hcase with ⟨rfl, rfl⟩ | ⟨i, v, x, rfl, rfl, hv⟩
        · exact .inl ⟨rfl, rfl⟩
        · exact .inr ⟨i + 1, v, x, rfl, rfl, hv⟩
    · cases h
theorem find_keyA {ρ : Loc.Map} {t : TK} {d : TypeDesc} {k : AV} {c : Value} (ht : kd d = t) (hk : keyK t k = true) (hc : RV ρ k c) : ∀ {es : MEnts} {ents : List MapEntry} {i : Nat} {v : AV}, EntsRel ρ es ents → findA k es = some (some (i, v)) → ∃ e : MapEntry, ents[i]? = some e ∧ e.key = c ∧ i < es.length
  | [], _, _, _, _, h => by simp [findA] at h
  | _ :: _, [], _, _, he, _ => absurd he.1 (by simp)
  | x :: es, e :: ents, i, v, he, h => by
    obtain ⟨h1, h2, h3⟩ := he.head
    unfold findA at h
    split at h
    · rename_i hq
      simp at h; obtain ⟨rfl, rfl⟩ := h
      refine ⟨e, rfl, ?_, by simp⟩
      subst ht
      generalize hxe : x.1 = x1 at h1 hq
      cases d <;> simp only [kd] at hk <;> cases k <;> simp [keyK] at hk <;> cases x1 <;> simp [keyEq] at hq <;> simp only [RV] at h1 hc <;> subst hc <;> rw [h1]
      · rw [hq]
      · rw [hq.1, hq.2]
      · rw [hq]
    · rename_i hq
      simp only [Option.map_eq_some_iff] at h
      obtain ⟨r0, hr0, h⟩ := h
      obtain ⟨⟨i0, v0⟩, rfl, hi⟩ := h
      simp at hi; obtain ⟨rfl, rfl⟩ := hi
      obtain ⟨e', he', hk', hlt⟩ := find_keyA ht hk hc he.tail hr0
      exact ⟨e', by simpa using he', hk', by simp; omega⟩
    · cases h
theorem findA_ask {P : Program} {ρ : Loc.Map} {kt : TypeId} {ff : Array Field} {cs : List AV} {cv : List Value} (w : World) (hd : P.underlying kt = some (.struct ff)) (hfl : flatStruct P kt = true) (hk : keyF P (ff.toList.map fun f => (f.offset, f.type)) 0 cs = true) (hc : RVs ρ cs cv) :
    ∀ {es : MEnts} {ents : List MapEntry} {r : Option (Nat × AV)} (i0 : Nat), EntsRel ρ es ents → findA (.agg cs) es = some r →
    ∃ r', (Instr.findAsking kt (.agg ⟨cv⟩) ents i0).run P w = .ok r' w ∧ ((r = none ∧ r' = none) ∨ ∃ i v x, r = some (i, v) ∧ r' = some (i + i0, x) ∧ RV ρ v x ∧ ∃ e, ents[i]? = some e ∧ e.key = .agg ⟨cv⟩ ∧ i < es.length)
  | [], [], r, i0, _, h => by simp [findA] at h; subst h; exact ⟨none, by simp [Instr.findAsking], .inl ⟨rfl, rfl⟩⟩
  | [], _ :: _, r, i0, he, _ => absurd he.1 (by simp)
  | _ :: _, [], r, i0, he, _ => absurd he.1 (by simp)
  | x :: es, e :: ents, r, i0, he, h => by
    obtain ⟨h1, h2, h3⟩ := he.head
    simp only [flatStruct, hd, Bool.and_eq_true, Bool.not_eq_true', List.all_eq_true] at hfl
    obtain ⟨⟨g1, g2⟩, g3⟩ := hfl
    have hfo : P.fieldsOf kt = ff := by simp [Program.fieldsOf, hd]
    have heq : ∀ {ys : List AV} {yv : List Value} {q : Bool}, RVs ρ ys yv → eqCs cs ys = some q → (Op.equal kt (.agg ⟨cv⟩) (.agg ⟨yv⟩)).run P w = .ok q w := fun {ys yv q} hy hq => by
      have he := eqFields_ok (P := P) (xv := ⟨cv⟩) (yv := ⟨yv⟩) hc hy 9998 w (fs := ff.toList) (fun f hf => by simpa using g3 f hf) (eqFields_of (i := 0) hk hq)
      simp only [Op.equal, Op.maxDepth]
      rw [run_equalIn_struct w 9999 kt ⟨cv⟩ ⟨yv⟩ (by rw [hfo]; exact hd) g1, hfo]
      exact he
    unfold findA at h
    have hag : ∀ {q : Bool}, keyEq (.agg cs) x.1 = some q → ∃ ys yv, x.1 = .agg ys ∧ e.key = .agg ⟨yv⟩ ∧ RVs ρ ys yv ∧ eqCs cs ys = some q := fun {q} hq => by
      generalize x.1 = x1 at h1 hq
      cases x1 <;> simp [keyEq] at hq
      obtain ⟨yv, hy1, hy2⟩ := h1
      exact ⟨_, yv, rfl, hy1, hy2, hq⟩
    split at h
    · rename_i hq
      simp at h; subst h
      obtain ⟨ys, yv, e1, e2, e3, e4⟩ := hag hq
      refine ⟨some (i0, e.val), by simp [Instr.findAsking, e2, heq e3 e4], .inr ⟨0, _, _, rfl, by rw [Nat.zero_add], h2, e, rfl, ?_, by simp⟩⟩
      rw [e2, keyF_uniq hk e4 hc e3]
    · rename_i hq
      obtain ⟨ys, yv, e1, e2, e3, e4⟩ := hag hq
      simp only [Option.map_eq_some_iff] at h
      obtain ⟨r0, hr0, rfl⟩ := h
      obtain ⟨r', hr', hcase⟩ := findA_ask w hd (by simp only [flatStruct, hd, Bool.and_eq_true, Bool.not_eq_true', List.all_eq_true]; exact ⟨⟨g1, g2⟩, g3⟩) hk hc (i0 + 1) he.tail hr0
      refine ⟨r', by simp [Instr.findAsking, e2, heq e3 e4, hr'], ?_⟩
      rcases hcase with ⟨rfl, rfl⟩ | ⟨i, v, y, rfl, rfl, hv, e', he', hke, hlt⟩
      · exact .inl ⟨rfl, rfl⟩
      · exact .inr ⟨i + 1, v, y, rfl, by rw [show i + 1 + i0 = i + (i0 + 1) by omega], hv, e', by simpa using he', hke, by simp; omega⟩
    · cases h
theorem key_run {P : Program} {ρ : Loc.Map} {kt : TypeId} {ki : TI} {k : AV} {c : Value} (w : World) (hti : tinfo P kt = some ki) (hk : keyKP P kt ki.k k = true) (hc : RV ρ k c) :
    (∀ em, (Instr.checkKey em 10000 kt c).run P w = .ok () w) ∧ (Instr.keyThatStays c c).run P w = .ok c w ∧
    ∀ {es : MEnts} {ents : List MapEntry} {r : Option (Nat × AV)}, EntsRel ρ es ents → findA k es = some r → ∃ r', (Instr.findKey kt c ents).run P w = .ok r' w ∧ ((r = none ∧ r' = none) ∨ ∃ i v x, r = some (i, v) ∧ r' = some (i, x) ∧ RV ρ v x ∧ ∃ e, ents[i]? = some e ∧ e.key = c ∧ i < es.length) := by
  obtain ⟨i, d, hi, hd, hkd, _⟩ := tinfo_spec hti
  unfold keyKP at hk
  split at hk
  · rename_i fs cs hfs
    simp only [Bool.and_eq_true] at hk
    obtain ⟨hfl, hkf⟩ := hk
    obtain ⟨ff, rfl, hff⟩ := kd_struct (hkd.trans hfs)
    obtain ⟨cv, rfl, hcv⟩ := hc
    rw [← hff] at hkf
    have hn : ∀ f ∈ ff.toList, f.name ≠ "_" := fun f hf => by
      simp only [flatStruct, hd, Bool.and_eq_true, Bool.not_eq_true', List.all_eq_true] at hfl
      simpa using hfl.2 f hf
    refine ⟨fun em => ?_, ?_, fun {es ents r} he hf => ?_⟩
    · have := keyF_check w em 9998 (cv := ⟨cv⟩) hcv hn hkf
      show (Instr.checkKey em (9999 + 1) kt (.agg ⟨cv⟩)).run P w = _
      unfold Instr.checkKey
      simp only [Sem.run_bind, run_underlying hd, Result.andThen_ok]
      rw [← Array.forIn_toList]
      refine (congrArg (fun z : Result PUnit => z.andThen fun a w' => (pure () : Sem Unit).run P w') this).trans ?_
      simp only [Result.andThen_ok, Sem.run_pure]
    · have hs : Instr.sameBits 10000 (.agg ⟨cv⟩) (.agg ⟨cv⟩) = true := by
        show Instr.sameBits (9999 + 1) (.agg ⟨cv⟩) (.agg ⟨cv⟩) = true
        simp only [Instr.sameBits, beq_self_eq_true, Bool.true_and, List.all_eq_true]
        intro p hp
        obtain ⟨i, hi, e⟩ := List.getElem_of_mem hp
        rw [List.getElem_zip] at e
        rw [← e]
        exact keyF_bits hkf hcv _ (List.getElem_mem _)
      simp [Instr.keyThatStays, hs]
    · obtain ⟨r', h1, h2⟩ := findA_ask w hd hfl hkf hcv 0 he hf
      exact ⟨r', by rw [run_findKey_eq w (by rw [hd])]; exact h1, h2⟩
  · have hik := key_isKey hkd hk hc
    refine ⟨fun em => MapKept.run_checkKey (w := w) hd hik em 9999, MapKept.run_keyThatStays hik, fun {es ents r} he hf => ?_⟩
    obtain ⟨r', hr', hcase⟩ := findA_ok hkd hk hc he hf
    refine ⟨r', MapKept.run_findKey (w := w) hd hr', ?_⟩
    rcases hcase with ⟨rfl, rfl⟩ | ⟨j, v, x, rfl, rfl, hv⟩
    · exact .inl ⟨rfl, rfl⟩
    · exact .inr ⟨j, v, x, rfl, rfl, hv, find_keyA hkd hk hc he hf⟩
def getMap (st : St) (b : Nat) : Option (MEnts × Nat) := match st.get b with
  | some (.map es c) => some (es, c)
  | _ => none
theorem getMap_spec {st : St} {b : Nat} {es : MEnts} {c : Nat} (h : getMap st b = some (es, c)) : st.get b = some (.map es c) := by
  unfold getMap at h
  split at h
  · simp at h; obtain ⟨rfl, rfl⟩ := h; assumption
  · cases h
theorem getMap_of {st : St} {b : Nat} {es : MEnts} {c : Nat} (h : st.get b = some (.map es c)) : getMap st b = some (es, c) := by unfold getMap; rw [h]
theorem map_obj {ρ : Loc.Map} {st : St} {w : World} (hr : Rel ρ st w) {b : Nat} {es : MEnts} {c : Nat} (h : getMap st b = some (es, c)) {l : Loc} (hl : ρ[b]? = some l) : ∃ ents : Array MapEntry, w.heap[l.blk]? = some (.map ents c) ∧ EntsRel ρ es ents.toList := by
  obtain ⟨l', hl', ents, hh, hsz, hes⟩ := hr.obj b _ (getMap_spec h)
  rw [hl] at hl'; simp at hl'; subst hl'
  exact ⟨ents, hh, by simpa using hsz, fun i k v b hi => by simpa using hes i k v b hi⟩
def AV.ofVa : Value → AV
  | .agg cs => .agg (cs.toList.map AV.ofV)
  | v => AV.ofV v
theorem RVs.ofV (ρ : Loc.Map) : ∀ l : List Value, RVs ρ (l.map AV.ofV) l
  | [] => rfl
  | v :: l => ⟨v, l, rfl, RV.ofV ρ v, RVs.ofV ρ l⟩
theorem RV.ofVa (ρ : Loc.Map) (v : Value) : RV ρ (AV.ofVa v) v := by
  unfold AV.ofVa
  split
  · exact ⟨_, rfl, RVs.ofV ρ _⟩
  · exact RV.ofV ρ v
def zinfo (P : Program) (t : TypeId) : Option AV := ((P.info? t).bind (·.zero)).map AV.ofVa
theorem zinfo_run {P : Program} {t : TypeId} {z : AV} (h : zinfo P t = some z) (w : World) (ρ : Loc.Map) : ∃ v, (zeroValue t).run P w = .ok v w ∧ RV ρ z v := by
  unfold zinfo at h
  simp only [Option.map_eq_some_iff, Option.bind_eq_some_iff] at h
  obtain ⟨v, ⟨i, hi, hz⟩, rfl⟩ := h
  exact ⟨v, by simp [zeroValue, typeInfo, hi, hz], RV.ofVa _ _⟩
def entsOf (st : St) : AV → Option MEnts
  | .nilmap => some []
  | .map b => (getMap st b).map (·.1)
  | _ => none
def evLookup (P : Program) (t : TypeId) (m k : AV) (ok : Bool) (st : St) : Option AV :=
  (tinfo P t).bind fun ti => match ti.k with
    | .map kt et => (tinfo P kt).bind fun ki => if keyKP P kt ki.k k then (entsOf st m).bind fun es => (findA k es).bind fun r => match r with
        | some p => some (if ok then .tup [p.2, .bool true] else p.2)
        | none => (zinfo P et).bind fun z => some (if ok then .tup [z, .bool false] else z)
      else none
    | _ => none
theorem kd_map {d : TypeDesc} {k e : TypeId} (h : kd d = .map k e) : d = .map k e := by cases d <;> simp_all [kd]
theorem evLookup_ok {P : Program} {t : TypeId} {m k v : AV} {ok : Bool} {st : St} (h : evLookup P t m k ok st = some v) {ρ : Loc.Map} {w : World} {cm ck : Value} (hr : Rel ρ st w) (hm : RV ρ m cm) (hk : RV ρ k ck) :
    ∃ x, (Instr.lookup t cm ck ok).run P w = .ok x w ∧ RV ρ v x := by
  unfold evLookup at h
  simp only [Option.bind_eq_some_iff] at h
  obtain ⟨ti, hti, h⟩ := h
  obtain ⟨i, d, hi, hd, hkd, _⟩ := tinfo_spec hti
  split at h
  · rename_i kt et hkk
    have hd' := kd_map (hkd.trans hkk); subst hd'
    simp only [Option.bind_eq_some_iff] at h
    obtain ⟨ki, hki, h⟩ := h
    obtain ⟨i2, d2, hi2, hd2, hkd2, _⟩ := tinfo_spec hki
    split at h
    · rename_i hkey
      simp only [Option.bind_eq_some_iff] at h
      obtain ⟨es, hes, r, hf, h⟩ := h
      have hent : ∃ ents : Array MapEntry, EntsRel ρ es ents.toList ∧ ((cm = .map none ∧ ents = #[]) ∨ ∃ r c, cm = .map (some r) ∧ w.heap[r]? = some (.map ents c)) := by
        unfold entsOf at hes
        split at hes
        · simp at hes; subst hes
          simp only [RV] at hm; subst hm
          exact ⟨#[], ⟨rfl, fun i k v b hi => by simp at hi⟩, .inl ⟨rfl, rfl⟩⟩
        · rename_i b
          simp only [Option.map_eq_some_iff] at hes
          obtain ⟨⟨es', c⟩, hg, rfl⟩ := hes
          obtain ⟨l, hl, rfl⟩ := hm
          obtain ⟨ents, hh, he⟩ := map_obj hr hg hl
          exact ⟨ents, he, .inr ⟨_, _, rfl, hh⟩⟩
        · cases hes
      obtain ⟨ents, he, hcm⟩ := hent
      obtain ⟨hchk0, _, hfind⟩ := key_run w hki hkey hk
      have hchk := hchk0 ents.isEmpty
      obtain ⟨r', hfk, hcase⟩ := hfind he hf
      rcases hcase with ⟨rfl, rfl⟩ | ⟨j, v', x, rfl, rfl, hv, _⟩
      · simp only [Option.bind_eq_some_iff] at h
        obtain ⟨z, hz, h⟩ := h
        obtain ⟨zv, hzr, hzv⟩ := zinfo_run hz w ρ
        refine ⟨if ok then .tuple #[zv, .bool false] else zv, ?_, ?_⟩
        · rcases hcm with ⟨rfl, rfl⟩ | ⟨r, c, rfl, hh⟩
          · simp only [Instr.lookup, Sem.run_bind, run_underlying hd, Result.andThen_ok, hchk, hfk, hzr, Sem.run_pure]
          · simp only [Instr.lookup, Sem.run_bind, run_underlying hd, Result.andThen_ok, MapKept.run_getObj_map hh, hchk, hfk, hzr, Sem.run_pure]
        · cases ok with
          | true => simp at h; subst h; exact ⟨[zv, .bool false], rfl, _, _, rfl, hzv, _, _, rfl, rfl, rfl⟩
          | false => simp at h; subst h; exact hzv
      · refine ⟨if ok then .tuple #[x, .bool true] else x, ?_, ?_⟩
        · rcases hcm with ⟨rfl, rfl⟩ | ⟨r, c, rfl, hh⟩
          · simp only [Instr.lookup, Sem.run_bind, run_underlying hd, Result.andThen_ok, hchk, hfk, Sem.run_pure]
          · simp only [Instr.lookup, Sem.run_bind, run_underlying hd, Result.andThen_ok, MapKept.run_getObj_map hh, hchk, hfk, Sem.run_pure]
        · cases ok with
          | true => simp at h; subst h; exact ⟨[x, .bool true], rfl, _, _, rfl, hv, _, _, rfl, rfl, rfl⟩
          | false => simp at h; subst h; exact hv
    · cases h
  · cases h
theorem map_upd {P : Program} {ρ : Loc.Map} {st : St} {w : World} (hr : Rel ρ st w) {b : Nat} {es : MEnts} {c : Nat} (h : getMap st b = some (es, c)) {l : Loc} (hl : ρ[b]? = some l) {ents' : Array MapEntry} {es' : MEnts} {c' : Nat} (he : EntsRel ρ es' ents'.toList) {ents : Array MapEntry} (hh : w.heap[l.blk]? = some (.map ents c)) :
    ∃ w', (setObj l.blk (.map ents' c')).run P w = .ok () w' ∧ Rel ρ (st.set b (.map es' c')) w' ∧ Step st.n ρ st w ρ (st.set b (.map es' c')) w' := by
  refine ⟨_, MapKept.run_setObj_map _ hh, ?_⟩
  obtain ⟨g1, g2⟩ := MapKept.heap_set (o' := .map ents' c') hh
  exact hr.upd (getMap_spec h) rfl hl g2 (by simp) rfl rfl rfl (Nat.le_refl _) ⟨ents', g1, by simpa using he.1, fun i k v b hi => by simpa using he.2 i k v b hi⟩
def evMapUpdate (P : Program) (t : TypeId) (m k v : AV) (st : St) : Option St :=
  (tinfo P t).bind fun ti => match ti.k with
    | .map kt _ => (tinfo P kt).bind fun ki => if keyKP P kt ki.k k then (match m with
        | .map b => (getMap st b).bind fun p => (findA k p.1).bind fun r => match r with
          | some q => (p.1[q.1]?).bind fun e => some (st.set b (.map (p.1.set q.1 (k, v, e.2.2)) p.2))
          | none => some (st.set b (.map (p.1 ++ [(k, v, p.2)]) (p.2 + 1)))
        | _ => none) else none
    | _ => none
theorem evMapUpdate_ok {P : Program} {t : TypeId} {m k v : AV} {st st' : St} (h : evMapUpdate P t m k v st = some st') {ρ : Loc.Map} {w : World} {cm ck cv : Value} (hr : Rel ρ st w) (hm : RV ρ m cm) (hk : RV ρ k ck) (hv : RV ρ v cv) :
    ∃ w', (Instr.mapUpdate t cm ck cv).run P w = .ok () w' ∧ Rel ρ st' w' ∧ Step st.n ρ st w ρ st' w' := by
  unfold evMapUpdate at h
  simp only [Option.bind_eq_some_iff] at h
  obtain ⟨ti, hti, h⟩ := h
  obtain ⟨i, d, hi, hd, hkd, _⟩ := tinfo_spec hti
  split at h
  · rename_i kt et hkk
    have hd' := kd_map (hkd.trans hkk); subst hd'
    simp only [Option.bind_eq_some_iff] at h
    obtain ⟨ki, hki, h⟩ := h
    obtain ⟨i2, d2, hi2, hd2, hkd2, _⟩ := tinfo_spec hki
    split at h
    · rename_i hkey
      split at h
      · rename_i b
        simp only [Option.bind_eq_some_iff] at h
        obtain ⟨⟨es, c⟩, hg, r, hf, h⟩ := h
        obtain ⟨l, hl, rfl⟩ := hm
        obtain ⟨ents, hh, he⟩ := map_obj hr hg hl
        obtain ⟨hchk0, hstay, hfind⟩ := key_run w hki hkey hk
        have hchk := hchk0 false
        obtain ⟨r', hfk, hcase⟩ := hfind he hf
        rcases hcase with ⟨rfl, rfl⟩ | ⟨j, v', x, rfl, rfl, _, e, hge, hke, hlt⟩
        · simp at h; subst h
          obtain ⟨w', h1, h2, h3⟩ := map_upd (P := P) hr hg hl (ents' := ents.push { key := ck, val := cv, born := c }) (es' := es ++ [(k, v, c)]) (c' := c + 1) ⟨by simp; exact he.1, fun i k' v' b' hi => by
            rcases Nat.lt_or_ge i es.length with hlt | hge
            · rw [List.getElem?_append_left hlt] at hi
              obtain ⟨e, h1, h2⟩ := he.2 i k' v' b' hi
              refine ⟨e, ?_, h2⟩
              rw [Array.toList_push, List.getElem?_append_left (by have := he.1; omega)]; exact h1
            · rw [List.getElem?_append_right hge] at hi
              have h0 : i - es.length = 0 := by
                rcases Nat.eq_zero_or_pos (i - es.length) with h0 | h0
                · exact h0
                · rw [List.getElem?_eq_none (by simp; omega)] at hi; cases hi
              rw [h0] at hi
              simp at hi; obtain ⟨rfl, rfl, rfl⟩ := hi
              refine ⟨{ key := ck, val := cv, born := c }, ?_, hk, hv, rfl⟩
              have := he.1
              rw [Array.toList_push, List.getElem?_append_right (by omega), show i - ents.toList.length = 0 by omega]; rfl⟩ hh
          refine ⟨w', ?_, h2, h3⟩
          simp only [Instr.mapUpdate, Sem.run_bind, run_underlying hd, Result.andThen_ok, MapKept.run_getObj_map hh, hchk, hfk, h1]
        · simp only [Option.bind_eq_some_iff] at h
          obtain ⟨e0, he0, h⟩ := h
          simp at h; subst h
          obtain ⟨e1, hge1, _, _, hb1⟩ := he.2 j e0.1 e0.2.1 e0.2.2 he0
          rw [hge] at hge1; simp at hge1; subst hge1
          obtain ⟨w', h1, h2, h3⟩ := map_upd (P := P) hr hg hl (ents' := ents.modify j fun e => { e with key := ck, val := cv }) (es' := es.set j (k, v, e0.2.2)) (c' := c) ⟨by simp; exact he.1, fun i k' v' b' hi => by
            rw [List.getElem?_set] at hi
            rw [Array.getElem?_toList, Array.getElem?_modify]
            rw [Array.getElem?_toList] at hge
            split at hi
            · rename_i hij
              subst hij
              rw [if_pos rfl, hge]
              simp [hlt] at hi; obtain ⟨rfl, rfl, rfl⟩ := hi
              exact ⟨_, rfl, hk, hv, hb1⟩
            · rename_i hij
              rw [if_neg hij]
              obtain ⟨e', a1, a2⟩ := he.2 i k' v' b' hi
              rw [Array.getElem?_toList] at a1
              exact ⟨e', a1, a2⟩⟩ hh
          refine ⟨w', ?_, h2, h3⟩
          have hks : (((ents[j]?).map (·.key)).getD ck) = ck := by
            rw [Array.getElem?_toList] at hge
            rw [hge]; exact hke
          simp only [Instr.mapUpdate, Sem.run_bind, run_underlying hd, Result.andThen_ok, MapKept.run_getObj_map hh, hchk, hfk, hks, hstay, h1]
      · cases h
    · cases h
  · cases h
def evMapEntry (P : Program) (t : TypeId) (m k : AV) (st : St) : Option (AV × St) :=
  (tinfo P t).bind fun ti => match ti.k with
    | .map kt et => (tinfo P kt).bind fun ki => if keyKP P kt ki.k k then (match m with
        | .map b => (getMap st b).bind fun p => (findA k p.1).bind fun r => match r with
          | some q => (p.1[q.1]?).bind fun e => some (.tup [q.2, .int .i64 (e.2.2 : Int)], st.set b (.map (p.1.set q.1 (k, e.2.1, e.2.2)) p.2))
          | none => (zinfo P et).bind fun z => some (.tup [z, .int .i64 (p.2 : Int)], st.set b (.map (p.1 ++ [(k, z, p.2)]) (p.2 + 1)))
        | _ => none) else none
    | _ => none
theorem evMapEntry_ok {P : Program} {t : TypeId} {m k v : AV} {st st' : St} (h : evMapEntry P t m k st = some (v, st')) {ρ : Loc.Map} {w : World} {cm ck : Value} (hr : Rel ρ st w) (hm : RV ρ m cm) (hk : RV ρ k ck) :
    ∃ c w', (Instr.mapEntry t cm ck).run P w = .ok c w' ∧ Rel ρ st' w' ∧ RV ρ v c ∧ Step st.n ρ st w ρ st' w' := by
  unfold evMapEntry at h
  simp only [Option.bind_eq_some_iff] at h
  obtain ⟨ti, hti, h⟩ := h
  obtain ⟨i, d, hi, hd, hkd, _⟩ := tinfo_spec hti
  split at h
  · rename_i kt et hkk
    have hd' := kd_map (hkd.trans hkk); subst hd'
    simp only [Option.bind_eq_some_iff] at h
    obtain ⟨ki, hki, h⟩ := h
    obtain ⟨i2, d2, hi2, hd2, hkd2, _⟩ := tinfo_spec hki
    split at h
    · rename_i hkey
      split at h
      · rename_i b
        simp only [Option.bind_eq_some_iff] at h
        obtain ⟨⟨es, c⟩, hg, r, hf, h⟩ := h
        obtain ⟨l, hl, rfl⟩ := hm
        obtain ⟨ents, hh, he⟩ := map_obj hr hg hl
        obtain ⟨hchk0, hstay, hfind⟩ := key_run w hki hkey hk
        have hchk := hchk0 false
        obtain ⟨r', hfk, hcase⟩ := hfind he hf
        rcases hcase with ⟨rfl, rfl⟩ | ⟨j, v', x, rfl, rfl, hvx, e, hge, hke, hlt⟩
        · simp only [Option.bind_eq_some_iff] at h
          obtain ⟨z, hz, h⟩ := h
          simp at h; obtain ⟨rfl, rfl⟩ := h
          obtain ⟨cz, hzr, hzv⟩ := zinfo_run hz w ρ
          obtain ⟨w', h1, h2, h3⟩ := map_upd (P := P) hr hg hl (ents' := ents.push { key := ck, val := cz, born := c }) (es' := es ++ [(k, z, c)]) (c' := c + 1) ⟨by simp; exact he.1, fun i k' v' b' hi => by
            rcases Nat.lt_or_ge i es.length with hlt | hge
            · rw [List.getElem?_append_left hlt] at hi
              obtain ⟨e, h1, h2⟩ := he.2 i k' v' b' hi
              refine ⟨e, ?_, h2⟩
              rw [Array.toList_push, List.getElem?_append_left (by have := he.1; omega)]; exact h1
            · rw [List.getElem?_append_right hge] at hi
              have h0 : i - es.length = 0 := by
                rcases Nat.eq_zero_or_pos (i - es.length) with h0 | h0
                · exact h0
                · rw [List.getElem?_eq_none (by simp; omega)] at hi; cases hi
              rw [h0] at hi
              simp at hi; obtain ⟨rfl, rfl, rfl⟩ := hi
              refine ⟨{ key := ck, val := cz, born := c }, ?_, hk, hzv, rfl⟩
              have := he.1
              rw [Array.toList_push, List.getElem?_append_right (by omega), show i - ents.toList.length = 0 by omega]; rfl⟩ hh
          refine ⟨_, w', ?_, h2, ⟨[cz, goInt c], rfl, _, _, rfl, hzv, _, _, rfl, rfl, rfl⟩, h3⟩
          simp only [Instr.mapEntry, Sem.run_bind, run_underlying hd, Result.andThen_ok, MapKept.run_getObj_map hh, hchk, hfk, hzr, h1, Sem.run_pure]
        · simp only [Option.bind_eq_some_iff] at h
          obtain ⟨e0, he0, h⟩ := h
          simp at h; obtain ⟨rfl, rfl⟩ := h
          obtain ⟨e1, hge1, _, hv1, hb1⟩ := he.2 j e0.1 e0.2.1 e0.2.2 he0
          rw [hge] at hge1; simp at hge1; subst hge1
          obtain ⟨w', h1, h2, h3⟩ := map_upd (P := P) hr hg hl (ents' := ents.modify j fun e => { e with key := ck }) (es' := es.set j (k, e0.2.1, e0.2.2)) (c' := c) ⟨by simp; exact he.1, fun i k' v' b' hi => by
            rw [List.getElem?_set] at hi
            rw [Array.getElem?_toList, Array.getElem?_modify]
            rw [Array.getElem?_toList] at hge
            split at hi
            · rename_i hij
              subst hij
              rw [if_pos rfl, hge]
              simp [hlt] at hi; obtain ⟨rfl, rfl, rfl⟩ := hi
              exact ⟨_, rfl, hk, hv1, hb1⟩
            · rename_i hij
              rw [if_neg hij]
              obtain ⟨e', a1, a2⟩ := he.2 i k' v' b' hi
              rw [Array.getElem?_toList] at a1
              exact ⟨e', a1, a2⟩⟩ hh
          rw [Array.getElem?_toList] at hge
          refine ⟨_, w', ?_, h2, ⟨[x, goInt e.born], rfl, _, _, rfl, hvx, _, _, rfl, by rw [hb1]; rfl, rfl⟩, h3⟩
          have hks : (((ents[j]?).map (·.key)).getD ck) = ck := by
            rw [hge]; exact hke
          simp only [Instr.mapEntry, Sem.run_bind, run_underlying hd, Result.andThen_ok, MapKept.run_getObj_map hh, hchk, hfk, hks, hstay, h1]
          simp only [hge, Option.map_some, Option.getD_some, Sem.run_pure]
      · cases h
    · cases h
  · cases h
def evEntryStore (m s v : AV) (st : St) : Option St := match m, s with
  | .map b, .int _ n => (getMap st b).bind fun p => (p.1.findIdx? fun e => ((e.2.2 : Nat) : Int) == n).bind fun i => (p.1[i]?).bind fun e => some (st.set b (.map (p.1.set i (e.1, v, e.2.2)) p.2))
  | _, _ => none
theorem EntsRel.findIdx {ρ : Loc.Map} {n : Int} : ∀ {es : MEnts} {ents : List MapEntry}, EntsRel ρ es ents → ents.findIdx? (fun e => ((e.born : Nat) : Int) == n) = es.findIdx? (fun e => ((e.2.2 : Nat) : Int) == n)
  | [], [], _ => rfl
  | [], _ :: _, h => absurd h.1 (by simp)
  | _ :: _, [], h => absurd h.1 (by simp)
  | x :: es, e :: ents, h => by
    rw [List.findIdx?_cons, List.findIdx?_cons, h.head.2.2, h.tail.findIdx]
theorem evEntryStore_ok {P : Program} {t : TypeId} {m s v : AV} {st st' : St} (h : evEntryStore m s v st = some st') {ρ : Loc.Map} {w : World} {cm cs cv : Value} (hr : Rel ρ st w) (hm : RV ρ m cm) (hs : RV ρ s cs) (hv : RV ρ v cv) :
    ∃ w', (Instr.entryStore t cm cs cv).run P w = .ok () w' ∧ Rel ρ st' w' ∧ Step st.n ρ st w ρ st' w' := by
  unfold evEntryStore at h
  split at h
  · rename_i b kd n
    simp only [Option.bind_eq_some_iff] at h
    obtain ⟨⟨es, c⟩, hg, i, hi, e0, he0, h⟩ := h
    simp at h; subst h
    obtain ⟨l, hl, rfl⟩ := hm
    obtain rfl := hs
    obtain ⟨ents, hh, he⟩ := map_obj hr hg hl
    have hfi : ents.findIdx? (fun e => (e.born : Int) == n) = some i := by
      rw [← List.findIdx?_toArray] at *
      have := he.findIdx (n := n)
      rw [← List.findIdx?_toArray] at this
      simpa using this.trans (by simpa using hi)
    obtain ⟨e1, hge, hk1, _, hb1⟩ := he.2 i e0.1 e0.2.1 e0.2.2 he0
    have hlt := (List.getElem?_eq_some_iff.1 he0).1
    obtain ⟨w', h1, h2, h3⟩ := map_upd (P := P) hr hg hl (ents' := ents.modify i fun e => { e with val := cv }) (es' := es.set i (e0.1, v, e0.2.2)) (c' := c) ⟨by simp; exact he.1, fun j k' v' b' hj => by
      rw [List.getElem?_set] at hj
      rw [Array.getElem?_toList, Array.getElem?_modify]
      rw [Array.getElem?_toList] at hge
      split at hj
      · rename_i hij
        subst hij
        rw [if_pos rfl, hge]
        simp [hlt] at hj; obtain ⟨rfl, rfl, rfl⟩ := hj
        exact ⟨_, rfl, hk1, hv, hb1⟩
      · rename_i hij
        rw [if_neg hij]
        obtain ⟨e', a1, a2⟩ := he.2 j k' v' b' hj
        rw [Array.getElem?_toList] at a1
        exact ⟨e', a1, a2⟩⟩ hh
    refine ⟨w', ?_, h2, h3⟩
    simp only [Instr.entryStore, Sem.run_bind, Result.andThen_ok, MapKept.run_getObj_map hh, asInt, asIntOf, Sem.run_pure, hfi, h1]
  · cases h
end Gab
namespace Gab
open Go
theorem Rel.newObj {ρ : Loc.Map} {st : St} {w : World} (h : Rel ρ st w) (o : AObj) (obj : Obj) (ho : ObjRel (ρ ++ [⟨w.heap.size, 0, 0⟩]) o ⟨w.heap.size, 0, 0⟩ (w.alloc obj)) :
    Rel (ρ ++ [⟨w.heap.size, 0, 0⟩]) (st.push o) (w.alloc obj) ∧ Step st.n ρ st w (ρ ++ [⟨w.heap.size, 0, 0⟩]) (st.push o) (w.alloc obj) ∧ (ρ ++ [(⟨w.heap.size, 0, 0⟩ : Loc)])[st.n]? = some ⟨w.heap.size, 0, 0⟩ := by
  have hloc : (ρ ++ [(⟨w.heap.size, 0, 0⟩ : Loc)])[st.n]? = some ⟨w.heap.size, 0, 0⟩ := by rw [← h.len]; simp
  have hold : ∀ k, k < w.heap.size → (w.alloc obj).heap[k]? = w.heap[k]? := fun k hk => by
    show (w.heap.push obj)[k]? = _
    rw [Array.getElem?_push, if_neg (by omega)]
  have hof : ∀ b x, (st.push o).get b = some x → (b = st.n ∧ x = o) ∨ (b < st.n ∧ st.get b = some x) := fun b x hb => by
    rw [St.push_get] at hb
    split at hb
    · exact .inl ⟨‹_›, by simpa using hb.symm⟩
    · exact .inr ⟨h.lt hb, hb⟩
  have hloc' : ∀ b x l, b < st.n → st.get b = some x → (ρ ++ [(⟨w.heap.size, 0, 0⟩ : Loc)])[b]? = some l → ρ[b]? = some l ∧ l.blk < w.heap.size := fun b x l hlt hb hl => by
    rw [List.getElem?_append_left (by have := h.len; omega)] at hl
    obtain ⟨l', hl', hr⟩ := h.obj b x hb
    rw [hl] at hl'; simp at hl'; subst hl'
    exact ⟨hl, hr.lt⟩
  refine gi3 h ⟨⟨by simp [St.push_n, h.len], fun b x hb => ?_, fun b b' l l' x x' hne hb hrw hb' hl hl' => ?_⟩, ⟨Ext.append _ _ (by have := h.len; omega), rfl, rfl, rfl, Nat.le_refl _, by show _ ≤ (w.heap.push obj).size; simp, fun k hk _ => hold k hk, fun b x l hb hrw hl hlt => ?_⟩, hloc⟩
  · rcases hof b x hb with ⟨rfl, rfl⟩ | ⟨hlt, hb⟩
    · exact ⟨_, hloc, ho⟩
    · obtain ⟨l, hl, hr⟩ := h.obj b x hb
      exact ⟨l, Sup.append _ _ _ _ hl, (hr.world (hold _ hr.lt)).sup (Sup.append _ _)⟩
  · rcases hof b x hb with ⟨e1, _⟩ | ⟨hlt, hb1⟩ <;> rcases hof b' x' hb' with ⟨e2, _⟩ | ⟨hlt', hb2⟩
    · exact absurd (e1.trans e2.symm) hne
    · subst e1; rw [hloc] at hl; simp at hl; subst hl
      have := (hloc' b' x' l' hlt' hb2 hl').2
      show w.heap.size ≠ l'.blk; omega
    · subst e2; rw [hloc] at hl'; simp at hl'; subst hl'
      have := (hloc' b x l hlt hb1 hl).2
      show l.blk ≠ w.heap.size; omega
    · exact h.sep b b' l l' x x' hne hb1 hrw hb2 (hloc' b x l hlt hb1 hl).1 (hloc' b' x' l' hlt' hb2 hl').1
  · rcases hof b x hb with ⟨rfl, rfl⟩ | ⟨hlt', hb⟩
    · rw [hloc] at hl; simp at hl; subst hl; exact absurd hlt (by show ¬ w.heap.size < w.heap.size; omega)
    · exact ⟨b, x, l, hb, hrw, (hloc' b x l hlt' hb hl).1, rfl⟩
theorem heap_new (w : World) (o : Obj) : (w.alloc o).heap[w.heap.size]? = some o := by
  show (w.heap.push o)[w.heap.size]? = some o
  simp
def evMakeMap (st : St) : Option AV → Option (AV × St)
  | none => some (.map st.n, st.push (.map [] 0))
  | some _ => none
theorem evMakeMap_ok {P : Program} {r : Option AV} {st st' : St} {v : AV} (h : evMakeMap st r = some (v, st')) {ρ : Loc.Map} {w : World} (hr : Rel ρ st w) (t : TypeId) {cr : Option Value} (hc : ROv ρ r cr) :
    ∃ c w' ρ', (Instr.makeMap t cr).run P w = .ok c w' ∧ Rel ρ' st' w' ∧ RV ρ' v c ∧ Step st.n ρ st w ρ' st' w' := by
  cases r with
  | none =>
    simp [evMakeMap] at h; obtain ⟨rfl, rfl⟩ := h
    obtain rfl := hc
    obtain ⟨h1, h2, h3⟩ := hr.newObj (.map [] 0) (.map #[] 0) ⟨#[], heap_new _ _, rfl, fun i k v b hi => by simp at hi⟩
    exact ⟨.map (some w.heap.size), w.alloc (.map #[] 0), _, rfl, h1, ⟨_, h3, rfl⟩, h2⟩
  | some x => cases h
def evLenM (P : Program) (t : TypeId) (m : AV) (st : St) : Option AV := (tinfo P t).bind fun ti => match ti.k with
  | .map _ _ => (entsOf st m).bind fun es => some (.int .i64 es.length)
  | _ => none
theorem entsOf_ok {st : St} {m : AV} {es : MEnts} (hes : entsOf st m = some es) {ρ : Loc.Map} {w : World} {cm : Value} (hr : Rel ρ st w) (hm : RV ρ m cm) : ∃ ents : Array MapEntry, EntsRel ρ es ents.toList ∧ ((cm = .map none ∧ ents = #[]) ∨ ∃ r c, cm = .map (some r) ∧ w.heap[r]? = some (.map ents c)) := by
  unfold entsOf at hes
  split at hes
  · simp at hes; subst hes
    simp only [RV] at hm; subst hm
    exact ⟨#[], ⟨rfl, fun i k v b hi => by simp at hi⟩, .inl ⟨rfl, rfl⟩⟩
  · rename_i b
    simp only [Option.map_eq_some_iff] at hes
    obtain ⟨⟨es', c⟩, hg, rfl⟩ := hes
    obtain ⟨l, hl, rfl⟩ := hm
    obtain ⟨ents, hh, he⟩ := map_obj hr hg hl
    exact ⟨ents, he, .inr ⟨_, _, rfl, hh⟩⟩
  · cases hes
theorem evLenM_ok {P : Program} {t : TypeId} {m v : AV} {st : St} (h : evLenM P t m st = some v) {ρ : Loc.Map} {w : World} {cm : Value} (hr : Rel ρ st w) (hm : RV ρ m cm) (ts : Array TypeId) (ty : TypeId) (hts : ts[0]? = some t) :
    ∃ c, (Builtin.len_ ts ty #[cm]).run P w = .ok c w ∧ RV ρ v c := by
  unfold evLenM at h
  simp only [Option.bind_eq_some_iff] at h
  obtain ⟨ti, hti, h⟩ := h
  obtain ⟨i, d, hi, hd, hkd, _⟩ := tinfo_spec hti
  split at h
  · rename_i kt et hkk
    have hd' := kd_map (hkd.trans hkk); subst hd'
    simp only [Option.bind_eq_some_iff] at h
    obtain ⟨es, hes, h⟩ := h
    simp at h; subst h
    obtain ⟨ents, he, hcm⟩ := entsOf_ok hes hr hm
    have hl := he.1
    rcases hcm with ⟨rfl, rfl⟩ | ⟨r, c, rfl, hh⟩
    · refine ⟨_, by simp only [Builtin.len_, hts, Sem.run_bind, run_underlying hd, Result.andThen_ok, List.getElem?_toArray, List.getElem?_cons_zero]; rfl, ?_⟩
      have : es = [] := List.eq_nil_of_length_eq_zero (by simpa using hl.symm)
      subst this; rfl
    · refine ⟨goInt ents.size, by simp only [Builtin.len_, hts, Sem.run_bind, run_underlying hd, Result.andThen_ok, List.getElem?_toArray, List.getElem?_cons_zero, MapKept.run_getObj_map hh]; rfl, ?_⟩
      show goInt ents.size = .int .i64 (es.length : Int)
      rw [← hl]; rfl
  · cases h
def evClear2 (P : Program) (t : TypeId) (x : AV) (st : St) : Option (AV × St) := match x with
  | .map b => (tinfo P t).bind fun ti => match ti.k with
    | .map _ _ => (getMap st b).bind fun p => some (.any, st.set b (.map [] p.2))
    | _ => none
  | x => evClear P t x st
theorem evClear2_ok {P : Program} {t : TypeId} {x v : AV} {st st' : St} (h : evClear2 P t x st = some (v, st')) {ρ : Loc.Map} {w : World} {c : Value} (hr : Rel ρ st w) (hx : RV ρ x c) (ts : Array TypeId) (ty : TypeId) (ht : ts[0]? = some t) :
    ∃ r w', (Builtin.clear_ ts ty #[c]).run P w = .ok r w' ∧ Rel ρ st' w' ∧ RV ρ v r ∧ Step st.n ρ st w ρ st' w' := by
  unfold evClear2 at h
  split at h
  · rename_i b
    simp only [Option.bind_eq_some_iff] at h
    obtain ⟨ti, hti, h⟩ := h
    obtain ⟨_, d, _, hd, hk, _⟩ := tinfo_spec hti
    split at h
    · rename_i kt et hkk
      have hd' := kd_map (hk.trans hkk); subst hd'
      simp only [Option.bind_eq_some_iff] at h
      obtain ⟨⟨es, c'⟩, hg, h⟩ := h
      simp at h; obtain ⟨rfl, rfl⟩ := h
      obtain ⟨l, hl, rfl⟩ := hx
      obtain ⟨ents, hh, he⟩ := map_obj hr hg hl
      obtain ⟨w', h1, h2, h3⟩ := map_upd (P := P) hr hg hl (ents' := #[]) (es' := []) (c' := c') ⟨rfl, fun i k v b hi => by simp at hi⟩ hh
      refine ⟨.tuple #[], w', ?_, h2, trivial, h3⟩
      simp only [Builtin.clear_, ht, List.getElem?_toArray, List.getElem?_cons_zero, Sem.run_bind, run_underlying hd, Result.andThen_ok, MapKept.run_getObj_map hh, h1, Sem.run_pure]
    · cases h
  · exact evClear_ok h hr hx ts ty ht
def evDelete (P : Program) (t : TypeId) (m k : AV) (st : St) : Option St := (tinfo P t).bind fun ti => match ti.k with
  | .map kt _ => (tinfo P kt).bind fun ki => if keyKP P kt ki.k k then (match m with
      | .map b => (getMap st b).bind fun p => (findA k p.1).bind fun r => match r with
        | some q => some (st.set b (.map (p.1.eraseIdx q.1) p.2))
        | none => some (st.set b (.map p.1 p.2))
      | _ => none) else none
  | _ => none
theorem evDelete_ok {P : Program} {t : TypeId} {m k : AV} {st st' : St} (h : evDelete P t m k st = some st') {ρ : Loc.Map} {w : World} {cm ck : Value} (hr : Rel ρ st w) (hm : RV ρ m cm) (hk : RV ρ k ck) (ts : Array TypeId) (ty : TypeId) (hts : ts[0]? = some t) :
    ∃ w', (Builtin.delete_ ts ty #[cm, ck]).run P w = .ok (.tuple #[]) w' ∧ Rel ρ st' w' ∧ Step st.n ρ st w ρ st' w' := by
  unfold evDelete at h
  simp only [Option.bind_eq_some_iff] at h
  obtain ⟨ti, hti, h⟩ := h
  obtain ⟨i, d, hi, hd, hkd, _⟩ := tinfo_spec hti
  split at h
  · rename_i kt et hkk
    have hd' := kd_map (hkd.trans hkk); subst hd'
    simp only [Option.bind_eq_some_iff] at h
    obtain ⟨ki, hki, h⟩ := h
    obtain ⟨i2, d2, hi2, hd2, hkd2, _⟩ := tinfo_spec hki
    split at h
    · rename_i hkey
      split at h
      · rename_i b
        simp only [Option.bind_eq_some_iff] at h
        obtain ⟨⟨es, c⟩, hg, r, hf, h⟩ := h
        obtain ⟨l, hl, rfl⟩ := hm
        obtain ⟨ents, hh, he⟩ := map_obj hr hg hl
        obtain ⟨hchk0, _, hfind⟩ := key_run w hki hkey hk
        have hchk := hchk0 ents.isEmpty
        obtain ⟨r', hfk, hcase⟩ := hfind he hf
        rcases hcase with ⟨rfl, rfl⟩ | ⟨j, v', x, rfl, rfl, _, e9, _, _, hlt9⟩
        · simp at h; subst h
          obtain ⟨w', h1, h2, h3⟩ := map_upd (P := P) hr hg hl he (c' := c) hh
          refine ⟨w', ?_, h2, h3⟩
          simp only [Builtin.delete_, hts, Sem.run_bind, run_underlying hd, Result.andThen_ok, List.getElem?_toArray, List.getElem?_cons_zero, List.getElem?_cons_succ, MapKept.run_getObj_map hh, hchk, hfk, h1, Sem.run_pure]
        · simp at h; subst h
          have hlt : j < es.length := hlt9
          have hle := he.1
          obtain ⟨w', h1, h2, h3⟩ := map_upd (P := P) hr hg hl (ents' := ents.eraseIdxIfInBounds j) (es' := es.eraseIdx j) (c' := c) ⟨by
            rw [Array.toList_eraseIdxIfInBounds, List.length_eraseIdx, List.length_eraseIdx, hle], fun i k' v' b' hi => by
            rw [Array.toList_eraseIdxIfInBounds, List.getElem?_eraseIdx]
            rw [List.getElem?_eraseIdx] at hi
            split at hi
            · rename_i hij; rw [if_pos hij]; exact he.2 i k' v' b' hi
            · rename_i hij; rw [if_neg hij]; exact he.2 (i + 1) k' v' b' hi⟩ hh
          refine ⟨w', ?_, h2, h3⟩
          simp only [Builtin.delete_, hts, Sem.run_bind, run_underlying hd, Result.andThen_ok, List.getElem?_toArray, List.getElem?_cons_zero, List.getElem?_cons_succ, MapKept.run_getObj_map hh, hchk, hfk, h1, Sem.run_pure]
      · cases h
    · cases h
  · cases h
end Gab
namespace Gab
open Go
def evRange (P : Program) (t : TypeId) (x : AV) (st : St) : Option (AV × St) := (tinfo P t).bind fun ti => match ti.k, x with
  | .str, .str l => some (.ptr st.n 0, st.push (.siter l 0))
  | .map _ _, .nilmap => some (.ptr st.n 0, st.push (.miter none 0 [] 0))
  | .map _ _, .map b => (getMap st b).bind fun p => some (.ptr st.n 0, st.push (.miter (some b) p.2 [] p.2))
  | _, _ => none
theorem evRange_ok {P : Program} {t : TypeId} {x v : AV} {st st' : St} (h : evRange P t x st = some (v, st')) {ρ : Loc.Map} {w : World} {cx : Value} (hr : Rel ρ st w) (hx : RV ρ x cx) :
    ∃ c w' ρ', (Instr.range t cx).run P w = .ok c w' ∧ Rel ρ' st' w' ∧ RV ρ' v c ∧ Step st.n ρ st w ρ' st' w' := by
  unfold evRange at h
  simp only [Option.bind_eq_some_iff] at h
  obtain ⟨ti, hti, h⟩ := h
  obtain ⟨i, d, hi, hd, hkd, _⟩ := tinfo_spec hti
  split at h
  · rename_i l hk
    have hd' := kd_str (hkd.trans hk); subst hd'
    simp at h; obtain ⟨rfl, rfl⟩ := h
    simp only [RV] at hx; subst hx
    obtain ⟨h1, h2, h3⟩ := hr.newObj (.siter l 0) (.stringIter ⟨l.toArray⟩ 0) ⟨heap_new _ _, rfl⟩
    exact ⟨_, _, _, by simp [Instr.range, run_underlying hd], h1, ⟨_, h3, rfl⟩, h2⟩
  · rename_i kt et hk
    have hd' := kd_map (hkd.trans hk); subst hd'
    simp at h; obtain ⟨rfl, rfl⟩ := h
    simp only [RV] at hx; subst hx
    obtain ⟨h1, h2, h3⟩ := hr.newObj (.miter none 0 [] 0) (.mapIter none 0 #[] 0) ⟨rfl, .inl ⟨rfl, heap_new _ _⟩⟩
    exact ⟨_, _, _, run_range_nilMap w t _ _ hd, h1, ⟨_, h3, rfl⟩, h2⟩
  · rename_i kt et b hk
    have hd' := kd_map (hkd.trans hk); subst hd'
    simp only [Option.bind_eq_some_iff] at h
    obtain ⟨⟨es, c⟩, hg, h⟩ := h
    simp at h; obtain ⟨rfl, rfl⟩ := h
    obtain ⟨l, hl, rfl⟩ := hx
    obtain ⟨ents, hh, he⟩ := map_obj hr hg hl
    obtain ⟨h1, h2, h3⟩ := hr.newObj (.miter (some b) c [] c) (.mapIter (some l.blk) c #[] c) ⟨rfl, .inr ⟨b, l, rfl, Sup.append _ _ _ _ hl, heap_new _ _⟩⟩
    exact ⟨_, _, _, run_range_map w t _ _ l.blk ents c hd hh, h1, ⟨_, h3, rfl⟩, h2⟩
  · cases h
theorem run_setObj_s {P : Program} {w : World} {r : Nat} {s : ByteArray} {p : Nat} (o' : Obj) (hb : w.heap[r]? = some (.stringIter s p)) : (setObj r o').run P w = .ok () { w with heap := w.heap.setIfInBounds r o' } := by
  simp [setObj, Sem.run, hb]
theorem run_getObj_s {P : Program} {w : World} {r : Nat} {s : ByteArray} {p : Nat} (hb : w.heap[r]? = some (.stringIter s p)) : (getObj r).run P w = .ok (.stringIter s p) w := by
  simp [getObj, Sem.run, hb]
theorem run_setObj_i {P : Program} {w : World} {r a l : Nat} {m : Option Nat} {s : Array Nat} (o' : Obj) (hb : w.heap[r]? = some (.mapIter m a s l)) : (setObj r o').run P w = .ok () { w with heap := w.heap.setIfInBounds r o' } := by
  simp [setObj, Sem.run, hb]
theorem run_getObj_i {P : Program} {w : World} {r a l : Nat} {m : Option Nat} {s : Array Nat} (hb : w.heap[r]? = some (.mapIter m a s l)) : (getObj r).run P w = .ok (.mapIter m a s l) w := by
  simp [getObj, Sem.run, hb]
def evNextS (x : AV) (st : St) : Option (AV × St) := match x with
  | .ptr b 0 => match st.get b with
    | some (.siter l pos) => if pos < l.length then some (.tup [.bool true, .int .i64 pos, .int .i32 (Utf8.decode ⟨l.toArray⟩ pos).1], st.set b (.siter l (pos + (Utf8.decode ⟨l.toArray⟩ pos).2))) else some (.tup [.bool false], st)
    | _ => none
  | _ => none
theorem evNextS_ok {P : Program} {x v : AV} {st st' : St} (h : evNextS x st = some (v, st')) {ρ : Loc.Map} {w : World} {cx : Value} (hr : Rel ρ st w) (hx : RV ρ x cx) (ty : TypeId) :
    ∃ c w', (Instr.next cx true ty).run P w = .ok c w' ∧ Rel ρ st' w' ∧ RV ρ v c ∧ Step st.n ρ st w ρ st' w' := by
  unfold evNextS at h
  split at h
  · rename_i b
    split at h
    · rename_i l pos hg
      obtain ⟨lc, hl, hh, hb0⟩ := hr.obj b _ hg
      obtain ⟨lc', hl', rfl⟩ := hx
      rw [hl] at hl'; simp at hl'; subst hl'
      rw [hb0]
      split at h
      · rename_i hlt
        simp at h; obtain ⟨rfl, rfl⟩ := h
        have hlt' : pos < (⟨l.toArray⟩ : ByteArray).size := hlt
        obtain ⟨g1, g2⟩ := MapKept.heap_set (o' := .stringIter ⟨l.toArray⟩ (pos + (Utf8.decode ⟨l.toArray⟩ pos).2)) hh
        obtain ⟨h1, h2⟩ := hr.upd (o' := .siter l (pos + (Utf8.decode ⟨l.toArray⟩ pos).2)) hg rfl hl (w' := { w with heap := w.heap.setIfInBounds lc.blk (.stringIter ⟨l.toArray⟩ (pos + (Utf8.decode ⟨l.toArray⟩ pos).2)) }) g2 (by simp) rfl rfl rfl (Nat.le_refl _) ⟨g1, hb0⟩
        refine ⟨.tuple #[.bool true, goInt pos, .int .i32 (Utf8.decode ⟨l.toArray⟩ pos).1], _, ?_, h1, ⟨_, rfl, _, _, rfl, rfl, _, _, rfl, rfl, _, _, rfl, rfl, rfl⟩, h2⟩
        simp only [Instr.next, Sem.run_bind, run_getObj_s hh, Result.andThen_ok, hlt', if_true, run_setObj_s _ hh, Sem.run_pure]
      · rename_i hlt
        simp at h; obtain ⟨rfl, rfl⟩ := h
        have hlt' : ¬ pos < (⟨l.toArray⟩ : ByteArray).size := hlt
        refine ⟨.tuple #[.bool false], w, ?_, hr, ⟨_, rfl, _, _, rfl, rfl, rfl⟩, .refl ..⟩
        simp only [Instr.next, Sem.run_bind, run_getObj_s hh, Result.andThen_ok, hlt', if_false, Sem.run_pure]
    · cases h
  · cases h
def evEntry (x : AV) (st : St) : Option AV := match x with
  | .ptr b 0 => match st.get b with
    | some (.miter (some m) _ seen last) => (getMap st m).bind fun p => if p.2 = last then (seen.getLast?).bind fun s => (p.1.find? fun e => e.2.2 == s).bind fun e => some (.tup [e.1, e.2.1]) else none
    | _ => none
  | _ => none
theorem find_ents {ρ : Loc.Map} {s : Nat} : ∀ {es : MEnts} {ents : List MapEntry} {e : AV × AV × Nat}, EntsRel ρ es ents → (es.find? fun e => e.2.2 == s) = some e → ∃ x : MapEntry, (ents.find? fun x => x.born == s) = some x ∧ RV ρ e.1 x.key ∧ RV ρ e.2.1 x.val
  | [], _, e, _, h => by simp at h
  | _ :: _, [], e, he, _ => absurd he.1 (by simp)
  | a :: es, b :: ents, e, he, h => by
    obtain ⟨h1, h2, h3⟩ := he.head
    rw [List.find?_cons] at h ⊢
    rw [h3]
    cases hq : (a.2.2 == s) with
    | true => simp only [hq] at h ⊢; cases h; exact ⟨b, rfl, h1, h2⟩
    | false => simp only [hq] at h ⊢; exact find_ents he.tail h
theorem evEntry_ok {P : Program} {x v : AV} {st : St} (h : evEntry x st = some v) {ρ : Loc.Map} {w : World} {cx : Value} (hr : Rel ρ st w) (hx : RV ρ x cx) : ∃ c, (Instr.entry cx).run P w = .ok c w ∧ RV ρ v c := by
  unfold evEntry at h
  split at h
  · rename_i b
    split at h
    · rename_i m since seen last hg
      simp only [Option.bind_eq_some_iff] at h
      obtain ⟨⟨es, c⟩, hm, h⟩ := h
      split at h
      · rename_i hc
        simp only at hc; subst hc
        simp only [Option.bind_eq_some_iff] at h
        obtain ⟨s, hs, e, he, h⟩ := h
        simp at h; subst h
        obtain ⟨lc, hl, hb0, hit⟩ := hr.obj b _ hg
        obtain ⟨lc', hl', rfl⟩ := hx
        rw [hl] at hl'; simp at hl'; subst hl'
        rw [hb0]
        rcases hit with ⟨e', _⟩ | ⟨m', lm, e', hlm, hh⟩
        · cases e'
        · cases e'
          obtain ⟨ents, hhm, hents⟩ := map_obj hr hm hlm
          obtain ⟨x, hx, hk, hv⟩ := find_ents hents he
          refine ⟨.tuple #[x.key, x.val], ?_, ⟨_, rfl, _, _, rfl, hk, _, _, rfl, hv, rfl⟩⟩
          have hbk : seen.toArray.back? = some s := by rw [List.back?_toArray]; exact hs
          have hfd : ents.find? (fun x => x.born == s) = some x := by rw [← Array.find?_toList]; exact hx
          simp only [Instr.entry, Sem.run_bind, run_getObj_i hh, MapKept.run_getObj_map hhm, Result.andThen_ok, hbk, hfd, bne_self_eq_false, Bool.false_eq_true, if_false, Sem.run_pure]
      · cases h
    · cases h
  · cases h
end Gab
end
section
set_option linter.unusedSimpArgs false
set_option linter.unusedVariables false
namespace Gab
open Go
def evBuiltin (P : Program) (b : Builtin) (ts : List TypeId) (xs : List AV) (st : St) : Option (AV × St) := match b, ts, xs with
  | .len, t :: _, [x] => match evLen P t x with
    | some v => some (v, st)
    | none => (evLenM P t x st).bind fun v => some (v, st)
  | .cap, t :: _, [x] => (evCap P t x).bind fun v => some (v, st)
  | .min, _, xs => (evMin xs).bind fun v => some (v, st)
  | .max, _, xs => (evMax xs).bind fun v => some (v, st)
  | .append, ts, [s, x] => evAppend P ts s x st
  | .clear, t :: _, [x] => evClear2 P t x st
  | .delete, t :: _, [m, k] => (evDelete P t m k st).bind fun s => some (.tup [], s)
  | _, _, _ => none
noncomputable def evExt (P : Program) (g : AV) (args : List AV) (st : St) : Option (AV × St) := match g, args with
  | .fn (.func f) [] [], [.str s, .int .u8 c] => (P.funcs[f]?).bind fun fn =>
      @ite _ ((fn.name == "runtime.NumGoroutine") = false ∧ fn.body.isNone = true ∧ Extern.findNext fn = none ∧ Extern.find fn = some Extern.BytealgIndexByte.indexByte) (Classical.propDecidable _)
        (some (.int .i64 (firstIdx ⟨s.toArray⟩ c.toNat.toUInt8), st)) none
  | _, _ => none
theorem evExt_ok {P : Program} {g v : AV} {args : List AV} {st st' : St} (h : evExt P g args st = some (v, st')) {ρ : Loc.Map} {w : World} {cg : Value} {cs : List Value} (hg : RV ρ g cg) (hx : RVs ρ args cs) :
    ∃ c f cap, cg = .func (.func f) #[] cap ∧ cap = #[] ∧ (callFunc f ⟨cs⟩).run P w = .ok (.value c) w ∧ st' = st ∧ RV ρ v c := by
  unfold evExt at h
  split at h
  · rename_i f s c
    simp only [Option.bind_eq_some_iff] at h
    obtain ⟨fn, hf, h⟩ := h
    split at h
    · rename_i hc
      obtain ⟨h1, h2, h3, h4⟩ := hc
      simp at h; obtain ⟨rfl, rfl⟩ := h
      obtain ⟨cf, cc, rfl, hcf, hcc⟩ := hg
      simp only [RVs] at hcf hcc
      subst hcf hcc
      obtain ⟨x, _, rfl, hx1, y, _, rfl, hx2, rfl⟩ := hx
      simp only [RV] at hx1 hx2
      subst hx1 hx2
      refine ⟨_, f, #[], rfl, rfl, ?_, rfl, rfl⟩
      rw [run_callFunc_extern hf h1 h2 h3 h4, run_indexByte_string]; rfl
    · cases h
  · cases h
noncomputable def evOp (P : Program) (op : Op) (fr : Fr) (st : St) : Option (AV × St) := match op with
  | .move x | .assign x => some (fr.ev x, st)
  | .pick c a b => match fr.ev c with
    | .bool t => some (AV.pick t (fr.ev a) (fr.ev b), st)
    | _ => none
  | .alloc e => evAlloc P e st
  | .box _ x => evBox (fr.ev x) st
  | .build t ps => (evBuild P t (ps.toList.map fun p => (p.1, fr.ev p.2))).bind fun v => some (v, st)
  | .buildSlice t n ps => evBuildSlice P t n (ps.toList.map fun p => (p.1, fr.ev p.2)) st
  | .load t x => (evLoad P t (fr.ev x) st).bind fun v => some (v, st)
  | .store t a x => (evStore P t (fr.ev a) (fr.ev x) st).bind fun s => some (.any, s)
  | .nilCheck x => match fr.ev x with
    | .ptr b o => some (.ptr b o, st)
    | .fn (.func f) a b => some (.fn (.func f) a b, st)
    | _ => none
  | .binOp op t x y _ => (evBin P op t (fr.ev x) (fr.ev y)).bind fun v => some (v, st)
  | .unOp op _ x => (evUn op (fr.ev x)).bind fun v => some (v, st)
  | .convert s d x => evConvert P s d (fr.ev x) st
  | .makeFunc f a b => some (.fn f (a.toList.map fr.ev) (b.toList.map fr.ev), st)
  | .makeSlice t l c => evMakeSlice P t (fr.ev l) (fr.ev c) st
  | .slice t x lo hi mx => (evSlice P t (fr.ev x) (lo.map fr.ev) (hi.map fr.ev) (mx.map fr.ev)).bind fun v => some (v, st)
  | .fieldAddr t x f => (evFieldAddr P t (fr.ev x) f).bind fun v => some (v, st)
  | .field t x f => (evField P t (fr.ev x) f).bind fun v => some (v, st)
  | .indexAddr t x i => (evIndexAddr P t (fr.ev x) (fr.ev i)).bind fun v => some (v, st)
  | .index t x i => (evIndex P t (fr.ev x) (fr.ev i)).bind fun v => some (v, st)
  | .extract t i => match fr.ev t with
    | .tup l => l[i]?.bind fun v => some (v, st)
    | _ => none
  | .call c => match c.callee with
    | .builtin b => evBuiltin P b c.argTypes.toList (c.args.toList.map fr.ev) st
    | .value g => evExt P (fr.ev g) (c.args.toList.map fr.ev) st
    | _ => none
  | .makeMap _ r => evMakeMap st (r.map fr.ev)
  | .lookup t m k ok => (evLookup P t (fr.ev m) (fr.ev k) ok st).bind fun v => some (v, st)
  | .mapUpdate t m k v => (evMapUpdate P t (fr.ev m) (fr.ev k) (fr.ev v) st).bind fun s => some (.any, s)
  | .insert t m k v => (evMapUpdate P t (fr.ev m) (fr.ev k) (fr.ev v) st).bind fun s => some (.any, s)
  | .range t x => evRange P t (fr.ev x) st
  | .next x true => evNextS (fr.ev x) st
  | .entry x => (evEntry (fr.ev x) st).bind fun v => some (v, st)
  | .mapEntry t m k => evMapEntry P t (fr.ev m) (fr.ev k) st
  | .entryStore _ m s v => (evEntryStore (fr.ev m) (fr.ev s) (fr.ev v) st).bind fun s => some (.any, s)
  | _ => none
def OpOk (P : Program) (N : Nat) (o : Oper) (fr : Fr) (st : St) (v : AV) (st' : St) : Prop :=
  ∀ (ρ : Loc.Map) (w : World) (a : Act), Rel ρ st w → FrameRel ρ N fr a.tmps → ∃ c w' ρ', ((execOp a.eval o).run P w = .ok (.value c) w' ∨ (c = undef ∧ (execOp a.eval o).run P w = .ok .skip w')) ∧ Rel ρ' st' w' ∧ RV ρ' v c ∧ Step st.n ρ st w ρ' st' w'
theorem RVs.map {ρ : Loc.Map} {fr : Fr} {f : Operand → Value} (h : ∀ x, RV ρ (fr.ev x) (f x)) : ∀ (l : List Operand), RVs ρ (l.map fr.ev) (l.map f)
  | [] => rfl
  | x :: l => ⟨_, _, rfl, h x, RVs.map h l⟩
theorem RPs.map {ρ : Loc.Map} {fr : Fr} {f : Operand → Value} (h : ∀ x, RV ρ (fr.ev x) (f x)) : ∀ (l : List (Nat × Operand)), RPs ρ (l.map fun p => (p.1, fr.ev p.2)) (l.map fun p => (p.1, f p.2))
  | [] => rfl
  | x :: l => ⟨_, _, rfl, h _, RPs.map h l⟩
theorem ROv.map {ρ : Loc.Map} {fr : Fr} {f : Operand → Value} (h : ∀ x, RV ρ (fr.ev x) (f x)) : ∀ (o : Option Operand), ROv ρ (o.map fr.ev) (o.map f)
  | none => rfl
  | some x => ⟨_, rfl, h x⟩
theorem run_v {P : Program} {s : Sem Value} {w w' : World} {c : Value} (h : s.run P w = .ok c w') : (do let x ← s; pure (Next.value x) : Sem Next).run P w = .ok (.value c) w' := by
  simp only [Sem.run_bind, h, Result.andThen_ok, Sem.run_pure]
theorem evBuiltin_ok {P : Program} {b : Builtin} {ts : Array TypeId} {xs : List AV} {st st' : St} {v : AV} (h : evBuiltin P b ts.toList xs st = some (v, st')) {ρ : Loc.Map} {w : World} {cs : List Value} (hr : Rel ρ st w) (hx : RVs ρ xs cs) (ty : TypeId) (consts : Array Bool) :
    ∃ c w' ρ', (builtin b ts ty consts ⟨cs⟩).run P w = .ok (.value c) w' ∧ Rel ρ' st' w' ∧ RV ρ' v c ∧ Step st.n ρ st w ρ' st' w' := by
  unfold evBuiltin at h
  split at h
  · rename_i t r x hts
    obtain ⟨c, _, rfl, hc, rfl⟩ := hx
    split at h
    · rename_i v' hv
      simp at h; obtain ⟨rfl, rfl⟩ := h
      obtain ⟨r, hrun, hrv⟩ := evLen_ok hv hc ts ty w (by rw [← Array.getElem?_toList, hts]; rfl)
      exact ⟨r, w, ρ, run_v hrun, hr, hrv, .refl ..⟩
    · simp only [Option.bind_eq_some_iff] at h
      obtain ⟨v', hv, h⟩ := h
      simp at h; obtain ⟨rfl, rfl⟩ := h
      obtain ⟨r, hrun, hrv⟩ := evLenM_ok hv hr hc ts ty (by rw [← Array.getElem?_toList, hts]; rfl)
      exact ⟨r, w, ρ, run_v hrun, hr, hrv, .refl ..⟩
  · rename_i t r x hts
    simp only [Option.bind_eq_some_iff] at h
    obtain ⟨v', hv, h⟩ := h
    simp at h; obtain ⟨rfl, rfl⟩ := h
    obtain ⟨c, _, rfl, hc, rfl⟩ := hx
    obtain ⟨r, hrun, hrv⟩ := evCap_ok hv hc ts ty w (by rw [← Array.getElem?_toList, hts]; rfl)
    exact ⟨r, w, ρ, run_v hrun, hr, hrv, .refl ..⟩
  · simp only [Option.bind_eq_some_iff] at h
    obtain ⟨v', hv, h⟩ := h
    simp at h; obtain ⟨rfl, rfl⟩ := h
    obtain ⟨r, hrun, hrv⟩ := evMin_ok hv hx ts ty w
    exact ⟨r, w, ρ, run_v hrun, hr, hrv, .refl ..⟩
  · simp only [Option.bind_eq_some_iff] at h
    obtain ⟨v', hv, h⟩ := h
    simp at h; obtain ⟨rfl, rfl⟩ := h
    obtain ⟨r, hrun, hrv⟩ := evMax_ok hv hx ts ty w
    exact ⟨r, w, ρ, run_v hrun, hr, hrv, .refl ..⟩
  · obtain ⟨c, _, rfl, hc, d, _, rfl, hd, rfl⟩ := hx
    obtain ⟨r, w', ρ', hrun, h1, h2, h3⟩ := evAppend_ok h hr hc hd ty
    exact ⟨r, w', ρ', run_v hrun, h1, h2, h3⟩
  · rename_i t r x hts
    obtain ⟨c, _, rfl, hc, rfl⟩ := hx
    obtain ⟨r, w', hrun, h1, h2, h3⟩ := evClear2_ok h hr hc ts ty (by rw [← Array.getElem?_toList, hts]; rfl)
    exact ⟨r, w', ρ, run_v hrun, h1, h2, h3⟩
  · rename_i t r m k hts
    simp only [Option.bind_eq_some_iff] at h
    obtain ⟨s, hs, h⟩ := h
    simp at h; obtain ⟨rfl, rfl⟩ := h
    obtain ⟨c, _, rfl, hc, d, _, rfl, hd, rfl⟩ := hx
    obtain ⟨w', hrun, h1, h2⟩ := evDelete_ok hs hr hc hd ts ty (by rw [← Array.getElem?_toList, hts]; rfl)
    exact ⟨.tuple #[], w', ρ, run_v hrun, h1, ⟨[], rfl, rfl⟩, h2⟩
  · cases h
theorem evOp_ok {P : Program} {N : Nat} {o : Oper} {fr : Fr} {st st' : St} {v : AV} (h : evOp P o.op fr st = some (v, st')) : OpOk P N o fr st v st' := by
  intro ρ w a hr hf
  have he := fun x => hf.ev x
  unfold evOp at h
  split at h <;> rename_i hop
  case h_1 => simp at h; obtain ⟨rfl, rfl⟩ := h; exact ⟨_, w, ρ, .inl (by simp [execOp, hop]), hr, he _, .refl ..⟩
  case h_2 => simp at h; obtain ⟨rfl, rfl⟩ := h; exact ⟨_, w, ρ, .inl (by simp [execOp, hop]), hr, he _, .refl ..⟩
  case h_3 c x y =>
    split at h
    · rename_i t hc
      simp at h; obtain ⟨rfl, rfl⟩ := h
      have hcv := he c
      rw [hc] at hcv
      simp only [RV] at hcv
      exact ⟨_, w, ρ, .inl (by simp only [execOp, hop, hcv, asBool, Sem.run_bind, Sem.run_pure, Result.andThen_ok]), hr, RV.pick (he x) (he y), .refl ..⟩
    · cases h
  case h_4 e =>
    obtain ⟨c, w', ρ', hrun, h1, h2, h3⟩ := evAlloc_ok h hr
    exact ⟨c, w', ρ', .inl (by simp only [execOp, hop]; exact run_v hrun), h1, h2, h3⟩
  case h_5 e x =>
    obtain ⟨c, w', ρ', hrun, h1, h2, h3⟩ := evBox_ok (P := P) (e := e) h hr (he x)
    exact ⟨c, w', ρ', .inl (by simp only [execOp, hop]; exact run_v hrun), h1, h2, h3⟩
  case h_6 t ps =>
    simp only [Option.bind_eq_some_iff] at h
    obtain ⟨v', hv, h⟩ := h
    simp at h; obtain ⟨rfl, rfl⟩ := h
    have hp : RPs ρ (ps.toList.map fun p => (p.1, fr.ev p.2)) ((ps.map fun (i, x) => (i, a.eval x)).toList) := by
      rw [Array.toList_map]; exact RPs.map he _
    obtain ⟨c, hrun, hc⟩ := evBuild_ok hv hp w
    exact ⟨c, w, ρ, .inl (by simp only [execOp, hop]; exact run_v hrun), hr, hc, .refl ..⟩
  case h_7 t n ps =>
    have hp : RPs ρ (ps.toList.map fun p => (p.1, fr.ev p.2)) ((ps.map fun (i, x) => (i, a.eval x)).toList) := by
      rw [Array.toList_map]; exact RPs.map he _
    obtain ⟨c, w', ρ', hrun, h1, h2, h3⟩ := evBuildSlice_ok h hr hp
    exact ⟨c, w', ρ', .inl (by simp only [execOp, hop]; exact run_v hrun), h1, h2, h3⟩
  case h_8 t x =>
    simp only [Option.bind_eq_some_iff] at h
    obtain ⟨v', hv, h⟩ := h
    simp at h; obtain ⟨rfl, rfl⟩ := h
    obtain ⟨c, hrun, hc⟩ := evLoad_ok (P := P) hv hr (he x)
    exact ⟨c, w, ρ, .inl (by simp only [execOp, hop]; exact run_v hrun), hr, hc, .refl ..⟩
  case h_9 t p x =>
    simp only [Option.bind_eq_some_iff] at h
    obtain ⟨s, hs, h⟩ := h
    simp at h; obtain ⟨rfl, rfl⟩ := h
    obtain ⟨w', hrun, h1, h2⟩ := evStore_ok (P := P) hs hr (he p) (he x)
    exact ⟨undef, w', ρ, .inr ⟨rfl, by simp only [execOp, hop, Sem.run_bind, hrun, Result.andThen_ok, Sem.run_pure]⟩, h1, trivial, h2⟩
  case h_10 x =>
    split at h
    · rename_i b off hx
      simp at h; obtain ⟨rfl, rfl⟩ := h
      have hcv := he x
      rw [hx] at hcv
      have hcv' := hcv
      obtain ⟨l, hl, hcv⟩ := hcv
      exact ⟨a.eval x, w, ρ, .inl (by simp only [execOp, hop, hcv, Sem.run_pure]), hr, hcv', .refl ..⟩
    · rename_i f fi ca hx
      simp at h; obtain ⟨rfl, rfl⟩ := h
      have hcv := he x
      rw [hx] at hcv
      have hcv' := hcv
      obtain ⟨_, _, hcv, _⟩ := hcv
      exact ⟨a.eval x, w, ρ, .inl (by simp only [execOp, hop, hcv, Sem.run_pure]), hr, hcv', .refl ..⟩
    · cases h
  case h_11 op t x y yt =>
    simp only [Option.bind_eq_some_iff] at h
    obtain ⟨v', hv, h⟩ := h
    simp at h; obtain ⟨rfl, rfl⟩ := h
    obtain ⟨c, hrun, hc⟩ := evBin_ok (P := P) hv (he x) (he y) x y w
    exact ⟨c, w, ρ, .inl (by simp only [execOp, hop]; exact run_v hrun), hr, hc, .refl ..⟩
  case h_12 op t x =>
    simp only [Option.bind_eq_some_iff] at h
    obtain ⟨v', hv, h⟩ := h
    simp at h; obtain ⟨rfl, rfl⟩ := h
    obtain ⟨c, hrun, hc⟩ := evUn_ok (P := P) hv (he x) w
    exact ⟨c, w, ρ, .inl (by simp only [execOp, hop]; exact run_v hrun), hr, hc, .refl ..⟩
  case h_13 s d x =>
    obtain ⟨c, w', ρ', hrun, h1, h2, h3⟩ := evConvert_ok (P := P) h hr (he x)
    exact ⟨c, w', ρ', .inl (by simp only [execOp, hop]; exact run_v hrun), h1, h2, h3⟩
  case h_14 f x y =>
    simp at h; obtain ⟨rfl, rfl⟩ := h
    refine ⟨.func f (x.map a.eval) (y.map a.eval), w, ρ, .inl (by simp only [execOp, hop]; exact run_v rfl), hr, ⟨(x.map a.eval).toList, (y.map a.eval).toList, rfl, ?_, ?_⟩, .refl ..⟩
    · rw [Array.toList_map]; exact RVs.map he _
    · rw [Array.toList_map]; exact RVs.map he _
  case h_15 t l c =>
    obtain ⟨c, w', ρ', hrun, h1, h2, h3⟩ := evMakeSlice_ok (P := P) h hr (he l) (he c)
    exact ⟨c, w', ρ', .inl (by simp only [execOp, hop]; exact run_v hrun), h1, h2, h3⟩
  case h_16 t x lo hi mx =>
    simp only [Option.bind_eq_some_iff] at h
    obtain ⟨v', hv, h⟩ := h
    simp at h; obtain ⟨rfl, rfl⟩ := h
    obtain ⟨c, hrun, hc⟩ := evSlice_ok (P := P) hv (he x) (ROv.map he lo) (ROv.map he hi) (ROv.map he mx) w
    exact ⟨c, w, ρ, .inl (by simp only [execOp, hop]; exact run_v hrun), hr, hc, .refl ..⟩
  case h_17 t x f =>
    simp only [Option.bind_eq_some_iff] at h
    obtain ⟨v', hv, h⟩ := h
    simp at h; obtain ⟨rfl, rfl⟩ := h
    obtain ⟨c, hrun, hc⟩ := evFieldAddr_ok (P := P) hv (he x) w
    exact ⟨c, w, ρ, .inl (by simp only [execOp, hop]; exact run_v hrun), hr, hc, .refl ..⟩
  case h_18 t x f =>
    simp only [Option.bind_eq_some_iff] at h
    obtain ⟨v', hv, h⟩ := h
    simp at h; obtain ⟨rfl, rfl⟩ := h
    obtain ⟨c, hrun, hc⟩ := evField_ok (P := P) hv (he x) w
    exact ⟨c, w, ρ, .inl (by simp only [execOp, hop]; exact run_v hrun), hr, hc, .refl ..⟩
  case h_19 t x i =>
    simp only [Option.bind_eq_some_iff] at h
    obtain ⟨v', hv, h⟩ := h
    simp at h; obtain ⟨rfl, rfl⟩ := h
    obtain ⟨c, hrun, hc⟩ := evIndexAddr_ok (P := P) hv (he x) (he i) w
    exact ⟨c, w, ρ, .inl (by simp only [execOp, hop]; exact run_v hrun), hr, hc, .refl ..⟩
  case h_20 t x i =>
    simp only [Option.bind_eq_some_iff] at h
    obtain ⟨v', hv, h⟩ := h
    simp at h; obtain ⟨rfl, rfl⟩ := h
    obtain ⟨c, hrun, hc⟩ := evIndex_ok (P := P) hv (he x) (he i) w
    exact ⟨c, w, ρ, .inl (by simp only [execOp, hop]; exact run_v hrun), hr, hc, .refl ..⟩
  case h_21 t i =>
    split at h
    · rename_i l hx
      simp only [Option.bind_eq_some_iff] at h
      obtain ⟨v', hv, h⟩ := h
      simp at h; obtain ⟨rfl, rfl⟩ := h
      have hcv := he t
      rw [hx] at hcv
      obtain ⟨cs, hcv, hcs⟩ := hcv
      obtain ⟨c, hc, hrv⟩ := RVs.get hcs hv
      refine ⟨c, w, ρ, .inl ?_, hr, hrv, .refl ..⟩
      simp only [execOp, hop, hcv]
      refine run_v ?_
      simp [Instr.extract, hc]
    · cases h
  case h_22 c =>
    split at h
    · rename_i b hb
      have hx : RVs ρ (c.args.toList.map fr.ev) ((c.args.map a.eval).toList) := by rw [Array.toList_map]; exact RVs.map he _
      obtain ⟨r, w', ρ', hrun, h1, h2, h3⟩ := evBuiltin_ok (P := P) h hr hx o.type (c.args.map fun | .const _ => true | _ => false)
      exact ⟨r, w', ρ', .inl (by simp only [execOp, hop, resolve, hb, Sem.run_bind, Sem.run_pure, Result.andThen_ok, invoke]; exact hrun), h1, h2, h3⟩
    · rename_i g hb
      have hx : RVs ρ (c.args.toList.map fr.ev) ((c.args.map a.eval).toList) := by rw [Array.toList_map]; exact RVs.map he _
      obtain ⟨r, f, cap, hgv, hcap, hrun, rfl, hrv⟩ := evExt_ok (P := P) (w := w) h (he g) hx
      subst hcap
      refine ⟨r, w, ρ, .inl ?_, hr, hrv, .refl ..⟩
      simp only [execOp, hop, resolve, hb, hgv, Deferred.ofValue, Sem.run_bind, Sem.run_pure, Result.andThen_ok, invoke]
      have h2 := hrun
      rw [show (⟨(c.args.map a.eval).toList⟩ : Array Value) = c.args.map a.eval from rfl] at h2
      simpa using h2
    · cases h
  case h_23 t r =>
    obtain ⟨c, w', ρ', hrun, h1, h2, h3⟩ := evMakeMap_ok (P := P) h hr t (ROv.map he r)
    exact ⟨c, w', ρ', .inl (by simp only [execOp, hop]; exact run_v hrun), h1, h2, h3⟩
  case h_24 t m k ok =>
    simp only [Option.bind_eq_some_iff] at h
    obtain ⟨v', hv, h⟩ := h
    simp at h; obtain ⟨rfl, rfl⟩ := h
    obtain ⟨c, hrun, hc⟩ := evLookup_ok hv hr (he m) (he k)
    exact ⟨c, w, ρ, .inl (by simp only [execOp, hop]; exact run_v hrun), hr, hc, .refl ..⟩
  case h_25 t m k x =>
    simp only [Option.bind_eq_some_iff] at h
    obtain ⟨s, hs, h⟩ := h
    simp at h; obtain ⟨rfl, rfl⟩ := h
    obtain ⟨w', hrun, h1, h2⟩ := evMapUpdate_ok hs hr (he m) (he k) (he x)
    exact ⟨undef, w', ρ, .inr ⟨rfl, by simp only [execOp, hop, Sem.run_bind, hrun, Result.andThen_ok, Sem.run_pure]⟩, h1, trivial, h2⟩
  case h_26 t m k x =>
    simp only [Option.bind_eq_some_iff] at h
    obtain ⟨s, hs, h⟩ := h
    simp at h; obtain ⟨rfl, rfl⟩ := h
    obtain ⟨w', hrun, h1, h2⟩ := evMapUpdate_ok hs hr (he m) (he k) (he x)
    exact ⟨undef, w', ρ, .inr ⟨rfl, by simp only [execOp, hop, Sem.run_bind, hrun, Result.andThen_ok, Sem.run_pure]⟩, h1, trivial, h2⟩
  case h_27 t x =>
    obtain ⟨c, w', ρ', hrun, h1, h2, h3⟩ := evRange_ok h hr (he x)
    exact ⟨c, w', ρ', .inl (by simp only [execOp, hop]; exact run_v hrun), h1, h2, h3⟩
  case h_28 x =>
    obtain ⟨c, w', hrun, h1, h2, h3⟩ := evNextS_ok h hr (he x) o.type
    exact ⟨c, w', ρ, .inl (by simp only [execOp, hop]; exact run_v hrun), h1, h2, h3⟩
  case h_29 x =>
    simp only [Option.bind_eq_some_iff] at h
    obtain ⟨v', hv, h⟩ := h
    simp at h; obtain ⟨rfl, rfl⟩ := h
    obtain ⟨c, hrun, hc⟩ := evEntry_ok (P := P) hv hr (he x)
    exact ⟨c, w, ρ, .inl (by simp only [execOp, hop]; exact run_v hrun), hr, hc, .refl ..⟩
  case h_30 t m k =>
    obtain ⟨c, w', hrun, h1, h2, h3⟩ := evMapEntry_ok h hr (he m) (he k)
    exact ⟨c, w', ρ, .inl (by simp only [execOp, hop]; exact run_v hrun), h1, h2, h3⟩
  case h_31 t m s x =>
    simp only [Option.bind_eq_some_iff] at h
    obtain ⟨s', hs, h⟩ := h
    simp at h; obtain ⟨rfl, rfl⟩ := h
    obtain ⟨w', hrun, h1, h2⟩ := evEntryStore_ok (P := P) (t := t) hs hr (he m) (he s) (he x)
    exact ⟨undef, w', ρ, .inr ⟨rfl, by simp only [execOp, hop, Sem.run_bind, hrun, Result.andThen_ok, Sem.run_pure]⟩, h1, trivial, h2⟩
  case h_32 => cases h
def wantedA (ops : List Oper) (fr : Fr) (o : Oper) : Option Bool := match o.guard with
  | none => some true
  | some (j, want) => (ops[j]?.bind (·.dst)).bind fun d => match Fr.get fr d with
    | .bool b => some (b == want)
    | .tup [] => some false
    | _ => none
theorem wantedA_ok {ops : Array Oper} {fr : Fr} {o : Oper} {q : Bool} (h : wantedA ops.toList fr o = some q) {ρ : Loc.Map} {N : Nat} {tmps : Array Value} (hf : FrameRel ρ N fr tmps) : Region.wanted o (yielded ops tmps) = q := by
  unfold wantedA at h
  split at h
  · rename_i hg; simp at h; subst h; simp [Region.wanted, hg]
  · rename_i j want hg
    simp only [Option.bind_eq_some_iff] at h
    obtain ⟨d, ⟨oj, hoj, hd⟩, h⟩ := h
    split at h
    · rename_i b hb
      simp at h; subst h
      have hv := hf.2 d
      rw [hb] at hv
      simp only [RV] at hv
      have hlt : d < tmps.size := by
        rcases Nat.lt_or_ge d tmps.size with h | h
        · exact h
        · simp [Array.getElem?_eq_none h, undef] at hv
      have hget : tmps[d]? = some (.bool b) := by simpa [hlt] using hv
      rw [Array.getElem?_toList] at hoj
      simp only [Region.wanted, hg, yielded, hoj, Option.bind_some, hd, hget]
      cases b <;> cases want <;> rfl
    · rename_i hb
      simp at h; subst h
      have hv := hf.2 d
      rw [hb] at hv
      obtain ⟨cs, hv, hcs⟩ := hv
      simp only [RVs] at hcs; subst hcs
      rw [Array.getElem?_toList] at hoj
      simp only [Region.wanted, hg, yielded, hoj, Option.bind_some, hd]
      rw [Array.getD_eq_getD_getElem?] at hv
      cases hget : tmps[d]? with
      | none => rfl
      | some x =>
        rw [hget] at hv
        simp only [Option.getD_some] at hv
        subst hv; rfl
    · cases h
def dstOk (N : Nat) : Option Nat → Bool
  | none => true
  | some d => decide (d < N)
theorem dstOk_spec {N : Nat} {d : Option Nat} (h : dstOk N d = true) : ∀ t, d = some t → t < N := fun t e => by
  subst e; simpa [dstOk] using h
noncomputable def evStep (P : Program) (N : Nat) (ops : List Oper) (o : Oper) (fr : Fr) (st : St) : Option (Fr × St) :=
  (wantedA ops fr o).bind fun q => if dstOk N o.dst then (if q then (evOp P o.op fr st).bind fun r => some (fr.put o.dst r.1, r.2) else some (fr.put o.dst (.tup []), st)) else none
noncomputable def evSeg (P : Program) (N : Nat) (ops : List Oper) : List Oper → Fr → St → List Oper × Fr × St
  | [], fr, st => ([], fr, st)
  | o :: r, fr, st => match evStep P N ops o fr st with
    | some p => evSeg P N ops r p.1 p.2
    | none => (o :: r, fr, st)
theorem evSeg_cons {P : Program} {N : Nat} {ops : List Oper} {o : Oper} {r : List Oper} {fr : Fr} {st : St} : evSeg P N ops (o :: r) fr st = match evStep P N ops o fr st with
    | some p => evSeg P N ops r p.1 p.2
    | none => (o :: r, fr, st) := rfl
def AOps (P : Program) (N n0 : Nat) (ops : Array Oper) (l : List Oper) (Q : Post) (fr : Fr) (st : St) : Prop :=
  ∀ (ro : Option Nat) (m : Nat) (ρ : Loc.Map) (w : World) (a : Act), n0 ≤ ρ.length → Rel ρ st w → FrameRel ρ N fr a.tmps → Dk m ρ st w a.defers → wpListIn (FW ro) 0 P ops (CPost N n0 m Q ρ st w) l a w
section
variable {P : Program} {N n0 : Nat} {Q : Post} {fr : Fr} {st : St} {ops : Array Oper}
theorem wpListIn_mono {F : Fence} {n : Nat} {l : List Oper} {Q Q' : Exit → Act → World → Prop} (hq : ∀ e a w, Q e a w → Q' e a w) : ∀ {a : Act} {w : World}, wpListIn F n P ops Q l a w → wpListIn F n P ops Q' l a w := by
  induction l with
  | nil => exact fun h => hq _ _ _ h
  | cons o l ih =>
    intro a w h
    unfold wpListIn at h ⊢
    split
    · rename_i hw
      rw [if_pos hw] at h
      unfold Oper.wpIn at *
      refine ⟨h.1, ?_⟩
      have h := h.2
      generalize (o.semAt F.round a.eval).run P w = r at *
      cases r with
      | ok n w' =>
        cases n <;> simp only [Oper.uponIn] at h ⊢ <;>
          first
            | exact ih h
            | exact ⟨h.1, CallsIn.mono h.2 (fun e w'' he => by cases e <;> first | exact ih he | exact hq _ _ _ he | exact let ⟨a, w, hh⟩ := he; ⟨a, w, hq _ _ _ hh⟩)⟩
            | exact ⟨h.1, RowsIn.mono h.2 (fun _ _ he => ih he)⟩
            | exact ⟨h.1, RoundIn.mono h.2 (fun e w'' he => by cases e <;> first | exact ih he | exact hq _ _ _ he | exact let ⟨a, w, hh⟩ := he; ⟨a, w, hq _ _ _ hh⟩)⟩
      | halt x w' => cases x <;> simp only [Oper.uponIn] at h ⊢ <;> first | exact h | exact hq _ _ _ h
    · rename_i hw
      rw [if_neg hw] at h
      exact ⟨h.1, ih h.2⟩
theorem Dk.put {m : Nat} {ρ : Loc.Map} {st : St} {w : World} {a : Act} (h : Dk m ρ st w a.defers) (d : Option Tmp) (c : Value) : Dk m ρ st w (a.put d c).defers := by cases d <;> exact h
theorem semW {P : Program} {N : Nat} {o : Oper} {fr : Fr} {st : St} {r : AV × St} (h : evOp P o.op fr st = some r) (ro : Option Nat) (ev : Operand → Value) : o.semAt ro ev = execOp ev o :=
  Oper.semAt_eq ro ev o fun c e => by rw [e] at h; simp [evOp] at h
theorem ACode.region {id : Nat} (h : AOps P N n0 ops ops.toList Q fr st) : ACode P N n0 (.region id ops false) Q fr st :=
  fun ro m _ ρ w a hn hr hf hd => wpIn_region_list (h ro m ρ w a hn hr hf hd)
theorem AOps.nil (h : Q .normal fr st) : AOps P N n0 ops [] Q fr st := fun ro m ρ w a _ hr hf hd => ⟨fr, st, ρ, h, hr, hf, hd, .refl ..⟩
theorem Rel.n_le {ρ ρ' : Loc.Map} {st st' : St} {w w' : World} (h : Rel ρ st w) (h' : Rel ρ' st' w') (hs : Step st.n ρ st w ρ' st' w') : Sup ρ ρ' := by
  have := hs.ext
  rw [← h.len] at this
  exact this.sup
theorem AOps.one {o : Oper} {rest : List Oper} {p : Fr × St} (h : evStep P N ops.toList o fr st = some p) (k : AOps P N n0 ops rest Q p.1 p.2) : AOps P N n0 ops (o :: rest) Q fr st := by
  intro ro m ρ w a hn hr hf hd
  unfold evStep at h
  simp only [Option.bind_eq_some_iff] at h
  obtain ⟨q, hq, h⟩ := h
  have hw := wantedA_ok hq hf
  split at h
  · rename_i hdst
    have hdst := dstOk_spec hdst
    unfold wpListIn
    rw [hw]
    cases q with
    | true =>
      simp only [if_true, Option.bind_eq_some_iff] at h
      obtain ⟨r, hr1, h⟩ := h
      simp at h; subst h
      obtain ⟨c, w', ρ', hrun, h1, h2, h3⟩ := evOp_ok (N := N) (o := o) hr1 ρ w a hr hf
      have hsup := hr.n_le h1 h3
      have h3' := h3.le (n1 := n0) (by have := hr.len; omega)
      have hf' := (hf.sup hsup).put hdst h2
      simp only [if_true]
      refine ⟨fun _ _ => trivial, ?_⟩
      rw [semW (N := N) hr1]
      rcases hrun with hrun | ⟨rfl, hrun⟩
      · rw [hrun, Oper.uponIn_value]
        exact wpListIn_mono (fun _ _ _ hq => CPost.step h3' hq) (k ro m ρ' w' _ (h3'.ext.len hn) h1 hf' ((hd.next h3').put _ _))
      · rw [hrun, Oper.uponIn_skip]
        exact wpListIn_mono (fun _ _ _ hq => CPost.step h3' hq) (k ro m ρ' w' _ (h3'.ext.len hn) h1 hf' ((hd.next h3').put _ _))
    | false =>
      simp only [Bool.false_eq_true, if_false, Option.some.injEq] at h ⊢
      subst h
      exact ⟨fun _ _ => trivial, k ro m ρ w _ hn hr (hf.put hdst ⟨[], rfl, rfl⟩) (hd.put _ _)⟩
  · cases h
theorem AOps.seg {l l' : List Oper} {fr' : Fr} {st' : St} (h : evSeg P N ops.toList l fr st = (l', fr', st')) (k : AOps P N n0 ops l' Q fr' st') : AOps P N n0 ops l Q fr st := by
  induction l generalizing fr st with
  | nil => simp [evSeg] at h; obtain ⟨rfl, rfl, rfl⟩ := h; exact k
  | cons o r ih =>
    rw [evSeg_cons] at h
    split at h
    · rename_i p hp
      exact AOps.one hp (ih h)
    · simp at h; obtain ⟨rfl, rfl, rfl⟩ := h; exact k
end
end Gab
end
section
set_option linter.unusedSimpArgs false
set_option linter.unusedVariables false
namespace Gab
open Go
mutual
def Sub (m : Nat → Nat) (n : Nat) : AV → AV → Prop
  | .any, _ => True
  | .ptr b off, v => b < n ∧ v = .ptr (m b) off
  | .map b, v => b < n ∧ v = .map (m b)
  | .sl sz b off len mc nl, v => ∃ mc', mc ≤ mc' ∧ ((nl = true ∧ ∃ sz' b' off', v = .sl sz' b' off' len mc' true) ∨ (b < n ∧ v = .sl sz (m b) off len mc' nl))
  | .fn f a c, v => ∃ a' c', v = .fn f a' c' ∧ Subs m n a a' ∧ Subs m n c c'
  | .agg l, v => ∃ l', v = .agg l' ∧ Subs m n l l'
  | .tup l, v => ∃ l', v = .tup l' ∧ Subs m n l l'
  | .iface t x, v => ∃ y, v = .iface t y ∧ Sub m n x y
  | .bool b, v => v = .bool b
  | .int k i, v => v = .int k i
  | .str s, v => v = .str s
  | .nilptr, v => v = .nilptr
  | .nilfn, v => v = .nilfn
  | .nilmap, v => v = .nilmap
  | .nilif, v => v = .nilif
  | .raw x, v => v = .raw x
def Subs (m : Nat → Nat) (n : Nat) : List AV → List AV → Prop
  | [], l => l = []
  | a :: r, l => ∃ b s, l = b :: s ∧ Sub m n a b ∧ Subs m n r s
end
section
variable {m : Nat → Nat} {n : Nat} {ρ ρ2 : Loc.Map}
mutual
theorem Sub.rv (h : ∀ (b : Nat) (l : Loc), b < n → ρ[m b]? = some l → ρ2[b]? = some l) : ∀ (a v : AV) (c : Value), Sub m n a v → RV ρ v c → RV ρ2 a c
  | .any, _, _, _, _ => trivial
  | .ptr b off, _, c, hs, hv => by
    obtain ⟨hb, rfl⟩ := hs
    obtain ⟨l, hl, e⟩ := hv
    exact ⟨l, h b l hb hl, e⟩
  | .map b, _, c, hs, hv => by
    obtain ⟨hb, rfl⟩ := hs
    obtain ⟨l, hl, e⟩ := hv
    exact ⟨l, h b l hb hl, e⟩
  | .sl sz b off len mc nl, _, c, hs, hv => by
    obtain ⟨mc', hmc, hs⟩ := hs
    rcases hs with ⟨rfl, sz', b', off', rfl⟩ | ⟨hb, rfl⟩
    · obtain ⟨a, cap, e, h1, h2, h3, _⟩ := hv
      exact ⟨a, cap, e, h1, by omega, h3, by simp⟩
    · obtain ⟨a, cap, e, h1, h2, h3, h4⟩ := hv
      refine ⟨a, cap, e, h1, by omega, h3, fun hn => ?_⟩
      obtain ⟨ad, l, ea, hl, h5⟩ := h4 hn
      exact ⟨ad, l, ea, h b l hb hl, h5⟩
  | .fn f a cp, _, c, hs, hv => by
    obtain ⟨a', c', rfl, h1, h2⟩ := hs
    obtain ⟨cf, cc, e, g1, g2⟩ := hv
    exact ⟨cf, cc, e, Subs.rv h a a' cf h1 g1, Subs.rv h cp c' cc h2 g2⟩
  | .agg l, _, c, hs, hv => by
    obtain ⟨l', rfl, h1⟩ := hs
    obtain ⟨cs, e, g1⟩ := hv
    exact ⟨cs, e, Subs.rv h l l' cs h1 g1⟩
  | .tup l, _, c, hs, hv => by
    obtain ⟨l', rfl, h1⟩ := hs
    obtain ⟨cs, e, g1⟩ := hv
    exact ⟨cs, e, Subs.rv h l l' cs h1 g1⟩
  | .iface t x, _, c, hs, hv => by
    obtain ⟨y, rfl, h1⟩ := hs
    obtain ⟨z, e, g1⟩ := hv
    exact ⟨z, e, Sub.rv h x y z h1 g1⟩
  | .bool b, _, c, hs, hv => by obtain rfl := hs; exact hv
  | .int k i, _, c, hs, hv => by obtain rfl := hs; exact hv
  | .str s, _, c, hs, hv => by obtain rfl := hs; exact hv
  | .nilptr, _, c, hs, hv => by obtain rfl := hs; exact hv
  | .nilfn, _, c, hs, hv => by obtain rfl := hs; exact hv
  | .nilmap, _, c, hs, hv => by obtain rfl := hs; exact hv
  | .nilif, _, c, hs, hv => by obtain rfl := hs; exact hv
  | .raw x, _, c, hs, hv => by obtain rfl := hs; exact hv
theorem Subs.rv (h : ∀ (b : Nat) (l : Loc), b < n → ρ[m b]? = some l → ρ2[b]? = some l) : ∀ (a v : List AV) (c : List Value), Subs m n a v → RVs ρ v c → RVs ρ2 a c
  | [], _, c, hs, hv => by obtain rfl := hs; exact hv
  | a :: r, _, c, hs, hv => by
    obtain ⟨b, s, rfl, h1, h2⟩ := hs
    obtain ⟨x, y, e, g1, g2⟩ := hv
    exact ⟨x, y, e, Sub.rv h a b x h1 g1, Subs.rv h r s y h2 g2⟩
end
mutual
theorem RV.low : ∀ (v : AV) (c : Value), RV ρ v c → Sub id ρ.length v v
  | .any, _, _ => trivial
  | .ptr b off, c, hv => by
    obtain ⟨l, hl, e⟩ := hv
    exact ⟨(List.getElem?_eq_some_iff.1 hl).1, rfl⟩
  | .map b, c, hv => by
    obtain ⟨l, hl, e⟩ := hv
    exact ⟨(List.getElem?_eq_some_iff.1 hl).1, rfl⟩
  | .sl sz b off len mc nl, c, hv => by
    obtain ⟨a, cap, e, h1, h2, h3, h4⟩ := hv
    refine ⟨mc, Nat.le_refl _, ?_⟩
    cases nl with
    | true => exact .inl ⟨rfl, sz, b, off, rfl⟩
    | false =>
      obtain ⟨ad, l, _, hl, _⟩ := h4 rfl
      exact .inr ⟨(List.getElem?_eq_some_iff.1 hl).1, rfl⟩
  | .fn f a cp, c, hv => by
    obtain ⟨cf, cc, e, g1, g2⟩ := hv
    exact ⟨a, cp, rfl, RVs.low a cf g1, RVs.low cp cc g2⟩
  | .agg l, c, hv => by
    obtain ⟨cs, e, g1⟩ := hv
    exact ⟨l, rfl, RVs.low l cs g1⟩
  | .tup l, c, hv => by
    obtain ⟨cs, e, g1⟩ := hv
    exact ⟨l, rfl, RVs.low l cs g1⟩
  | .iface t x, c, hv => by
    obtain ⟨z, e, g1⟩ := hv
    exact ⟨x, rfl, RV.low x z g1⟩
  | .bool b, c, hv | .int k i, c, hv | .str s, c, hv | .nilptr, c, hv | .nilfn, c, hv | .nilmap, c, hv | .nilif, c, hv | .raw x, c, hv => rfl
theorem RVs.low : ∀ (v : List AV) (c : List Value), RVs ρ v c → Subs id ρ.length v v
  | [], c, hv => rfl
  | a :: r, c, hv => by
    obtain ⟨x, y, e, g1, g2⟩ := hv
    exact ⟨a, r, rfl, RV.low a x g1, RVs.low r y g2⟩
end
end
theorem Sub.mono {m : Nat → Nat} {n0 n : Nat} (hn : n0 ≤ n) (hm : ∀ b, b < n0 → m b = b) : (∀ (a v : AV), Sub id n0 a v → Sub m n a v) ∧ (∀ (a v : List AV), Subs id n0 a v → Subs m n a v) := by
  have key : ∀ (a : AV), ∀ v, Sub id n0 a v → Sub m n a v := fun a => by
    refine AV.rec (motive_1 := fun a => ∀ v, Sub id n0 a v → Sub m n a v) (motive_2 := fun l => ∀ v, Subs id n0 l v → Subs m n l v) ?_ ?_ ?_ ?_ ?_ ?_ ?_ ?_ ?_ ?_ ?_ ?_ ?_ ?_ ?_ ?_ ?_ ?_ a
    · exact fun v h => h
    · exact fun b v h => h
    · exact fun k i v h => h
    · exact fun l v h => h
    · rintro b off v ⟨h, rfl⟩; exact ⟨by omega, by rw [hm b h]; rfl⟩
    · exact fun v h => h
    · rintro sz b off len mc nl v ⟨mc', h1, h2⟩
      refine ⟨mc', h1, ?_⟩
      rcases h2 with h2 | ⟨h2, rfl⟩
      · exact .inl h2
      · exact .inr ⟨by omega, by rw [hm b h2]; rfl⟩
    · rintro f a c iha ihc v ⟨a', c', rfl, h1, h2⟩; exact ⟨a', c', rfl, iha _ h1, ihc _ h2⟩
    · exact fun v h => h
    · rintro b v ⟨h, rfl⟩; exact ⟨by omega, by rw [hm b h]; rfl⟩
    · exact fun v h => h
    · rintro t x ih v ⟨y, rfl, h1⟩; exact ⟨y, rfl, ih _ h1⟩
    · exact fun v h => h
    · rintro l ih v ⟨l', rfl, h1⟩; exact ⟨l', rfl, ih _ h1⟩
    · rintro l ih v ⟨l', rfl, h1⟩; exact ⟨l', rfl, ih _ h1⟩
    · exact fun x v h => h
    · exact fun v h => h
    · rintro a r iha ihr v ⟨b, s, rfl, h1, h2⟩; exact ⟨b, s, rfl, iha _ h1, ihr _ h2⟩
  refine ⟨key, fun a => ?_⟩
  induction a with
  | nil => exact fun v h => h
  | cons x r ih => rintro v ⟨b, s, rfl, h1, h2⟩; exact ⟨b, s, rfl, key _ _ h1, ih _ h2⟩
def OSub (m : Nat → Nat) (n : Nat) : AObj → AObj → Prop
  | .blk cs' rw', .blk cs rw => (rw' = true → rw = true) ∧ ∀ (i : Nat) (v' : AV), cs'[i]? = some v' → ∃ v, cs[i]? = some v ∧ Sub m n v' v
  | .siter s p, .siter s' p' => s = s' ∧ p = p'
  | .map es' c', .map es c => c' = c ∧ es'.length = es.length ∧ ∀ (i : Nat) (k' v' : AV) (b : Nat), es'[i]? = some (k', v', b) → ∃ k v, es[i]? = some (k, v, b) ∧ Sub m n k' k ∧ Sub m n v' v
  | .miter x' a' s' l', .miter x a s l => a' = a ∧ s' = s ∧ l' = l ∧ ((x' = none ∧ x = none) ∨ ∃ b', x' = some b' ∧ b' < n ∧ x = some (m b'))
  | .ext k' N' fr' mk', .ext k N fr mk => k' = k ∧ N' = N ∧ mk' = mk ∧ ∀ t, Sub m n (Fr.get fr' t) (Fr.get fr t)
  | _, _ => False
theorem OSub.rel {m : Nat → Nat} {n : Nat} {ρ ρ2 : Loc.Map} (h : ∀ (b : Nat) (l : Loc), b < n → ρ[m b]? = some l → ρ2[b]? = some l) {o o' : AObj} (hs : OSub m n o' o) {l : Loc} {w : World} (ho : ObjRel ρ o l w) : ObjRel ρ2 o' l w := by
  cases o' with
  | blk cs' rw' =>
    cases o with
    | siter => exact hs.elim
    | map => exact hs.elim
    | miter => exact hs.elim
    | ext => exact hs.elim
    | blk cs rw =>
      obtain ⟨c, e, fz, hh, hsz, hcs, hfz⟩ := ho
      refine ⟨c, e, fz, hh, hsz, fun i v' hi => ?_, fun hr => hfz (hs.1 hr)⟩
      obtain ⟨v, hv, hsub⟩ := hs.2 i v' hi
      obtain ⟨x, hx, hrv⟩ := hcs i v hv
      exact ⟨x, hx, Sub.rv h _ _ _ hsub hrv⟩
  | siter s p =>
    cases o with
    | siter s' p' => obtain ⟨rfl, rfl⟩ := hs; exact ho
    | blk => exact hs.elim
    | map => exact hs.elim
    | miter => exact hs.elim
    | ext => exact hs.elim
  | map es' c' =>
    cases o with
    | siter => exact hs.elim
    | blk => exact hs.elim
    | miter => exact hs.elim
    | ext => exact hs.elim
    | map es c =>
      obtain ⟨rfl, hlen, hs⟩ := hs
      obtain ⟨ents, hh, hsz, hes⟩ := ho
      refine ⟨ents, hh, hsz.trans hlen.symm, fun i k' v' b hi => ?_⟩
      obtain ⟨k, v, hi', h1, h2⟩ := hs i k' v' b hi
      obtain ⟨e, he, r1, r2, r3⟩ := hes i k v b hi'
      exact ⟨e, he, Sub.rv h _ _ _ h1 r1, Sub.rv h _ _ _ h2 r2, r3⟩
  | miter x' a' s' l' =>
    cases o with
    | siter => exact hs.elim
    | blk => exact hs.elim
    | map => exact hs.elim
    | ext => exact hs.elim
    | miter x a s l' =>
      obtain ⟨rfl, rfl, rfl, hx⟩ := hs
      rcases hx with ⟨rfl, rfl⟩ | ⟨b', rfl, hlt, rfl⟩
      · refine ⟨ho.1, ?_⟩
        rcases ho.2 with ho | ⟨_, _, e, _⟩
        · exact .inl ho
        · cases e
      · refine ⟨ho.1, ?_⟩
        rcases ho.2 with ⟨e, _⟩ | ⟨b, lm, e, hl, hh⟩
        · cases e
        · cases e; exact .inr ⟨b', lm, rfl, h b' lm hlt hl, hh⟩
  | ext k' N' fr' mk' =>
    cases o with
    | siter => exact hs.elim
    | blk => exact hs.elim
    | map => exact hs.elim
    | miter => exact hs.elim
    | ext k N fr mk =>
      obtain ⟨rfl, rfl, rfl, hs⟩ := hs
      obtain ⟨h1, tmps, h2, h3, h4⟩ := ho
      exact ⟨h1, tmps, h2, h3, fun t => Sub.rv h _ _ _ (hs t) (h4 t)⟩
theorem OSub.rw {m : Nat → Nat} {n : Nat} {o o' : AObj} (hs : OSub m n o' o) (h : o'.rw = true) : o.rw = true := by
  cases o' <;> cases o <;> simp_all [OSub, AObj.rw]
def St.wf (st : St) : Prop := ∀ b o, st.get b = some o → b < st.n ∧ OSub id st.n o o
theorem Rel.wf {ρ : Loc.Map} {st : St} {w : World} (h : Rel ρ st w) : st.wf := fun b o hb => by
  refine ⟨h.lt hb, ?_⟩
  obtain ⟨l, hl, ho⟩ := h.obj b o hb
  cases o with
  | blk cs rw =>
    obtain ⟨c, e, fz, hh, hsz, hcs, hfz⟩ := ho
    refine ⟨id, fun i v hi => ⟨v, hi, ?_⟩⟩
    obtain ⟨x, _, hrv⟩ := hcs i v hi
    rw [← h.len]
    exact RV.low v x hrv
  | siter => exact ⟨rfl, rfl⟩
  | map es c =>
    obtain ⟨ents, hh, hsz, hes⟩ := ho
    refine ⟨rfl, rfl, fun i k v b hi => ⟨k, v, hi, ?_⟩⟩
    obtain ⟨e, _, r1, r2, _⟩ := hes i k v b hi
    rw [← h.len]
    exact ⟨RV.low _ _ r1, RV.low _ _ r2⟩
  | miter x a s l' =>
    refine ⟨rfl, rfl, rfl, ?_⟩
    rcases ho.2 with ⟨e, _⟩ | ⟨b, lm, e, hl, _⟩
    · exact .inl ⟨e, e⟩
    · exact .inr ⟨b, e, by rw [← h.len]; exact (List.getElem?_eq_some_iff.1 hl).1, e⟩
  | ext k N fr mk =>
    obtain ⟨_, tmps, _, _, h4⟩ := ho
    refine ⟨rfl, rfl, rfl, fun t => ?_⟩
    rw [← h.len]
    exact RV.low _ _ (h4 t)
theorem OSub.up {m : Nat → Nat} {n0 n : Nat} (hn : n0 ≤ n) (hm : ∀ b, b < n0 → m b = b) {o o' : AObj} (h : OSub id n0 o' o) : OSub m n o' o := by
  cases o' <;> cases o <;> simp only [OSub] at h ⊢
  · exact ⟨h.1, fun i v' hi => let ⟨v, hv, hs⟩ := h.2 i v' hi; ⟨v, hv, (Sub.mono hn hm).1 _ _ hs⟩⟩
  · exact h
  · exact ⟨h.1, h.2.1, fun i k' v' b hi => let ⟨k, v, hv, h1, h2⟩ := h.2.2 i k' v' b hi; ⟨k, v, hv, (Sub.mono hn hm).1 _ _ h1, (Sub.mono hn hm).1 _ _ h2⟩⟩
  · refine ⟨h.1, h.2.1, h.2.2.1, ?_⟩
    rcases h.2.2.2 with h | ⟨b', h1, h2, h3⟩
    · exact .inl h
    · exact .inr ⟨b', h1, by omega, by rw [hm b' h2]; exact h3⟩
  · exact ⟨h.1, h.2.1, h.2.2.1, fun t => (Sub.mono hn hm).1 _ _ (h.2.2.2 t)⟩
structure Tell (m : Nat → Nat) (n0 : Nat) (st st2 : St) : Prop where
  n : n0 ≤ st2.n
  low : ∀ b, b < n0 → m b = b
  obj : ∀ b o, st2.get b = some o → b < st2.n ∧ ∃ o', st.get (m b) = some o' ∧ OSub m st2.n o o'
  inj : ∀ b b' o o', st2.get b = some o → st2.get b' = some o' → m b = m b' → b = b'
theorem Tell.rel {m : Nat → Nat} {n0 : Nat} {st st2 : St} (h : Tell m n0 st st2) {ρ : Loc.Map} {w : World} (hn : n0 ≤ ρ.length) (hr : Rel ρ st w) :
    ∃ ρ2, Rel ρ2 st2 w ∧ (∀ (b : Nat) (l : Loc), b < st2.n → ρ[m b]? = some l → ρ2[b]? = some l) ∧ Step n0 ρ st w ρ2 st2 w := by
  let ρ2 : Loc.Map := (List.range st2.n).map fun b => (ρ[m b]?).getD ⟨0, 0, 0⟩
  have hget : ∀ (b : Nat) (l : Loc), b < st2.n → ρ[m b]? = some l → ρ2[b]? = some l := fun b l hb hl => by simp [ρ2, hb, hl]
  have hback : ∀ b o l, st2.get b = some o → ρ2[b]? = some l → ∃ o', st.get (m b) = some o' ∧ OSub m st2.n o o' ∧ ρ[m b]? = some l := fun b o l hb hl => by
    obtain ⟨hlt, o', ho', hs⟩ := h.obj b o hb
    obtain ⟨l', hl', _⟩ := hr.obj _ _ ho'
    rw [hget b l' hlt hl'] at hl
    simp at hl; subst hl
    exact ⟨o', ho', hs, hl'⟩
  refine ⟨ρ2, ⟨⟨by simp [ρ2], fun b o hb => ?_, fun b b' l l' o o' hne hb hrw hb' hl hl' => ?_⟩, ⟨hr.gi.glb, fun b o l hb hrw hl => ?_⟩⟩, hget, ⟨fun b hb => ?_, rfl, rfl, rfl, Nat.le_refl _, Nat.le_refl _, fun _ _ _ => rfl, fun b o l hb hrw hl _ => ?_⟩⟩
  · obtain ⟨hlt, o', ho', hs⟩ := h.obj b o hb
    obtain ⟨l', hl', hobj⟩ := hr.obj _ _ ho'
    exact ⟨l', hget b l' hlt hl', hs.rel hget hobj⟩
  · obtain ⟨o1, g1, s1, e1⟩ := hback b o l hb hl
    obtain ⟨o2, g2, s2, e2⟩ := hback b' o' l' hb' hl'
    exact hr.sep _ _ l l' o1 o2 (fun e => hne (h.inj b b' o o' hb hb' e)) g1 (s1.rw hrw) g2 e1 e2
  · obtain ⟨o1, g1, s1, e1⟩ := hback b o l hb hl
    exact hr.gi.gsep _ o1 l g1 (s1.rw hrw) e1
  · have h1 : ρ[m b]? = some (ρ[b]'(by omega)) := by rw [h.low b hb]; exact List.getElem?_eq_getElem (by omega)
    rw [hget b _ (by have := h.n; omega) h1, List.getElem?_eq_getElem (by omega)]
  · obtain ⟨o1, g1, s1, e1⟩ := hback b o l hb hl
    exact ⟨m b, o1, l, g1, s1.rw hrw, e1, rfl⟩
def LeV (n0 : Nat) (v : AV) (st : St) (v2 : AV) (st2 : St) : Prop :=
  ∀ (ρ : Loc.Map) (w : World) (c : Value), n0 ≤ ρ.length → Rel ρ st w → RV ρ v c → ∃ ρ2, Rel ρ2 st2 w ∧ RV ρ2 v2 c ∧ Step n0 ρ st w ρ2 st2 w
def FrSub (m : Nat → Nat) (n : Nat) (fr : Fr) : Fr → Prop
  | [] => True
  | (k, v) :: r => Sub m n v (Fr.get fr k) ∧ FrSub m n fr r
theorem FrSub.get {m : Nat → Nat} {n : Nat} {fr : Fr} : ∀ {fr2 : Fr}, FrSub m n fr fr2 → ∀ t, Sub m n (Fr.get fr2 t) (Fr.get fr t)
  | [], _, t => trivial
  | (k, v) :: r, h, t => by
    show Sub m n (if k = t then v else Fr.get r t) (Fr.get fr t)
    split
    · rename_i e; subst e; exact h.1
    · exact FrSub.get h.2 t
def enumFr : Nat → List AV → Fr
  | _, [] => []
  | i, v :: r => (i, v) :: enumFr (i + 1) r
theorem enumFr_get : ∀ (l : List AV) (i t : Nat), Fr.get (enumFr i l) t = if i ≤ t then (l[t - i]?).getD .any else .any
  | [], i, t => by simp [enumFr, Fr.get]
  | v :: r, i, t => by
    rw [enumFr, Fr.get, enumFr_get r (i + 1) t]
    by_cases h : i = t
    · subst h; simp
    · rw [if_neg h]
      by_cases h2 : i + 1 ≤ t
      · rw [if_pos h2, if_pos (by omega), show t - i = (t - (i + 1)) + 1 by omega, List.getElem?_cons_succ]
      · rw [if_neg h2, if_neg (by omega)]
def evRes1 (P : Program) (fr : Fr) (st : St) : ResultVar → Option AV
  | .tmp t => some (Fr.get fr t)
  | .cell a t => evLoad P t (Fr.get fr a) st
def evRess (P : Program) (fr : Fr) (st : St) : List ResultVar → Option (List AV)
  | [] => some []
  | r :: rs => (evRes1 P fr st r).bind fun v => (evRess P fr st rs).bind fun l => some (v :: l)
def tupOf : List AV → AV
  | [v] => v
  | l => .tup l
def evResults (P : Program) (rs : List ResultVar) (fr : Fr) (st : St) : Option AV := (evRess P fr st rs).bind fun l => some (tupOf l)
theorem evRess_ok {P : Program} {fr : Fr} {st : St} {ρ : Loc.Map} {w : World} {N : Nat} {tmps : Array Value} (hr : Rel ρ st w) (hf : FrameRel ρ N fr tmps) : ∀ {rs : List ResultVar} {l : List AV}, evRess P fr st rs = some l →
    ∃ cs, (rs.mapM (m := Sem) fun | .tmp t => pure (tmps.getD t undef) | .cell a t => do loadVar t (← asAddr (tmps.getD a undef))).run P w = .ok cs w ∧ RVs ρ l cs
  | [], l, h => by simp [evRess] at h; subst h; exact ⟨[], rfl, rfl⟩
  | r :: rs, l, h => by
    simp only [evRess, Option.bind_eq_some_iff] at h
    obtain ⟨v, hv, l', hl', h⟩ := h
    simp at h; subst h
    obtain ⟨cs, hrun, hcs⟩ := evRess_ok hr hf hl'
    cases r with
    | tmp t =>
      simp [evRes1] at hv; subst hv
      refine ⟨tmps.getD t undef :: cs, ?_, _, _, rfl, hf.2 t, hcs⟩
      simp only [List.mapM_cons, Sem.run_bind, Sem.run_pure, Result.andThen_ok, hrun]
    | cell a t =>
      simp only [evRes1] at hv
      obtain ⟨x, hx, hrv⟩ := evLoad_ok (P := P) hv hr (hf.2 a)
      refine ⟨x :: cs, ?_, _, _, rfl, hrv, hcs⟩
      have hptr : ∃ b off, Fr.get fr a = .ptr b off := by
        unfold evLoad at hv
        split at hv
        · exact ⟨_, _, ‹_›⟩
        · cases hv
      obtain ⟨b, off, hp⟩ := hptr
      have hav := hf.2 a
      rw [hp] at hav
      obtain ⟨lc, hlc, hav⟩ := hav
      rw [hav] at hx
      simp only [Instr.loadAt, Instr.sureAddr, Sem.run_bind, Sem.run_pure, Result.andThen_ok] at hx
      have has : (asAddr (tmps.getD a undef)).run P w = .ok ⟨lc.blk, lc.base + off, none⟩ w := by rw [hav]; rfl
      simp only [List.mapM_cons, Sem.run_bind, Sem.run_pure, Result.andThen_ok, has, hx, hrun]
theorem evResults_ok {P : Program} {fn : Func} {fr : Fr} {st : St} {v : AV} (h : evResults P fn.results.toList fr st = some v) {ρ : Loc.Map} {w : World} {N : Nat} {tmps : Array Value} (hr : Rel ρ st w) (hf : FrameRel ρ N fr tmps) :
    ∃ c, (results fn tmps).run P w = .ok c w ∧ RV ρ v c := by
  simp only [evResults, Option.bind_eq_some_iff] at h
  obtain ⟨l, hl, h⟩ := h
  simp at h; subst h
  obtain ⟨cs, hrun, hcs⟩ := evRess_ok hr hf hl
  have hlen := hcs.length
  refine ⟨if h : (cs.toArray).size = 1 then (cs.toArray)[0] else .tuple cs.toArray, ?_, ?_⟩
  · unfold results
    rw [Array.mapM_eq_mapM_toList]
    simp only [Sem.run_bind, Sem.run_map]
    erw [hrun]
    simp only [Result.andThen_ok, Sem.run_pure]
  · match l, cs, hcs, hlen with
    | [], cs, hcs, hlen => simp at hlen; subst hlen; exact ⟨[], rfl, rfl⟩
    | [a], cs, hcs, hlen => obtain ⟨c, r, rfl, h1, rfl⟩ := hcs; exact h1
    | a :: b :: r, cs, hcs, hlen =>
      have : ¬ (cs.toArray.size = 1) := by simp at hlen ⊢; omega
      rw [dif_neg this]
      exact ⟨cs, rfl, hcs⟩
def Fin (P : Program) (rs : List ResultVar) (n0 : Nat) (Q : AV → St → Prop) : Post := fun e fr st =>
  (e = .normal ∨ e = .ret) ∧ ∃ v, evResults P rs fr st = some v ∧ ∃ v2 st2, LeV n0 v st v2 st2 ∧ Q v2 st2
theorem callsW {ro : Option Nat} {n : Nat} {P : Program} {f : FuncId} {args : Array Value} {w : World} {R : Ending → World → Prop} (h : Calls P f args w R) : CallsIn (FW ro) n P f args w R :=
  ⟨trivial, fun cs _ => let ⟨e, w', fr, r, s, x⟩ := h cs; ⟨e, w', fr, r, (comesIn_wide.2 s : ComesIn (Machine.fenced P Fence.wide) P _ _ e), x⟩⟩
theorem takes {P : Program} {fn : Func} {tmps : Array Value} {R : Ending → World → Prop} {n0 m : Nat} {ρ0 ρ : Loc.Map} {st0 st : St} {w0 : World} (hm0 : w0.heap.size ≤ m) : ∀ {ds : List Deferred} {w : World}, Dk m ρ st w ds → Step n0 ρ0 st0 w0 ρ st w → Rel ρ st w →
    (∀ w2, Rel ρ st w2 → Step n0 ρ0 st0 w0 ρ st w2 → ∃ c, (results fn tmps).run P w2 = .ok c w2 ∧ R (.returned c) w2) → LeavesInM Fence.wide 0 P fn tmps R ds .returning w := by
  rintro ds w ⟨hm, Ds, hnd, rfl, hD⟩ hs hr h
  induction Ds generalizing w with
  | nil =>
    obtain ⟨c, h1, h2⟩ := h w hr hs
    exact ⟨c, h1, h2⟩
  | cons D Ds ih =>
    obtain ⟨h1, h2, h3⟩ := hD D List.mem_cons_self
    have hlt := (Array.getElem?_eq_some_iff.1 h2).1
    obtain ⟨hn1, hn2⟩ := List.nodup_cons.1 hnd
    have hoth : ∀ k, k ≠ D → (w.putObj D (.deferred none)).heap[k]? = w.heap[k]? := fun k hk => World.putObj_heap_other hk
    have hno : ∀ b o l, st.get b = some o → ρ[b]? = some l → l.blk ≠ D := fun b o l hb hl e => by
      cases hrw : o.rw with
      | true => exact h3 b o l hb hrw hl e
      | false =>
        obtain ⟨l', hl', ho⟩ := hr.obj b o hb
        rw [hl] at hl'; simp at hl'; subst hl'
        cases o with
        | blk cs rw =>
          obtain ⟨c, et, fz, hh, _⟩ := ho
          rw [e, h2] at hh; cases hh
        | _ => simp [AObj.rw] at hrw
    have hr2 : Rel ρ st (w.putObj D (.deferred none)) := ⟨⟨hr.len, fun b o hb => by
      obtain ⟨l, hl, ho⟩ := hr.obj b o hb
      exact ⟨l, hl, ho.world (hoth _ (hno b o l hb hl))⟩, hr.sep⟩, ⟨fun g cs hg => by
      obtain ⟨et, fz, hh⟩ := hr.gi.glb g cs hg
      exact ⟨et, fz, (hoth g (fun e => by rw [e, h2] at hh; cases hh)).trans hh⟩, hr.gi.gsep⟩⟩
    have hsz : (w.putObj D (.deferred none)).heap.size = w.heap.size := by simp
    have hs2 : Step n0 ρ0 st0 w0 ρ st (w.putObj D (.deferred none)) := ⟨hs.ext, hs.os, hs.tape, hs.output, hs.drawn, by rw [hsz]; exact hs.size, fun k hk hno => (hoth k (by omega)).trans (hs.keep k hk hno), hs.own⟩
    refine ⟨by simp, .inl ⟨D, _, rfl, run_takeDeferred h2, ?_⟩⟩
    refine ih (by rw [hsz]; exact hm) hn2 (fun D' hD' => ?_) hs2 hr2
    obtain ⟨g1, g2, g3⟩ := hD D' (List.mem_cons_of_mem _ hD')
    exact ⟨g1, (hoth D' (fun e => hn1 (e ▸ hD'))).trans g2, g3⟩
theorem ASpec.body {P : Program} {f : FuncId} {fn : Func} {c : Code} {args : List AV} {st : St} {Q : AV → St → Prop} {N : Nat} (hf : P.funcs[f]? = some fn) (hname : (fn.name == "runtime.NumGoroutine") = false) (hb : fn.body = some c) (hN : fn.ntmps = N) (hle : args.length ≤ N)
    (h : st.wf → Subs id st.n args args → ACode P N st.n c (AX P N st.n (Fin P fn.results.toList st.n Q) []) (enumFr 0 args) st) : ASpec P f args st Q := by
  refine ⟨⟨fn, hf, hname, by rw [hb]; rfl⟩, fun ρ w cargs hr ha => ?_⟩
  have hlen := ha.length
  have hlow := RVs.low args cargs ha
  rw [hr.len] at hlow
  rw [← callsIn_wide (n := 0)]
  refine callsIn_of_wp_marks hf hb trivial (wpIn_mono (h hr.wf hlow none w.heap.size (fun _ => rfl) ρ w _ (by have := hr.len; omega) hr ⟨by simp; omega, fun t => ?_⟩ (Dk.nil _ _ _)) fun e a w' hq => ?_)
  · rw [enumFr_get]
    simp only [Nat.zero_le, if_true, Nat.sub_zero]
    cases ht : args[t]? with
    | none => trivial
    | some v =>
      obtain ⟨c, hc, hrv⟩ := RVs.get ha ht
      have hlt := (List.getElem?_eq_some_iff.1 hc).1
      simp only [Option.getD_some]
      have : (⟨cargs⟩ ++ Array.replicate (fn.ntmps - (⟨cargs⟩ : Array Value).size) undef)[t]? = some c := by
        rw [Array.getElem?_append_left (by simpa using hlt)]
        simpa using hc
      rw [Array.getD_eq_getD_getElem?, this]; exact hrv
  · obtain ⟨fr', st', ρ', q, r, f', d, s⟩ := hq
    obtain ⟨he, v, hv, v2, st2, hle, hQ⟩ := q
    have key : LeavesInM Fence.wide 0 P fn a.tmps (fun e w' => ∃ c v ρ' st', e = .returned c ∧ Q v st' ∧ RV ρ' v c ∧ Rel ρ' st' w' ∧ Step st.n ρ st w ρ' st' w') a.defers .returning w' := by
      refine takes (Nat.le_refl _) d s r fun w2 r2 s2 => ?_
      obtain ⟨c', hrun, hrv⟩ := evResults_ok hv r2 f'
      obtain ⟨ρ2, h1, h2, h3⟩ := hle ρ' w2 c' (s2.ext.len (by have := hr.len; omega)) r2 hrv
      exact ⟨c', hrun, c', v2, ρ2, st2, rfl, hQ, h2, h1, s2.trans h3⟩
    rcases he with rfl | rfl <;> exact key
theorem AOps.call {P : Program} {N n0 : Nat} {Q : Post} {fr : Fr} {st : St} {ops : Array Oper} {o : Oper} {rest : List Oper} {c : Call} {g : Operand} {f : FuncId} {first cap args : List AV} (hop : o.op = .call c) (hc : c.callee = .value g)
    (hw : wantedA ops.toList fr o = some true) (hg : fr.ev g = .fn (.func f) first cap) (hargs : first ++ c.args.toList.map fr.ev ++ cap = args) (hd : dstOk N o.dst = true) (h : ASpec P f args st fun v st' => AOps P N n0 ops rest Q (fr.put o.dst v) st') : AOps P N n0 ops (o :: rest) Q fr st := by
  intro ro m ρ w a hn hr hf hdf
  obtain ⟨⟨fn, hfn, hname, hbody⟩, h⟩ := h
  have he := fun x => hf.ev x
  have hgv := he g
  rw [hg] at hgv
  obtain ⟨cf, cc, hgv, h1, h2⟩ := hgv
  have hcargs : RVs ρ args (cf ++ (c.args.map a.eval).toList ++ cc) := by
    rw [← hargs]
    refine RVs.append (RVs.append h1 ?_) h2
    rw [Array.toList_map]; exact RVs.map he _
  unfold wpListIn
  rw [wantedA_ok hw hf, if_pos rfl]
  refine ⟨fun _ _ => trivial, ?_⟩
  rw [Oper.semAt_eq _ _ o fun c' e => by rw [hop] at e; cases e]
  have hrun : (execOp a.eval o).run P w = .ok (.enter f ⟨cf ++ (c.args.map a.eval).toList ++ cc⟩) w := by
    have hres : (resolve a.eval c o.type).run P w = .ok { target := .fn (.func f) ⟨cc⟩, args := ⟨cf⟩ ++ c.args.map a.eval } w := by
      simp only [resolve, hc, hgv, Deferred.ofValue, Sem.run_pure]
    simp only [execOp, hop, Sem.run_bind, hres, Result.andThen_ok, invoke, callFunc, run_program, hfn, hname, hbody, Bool.false_eq_true, if_false, Sem.run_pure]
    congr 2
    apply Array.ext'
    simp
  rw [hrun, Oper.uponIn_enter]
  refine ⟨fun e => by simp [FW, Fence.wide] at e, callsW ((h ρ w _ hr hcargs).mono fun e w' hq => ?_)⟩
  obtain ⟨cv, v, ρ', st', rfl, hQ, hrv, hr', hs⟩ := hq
  have hsup := hr.n_le hr' hs
  have hs' := hs.le (n1 := n0) (by have := hr.len; omega)
  exact wpListIn_mono (fun _ _ _ hq => CPost.step hs' hq) (hQ ro m ρ' w' _ (hs'.ext.len hn) hr' ((hf.sup hsup).put (dstOk_spec hd) hrv) ((hdf.next hs').put _ _))
end Gab
end
section
set_option linter.unusedSimpArgs false
set_option linter.unusedVariables false
namespace Gab
open Go
section
variable {P : Program} {N n0 : Nat} {Q : Post} {fr fr' : Fr} {st st' : St} {k : List It}
theorem AX.seq {x y : Code} (h : AX P N n0 Q (.code x :: .code y :: k) .normal fr st) : AX P N n0 Q (.code (.seq x y) :: k) .normal fr st := ACode.seq h
theorem AX.reg {id : Nat} {ops : Array Oper} (h : evSeg P N ops.toList ops.toList fr st = ([], fr', st')) (g : AX P N n0 Q k .normal fr' st') : AX P N n0 Q (.code (.region id ops false) :: k) .normal fr st :=
  ACode.region (AOps.seg h (AOps.nil g))
theorem AX.skip (h : AX P N n0 Q k .normal fr st) : AX P N n0 Q (.code .skip :: k) .normal fr st := ACode.skip h
theorem AX.ret (h : AX P N n0 Q k .ret fr st) : AX P N n0 Q (.code .ret :: k) .normal fr st := ACode.ret h
theorem AX.exit {id : Nat} (h : AX P N n0 Q k (.exit id) fr st) : AX P N n0 Q (.code (.exit id) :: k) .normal fr st := ACode.exit h
theorem AX.block {id : Nat} {c : Code} (h : AX P N n0 Q (.code c :: .blk id :: k) .normal fr st) : AX P N n0 Q (.code (.block id c) :: k) .normal fr st := ACode.block h
theorem AX.pop {id : Nat} (h : AX P N n0 Q k .normal fr st) : AX P N n0 Q (.blk id :: k) .normal fr st := h
theorem AX.loop {c : Code} (h : AX P N n0 Q (.code c :: .lp c :: k) .normal fr st) : AX P N n0 Q (.code (.loop c) :: k) .normal fr st := ACode.loop h
theorem AX.lp {c : Code} (h : AX P N n0 Q (.code c :: .lp c :: k) .normal fr st) : AX P N n0 Q (.lp c :: k) .normal fr st := ALp.round h
theorem AX.condT {c : Operand} {x y : Code} (hc : fr.ev c = .bool true) (ht : AX P N n0 Q (.code x :: k) .normal fr st) : AX P N n0 Q (.code (.cond c x y) :: k) .normal fr st :=
  ACode.cond hc (fun _ => ht) (fun e => by cases e)
theorem AX.condF {c : Operand} {x y : Code} (hc : fr.ev c = .bool false) (hf : AX P N n0 Q (.code y :: k) .normal fr st) : AX P N n0 Q (.code (.cond c x y) :: k) .normal fr st :=
  ACode.cond hc (fun e => by cases e) (fun _ => hf)
theorem AX.condB {c : Operand} {x y : Code} {b : Bool} (hc : fr.ev c = .bool b) (ht : b = true → AX P N n0 Q (.code x :: k) .normal fr st) (hf : b = false → AX P N n0 Q (.code y :: k) .normal fr st) : AX P N n0 Q (.code (.cond c x y) :: k) .normal fr st :=
  ACode.cond hc ht hf
theorem AX.code_exit {c : Code} {i : Nat} : AX P N n0 Q (.code c :: k) (.exit i) = AX P N n0 Q k (.exit i) := rfl
theorem AX.lp_exit {c : Code} {i : Nat} : AX P N n0 Q (.lp c :: k) (.exit i) = AX P N n0 Q k (.exit i) := rfl
theorem AX.blk_exit {id i : Nat} : AX P N n0 Q (.blk id :: k) (.exit i) = if i = id then AX P N n0 Q k .normal else AX P N n0 Q k (.exit i) := rfl
theorem AX.code_ret {c : Code} : AX P N n0 Q (.code c :: k) .ret = AX P N n0 Q k .ret := rfl
theorem AX.lp_ret {c : Code} : AX P N n0 Q (.lp c :: k) .ret = AX P N n0 Q k .ret := rfl
theorem AX.blk_ret {id : Nat} : AX P N n0 Q (.blk id :: k) .ret = AX P N n0 Q k .ret := rfl
theorem AX.nil {e : Exit} : AX P N n0 Q [] e = Q e := rfl
theorem AX.weaken_lp {c : Code} {fr' : Fr} {st' : St} (hl : Le N n0 fr st fr' st') (h : AX P N n0 Q (.lp c :: k) .normal fr' st') : AX P N n0 Q (.lp c :: k) .normal fr st := ALp.weaken hl h
theorem AX.weaken {c : Code} {fr' : Fr} {st' : St} (hl : Le N n0 fr st fr' st') (h : AX P N n0 Q (.code c :: k) .normal fr' st') : AX P N n0 Q (.code c :: k) .normal fr st := ACode.weaken hl h
end
theorem fr_get_cons {k t : Nat} {v : AV} {r : Fr} : Fr.get ((k, v) :: r) t = if k = t then v else Fr.get r t := rfl
theorem fr_put_some {fr : Fr} {d : Nat} {v : AV} : Fr.put fr (some d) v = (d, v) :: fr := rfl
theorem fr_ev_tmp {fr : Fr} {t : Nat} : fr.ev (.tmp t) = Fr.get fr t := rfl
def sq {α : Type} (x : Option (Fr × St)) (d : α) (k : Fr → St → α) : α := match x with
  | some p => k p.1 p.2
  | none => d
@[congr] theorem sq_congr {α : Type} {x y : Option (Fr × St)} {d : α} {k : Fr → St → α} (h : ∀ _ : Unit, x = y) : sq x d k = sq y d k := by rw [h ()]
def bd {α β : Type} (x : Option α) (k : α → Option β) : Option β := x.bind k
@[congr] theorem bd_congr {α β : Type} {x y : Option α} {k : α → Option β} (h : ∀ _ : Unit, x = y) : bd x k = bd y k := by rw [h ()]
@[congr] theorem obind_congr {α β : Type} {x y : Option α} {k : α → Option β} (h : ∀ _ : Unit, x = y) : x.bind k = y.bind k := by rw [h ()]
theorem push_get_new {s : St} {o : AObj} {b : Nat} (h : b = s.n) : (s.push o).get b = some o := by rw [St.push_get, if_pos h]
theorem push_get_old {s : St} {o : AObj} {b : Nat} (h : b ≠ s.n) : (s.push o).get b = s.get b := by rw [St.push_get, if_neg h]
theorem pushO_get_old {s : St} {o : Option AObj} {b : Nat} (h : b ≠ s.n) : (s.pushO o).get b = s.get b := by rw [St.pushO_get, if_neg h]
theorem set_get_new {s : St} {o : AObj} {b i : Nat} (h : i = b) : (s.set b o).get i = some o := by rw [St.set_get, if_pos h]
theorem set_get_old {s : St} {o : AObj} {b i : Nat} (h : i ≠ b) : (s.set b o).get i = s.get i := by rw [St.set_get, if_neg h]
theorem kill_get_old {s : St} {b i : Nat} (h : i ≠ b) : (s.kill b).get i = s.get i := by rw [St.kill_get, if_neg h]
theorem rdBlk_of {st : St} {b : Nat} {cs : List AV} {rw : Bool} (h : st.get b = some (.blk cs rw)) : rdBlk st b = some cs := by unfold rdBlk; rw [h]
theorem wrBlk_of {st : St} {b : Nat} {cs : List AV} (h : st.get b = some (.blk cs true)) : wrBlk st b = some cs := by unfold wrBlk; rw [h]
theorem wrap64 {n : Int} (h1 : -9223372036854775808 ≤ n) (h2 : n ≤ 9223372036854775807) : IntKind.i64.wrap n = n := IntWalk.i64_in n ⟨h1, h2⟩
theorem rdBlk_new {s : St} {cs : List AV} {rw : Bool} {b : Nat} (h : b = s.n) : rdBlk (s.push (.blk cs rw)) b = some cs := rdBlk_of (push_get_new h)
theorem rdBlk_old {s : St} {o : AObj} {b : Nat} (h : b ≠ s.n) : rdBlk (s.push o) b = rdBlk s b := by unfold rdBlk; rw [push_get_old h]
theorem rdBlk_oldO {s : St} {o : Option AObj} {b : Nat} (h : b ≠ s.n) : rdBlk (s.pushO o) b = rdBlk s b := by unfold rdBlk; rw [pushO_get_old h]
end Gab
end
section
set_option linter.unusedSimpArgs false
set_option linter.unusedVariables false
namespace Gab
open Go
def Sl (st : St) (sz : Nat) (v : AV) (cs : List AV) : Prop :=
  ∃ sz' b off len mc nl, v = .sl sz' b off len mc nl ∧ cs.length = len * sz ∧ len ≤ mc ∧ (nl = true → len = 0) ∧ (nl = false → sz' = sz) ∧
    (0 < len → b < st.n ∧ ∃ blk, rdBlk st b = some blk ∧ ∀ j, j < cs.length → blk[off + j]? = cs[j]?)
theorem Sl.nil (st : St) (sz : Nat) : Sl st sz (.sl 0 0 0 0 0 true) [] := ⟨0, 0, 0, 0, 0, true, rfl, by simp, Nat.le_refl _, by simp, by simp, by simp⟩
def enc2 : List (Int × Int) → List AV
  | [] => []
  | p :: r => .int .i64 p.1 :: .int .i64 p.2 :: enc2 r
theorem enc2_length : ∀ l, (enc2 l).length = l.length * 2
  | [] => rfl
  | p :: r => by simp [enc2, enc2_length r]; omega
def PS (st : St) (v : AV) (l : List (Int × Int)) : Prop := Sl st 2 v (enc2 l)
theorem Sl.keep {st st' : St} {sz : Nat} {v : AV} {cs : List AV} (h : Sl st sz v cs) (hn : st.n ≤ st'.n) (hk : ∀ b, b < st.n → rdBlk st' b = rdBlk st b) : Sl st' sz v cs := by
  obtain ⟨sz', b, off, len, mc, nl, rfl, hl, hm, hnl, hs, hb⟩ := h
  exact ⟨sz', b, off, len, mc, nl, rfl, hl, hm, hnl, hs, fun h0 => let ⟨h1, blk, h2, h3⟩ := hb h0; ⟨by omega, blk, by rw [hk b h1]; exact h2, h3⟩⟩
theorem Sl.push {st : St} {sz : Nat} {v : AV} {cs : List AV} (h : Sl st sz v cs) (o : AObj) : Sl (st.push o) sz v cs :=
  h.keep (by rw [St.push_n]; omega) fun b hb => rdBlk_old (by omega)
theorem Sl.pushO {st : St} {sz : Nat} {v : AV} {cs : List AV} (h : Sl st sz v cs) (o : Option AObj) : Sl (st.pushO o) sz v cs :=
  h.keep (by rw [St.pushO_n]; omega) fun b hb => rdBlk_oldO (by omega)
theorem Sl.new (st : St) (sz : Nat) {cs : List AV} {n : Nat} (h : cs.length = n * sz) (rw : Bool) : Sl (st.push (.blk cs rw)) sz (.sl sz st.n 0 n n false) cs :=
  ⟨sz, st.n, 0, n, n, false, rfl, h, Nat.le_refl _, by simp, fun _ => rfl, fun _ => ⟨by rw [St.push_n]; omega, cs, rdBlk_new rfl, fun j _ => by rw [Nat.zero_add]⟩⟩
end Gab
end
