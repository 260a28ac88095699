/- The operations of the model over the abstract memory: what each comes to, as a function, and the proof that the model's own operation comes to the same. -/
import Derived.Test.YtcdldgoehoopmaaDoorCore
import Derived.IntWalk
import Derived.Tactics
namespace Gab
open Go

inductive TK where
  | int (k : IntKind) | bool | str
  | sl (e : TypeId) | ptr (e : TypeId)
  | struct (fs : List (Nat × TypeId))
  | arr (n : Nat) (e : TypeId)
  | map (k e : TypeId)
  | iface | fn | tup | other
def TK.agg : TK → Bool
  | .struct _ | .arr _ _ => true
  | _ => false
structure TI where
  k : TK
  size : Nat
  bytes : Nat
  zero : Option (List AV)
def kd : TypeDesc → TK
  | .int k => .int k
  | .bool => .bool
  | .string => .str
  | .slice e => .sl e
  | .pointer e => .ptr e
  | .struct fs => .struct (fs.toList.map fun f => (f.offset, f.type))
  | .array n e => .arr n e
  | .map k e => .map k e
  | .interface _ => .iface
  | .func _ _ _ => .fn
  | .tuple _ => .tup
  | _ => .other
def tinfo (P : Program) (t : TypeId) : Option TI :=
  (P.info? t).bind fun i => (P.underlying t).bind fun d => some ⟨kd d, i.size, i.bytes, i.zero.map fun z => z.cells.toList.map AV.ofV⟩

theorem tinfo_spec {P : Program} {t : TypeId} {ti : TI} (h : tinfo P t = some ti) :
    ∃ i d, P.info? t = some i ∧ P.underlying t = some d ∧ kd d = ti.k ∧ i.size = ti.size ∧ i.bytes = ti.bytes ∧ (i.zero.map fun z => z.cells.toList.map AV.ofV) = ti.zero := by
  unfold tinfo at h
  cases hi : P.info? t with
  | none => simp [hi] at h
  | some i =>
    cases hd : P.underlying t with
    | none => simp [hi, hd] at h
    | some d =>
      simp [hi, hd] at h
      subst h
      exact ⟨i, d, rfl, rfl, rfl, rfl, rfl, rfl⟩
theorem kd_sl {d : TypeDesc} {e : TypeId} (h : kd d = .sl e) : d = .slice e := by cases d <;> simp_all [kd]
theorem kd_ptr {d : TypeDesc} {e : TypeId} (h : kd d = .ptr e) : d = .pointer e := by cases d <;> simp_all [kd]
theorem kd_str {d : TypeDesc} (h : kd d = .str) : d = .string := by cases d <;> simp_all [kd]
theorem kd_bool {d : TypeDesc} (h : kd d = .bool) : d = .bool := by cases d <;> simp_all [kd]
theorem kd_int {d : TypeDesc} {k : IntKind} (h : kd d = .int k) : d = .int k := by cases d <;> simp_all [kd]
theorem kd_arr {d : TypeDesc} {n e : Nat} (h : kd d = .arr n e) : d = .array n e := by cases d <;> simp_all [kd]
theorem kd_struct {d : TypeDesc} {l : List (Nat × TypeId)} (h : kd d = .struct l) : ∃ fs, d = .struct fs ∧ fs.toList.map (fun f => (f.offset, f.type)) = l := by
  cases d <;> simp_all [kd]
theorem kd_agg (d : TypeDesc) : (kd d).agg = (match d with | .struct _ | .array _ _ => true | _ => false) := by cases d <;> rfl

theorem run_isAgg {P : Program} {t : TypeId} {ti : TI} (h : tinfo P t = some ti) (w : World) : (isAgg t).run P w = .ok ti.k.agg w := by
  obtain ⟨i, d, _, hd, hk, _⟩ := tinfo_spec h
  rw [← hk, kd_agg]
  cases d <;> simp [isAgg, run_underlying hd]
theorem run_sizeOf {P : Program} {t : TypeId} {ti : TI} (h : tinfo P t = some ti) (w : World) : (Go.sizeOf t).run P w = Result.ok ti.size w := by
  obtain ⟨i, d, hi, _, _, hs, _⟩ := tinfo_spec h
  simp [Go.sizeOf, typeInfo, hi, hs]
theorem run_zeroValue {P : Program} {t : TypeId} {ti : TI} {z : List AV} (h : tinfo P t = some ti) (hz : ti.zero = some z) (w : World) (ρ : Loc.Map) :
    ∃ v, (zeroValue t).run P w = .ok v w ∧ RVs ρ z v.cells.toList := by
  obtain ⟨i, d, hi, _, _, _, _, hz'⟩ := tinfo_spec h
  rw [hz] at hz'
  cases hv : i.zero with
  | none => simp [hv] at hz'
  | some v =>
    simp [hv] at hz'
    refine ⟨v, by simp [zeroValue, typeInfo, hi, hv], RVs.of (by rw [← hz']; simp) fun j x hj => ?_⟩
    rw [← hz'] at hj
    simp only [List.getElem?_map, Option.map_eq_some_iff] at hj
    obtain ⟨c, hc, rfl⟩ := hj
    exact ⟨c, hc, RV.ofV _ _⟩

/-- The cells that a value takes up. -/
def AV.cells : AV → Option (List AV)
  | .agg l => some l
  | .any | .tup _ => none
  | .raw (.agg _) | .raw (.tuple _) => none
  | v => some [v]
def AV.one : AV → Bool
  | .any | .agg _ | .tup _ | .raw (.agg _) | .raw (.tuple _) => false
  | _ => true

theorem RV.one {ρ : Loc.Map} {v : AV} {c : Value} (h : RV ρ v c) (ho : v.one = true) : c.oneCell' = true ∧ c.cells = #[c] := by
  cases v <;> simp [AV.one] at ho <;> simp only [RV] at h
  case bool => subst h; exact ⟨rfl, rfl⟩
  case int => subst h; exact ⟨rfl, rfl⟩
  case str => subst h; exact ⟨rfl, rfl⟩
  case ptr => obtain ⟨l, _, rfl⟩ := h; exact ⟨rfl, rfl⟩
  case nilptr => subst h; exact ⟨rfl, rfl⟩
  case sl => obtain ⟨a, cap, rfl, _⟩ := h; exact ⟨rfl, rfl⟩
  case fn => obtain ⟨cf, cc, rfl, _⟩ := h; exact ⟨rfl, rfl⟩
  case nilfn => subst h; exact ⟨rfl, rfl⟩
  case map => obtain ⟨l, _, rfl⟩ := h; exact ⟨rfl, rfl⟩
  case nilmap => subst h; exact ⟨rfl, rfl⟩
  case iface => obtain ⟨x, rfl, _⟩ := h; exact ⟨rfl, rfl⟩
  case nilif => subst h; exact ⟨rfl, rfl⟩
  case raw v => subst h; cases c <;> simp_all [Value.oneCell', Value.cells]
theorem AV.cells_one {v : AV} {l : List AV} (h : v.cells = some l) : (∃ m, v = .agg m ∧ l = m) ∨ (v.one = true ∧ l = [v]) := by
  cases v <;> simp_all [AV.cells, AV.one]
  case raw v => cases v <;> simp_all
theorem RV.cells {ρ : Loc.Map} {v : AV} {c : Value} {l : List AV} (h : RV ρ v c) (hl : v.cells = some l) : RVs ρ l c.cells.toList := by
  rcases AV.cells_one hl with ⟨m, rfl, rfl⟩ | ⟨ho, rfl⟩
  · obtain ⟨cs, rfl, hc⟩ := h
    exact hc
  · rw [(h.one ho).2]
    exact ⟨c, [], rfl, h, rfl⟩

/-! ### Memory -/
section mem
variable {ρ : Loc.Map} {st : St} {w : World}

theorem Rel.alloc (h : Rel ρ st w) {cs : List AV} {ds : List Value} (hc : RVs ρ cs ds) (e : TypeId) {w' : World} (hw : w'.heap = w.heap.push (.cells ds.toArray e)) (ho : w'.os = w.os) (ht : w'.tape = w.tape) (hp : w'.output = w.output) (hd : w.drawn ≤ w'.drawn := by exact Nat.le_refl _) :
    Rel (ρ ++ [⟨w.heap.size, 0, ds.length⟩]) (st.push (.blk cs true)) w' ∧ Step st.n ρ st w (ρ ++ [⟨w.heap.size, 0, ds.length⟩]) (st.push (.blk cs true)) w' := by
  have hold : ∀ k, k < w.heap.size → w'.heap[k]? = w.heap[k]? := fun k hk => by rw [hw, Array.getElem?_push, if_neg (by omega)]
  have hnew : w'.heap[w.heap.size]? = some (.cells ds.toArray e) := by rw [hw, Array.getElem?_push, if_pos rfl]
  have hloc : (ρ ++ [(⟨w.heap.size, 0, ds.length⟩ : Loc)])[st.n]? = some ⟨w.heap.size, 0, ds.length⟩ := by rw [← h.len]; simp
  have hof : ∀ b o, (st.push (.blk cs true)).get b = some o → (b = st.n ∧ o = .blk cs true) ∨ (b < st.n ∧ st.get b = some o) := fun b o hb => by
    rw [St.push_get] at hb
    split at hb
    · exact .inl ⟨‹_›, by simpa using hb.symm⟩
    · exact .inr ⟨h.lt hb, hb⟩
  have hobj : ∀ b o, (st.push (.blk cs true)).get b = some o → ∃ l, (ρ ++ [(⟨w.heap.size, 0, ds.length⟩ : Loc)])[b]? = some l ∧ ObjRel (ρ ++ [⟨w.heap.size, 0, ds.length⟩]) o l w' := by
    intro b o hb
    rcases hof b o hb with ⟨rfl, rfl⟩ | ⟨hlt, hb⟩
    · refine ⟨_, hloc, _, _, _, hnew, rfl, fun i v hi => ?_, fun _ j _ => by show ¬ (0 ≤ j ∧ j < 0); omega⟩
      obtain ⟨x, hx, hr⟩ := RVs.get hc hi
      exact ⟨x, by simpa using hx, RV.sup (Sup.append _ _) _ _ hr⟩
    · obtain ⟨l, hl, hr⟩ := h.obj b o hb
      exact ⟨l, Sup.append _ _ _ _ hl, (hr.world (hold _ hr.lt)).sup (Sup.append _ _)⟩
  have hloc' : ∀ b o l, b < st.n → st.get b = some o → (ρ ++ [(⟨w.heap.size, 0, ds.length⟩ : Loc)])[b]? = some l → ρ[b]? = some l ∧ l.blk < w.heap.size := fun b o l hlt hb hl => by
    rw [List.getElem?_append_left (by have := h.len; omega)] at hl
    obtain ⟨l', hl', hr⟩ := h.obj b o hb
    rw [hl] at hl'; simp at hl'; subst hl'
    exact ⟨hl, hr.lt⟩
  refine gi2 h ⟨⟨by simp [St.push_n, h.len], hobj, ?_⟩, ⟨Ext.append _ _ (by have := h.len; omega), ho, ht, hp, hd, by rw [hw]; simp, fun k hk _ => hold k hk, ?_⟩⟩
  · intro b b' l l' o o' hne hb hrw hb' hl hl'
    rcases hof b o hb with ⟨rfl, rfl⟩ | ⟨hlt, hb⟩ <;> rcases hof b' o' hb' with ⟨rfl, rfl⟩ | ⟨hlt', hb'⟩
    · exact absurd rfl hne
    · rw [hloc] at hl; simp at hl; subst hl
      have := (hloc' b' o' l' hlt' hb' hl').2
      show w.heap.size ≠ l'.blk; omega
    · rw [hloc] at hl'; simp at hl'; subst hl'
      have := (hloc' b o l hlt hb hl).2
      show l.blk ≠ w.heap.size; omega
    · exact h.sep b b' l l' o o' hne hb hrw hb' (hloc' b o l hlt hb hl).1 (hloc' b' o' l' hlt' hb' hl').1
  · intro b o l hb hrw hl hlt
    rcases hof b o hb with ⟨rfl, rfl⟩ | ⟨hlt', hb⟩
    · rw [hloc] at hl; simp at hl; subst hl; exact absurd hlt (by show ¬ w.heap.size < w.heap.size; omega)
    · exact ⟨b, o, l, hb, hrw, (hloc' b o l hlt' hb hl).1, rfl⟩

theorem Rel.upd (h : Rel ρ st w) {b : Nat} {o o' : AObj} {l : Loc} (hb : st.get b = some o) (hrw : o.rw = true) (hl : ρ[b]? = some l) {w' : World}
    (hoth : ∀ k, k ≠ l.blk → w'.heap[k]? = w.heap[k]?) (hsz : w'.heap.size = w.heap.size) (hos : w'.os = w.os) (ht : w'.tape = w.tape) (hp : w'.output = w.output) (hd : w.drawn ≤ w'.drawn) (ho' : ObjRel ρ o' l w') :
    Rel ρ (st.set b o') w' ∧ Step st.n ρ st w ρ (st.set b o') w' := by
  have hof : ∀ i x, (st.set b o').get i = some x → (i = b ∧ x = o') ∨ (i ≠ b ∧ st.get i = some x) := fun i x hi => by
    rw [St.set_get] at hi
    split at hi
    · exact .inl ⟨‹_›, by simpa using hi.symm⟩
    · exact .inr ⟨‹_›, hi⟩
  refine gi2 h ⟨⟨h.len, fun i x hi => ?_, fun i i' l1 l2 x x' hne hi hx hi' h1 h2 => ?_⟩, ⟨.refl _ _, hos, ht, hp, hd, by omega, fun k hk hno => hoth k (Ne.symm (hno b o l hb hrw hl)), fun i x l1 hi hx h1 _ => ?_⟩⟩
  · rcases hof i x hi with ⟨rfl, rfl⟩ | ⟨hne, hi⟩
    · exact ⟨l, hl, ho'⟩
    · obtain ⟨l', hl', hr⟩ := h.obj i x hi
      exact ⟨l', hl', hr.world (hoth _ (Ne.symm (h.sep b i l l' o x (Ne.symm hne) hb hrw hi hl hl')))⟩
  · rcases hof i x hi with ⟨e1, e2⟩ | ⟨_, hi1⟩ <;> rcases hof i' x' hi' with ⟨e3, e4⟩ | ⟨_, hi2⟩
    · exact absurd (e1.trans e3.symm) hne
    · subst e1; exact h.sep i i' l1 l2 o x' hne hb hrw hi2 h1 h2
    · subst e3; exact fun e => h.sep i' i l2 l1 o x (Ne.symm hne) hb hrw hi1 h2 h1 e.symm
    · exact h.sep i i' l1 l2 x x' hne hi1 hx hi2 h1 h2
  · rcases hof i x hi with ⟨rfl, rfl⟩ | ⟨hne, hi⟩
    · exact ⟨i, o, l1, hb, hrw, h1, rfl⟩
    · exact ⟨i, x, l1, hi, hx, h1, rfl⟩

theorem ObjRel.cell {cs : List AV} {rw : Bool} {l : Loc} (h : ObjRel ρ (.blk cs rw) l w) {i : Nat} {v : AV} (hi : cs[i]? = some v) : ∃ x, w.cell? ⟨l.blk, l.base + i, none⟩ = some x ∧ RV ρ v x := by
  obtain ⟨c, e, fz, hh, _, h1, _⟩ := h
  obtain ⟨x, hx, hr⟩ := h1 i v hi
  exact ⟨x, by simp [World.cell?, hh, hx], hr⟩
end mem

theorem add_eq (blk off n : Nat) : (⟨blk, off, none⟩ : Addr).add n = ⟨blk, off + n, none⟩ := by
  unfold Addr.add
  split
  · simp_all
  · rfl

/-! ### Reading -/
def loadN (cs : List AV) : Nat → Nat → Option (List AV)
  | _, 0 => some []
  | off, n + 1 => cs[off]?.bind fun v => (loadN cs (off + 1) n).bind fun r => some (v :: r)
theorem loadN_spec {cs : List AV} : ∀ {n off : Nat} {r : List AV}, loadN cs off n = some r → r.length = n ∧ ∀ j, j < n → r[j]? = cs[off + j]?
  | 0, off, r, h => by simp [loadN] at h; subst h; exact ⟨rfl, fun j hj => by omega⟩
  | n + 1, off, r, h => by
    simp only [loadN, Option.bind_eq_some_iff] at h
    obtain ⟨v, hv, r', hr', he⟩ := h
    simp at he; subst he
    obtain ⟨h1, h2⟩ := loadN_spec hr'
    refine ⟨by simp [h1], fun j hj => ?_⟩
    cases j with
    | zero => simp [hv]
    | succ j => simpa [Nat.add_assoc, Nat.add_comm 1 j] using h2 j (by omega)

def rdBlk (st : St) (b : Nat) : Option (List AV) := match st.get b with
  | some (.blk cs _) => some cs
  | _ => none
theorem rdBlk_spec {st : St} {b : Nat} {cs : List AV} (h : rdBlk st b = some cs) : ∃ rw, st.get b = some (.blk cs rw) := by
  unfold rdBlk at h
  split at h
  · simp at h; subst h; exact ⟨_, ‹_›⟩
  · cases h

def evLoad (P : Program) (t : TypeId) (p : AV) (st : St) : Option AV := match p with
  | .ptr b off => (tinfo P t).bind fun ti => (rdBlk st b).bind fun cs => if ti.k.agg then (loadN cs off ti.size).bind fun l => some (.agg l) else cs[off]?
  | _ => none

theorem load_cells {P : Program} {ρ : Loc.Map} {st : St} {w : World} (hr : Rel ρ st w) {b : Nat} {cs : List AV} (hb : rdBlk st b = some cs) {l : Loc} (hl : ρ[b]? = some l) {off n : Nat} {r : List AV} (hn : loadN cs off n = some r) :
    ∃ ds, (loadCells ⟨l.blk, l.base + off, none⟩ n).run P w = .ok ds.toArray w ∧ RVs ρ r ds := by
  obtain ⟨rw, hb⟩ := rdBlk_spec hb
  obtain ⟨l', hl', ho⟩ := hr.obj b _ hb
  rw [hl] at hl'; simp at hl'; subst hl'
  obtain ⟨h1, h2⟩ := loadN_spec hn
  have hex : ∀ j, j < n → ∃ x, w.cell? ⟨l.blk, l.base + (off + j), none⟩ = some x ∧ ∀ v, r[j]? = some v → RV ρ v x := by
    intro j hj
    have hj' : r[j]? = some (r[j]'(by omega)) := List.getElem?_eq_getElem (by omega)
    obtain ⟨x, hx, hv⟩ := ho.cell ((h2 j hj).symm.trans hj')
    exact ⟨x, hx, fun v hv' => by rw [hj'] at hv'; simp at hv'; subst hv'; exact hv⟩
  have hrun := run_loadCells (P := P) w ⟨l.blk, l.base + off, none⟩ n (fun j => (w.cell? ⟨l.blk, l.base + (off + j), none⟩).getD undef) (fun j hj => by
    obtain ⟨x, hx, _⟩ := hex j hj
    rw [add_eq, Nat.add_assoc, hx]; rfl)
  refine ⟨_, hrun, RVs.of (by simp [h1]) fun j v hj => ?_⟩
  have hjn : j < n := by have := (List.getElem?_eq_some_iff.1 hj).1; omega
  obtain ⟨x, hx, hv⟩ := hex j hjn
  refine ⟨x, ?_, hv v hj⟩
  simp [hjn, hx]

theorem evLoad_ok {P : Program} {t : TypeId} {p v : AV} {st : St} (h : evLoad P t p st = some v) {ρ : Loc.Map} {w : World} {c : Value} (hr : Rel ρ st w) (hp : RV ρ p c) :
    ∃ x, (Instr.loadAt t c).run P w = .ok x w ∧ RV ρ v x := by
  unfold evLoad at h
  split at h
  · rename_i b off
    simp only [Option.bind_eq_some_iff] at h
    obtain ⟨ti, hti, cs, hcs, h⟩ := h
    obtain ⟨l, hl, rfl⟩ := hp
    simp only [Instr.loadAt, Instr.sureAddr, loadVar, Sem.run_bind, Sem.run_pure, Result.andThen_ok, run_isAgg hti, Sem.run_ite, run_sizeOf hti]
    split at h
    · rename_i ha
      simp only [Option.bind_eq_some_iff] at h
      obtain ⟨r, hn, h⟩ := h
      simp at h; subst h
      obtain ⟨ds, hrun, hrv⟩ := load_cells (P := P) hr hcs hl hn
      rw [if_pos ha]
      exact ⟨_, by rw [hrun]; rfl, ds, rfl, hrv⟩
    · rename_i ha
      rw [if_neg ha]
      obtain ⟨rw, hb⟩ := rdBlk_spec hcs
      obtain ⟨l', hl', ho⟩ := hr.obj b _ hb
      rw [hl] at hl'; simp at hl'; subst hl'
      obtain ⟨x, hx, hv⟩ := ho.cell h
      exact ⟨x, by simp [run_load, hx], hv⟩
  · cases h

/-! ### Writing -/
def setL : List AV → Nat → List AV → List AV
  | cs, _, [] => cs
  | cs, off, v :: r => setL (cs.set off v) (off + 1) r
theorem setL_length : ∀ (vs cs : List AV) (off : Nat), (setL cs off vs).length = cs.length
  | [], _, _ => rfl
  | v :: r, cs, off => by rw [setL, setL_length r]; simp

theorem run_storeCells_blk {P : Program} {blk : Nat} {e : TypeId} {fz : Nat × Nat} : ∀ (vs : List Value) (o i : Nat) (c : Array Value) (w : World), w.heap[blk]? = some (.cells c e fz) → o + i + vs.length ≤ c.size →
    (∀ j, j < c.size → ¬ (fz.1 ≤ j ∧ j < fz.2)) → (∀ v ∈ vs, v.oneCell' = true) →
    ∃ w' c', (storeCells ⟨blk, o, none⟩ vs i).run P w = .ok () w' ∧ w'.heap[blk]? = some (.cells c' e fz) ∧ c'.size = c.size ∧ (∀ k, k ≠ blk → w'.heap[k]? = w.heap[k]?) ∧ w'.heap.size = w.heap.size ∧ w'.os = w.os ∧ w'.tape = w.tape ∧ w'.output = w.output ∧ w'.drawn = w.drawn ∧
      (∀ j, c'[j]? = if o + i ≤ j ∧ j < o + i + vs.length then vs[j - (o + i)]? else c[j]?)
  | [], o, i, c, w, hh, _, _, _ => ⟨w, c, rfl, hh, rfl, fun _ _ => rfl, rfl, rfl, rfl, rfl, rfl, fun j => by rw [if_neg (by rw [List.length_nil]; omega)]⟩
  | v :: vs, o, i, c, w, hh, hl, hf, h1 => by
    have hlt : o + i < c.size := by simp at hl; omega
    have hcell : w.cell? ⟨blk, o + i, none⟩ = some c[o + i] := by simp [World.cell?, hh, hlt]
    have hfz : w.frozen? ⟨blk, o + i, none⟩ = false := by
      have := hf (o + i) hlt
      simp only [World.frozen?, hh]
      simpa using this
    have hset : (w.setCell ⟨blk, o + i, none⟩ v).heap[blk]? = some (.cells (c.setIfInBounds (o + i) v) e fz) := by
      simp [World.setCell, Array.getElem?_modify, hh]
    obtain ⟨w', c', hrun, hh', hs', hoth, hsz, hos, ht, hp, hdr, hc⟩ := run_storeCells_blk vs o (i + 1) (c.setIfInBounds (o + i) v) (w.setCell ⟨blk, o + i, none⟩ v) hset (by simp at hl ⊢; omega) (by simpa using hf) (fun x hx => h1 x (by simp [hx]))
    refine ⟨w', c', ?_, hh', by rw [hs']; simp, fun k hk => ?_, by rw [hsz]; simp, hos, ht, hp, hdr, fun j => ?_⟩
    · simp only [storeCells, Sem.run_bind, add_eq, run_store P w _ v .plain (h1 v (by simp)), hcell, hfz]
      simpa using hrun
    · rw [hoth k hk]
      exact Go.RowKit.Below.heap_setCell _ _ _ _ hk
    · rw [hc j]
      simp only [List.length_cons]
      by_cases h2 : o + (i + 1) ≤ j ∧ j < o + (i + 1) + vs.length
      · rw [if_pos h2, if_pos (by omega), show j - (o + i) = (j - (o + (i + 1))) + 1 by omega, List.getElem?_cons_succ]
      · rw [if_neg h2]
        by_cases h3 : j = o + i
        · subst h3
          rw [if_pos (by omega)]
          simp [hlt]
        · rw [if_neg (by omega), Array.getElem?_setIfInBounds_ne (by omega)]

theorem setL_get : ∀ (vs cs : List AV) (off j : Nat), off + vs.length ≤ cs.length → (setL cs off vs)[j]? = if off ≤ j ∧ j < off + vs.length then vs[j - off]? else cs[j]?
  | [], cs, off, j, _ => by rw [setL, if_neg (by rw [List.length_nil]; omega)]
  | v :: r, cs, off, j, h => by
    simp only [List.length_cons] at h ⊢
    rw [setL, setL_get r (cs.set off v) (off + 1) j (by simp; omega)]
    by_cases h2 : off + 1 ≤ j ∧ j < off + 1 + r.length
    · rw [if_pos h2, if_pos (by omega), show j - off = (j - (off + 1)) + 1 by omega, List.getElem?_cons_succ]
    · rw [if_neg h2]
      by_cases h3 : j = off
      · subst h3
        rw [if_pos (by omega), Nat.sub_self, List.getElem?_set_self (by omega)]
        rfl
      · rw [if_neg (by omega), List.getElem?_set_ne (by omega)]

/-- Cells written into a block of one's own. -/
theorem store_cells {P : Program} {ρ : Loc.Map} {st : St} {w : World} (hr : Rel ρ st w) {b : Nat} {cs : List AV} (hb : st.get b = some (.blk cs true)) {l : Loc} (hl : ρ[b]? = some l) {off : Nat} {vs : List AV} {ds : List Value}
    (hv : RVs ρ vs ds) (ho : vs.all AV.one = true) (hfit : off + vs.length ≤ cs.length) :
    ∃ w', (storeCells ⟨l.blk, l.base + off, none⟩ ds).run P w = .ok () w' ∧ Rel ρ (st.set b (.blk (setL cs off vs) true)) w' ∧ Step st.n ρ st w ρ (st.set b (.blk (setL cs off vs) true)) w' := by
  obtain ⟨l', hl', hobj⟩ := hr.obj b _ hb
  rw [hl] at hl'; simp at hl'; subst hl'
  obtain ⟨c, e, fz, hh, hsz, hcs, hfz⟩ := hobj
  have hlen := hv.length
  have hone : ∀ v ∈ ds, v.oneCell' = true := fun v hm => by
    obtain ⟨j, hj⟩ := List.getElem?_of_mem hm
    have hjl : j < vs.length := by have := (List.getElem?_eq_some_iff.1 hj).1; omega
    obtain ⟨x, hx, hrv⟩ := RVs.get hv (List.getElem?_eq_getElem hjl)
    rw [hj] at hx; simp at hx; subst hx
    exact (hrv.one (List.all_eq_true.1 ho _ (List.getElem_mem hjl))).1
  rcases Nat.eq_zero_or_pos ds.length with h0 | h0
  · have hd : ds = [] := List.eq_nil_of_length_eq_zero h0
    have hv0 : vs = [] := List.eq_nil_of_length_eq_zero (by omega)
    subst hd; subst hv0
    exact ⟨w, rfl, hr.upd hb rfl hl (fun _ _ => rfl) rfl rfl rfl rfl (Nat.le_refl _) ⟨c, e, fz, hh, hsz, hcs, hfz⟩⟩
  obtain ⟨x0, hx0, _⟩ := hcs (off + vs.length - 1) _ (List.getElem?_eq_getElem (by omega))
  have hb2 := (Array.getElem?_eq_some_iff.1 hx0).1
  obtain ⟨w', c', hrun, hh', hs', hoth, hsz', hos, ht, hp, hdr, hc⟩ := run_storeCells_blk (P := P) ds (l.base + off) 0 c w hh (by omega) (hfz rfl) hone
  refine ⟨w', hrun, hr.upd hb rfl hl hoth hsz' hos ht hp (by omega) ⟨c', e, fz, hh', by omega, fun i v hi => ?_, fun _ j hj => hfz rfl j (by omega)⟩⟩
  rw [setL_get vs cs off i hfit] at hi
  rw [hc]
  by_cases h2 : off ≤ i ∧ i < off + vs.length
  · rw [if_pos h2] at hi
    rw [if_pos (by omega), show l.base + i - (l.base + off + 0) = i - off by omega]
    exact RVs.get hv hi
  · rw [if_neg h2] at hi
    rw [if_neg (by omega)]
    exact hcs i v hi
end Gab
