/- The heap of objects: structs and maps to which pointers lead; an object's number is told, its block is not. -/
import Derived.Test.YtcdldgoehoopmaaDoorHt
set_option linter.unusedSimpArgs false
set_option linter.unusedVariables false
namespace Gab
open Go

def Kn.obj (B : Kn) (T b : Nat) : Kn := ⟨B.kn, fun t => if t = T then B.ad t ++ [b] else B.ad t⟩
theorem Kn.obj_at {B : Kn} {T b : Nat} : (B.obj T b).ad T = B.ad T ++ [b] := if_pos rfl
theorem Kn.obj_ne {B : Kn} {T b t : Nat} (h : t ≠ T) : (B.obj T b).ad t = B.ad t := if_neg h
theorem KLw.obj (B : Kn) (T b : Nat) : KLw B (B.obj T b) := ⟨fun _ _ h => h, fun t => by
  show B.ad t <+: (if t = T then B.ad t ++ [b] else B.ad t)
  split
  · exact List.prefix_append _ _
  · exact List.prefix_rfl⟩
theorem Hp.objK {B : Kn} {L : Own} {st : St} (h : Hp B L st) (T b : Nat) : Hp (B.obj T b) L st := ⟨⟨h.kn, h.own⟩, h.frz, h.sep⟩

/-- A pointer to an object: 0 is nil, i + 1 the i-th one. -/
def HPt (B : Kn) (T : Nat) (v : AV) (n : Nat) : Prop := (n = 0 ∧ v = .nilptr) ∨ ∃ b i, n = i + 1 ∧ (B.ad T)[i]? = some b ∧ v = .ptr b 0
/-- A map, so told. -/
def HMt (B : Kn) (T : Nat) (v : AV) (n : Nat) : Prop := (n = 0 ∧ v = .nilmap) ∨ ∃ b i, n = i + 1 ∧ (B.ad T)[i]? = some b ∧ v = .map b
section
variable {B B' : Kn} {T : Nat} {v : AV} {n : Nat}
theorem HPt.upw (hk : KLw B B') (h : HPt B T v n) : HPt B' T v n := by
  rcases h with h | ⟨b, i, h1, h2, h3⟩
  · exact .inl h
  · exact .inr ⟨b, i, h1, hk.at h2, h3⟩
theorem HPt.up (hk : KLe B B') (h : HPt B T v n) : HPt B' T v n := h.upw hk.w
theorem HMt.upw (hk : KLw B B') (h : HMt B T v n) : HMt B' T v n := by
  rcases h with h | ⟨b, i, h1, h2, h3⟩
  · exact .inl h
  · exact .inr ⟨b, i, h1, hk.at h2, h3⟩
theorem HMt.up (hk : KLe B B') (h : HMt B T v n) : HMt B' T v n := h.upw hk.w
theorem HPt.nil : HPt B T .nilptr 0 := .inl ⟨rfl, rfl⟩
theorem HMt.nil : HMt B T .nilmap 0 := .inl ⟨rfl, rfl⟩
theorem HPt.one (h : HPt B T v n) : v.one = true := by
  rcases h with ⟨_, rfl⟩ | ⟨_, _, _, _, rfl⟩ <;> rfl
theorem HMt.one (h : HMt B T v n) : v.one = true := by
  rcases h with ⟨_, rfl⟩ | ⟨_, _, _, _, rfl⟩ <;> rfl
end
def Ty.hp (T : Nat) : Ty Nat := ⟨1, fun B cs n => ∃ v, cs = [v] ∧ HPt B T v n, fun ⟨v, h, _⟩ => by rw [h]; rfl, fun ⟨v, h, a⟩ => by rw [h]; simp [a.one], fun hk ⟨v, h, a⟩ => ⟨v, h, a.upw hk⟩⟩
def Ty.hm (T : Nat) : Ty Nat := ⟨1, fun B cs n => ∃ v, cs = [v] ∧ HMt B T v n, fun ⟨v, h, _⟩ => by rw [h]; rfl, fun ⟨v, h, a⟩ => by rw [h]; simp [a.one], fun hk ⟨v, h, a⟩ => ⟨v, h, a.upw hk⟩⟩
theorem Rhp {B : Kn} {T : Nat} {v : AV} {n : Nat} (h : HPt B T v n) : (Ty.hp T).R B [v] n := ⟨v, rfl, h⟩
theorem Rhm {B : Kn} {T : Nat} {v : AV} {n : Nat} (h : HMt B T v n) : (Ty.hm T).R B [v] n := ⟨v, rfl, h⟩

/-! ### Maps as lists of keys with their values -/
section maps
variable {κ α : Type} [DecidableEq κ]
def mget (x : List (κ × α)) (k : κ) : Option α := (x.find? fun p => decide (p.1 = k)).map (·.2)
def mput (x : List (κ × α)) (k : κ) (v : α) : List (κ × α) := match x with
  | [] => [(k, v)]
  | p :: r => if p.1 = k then (k, v) :: r else p :: mput r k v
def mdel (x : List (κ × α)) (k : κ) : List (κ × α) := match x with
  | [] => []
  | p :: r => if p.1 = k then r else p :: mdel r k
theorem mget_cons {p : κ × α} {x : List (κ × α)} {k : κ} : mget (p :: x) k = if p.1 = k then some p.2 else mget x k := by
  unfold mget
  rw [List.find?_cons]
  by_cases h : p.1 = k <;> simp [h]
theorem mget_some_iff {x : List (κ × α)} (hn : (x.map (·.1)).Nodup) {k : κ} {v : α} : mget x k = some v ↔ (k, v) ∈ x := by
  induction x with
  | nil => simp [mget]
  | cons p r ih =>
    rw [List.map_cons, List.nodup_cons] at hn
    rw [mget_cons]
    by_cases h : p.1 = k
    · rw [if_pos h]
      constructor
      · intro e; cases e; rw [← h]; exact List.mem_cons_self
      · intro e
        rcases List.mem_cons.1 e with e | e
        · rw [← e]
        · exact absurd (List.mem_map.2 ⟨_, e, rfl⟩) (h ▸ hn.1)
    · rw [if_neg h, ih hn.2]
      constructor
      · exact List.mem_cons_of_mem _
      · intro e
        rcases List.mem_cons.1 e with e | e
        · exact absurd (congrArg Prod.fst e).symm h
        · exact e
theorem mget_perm {x y : List (κ × α)} (h : x.Perm y) (hn : (x.map (·.1)).Nodup) (k : κ) : mget x k = mget y k := by
  have hn' : (y.map (·.1)).Nodup := (h.map _).nodup_iff.1 hn
  cases hx : mget x k with
  | some v => exact ((mget_some_iff hn').2 (h.mem_iff.1 ((mget_some_iff hn).1 hx))).symm
  | none =>
    cases hy : mget y k with
    | none => rfl
    | some v => rw [(mget_some_iff hn).2 (h.mem_iff.2 ((mget_some_iff hn').1 hy))] at hx; cases hx
theorem mget_none_iff {x : List (κ × α)} {k : κ} : mget x k = none ↔ k ∉ x.map (·.1) := by
  induction x with
  | nil => simp [mget]
  | cons p r ih =>
    rw [mget_cons, List.map_cons, List.mem_cons]
    by_cases h : p.1 = k
    · simp [h]
    · rw [if_neg h, ih]
      constructor
      · intro e; rintro (e' | e')
        · exact h e'.symm
        · exact e e'
      · intro e e'; exact e (.inr e')
theorem mput_none {x : List (κ × α)} {k : κ} {v : α} (h : mget x k = none) : mput x k v = x ++ [(k, v)] := by
  induction x with
  | nil => rfl
  | cons p r ih =>
    rw [mget_cons] at h
    split at h
    · cases h
    · rename_i hne
      rw [mput, if_neg hne, ih h]; rfl
theorem mput_keys {x : List (κ × α)} {k : κ} {v w : α} (h : mget x k = some w) : (mput x k v).map (·.1) = x.map (·.1) := by
  induction x with
  | nil => simp [mget] at h
  | cons p r ih =>
    rw [mget_cons] at h
    rw [mput]
    split at h
    · rename_i he; rw [if_pos he]; simp [he]
    · rename_i hne; rw [if_neg hne, List.map_cons, List.map_cons, ih h]
theorem mget_mput {x : List (κ × α)} {k j : κ} {v : α} : mget (mput x k v) j = if k = j then some v else mget x j := by
  induction x with
  | nil => rw [mput, mget_cons]
  | cons p r ih =>
    rw [mput]
    by_cases h : p.1 = k
    · rw [if_pos h, mget_cons, mget_cons]
      by_cases hj : k = j
      · simp [hj]
      · rw [if_neg hj, if_neg hj, if_neg (by rw [h]; exact hj)]
    · rw [if_neg h, mget_cons, mget_cons, ih]
      by_cases hp : p.1 = j
      · rw [if_pos hp, if_pos hp, if_neg (by rw [← hp]; exact fun e => h e.symm)]
      · rw [if_neg hp, if_neg hp]
theorem mput_nodup {x : List (κ × α)} (hn : (x.map (·.1)).Nodup) (k : κ) (v : α) : ((mput x k v).map (·.1)).Nodup := by
  cases h : mget x k with
  | some w => rw [mput_keys h]; exact hn
  | none =>
    rw [mput_none h, List.map_append]
    refine List.nodup_append.2 ⟨hn, by simp, fun a ha b hb => ?_⟩
    simp at hb; subst hb
    exact fun e => mget_none_iff.1 h (e ▸ ha)
theorem mdel_filter {x : List (κ × α)} (hn : (x.map (·.1)).Nodup) (k : κ) : mdel x k = x.filter fun p => decide (p.1 ≠ k) := by
  induction x with
  | nil => rfl
  | cons p r ih =>
    rw [List.map_cons, List.nodup_cons] at hn
    rw [mdel, List.filter_cons]
    by_cases h : p.1 = k
    · rw [if_pos h, if_neg (by simp [h])]
      refine (List.filter_eq_self.2 fun q hq => ?_).symm
      simp only [ne_eq, decide_eq_true_eq]
      exact fun e => hn.1 (List.mem_map.2 ⟨q, hq, by rw [e, h]⟩)
    · rw [if_neg h, if_pos (by simp [h]), ih hn.2]
theorem mdel_nodup {x : List (κ × α)} (hn : (x.map (·.1)).Nodup) (k : κ) : ((mdel x k).map (·.1)).Nodup := by
  rw [mdel_filter hn]
  exact hn.sublist (List.Sublist.map _ List.filter_sublist)
theorem mput_perm {x y : List (κ × α)} (h : x.Perm y) (hn : (x.map (·.1)).Nodup) (k : κ) (v : α) : (mput x k v).Perm (mput y k v) := by
  have hn' : (y.map (·.1)).Nodup := (h.map _).nodup_iff.1 hn
  have ex : ∀ {z : List (κ × α)}, (z.map (·.1)).Nodup → (mput z k v).Perm ((k, v) :: mdel z k) := by
    intro z
    induction z with
    | nil => intro _; exact .refl _
    | cons p r ih =>
      intro hz
      rw [List.map_cons, List.nodup_cons] at hz
      rw [mput, mdel]
      split
      · exact .refl _
      · exact ((ih hz.2).cons p).trans (.swap _ _ _)
  refine (ex hn).trans (.trans ?_ (ex hn').symm)
  rw [mdel_filter hn, mdel_filter hn']
  exact (h.filter _).cons _
theorem mdel_perm {x y : List (κ × α)} (h : x.Perm y) (hn : (x.map (·.1)).Nodup) (k : κ) : (mdel x k).Perm (mdel y k) := by
  have hn' : (y.map (·.1)).Nodup := (h.map _).nodup_iff.1 hn
  rw [mdel_filter hn, mdel_filter hn']
  exact h.filter _

/-- Keys of one cell. -/
structure KeyT (tk : Ty κ) (kk : TK) : Prop where
  ok : ∀ (B : Kn) (k : AV) (x : κ), tk.R B [k] x → keyK kk k = true
  eq : ∀ (B B' : Kn) (k k' : AV) (x x' : κ), tk.R B [k] x → tk.R B' [k'] x' → keyEq k k' = some (decide (x = x'))
theorem keyT_int (j : IntKind) : KeyT (Ty.int j) (.int j) := ⟨fun B k x h => by
    have h : [k] = [AV.int j x] := h
    simp at h; subst h; simp [keyK], fun B B' k k' x x' h h' => by
    have h : [k] = [AV.int j x] := h
    have h' : [k'] = [AV.int j x'] := h'
    simp at h h'; subst h; subst h'; simp [keyEq]⟩
theorem keyT_str : KeyT Ty.str .str := ⟨fun B k x h => by
    have h : [k] = [AV.str x] := h
    simp at h; subst h; rfl, fun B B' k k' x x' h h' => by
    have h : [k] = [AV.str x] := h
    have h' : [k'] = [AV.str x'] := h'
    simp at h h'; subst h; subst h'; rfl⟩

/-- The entries of a map object: a list, in whatever order. -/
structure MRel (tk : Ty κ) (tv : Ty α) (B : Kn) (es : MEnts) (c : Nat) (x : List (κ × α)) : Prop where
  ps : ∃ ps : List (κ × α), ps.Perm x ∧ es.length = ps.length ∧ ∀ (i : Nat) (k v : AV) (b : Nat), es[i]? = some (k, v, b) → ∃ p, ps[i]? = some p ∧ tk.R B [k] p.1 ∧ tv.R B [v] p.2
  nd : (x.map (·.1)).Nodup
  nb : (es.map (·.2.2)).Nodup
  lb : ∀ e ∈ es, e.2.2 < c
variable {tk : Ty κ} {tv : Ty α} {B B' : Kn}
omit [DecidableEq κ] in
theorem MRel.mono (hk : KLw B B') {es : MEnts} {c : Nat} {x : List (κ × α)} (h : MRel tk tv B es c x) : MRel tk tv B' es c x := by
  obtain ⟨⟨ps, h1, h2, h3⟩, h4, h5, h6⟩ := h
  exact ⟨⟨ps, h1, h2, fun i k v b hi => let ⟨p, a, b, c⟩ := h3 i k v b hi; ⟨p, a, tk.mono hk b, tv.mono hk c⟩⟩, h4, h5, h6⟩
omit [DecidableEq κ] in
theorem MRel.nil : MRel tk tv B [] 0 [] := ⟨⟨[], .refl _, rfl, fun i k v b hi => by simp at hi⟩, by simp, by simp, by simp⟩
theorem find_rel {kk : TK} (hk : KeyT tk kk) {k : AV} {x : κ} (hx : tk.R B [k] x) : ∀ {es : MEnts} {ps : List (κ × α)}, es.length = ps.length → (∀ (i : Nat) (k v : AV) (b : Nat), es[i]? = some (k, v, b) → ∃ p, ps[i]? = some p ∧ tk.R B [k] p.1 ∧ tv.R B [v] p.2) →
    ∃ r, findA k es = some r ∧ ((r = none ∧ mget ps x = none) ∨ ∃ i v y, r = some (i, v) ∧ mget ps x = some y ∧ tv.R B [v] y ∧ ps[i]? = some (x, y))
  | [], [], _, _ => ⟨none, rfl, .inl ⟨rfl, rfl⟩⟩
  | e :: es, p :: ps, hl, h => by
    obtain ⟨p', hp', h1, h2⟩ := h 0 e.1 e.2.1 e.2.2 rfl
    simp at hp'; subst hp'
    have hq := hk.eq B B k e.1 x p.1 hx h1
    obtain ⟨r, hr, hc⟩ := find_rel hk hx (es := es) (ps := ps) (by simpa using hl) fun i k v b hi => by simpa using h (i + 1) k v b (by simpa using hi)
    by_cases he : x = p.1
    · rw [decide_eq_true he] at hq
      refine ⟨some (0, e.2.1), by unfold findA; rw [hq], .inr ⟨0, _, p.2, rfl, by rw [mget_cons, if_pos he.symm], h2, by rw [he]; rfl⟩⟩
    · rw [decide_eq_false he] at hq
      refine ⟨r.map fun p => (p.1 + 1, p.2), by unfold findA; rw [hq, hr]; rfl, ?_⟩
      rcases hc with ⟨rfl, hm⟩ | ⟨i, v, y, rfl, hm, hv, hi⟩
      · exact .inl ⟨rfl, by rw [mget_cons, if_neg (Ne.symm he)]; exact hm⟩
      · exact .inr ⟨i + 1, v, y, rfl, by rw [mget_cons, if_neg (Ne.symm he)]; exact hm, hv, by simpa using hi⟩
theorem MRel.find {kk : TK} (hk : KeyT tk kk) {es : MEnts} {c : Nat} {x : List (κ × α)} (h : MRel tk tv B es c x) {k : AV} {key : κ} (hx : tk.R B [k] key) :
    ∃ r, findA k es = some r ∧ ((r = none ∧ mget x key = none) ∨ ∃ i v y, r = some (i, v) ∧ mget x key = some y ∧ tv.R B [v] y) := by
  obtain ⟨⟨ps, h1, h2, h3⟩, h4, h5, h6⟩ := h
  obtain ⟨r, hr, hc⟩ := find_rel (tk := tk) (tv := tv) hk hx h2 h3
  have hn' : (ps.map (·.1)).Nodup := (h1.map _).nodup_iff.2 h4
  refine ⟨r, hr, ?_⟩
  rw [← mget_perm h1 hn']
  rcases hc with hc | ⟨i, v, y, a, b, c, _⟩
  · exact .inl hc
  · exact .inr ⟨i, v, y, a, b, c⟩
theorem mput_at {ps : List (κ × α)} (hn : (ps.map (·.1)).Nodup) {i : Nat} {x : κ} {y v : α} (h : ps[i]? = some (x, y)) : mput ps x v = ps.set i (x, v) := by
  induction ps generalizing i with
  | nil => simp at h
  | cons p r ih =>
    rw [List.map_cons, List.nodup_cons] at hn
    cases i with
    | zero => simp at h; subst h; simp [mput]
    | succ i =>
      have hne : p.1 ≠ x := fun e => hn.1 (List.mem_map.2 ⟨(x, y), List.mem_of_getElem? (by simpa using h), e.symm⟩)
      rw [mput, if_neg hne, List.set_cons_succ, ih hn.2 (by simpa using h)]
theorem mdel_at {ps : List (κ × α)} (hn : (ps.map (·.1)).Nodup) {i : Nat} {x : κ} {y : α} (h : ps[i]? = some (x, y)) : mdel ps x = ps.eraseIdx i := by
  induction ps generalizing i with
  | nil => simp at h
  | cons p r ih =>
    rw [List.map_cons, List.nodup_cons] at hn
    cases i with
    | zero => simp at h; subst h; simp [mdel]
    | succ i =>
      have hne : p.1 ≠ x := fun e => hn.1 (List.mem_map.2 ⟨(x, y), List.mem_of_getElem? (by simpa using h), e.symm⟩)
      rw [mdel, if_neg hne, List.eraseIdx_cons_succ, ih hn.2 (by simpa using h)]
theorem mdel_none {ps : List (κ × α)} {x : κ} (h : mget ps x = none) : mdel ps x = ps := by
  induction ps with
  | nil => rfl
  | cons p r ih =>
    rw [mget_cons] at h
    split at h
    · cases h
    · rename_i hne; rw [mdel, if_neg hne, ih h]
/-- A key's value is set. -/
theorem MRel.put {kk : TK} (hk : KeyT tk kk) {es : MEnts} {c : Nat} {x : List (κ × α)} (h : MRel tk tv B es c x) {k v : AV} {key : κ} {y : α} (hx : tk.R B [k] key) (hy : tv.R B [v] y) :
    ∃ r es' c', findA k es = some r ∧ MRel tk tv B es' c' (mput x key y) ∧ ((r = none ∧ es' = es ++ [(k, v, c)] ∧ c' = c + 1) ∨ ∃ i w e, r = some (i, w) ∧ es[i]? = some e ∧ es' = es.set i (k, v, e.2.2) ∧ c' = c) := by
  obtain ⟨⟨ps, h1, h2, h3⟩, h4, h5, h6⟩ := h
  obtain ⟨r, hr, hc⟩ := find_rel (tk := tk) (tv := tv) hk hx h2 h3
  have hn' : (ps.map (·.1)).Nodup := (h1.map _).nodup_iff.2 h4
  have hp := mput_perm h1 hn' key y
  rcases hc with ⟨rfl, hm⟩ | ⟨i, w, z, rfl, hm, _, hi⟩
  · refine ⟨none, _, _, hr, ⟨⟨ps ++ [(key, y)], by rw [← mput_none hm]; exact hp, by simp [h2], fun i k' v' b' hi => ?_⟩, mput_nodup h4 _ _, ?_, ?_⟩, .inl ⟨rfl, rfl, rfl⟩⟩
    · rcases Nat.lt_or_ge i es.length with hlt | hge
      · rw [List.getElem?_append_left hlt] at hi
        obtain ⟨p, a, b⟩ := h3 i k' v' b' hi
        exact ⟨p, by rw [List.getElem?_append_left (by omega)]; exact a, b⟩
      · rw [List.getElem?_append_right hge] at hi
        have h0 : i - es.length = 0 := by
          rcases Nat.eq_zero_or_pos (i - es.length) with h0 | h0
          · exact h0
          · rw [List.getElem?_eq_none (by simp; omega)] at hi; cases hi
        rw [h0] at hi
        simp at hi; obtain ⟨rfl, rfl, rfl⟩ := hi
        exact ⟨(key, y), by rw [List.getElem?_append_right (by omega), show i - ps.length = 0 by omega]; rfl, hx, hy⟩
    · rw [List.map_append]
      refine List.nodup_append.2 ⟨h5, by simp, fun a ha b hb => ?_⟩
      obtain ⟨e, he, rfl⟩ := List.mem_map.1 ha
      simp at hb; subst hb
      have := h6 e he; omega
    · intro e he
      rcases List.mem_append.1 he with he | he
      · have := h6 e he; omega
      · simp at he; subst he; simp
  · have hil : i < es.length := by have := (List.getElem?_eq_some_iff.1 hi).1; omega
    refine ⟨some (i, w), _, _, hr, ⟨⟨ps.set i (key, y), by rw [← mput_at hn' hi]; exact hp, by simp [h2], fun j k' v' b' hj => ?_⟩, mput_nodup h4 _ _, ?_, ?_⟩, .inr ⟨i, w, es[i], rfl, List.getElem?_eq_getElem hil, rfl, rfl⟩⟩
    · rw [List.getElem?_set] at hj
      rw [List.getElem?_set]
      split at hj
      · rename_i hij
        rw [if_pos hij]
        subst hij
        simp [hil] at hj; obtain ⟨rfl, rfl, rfl⟩ := hj
        exact ⟨(key, y), by rw [if_pos (by omega)], hx, hy⟩
      · rename_i hij
        rw [if_neg hij]; exact h3 j k' v' b' hj
    · have : (es.set i (k, v, es[i].2.2)).map (·.2.2) = es.map (·.2.2) := by
        rw [List.map_set]
        refine List.ext_getElem? fun j => ?_
        rw [List.getElem?_set]
        split
        · rename_i e; subst e; simp [hil]
        · rfl
      rw [this]; exact h5
    · intro e he
      obtain ⟨j, hj⟩ := List.getElem?_of_mem he
      rw [List.getElem?_set] at hj
      split at hj
      · rename_i e1
        subst e1
        simp [hil] at hj; subst hj
        exact (show es[i].2.2 < c from h6 _ (List.getElem_mem hil))
      · exact h6 e (List.mem_of_getElem? hj)
/-- A key is gone. -/
theorem MRel.del {kk : TK} (hk : KeyT tk kk) {es : MEnts} {c : Nat} {x : List (κ × α)} (h : MRel tk tv B es c x) {k : AV} {key : κ} (hx : tk.R B [k] key) :
    ∃ r es', findA k es = some r ∧ MRel tk tv B es' c (mdel x key) ∧ ((r = none ∧ es' = es) ∨ ∃ i w, r = some (i, w) ∧ es' = es.eraseIdx i) := by
  obtain ⟨⟨ps, h1, h2, h3⟩, h4, h5, h6⟩ := h
  obtain ⟨r, hr, hc⟩ := find_rel (tk := tk) (tv := tv) hk hx h2 h3
  have hn' : (ps.map (·.1)).Nodup := (h1.map _).nodup_iff.2 h4
  have hp := mdel_perm h1 hn' key
  rcases hc with ⟨rfl, hm⟩ | ⟨i, w, z, rfl, hm, _, hi⟩
  · exact ⟨none, es, hr, ⟨⟨ps, by rw [mdel_none hm] at hp; exact hp, h2, h3⟩, mdel_nodup h4 _, h5, h6⟩, .inl ⟨rfl, rfl⟩⟩
  · refine ⟨some (i, w), _, hr, ⟨⟨ps.eraseIdx i, by rw [← mdel_at hn' hi]; exact hp, by rw [List.length_eraseIdx, List.length_eraseIdx, h2], fun j k' v' b' hj => ?_⟩, mdel_nodup h4 _, ?_, fun e he => h6 e (List.mem_of_mem_eraseIdx he)⟩, .inr ⟨i, w, rfl, rfl⟩⟩
    · rw [List.getElem?_eraseIdx] at hj
      rw [List.getElem?_eraseIdx]
      split at hj
      · rename_i hij; rw [if_pos hij]; exact h3 j k' v' b' hj
      · rename_i hij; rw [if_neg hij]; exact h3 (j + 1) k' v' b' hj
    · exact h5.sublist ((List.eraseIdx_sublist es i).map _)
end maps
end Gab
namespace Gab
open Go
/-! ### Objects in a row -/
structure Seg {α : Type} (B : Kn) (T : Nat) (R : OV → α → Prop) (l : List α) (E : Own) : Prop where
  len : E.length = l.length
  ad : (B.ad T).length = l.length
  at_ : ∀ (i : Nat) (x : α), l[i]? = some x → ∃ b u, (B.ad T)[i]? = some b ∧ E[i]? = some (b, some u) ∧ R u x
section
variable {α κ : Type} {B B' : Kn} {T : Nat} {E E' A L : Own} {l : List α}
theorem Seg.up {R R' : OV → α → Prop} (h : Seg B T R l E) (ha : B'.ad T = B.ad T) (hr : ∀ u x, R u x → R' u x) : Seg B' T R' l E :=
  ⟨h.len, by rw [ha]; exact h.ad, fun i x hi => let ⟨b, u, a, c, d⟩ := h.at_ i x hi; ⟨b, u, by rw [ha]; exact a, c, hr u x d⟩⟩
theorem Seg.nil {R : OV → α → Prop} (h : B.ad T = []) : Seg B T R [] [] := ⟨rfl, by rw [h]; rfl, fun i x hi => by simp at hi⟩
theorem Seg.snoc {R : OV → α → Prop} (h : Seg B T R l E) {b : Nat} {u : OV} {x : α} (ha : B'.ad T = B.ad T ++ [b]) {R' : OV → α → Prop} (hr : ∀ u x, R u x → R' u x) (hx : R' u x) : Seg B' T R' (l ++ [x]) (E ++ [(b, some u)]) := by
  have h1 := h.len
  have h2 := h.ad
  refine ⟨by simp [h1], by rw [ha]; simp [h2], fun i y hi => ?_⟩
  rcases Nat.lt_or_ge i l.length with hlt | hge
  · rw [List.getElem?_append_left hlt] at hi
    obtain ⟨b', u', a, c, d⟩ := h.at_ i y hi
    exact ⟨b', u', by rw [ha, List.getElem?_append_left (by omega)]; exact a, by rw [List.getElem?_append_left (by omega)]; exact c, hr _ _ d⟩
  · have hie : i = l.length := by
      have := (List.getElem?_eq_some_iff.1 hi).1
      simp at this; omega
    subst hie
    simp at hi; subst hi
    exact ⟨b, u, by rw [ha, ← h2]; simp, by rw [← h1]; simp, hx⟩
theorem Seg.set {R : OV → α → Prop} (h : Seg B T R l E) {i b : Nat} {u u' : OV} {x' : α} (hb : (B.ad T)[i]? = some b) (hx : R u' x') : Seg B T R (l.set i x') (E.set i (b, some u')) := by
  refine ⟨by simp [h.len], by simp [h.ad], fun j y hj => ?_⟩
  rw [List.getElem?_set] at hj
  split at hj
  · rename_i e; subst e
    split at hj
    · rename_i hlt
      simp at hj; subst hj
      exact ⟨b, u', hb, by rw [List.getElem?_set_self (by rw [h.len]; exact hlt)], hx⟩
    · cases hj
  · rename_i hne
    obtain ⟨b', v, a, c, d⟩ := h.at_ j y hj
    exact ⟨b', v, a, by rw [List.getElem?_set_ne hne]; exact c, d⟩
theorem Upd.at_ {x y : Nat × Option OV} : ∀ {F : Own} {i : Nat}, F[i]? = some x → Upd x y F (F.set i y)
  | a :: F, 0, hx => by simp at hx; subst hx; exact Upd.h
  | a :: F, i + 1, hx => .t (Upd.at_ (F := F) (i := i) (by simpa using hx))
theorem Upd.pre {x y : Nat × Option OV} (h : Upd x y E E') : ∀ X : Own, Upd x y (X ++ E) (X ++ E')
  | [] => h
  | a :: X => .t (Upd.pre h X)

/-- The objects of one type within the heap, and what is told of the heap when they are others. -/
def Foc (B : Kn) (T : Nat) (R : Kn → OV → α → Prop) (l : List α) (E : Own) (K : Kn → List α → Own → Prop) : Prop :=
  ∃ pre F post, E = pre ++ (F ++ post) ∧ Seg B T (R B) l F ∧ ∀ B' l' F', KLw B B' → (∀ t, t ≠ T → B'.ad t = B.ad t) → Seg B' T (R B') l' F' → K B' l' (pre ++ (F' ++ post))
def hobj (l : List α) (n : Nat) : Option α := if n = 0 then none else l[n - 1]?
def hset (l : List α) (n : Nat) (x : α) : List α := l.set (n - 1) x
theorem Foc.get {R : Kn → OV → α → Prop} {K : Kn → List α → Own → Prop} (hf : Foc B T R l E K) {i b : Nat} (hb : (B.ad T)[i]? = some b) : ∃ u x, l[i]? = some x ∧ (b, some u) ∈ E ∧ R B u x ∧ ∀ u' x', R B u' x' → ∃ E', Upd (b, some u) (b, some u') E E' ∧ K B (l.set i x') E' := by
  obtain ⟨pre, F, post, rfl, hs, hk⟩ := hf
  have hil : i < l.length := by have := (List.getElem?_eq_some_iff.1 hb).1; have := hs.ad; omega
  obtain ⟨b', u, a, c, d⟩ := hs.at_ i _ (List.getElem?_eq_getElem hil)
  rw [hb] at a; simp at a; subst a
  refine ⟨u, _, List.getElem?_eq_getElem hil, List.mem_append_right _ (List.mem_append_left _ (List.mem_of_getElem? c)), d, fun u' x' hx => ⟨pre ++ (F.set i (b, some u') ++ post), ((Upd.at_ c).app post).pre pre, ?_⟩⟩
  exact hk B _ _ (KLw.refl B) (fun _ _ => rfl) (hs.set (u := u) hb hx)
/-- Structs: their cells. -/
def SR (t : Ty α) (B : Kn) (u : OV) (x : α) : Prop := ∃ cs, u = .c cs ∧ t.R B cs x
/-- Maps. -/
def MR {κ : Type} [DecidableEq κ] (tk : Ty κ) (tv : Ty α) (B : Kn) (u : OV) (x : List (κ × α)) : Prop := ∃ es c, u = .m es c ∧ MRel tk tv B es c x
theorem SR.mono {t : Ty α} (hk : KLw B B') {u : OV} {x : α} (h : SR t B u x) : SR t B' u x := let ⟨cs, a, b⟩ := h; ⟨cs, a, t.mono hk b⟩
theorem MR.mono [DecidableEq κ] {tk : Ty κ} {tv : Ty α} (hk : KLw B B') {u : OV} {x : List (κ × α)} (h : MR tk tv B u x) : MR tk tv B' u x := let ⟨es, c, a, b⟩ := h; ⟨es, c, a, b.mono hk⟩
theorem HPt.ne0 {v : AV} {n : Nat} (h : HPt B T v n) (hn : n ≠ 0) : ∃ b i, n = i + 1 ∧ (B.ad T)[i]? = some b ∧ v = .ptr b 0 := by
  rcases h with ⟨e, _⟩ | h
  · exact absurd e hn
  · exact h
theorem hobj_some {n : Nat} {x : α} (h : hobj l n = some x) : ∃ i, n = i + 1 ∧ l[i]? = some x := by
  unfold hobj at h
  split at h
  · cases h
  · exact ⟨n - 1, by omega, h⟩
/-- A struct, by a pointer. -/
theorem hgetS {t : Ty α} {K : Kn → List α → Own → Prop} (hf : Foc B T (SR t) l E K) {v : AV} {n : Nat} (hp : HPt B T v n) {x : α} (hx : hobj l n = some x) :
    ∃ b cs, v = .ptr b 0 ∧ (b, some (OV.c cs)) ∈ E ∧ t.R B cs x ∧ ∀ cs' x', t.R B cs' x' → ∃ E', Upd (b, some (OV.c cs)) (b, some (OV.c cs')) E E' ∧ K B (hset l n x') E' := by
  obtain ⟨i, rfl, hi⟩ := hobj_some hx
  obtain ⟨b, j, hj, hb, rfl⟩ := hp.ne0 (by omega)
  obtain rfl : i = j := by omega
  obtain ⟨u, y, hy, hm, ⟨cs, rfl, hr⟩, hs⟩ := hf.get hb
  rw [hi] at hy; simp at hy; subst hy
  exact ⟨b, cs, rfl, hm, hr, fun cs' x' hr' => let ⟨E', a, c⟩ := hs (.c cs') x' ⟨cs', rfl, hr'⟩; ⟨E', a, c⟩⟩

/-! ### Operations on the heap -/
section ops
variable {P : Program} {N n0 : Nat} {ops : Array Oper} {Rr : Post} {k : List It} {fr : Fr} {M : Own}
def MOpE (P : Program) (op : Op) (fr : Fr) (B : Kn) (A E L : Own) (Q : AV → Kn → Own → Own → Prop) : Prop :=
  ∀ st, st.lw → Hp B (A ++ (E ++ L)) st → ∃ v st' B' A' E', evOp P op fr st = some (v, st') ∧ st'.lw ∧ Hp B' (A' ++ (E' ++ L)) st' ∧ Q v B' A' E'
theorem WO.e {d : Option Nat} {op : Op} {ty : TypeId} {ps : String} {af : Array Edge} {g : Option (Nat × Bool)} {rest : List Oper} {Q : AV → Kn → Own → Own → Prop} (hm : MOpE P op fr B A E L Q) (hw : wantedA ops.toList fr ⟨d, op, ty, ps, af, g⟩ = some true) (hd : dstOk N d = true)
    (h : ∀ v B' A' E', Q v B' A' E' → WO P N n0 ops rest Rr k (fr.put d v) B' A' (E' ++ L)) : WO P N n0 ops (⟨d, op, ty, ps, af, g⟩ :: rest) Rr k fr B A (E ++ L) := fun st hl hp => by
  obtain ⟨v, st', B', A', E', h1, h2, h3, h4⟩ := hm st hl hp
  exact AOps.one (p := (fr.put d v, st')) (by
    unfold evStep
    rw [hw, Option.bind_some, if_pos hd, if_pos rfl, h1]; rfl) (h v B' A' E' h4 st' h2 h3)
theorem WO.ed {d : Nat} {op : Op} {ty : TypeId} {ps : String} {af : Array Edge} {g : Option (Nat × Bool)} {rest : List Oper} {Q : AV → Kn → Own → Own → Prop} (hm : MOpE P op fr B A E L Q) (hw : wantedA ops.toList fr ⟨some d, op, ty, ps, af, g⟩ = some true) (hd : dstOk N (some d) = true)
    (h : ∀ v B' A' E', Q v B' A' E' → WO P N n0 ops rest Rr k ((d, v) :: fr) B' A' (E' ++ L)) : WO P N n0 ops (⟨some d, op, ty, ps, af, g⟩ :: rest) Rr k fr B A (E ++ L) := WO.e hm hw hd h
theorem WO.en {op : Op} {ty : TypeId} {ps : String} {af : Array Edge} {g : Option (Nat × Bool)} {rest : List Oper} {Q : AV → Kn → Own → Own → Prop} (hm : MOpE P op fr B A E L Q) (hw : wantedA ops.toList fr ⟨none, op, ty, ps, af, g⟩ = some true)
    (h : ∀ v B' A' E', Q v B' A' E' → WO P N n0 ops rest Rr k fr B' A' (E' ++ L)) : WO P N n0 ops (⟨none, op, ty, ps, af, g⟩ :: rest) Rr k fr B A (E ++ L) := WO.e hm hw rfl h
theorem inE {x : Nat × Option OV} (h : x ∈ E) : x ∈ A ++ (E ++ L) := List.mem_append_right _ (List.mem_append_left _ h)
theorem QOp.ldSm {x : Operand} {t : TypeId} {ti : TI} {b off : Nat} {cs : List AV} {v : AV} (hx : fr.ev x = .ptr b off) (hA : (b, some (OV.c cs)) ∈ A) (hv : cs[off]? = some v) (ht : tinfo P t = some ti) (ha : ti.k.agg = false) : QOp P (.load t x) fr B A v := fun st hr => by
  simp only [evOp, hx, Gab.ldS ht ha (hr.ro hA) hv, Option.bind_some]
theorem QOp.ldAm {x : Operand} {t : TypeId} {ti : TI} {b off : Nat} {cs vs : List AV} (hx : fr.ev x = .ptr b off) (hA : (b, some (OV.c cs)) ∈ A) (hv : loadN cs off ti.size = some vs) (ht : tinfo P t = some ti) (ha : ti.k.agg = true) : QOp P (.load t x) fr B A (.agg vs) := fun st hr => by
  simp only [evOp, hx, Gab.ldA ht ha (hr.ro hA) hv, Option.bind_some]
theorem one1 {v : AV} (h : v.one = true) : [v].all AV.one = true := by simp [h]
/-- A store into an object. -/
theorem MOpE.st {t : TypeId} {a x : Operand} {ti : TI} {b off : Nat} {cs vs cs' : List AV} (ha : fr.ev a = .ptr b off) (hx : (fr.ev x).cells = some vs) (hu : Upd (b, some (OV.c cs)) (b, some (OV.c cs')) E E') (ht : tinfo P t = some ti)
    (hsz : vs.length = ti.size) (ho : vs.all AV.one = true) (hf : off + vs.length ≤ cs.length) (he : setL cs off vs = cs') : MOpE P (.store t a x) fr B A E L fun _ B' A' E'' => B' = B ∧ A' = A ∧ E'' = E' := fun st hl hp => by
  have hm : (b, some (OV.c cs)) ∈ A ++ (E ++ L) := inE hu.mem
  refine ⟨.any, st.set b (.blk cs' true), B, A, E', ?_, lw_set hl (o' := .blk cs' true) (hp.lt hl hm) _, ((hu.app L).pre A).hp hp (fun i hi => set_get_old hi) (set_get_new rfl), rfl, rfl, rfl⟩
  simp only [evOp, evStore, ha, ht, Option.bind_some, hx, hp.rd.wr hm]
  rw [need_pos ⟨hsz, hf⟩, if_pos ho, he]; rfl

/-- Map types. -/
structure MapT [DecidableEq κ] (P : Program) (T : TypeId) (tk : Ty κ) (tv : Ty α) (z : α) : Prop where
  ex : ∃ ti kt et ki w, tinfo P T = some ti ∧ ti.k = .map kt et ∧ tinfo P kt = some ki ∧ KeyT tk ki.k ∧ zinfo P et = some w ∧ ∀ B, tv.R B [w] z
  one : tv.sz = 1
def hmap {κ α : Type} (l : List (List (κ × α))) (n : Nat) : Option (List (κ × α)) := if n = 0 then some [] else l[n - 1]?
theorem hgetM [DecidableEq κ] {tk : Ty κ} {tv : Ty α} {l : List (List (κ × α))} {K : Kn → List (List (κ × α)) → Own → Prop} (hf : Foc B T (MR tk tv) l E K) {v : AV} {n : Nat} (hp : HMt B T v n) {x : List (κ × α)} (hx : hmap l n = some x) :
    (v = .nilmap ∧ x = []) ∨ ∃ b es c, v = .map b ∧ (b, some (OV.m es c)) ∈ E ∧ MRel tk tv B es c x := by
  unfold hmap at hx
  rcases hp with ⟨rfl, rfl⟩ | ⟨b, i, rfl, hb, rfl⟩
  · simp at hx; exact .inl ⟨rfl, hx⟩
  · obtain ⟨u, y, hy, hm, ⟨es, c, rfl, hr⟩, _⟩ := hf.get hb
    rw [if_neg (by omega), show i + 1 - 1 = i by omega, hy] at hx
    simp at hx; subst hx
    exact .inr ⟨b, es, c, rfl, hm, hr⟩
theorem getMap_in {st : St} {b : Nat} {es : MEnts} {c : Nat} (hr : Rd B M st) (h : (b, some (OV.m es c)) ∈ M) : getMap st b = some (es, c) := getMap_of (hr.own b _ h)
theorem ents_rel [DecidableEq κ] {tk : Ty κ} {tv : Ty α} {l : List (List (κ × α))} {K : Kn → List (List (κ × α)) → Own → Prop} (hf : Foc B T (MR tk tv) l E K) {v : AV} {n : Nat} (hp : HMt B T v n) {x : List (κ × α)} (hx : hmap l n = some x) :
    ∃ es c, MRel tk tv B es c x ∧ ∀ st, Rd B (A ++ (E ++ L)) st → entsOf st v = some es := by
  rcases hgetM hf hp hx with ⟨rfl, rfl⟩ | ⟨b, es, c, rfl, hm, hr⟩
  · exact ⟨[], 0, .nil, fun st _ => rfl⟩
  · exact ⟨es, c, hr, fun st h => by simp only [entsOf, getMap_in h (inE hm), Option.map_some]⟩
@[reducible] def lkV (ok : Bool) (cs : List AV) (b : Bool) : AV := match ok with
  | true => .tup [cs.headD .any, .bool b]
  | false => cs.headD .any
theorem MOp.lookup [DecidableEq κ] {t : TypeId} {m ky : Operand} {ok : Bool} {tk : Ty κ} {tv : Ty α} {z : α} (ht : MapT P t tk tv z) {l : List (List (κ × α))} {K : Kn → List (List (κ × α)) → Own → Prop} (hf : Foc B T (MR tk tv) l E K) {n : Nat} {mv kv : AV} (hp : HMt B T mv n) {x : List (κ × α)} (hx : hmap l n = some x) {key : κ} (hk : tk.R B [kv] key) (e0 : fr.ev m = mv) (e1 : fr.ev ky = kv) :
    MOp P (.lookup t m ky ok) fr B A (E ++ L) fun v A' => A' = A ∧ ∃ cs, tv.R B cs ((mget x key).getD z) ∧ v = lkV ok cs (mget x key).isSome := fun st hl hh => by
  subst e0; subst e1
  obtain ⟨ti, kt, et, ki, w, h1, h2, h3, h4, h5, h6⟩ := ht.ex
  obtain ⟨es, c, hr, hes⟩ := ents_rel (A := A) (L := L) hf hp hx
  obtain ⟨r, hfd, hc⟩ := hr.find h4 hk
  have hkk := h4.ok _ _ _ hk
  rcases hc with ⟨rfl, hm⟩ | ⟨i, u, y, rfl, hm, hu⟩
  · refine ⟨lkV ok [w] false, st, A, ?_, hl, hh, rfl, [w], by rw [hm]; exact h6 B, by rw [hm]; rfl⟩
    simp only [evOp, evLookup, h1, h2, h3, hkk, hes st hh.rd, hfd, h5, Option.bind_some, if_true]
    cases ok <;> rfl
  · refine ⟨lkV ok [u] true, st, A, ?_, hl, hh, rfl, [u], by rw [hm]; exact hu, by rw [hm]; rfl⟩
    simp only [evOp, evLookup, h1, h2, h3, hkk, hes st hh.rd, hfd, Option.bind_some, if_true]
    cases ok <;> rfl
theorem MOp.lenM [DecidableEq κ] {c : Call} {t : TypeId} {m : Operand} {tk : Ty κ} {tv : Ty α} {z : α} (h1 : c.callee = .builtin .len) (h2 : c.argTypes.toList = [t]) (h3 : c.args.toList = [m]) (ht : MapT P t tk tv z) {l : List (List (κ × α))} {K : Kn → List (List (κ × α)) → Own → Prop} (hf : Foc B T (MR tk tv) l E K) {n : Nat} {mv : AV} (hp : HMt B T mv n) {x : List (κ × α)} (hx : hmap l n = some x) (e0 : fr.ev m = mv) :
    MOp P (.call c) fr B A (E ++ L) fun v A' => v = .int .i64 (x.length : Int) ∧ A' = A := fun st hl hh => by
  subst e0
  obtain ⟨ti, kt, et, ki, w, g1, g2, g3, g4, g5, g6⟩ := ht.ex
  obtain ⟨es, c', hr, hes⟩ := ents_rel (A := A) (L := L) hf hp hx
  obtain ⟨ps, p1, p2, _⟩ := hr.ps
  have hlen : es.length = x.length := by rw [p2]; exact p1.length_eq
  refine ⟨_, st, A, ?_, hl, hh, rfl, rfl⟩
  have hn : evLen P t (fr.ev m) = none := by
    unfold evLen
    rw [g1, Option.bind_some, g2]
  simp only [evOp, h1, h2, h3, List.map_cons, List.map_nil, evBuiltin, hn, evLenM, g1, g2, hes st hh.rd, Option.bind_some, hlen]
/-- A key's value in a map is set. -/
theorem MOpE.put [DecidableEq κ] {t : TypeId} {m ky vl : Operand} {tk : Ty κ} {tv : Ty α} {z : α} (ht : MapT P t tk tv z) {l : List (List (κ × α))} {K : Kn → List (List (κ × α)) → Own → Prop} (hf : Foc B T (MR tk tv) l E K) {n : Nat} {mv kv vv : AV} (hp : HMt B T mv n) {x : List (κ × α)} (hx : hobj l n = some x) {key : κ} {y : α} (hk : tk.R B [kv] key) (hv : tv.R B [vv] y) (e0 : fr.ev m = mv) (e1 : fr.ev ky = kv) (e2 : fr.ev vl = vv) :
    MOpE P (.mapUpdate t m ky vl) fr B A E L fun _ B' A' E' => B' = B ∧ A' = A ∧ K B (hset l n (mput x key y)) E' := fun st hl hh => by
  subst e0; subst e1; subst e2
  obtain ⟨ti, kt, et, ki, w, h1, h2, h3, h4, h5, h6⟩ := ht.ex
  obtain ⟨i, rfl, hi⟩ := hobj_some hx
  rcases hp with ⟨e, _⟩ | ⟨b, j, hj, hb, hm⟩
  · omega
  obtain rfl : i = j := by omega
  obtain ⟨u, x', hx', hmem, ⟨es, c, rfl, hr⟩, hs⟩ := hf.get hb
  rw [hi] at hx'; simp at hx'; subst hx'
  obtain ⟨r, es', c', hfd, hr', hc⟩ := hr.put h4 hk hv
  obtain ⟨E', hu, hK⟩ := hs (.m es' c') _ ⟨es', c', rfl, hr'⟩
  have hmA : (b, some (OV.m es c)) ∈ A ++ (E ++ L) := inE hmem
  refine ⟨.any, st.set b (.map es' c'), B, A, E', ?_, lw_set hl (o' := .map es c) (hh.lt hl hmA) _, ((hu.app L).pre A).hp hh (fun i hi => set_get_old hi) (set_get_new rfl), rfl, rfl, hK⟩
  have hkk := h4.ok _ _ _ hk
  rcases hc with ⟨rfl, rfl, rfl⟩ | ⟨j, w', e, rfl, he, rfl, rfl⟩
  · simp only [evOp, evMapUpdate, h1, h2, h3, hkk, hm, getMap_in hh.rd hmA, hfd, Option.bind_some, if_true]
  · simp only [evOp, evMapUpdate, h1, h2, h3, hkk, hm, getMap_in hh.rd hmA, hfd, he, Option.bind_some, if_true]
theorem MOpE.del [DecidableEq κ] {c : Call} {t : TypeId} {m ky : Operand} {ts : List TypeId} {tk : Ty κ} {tv : Ty α} {z : α} (g1 : c.callee = .builtin .delete) (g2 : c.argTypes.toList = t :: ts) (g3 : c.args.toList = [m, ky]) (ht : MapT P t tk tv z) {l : List (List (κ × α))} {K : Kn → List (List (κ × α)) → Own → Prop} (hf : Foc B T (MR tk tv) l E K) {n : Nat} {mv kv : AV} (hp : HMt B T mv n) {x : List (κ × α)} (hx : hobj l n = some x) {key : κ} (hk : tk.R B [kv] key) (e0 : fr.ev m = mv) (e1 : fr.ev ky = kv) :
    MOpE P (.call c) fr B A E L fun v B' A' E' => v = .tup [] ∧ B' = B ∧ A' = A ∧ K B (hset l n (mdel x key)) E' := fun st hl hh => by
  subst e0; subst e1
  obtain ⟨ti, kt, et, ki, w, h1, h2, h3, h4, h5, h6⟩ := ht.ex
  obtain ⟨i, rfl, hi⟩ := hobj_some hx
  rcases hp with ⟨e, _⟩ | ⟨b, j, hj, hb, hm⟩
  · omega
  obtain rfl : i = j := by omega
  obtain ⟨u, x', hx', hmem, ⟨es, c', rfl, hr⟩, hs⟩ := hf.get hb
  rw [hi] at hx'; simp at hx'; subst hx'
  obtain ⟨r, es', hfd, hr', hc⟩ := hr.del h4 hk
  obtain ⟨E', hu, hK⟩ := hs (.m es' c') _ ⟨es', c', rfl, hr'⟩
  have hmA : (b, some (OV.m es c')) ∈ A ++ (E ++ L) := inE hmem
  refine ⟨.tup [], st.set b (.map es' c'), B, A, E', ?_, lw_set hl (o' := .map es c') (hh.lt hl hmA) _, ((hu.app L).pre A).hp hh (fun i hi => set_get_old hi) (set_get_new rfl), rfl, rfl, rfl, hK⟩
  have hkk := h4.ok _ _ _ hk
  rcases hc with ⟨rfl, rfl⟩ | ⟨j, w', rfl, rfl⟩
  · simp only [evOp, g1, g2, g3, List.map_cons, List.map_nil, evBuiltin, evDelete, h1, h2, h3, hkk, hm, getMap_in hh.rd hmA, hfd, Option.bind_some, if_true]
  · simp only [evOp, g1, g2, g3, List.map_cons, List.map_nil, evBuiltin, evDelete, h1, h2, h3, hkk, hm, getMap_in hh.rd hmA, hfd, Option.bind_some, if_true]
theorem perm_in {x : Nat × Option OV} {A pre F post L : Own} : (x :: (A ++ ((pre ++ (F ++ post)) ++ L))).Perm (A ++ ((pre ++ ((F ++ [x]) ++ post)) ++ L)) := by
  have e1 : A ++ ((pre ++ (F ++ post)) ++ L) = (A ++ (pre ++ F)) ++ (post ++ L) := by simp only [List.append_assoc]
  have e2 : A ++ ((pre ++ ((F ++ [x]) ++ post)) ++ L) = (A ++ (pre ++ F)) ++ (x :: (post ++ L)) := by simp only [List.append_assoc, List.cons_append, List.nil_append]
  rw [e1, e2]
  exact List.perm_middle.symm
/-- A new map. -/
theorem MOpE.mk [DecidableEq κ] {t : TypeId} {tk : Ty κ} {tv : Ty α} {l : List (List (κ × α))} {K : Kn → List (List (κ × α)) → Own → Prop} (hf : Foc B T (MR tk tv) l E K) :
    MOpE P (.makeMap t none) fr B A E L fun v B' A' E' => KLw B B' ∧ A' = A ∧ HMt B' T v (l.length + 1) ∧ K B' (l ++ [[]]) E' := fun st hl hh => by
  obtain ⟨pre, F, post, rfl, hs, hk⟩ := hf
  have hadl := hs.ad
  refine ⟨.map st.n, st.push (.map [] 0), B.obj T st.n, A, pre ++ ((F ++ [(st.n, some (OV.m [] 0))]) ++ post), rfl, lw_push hl _, ((hh.pushV hl (.m [] 0)).objK T st.n).perm perm_in, KLw.obj _ _ _, rfl, ?_, ?_⟩
  · exact .inr ⟨st.n, l.length, rfl, by rw [Kn.obj_at, ← hadl]; simp, rfl⟩
  · exact hk _ _ _ (KLw.obj _ _ _) (fun t ht => Kn.obj_ne ht) (hs.snoc Kn.obj_at (fun u x h => MR.mono (KLw.obj _ _ _) h) ⟨[], 0, rfl, .nil⟩)
/-- A block of one's own becomes an object. -/
theorem Hp.abs {t : Ty α} {K : Kn → List α → Own → Prop} (hf : Foc B T (SR t) l E K) {j b : Nat} {cs : List AV} (hA : A[j]? = some (b, some (OV.c cs))) {x : α} (hr : t.R B cs x) :
    ∃ B' E', KLw B B' ∧ HPt B' T (.ptr b 0) (l.length + 1) ∧ K B' (l ++ [x]) E' ∧ ∀ st, Hp B (A ++ (E ++ L)) st → Hp B' (A.eraseIdx j ++ (E' ++ L)) st := by
  obtain ⟨pre, F, post, rfl, hs, hk⟩ := hf
  have hadl := hs.ad
  refine ⟨B.obj T b, pre ++ ((F ++ [(b, some (OV.c cs))]) ++ post), KLw.obj _ _ _, .inr ⟨b, l.length, rfl, by rw [Kn.obj_at, ← hadl]; simp, rfl⟩, ?_, fun st hp => ?_⟩
  · exact hk _ _ _ (KLw.obj _ _ _) (fun t ht => Kn.obj_ne ht) (hs.snoc Kn.obj_at (fun u x h => SR.mono (KLw.obj _ _ _) h) ⟨cs, rfl, t.mono (KLw.obj _ _ _) hr⟩)
  · exact ((hp.out hA).objK T b).perm perm_in
theorem WO.abs {rest : List Oper} {t : Ty α} {K : Kn → List α → Own → Prop} (hf : Foc B T (SR t) l E K) {j b : Nat} {cs : List AV} (hA : A[j]? = some (b, some (OV.c cs))) {x : α} (hr : t.R B cs x)
    (h : ∀ B' E', KLw B B' → HPt B' T (.ptr b 0) (l.length + 1) → K B' (l ++ [x]) E' → WO P N n0 ops rest Rr k fr B' (A.eraseIdx j) (E' ++ L)) : WO P N n0 ops rest Rr k fr B A (E ++ L) := fun st hl hp => by
  obtain ⟨B', E', h1, h2, h3, h4⟩ := Hp.abs (L := L) hf hA hr
  exact h B' E' h1 h2 h3 st hl (h4 st hp)
theorem WX.abs {t : Ty α} {K : Kn → List α → Own → Prop} (hf : Foc B T (SR t) l E K) {j b : Nat} {cs : List AV} (hA : A[j]? = some (b, some (OV.c cs))) {x : α} (hr : t.R B cs x)
    (h : ∀ B' E', KLw B B' → HPt B' T (.ptr b 0) (l.length + 1) → K B' (l ++ [x]) E' → WX P N n0 Rr k fr B' (A.eraseIdx j) (E' ++ L)) : WX P N n0 Rr k fr B A (E ++ L) := fun st hl hp => by
  obtain ⟨B', E', h1, h2, h3, h4⟩ := Hp.abs (L := L) hf hA hr
  exact h B' E' h1 h2 h3 st hl (h4 st hp)
/-- What a call leaves that turns the heap. -/
def CH (B : Kn) (L : Own) (Q : Kn → Own → Own → AV → Prop) : AV → St → Prop := fun v s => ∃ B' X E', KLw B B' ∧ Hp B' (X ++ (E' ++ L)) s ∧ Q B' X E' v
theorem perm_call {A E L : Own} : (A ++ (E ++ L)).Perm (E ++ (A ++ L)) := by
  rw [← List.append_assoc, ← List.append_assoc]
  exact List.perm_append_comm.append_right L
theorem perm_back {X A E L : Own} : (X ++ (E ++ (A ++ L))).Perm ((X ++ A) ++ (E ++ L)) := by
  rw [List.append_assoc]
  exact (perm_call (A := E) (E := A) (L := L)).append_left X
theorem WO.ch {d : Option Nat} {c : Call} {ty : TypeId} {ps : String} {af : Array Edge} {g : Option (Nat × Bool)} {rest : List Oper} {gop : Operand} {f : FuncId} {first cap args : List AV} {Q : Kn → Own → Own → AV → Prop} (hc : c.callee = .value gop) (hg : fr.ev gop = .fn (.func f) first cap) (hs : ∀ st, Hp B (E ++ (A ++ L)) st → ASpec P f args st (CH B (A ++ L) Q)) (ha : first ++ c.args.toList.map fr.ev ++ cap = args) (hw : wantedA ops.toList fr ⟨d, .call c, ty, ps, af, g⟩ = some true) (hd : dstOk N d = true)
    (h : ∀ v B' X E', KLw B B' → Q B' X E' v → WO P N n0 ops rest Rr k (fr.put d v) B' (X ++ A) (E' ++ L)) : WO P N n0 ops (⟨d, .call c, ty, ps, af, g⟩ :: rest) Rr k fr B A (E ++ L) := fun st hl hp =>
  AOps.call rfl hc hw hg ha hd ((hs st (hp.perm perm_call)).lw.mono fun v s ⟨⟨B', X, E', h0, h1, h2⟩, h3⟩ => h v B' X E' h0 h2 s h3 (h1.perm perm_back))

/-! ### Loops and meeting points -/
def WXH (P : Program) (N n0 : Nat) (R : Post) (k : List It) (I : Fr → Kn → Own → Own → Prop) (L : Own) : Prop := ∀ fr B A E, I fr B A E → WX P N n0 R k fr B A (E ++ L)
theorem iter_okH {σ ε : Type} {step : σ → Option (σ ⊕ ε)} {I : σ → Fr → Kn → Own → Own → Prop} {D : ε → Prop} {c : Code} {R : Post}
    (hs : ∀ Z : σ ⊕ ε → Prop, (∀ s, Z (.inl s) → WXH P N n0 R (.lp c :: k) (I s) L) → (∀ e, Z (.inr e) → D e) → ∀ s o, step s = some o → Z o → WXH P N n0 R (.code c :: .lp c :: k) (I s) L) :
    ∀ {d : Nat} {s : σ} {e : ε}, iter step d s = some e → D e → WXH P N n0 R (.code c :: .lp c :: k) (I s) L
  | 0, _, _, h, _ => by cases h
  | d + 1, s, e, h, hD => by
    obtain ⟨o, ho, h⟩ := Option.bind_eq_some_iff.1 h
    refine hs (fun o => match o with
      | .inl s' => iter step d s' = some e
      | .inr e' => e' = e) (fun s' hs' fr B A E hI => WX.lp (iter_okH hs hs' hD fr B A E hI)) (fun e' he => by cases he; exact hD) s o ho ?_
    cases o with
    | inl s' => exact h
    | inr e' => exact Option.some.inj h
end ops
end
end Gab
namespace Gab
open Go
theorem cHp {B : Kn} {T n : Nat} {a v : AV} (e : a = v) (h : HPt B T v n) : a.cells = some [v] := by
  rcases h with ⟨_, rfl⟩ | ⟨_, _, _, _, rfl⟩ <;> rw [e] <;> rfl
theorem fillc {place : Nat → Option (Nat × Nat)} {cells vs out : List AV} {i : Nat} {v : AV} {r : List (Nat × AV)} {p : Nat × Nat} (h1 : place i = some p) (h2 : v.cells = some vs) (h3 : vs.length = p.2 ∧ p.1 + vs.length ≤ cells.length)
    (h4 : fillA place (setL cells p.1 vs) r = some out) : fillA place cells ((i, v) :: r) = some out := by
  show ((place i).bind fun p => v.cells.bind fun vs => need (vs.length = p.2 ∧ p.1 + vs.length ≤ cells.length) (fillA place (setL cells p.1 vs) r)) = _
  rw [h1, Option.bind_some, h2, Option.bind_some, need_pos h3, h4]
theorem cHm {B : Kn} {T n : Nat} {a v : AV} (e : a = v) (h : HMt B T v n) : a.cells = some [v] := by
  rcases h with ⟨_, rfl⟩ | ⟨_, _, _, _, rfl⟩ <;> rw [e] <;> rfl
theorem cNp {a : AV} (e : a = .nilptr) : a.cells = some [.nilptr] := by rw [e]; rfl
theorem cNm {a : AV} (e : a = .nilmap) : a.cells = some [.nilmap] := by rw [e]; rfl
/-- A struct, by a pointer whose block has a name. -/
theorem hgetP {α : Type} {B : Kn} {T : Nat} {E : Own} {l : List α} {t : Ty α} {K : Kn → List α → Own → Prop} (hf : Foc B T (SR t) l E K) {b n : Nat} (hp : HPt B T (.ptr b 0) n) {x : α} (hx : hobj l n = some x) :
    ∃ cs, (b, some (OV.c cs)) ∈ E ∧ t.R B cs x ∧ ∀ cs' x', t.R B cs' x' → ∃ E', Upd (b, some (OV.c cs)) (b, some (OV.c cs')) E E' ∧ K B (hset l n x') E' := by
  obtain ⟨b', cs, e, r⟩ := hgetS hf hp hx
  cases e
  exact ⟨cs, r⟩
theorem eveqlnil {P : Program} {B : Kn} {T n : Nat} {v : AV} {Tp e : TypeId} {ti : TI} (h : HPt B T v n) (ht : tinfo P Tp = some ti) (hk : ti.k = .ptr e) : evBin P .eql Tp v .nilptr = some (.bool (decide (n = 0))) := by
  rcases h with ⟨rfl, rfl⟩ | ⟨b, i, rfl, _, rfl⟩ <;> simp only [evBin, evEq, ht, Option.bind_some, hk] <;> simp
theorem evneqnil {P : Program} {B : Kn} {T n : Nat} {v : AV} {Tp e : TypeId} {ti : TI} (h : HPt B T v n) (ht : tinfo P Tp = some ti) (hk : ti.k = .ptr e) : evBin P .neq Tp v .nilptr = some (.bool (!decide (n = 0))) := by
  rcases h with ⟨rfl, rfl⟩ | ⟨b, i, rfl, _, rfl⟩ <;> simp only [evBin, evEq, ht, Option.bind_some, hk] <;> simp
end Gab
namespace Gab
open Go
/-! ### The heap in open orders -/
section
variable {α : Type} {P : Program} {N n0 : Nat} {ops : Array Oper} {Rr : Post} {k : List It} {fr : Fr} {B : Kn} {T : Nat} {E A L M : Own} {l : List α} {i : Nat} {r : Plan}
theorem Kp.kofw {B' : Kn} {L' : Own} {st : St} (hB : KLw B B') (h : Hp B' L' st) (hs : ∀ e ∈ M, e ∈ L') : Kp (Kof B M) (Kof B' M) := Kp.kof ((Rd.kof h hs).lew hB)
theorem WP.ch {d : Option Nat} {c : Call} {ty : TypeId} {ps : String} {af : Array Edge} {g : Option (Nat × Bool)} {gop : Operand} {f : FuncId} {first cap args : List AV} {Q : Kn → Own → Own → AV → Prop} (hi : ops.toList[i]? = some ⟨d, .call c, ty, ps, af, g⟩) (hc : c.callee = .value gop) (hg : fr.ev gop = .fn (.func f) first cap) (hs : ∀ st, Hp B (E ++ (A ++ L)) st → ASpec P f args st (CH B (A ++ L) Q)) (ha : first ++ c.args.toList.map fr.ev ++ cap = args) (hw : wantedA ops.toList fr ⟨d, .call c, ty, ps, af, g⟩ = some true) (hd : dstOk N d = true)
    (hm : ∀ e ∈ M, e ∈ A) (h : ∀ v B' X E', KLw B B' → Q B' X E' v → WP P N n0 ops r Rr k (fr.put d v) B' (X ++ A) (E' ++ L) M) : WP P N n0 ops (.one i r) Rr k fr B A (E ++ L) M := fun _ st hl hp =>
  APl.call hi rfl hc hw hg ha hd ((hs st (hp.perm perm_call)).lw.mono fun v s ⟨⟨B', X, E', h0, h1, h2⟩, h3⟩ => by
    have h1 := h1.perm perm_back
    have hsub' : ∀ x ∈ M, x ∈ (X ++ A) ++ (E' ++ L) := fun x hx => List.mem_append_left _ (List.mem_append_right _ (hm x hx))
    exact ⟨.inr ((h1.lew h0).kpm hsub'), APl.grow (Kp.kofw h0 h1 hsub') (h v B' X E' h0 h2 hsub' s h3 h1)⟩)
theorem WP.e {d : Option Nat} {op : Op} {ty : TypeId} {ps : String} {af : Array Edge} {g : Option (Nat × Bool)} {Q : AV → Kn → Own → Own → Prop} (hi : ops.toList[i]? = some ⟨d, op, ty, ps, af, g⟩) (hm : MOpE P op fr B A E L Q) (hQ : isQ P op = false) (hw : wantedA ops.toList fr ⟨d, op, ty, ps, af, g⟩ = some true) (hd : dstOk N d = true) (hma : ∀ e ∈ M, e ∈ A)
    (h : ∀ v B' A' E', Q v B' A' E' → KLw B B' ∧ (∀ e ∈ A, e ∈ A') ∧ WP P N n0 ops r Rr k (fr.put d v) B' A' (E' ++ L) M) : WP P N n0 ops (.one i r) Rr k fr B A (E ++ L) M := fun _ st hl hp => by
  obtain ⟨v, st', B', A', E', h1, h2, h3, h4⟩ := hm st hl hp
  obtain ⟨h0, h5, h6⟩ := h v B' A' E' h4
  have hsub' : ∀ x ∈ M, x ∈ A' ++ (E' ++ L) := fun x hx => List.mem_append_left _ (h5 x (hma x hx))
  exact APl.op (p := (fr.put d v, st')) hi hQ (by
    unfold evStep
    rw [hw, Option.bind_some, if_pos hd, if_pos rfl, h1]; rfl) (.inr ((h3.lew h0).kpm hsub')) (APl.grow (Kp.kofw h0 h3 hsub') (h6 hsub' st' h2 h3))
theorem WP.abs {t : Ty α} {K : Kn → List α → Own → Prop} (hf : Foc B T (SR t) l E K) {j b : Nat} {cs : List AV} (hA : A[j]? = some (b, some (OV.c cs))) {x : α} (hr : t.R B cs x) (hm : ∀ e ∈ M, e ∈ A.eraseIdx j)
    (h : ∀ B' E', KLw B B' → HPt B' T (.ptr b 0) (l.length + 1) → K B' (l ++ [x]) E' → WP P N n0 ops r Rr k fr B' (A.eraseIdx j) (E' ++ L) M) : WP P N n0 ops r Rr k fr B A (E ++ L) M := fun _ st hl hp => by
  obtain ⟨B', E', h1, h2, h3, h4⟩ := Hp.abs (L := L) hf hA hr
  have hsub' : ∀ x ∈ M, x ∈ A.eraseIdx j ++ (E' ++ L) := fun x hx => List.mem_append_left _ (hm x hx)
  exact APl.grow (Kp.kofw h1 (h4 st hp) hsub') (h B' E' h1 h2 h3 hsub' st hl (h4 st hp))
end
end Gab
