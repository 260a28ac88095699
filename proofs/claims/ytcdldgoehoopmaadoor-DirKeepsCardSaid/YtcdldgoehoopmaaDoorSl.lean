/- Slices that read as lists. -/
import Derived.Test.YtcdldgoehoopmaaDoorAx
set_option linter.unusedSimpArgs false
set_option linter.unusedVariables false
namespace Gab
open Go

/-- The slice value reads as these cells (sz an element). -/
def Sl (st : St) (sz : Nat) (v : AV) (cs : List AV) : Prop :=
  ∃ sz' b off len mc nl, v = .sl sz' b off len mc nl ∧ cs.length = len * sz ∧ len ≤ mc ∧ (nl = true → len = 0) ∧ (nl = false → sz' = sz) ∧
    (0 < len → b < st.n ∧ ∃ blk, rdBlk st b = some blk ∧ ∀ j, j < cs.length → blk[off + j]? = cs[j]?)

theorem Sl.nil (st : St) (sz : Nat) : Sl st sz (.sl 0 0 0 0 0 true) [] := ⟨0, 0, 0, 0, 0, true, rfl, by simp, Nat.le_refl _, by simp, by simp, by simp⟩

/-- The cells of a list of pairs. -/
def enc2 : List (Int × Int) → List AV
  | [] => []
  | p :: r => .int .i64 p.1 :: .int .i64 p.2 :: enc2 r
theorem enc2_length : ∀ l, (enc2 l).length = l.length * 2
  | [] => rfl
  | p :: r => by simp [enc2, enc2_length r]; omega
theorem enc2_append : ∀ l m, enc2 (l ++ m) = enc2 l ++ enc2 m
  | [], m => rfl
  | p :: r, m => by simp [enc2, enc2_append r m]
theorem enc2_get : ∀ {l : List (Int × Int)} {i : Nat} {p : Int × Int}, l[i]? = some p → (enc2 l)[i * 2]? = some (.int .i64 p.1) ∧ (enc2 l)[i * 2 + 1]? = some (.int .i64 p.2)
  | [], i, p, h => by simp at h
  | q :: r, 0, p, h => by simp at h; subst h; simp [enc2]
  | q :: r, i + 1, p, h => by
    have := enc2_get (l := r) (i := i) (p := p) (by simpa using h)
    rw [enc2, show (i + 1) * 2 = i * 2 + 1 + 1 by omega]
    simpa using this
theorem enc2_drop : ∀ (l : List (Int × Int)) (i : Nat), enc2 (l.drop i) = (enc2 l).drop (i * 2)
  | [], i => by simp [enc2]
  | p :: r, 0 => by simp
  | p :: r, i + 1 => by rw [List.drop_succ_cons, enc2_drop r i, enc2, show (i + 1) * 2 = i * 2 + 1 + 1 by omega]; simp
theorem enc2_take : ∀ (l : List (Int × Int)) (i : Nat), enc2 (l.take i) = (enc2 l).take (i * 2)
  | [], i => by simp [enc2]
  | p :: r, 0 => by simp [enc2]
  | p :: r, i + 1 => by rw [List.take_succ_cons, enc2, enc2_take r i, enc2, show (i + 1) * 2 = i * 2 + 1 + 1 by omega]; simp
theorem enc2_one : ∀ l, (enc2 l).all AV.one = true
  | [] => rfl
  | p :: r => by simp [enc2, AV.one, enc2_one r]
theorem enc2_sub (m : Nat → Nat) (n : Nat) : ∀ (l : List (Int × Int)) (i : Nat) (v : AV), (enc2 l)[i]? = some v → Sub m n v v
  | [], i, v, h => by simp [enc2] at h
  | p :: r, 0, v, h => by simp [enc2] at h; subst h; rfl
  | p :: r, 1, v, h => by simp [enc2] at h; subst h; rfl
  | p :: r, i + 2, v, h => enc2_sub m n r i v (by simpa [enc2] using h)

/-- A slice of pairs of ints. -/
def PS (st : St) (v : AV) (l : List (Int × Int)) : Prop := Sl st 2 v (enc2 l)

theorem PS.form {st : St} {v : AV} {l : List (Int × Int)} (h : PS st v l) : ∃ sz b off mc nl, v = .sl sz b off l.length mc nl ∧ l.length ≤ mc ∧ (nl = true → l = []) ∧ (nl = false → sz = 2) ∧
    (∀ i p, l[i]? = some p → sz = 2 ∧ b < st.n ∧ ∃ blk, rdBlk st b = some blk ∧ blk[off + i * 2]? = some (.int .i64 p.1) ∧ blk[off + i * 2 + 1]? = some (.int .i64 p.2)) := by
  obtain ⟨sz, b, off, len, mc, nl, rfl, hl, hm, hn, hs, hb⟩ := h
  rw [enc2_length] at hl
  have hlen : len = l.length := by omega
  subst hlen
  refine ⟨sz, b, off, mc, nl, rfl, hm, fun h => List.eq_nil_of_length_eq_zero (hn h), hs, fun i p hi => ?_⟩
  have hlt := (List.getElem?_eq_some_iff.1 hi).1
  obtain ⟨h1, blk, h2, h3⟩ := hb (by omega)
  have hnf : nl = false := by cases nl with
    | true => have := hn rfl; omega
    | false => rfl
  obtain ⟨g1, g2⟩ := enc2_get hi
  refine ⟨hs hnf, h1, blk, h2, ?_, ?_⟩
  · rw [h3 _ (by rw [enc2_length]; omega)]; exact g1
  · rw [Nat.add_assoc, h3 _ (by rw [enc2_length]; omega)]; exact g2

/-- What reads as a list in a memory reads so in a greater one. -/
theorem Sl.keep {st st' : St} {sz : Nat} {v : AV} {cs : List AV} (h : Sl st sz v cs) (hn : st.n ≤ st'.n) (hk : ∀ b, b < st.n → rdBlk st' b = rdBlk st b) : Sl st' sz v cs := by
  obtain ⟨sz', b, off, len, mc, nl, rfl, hl, hm, hnl, hs, hb⟩ := h
  exact ⟨sz', b, off, len, mc, nl, rfl, hl, hm, hnl, hs, fun h0 => let ⟨h1, blk, h2, h3⟩ := hb h0; ⟨by omega, blk, by rw [hk b h1]; exact h2, h3⟩⟩
theorem Sl.push {st : St} {sz : Nat} {v : AV} {cs : List AV} (h : Sl st sz v cs) (o : AObj) : Sl (st.push o) sz v cs :=
  h.keep (by rw [St.push_n]; omega) fun b hb => rdBlk_old (by omega)
theorem Sl.pushO {st : St} {sz : Nat} {v : AV} {cs : List AV} (h : Sl st sz v cs) (o : Option AObj) : Sl (st.pushO o) sz v cs :=
  h.keep (by rw [St.pushO_n]; omega) fun b hb => rdBlk_oldO (by omega)
/-- The newest block, as a slice. -/
theorem Sl.new (st : St) (sz : Nat) {cs : List AV} {n : Nat} (h : cs.length = n * sz) (rw : Bool) : Sl (st.push (.blk cs rw)) sz (.sl sz st.n 0 n n false) cs :=
  ⟨sz, st.n, 0, n, n, false, rfl, h, Nat.le_refl _, by simp, fun _ => rfl, fun _ => ⟨by rw [St.push_n]; omega, cs, rdBlk_new rfl, fun j _ => by rw [Nat.zero_add]⟩⟩
end Gab
