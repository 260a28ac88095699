/- The reference of alloc: a list of truths, and the set that it stands for. -/
import Derived.Test.YtdkldojcpncnhaaPa5
import Derived.Test.YtdkldojcpncnhaaPaAll
set_option linter.unusedVariables false
set_option linter.unusedSimpArgs false
namespace Gab
open Go

/-- A set and its list of truths. -/
structure Rep (l : List Ex) (m : List Bool) : Prop where
  gd : Gd (m.length : Int) 0 l
  fr : ∀ b : Nat, b < m.length → (m[b]? = some true ↔ Fr' l b)

theorem Gd.hi {h h' : Int} (hh : h ≤ h') : ∀ {l : List Ex} {lo : Int}, Gd h lo l → Gd h' lo l
  | [], _, _ => trivial
  | e :: r, lo, hg => ⟨hg.1, hg.2.1, by have := hg.2.2.1; omega, Gd.hi hh hg.2.2.2⟩
theorem Gd.lastOf {h : Int} : ∀ {l : List Ex} {lo : Int} {e : Ex}, Gd h lo l → e ∈ l → e.1 + e.2 = h → ∃ X, l = X ++ [e]
  | [], _, _, _, he, _ => by simp at he
  | a :: r, lo, e, hg, he, hh => by
    rcases List.mem_cons.1 he with rfl | he
    · cases r with
      | nil => exact ⟨[], rfl⟩
      | cons b r =>
        have := hg.2.2.2.1; have := hg.2.2.2.2.1; have := hg.2.2.2.2.2.1
        omega
    · obtain ⟨X, rfl⟩ := Gd.lastOf hg.2.2.2 he hh
      exact ⟨a :: X, rfl⟩
theorem Gd.grow {h : Int} : ∀ {X : List Ex} {lo : Int} {e : Ex}, Gd h lo (X ++ [e]) → e.1 + e.2 = h → Gd (h + 1) lo (X ++ [(e.1, e.2 + 1)])
  | [], lo, e, hg, he => ⟨hg.1, by have := hg.2.1; simp only; omega, by simp only; omega, trivial⟩
  | a :: X, lo, e, hg, he => ⟨hg.1, hg.2.1, by have := hg.2.2.1; omega, Gd.grow hg.2.2.2 he⟩
theorem Gd.more {h : Int} : ∀ {X : List Ex} {lo : Int}, Gd h lo X → lo ≤ h → (∀ e ∈ X, e.1 + e.2 < h) → Gd (h + 1) lo (X ++ [(h, 1)])
  | [], lo, hg, hl, _ => ⟨hl, by simp, by simp, trivial⟩
  | a :: X, lo, hg, hl, hx => ⟨hg.1, hg.2.1, by have := hg.2.2.1; omega, Gd.more hg.2.2.2 (by have := hx a (by simp); omega) fun e he => hx e (by simp [he])⟩

theorem extents_eq {l : List Ex} {m : List Bool} (h : Rep l m) (hm : m.length ≤ 70000) : gabionref14_Extents m = some l := by
  obtain ⟨e, he, hg, hf⟩ := iter_of (step := fun (s : (List Ex) × Int) => gabionref14_Extents_l0 m s.1 s.2)
    (fun n s => ∃ (i : Nat) (x : List Ex), s = (x, (i : Int)) ∧ i + n = m.length ∧ Gd i 0 x ∧ ∀ b : Nat, b < i → (m[b]? = some true ↔ Fr' x b)) (fun e => Gd (m.length : Int) 0 e ∧ ∀ b : Nat, b < m.length → (m[b]? = some true ↔ Fr' e b)) (fun n s ⟨i, x, hs, hn, hg, hf⟩ => by
      subst hs
      have hlen := hg.len (by omega)
      cases n with
      | zero =>
        have : i = m.length := by omega
        subst this
        refine .inr ⟨x, ?_, hg, hf⟩
        show gabionref14_Extents_l0 m x _ = _
        unfold gabionref14_Extents_l0
        rw [if_neg (by omega)]
      | succ n =>
        have hlt : i < m.length := by omega
        have hx : m[i]? = some m[i] := List.getElem?_eq_getElem hlt
        have hw : wi64 ((i : Int) + 1) = ((i + 1 : Nat) : Int) := w64 (by omega) (by omega)
        have hfi : ¬ Fr' x i := fun ⟨y, hy, hy1, hy2⟩ => by have := hg.mem y hy; omega
        left
        cases hv : m[i] with
        | false =>
          rw [hv] at hx
          refine ⟨n, (x, ((i + 1 : Nat) : Int)), rfl, ?_, i + 1, x, rfl, by omega, hg.hi (by omega), fun b hb => ?_⟩
          · show gabionref14_Extents_l0 m x i = _
            unfold gabionref14_Extents_l0
            rw [if_pos (by omega), rd_ok hx, Option.bind_some, if_neg (by simp)]
            unfold gabionref14_Extents_j6
            rw [hw]
          · by_cases hbi : b = i
            · subst hbi
              rw [hx]
              exact ⟨fun h => (by cases h), fun h => absurd h hfi⟩
            · exact hf b (by omega)
        | true =>
          rw [hv] at hx
          by_cases hc : 0 < i ∧ m[i - 1]? = some true
          · obtain ⟨hc0, hc1⟩ := hc
            obtain ⟨p, hp, hp1, hp2⟩ := (hf (i - 1) (by omega)).1 hc1
            have hpm := hg.mem p hp
            obtain ⟨X, rfl⟩ := hg.lastOf hp (by omega)
            have hlast : (X ++ [p])[X.length]? = some p := by simp
            have hl : ((X ++ [p]).length : Int) = X.length + 1 := by simp
            have hi1 : wi64 (((X ++ [p]).length : Int) - 1) = (X.length : Int) := by
              rw [hl, show (X.length : Int) + 1 - 1 = X.length by omega]; exact w64 (by omega) (by omega)
            refine ⟨n, (X ++ [(p.1, p.2 + 1)], ((i + 1 : Nat) : Int)), rfl, ?_, i + 1, _, rfl, by omega, hg.grow (by omega), fun b hb => ?_⟩
            · show gabionref14_Extents_l0 m (X ++ [p]) i = _
              unfold gabionref14_Extents_l0
              rw [if_pos (by omega), rd_ok hx, Option.bind_some, if_pos rfl, if_pos (by omega), w64 (n := (i : Int) - 1) (by omega) (by omega), show (i : Int) - 1 = ((i - 1 : Nat) : Int) by omega, rd_ok hc1, Option.bind_some]
              unfold gabionref14_Extents_j8
              rw [if_pos rfl, hi1, rd_ok hlast, Option.bind_some, Option.bind_some, w64 (n := p.2 + 1) (by omega) (by omega)]
              unfold gabionref14_Extents_j6
              rw [hw]
              congr 3
              simp
            · rw [Fr_app, Fr_cons]
              simp only
              by_cases hbi : b = i
              · subst hbi
                rw [hx]
                exact ⟨fun _ => .inr (.inl ⟨by omega, by omega⟩), fun _ => rfl⟩
              · rw [hf b (by omega), Fr_app, Fr_cons]
                have hN : Fr' [] (b : Int) ↔ False := ⟨fun h => Fr_nil h, fun h => h.elim⟩
                rw [hN, or_false, or_false]
                constructor
                · rintro (h | h)
                  · exact .inl h
                  · exact .inr ⟨h.1, by omega⟩
                · rintro (h | h)
                  · exact .inl h
                  · exact .inr ⟨h.1, by omega⟩
          · have hno : ∀ e ∈ x, e.1 + e.2 < i := fun e he => by
              have hem := hg.mem e he
              rcases Int.lt_or_le (e.1 + e.2) i with hl | hl
              · exact hl
              · exfalso
                have h0 : 0 < i := by omega
                exact hc ⟨h0, (hf (i - 1) (by omega)).2 ⟨e, he, by omega, by omega⟩⟩
            refine ⟨n, (x ++ [((i : Int), 1)], ((i + 1 : Nat) : Int)), rfl, ?_, i + 1, _, rfl, by omega, hg.more (by omega) hno, fun b hb => ?_⟩
            · have tail : gabionref14_Extents_j8 m x i false = some (.inl (x ++ [((i : Int), 1)], ((i + 1 : Nat) : Int))) := by
                unfold gabionref14_Extents_j8
                rw [if_neg (by simp), appL_ok (by simp only [List.length_cons, List.length_nil]; omega), Option.bind_some]
                unfold gabionref14_Extents_j6
                rw [hw]
              show gabionref14_Extents_l0 m x i = _
              unfold gabionref14_Extents_l0
              rw [if_pos (by omega), rd_ok hx, Option.bind_some, if_pos rfl]
              by_cases h0 : 0 < i
              · have hp : m[i - 1]? = some m[i - 1] := List.getElem?_eq_getElem (by omega)
                have hpf : m[i - 1] = false := by
                  cases hq : m[i - 1] with
                  | false => rfl
                  | true => exact absurd ⟨h0, by rw [hp, hq]⟩ hc
                rw [if_pos (by omega), w64 (n := (i : Int) - 1) (by omega) (by omega), show (i : Int) - 1 = ((i - 1 : Nat) : Int) by omega, rd_ok hp, Option.bind_some, hpf]
                exact tail
              · rw [if_neg (by omega)]
                exact tail
            · rw [Fr_app, Fr_cons]
              simp only
              by_cases hbi : b = i
              · subst hbi
                rw [hx]
                exact ⟨fun _ => .inr (.inl ⟨by omega, by omega⟩), fun _ => rfl⟩
              · rw [hf b (by omega)]
                constructor
                · exact .inl
                · rintro (h | h | h)
                  · exact h
                  · omega
                  · exact absurd h Fr_nil) (n := m.length) (d := 100000) (s := ([], 0)) ⟨0, [], rfl, by omega, trivial, fun b hb => by omega⟩ (by omega)
  unfold gabionref14_Extents
  rw [he, Option.bind_some]
  congr 1
  refine hg.uniq h.gd fun b => ?_
  constructor
  · rintro ⟨x, hx, hx1, hx2⟩
    have hm' := hg.mem x hx
    have hb : b = (b.toNat : Int) := by omega
    rw [hb, ← h.fr b.toNat (by omega), hf b.toNat (by omega)]
    exact ⟨x, hx, by omega, by omega⟩
  · rintro ⟨x, hx, hx1, hx2⟩
    have hm' := h.gd.mem x hx
    have hb : b = (b.toNat : Int) := by omega
    rw [hb, ← hf b.toNat (by omega), h.fr b.toNat (by omega)]
    exact ⟨x, hx, by omega, by omega⟩

/-- Set of the reference. -/
theorem set_arg {m : List Bool} {at_ n : Int} {v : Bool} (hm : m.length ≤ 70000) (h : ¬ MayB m.length (at_, n)) : gabionref14_Set m at_ n v = some ([], 2) := by
  unfold gabionref14_Set
  by_cases h1 : at_ < 0
  · rw [if_pos h1]; rfl
  · by_cases h2 : n < 1
    · rw [if_neg h1, if_pos h2]; rfl
    · by_cases h3 : (m.length : Int) < n
      · rw [if_neg h1, if_neg h2, if_pos h3]; rfl
      · rw [if_neg h1, if_neg h2, if_neg h3, w64 (n := (m.length : Int) - n) (by omega) (by omega), decide_eq_true (by
          unfold MayB at h; simp only at h; omega)]; rfl
theorem set_any {m : List Bool} {at_ n : Int} {v : Bool} (hm : m.length ≤ 70000) (h : MayB m.length (at_, n)) :
    ((∃ b : Nat, at_ ≤ b ∧ b < at_ + n ∧ m[b]? = some v) ∧ gabionref14_Set m at_ n v = some ([], 8)) ∨
    ((∀ b : Nat, at_ ≤ b → b < at_ + n → m[b]? ≠ some v) ∧ ∃ out, gabionref14_Set m at_ n v = some (out, 0) ∧ out.length = m.length ∧ ∀ b : Nat, b < m.length → out[b]? = if at_ ≤ b ∧ b < at_ + n then some v else m[b]?) := by
  obtain ⟨h1, h2, h3, h4⟩ := id h
  simp only at h1 h2 h3 h4
  have hj : gabionref14_Set m at_ n v = gabionref14_Set_j1 m at_ n v false := by
    unfold gabionref14_Set
    rw [if_neg (by omega), if_neg (by omega), if_neg (by omega), w64 (n := (m.length : Int) - n) (by omega) (by omega), decide_eq_false (by omega)]
  obtain ⟨e, he, hq⟩ := iter_of (step := fun (s : (List Bool) × Int) => gabionref14_Set_l0 m at_ n v s.1 s.2)
    (fun k s => ∃ (i : Nat) (x : List Bool), s = (x, (i : Int)) ∧ at_ ≤ i ∧ (i : Int) + k = at_ + n ∧ x.length = m.length ∧ (∀ b : Nat, at_ ≤ b → b < i → m[b]? ≠ some v) ∧ ∀ b : Nat, b < m.length → x[b]? = if at_ ≤ b ∧ b < i then some v else m[b]?)
    (fun e => (e = .inl ([], 8) ∧ ∃ b : Nat, at_ ≤ b ∧ b < at_ + n ∧ m[b]? = some v) ∨ ∃ out, e = .inr out ∧ (∀ b : Nat, at_ ≤ b → b < at_ + n → m[b]? ≠ some v) ∧ out.length = m.length ∧ ∀ b : Nat, b < m.length → out[b]? = if at_ ≤ b ∧ b < at_ + n then some v else m[b]?) (fun k s ⟨i, x, hs, hi, hk, hxl, hno, hx⟩ => by
      subst hs
      have hsum : wi64 (at_ + n) = at_ + n := w64 (by omega) (by omega)
      cases k with
      | zero =>
        refine .inr ⟨.inr x, ?_, .inr ⟨x, rfl, fun b hb1 hb2 => hno b hb1 (by omega), hxl, fun b hb => ?_⟩⟩
        · show gabionref14_Set_l0 m at_ n v x i = _
          unfold gabionref14_Set_l0
          rw [hsum, if_neg (by omega)]
        · rw [hx b hb]
          have : (b : Nat) < i ↔ (b : Int) < at_ + n := by omega
          simp only [this]
      | succ k =>
        have hlt : i < m.length := by omega
        have hmi : m[i]? = some m[i] := List.getElem?_eq_getElem hlt
        by_cases hv : m[i] = v
        · refine .inr ⟨.inl ([], 8), ?_, .inl ⟨rfl, i, hi, by omega, by rw [hmi, hv]⟩⟩
          show gabionref14_Set_l0 m at_ n v x i = _
          unfold gabionref14_Set_l0
          rw [hsum, if_pos (by omega), rd_ok hmi, Option.bind_some, if_pos hv]
        · left
          have hxi : x[i]? = some (x[i]'(by omega)) := List.getElem?_eq_getElem (by omega)
          refine ⟨k, (x.set i v, ((i + 1 : Nat) : Int)), rfl, ?_, i + 1, _, rfl, by omega, by omega, by simp [hxl], fun b hb1 hb2 => ?_, fun b hb => ?_⟩
          · show gabionref14_Set_l0 m at_ n v x i = _
            unfold gabionref14_Set_l0
            rw [hsum, if_pos (by omega), rd_ok hmi, Option.bind_some, if_neg hv, rd_ok hxi, Option.bind_some, w64 (n := (i : Int) + 1) (by omega) (by omega)]
            rfl
          · by_cases hbi : b = i
            · subst hbi
              rw [hmi]
              exact fun h => hv (Option.some.inj h)
            · exact hno b hb1 (by omega)
          · by_cases hbi : b = i
            · subst hbi
              rw [List.getElem?_set_self (by omega), if_pos ⟨hi, by omega⟩]
            · rw [List.getElem?_set_ne (by omega), hx b hb]
              have : (b < i) ↔ (b < i + 1) := by omega
              simp only [this]) (n := n.toNat) (d := 100000) (s := (m, at_)) ⟨at_.toNat, m, by rw [Int.toNat_of_nonneg h1], by omega, by omega, rfl, fun b hb1 hb2 => by omega, fun b hb => by rw [if_neg (by omega)]⟩ (by omega)
  rcases hq with ⟨rfl, hb⟩ | ⟨out, rfl, hno, hl, hp⟩
  · refine .inl ⟨hb, ?_⟩
    rw [hj]
    unfold gabionref14_Set_j1
    rw [if_neg (by simp), appL_ok (by simp only [List.length_nil]; omega), Option.bind_some, List.nil_append, he]
    rfl
  · refine .inr ⟨hno, out, ?_, hl, hp⟩
    rw [hj]
    unfold gabionref14_Set_j1
    rw [if_neg (by simp), appL_ok (by simp only [List.length_nil]; omega), Option.bind_some, List.nil_append, he]
    rfl

/-- The set as the law looks at it. -/
theorem same_eq {l : List Ex} {m : List Bool} (h : Rep l m) (hm : m.length ≤ 65536) : gabionlaw14_same ((m.length : Int), l) m = some true := by
  have hlen := h.gd.len (by omega)
  unfold gabionlaw14_same
  rw [extents_eq h (by omega), Option.bind_some, list_eq (by omega), Option.bind_some, if_neg (by simp)]
  unfold alloc_Set_Size
  rw [Option.bind_some, decide_eq_false (by simp)]
  unfold gabionlaw14_same_j4
  rw [if_neg (by simp)]
  have k1 : iter (fun (s : Int × Int) => gabionlaw14_same_l0 m l l ((m.length : Int), l) s.1 s.2) (l.length + 1) (0, 0) = some (.inr (tot l)) := by
    refine iter_fold (l := l) (S := fun i q => (tot q, (i : Int))) _ (fun i x hx => ?_) ?_ (Nat.lt_succ_self _)
    · have hi := (List.getElem?_eq_some_iff.1 hx).1
      have e1 : l.take (i + 1) = l.take i ++ [x] := by rw [List.take_add_one, hx]; rfl
      have hg : Gd m.length 0 (l.take (i + 1)) := Gd.app (B := l.drop (i + 1)) (by rw [List.take_append_drop]; exact h.gd)
      have ht := hg.tot (by omega)
      show gabionlaw14_same_l0 m l l ((m.length : Int), l) (tot (l.take i)) i = _
      unfold gabionlaw14_same_l0
      rw [e1, tot_app] at ht ⊢
      simp only [tot, Int.add_zero] at ht ⊢
      rw [if_pos (by omega), rd_ok hx, Option.bind_some, Option.bind_some, if_neg (by simp), Option.bind_some]
      unfold gabionlaw14_same_j10
      rw [if_neg (by simp), w64 (n := tot (l.take i) + x.2) (by omega) (by omega), w64 (n := (i : Int) + 1) (by omega) (by omega)]
      rfl
    · show gabionlaw14_same_l0 m l l ((m.length : Int), l) (tot l) l.length = _
      unfold gabionlaw14_same_l0
      rw [if_neg (by omega)]
  have k2 : iter (fun (s : Int) => gabionlaw14_same_l1 m (tot l) m ((m.length : Int), l) s) (m.length + 1) 0 = some (.inr (tot l)) := by
    refine iter_fold (l := m) (S := fun i _ => (i : Int)) _ (fun i x hx => ?_) ?_ (Nat.lt_succ_self _)
    · have hi := (List.getElem?_eq_some_iff.1 hx).1
      obtain ⟨r, hr, hri⟩ := has_eq (b := (i : Int)) h.gd (by omega) (by omega)
      have hrx : r = x := by
        have := h.fr i hi
        rw [hx] at this
        cases x <;> cases r <;> simp_all
      show gabionlaw14_same_l1 m (tot l) m ((m.length : Int), l) i = _
      unfold gabionlaw14_same_l1
      rw [if_pos (by omega), rd_ok hx, Option.bind_some, hr, Option.bind_some, if_pos hrx, w64 (n := (i : Int) + 1) (by omega) (by omega)]
      rfl
    · show gabionlaw14_same_l1 m (tot l) m ((m.length : Int), l) m.length = _
      unfold gabionlaw14_same_l1
      rw [if_neg (by omega)]
  have out : ∀ b : Int, (b < 0 ∨ m.length ≤ b) → alloc_Set_Has ((m.length : Int), l) b = some false := fun b hb => by
    obtain ⟨r, hr, hri⟩ := has_eq (b := b) h.gd (by omega) (by omega)
    rw [hr]
    cases r with
    | false => rfl
    | true =>
      obtain ⟨x, hx, hx1, hx2⟩ := hri.1 rfl
      have := h.gd.mem x hx
      omega
  rw [k1, Option.bind_some]
  show ((iter (fun (s : Int) => gabionlaw14_same_l1 m (tot l) m ((m.length : Int), l) s) (m.length + 1) 0).bind _) = _
  rw [k2, Option.bind_some]
  show ((alloc_Set_Free ((m.length : Int), l)).bind _) = _
  rw [free_eq h.gd (by omega) (by omega), Option.bind_some, if_pos rfl, out (-1) (by omega), Option.bind_some, if_neg (by simp), out m.length (by omega)]
  rfl
end Gab
