/- A range over a string; a scope of labels whence nobody jumps; runes. -/
import Derived.Test.YtcdldgoehoopmaaDoorHi
import Derived.Scope
set_option linter.unusedSimpArgs false
set_option linter.unusedVariables false
namespace Gab
open Go
section
variable {P : Program} {N n0 : Nat} {Q : Post} {fr : Fr} {st : St} {k : List It} {R : Post} {B : Kn} {A L : Own}
theorem AX_goto {l : Nat} : ∀ {k : List It} {fr : Fr} {st : St}, AX P N n0 R k (.goto l) fr st → R (.goto l) fr st
  | [], _, _, h => h
  | .code _ :: k, _, _, h => AX_goto (k := k) h
  | .lp _ :: k, _, _, h => AX_goto (k := k) h
  | .blk _ :: k, _, _, h => AX_goto (k := k) h
theorem WX.scope {rs : List ResultVar} {Q : AV → St → Prop} {c : Code} (h : WX P N n0 (Fin P rs n0 Q) (.code c :: k) fr B A L) : WX P N n0 (Fin P rs n0 Q) (.code (.scope c) :: k) fr B A L := fun st hl hp ρ w a hn hr hf hd =>
  wp_scope_straight (wp_mono (h st hl hp ρ w a hn hr hf hd) fun e a w he => by
    cases e with
    | goto l =>
      obtain ⟨fr', st', ρ', hq, _⟩ := he
      exact absurd (AX_goto hq) (by rintro ⟨h | h, _⟩ <;> cases h)
    | normal => exact he
    | exit i => exact he
    | ret => exact he
    | panic c => exact he
    | outgrown => exact he)
theorem MOp.rangeS {t : TypeId} {x : Operand} {ti : TI} {l : List UInt8} (ht : tinfo P t = some ti) (hk : ti.k = .str) (he : fr.ev x = .str l) :
    MOp P (.range t x) fr B A L fun v A' => ∃ bi, v = .ptr bi 0 ∧ A' = (bi, some (OV.s l 0)) :: A := fun st hl hh => by
  refine ⟨.ptr st.n 0, st.push (.siter l 0), (st.n, some (OV.s l 0)) :: A, ?_, lw_push hl _, hh.pushV hl (.s l 0), _, rfl, rfl⟩
  simp only [evOp, evRange, ht, Option.bind_some, hk, he]
theorem MOp.nextS {it : Operand} {bi pos : Nat} {l : List UInt8} (he : fr.ev it = .ptr bi 0) :
    MOp P (.next it true) fr B ((bi, some (OV.s l pos)) :: A) L fun v A' => (pos < l.length ∧ v = .tup [.bool true, .int .i64 pos, .int .i32 (Utf8.decode ⟨l.toArray⟩ pos).1] ∧ A' = (bi, some (OV.s l (pos + (Utf8.decode ⟨l.toArray⟩ pos).2))) :: A) ∨ (l.length ≤ pos ∧ v = .tup [.bool false] ∧ A' = (bi, some (OV.s l pos)) :: A) := fun st hl hh => by
  have hi := hh.own bi (OV.s l pos) List.mem_cons_self
  by_cases hlt : pos < l.length
  · refine ⟨_, st.set bi (.siter l (pos + (Utf8.decode ⟨l.toArray⟩ pos).2)), (bi, some (OV.s l (pos + (Utf8.decode ⟨l.toArray⟩ pos).2))) :: A, ?_, lw_set hl (o' := .siter l pos) (hh.lt hl (List.mem_cons_self)) _, Upd.hp (cs := OV.s l pos) (cs' := OV.s l (pos + (Utf8.decode ⟨l.toArray⟩ pos).2)) .h hh (fun i hi => set_get_old hi) (set_get_new rfl), .inl ⟨hlt, rfl, rfl⟩⟩
    simp only [evOp, he, evNextS, hi, OV.obj, if_pos hlt]
  · refine ⟨_, st, _, ?_, hl, hh, .inr ⟨by omega, rfl, rfl⟩⟩
    simp only [evOp, he, evNextS, hi, OV.obj, if_neg hlt]
end
/-! ### Runes -/
theorem ba_get {l : List UInt8} {i : Nat} (h : i < l.length) : (⟨l.toArray⟩ : ByteArray).get! i = l[i] := by
  show l.toArray[i]! = _
  simp [h]
/-- A rune of a byte from 128 on: it and all its bytes are so. -/
theorem dec_high {l : List UInt8} {pos : Nat} (h : pos < l.length) (hb : 128 ≤ (l[pos]).toNat) :
    128 ≤ (Utf8.decode ⟨l.toArray⟩ pos).1 ∧ 1 ≤ (Utf8.decode ⟨l.toArray⟩ pos).2 ∧ ∀ j b, pos ≤ j → j < pos + (Utf8.decode ⟨l.toArray⟩ pos).2 → l[j]? = some b → 128 ≤ b.toNat := by
  have h0 : ∀ b, l[pos]? = some b → 128 ≤ b.toNat := fun b he => by
    rw [List.getElem?_eq_getElem h] at he; simp at he; subst he; exact hb
  have hc : ∀ k, (decide (pos + k < (⟨l.toArray⟩ : ByteArray).size) && ((⟨l.toArray⟩ : ByteArray).get! (pos + k)).toNat / 64 == 2) = true → ∀ b, l[pos + k]? = some b → 128 ≤ b.toNat := fun k hk b he => by
    simp only [Bool.and_eq_true, decide_eq_true_eq, beq_iff_eq] at hk
    obtain ⟨h1, h2⟩ := List.getElem?_eq_some_iff.1 he
    rw [ba_get h1, h2] at hk
    omega
  have hone : ∀ j b, pos ≤ j → j < pos + 1 → l[j]? = some b → 128 ≤ b.toNat := fun j b h1 h2 he => by
    obtain rfl : j = pos := by omega
    exact h0 b he
  unfold Utf8.decode
  simp only [Nat.add_zero, ba_get h]
  rw [if_neg (by omega)]
  split
  · rename_i hx
    simp only [Bool.and_eq_true] at hx
    split
    · refine ⟨by omega, by omega, fun j b h1 h2 he => ?_⟩
      rcases (show j = pos ∨ j = pos + 1 by omega) with rfl | rfl
      · exact h0 b he
      · exact hc 1 (by simpa using hx.2) b he
    · exact ⟨by decide, by decide, hone⟩
  · split
    · rename_i hx
      simp only [Bool.and_eq_true] at hx
      split
      · rename_i hy
        simp only [Bool.and_eq_true, decide_eq_true_eq] at hy
        refine ⟨by omega, by omega, fun j b h1 h2 he => ?_⟩
        rcases (show j = pos ∨ j = pos + 1 ∨ j = pos + 2 by omega) with rfl | rfl | rfl
        · exact h0 b he
        · exact hc 1 (by simpa using hx.1.2) b he
        · exact hc 2 (by simpa using hx.2) b he
      · exact ⟨by decide, by decide, hone⟩
    · split
      · rename_i hx
        simp only [Bool.and_eq_true] at hx
        split
        · rename_i hy
          simp only [Bool.and_eq_true, decide_eq_true_eq] at hy
          refine ⟨by omega, by omega, fun j b h1 h2 he => ?_⟩
          rcases (show j = pos ∨ j = pos + 1 ∨ j = pos + 2 ∨ j = pos + 3 by omega) with rfl | rfl | rfl | rfl
          · exact h0 b he
          · exact hc 1 (by simpa using hx.1.1.2) b he
          · exact hc 2 (by simpa using hx.1.2) b he
          · exact hc 3 (by simpa using hx.2) b he
        · exact ⟨by decide, by decide, hone⟩
      · exact ⟨by decide, by decide, hone⟩
theorem dec_low {l : List UInt8} {pos : Nat} (h : pos < l.length) (hb : (l[pos]).toNat < 128) : Utf8.decode ⟨l.toArray⟩ pos = ((l[pos]).toNat, 1) := by
  unfold Utf8.decode
  simp only [Nat.add_zero, ba_get h]
  rw [if_pos (by omega)]
end Gab
