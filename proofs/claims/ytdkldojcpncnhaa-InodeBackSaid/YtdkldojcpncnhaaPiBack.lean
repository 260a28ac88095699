/- InodeBack: an inode is told again of its bytes, and bytes that are one of it. -/
import Derived.Test.YtdkldojcpncnhaaPi2
set_option linter.unusedVariables false
set_option linter.unusedSimpArgs false
namespace Gab
open Go
def pB (t : List UInt8) : List Rn := if t.length % 8 = 0 ∧ RightB (parseL t) = true then parseL t else []
theorem pB_right (t : List UInt8) : RightB (pB t) = true := by
  unfold pB
  split
  · rename_i h; exact h.2
  · exact rightB_nil
/-- What bytes tell. -/
def kindB (s : List UInt8) : Int := match s[2]? with
  | some b => (b.toNat : Int)
  | none => 0
def parsedI (s : List UInt8) : In := (kindB s, getN ((s.take 5).drop 3), getN ((s.take 9).drop 5), if kindB s = 1 then pB (s.drop 9) else [], if kindB s = 3 then s.drop 9 else [])
def zeroI : In := (0, 0, 0, [], [])
theorem getN_le {l : List UInt8} {k : Nat} (h : l.length ≤ k) : getN l < 256 ^ k := by
  have h1 := getN_lt l
  have e1 : (256 : Int) ^ l.length = ((256 ^ l.length : Nat) : Int) := (Int.natCast_pow 256 _).symm
  have e2 : (256 : Int) ^ k = ((256 ^ k : Nat) : Int) := (Int.natCast_pow 256 k).symm
  have h2 : (256 : Nat) ^ l.length ≤ 256 ^ k := Nat.pow_le_pow_right (by omega) h
  rw [e1] at h1
  rw [e2]; omega
theorem parsei_eq {s : List UInt8} (hs : s.length ≤ 400000) : inode_Parse s = some (if 9 ≤ s.length ∧ textI (parsedI s) (getN (s.take 2)) = s then (getN (s.take 2), parsedI s, 0) else (0, zeroI, 4)) := by
  unfold inode_Parse
  by_cases h9 : (s.length : Int) < 9
  · rw [if_pos h9, if_neg (by omega)]; rfl
  · rw [if_neg h9]
    have hb : s[2]? = some (s[2]'(by omega)) := List.getElem?_eq_getElem (by omega)
    have hpk : parsedI s = (((s[2]'(by omega)).toNat : Int), getN ((s.take 5).drop 3), getN ((s.take 9).drop 5), if ((s[2]'(by omega)).toNat : Int) = 1 then pB (s.drop 9) else [], if ((s[2]'(by omega)).toNat : Int) = 3 then s.drop 9 else []) := by
      unfold parsedI kindB
      simp only [hb]
    rw [hpk]
    generalize s[2]'(by omega) = k at hb
    have c1 : cutL s 0 2 = some (s.take 2) := by rw [cutL_ok (by omega) (by omega) (by omega)]; rfl
    have c2 : cutL s 3 5 = some ((s.take 5).drop 3) := by rw [cutL_ok (by omega) (by omega) (by omega)]; rfl
    have c3 : cutL s 5 9 = some ((s.take 9).drop 5) := by rw [cutL_ok (by omega) (by omega) (by omega)]; rfl
    have c4 : cutL s 9 (s.length : Int) = some (s.drop 9) := by
      rw [cutL_ok (by omega) (by omega) (by omega), show ((s.length : Int)).toNat = s.length by omega, List.take_length]; rfl
    have r2 : rd s 2 = some k := rd_ok (i := 2) hb
    have l1 : (s.take 2).length ≤ 2 := by rw [List.length_take]; omega
    have l2 : ((s.take 5).drop 3).length ≤ 2 := by rw [List.length_drop, List.length_take]; omega
    have l3 : ((s.take 9).drop 5).length ≤ 4 := by rw [List.length_drop, List.length_take]; omega
    have g1 := getN_le l1; have g2 := getN_le l2; have g3 := getN_le l3
    have n1 := getN_nn (s.take 2); have n2 := getN_nn ((s.take 5).drop 3); have n3 := getN_nn ((s.take 9).drop 5)
    rw [show (256 : Int) ^ 2 = 65536 from rfl] at g1 g2
    rw [show (256 : Int) ^ 4 = 4294967296 from rfl] at g3
    rw [c1, Option.bind_some, get_N (by omega), Option.bind_some, r2, Option.bind_some, c2, Option.bind_some, c3, Option.bind_some, get_N (by omega), Option.bind_some, get_N (by omega), Option.bind_some, w64 (n := getN (s.take 2)) (by omega) (by omega), w64 (n := getN ((s.take 5).drop 3)) (by omega) (by omega), w64 (n := getN ((s.take 9).drop 5)) (by omega) (by omega)]
    generalize getN ((s.take 5).drop 3) = lk at g2 n2
    generalize getN ((s.take 9).drop 5) = sz at g3 n3
    generalize getN (s.take 2) = n at g1 n1
    have hrb := pB_right (s.drop 9)
    have hbl := (rightB_iff.1 hrb).len
    have h7 : ∀ (z : In), z.2.2.2.1.length ≤ 64 → z.2.2.1 < 4294967296 → ∀ z3, inode_Parse_j7 s n z3 z = some (if 9 ≤ s.length ∧ textI z n = s then (n, z, 0) else (0, zeroI, 4)) := by
      intro z hz1 hz2 z3
      unfold inode_Parse_j7
      rw [texti_eq (by omega) (by omega), Option.bind_some]
      by_cases ht : textI z n = s
      · rw [if_pos ht, if_pos ⟨by omega, ht⟩]
      · rw [if_neg ht, if_neg (fun h => ht h.2)]; rfl
    unfold inode_Parse_j4
    simp only
    by_cases k1 : (k.toNat : Int) = 1
    · rw [if_pos k1, if_pos k1, if_neg (show ¬ (k.toNat : Int) = 3 by omega), c4, Option.bind_some, parse_eq (by rw [List.length_drop]; omega), Option.bind_some]
      have : (if (s.drop 9).length % 8 = 0 ∧ RightB (parseL (s.drop 9)) = true then (parseL (s.drop 9), (0 : Int)) else ([], 4)).1 = pB (s.drop 9) := by unfold pB; split <;> rfl
      rw [this]
      exact h7 ((k.toNat : Int), lk, sz, pB (s.drop 9), []) (by omega) (by omega) _
    · rw [if_neg k1, if_neg k1]
      by_cases k3 : (k.toNat : Int) = 3
      · rw [if_pos k3, if_pos k3, c4, Option.bind_some]
        exact h7 ((k.toNat : Int), lk, sz, [], s.drop 9) (by simp) (by omega) _
      · rw [if_neg k3, if_neg k3]
        exact h7 ((k.toNat : Int), lk, sz, [], []) (by simp) (by omega) _
theorem parsed_bytes {x : In} (h : RightI x = true) {n : Int} (h0 : 0 ≤ n) (h1 : n ≤ 65535) : getN ((bytesI x n).take 2) = n ∧ parsedI (bytesI x n) = x ∧ 9 ≤ (bytesI x n).length ∧ (bytesI x n).length ≤ 1000 := by
  obtain ⟨b1, b2, b3, b4, b5, b6, b7, b8, b9, b10, b11, b12⟩ := right_bd h
  obtain ⟨k, lk, sz, bl, tg⟩ := x
  simp only at b1 b2 b3 b4 b5 b6 b7 b8 b9 b10 b11 b12
  have p1 := getN_putN 2 n h0 (by rw [show (256 : Int) ^ 2 = 65536 from rfl]; omega)
  have p2 := getN_putN 2 lk b5 (by rw [show (256 : Int) ^ 2 = 65536 from rfl]; omega)
  have p3 := getN_putN 4 sz b2 (by rw [show (256 : Int) ^ 4 = 4294967296 from rfl]; omega)
  have q1 := putN_len 2 n; have q2 := putN_len 2 lk; have q3 := putN_len 4 sz; have q4 := textL_len (l := bl)
  have q5 : (bytesOf [k]).length = 1 := rfl
  have e : bytesI (k, lk, sz, bl, tg) n = putN 2 n ++ (bytesOf [k] ++ (putN 2 lk ++ (putN 4 sz ++ (textL bl ++ tg)))) := by unfold bytesI; simp only [List.append_assoc]
  have hlen : (bytesI (k, lk, sz, bl, tg) n).length = 9 + 8 * bl.length + tg.length := by rw [e]; simp only [List.length_append]; omega
  have t2 : (bytesI (k, lk, sz, bl, tg) n).take 2 = putN 2 n := by rw [e, List.take_append_of_le_length (by omega), List.take_of_length_le (by omega)]
  have hk : (bytesI (k, lk, sz, bl, tg) n)[2]? = some (UInt8.ofNat k.toNat) := by
    rw [e, List.getElem?_append_right (by omega), q1, List.getElem?_append_left (by rw [q5]; omega)]; rfl
  have d3 : (bytesI (k, lk, sz, bl, tg) n).drop 3 = putN 2 lk ++ (putN 4 sz ++ (textL bl ++ tg)) := by
    rw [e, show (3 : Nat) = 2 + 1 from rfl, ← List.drop_drop, List.drop_left' q1, List.drop_left' q5]
  have d5 : (bytesI (k, lk, sz, bl, tg) n).drop 5 = putN 4 sz ++ (textL bl ++ tg) := by
    rw [show (5 : Nat) = 3 + 2 from rfl, ← List.drop_drop, d3, List.drop_left' q2]
  have d9 : (bytesI (k, lk, sz, bl, tg) n).drop 9 = textL bl ++ tg := by
    rw [show (9 : Nat) = 5 + 4 from rfl, ← List.drop_drop, d5, List.drop_left' q3]
  have t5 : ((bytesI (k, lk, sz, bl, tg) n).take 5).drop 3 = putN 2 lk := by
    rw [List.drop_take, d3, List.take_append_of_le_length (by omega), List.take_of_length_le (by omega)]
  have t9 : ((bytesI (k, lk, sz, bl, tg) n).take 9).drop 5 = putN 4 sz := by
    rw [List.drop_take, d5, List.take_append_of_le_length (by omega), List.take_of_length_le (by omega)]
  refine ⟨by rw [t2]; exact p1, ?_, by omega, by omega⟩
  have hkk : ((UInt8.ofNat k.toNat).toNat : Int) = k := ofNat_nat (by omega) (by omega)
  unfold parsedI kindB
  simp only [hk, hkk, t5, t9, p2, p3, d9]
  have r := rightB_iff.1 b9
  by_cases k1 : k = 1
  · have ht := b10 k1
    subst ht
    rw [if_pos k1, if_neg (by omega), List.append_nil]
    unfold pB
    rw [parse_text fun e he => by have := r.bd e he; omega, if_pos ⟨by omega, b9⟩]
  · have hbl := b11 k1
    subst hbl
    rw [if_neg k1]
    by_cases k3 : k = 3
    · rw [if_pos k3]; rfl
    · rw [if_neg k3, b12 (by omega)]
theorem back_j3 (s : List UInt8) : gabionlaw16_InodeBack_j3 s false = some true := by
  unfold gabionlaw16_InodeBack_j3
  rw [if_neg (by simp), show (400 : Int) = ((400 : Nat) : Int) from rfl, cut_to, Option.bind_some]
  have hl : (s.take 400).length ≤ 400 := by rw [List.length_take]; omega
  generalize s.take 400 = s at hl
  rw [parsei_eq (by omega), Option.bind_some]
  by_cases h : 9 ≤ s.length ∧ textI (parsedI s) (getN (s.take 2)) = s
  · rw [if_pos h]
    simp only [if_true]
    have hr : RightI (parsedI s) = true := by
      have h2 := h.2
      unfold textI at h2
      split at h2
      · rename_i hh; exact hh.1
      · rw [← h2] at h; simp at h
    obtain ⟨b1, b2, b3, _⟩ := right_bd hr
    rw [texti_eq (by omega) (by omega), Option.bind_some, if_pos h.2, righti_eq (by omega) (by omega), Option.bind_some, if_pos hr]
  · rw [if_neg h]
    simp only
    rw [if_neg (by decide), if_pos trivial, if_pos trivial, equal_eq (by simp [zeroI]), Option.bind_some]; exact congrArg some (decide_eq_true rfl)
theorem InodeBack_pure (a0 : In) (w0 : (Lit.int IntKind.u8 a0.1).wf = true ∧ (Lit.int IntKind.i64 a0.2.1).wf = true ∧ (Lit.int IntKind.i64 a0.2.2.1).wf = true ∧ ((∀ x ∈ a0.2.2.2.1, (Lit.int IntKind.i64 x.1).wf = true ∧ (Lit.int IntKind.i64 x.2).wf = true) ∧ a0.2.2.2.1.length ≤ 9223372036854775807) ∧ a0.2.2.2.2.length ≤ 9223372036854775807)
    (a1 : Int) (w1 : (Lit.int IntKind.u16 a1).wf = true) (a2 : List UInt8) (z2 : a2.length ≤ 9223372036854775807) : gabionlaw16_InodeBack a0 a1 a2 = some true := by
  have hk := bounds_u8 w0.1
  have h1 := bounds_u16 w1
  obtain ⟨y, hy, hr⟩ := tame_ok hk.1 hk.2
  obtain ⟨b1, b2, b3, b4, _⟩ := right_bd hr
  obtain ⟨p1, p2, p3, p4⟩ := parsed_bytes hr h1.1 h1.2
  have ht : textI y a1 = bytesI y a1 := by unfold textI; rw [if_pos ⟨hr, h1.1, h1.2⟩]
  have hp : inode_Parse (bytesI y a1) = some (a1, y, 0) := by rw [parsei_eq (by omega), p1, p2, ht, if_pos ⟨p3, rfl⟩]
  unfold gabionlaw16_InodeBack
  rw [hy, Option.bind_some, of_eq (by omega), Option.bind_some, w64 (by omega) (by omega), texti_eq (by omega) (by omega), Option.bind_some, ht, hp, Option.bind_some, inode_wakes, Option.bind_some, if_pos rfl]
  simp only
  rw [if_neg (by simp), if_neg (by simp), equal_eq (by omega), Option.bind_some, decide_eq_true rfl]
  exact back_j3 a2
end Gab
