/- (for seats without the ext theory) Numbers as bytes, of any size up to eight. -/
import Derived.Test.YtcdldgoehoopmaaDoorFd
import Derived.Test.YtcdldgoehoopmaaDoorPl
import Derived.Handy
set_option linter.unusedVariables false
set_option linter.unusedSimpArgs false
namespace Gab
open Go

theorem u8_lt (a : UInt8) : a.toNat < 256 := a.toNat_lt
theorem ofNat_nat {n : Int} (h0 : 0 ≤ n) (h1 : n < 256) : ((UInt8.ofNat n.toNat).toNat : Int) = n := by
  rw [UInt8.toNat_ofNat']; omega
theorem wu8_eq (n : Int) : wu8 n = n % 256 := IntKind.wrap_u8 n
def putI : Nat → Int → List Int
  | 0, _ => []
  | k + 1, v => v % 256 :: putI k (v / 256)
def putN : Nat → Int → List UInt8
  | 0, _ => []
  | k + 1, v => UInt8.ofNat (v % 256).toNat :: putN k (v / 256)
def getN : List UInt8 → Int
  | [] => 0
  | a :: r => (a.toNat : Int) + 256 * getN r
theorem putI_bytes : ∀ (k : Nat) (v : Int), bytesOf (putI k v) = putN k v
  | 0, _ => rfl
  | k + 1, v => by
    have := putI_bytes k (v / 256)
    simp only [putI, putN, bytesOf, List.map_cons] at this ⊢
    rw [this]
theorem putN_len : ∀ (k : Nat) (v : Int), (putN k v).length = k
  | 0, _ => rfl
  | k + 1, v => by rw [putN, List.length_cons, putN_len]
theorem put_stepN {x : Int} {l : List Int} {i k : Nat} (hx : 0 ≤ x) (hi : i < k) (hk : k ≤ 8) (hl : l.length ≤ 8) : le_Put_l0 k x l i = some (.inl (x / 256, l ++ [x % 256], ((i + 1 : Nat) : Int))) := by
  unfold le_Put_l0
  rw [if_pos (by omega), appL_ok (by simp only [List.length_cons, List.length_nil]; omega), Option.bind_some, wu8_eq, w64 (by omega) (by omega)]
  have : shrK .u64 x 8 = x / 256 := by
    show x.fdiv (2 ^ (min (8 : Int).toNat 64)) = x / 256
    rw [Int.fdiv_eq_ediv_of_nonneg _ (by decide)]; rfl
  rw [this]; rfl
theorem put_N {v : Int} {k : Nat} (h0 : 0 ≤ v) (hk : k ≤ 8) : le_Put v k = some (putN k v) := by
  have key : ∀ (m i d : Nat) (v : Int) (l : List Int), 0 ≤ v → i + m = k → l.length ≤ i → m < d → iter (fun (s : Int × (List Int) × Int) => le_Put_l0 k s.1 s.2.1 s.2.2) d (v, l, i) = some (l ++ putI m v) := by
    intro m
    induction m with
    | zero =>
      intro i d v l hv hi hl hd
      obtain ⟨d, rfl⟩ : ∃ n, d = n + 1 := ⟨d - 1, by omega⟩
      rw [putI, List.append_nil]
      exact iter_inr (by show le_Put_l0 k v l (i : Int) = _; unfold le_Put_l0; rw [if_neg (by omega)])
    | succ m ih =>
      intro i d v l hv hi hl hd
      obtain ⟨d, rfl⟩ : ∃ n, d = n + 1 := ⟨d - 1, by omega⟩
      rw [iter_inl (s' := (v / 256, l ++ [v % 256], ((i + 1 : Nat) : Int))) (put_stepN (x := v) (l := l) (i := i) hv (by omega) hk (by omega)), ih (i + 1) d (v / 256) _ (by omega) (by omega) (by simp; omega) (by omega)]
      rw [putI, List.append_assoc]; rfl
  unfold le_Put
  have hm : mn (mx (k : Int) 0) 8 = (k : Int) := by
    unfold mn mx
    split <;> split <;> omega
  rw [hm, show ((k : Int).toNat + 1) = k + 1 from by omega]
  have := key k 0 (k + 1) v [] h0 (by omega) (by simp) (by omega)
  rw [show (0 : Int) = ((0 : Nat) : Int) from rfl, this, Option.bind_some, List.nil_append, putI_bytes]
theorem rput_stepN {x : Int} {l : List Int} {i k : Nat} (hx : 0 ≤ x) (hx2 : x ≤ 18446744073709551615) (hi : i < k) (hk : k ≤ 8) (hl : l.length ≤ 8) : gabionref01_Put_l0 k x l i = some (.inl (x / 256, l ++ [x % 256], ((i + 1 : Nat) : Int))) := by
  unfold gabionref01_Put_l0 gabionref01_Put_j3
  rw [if_pos (by omega), if_pos (by simp; omega), appL_ok (by simp only [List.length_cons, List.length_nil]; omega), Option.bind_some, wu8_eq, w64 (by omega) (by omega), Int.tmod_eq_emod_of_nonneg hx, Int.tdiv_eq_ediv_of_nonneg hx, Int.emod_emod,
    show wu64 (x / 256) = x / 256 from IntWalk.u64_in _ ⟨by omega, by omega⟩]; rfl
theorem rput_N {v : Int} {k : Nat} (h0 : 0 ≤ v) (h1 : v ≤ 18446744073709551615) (hk : k ≤ 8) : gabionref01_Put v k = some (putN k v) := by
  have key : ∀ (m i d : Nat) (v : Int) (l : List Int), 0 ≤ v → v ≤ 18446744073709551615 → i + m = k → l.length ≤ i → m < d → iter (fun (s : Int × (List Int) × Int) => gabionref01_Put_l0 k s.1 s.2.1 s.2.2) d (v, l, i) = some (l ++ putI m v) := by
    intro m
    induction m with
    | zero =>
      intro i d v l hv hv2 hi hl hd
      obtain ⟨d, rfl⟩ : ∃ n, d = n + 1 := ⟨d - 1, by omega⟩
      rw [putI, List.append_nil]
      refine iter_inr ?_
      show gabionref01_Put_l0 k v l (i : Int) = _
      unfold gabionref01_Put_l0 gabionref01_Put_j3
      rw [if_neg (by omega), if_neg (by simp)]
    | succ m ih =>
      intro i d v l hv hv2 hi hl hd
      obtain ⟨d, rfl⟩ : ∃ n, d = n + 1 := ⟨d - 1, by omega⟩
      rw [iter_inl (s' := (v / 256, l ++ [v % 256], ((i + 1 : Nat) : Int))) (rput_stepN (x := v) (l := l) (i := i) hv hv2 (by omega) hk (by omega)), ih (i + 1) d (v / 256) _ (by omega) (by omega) (by omega) (by simp; omega) (by omega)]
      rw [putI, List.append_assoc]; rfl
  unfold gabionref01_Put
  have := key k 0 100000 v [] h0 h1 (by omega) (by simp) (by omega)
  rw [show (0 : Int) = ((0 : Nat) : Int) from rfl, this, Option.bind_some, List.nil_append, putI_bytes]
theorem or_byteN {v b : Int} (h0 : 0 ≤ v) (h1 : v < 72057594037927936) (g0 : 0 ≤ b) (g1 : b < 256) : bitsA .or .u64 (shlK .u64 v 8) (wu64 b) = v * 256 + b := by
  have e1 : shlK .u64 v 8 = v * 256 := by
    show IntKind.u64.wrap (v * 2 ^ (min (8 : Int).toNat 64)) = _
    rw [show (2 : Int) ^ (min (8 : Int).toNat 64) = 256 from rfl]
    exact IntWalk.u64_in _ ⟨by omega, by omega⟩
  have e2 : wu64 b = b := IntWalk.u64_in _ ⟨by omega, by omega⟩
  rw [e1, e2]
  unfold bitsA
  simp only
  obtain ⟨n, rfl⟩ := Int.eq_ofNat_of_zero_le h0
  obtain ⟨m, rfl⟩ := Int.eq_ofNat_of_zero_le g0
  have hn : (BitVec.ofInt IntKind.u64.bits ((n : Int) * 256) ||| BitVec.ofInt IntKind.u64.bits (m : Int)).toNat = n * 256 + m := by
    rw [BitVec.toNat_or, BitVec.toNat_ofInt, BitVec.toNat_ofInt]
    have a1 : (((n : Int) * 256) % ((2 ^ IntKind.u64.bits : Nat) : Int)).toNat = n <<< 8 := by
      rw [Nat.shiftLeft_eq]
      show (((n : Int) * 256) % 18446744073709551616).toNat = n * 256
      omega
    have a2 : ((m : Int) % ((2 ^ IntKind.u64.bits : Nat) : Int)).toNat = m := by
      show ((m : Int) % 18446744073709551616).toNat = m
      omega
    rw [a1, a2, ← Nat.shiftLeft_add_eq_or_of_lt (by omega), Nat.shiftLeft_eq]
  rw [hn]
  rw [show IntKind.wrap .u64 ((n * 256 + m : Nat) : Int) = ((n * 256 + m : Nat) : Int) from IntWalk.u64_in _ ⟨by omega, by omega⟩]
  omega
theorem getN_nn : ∀ l : List UInt8, 0 ≤ getN l
  | [] => Int.le_refl _
  | a :: r => by have := getN_nn r; simp only [getN]; omega
theorem getN_lt : ∀ l : List UInt8, getN l < 256 ^ l.length
  | [] => by simp [getN]
  | a :: r => by
    have := getN_lt r
    have h2 := u8_lt a
    simp only [getN, List.length_cons, Int.pow_succ]
    generalize (256 : Int) ^ r.length = p at *
    omega
theorem get_N {l : List UInt8} (hl : l.length ≤ 8) : le_Get l = some (getN l) := by
  have key : ∀ (m d : Nat), m ≤ l.length → m < d → iter (fun (s : Int × Int) => le_Get_l0 l s.1 s.2) d (getN (l.drop m), (m : Int) - 1) = some (getN l) := by
    intro m
    induction m with
    | zero =>
      intro d hm hd
      obtain ⟨d, rfl⟩ : ∃ n, d = n + 1 := ⟨d - 1, by omega⟩
      refine iter_inr ?_
      show le_Get_l0 l (getN (l.drop 0)) (((0 : Nat) : Int) - 1) = _
      unfold le_Get_l0
      rw [if_neg (by omega)]; rfl
    | succ m ih =>
      intro d hm hd
      obtain ⟨d, rfl⟩ : ∃ n, d = n + 1 := ⟨d - 1, by omega⟩
      have hx : l[m]? = some (l[m]'(by omega)) := List.getElem?_eq_getElem (by omega)
      have hd1 : l.drop m = l[m]'(by omega) :: l.drop (m + 1) := List.drop_eq_getElem_cons (by omega)
      have h1 := getN_lt (l.drop (m + 1))
      have h0 := getN_nn (l.drop (m + 1))
      have h2 : (256 : Int) ^ (l.drop (m + 1)).length ≤ 256 ^ 7 := by
        have : (256 : Nat) ^ (l.drop (m + 1)).length ≤ 256 ^ 7 := Nat.pow_le_pow_right (by omega) (by rw [List.length_drop]; omega)
        have e1 : (256 : Int) ^ (l.drop (m + 1)).length = ((256 ^ (l.drop (m + 1)).length : Nat) : Int) := (Int.natCast_pow 256 _).symm
        have e2 : (256 : Int) ^ 7 = ((256 ^ 7 : Nat) : Int) := (Int.natCast_pow 256 7).symm
        rw [e1, e2]; exact Int.ofNat_le.2 this
      have h3 : getN (l.drop (m + 1)) < 72057594037927936 := by
        have : (256 : Int) ^ 7 = 72057594037927936 := rfl
        omega
      rw [iter_inl (s' := (getN (l.drop m), (m : Int) - 1)) ?_, ih d (by omega) (by omega)]
      show le_Get_l0 l (getN (l.drop (m + 1))) (((m + 1 : Nat) : Int) - 1) = _
      unfold le_Get_l0
      have e : ((m + 1 : Nat) : Int) - 1 = (m : Int) := by omega
      rw [e, if_pos (by omega), rd_ok hx, Option.bind_some, or_byteN h0 h3 (by omega) (by have := u8_lt (l[m]'(by omega)); omega), w64 (by omega) (by omega)]
      have e2 : getN (l.drop (m + 1)) * 256 + ((l[m]'(by omega)).toNat : Int) = getN (l.drop m) := by rw [hd1, getN]; omega
      rw [e2]
  unfold le_Get
  have hm : mn (l.length : Int) 8 = (l.length : Int) := by unfold mn; split <;> omega
  rw [hm, w64 (by omega) (by omega)]
  have := key l.length 100000 (Nat.le_refl _) (by omega)
  rw [List.drop_length] at this
  rw [show getN [] = 0 from rfl] at this
  rw [this]; rfl
theorem getN_putN : ∀ (k : Nat) (v : Int), 0 ≤ v → v < 256 ^ k → getN (putN k v) = v
  | 0, v, h0, h1 => by
    have : (256 : Int) ^ 0 = 1 := rfl
    rw [putN, getN]; omega
  | k + 1, v, h0, h1 => by
    rw [Int.pow_succ] at h1
    have hk := getN_putN k (v / 256) (by omega) (by generalize (256 : Int) ^ k = p at *; omega)
    rw [putN, getN, hk, ofNat_nat (by omega) (by omega)]; omega
theorem putN_getN : ∀ l : List UInt8, putN l.length (getN l) = l
  | [] => rfl
  | a :: r => by
    have h2 := u8_lt a
    rw [List.length_cons, getN, putN, show ((a.toNat : Int) + 256 * getN r) / 256 = getN r by omega, show ((a.toNat : Int) + 256 * getN r) % 256 = (a.toNat : Int) by omega, putN_getN r]
    simp
end Gab
