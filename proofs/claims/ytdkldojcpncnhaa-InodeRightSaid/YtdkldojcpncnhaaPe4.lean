/- Numbers and lists of runs as bytes. -/
import Derived.Test.YtdkldojcpncnhaaPe3
import Derived.Handy
set_option linter.unusedVariables false
set_option linter.unusedSimpArgs false
namespace Gab
open Go

def put4 (v : Int) : List UInt8 := [UInt8.ofNat (v % 256).toNat, UInt8.ofNat (v / 256 % 256).toNat, UInt8.ofNat (v / 65536 % 256).toNat, UInt8.ofNat (v / 16777216 % 256).toNat]
def get4 (a b c d : UInt8) : Int := (a.toNat : Int) + 256 * b.toNat + 65536 * c.toNat + 16777216 * d.toNat
theorem u8_lt (a : UInt8) : a.toNat < 256 := a.toNat_lt
theorem put4_get4 (a b c d : UInt8) : put4 (get4 a b c d) = [a, b, c, d] := by
  have h1 := u8_lt a; have h2 := u8_lt b; have h3 := u8_lt c; have h4 := u8_lt d
  unfold put4 get4
  rw [show (((a.toNat : Int) + 256 * b.toNat + 65536 * c.toNat + 16777216 * d.toNat) % 256).toNat = a.toNat by omega,
    show (((a.toNat : Int) + 256 * b.toNat + 65536 * c.toNat + 16777216 * d.toNat) / 256 % 256).toNat = b.toNat by omega,
    show (((a.toNat : Int) + 256 * b.toNat + 65536 * c.toNat + 16777216 * d.toNat) / 65536 % 256).toNat = c.toNat by omega,
    show (((a.toNat : Int) + 256 * b.toNat + 65536 * c.toNat + 16777216 * d.toNat) / 16777216 % 256).toNat = d.toNat by omega]
  simp
theorem ofNat_nat {n : Int} (h0 : 0 ≤ n) (h1 : n < 256) : ((UInt8.ofNat n.toNat).toNat : Int) = n := by
  rw [UInt8.toNat_ofNat']; omega
theorem get4_put4 {v : Int} (h0 : 0 ≤ v) (h1 : v < 4294967296) : get4 (UInt8.ofNat (v % 256).toNat) (UInt8.ofNat (v / 256 % 256).toNat) (UInt8.ofNat (v / 65536 % 256).toNat) (UInt8.ofNat (v / 16777216 % 256).toNat) = v := by
  unfold get4
  rw [ofNat_nat (by omega) (by omega), ofNat_nat (by omega) (by omega), ofNat_nat (by omega) (by omega), ofNat_nat (by omega) (by omega)]
  omega
theorem get4_bd (a b c d : UInt8) : 0 ≤ get4 a b c d ∧ get4 a b c d < 4294967296 := by
  have h1 := u8_lt a; have h2 := u8_lt b; have h3 := u8_lt c; have h4 := u8_lt d
  unfold get4; omega
theorem wu8_eq (n : Int) : wu8 n = n % 256 := IntKind.wrap_u8 n
theorem put_step {x : Int} {l : List Int} {i : Nat} (hx : 0 ≤ x) (hi : i < 4) (hl : l.length ≤ 4) : le_Put_l0 4 x l i = some (.inl (x / 256, l ++ [x % 256], ((i + 1 : Nat) : Int))) := by
  unfold le_Put_l0
  rw [if_pos (by omega), appL_ok (by simp only [List.length_cons, List.length_nil]; omega), Option.bind_some, wu8_eq, w64 (by omega) (by omega)]
  have : shrK .u64 x 8 = x / 256 := by
    show x.fdiv (2 ^ (min (8 : Int).toNat 64)) = x / 256
    rw [Int.fdiv_eq_ediv_of_nonneg _ (by decide)]; rfl
  rw [this]; rfl
theorem put_eq {v : Int} (h0 : 0 ≤ v) : le_Put v 4 = some (put4 v) := by
  unfold le_Put
  rw [show mn (mx 4 0) 8 = 4 from rfl, show ((4 : Int).toNat + 1) = 5 from rfl]
  have key : iter (fun (s : Int × (List Int) × Int) => le_Put_l0 4 s.1 s.2.1 s.2.2) 5 (v, [], 0) = some [v % 256, v / 256 % 256, v / 65536 % 256, v / 16777216 % 256] := by
    rw [iter_inl (s' := (v / 256, [v % 256], 1)) (put_step (i := 0) (l := []) h0 (by omega) (by simp)),
      iter_inl (s' := (v / 256 / 256, [v % 256, v / 256 % 256], 2)) (put_step (i := 1) (l := [v % 256]) (by omega) (by omega) (by simp)),
      iter_inl (s' := (v / 256 / 256 / 256, [v % 256, v / 256 % 256, v / 256 / 256 % 256], 3)) (put_step (i := 2) (l := [v % 256, v / 256 % 256]) (by omega) (by omega) (by simp)),
      iter_inl (s' := (v / 256 / 256 / 256 / 256, [v % 256, v / 256 % 256, v / 256 / 256 % 256, v / 256 / 256 / 256 % 256], 4)) (put_step (i := 3) (l := [v % 256, v / 256 % 256, v / 256 / 256 % 256]) (by omega) (by omega) (by simp))]
    rw [iter_inr (e := [v % 256, v / 256 % 256, v / 256 / 256 % 256, v / 256 / 256 / 256 % 256]) (by unfold le_Put_l0; rw [if_neg (by simp)])]
    rw [show v / 256 / 256 / 256 = v / 16777216 by omega, show v / 256 / 256 = v / 65536 by omega]
  rw [key]; rfl
theorem rput_step {x : Int} {l : List Int} {i : Nat} (hx : 0 ≤ x) (hx2 : x ≤ 18446744073709551615) (hi : i < 4) (hl : l.length ≤ 4) : gabionref01_Put_l0 4 x l i = some (.inl (x / 256, l ++ [x % 256], ((i + 1 : Nat) : Int))) := by
  unfold gabionref01_Put_l0 gabionref01_Put_j3
  rw [if_pos (by omega), if_pos (by simp; omega), appL_ok (by simp only [List.length_cons, List.length_nil]; omega), Option.bind_some, wu8_eq, w64 (by omega) (by omega), Int.tmod_eq_emod_of_nonneg hx, Int.tdiv_eq_ediv_of_nonneg hx, Int.emod_emod,
    show wu64 (x / 256) = x / 256 from IntWalk.u64_in _ ⟨by omega, by omega⟩]; rfl
theorem rput_eq {v : Int} (h0 : 0 ≤ v) (h1 : v ≤ 18446744073709551615) : gabionref01_Put v 4 = some (put4 v) := by
  unfold gabionref01_Put
  have key : iter (fun (s : Int × (List Int) × Int) => gabionref01_Put_l0 4 s.1 s.2.1 s.2.2) 100000 (v, [], 0) = some [v % 256, v / 256 % 256, v / 65536 % 256, v / 16777216 % 256] := by
    rw [show (100000 : Nat) = 99995 + 1 + 1 + 1 + 1 + 1 from rfl]
    rw [iter_inl (s' := (v / 256, [v % 256], 1)) (rput_step (i := 0) (l := []) h0 h1 (by omega) (by simp)),
      iter_inl (s' := (v / 256 / 256, [v % 256, v / 256 % 256], 2)) (rput_step (i := 1) (l := [v % 256]) (by omega) (by omega) (by omega) (by simp)),
      iter_inl (s' := (v / 256 / 256 / 256, [v % 256, v / 256 % 256, v / 256 / 256 % 256], 3)) (rput_step (i := 2) (l := [v % 256, v / 256 % 256]) (by omega) (by omega) (by omega) (by simp)),
      iter_inl (s' := (v / 256 / 256 / 256 / 256, [v % 256, v / 256 % 256, v / 256 / 256 % 256, v / 256 / 256 / 256 % 256], 4)) (rput_step (i := 3) (l := [v % 256, v / 256 % 256, v / 256 / 256 % 256]) (by omega) (by omega) (by omega) (by simp))]
    rw [iter_inr (e := [v % 256, v / 256 % 256, v / 256 / 256 % 256, v / 256 / 256 / 256 % 256]) (by unfold gabionref01_Put_l0 gabionref01_Put_j3; rw [if_neg (by simp), if_neg (by simp)])]
    rw [show v / 256 / 256 / 256 = v / 16777216 by omega, show v / 256 / 256 = v / 65536 by omega]
  rw [key]; rfl
theorem or_byte {v b : Int} (h0 : 0 ≤ v) (h1 : v < 4294967296) (g0 : 0 ≤ b) (g1 : b < 256) : bitsA .or .u64 (shlK .u64 v 8) (wu64 b) = v * 256 + b := by
  have e1 : shlK .u64 v 8 = v * 256 := by
    show IntKind.u64.wrap (v * 2 ^ (min (8 : Int).toNat 64)) = _
    rw [show (2 : Int) ^ (min (8 : Int).toNat 64) = 256 from rfl]
    exact IntWalk.u64_in _ ⟨by omega, by omega⟩
  have e2 : wu64 b = b := IntWalk.u64_in _ ⟨by omega, by omega⟩
  rw [e1, e2]
  unfold bitsA
  simp only
  obtain ⟨n, rfl⟩ := Int.eq_ofNat_of_zero_le h0
  obtain ⟨m, rfl⟩ := Int.eq_ofNat_of_zero_le g0
  have hn : (BitVec.ofInt IntKind.u64.bits ((n : Int) * 256) ||| BitVec.ofInt IntKind.u64.bits (m : Int)).toNat = n * 256 + m := by
    rw [BitVec.toNat_or, BitVec.toNat_ofInt, BitVec.toNat_ofInt]
    have a1 : (((n : Int) * 256) % ((2 ^ IntKind.u64.bits : Nat) : Int)).toNat = n <<< 8 := by
      rw [Nat.shiftLeft_eq]
      show (((n : Int) * 256) % 18446744073709551616).toNat = n * 256
      omega
    have a2 : ((m : Int) % ((2 ^ IntKind.u64.bits : Nat) : Int)).toNat = m := by
      show ((m : Int) % 18446744073709551616).toNat = m
      omega
    rw [a1, a2, ← Nat.shiftLeft_add_eq_or_of_lt (by omega), Nat.shiftLeft_eq]
  rw [hn]
  rw [show IntKind.wrap .u64 ((n * 256 + m : Nat) : Int) = ((n * 256 + m : Nat) : Int) from IntWalk.u64_in _ ⟨by omega, by omega⟩]
  omega
theorem get_step {l : List UInt8} {v : Int} {i : Nat} {y : UInt8} (h : l[i]? = some y) (h0 : 0 ≤ v) (h1 : v < 4294967296) (hi : i < 100) : le_Get_l0 l v i = some (.inl (v * 256 + y.toNat, (i : Int) - 1)) := by
  have := u8_lt y
  unfold le_Get_l0
  rw [if_pos (by omega), rd_ok h, Option.bind_some, or_byte h0 h1 (by omega) (by omega), w64 (by omega) (by omega)]
theorem get_eq (a b c d : UInt8) : le_Get [a, b, c, d] = some (get4 a b c d) := by
  unfold le_Get
  have h1 := u8_lt a; have h2 := u8_lt b; have h3 := u8_lt c; have h4 := u8_lt d
  have key : iter (fun (s : Int × Int) => le_Get_l0 [a, b, c, d] s.1 s.2) 100000 (0, wi64 ((mn (([a, b, c, d] : List UInt8).length : Int) 8) - 1)) = some ((((0 * 256 + (d.toNat : Int)) * 256 + c.toNat) * 256 + b.toNat) * 256 + a.toNat) := by
    rw [show (100000 : Nat) = 99995 + 1 + 1 + 1 + 1 + 1 from rfl, show wi64 ((mn (([a, b, c, d] : List UInt8).length : Int) 8) - 1) = 3 from rfl]
    rw [iter_inl (s' := (0 * 256 + (d.toNat : Int), 2)) (get_step (i := 3) (v := 0) rfl (by omega) (by omega) (by omega)),
      iter_inl (s' := ((0 * 256 + (d.toNat : Int)) * 256 + c.toNat, 1)) (get_step (i := 2) (v := 0 * 256 + (d.toNat : Int)) rfl (by omega) (by omega) (by omega)),
      iter_inl (s' := (((0 * 256 + (d.toNat : Int)) * 256 + c.toNat) * 256 + b.toNat, 0)) (get_step (i := 1) (v := (0 * 256 + (d.toNat : Int)) * 256 + c.toNat) rfl (by omega) (by omega) (by omega)),
      iter_inl (s' := ((((0 * 256 + (d.toNat : Int)) * 256 + c.toNat) * 256 + b.toNat) * 256 + a.toNat, -1)) (get_step (i := 0) (v := ((0 * 256 + (d.toNat : Int)) * 256 + c.toNat) * 256 + b.toNat) rfl (by omega) (by omega) (by omega))]
    exact iter_inr (by show le_Get_l0 _ _ (-1) = _; unfold le_Get_l0; rw [if_neg (by omega)])
  rw [key]
  show some _ = some _
  unfold get4
  congr 1; omega

/-! ### Lists -/
def text1 (e : Rn) : List UInt8 := put4 (e.1 + 1) ++ put4 e.2
def textL (l : List Rn) : List UInt8 := l.flatMap text1
def parseL : List UInt8 → List Rn
  | a :: b :: c :: d :: e :: f :: g :: h :: r => (get4 a b c d - 1, get4 e f g h) :: parseL r
  | _ => []
theorem textL_app {l m : List Rn} : textL (l ++ m) = textL l ++ textL m := by simp [textL]
theorem textL_one {e : Rn} : textL [e] = text1 e := by simp [textL]
theorem textL_cons {e : Rn} {l : List Rn} : textL (e :: l) = text1 e ++ textL l := by simp [textL]
theorem textL_len {l : List Rn} : (textL l).length = 8 * l.length := by
  induction l with
  | nil => rfl
  | cons e l ih => rw [textL_cons, List.length_append, ih, List.length_cons]; simp only [text1, put4, List.length_append, List.length_cons, List.length_nil]; omega
theorem parse_text {l : List Rn} (h : ∀ e ∈ l, 0 ≤ e.2 ∧ e.2 ≤ 65536 ∧ -1 ≤ e.1 ∧ e.1 ≤ 65536) : parseL (textL l) = l := by
  induction l with
  | nil => rfl
  | cons e l ih =>
    have he := h e (by simp)
    rw [textL_cons]
    simp only [text1, put4, List.cons_append, List.nil_append, parseL]
    rw [get4_put4 (v := e.1 + 1) (by omega) (by omega), get4_put4 (v := e.2) (by omega) (by omega), ih fun x hx => h x (by simp [hx])]
    rw [show e.1 + 1 - 1 = e.1 by omega]
theorem text_parse : ∀ {s : List UInt8}, s.length % 8 = 0 → textL (parseL s) = s
  | [], _ => rfl
  | a :: b :: c :: d :: e :: f :: g :: h :: r, hl => by
    have : r.length % 8 = 0 := by simp only [List.length_cons] at hl; omega
    simp only [parseL, textL_cons, text1]
    rw [show get4 a b c d - 1 + 1 = get4 a b c d by omega, put4_get4, put4_get4, text_parse this]; rfl
  | [_], hl | [_, _], hl | [_, _, _], hl | [_, _, _, _], hl | [_, _, _, _, _], hl | [_, _, _, _, _, _], hl | [_, _, _, _, _, _, _], hl => by simp at hl
theorem parseL_len : ∀ {s : List UInt8}, 8 * (parseL s).length ≤ s.length
  | [] => by simp [parseL]
  | a :: b :: c :: d :: e :: f :: g :: h :: r => by
    have := parseL_len (s := r)
    simp only [parseL, List.length_cons]; omega
  | [_] | [_, _] | [_, _, _] | [_, _, _, _] | [_, _, _, _, _] | [_, _, _, _, _, _] | [_, _, _, _, _, _, _] => by simp [parseL]
theorem text_eq {l : List Rn} (hl : l.length ≤ 100000) : ext_List_Text l = some (if RightB l = true then textL l else []) := by
  unfold ext_List_Text
  rw [right_eq hl, Option.bind_some]
  by_cases h : RightB l = true
  · have r := rightB_iff.1 h
    rw [if_pos h, if_pos h]
    have key : iter (fun (s : (List UInt8) × Int) => ext_List_Text_l0 l s.1 s.2) (l.length + 1) (([] : List UInt8), 0) = some (textL l) := by
      refine iter_fold (l := l) (S := fun i t => (textL t, (i : Int))) _ (fun i x hx => ?_) ?_ (Nat.lt_succ_self _)
      · have hi : i < l.length := (List.getElem?_eq_some_iff.1 hx).1
        have hb := r.bd x (List.mem_of_getElem? hx)
        have hlen := textL_len (l := l.take i)
        rw [List.length_take] at hlen
        show ext_List_Text_l0 l (textL (l.take i)) i = _
        unfold ext_List_Text_l0
        rw [if_pos (by omega), rd_ok hx, Option.bind_some, w64 (n := x.1 + 1) (by omega) (by omega), show wu64 (x.1 + 1) = x.1 + 1 from IntWalk.u64_in _ ⟨by omega, by omega⟩, put_eq (by omega), Option.bind_some,
          show wu64 x.2 = x.2 from IntWalk.u64_in _ ⟨by omega, by omega⟩, put_eq (by omega), Option.bind_some, catS_ok (by simp [put4]), Option.bind_some, catS_ok (by simp only [put4, List.length_append, List.length_cons, List.length_nil]; omega), Option.bind_some,
          w64 (n := (i : Int) + 1) (by omega) (by omega), take_next hx, textL_app, textL_one]; rfl
      · show ext_List_Text_l0 l _ l.length = _
        unfold ext_List_Text_l0
        rw [if_neg (by omega)]
    rw [key]; rfl
  · rw [if_neg h, if_neg h]
theorem rtext_eq {l : List Rn} (hl : l.length ≤ 90000) : gabionref15_Text l = some (if RightB l = true then textL l else []) := by
  unfold gabionref15_Text
  rw [rright_eq, Option.bind_some]
  by_cases h : RightB l = true
  · have r := rightB_iff.1 h
    rw [h, if_pos rfl]
    have key : iter (fun (s : (List UInt8) × Int) => gabionref15_Text_l0 l true s.1 s.2) 100000 (([] : List UInt8), 0) = some (textL l) := by
      refine iter_fold (l := l) (S := fun i t => (textL t, (i : Int))) _ (fun i x hx => ?_) ?_ (by omega)
      · have hi : i < l.length := (List.getElem?_eq_some_iff.1 hx).1
        have hb := r.bd x (List.mem_of_getElem? hx)
        have hlen := textL_len (l := l.take i)
        rw [List.length_take] at hlen
        show gabionref15_Text_l0 l true (textL (l.take i)) i = _
        unfold gabionref15_Text_l0 gabionref15_Text_j4
        rw [if_pos (by omega), if_pos rfl, rd_ok hx, Option.bind_some, w64 (n := x.1 + 1) (by omega) (by omega), show wu64 (x.1 + 1) = x.1 + 1 from IntWalk.u64_in _ ⟨by omega, by omega⟩, rput_eq (by omega) (by omega), Option.bind_some, Option.bind_some,
          show wu64 x.2 = x.2 from IntWalk.u64_in _ ⟨by omega, by omega⟩, rput_eq (by omega) (by omega), Option.bind_some, catS_ok (by simp only [put4, List.length_cons, List.length_nil]; omega), Option.bind_some, catS_ok (by simp only [put4, List.length_append, List.length_cons, List.length_nil]; omega), Option.bind_some,
          w64 (n := (i : Int) + 1) (by omega) (by omega), take_next hx, textL_app, textL_one, List.append_assoc]; rfl
      · show gabionref15_Text_l0 l true _ l.length = _
        unfold gabionref15_Text_l0 gabionref15_Text_j4
        rw [if_neg (by omega), if_neg (by simp)]
    rw [key]; rfl
  · rw [if_neg h]
    simp only [Bool.not_eq_true] at h
    rw [h]
    have key : iter (fun (s : (List UInt8) × Int) => gabionref15_Text_l0 l false s.1 s.2) 100000 (([] : List UInt8), 0) = some [] := by
      rw [show (100000 : Nat) = 99999 + 1 from rfl]
      refine iter_inr ?_
      show gabionref15_Text_l0 l false [] 0 = _
      unfold gabionref15_Text_l0 gabionref15_Text_j4
      by_cases c : (0 : Int) < l.length
      · rw [if_pos c, if_neg (by simp)]
      · rw [if_neg c, if_neg (by simp)]
    rw [key]; rfl
theorem parse_eq {s : List UInt8} (hs : s.length ≤ 500000) : ext_Parse s = some (if s.length % 8 = 0 ∧ RightB (parseL s) = true then (parseL s, 0) else ([], 4)) := by
  unfold ext_Parse
  have key : iter (fun (q : (List Rn) × Int) => ext_Parse_l0 s q.1 q.2) 100000 ([], 0) = some (parseL s) := by
    obtain ⟨e, he, rfl⟩ := iter_of (step := fun (q : (List Rn) × Int) => ext_Parse_l0 s q.1 q.2)
      (fun k q => ∃ d r, s = d ++ r ∧ q = (q.1, (d.length : Int)) ∧ 8 * q.1.length = d.length ∧ q.1 ++ parseL r = parseL s ∧ k = r.length / 8) (fun e => e = parseL s) (fun k q ⟨d, r, h1, h2, h3, h4, h5⟩ => by
        have hl : s.length = d.length + r.length := by rw [h1]; simp
        rw [h2]
        show (∃ n' s', k = n' + 1 ∧ ext_Parse_l0 s q.1 d.length = _ ∧ _) ∨ ∃ e, ext_Parse_l0 s q.1 d.length = _ ∧ _
        unfold ext_Parse_l0
        rw [w64 (n := (d.length : Int) + 8) (by omega) (by omega), w64 (n := (d.length : Int) + 4) (by omega) (by omega)]
        by_cases h8 : 8 ≤ r.length
        · left
          obtain ⟨x1, r, rfl⟩ := List.exists_cons_of_length_pos (l := r) (by omega)
          obtain ⟨x2, r, rfl⟩ := List.exists_cons_of_length_pos (l := r) (by simp only [List.length_cons] at h8; omega)
          obtain ⟨x3, r, rfl⟩ := List.exists_cons_of_length_pos (l := r) (by simp only [List.length_cons] at h8; omega)
          obtain ⟨x4, r, rfl⟩ := List.exists_cons_of_length_pos (l := r) (by simp only [List.length_cons] at h8; omega)
          obtain ⟨x5, r, rfl⟩ := List.exists_cons_of_length_pos (l := r) (by simp only [List.length_cons] at h8; omega)
          obtain ⟨x6, r, rfl⟩ := List.exists_cons_of_length_pos (l := r) (by simp only [List.length_cons] at h8; omega)
          obtain ⟨x7, r, rfl⟩ := List.exists_cons_of_length_pos (l := r) (by simp only [List.length_cons] at h8; omega)
          obtain ⟨x8, r, rfl⟩ := List.exists_cons_of_length_pos (l := r) (by simp only [List.length_cons] at h8; omega)
          simp only [List.length_cons] at hl h5
          have c1 : cutL s (d.length : Int) ((d.length : Int) + 4) = some [x1, x2, x3, x4] := by
            rw [show (d.length : Int) + 4 = ((d.length + 4 : Nat) : Int) by omega, cutL_nat (by omega) (by omega), h1, List.take_append, List.take_of_length_le (l := d) (by omega), List.drop_left, show d.length + 4 - d.length = 4 by omega]; rfl
          have c2 : cutL s ((d.length : Int) + 4) ((d.length : Int) + 8) = some [x5, x6, x7, x8] := by
            rw [show (d.length : Int) + 4 = ((d.length + 4 : Nat) : Int) by omega, show (d.length : Int) + 8 = ((d.length + 8 : Nat) : Int) by omega, cutL_nat (by omega) (by omega), h1, List.take_append, List.take_of_length_le (l := d) (by omega), show d.length + 8 - d.length = 8 by omega, List.drop_append, List.drop_of_length_le (l := d) (by omega), show d.length + 4 - d.length = 4 by omega]; rfl
          have b1 := get4_bd x1 x2 x3 x4; have b2 := get4_bd x5 x6 x7 x8
          refine ⟨r.length / 8, (q.1 ++ [(get4 x1 x2 x3 x4 - 1, get4 x5 x6 x7 x8)], (d.length : Int) + 8), by omega, ?_, d ++ [x1, x2, x3, x4, x5, x6, x7, x8], r, by rw [h1]; simp, by simp, by simp; omega, ?_, rfl⟩
          · rw [if_pos (by omega), c1, Option.bind_some, c2, Option.bind_some, get_eq, Option.bind_some, get_eq, Option.bind_some, appL_ok (by simp only [List.length_cons, List.length_nil]; omega), Option.bind_some,
              w64 (n := get4 x1 x2 x3 x4) (by omega) (by omega), w64 (n := get4 x5 x6 x7 x8) (by omega) (by omega), w64 (n := get4 x1 x2 x3 x4 - 1) (by omega) (by omega)]
          · rw [← h4, List.append_assoc]; rfl
        · right
          rw [if_neg (by omega)]
          refine ⟨q.1, rfl, ?_⟩
          have hp := parseL_len (s := r)
          have : parseL r = [] := List.eq_nil_of_length_eq_zero (by omega)
          rw [← h4, this, List.append_nil]) (n := s.length / 8) (d := 100000) (s := (([] : List Rn), (0 : Int))) ⟨[], s, rfl, rfl, rfl, rfl, rfl⟩ (by omega)
    exact he
  have hpl := parseL_len (s := s)
  rw [key, Option.bind_some, Int.tmod_eq_emod_of_nonneg (by omega)]
  unfold ext_Parse_j7
  by_cases h : s.length % 8 = 0
  · rw [if_neg (fun g => g (by omega)), right_eq (by omega), Option.bind_some]
    by_cases h2 : RightB (parseL s) = true
    · rw [if_pos (show s.length % 8 = 0 ∧ RightB (parseL s) = true from ⟨h, h2⟩), h2, if_neg (by simp)]
    · rw [if_neg (show ¬ (s.length % 8 = 0 ∧ RightB (parseL s) = true) from fun g => h2 g.2)]
      simp only [Bool.not_eq_true] at h2
      rw [h2, if_pos (by simp)]
  · rw [if_neg (show ¬ (s.length % 8 = 0 ∧ RightB (parseL s) = true) from fun g => h g.1), if_pos (fun g => h (by omega)), if_pos rfl]
end Gab
