/- Directories, plain: the bytes of entries; the law DirNames. -/
import Derived.Test.YtcdldgoehoopmaaDoorPd2
set_option linter.unusedVariables false
set_option linter.unusedSimpArgs false
set_option maxRecDepth 100000
namespace Gab
open Go
def numOk (n : Int) : Bool := decide (0 ≤ n ∧ n ≤ 65535)
def textE (x : List UInt8 × Int) (at_ : Int) : List UInt8 := if (nameOk x.1 && numOk x.2 && numOk at_) = true then putN 2 at_ ++ putN 2 x.2 ++ x.1 else []
theorem nameN_ne {s : List UInt8} : (nameN s ≠ 0) = (nameOk s = false) := by
  unfold nameN
  cases nameOk s <;> simp
theorem name_len {s : List UInt8} (h : nameOk s = true) : s.length ≤ 32 := by
  unfold nameOk at h
  simp only [Bool.and_eq_true, decide_eq_true_eq] at h
  exact h.1.2.1
theorem number_eq {n : Int} : dir_number n = some (numOk n) := by
  unfold dir_number numOk
  by_cases h : 0 ≤ n
  · rw [if_pos h]; simp [h]
  · rw [if_neg h]; simp [h]
theorem wrapu64 {n : Int} (h1 : 0 ≤ n) (h2 : n < 18446744073709551616) : IntKind.wrap .u64 n = n := by
  simp only [IntKind.wrap, IntKind.bits, IntKind.signed]
  simp
  omega
theorem wu_num {n : Int} (h : numOk n = true) : wu64 n = n := by
  unfold numOk at h
  have := of_decide_eq_true h
  exact wrapu64 (by omega) (by omega)
theorem text_eq {x : List UInt8 × Int} {k : Int} : dir_Entry_Text x k = some (textE x k) := by
  unfold dir_Entry_Text textE
  rw [name_eq, Option.bind_some]
  cases h1 : nameOk x.1 with
  | false => rw [if_pos (by rw [nameN_ne]; exact h1)]; rfl
  | true =>
    rw [if_neg (by rw [nameN_ne, h1]; decide), number_eq, Option.bind_some]
    cases h2 : numOk x.2 with
    | false => rfl
    | true =>
      rw [if_pos rfl, number_eq, Option.bind_some]
      cases h3 : numOk k with
      | false => rfl
      | true =>
        unfold dir_Entry_Text_j1
        rw [if_neg (by decide), wu_num h2, wu_num h3]
        have a2 := of_decide_eq_true h2
        have a3 := of_decide_eq_true h3
        have l1 := name_len h1
        rw [show le_Put k 2 = some (putN 2 k) from put_N (k := 2) a3.1 (by omega), Option.bind_some, show le_Put x.2 2 = some (putN 2 x.2) from put_N (k := 2) a2.1 (by omega), Option.bind_some,
          catS_ok (by rw [putN_len, putN_len]; omega), Option.bind_some, catS_ok (by rw [List.length_append, putN_len, putN_len]; omega)]
        rfl
theorem rtext_eq {x : List UInt8 × Int} {k : Int} : gabionref17_Text x k = some (textE x k) := by
  unfold gabionref17_Text textE
  rw [rname_eq, Option.bind_some]
  cases h1 : nameOk x.1 with
  | false => rw [if_pos (by rw [nameN_ne]; exact h1)]; rfl
  | true =>
    rw [if_neg (by rw [nameN_ne, h1]; decide)]
    unfold gabionref17_Text_j2
    by_cases g1 : x.2 < 0
    · have : numOk x.2 = false := decide_eq_false (by omega)
      rw [if_pos g1, if_pos rfl, this]; rfl
    by_cases g2 : 65535 < x.2
    · have : numOk x.2 = false := decide_eq_false (by omega)
      rw [if_neg g1, if_pos g2, if_pos rfl, this]; rfl
    have h2 : numOk x.2 = true := decide_eq_true ⟨by omega, by omega⟩
    rw [if_neg g1, if_neg g2, h2]
    by_cases g3 : k < 0
    · have : numOk k = false := decide_eq_false (by omega)
      rw [if_pos g3, if_pos rfl, this]; rfl
    rw [if_neg g3]
    by_cases g4 : 65535 < k
    · have : numOk k = false := decide_eq_false (by omega)
      rw [if_pos (decide_eq_true g4), this]; rfl
    have h3 : numOk k = true := decide_eq_true ⟨by omega, by omega⟩
    have l1 := name_len h1
    rw [if_neg (by simpa using g4), h3, wu_num h2, wu_num h3]
    rw [show gabionref01_Put k 2 = some (putN 2 k) from rput_N (k := 2) (by omega) (by omega) (by omega), Option.bind_some, show gabionref01_Put x.2 2 = some (putN 2 x.2) from rput_N (k := 2) (by omega) (by omega) (by omega), Option.bind_some,
      catS_ok (by rw [putN_len, putN_len]; omega), Option.bind_some, catS_ok (by rw [List.length_append, putN_len, putN_len]; omega)]
    rfl
theorem text_len {x : List UInt8 × Int} {k : Int} : (textE x k).length ≤ 36 := by
  unfold textE
  split
  · rename_i h
    simp only [Bool.and_eq_true] at h
    have := name_len h.1.1
    rw [List.length_append, List.length_append, putN_len, putN_len]; omega
  · simp
def parseE (t : List UInt8) : Int × (List UInt8 × Int) × Int := if 4 ≤ t.length ∧ nameOk (t.drop 4) = true then (getN (t.take 2), (t.drop 4, getN ((t.take 4).drop 2)), 0) else (0, ([], 0), 4)
theorem getN_num {l : List UInt8} (h : l.length = 2) : numOk (getN l) = true := by
  have := getN_lt l
  rw [h] at this
  exact decide_eq_true ⟨getN_nn l, by omega⟩
theorem parse_eq {t : List UInt8} (hl : t.length ≤ 60) : dir_Parse t = some (parseE t) := by
  unfold dir_Parse parseE dir_Parse_j1
  by_cases h : (t.length : Int) < 4
  · rw [if_pos h, if_pos rfl, if_neg (by omega)]
  rw [if_neg h, show cutL t 4 (t.length : Int) = some (t.drop 4) by rw [show (4 : Int) = ((4 : Nat) : Int) from rfl, cutL_nat (by omega) (by omega), List.take_length], Option.bind_some, name_eq, Option.bind_some]
  cases hn : nameOk (t.drop 4) with
  | false => rw [if_pos (decide_eq_true (by rw [nameN_ne]; exact hn)), if_neg (by simp)]
  | true =>
    rw [if_neg (by rw [decide_eq_true_eq, nameN_ne, hn]; decide), if_pos ⟨by omega, rfl⟩]
    rw [show cutL t 0 2 = some (t.take 2) by rw [show (0 : Int) = ((0 : Nat) : Int) from rfl, show (2 : Int) = ((2 : Nat) : Int) from rfl, cutL_nat (by omega) (by omega), List.drop_zero], Option.bind_some, Option.bind_some,
      show cutL t 2 4 = some ((t.take 4).drop 2) by rw [show (2 : Int) = ((2 : Nat) : Int) from rfl, show (4 : Int) = ((4 : Nat) : Int) from rfl, cutL_nat (by omega) (by omega)], Option.bind_some]
    rw [get_N (by simp; omega), Option.bind_some, get_N (by simp; omega), Option.bind_some]
    have h1 := of_decide_eq_true (getN_num (l := t.take 2) (by simp; omega))
    have h2 := of_decide_eq_true (getN_num (l := (t.take 4).drop 2) (by simp; omega))
    rw [w64 (by omega) (by omega), w64 (by omega) (by omega)]
theorem text_parse {t : List UInt8} (h : 4 ≤ t.length ∧ nameOk (t.drop 4) = true) : textE (t.drop 4, getN ((t.take 4).drop 2)) (getN (t.take 2)) = t := by
  have e1 : (t.take 2).length = 2 := by simp; omega
  have e2 : ((t.take 4).drop 2).length = 2 := by simp; omega
  unfold textE
  rw [if_pos (by simp only [h.2, getN_num e1, getN_num e2]; rfl)]
  have p1 := putN_getN (t.take 2)
  have p2 := putN_getN ((t.take 4).drop 2)
  rw [e1] at p1; rw [e2] at p2
  rw [p1, p2]
  have : t.take 2 ++ (t.take 4).drop 2 = t.take 4 := by
    rw [show t.take 2 = (t.take 4).take 2 by rw [List.take_take]; rfl, List.take_append_drop]
  rw [this, List.take_append_drop]

theorem names_step {H : Heap} {l : List (List UInt8)} {i : Nat} {t : List UInt8} (hl : l.length ≤ 100) (hi : l[i]? = some t) (ht : t.length ≤ 60) : gabionlaw17_DirNames_l0 H l (i : Int) = some (.inl ((i + 1 : Nat) : Int)) := by
  have hlt := (List.getElem?_eq_some_iff.1 hi).1
  have e1 : wi64 ((i : Int) + 1) = ((i + 1 : Nat) : Int) := by rw [w64 (by omega) (by omega)]; rfl
  unfold gabionlaw17_DirNames_l0
  rw [if_pos (by omega), rd_nat, hi, Option.bind_some, parse_eq ht, Option.bind_some]
  by_cases hp : 4 ≤ t.length ∧ nameOk (t.drop 4) = true
  · have : parseE t = (getN (t.take 2), (t.drop 4, getN ((t.take 4).drop 2)), 0) := if_pos hp
    rw [this]
    simp only
    rw [if_neg (by decide), text_eq, Option.bind_some, text_parse hp, if_pos rfl, rtext_eq, Option.bind_some, text_parse hp]
    unfold gabionlaw17_DirNames_j15 gabionlaw17_DirNames_j14
    rw [decide_eq_true rfl, if_neg (by decide), e1]
  · have : parseE t = (0, ([], 0), 4) := if_neg hp
    rw [this]
    simp only
    rw [if_pos (by decide), if_neg (by decide)]
    unfold gabionlaw17_DirNames_j13 gabionlaw17_DirNames_j14
    by_cases h4 : 4 < (t.length : Int)
    · rw [if_pos h4, show cutL t 4 (t.length : Int) = some (t.drop 4) by rw [show (4 : Int) = ((4 : Nat) : Int) from rfl, cutL_nat (by omega) (by omega), List.take_length], Option.bind_some, rname_eq, Option.bind_some]
      have hn : nameOk (t.drop 4) = false := by
        cases hh : nameOk (t.drop 4) with
        | false => rfl
        | true => exact absurd ⟨by omega, hh⟩ hp
      rw [if_neg (by have := nameN_ne (s := t.drop 4); rw [hn] at this; intro h; exact (this.mpr rfl) h), if_pos (by decide), if_neg (by decide), e1]
    · rw [if_neg h4, if_pos (by decide), if_neg (by decide), e1]
theorem names_loop {H : Heap} {l : List (List UInt8)} (hl : l.length ≤ 100) (ht : ∀ t ∈ l, t.length ≤ 60) : iter (fun (s : Int) => gabionlaw17_DirNames_l0 H l s) (l.length + 1) 0 = some (.inr ()) := by
  have := iter_fold (step := fun (s : Int) => gabionlaw17_DirNames_l0 H l s) (l := l) (fun i _ => (i : Int)) (.inr ()) (fun i x hx => names_step hl hx (ht x (List.mem_of_getElem? hx))) (by
    show gabionlaw17_DirNames_l0 H l (l.length : Int) = _
    unfold gabionlaw17_DirNames_l0
    rw [if_neg (by omega)]) (d := l.length + 1) (by omega)
  exact this
theorem DirNames_pure (a0 : List UInt8) (h0 : a0.length ≤ 9223372036854775807) (a1 : Int) (_ : (Lit.int .i64 a1).wf = true) (a2 : Int) (_ : (Lit.int .i64 a2).wf = true) : ∃ H, gabionlaw17_DirNames ⟨[], []⟩ a0 a1 a2 = some (H, true) := by
  obtain ⟨H, hw⟩ := wakes0
  obtain ⟨s, hs, hlen⟩ : ∃ s, cutL a0 0 (mn (a0.length : Int) 50) = some s ∧ s.length ≤ 50 := by
    refine ⟨a0.take (min a0.length 50), ?_, by simp; omega⟩
    have : mn (a0.length : Int) 50 = ((min a0.length 50 : Nat) : Int) := by
      unfold mn; split <;> omega
    rw [this, show (0 : Int) = ((0 : Nat) : Int) from rfl, cutL_nat (by omega) (by omega), List.drop_zero]
  refine ⟨H, ?_⟩
  unfold gabionlaw17_DirNames
  rw [hs, Option.bind_some, show dir_Dir_Get ⟨[], []⟩ 0 s = some (⟨[], []⟩, 0, false) from rfl, Option.bind_some, hw, Option.bind_some, if_pos rfl, name_eq, Option.bind_some, rname_eq, Option.bind_some, if_neg (by simp), text_eq, Option.bind_some, rtext_eq, Option.bind_some, if_pos rfl, if_neg (by decide)]
  have hput : dir_Dir_Put H 0 s a1 = some (H, 1) := by unfold dir_Dir_Put; rw [name_eq]; rfl
  rw [hput, Option.bind_some, if_neg (show ¬ ((1 : Int) ≠ 1) by decide), show dir_Dir_Drop H 0 s = some (H, 1) from rfl, Option.bind_some, if_neg (show ¬ ((1 : Int) ≠ 1) by decide), show dir_Dir_Copy H 0 = some (H, 0) from rfl, Option.bind_some, if_pos rfl, show dir_Dir_Len H 0 = some (H, 0) from rfl, Option.bind_some,
    show dir_Dir_List H 0 = some (H, []) from rfl, Option.bind_some, show dir_Dir_Buckets H 0 = some (H, []) from rfl, Option.bind_some]
  unfold gabionlaw17_DirNames_j5
  rw [if_neg (show ¬ (decide (wi64 (wi64 ((0 : Int) + ((([] : List (List UInt8 × Int)).length : Nat) : Int)) + ((([] : List Int).length : Nat) : Int)) ≠ 0) = true) by decide), text_eq, Option.bind_some, catS_ok (by simp; omega), Option.bind_some, names_loop (by simp) ?_]
  · rfl
  · intro t ht
    have hx := text_len (x := (s, a1)) (k := a2)
    simp only [List.mem_cons, List.not_mem_nil, or_false] at ht
    rcases ht with rfl | rfl | rfl
    · omega
    · omega
    · simp; omega
end Gab
