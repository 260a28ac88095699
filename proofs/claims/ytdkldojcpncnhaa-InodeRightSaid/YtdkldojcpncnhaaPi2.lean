/- Inodes as bytes, told again, and held against each other. -/
import Derived.Test.YtdkldojcpncnhaaPi1
import Derived.Test.YtdkldojcpncnhaaPb1
set_option linter.unusedVariables false
set_option linter.unusedSimpArgs false
namespace Gab
open Go

def nz (b : UInt8) : UInt8 := UInt8.ofNat (1 + b.toNat % 255)
theorem nz_ne (b : UInt8) : nz b ≠ 0 := by
  intro h
  have h1 : (nz b).toNat = 0 := by rw [h]; rfl
  unfold nz at h1
  rw [UInt8.toNat_ofNat'] at h1
  have := Nat.mod_lt b.toNat (show 0 < 255 by omega)
  omega
theorem nz_bytes (b : UInt8) : bytesOf [wu8 (1 + Int.tmod (b.toNat : Int) 255)] = [nz b] := by
  unfold bytesOf nz
  rw [List.map_cons, List.map_nil, wu8_eq, Int.tmod_eq_emod_of_nonneg (by omega)]
  have : ((1 + (b.toNat : Int) % 255) % 256).toNat = 1 + b.toNat % 255 := by omega
  rw [this]
theorem tame_str {y : In} (hl : y.2.2.2.2.length ≤ 300) {k lk : Int} (zb1 : In) : iter (fun (s : Int × In) => gabionlaw16_tame_l2 (y.2.2.2.2.length : Int) y zb1 s.1 s.2) (y.2.2.2.2.length + 1) (0, ((k, lk, 0, [], ([] : List UInt8)) : In)) = some (k, lk, 0, [], y.2.2.2.2.map nz) := by
  refine iter_fold (l := y.2.2.2.2) (S := fun i t => ((i : Int), ((k, lk, 0, [], t.map nz) : In))) _ (fun i b hb => ?_) ?_ (Nat.lt_succ_self _)
  · have hi := (List.getElem?_eq_some_iff.1 hb).1
    show gabionlaw16_tame_l2 (y.2.2.2.2.length : Int) y zb1 (i : Int) (k, lk, 0, [], (y.2.2.2.2.take i).map nz) = _
    unfold gabionlaw16_tame_l2
    rw [if_pos (by omega), rd_ok hb, Option.bind_some, nz_bytes, catS_ok (by simp only [List.length_map, List.length_take, List.length_cons, List.length_nil]; omega), Option.bind_some, w64 (by omega) (by omega), take_next hb, List.map_append]; rfl
  · show gabionlaw16_tame_l2 (y.2.2.2.2.length : Int) y zb1 (y.2.2.2.2.length : Int) (k, lk, 0, [], y.2.2.2.2.map nz) = _
    unfold gabionlaw16_tame_l2
    rw [if_neg (by omega)]
theorem kind_eq {k : Int} (h0 : 0 ≤ k) (h1 : k ≤ 255) : wu8 (1 + Int.tmod k 3) = 1 + k % 3 := by
  rw [wu8_eq, Int.tmod_eq_emod_of_nonneg h0]; omega
theorem rightB_nil : RightB [] = true := by decide
theorem tame_ok {x : In} (h0 : 0 ≤ x.1) (h1 : x.1 ≤ 255) : ∃ y, gabionlaw16_tame x = some y ∧ RightI y = true := by
  unfold gabionlaw16_tame
  rw [icut_eq, Option.bind_some]
  have e1 : (cutI x).1 = x.1 := rfl
  rw [e1, kind_eq h0 h1]
  have hlk : 0 ≤ Int.tmod (mx 0 (cutI x).2.1) 1001 ∧ Int.tmod (mx 0 (cutI x).2.1) 1001 ≤ 1000 := by
    have h0 : 0 ≤ mx 0 (cutI x).2.1 := by unfold mx; split <;> omega
    rw [Int.tmod_eq_emod_of_nonneg h0]; omega
  have hsz : 0 ≤ Int.tmod (mx 0 (cutI x).2.2.1) 64 ∧ Int.tmod (mx 0 (cutI x).2.2.1) 64 ≤ 63 := by
    have h0 : 0 ≤ mx 0 (cutI x).2.2.1 := by unfold mx; split <;> omega
    rw [Int.tmod_eq_emod_of_nonneg h0]; omega
  have hl : (cutI x).2.2.2.2.length ≤ 300 := by show (x.2.2.2.2.take 300).length ≤ 300; rw [List.length_take]; omega
  generalize Int.tmod (mx 0 (cutI x).2.1) 1001 = lk at hlk
  generalize Int.tmod (mx 0 (cutI x).2.2.1) 64 = sz at hsz
  by_cases hk1 : 1 + x.1 % 3 = 1
  · rw [if_pos hk1, show (10 : Int) = ((10 : Nat) : Int) from rfl, cut_to, Option.bind_some, hk1]
    have hxl : ((cutI x).2.2.2.1.take 10).length ≤ 10 := by rw [List.length_take]; omega
    generalize (cutI x).2.2.2.1.take 10 = b at hxl
    rw [tame_loop (by omega), Option.bind_some]
    have hall : ∀ e ∈ b.map tm2, 1 ≤ e.2 ∧ -1 ≤ e.1 ∧ e.1 ≤ 1099511627776 := fun e he => by
      obtain ⟨y, _, rfl⟩ := List.mem_map.1 he
      have := tm2_bd y; omega
    have hs := tm2_sum (l := b)
    have hbl : ((blks (b.map tm2)).length : Int) = sumL (b.map tm2) := blks_len fun e he => by have := hall e he; omega
    rw [runs_blks hall (by omega), Option.bind_some]
    have hst := tog_sum (l := b.map tm2)
    have hrt : Rt (tog (b.map tm2)) := by
      have g1 := tog_all (l := b.map tm2) (P := fun a => -1 ≤ a ∧ a ≤ 299) (fun e he => by
        obtain ⟨y, _, rfl⟩ := List.mem_map.1 he
        have := tm2_bd y; omega)
      have g4 := mem_sum (l := tog (b.map tm2)) (fun e he => by have := g1 e he; omega)
      have g5 := fold_len (l := b.map tm2) (p := [])
      rw [List.length_map, List.length_nil] at g5
      have g6 : (tog (b.map tm2)).length ≤ 10 := by unfold tog; omega
      exact ⟨tog_njo, fun e he => by have := g1 e he; have := g4 e he; omega, by omega, by omega⟩
    have hrb := rightB_iff.2 hrt
    by_cases hb : 0 < ((blks (b.map tm2)).length : Int)
    · rw [if_pos hb]
      refine ⟨_, rfl, ?_⟩
      simp only
      rw [w64 (n := 64 * ((blks (b.map tm2)).length : Int)) (by omega) (by omega), w64 (by omega) (by omega)]
      unfold RightI fileB
      simp only [if_true]
      rw [hrb, hst, decide_eq_true (show 0 ≤ lk ∧ lk ≤ 1000 by omega), decide_eq_true (show 0 ≤ 64 * ((blks (b.map tm2)).length : Int) - sz ∧ 64 * ((blks (b.map tm2)).length : Int) - sz ≤ 4194304 by omega)]
      rw [decide_eq_true (show sumL (b.map tm2) = needN (64 * ((blks (b.map tm2)).length : Int) - sz) by unfold needN; rw [if_neg (by omega)]; omega)]
      rfl
    · rw [if_neg hb]
      refine ⟨_, rfl, ?_⟩
      simp only
      unfold RightI fileB
      simp only [if_true]
      rw [hrb, hst, decide_eq_true (show 0 ≤ lk ∧ lk ≤ 1000 by omega)]
      rw [decide_eq_true (show sumL (b.map tm2) = needN 0 by show _ = (0 : Int); omega)]
      rfl
  · rw [if_neg hk1]
    by_cases hk3 : 1 + x.1 % 3 = 3
    · rw [if_pos hk3, hk3, tame_str hl, Option.bind_some]
      simp only
      have hml : ((cutI x).2.2.2.2.map nz).length ≤ 300 := by rw [List.length_map]; exact hl
      have hnz : ∀ b ∈ (cutI x).2.2.2.2.map nz, b ≠ 0 := fun b hb => by
        obtain ⟨c, _, rfl⟩ := List.mem_map.1 hb
        exact nz_ne c
      generalize (cutI x).2.2.2.2.map nz = t at hml hnz
      rw [catS_ok (by simp only [List.length_cons, List.length_nil]; omega), Option.bind_some, w64 (by omega) (by omega)]
      have hln : ((t.length : Int) + 1) = ((t ++ [97]).length : Int) := by rw [List.length_append]; rfl
      rw [hln, show (256 : Int) = ((256 : Nat) : Int) from rfl, cut_to, Option.bind_some]
      refine ⟨_, rfl, ?_⟩
      unfold RightI linkB
      simp only
      rw [if_neg (by decide), if_neg (by decide), if_pos trivial, decide_eq_true (show 0 ≤ lk ∧ lk ≤ 1000 by omega)]
      have hlt : ((t ++ [97]).take 256).length = min 256 (t.length + 1) := by rw [List.length_take, List.length_append]; rfl
      have hany : ((t ++ [97]).take 256).any (· == 0) = false := by
        rw [List.any_eq_false]
        intro b hb
        have hb := List.mem_of_mem_take hb
        rcases List.mem_append.1 hb with hb | hb
        · have := hnz b hb; simpa using this
        · rw [List.mem_singleton] at hb; subst hb; decide
      simp only [Bool.true_and, Bool.and_eq_true, decide_eq_true_iff, Bool.not_eq_true', hany, and_true]
      omega
    · rw [if_neg hk3]
      refine ⟨_, rfl, ?_⟩
      have hk2 : 1 + x.1 % 3 = 2 := by omega
      unfold RightI dirB
      simp only [hk2]
      rw [if_neg (by decide), if_pos trivial, decide_eq_true (show 0 ≤ lk ∧ lk ≤ 1000 by omega)]
      rfl

/-- What may be. -/
theorem right_bd {x : In} (h : RightI x = true) : x.2.2.2.1.length ≤ 64 ∧ 0 ≤ x.2.2.1 ∧ x.2.2.1 ≤ 4194304 ∧ x.2.2.2.2.length ≤ 256 ∧ 0 ≤ x.2.1 ∧ x.2.1 ≤ 1000 ∧ 1 ≤ x.1 ∧ x.1 ≤ 3 ∧ RightB x.2.2.2.1 = true ∧ (x.1 = 1 → x.2.2.2.2 = []) ∧ (x.1 ≠ 1 → x.2.2.2.1 = []) ∧ (x.1 = 2 → x.2.2.2.2 = []) := by
  unfold RightI at h
  simp only [Bool.and_eq_true, decide_eq_true_iff] at h
  obtain ⟨hl, h⟩ := h
  split at h
  · rename_i hk
    unfold fileB at h
    simp only [Bool.and_eq_true, decide_eq_true_iff] at h
    obtain ⟨⟨⟨h1, h2⟩, h3⟩, h4⟩ := h
    have r := rightB_iff.1 h2
    exact ⟨r.len, h1.1, h1.2, by rw [h4]; simp, hl.1, hl.2, by omega, by omega, h2, fun _ => h4, fun e => absurd hk e, fun _ => h4⟩
  · split at h
    · rename_i hk1 hk
      unfold dirB at h
      simp only [decide_eq_true_iff] at h
      obtain ⟨h1, h2, h3⟩ := h
      rw [h1, h2, h3]
      exact ⟨by simp, by omega, by omega, by simp, hl.1, hl.2, by omega, by omega, rightB_nil, fun _ => rfl, fun _ => rfl, fun _ => rfl⟩
    · split at h
      · rename_i hk1 hk2 hk
        unfold linkB at h
        simp only [Bool.and_eq_true, decide_eq_true_iff] at h
        obtain ⟨⟨h1, h2, h3, h4⟩, h5⟩ := h
        rw [h4]
        exact ⟨by simp, by omega, by omega, h2, hl.1, hl.2, by omega, by omega, rightB_nil, fun e => absurd e hk1, fun _ => rfl, fun e => absurd e hk2⟩
      · cases h

/-! ### Bytes -/
def bytesI (x : In) (n : Int) : List UInt8 := putN 2 n ++ bytesOf [x.1] ++ putN 2 x.2.1 ++ putN 4 x.2.2.1 ++ textL x.2.2.2.1 ++ x.2.2.2.2
def textI (x : In) (n : Int) : List UInt8 := if RightI x = true ∧ 0 ≤ n ∧ n ≤ 65535 then bytesI x n else []
theorem u64 {n : Int} (h0 : 0 ≤ n) (h1 : n ≤ 9223372036854775807) : wu64 n = n := IntWalk.u64_in _ ⟨h0, by omega⟩
theorem texti_eq {x : In} (hl : x.2.2.2.1.length ≤ 90000) (hs : x.2.2.1 ≤ 9223372036854775807) (n : Int) : inode_Inode_Text x n = some (textI x n) := by
  unfold inode_Inode_Text textI
  have hj1t : inode_Inode_Text_j1 n true x = some [] := rfl
  rw [righti_eq hl hs, Option.bind_some]
  cases hr : RightI x with
  | false => simp [hj1t]
  | true =>
    rw [if_pos rfl]
    by_cases h1 : n < 0
    · rw [if_pos h1, hj1t, if_neg (by omega)]
    · rw [if_neg h1]
      by_cases h2 : 65535 < n
      · rw [decide_eq_true h2, hj1t, if_neg (by omega)]
      · rw [decide_eq_false h2, if_pos ⟨rfl, by omega, by omega⟩]
        obtain ⟨b1, b2, b3, b4, b5, b6, b7, b8, b9, _⟩ := right_bd hr
        unfold inode_Inode_Text_j1
        rw [if_neg (by simp), u64 (n := n) (by omega) (by omega), u64 (n := x.2.1) (by omega) (by omega), u64 (n := x.2.2.1) (by omega) (by omega)]
        have p1 := put_N (v := n) (k := 2) (by omega) (by omega)
        have p2 := put_N (v := x.2.1) (k := 2) (by omega) (by omega)
        have p3 := put_N (v := x.2.2.1) (k := 4) (by omega) (by omega)
        have q1 := putN_len 2 n
        have q2 := putN_len 2 x.2.1
        have q3 := putN_len 4 x.2.2.1
        have q4 := textL_len (l := x.2.2.2.1)
        have q5 : (bytesOf [x.1]).length = 1 := rfl
        rw [show ((2 : Nat) : Int) = 2 from rfl] at p1 p2
        rw [show ((4 : Nat) : Int) = 4 from rfl] at p3
        rw [p1, Option.bind_some, catS_ok (by omega), Option.bind_some, p2, Option.bind_some, catS_ok (by simp only [List.length_append]; omega), Option.bind_some, p3, Option.bind_some, catS_ok (by simp only [List.length_append]; omega), Option.bind_some]
        unfold inode_Inode_Text_j3
        rw [text_eq (by omega), if_pos b9, Option.bind_some, catS_ok (by simp only [List.length_append]; omega), Option.bind_some, catS_ok (by simp only [List.length_append]; omega), Option.bind_some]
        rfl
theorem rtexti_eq {x : In} (hl : x.2.2.2.1.length ≤ 90000) (ht : x.2.2.2.2.length < 100000) (hs : x.2.2.1 ≤ 9223372036854775807) (n : Int) : gabionref16_Text x n = some (textI x n) := by
  unfold gabionref16_Text textI
  have hj1t : gabionref16_Text_j2 n true x = some [] := rfl
  rw [rrighti_eq hl ht hs, Option.bind_some]
  cases hr : RightI x with
  | false => simp [hj1t]
  | true =>
    rw [if_pos rfl]
    by_cases h1 : n < 0
    · rw [if_pos h1, hj1t, if_neg (by omega)]
    · rw [if_neg h1]
      by_cases h2 : 65535 < n
      · rw [decide_eq_true h2, hj1t, if_neg (by omega)]
      · rw [decide_eq_false h2, if_pos ⟨rfl, by omega, by omega⟩]
        obtain ⟨b1, b2, b3, b4, b5, b6, b7, b8, b9, _⟩ := right_bd hr
        unfold gabionref16_Text_j2
        rw [if_neg (by simp), u64 (n := n) (by omega) (by omega), u64 (n := x.2.1) (by omega) (by omega), u64 (n := x.2.2.1) (by omega) (by omega)]
        have p1 := rput_N (v := n) (k := 2) (by omega) (by omega) (by omega)
        have p2 := rput_N (v := x.2.1) (k := 2) (by omega) (by omega) (by omega)
        have p3 := rput_N (v := x.2.2.1) (k := 4) (by omega) (by omega) (by omega)
        have q1 := putN_len 2 n
        have q2 := putN_len 2 x.2.1
        have q3 := putN_len 4 x.2.2.1
        have q4 := textL_len (l := x.2.2.2.1)
        have q5 : (bytesOf [x.1]).length = 1 := rfl
        rw [show ((2 : Nat) : Int) = 2 from rfl] at p1 p2
        rw [show ((4 : Nat) : Int) = 4 from rfl] at p3
        rw [p1, Option.bind_some, p2, Option.bind_some, p3, Option.bind_some, rtext_eq (by omega), if_pos b9, Option.bind_some, catS_ok (by omega), Option.bind_some, catS_ok (by simp only [List.length_append]; omega), Option.bind_some, catS_ok (by simp only [List.length_append]; omega), Option.bind_some, catS_ok (by simp only [List.length_append]; omega), Option.bind_some, catS_ok (by simp only [List.length_append]; omega), Option.bind_some]
        rfl
theorem runs_equal {a b : List Rn} (hl : a.length ≤ 100000) : slices_Equal_ext_List_alloc_Extent a b = some (decide (a = b)) := by
  unfold slices_Equal_ext_List_alloc_Extent
  by_cases h : (a.length : Int) ≠ (b.length : Int)
  · rw [if_pos h, decide_eq_false (fun e => h (by rw [e]))]
  · rw [if_neg h]
    have hab : a.length = b.length := by omega
    have := iter_go (step := fun (s : Int) => slices_Equal_ext_List_alloc_Extent_l0 a b s) (l := a) (S := fun i (_ : Unit) => (i : Int)) (fun p r _ => if r = b.drop p.length then .inr () else .inl false) (fun _ _ => True) (fun _ _ => by
      show slices_Equal_ext_List_alloc_Extent_l0 a b _ = _
      unfold slices_Equal_ext_List_alloc_Extent_l0
      rw [if_neg (by omega), hab, List.drop_length]; rfl) (fun p x r _ hp _ => by
      have hlt : p.length < a.length := by rw [hp]; simp
      have hb : b[p.length]? = some (b[p.length]'(by omega)) := List.getElem?_eq_getElem (by omega)
      show slices_Equal_ext_List_alloc_Extent_l0 a b _ = _ ∨ ∃ b', slices_Equal_ext_List_alloc_Extent_l0 a b _ = _ ∧ _
      unfold slices_Equal_ext_List_alloc_Extent_l0
      rw [if_pos (by omega), rd_mid hp, Option.bind_some, rd_ok hb, Option.bind_some]
      have hdr : b.drop p.length = b[p.length]'(by omega) :: b.drop (p.length + 1) := List.drop_eq_getElem_cons (by omega)
      generalize b[p.length]'(by omega) = y at hdr
      by_cases hxy : x = y
      · right
        subst hxy
        refine ⟨(), ?_, trivial, ?_⟩
        · rw [if_pos (by simp), w64 (by omega) (by omega)]; rfl
        · rw [hdr]; simp
      · left
        rw [if_neg (by
          simp only [Bool.and_true, Bool.and_eq_true, decide_eq_true_iff]
          exact fun h => hxy (Prod.ext h.1 h.2)), hdr, if_neg (fun e => hxy (List.cons.inj e).1)]) a [] () (a.length + 1) rfl trivial (Nat.lt_succ_self _)
    simp only [List.length_nil, List.drop_zero] at this
    rw [show (0 : Int) = ((0 : Nat) : Int) from rfl, this, Option.bind_some]
    split
    · rename_i h; rw [decide_eq_true h]; rfl
    · rename_i h; rw [decide_eq_false h]; rfl
theorem equal_eq {x y : In} (hl : x.2.2.2.1.length ≤ 100000) : inode_Equal x y = some (decide (x = y)) := by
  unfold inode_Equal
  rw [runs_equal hl]
  obtain ⟨a1, a2, a3, a4, a5⟩ := x
  obtain ⟨b1, b2, b3, b4, b5⟩ := y
  simp only [Option.bind_some, Prod.mk.injEq]
  by_cases h1 : a1 = b1 <;> by_cases h2 : a2 = b2 <;> by_cases h3 : a3 = b3 <;> by_cases h4 : a4 = b4 <;> simp [h1, h2, h3, h4]
theorem inode_wakes : gabionlaw16_wakes = some true := by decide +kernel
end Gab
