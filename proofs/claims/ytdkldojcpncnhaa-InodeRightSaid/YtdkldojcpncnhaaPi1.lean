/- Inodes: how many blocks a size needs, which inodes may be, and what the law makes of any one. -/
import Derived.Test.YtdkldojcpncnhaaPe5
set_option linter.unusedVariables false
set_option linter.unusedSimpArgs false
namespace Gab
open Go

abbrev In := Int × Int × Int × List Rn × List UInt8
def needN (n : Int) : Int := if n < 1 then 0 else (n - 1) / 64 + 1
theorem need_eq {n : Int} (h : n ≤ 9223372036854775807) : inode_Need n = some (needN n) := by
  unfold inode_Need needN
  split
  · rfl
  · rw [w64 (n := n - 1) (by omega) (by omega), Int.tdiv_eq_ediv_of_nonneg (by omega), w64 (n := (n - 1) / 64) (by omega) (by omega), w64 (by omega) (by omega)]
theorem rneed_eq {n : Int} (h : n ≤ 9223372036854775807) : gabionref16_Need n = some (needN n) := by
  unfold gabionref16_Need needN
  split
  · rfl
  · rw [Int.tmod_eq_emod_of_nonneg (by omega), Int.tdiv_eq_ediv_of_nonneg (by omega), w64 (n := n / 64) (by omega) (by omega)]
    split
    · rw [w64 (by omega) (by omega)]; congr 1; omega
    · congr 1; omega

theorem contains_eq (l : List UInt8) : strings_Contains l [0] = some (l.any (· == 0)) := by
  have hx : decide (0 ≤ idxB l 0) = l.any (· == 0) := by
    unfold idxB
    rw [firstIdx_nonneg]; rfl
  unfold strings_Contains strings_Index stringslite_Index stringslite_Index_j2 stringslite_IndexByte
  by_cases h : ([0] : List UInt8) = l
  · subst h; simp
  · simp only [List.length_cons, List.length_nil]
    rw [if_neg (by decide), decide_eq_false h, if_neg (by decide), if_pos (by decide)]
    rw [show rd ([0] : List UInt8) 0 = some 0 from rfl]
    simp only [Option.bind_some]
    rw [← hx]; rfl

def fileB (x : In) : Bool := decide (0 ≤ x.2.2.1 ∧ x.2.2.1 ≤ 4194304) && RightB x.2.2.2.1 && decide (sumL x.2.2.2.1 = needN x.2.2.1) && decide (x.2.2.2.2 = [])
def linkB (x : In) : Bool := decide (1 ≤ x.2.2.2.2.length ∧ x.2.2.2.2.length ≤ 256 ∧ x.2.2.1 = (x.2.2.2.2.length : Int) ∧ x.2.2.2.1 = []) && !(x.2.2.2.2.any (· == 0))
def dirB (x : In) : Bool := decide (x.2.2.1 = 0 ∧ x.2.2.2.1 = [] ∧ x.2.2.2.2 = [])
def RightI (x : In) : Bool := decide (0 ≤ x.2.1 ∧ x.2.1 ≤ 1000) && (if x.1 = 1 then fileB x else if x.1 = 2 then dirB x else if x.1 = 3 then linkB x else false)
theorem len0 {α : Type} {l : List α} : ((l.length : Int) = 0) ↔ l = [] := by
  constructor
  · intro h; exact List.eq_nil_of_length_eq_zero (by omega)
  · rintro rfl; rfl
theorem file_eq {x : In} (hl : x.2.2.2.1.length ≤ 90000) (hs : x.2.2.1 ≤ 9223372036854775807) : inode_Inode_file x = some (fileB x) := by
  unfold inode_Inode_file fileB
  by_cases h1 : 0 ≤ x.2.2.1
  · rw [if_pos h1]
    by_cases h2 : x.2.2.1 ≤ 4194304
    · rw [if_pos h2, decide_eq_true (show 0 ≤ x.2.2.1 ∧ x.2.2.1 ≤ 4194304 from ⟨h1, h2⟩), right_eq (by omega), Option.bind_some]
      cases hr : RightB x.2.2.2.1 with
      | false => simp
      | true =>
        rw [if_pos rfl, blocks_eq (rightB_iff.1 hr).Bd (by omega), Option.bind_some, need_eq hs, Option.bind_some]
        split
        · rename_i h; simp [h]
        · rename_i h; simp [h]
    · rw [if_neg h2]; simp [h2]
  · rw [if_neg h1]; simp [h1]
theorem link_eq {x : In} : inode_Inode_link x = some (linkB x) := by
  unfold inode_Inode_link linkB
  simp only [contains_eq, Option.bind_some, len0]
  split
  · split
    · split
      · split
        · rename_i h1 h2 h3 h4
          rw [decide_eq_true (⟨by omega, by omega, h3, h4⟩ : 1 ≤ x.2.2.2.2.length ∧ x.2.2.2.2.length ≤ 256 ∧ x.2.2.1 = (x.2.2.2.2.length : Int) ∧ x.2.2.2.1 = [])]; simp
        · rename_i h1 h2 h3 h4; simp [h4]
      · rename_i h1 h2 h3; simp [h3]
    · rename_i h1 h2; rw [decide_eq_false (by omega)]; rfl
  · rename_i h1; rw [decide_eq_false (by omega)]; rfl
theorem dir_eq {x : In} : (if x.2.2.1 = 0 then (if (x.2.2.2.1.length : Int) = 0 then some (decide (x.2.2.2.2 = ([] : List UInt8))) else some false) else some false) = some (dirB x) := by
  unfold dirB
  simp only [len0]
  split
  · rename_i h
    split
    · rename_i h'; simp [h, h']
    · rename_i h'; simp [h']
  · rename_i h; simp [h]
theorem righti_eq {x : In} (hl : x.2.2.2.1.length ≤ 90000) (hs : x.2.2.1 ≤ 9223372036854775807) : inode_Inode_Right x = some (RightI x) := by
  unfold inode_Inode_Right RightI
  have key : ∀ b : Bool, b = false → inode_Inode_Right_j1 b x = some (if x.1 = 1 then fileB x else if x.1 = 2 then dirB x else if x.1 = 3 then linkB x else false) := by
    intro b hb
    subst hb
    unfold inode_Inode_Right_j1
    rw [if_neg (by simp)]
    split
    · rw [file_eq hl hs]; rfl
    · split
      · exact dir_eq
      · split
        · rw [link_eq]; rfl
        · rfl
  by_cases h1 : x.2.1 < 0
  · rw [if_pos h1]; unfold inode_Inode_Right_j1; rw [if_pos rfl, decide_eq_false (by omega)]; rfl
  · rw [if_neg h1]
    by_cases h2 : 1000 < x.2.1
    · rw [decide_eq_true h2]; unfold inode_Inode_Right_j1; rw [if_pos rfl, decide_eq_false (by omega)]; rfl
    · rw [key _ (decide_eq_false h2), decide_eq_true (by omega), Bool.true_and]

/-! ### The document's answer -/
theorem rsum_eq {x : In} (r : Rt x.2.2.2.1) : iter (fun (s : Int × Int) => gabionref16_Right_l0 x s.1 s.2) 100000 (0, 0) = some (sumL x.2.2.2.1) := by
  have hn := r.nn
  refine iter_fold (l := x.2.2.2.1) (S := fun i t => (sumL t, (i : Int))) _ (fun i y hy => ?_) ?_ (by have := r.len; omega)
  · have hi := (List.getElem?_eq_some_iff.1 hy).1
    have hm := List.mem_of_getElem? hy
    have h1 := sumL_nn (l := x.2.2.2.1.take i) fun e he => hn e (take_mem he)
    have h2 := r.bd y hm
    have h3 : sumL (x.2.2.2.1.take i) ≤ 99000 * i := by
      have := sumL_bd (l := x.2.2.2.1.take i) fun e he => by have := r.bd e (take_mem he); omega
      rw [List.length_take] at this; omega
    have h4 := r.len
    show gabionref16_Right_l0 x (sumL _) i = _
    unfold gabionref16_Right_l0
    rw [if_pos (by omega), rd_ok hy, Option.bind_some, take_next hy, sumL_app, w64 (by omega) (by omega), w64 (by omega) (by omega)]
    simp [sumL]
  · show gabionref16_Right_l0 x _ _ = _
    unfold gabionref16_Right_l0
    rw [if_neg (by omega)]
theorem rzero_eq {x : In} (hl : x.2.2.2.2.length < 100000) : iter (fun (s : Int) => gabionref16_Right_l1 x s) 100000 0 = some (if x.2.2.2.2.any (· == 0) then .inl false else .inr ()) := by
  have := iter_go (step := fun (s : Int) => gabionref16_Right_l1 x s) (l := x.2.2.2.2) (S := fun i (_ : Unit) => (i : Int)) (fun _ r _ => if r.any (· == 0) then .inl false else .inr ()) (fun _ _ => True) (fun _ _ => by
      show gabionref16_Right_l1 x _ = _
      unfold gabionref16_Right_l1
      rw [if_neg (by omega)]; rfl) (fun p y r b hp _ => by
      have hlt : p.length < x.2.2.2.2.length := by rw [hp]; simp
      show gabionref16_Right_l1 x _ = _ ∨ ∃ b', gabionref16_Right_l1 x _ = _ ∧ _
      unfold gabionref16_Right_l1
      rw [if_pos (by omega), rd_mid hp, Option.bind_some]
      have hy : ((y.toNat : Int) = 0) ↔ y = 0 := by
        constructor
        · intro h; exact UInt8.toNat_inj.1 (by show y.toNat = 0; omega)
        · rintro rfl; rfl
      by_cases h : (y.toNat : Int) = 0
      · left
        rw [if_pos h, hy.1 h]; simp
      · right
        refine ⟨(), ?_, trivial, ?_⟩
        · rw [if_neg h, w64 (by omega) (by omega)]; rfl
        · have : y ≠ 0 := fun e => h (hy.2 e)
          simp [this]) x.2.2.2.2 [] () 100000 rfl trivial hl
  simpa using this
theorem rrighti_eq {x : In} (hl : x.2.2.2.1.length ≤ 90000) (ht : x.2.2.2.2.length < 100000) (hs : x.2.2.1 ≤ 9223372036854775807) : gabionref16_Right x = some (RightI x) := by
  unfold gabionref16_Right RightI
  have hj6t : gabionref16_Right_j6 true x = some false := rfl
  have key : ∀ b : Bool, b = false → gabionref16_Right_j1 b x = some (if x.1 = 1 then fileB x else if x.1 = 2 then dirB x else if x.1 = 3 then linkB x else false) := by
    intro b hb
    subst hb
    unfold gabionref16_Right_j1
    rw [if_neg (by simp)]
    split
    · rw [rright_eq, Option.bind_some]
      unfold fileB
      cases hr : RightB x.2.2.2.1 with
      | false => simp [hj6t]
      | true =>
        rw [if_pos rfl]
        by_cases h1 : x.2.2.1 < 0
        · rw [if_pos h1, hj6t, decide_eq_false (by omega)]; rfl
        · rw [if_neg h1]
          by_cases h2 : 4194304 < x.2.2.1
          · rw [if_pos h2, hj6t, decide_eq_false (by omega)]; rfl
          · rw [if_neg h2, decide_eq_true (show 0 ≤ x.2.2.1 ∧ x.2.2.1 ≤ 4194304 by omega)]
            by_cases h3 : x.2.2.2.2 = []
            · simp only [h3, decide_true, Bool.not_true, Bool.and_true, Bool.true_and]
              unfold gabionref16_Right_j6
              rw [if_neg (by simp), rsum_eq (rightB_iff.1 hr), Option.bind_some, rneed_eq hs, Option.bind_some]
            · simp [h3, hj6t]
    · split
      · exact dir_eq
      · split
        · rw [rzero_eq ht, Option.bind_some]
          unfold linkB
          cases hz : x.2.2.2.2.any (· == 0) with
          | true => simp [on]
          | false =>
            simp only [Bool.false_eq_true, if_false, on, len0, Bool.not_false, Bool.and_true]
            split
            · split
              · split
                · rename_i h1 h2 h3
                  congr 1
                  rw [decide_eq_decide]
                  constructor
                  · intro h; exact ⟨by omega, by omega, h3, h⟩
                  · intro h; exact h.2.2.2
                · rename_i h1 h2 h3; simp [h3]
              · rename_i h1 h2; rw [decide_eq_false (by omega)]
            · rename_i h1; rw [decide_eq_false (by omega)]
        · rfl
  by_cases h1 : x.2.1 < 0
  · rw [if_pos h1]; unfold gabionref16_Right_j1; rw [if_pos rfl, decide_eq_false (by omega)]; rfl
  · rw [if_neg h1]
    by_cases h2 : 1000 < x.2.1
    · rw [decide_eq_true h2]; unfold gabionref16_Right_j1; rw [if_pos rfl, decide_eq_false (by omega)]; rfl
    · rw [key _ (decide_eq_false h2), decide_eq_true (by omega), Bool.true_and]

/-! ### What the law makes of any one -/
def cutI (x : In) : In := (x.1, x.2.1, x.2.2.1, x.2.2.2.1.take 70, x.2.2.2.2.take 300)
theorem cut_to {α : Type} {l : List α} {k : Nat} : cutL l 0 (mn (l.length : Int) k) = some (l.take k) := by
  have hmn : mn (l.length : Int) k = ((min l.length k : Nat) : Int) := by unfold mn; split <;> omega
  rw [hmn, show (0 : Int) = ((0 : Nat) : Int) from rfl, cutL_nat (by omega) (by omega), List.drop_zero]
  by_cases hh : l.length ≤ k
  · rw [List.take_of_length_le (by omega), List.take_of_length_le hh]
  · rw [show min l.length k = k by omega]
theorem icut_eq (x : In) : gabionlaw16_cut x = some (cutI x) := by
  unfold gabionlaw16_cut
  rw [show (70 : Int) = ((70 : Nat) : Int) from rfl, show (300 : Int) = ((300 : Nat) : Int) from rfl, cut_to, Option.bind_some, cut_to]; rfl
theorem of_eq {x : In} (hl : x.2.2.2.1.length ≤ 1000) : gabionlaw16_of x = some x := by
  unfold gabionlaw16_of
  have key : iter (fun (s : Int × In) => gabionlaw16_of_l0 x.2.2.2.1 ((0, 0, 0, [], ([] : List UInt8)) : In) s.1 s.2) (x.2.2.2.1.length + 1) (0, ((x.1, x.2.1, x.2.2.1, [], x.2.2.2.2) : In)) = some x := by
    refine iter_fold (l := x.2.2.2.1) (S := fun i t => ((i : Int), ((x.1, x.2.1, x.2.2.1, t, x.2.2.2.2) : In))) _ (fun i y hy => ?_) ?_ (Nat.lt_succ_self _)
    · have hi := (List.getElem?_eq_some_iff.1 hy).1
      show gabionlaw16_of_l0 x.2.2.2.1 _ i _ = _
      unfold gabionlaw16_of_l0
      rw [if_pos (by omega), rd_ok hy, Option.bind_some, appL_ok (by simp only [List.length_take, List.length_cons, List.length_nil]; omega), Option.bind_some, w64 (by omega) (by omega), take_next hy]; rfl
    · show gabionlaw16_of_l0 x.2.2.2.1 _ _ _ = _
      unfold gabionlaw16_of_l0
      rw [if_neg (by omega)]
  rw [key]; rfl
def tm2 (e : Rn) : Rn := (Int.tmod (mx (-1) e.1) 300, 1 + Int.tmod (mx 0 e.2) 4)
theorem tm2_bd (e : Rn) : -1 ≤ (tm2 e).1 ∧ (tm2 e).1 ≤ 299 ∧ 1 ≤ (tm2 e).2 ∧ (tm2 e).2 ≤ 4 := by
  unfold tm2
  simp only
  have h0 : 0 ≤ mx 0 e.2 := by unfold mx; split <;> omega
  have h1 : mx (-1) e.1 = -1 ∨ 0 ≤ mx (-1) e.1 := by unfold mx; split <;> omega
  rw [Int.tmod_eq_emod_of_nonneg h0]
  rcases h1 with h1 | h1
  · rw [h1]; rw [show Int.tmod (-1) 300 = -1 from rfl]; omega
  · rw [Int.tmod_eq_emod_of_nonneg h1]; omega
theorem tm2_sum {l : List Rn} : (l.length : Int) ≤ sumL (l.map tm2) ∧ sumL (l.map tm2) ≤ 4 * l.length := by
  induction l with
  | nil => simp [sumL]
  | cons e l ih => have := tm2_bd e; rw [List.map_cons, sumL, List.length_cons]; omega
theorem tame_loop {x : List Rn} (hxl : x.length ≤ 20) (zb1 zb2 zb3 : In) : iter (fun (s : (List Int) × Int) => gabionlaw16_tame_l0 x zb1 zb2 zb3 s.1 s.2) (x.length + 1) ([], 0) = some (blks (x.map tm2)) := by
  refine iter_fold (l := x) (S := fun i t => (blks (t.map tm2), (i : Int))) _ (fun i e hx => ?_) ?_ (Nat.lt_succ_self _)
  · have hi : i < x.length := (List.getElem?_eq_some_iff.1 hx).1
    have hb := tm2_bd e
    have hs : ((blks ((x.take i).map tm2)).length : Int) ≤ 4 * i := by
      rw [blks_len fun e he => by obtain ⟨y, _, rfl⟩ := List.mem_map.1 he; have := tm2_bd y; omega]
      have := tm2_sum (l := x.take i)
      rw [List.length_take] at this; omega
    show gabionlaw16_tame_l0 x zb1 zb2 zb3 (blks ((x.take i).map tm2)) i = _
    unfold gabionlaw16_tame_l0
    rw [if_pos (by omega), rd_ok hx, Option.bind_some]
    have hw : wi64 (1 + Int.tmod (mx 0 e.2) 4) = (tm2 e).2 := w64 (by unfold tm2 at hb; simp only at hb; omega) (by unfold tm2 at hb; simp only at hb; omega)
    have hA : Int.tmod (mx (-1) e.1) 300 = (tm2 e).1 := rfl
    rw [hw, hA, take_next hx, List.map_append, blks_app]
    simp only [List.map_cons, List.map_nil, blks_one]
    generalize tm2 e = g at hb
    generalize blks ((x.take i).map tm2) = o at hs
    have k1 : iter (fun (s : (List Int) × Int × Int) => gabionlaw16_tame_l1 g.1 x g.2 zb1 zb2 zb3 s.1 s.2.1 s.2.2) (g.2.toNat + 1) (o, (i : Int), 0) = some (o ++ blk g, (i : Int)) := by
      have := iter_fold (step := fun (s : (List Int) × Int × Int) => gabionlaw16_tame_l1 g.1 x g.2 zb1 zb2 zb3 s.1 s.2.1 s.2.2) (l := blk g) (S := fun k t => (o ++ t, (i : Int), (k : Int))) (o ++ blk g, (i : Int)) (fun k y hy => by
          have hk : k < g.2.toNat := by have := (List.getElem?_eq_some_iff.1 hy).1; rw [blk_len] at this; exact this
          have htl : ((blk g).take k).length ≤ k := by rw [List.length_take]; omega
          rw [take_next hy]
          rw [blk_get hk] at hy
          have hy := Option.some.inj hy
          show gabionlaw16_tame_l1 g.1 x g.2 zb1 zb2 zb3 (o ++ (blk g).take k) i k = _
          unfold gabionlaw16_tame_l1 gabionlaw16_tame_j16
          rw [if_pos (by omega), w64 (n := (k : Int) + 1) (by omega) (by omega)]
          by_cases hh : g.1 = -1
          · rw [if_pos hh] at hy
            rw [if_pos (by omega), appL_ok (by simp only [List.length_append, List.length_cons, List.length_nil]; omega), Option.bind_some, List.append_assoc, hy]; rfl
          · rw [if_neg hh] at hy
            rw [if_neg (by omega), appL_ok (by simp only [List.length_append, List.length_cons, List.length_nil]; omega), Option.bind_some, List.append_assoc, w64 (by omega) (by omega), hy]; rfl) (by
          show gabionlaw16_tame_l1 g.1 x g.2 zb1 zb2 zb3 (o ++ blk g) i ((blk g).length : Nat) = _
          unfold gabionlaw16_tame_l1
          rw [blk_len, if_neg (by omega)]) (d := g.2.toNat + 1) (by rw [blk_len]; omega)
      rw [List.append_nil] at this
      exact this
    rw [k1, Option.bind_some, w64 (n := (i : Int) + 1) (by omega) (by omega)]; rfl
  · show gabionlaw16_tame_l0 x zb1 zb2 zb3 _ x.length = _
    unfold gabionlaw16_tame_l0
    rw [if_neg (by omega)]
end Gab
