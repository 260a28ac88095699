/- The blocks of a list of runs, and the fewest runs of blocks. -/
import Derived.Test.YtdkldojcpncnhaaPe1
set_option linter.unusedVariables false
set_option linter.unusedSimpArgs false
namespace Gab
open Go

def blk (e : Rn) : List Int := (List.range e.2.toNat).map fun (k : Nat) => if e.1 = -1 then -1 else e.1 + (k : Int)
def blks (l : List Rn) : List Int := l.flatMap blk
def Bd (l : List Rn) : Prop := ∀ e ∈ l, 1 ≤ e.2 ∧ e.2 ≤ 99000 ∧ -1 ≤ e.1 ∧ e.1 ≤ 1099511627776
theorem blk_len {e : Rn} : (blk e).length = e.2.toNat := by simp [blk]
theorem blk_get {e : Rn} {i : Nat} (h : i < e.2.toNat) : (blk e)[i]? = some (if e.1 = -1 then -1 else e.1 + (i : Int)) := by
  unfold blk
  rw [List.getElem?_map, List.getElem?_range h]; rfl
theorem blks_app {l m : List Rn} : blks (l ++ m) = blks l ++ blks m := by simp [blks]
theorem blks_cons {e : Rn} {m : List Rn} : blks (e :: m) = blk e ++ blks m := by simp [blks]
theorem blks_nil : blks [] = [] := rfl
theorem blks_one {e : Rn} : blks [e] = blk e := by simp [blks]
theorem blks_len {l : List Rn} (h : ∀ e ∈ l, 0 ≤ e.2) : ((blks l).length : Int) = sumL l := by
  induction l with
  | nil => rfl
  | cons e l ih =>
    have h1 := h e (by simp)
    rw [blks_cons, List.length_append, blk_len, sumL, ← ih fun x hx => h x (by simp [hx])]
    omega
theorem Bd.nn {l : List Rn} (h : Bd l) : ∀ e ∈ l, 0 ≤ e.2 := fun e he => by have := h e he; omega
theorem sumL_nn {l : List Rn} (h : ∀ e ∈ l, 0 ≤ e.2) : 0 ≤ sumL l := by rw [← blks_len h]; omega
theorem sumL_bd {l : List Rn} (h : ∀ e ∈ l, e.2 ≤ 99000) : sumL l ≤ 99000 * l.length := by
  induction l with
  | nil => simp [sumL]
  | cons e l ih =>
    have h1 := h e (by simp)
    have h2 := ih fun x hx => h x (by simp [hx])
    rw [sumL, List.length_cons]; omega
theorem Bd.sum {l : List Rn} (h : Bd l) : sumL l ≤ 99000 * l.length := sumL_bd fun e he => (h e he).2.1
theorem sum_ge {l : List Rn} (h : ∀ e ∈ l, 1 ≤ e.2) : (l.length : Int) ≤ sumL l := by
  induction l with
  | nil => simp [sumL]
  | cons e l ih =>
    have h1 := h e (by simp)
    have h2 := ih fun x hx => h x (by simp [hx])
    rw [sumL, List.length_cons]; omega
theorem take_next {α : Type} {l : List α} {i : Nat} {x : α} (h : l[i]? = some x) : l.take (i + 1) = l.take i ++ [x] := by
  rw [List.take_add_one, h]; rfl
theorem take_mem {α : Type} {l : List α} {i : Nat} {x : α} (h : x ∈ l.take i) : x ∈ l := List.mem_of_mem_take h
theorem rblocks_eq {l : List Rn} (h : Bd l) (hl : l.length ≤ 99000) : gabionref15_Blocks l = some (blks l) := by
  unfold gabionref15_Blocks
  have key : iter (fun (s : (List Int) × Int) => gabionref15_Blocks_l0 l s.1 s.2) 100000 ([], 0) = some (blks l) := by
    refine iter_fold (l := l) (S := fun i t => (blks t, (i : Int))) _ (fun i x hx => ?_) ?_ (by omega)
    · have hi : i < l.length := (List.getElem?_eq_some_iff.1 hx).1
      have hb := h x (List.mem_of_getElem? hx)
      have hs : ((blks (l.take i)).length : Int) ≤ 99000 * i := by
        rw [blks_len fun e he => h.nn e (take_mem he)]
        have := Bd.sum (l := l.take i) (fun e he => h e (take_mem he))
        rw [List.length_take] at this; omega
      show gabionref15_Blocks_l0 l (blks (l.take i)) i = _
      unfold gabionref15_Blocks_l0
      rw [if_pos (by omega)]
      have k1 : iter (fun (s : (List Int) × Int × Int) => gabionref15_Blocks_l1 l s.1 s.2.1 s.2.2) 100000 (blks (l.take i), (i : Int), 0) = some (blks (l.take i) ++ blk x, (i : Int)) := by
        have := iter_fold (step := fun (s : (List Int) × Int × Int) => gabionref15_Blocks_l1 l s.1 s.2.1 s.2.2) (l := blk x) (S := fun k t => (blks (l.take i) ++ t, (i : Int), (k : Int))) (blks (l.take i) ++ blk x, (i : Int)) (fun k y hy => by
            have hk : k < x.2.toNat := by have := (List.getElem?_eq_some_iff.1 hy).1; rw [blk_len] at this; exact this
            have htl : ((blk x).take k).length ≤ k := by rw [List.length_take]; omega
            rw [take_next hy]
            rw [blk_get hk] at hy
            have hy := Option.some.inj hy
            show gabionref15_Blocks_l1 l (blks (l.take i) ++ (blk x).take k) i k = _
            unfold gabionref15_Blocks_l1 gabionref15_Blocks_j9
            simp only [rd_ok hx, Option.bind_some]
            rw [if_pos (by omega), w64 (n := (k : Int) + 1) (by omega) (by omega)]
            by_cases hh : x.1 = -1
            · rw [if_pos hh] at hy ⊢
              rw [appL_ok (by simp only [List.length_append, List.length_cons, List.length_nil]; omega), Option.bind_some, List.append_assoc, hy]; rfl
            · rw [if_neg hh] at hy ⊢
              rw [appL_ok (by simp only [List.length_append, List.length_cons, List.length_nil]; omega), Option.bind_some, List.append_assoc, w64 (by omega) (by omega), hy]; rfl) (by
            show gabionref15_Blocks_l1 l (blks (l.take i) ++ blk x) i ((blk x).length : Nat) = _
            unfold gabionref15_Blocks_l1
            rw [blk_len]
            simp only [rd_ok hx, Option.bind_some]
            rw [if_neg (by omega)]) (d := 100000) (by rw [blk_len]; omega)
        rw [List.append_nil] at this
        exact this
      rw [k1, Option.bind_some, take_next hx, blks_app, blks_one, w64 (n := (i : Int) + 1) (by omega) (by omega)]; rfl
    · show gabionref15_Blocks_l0 l (blks l) l.length = _
      unfold gabionref15_Blocks_l0
      rw [if_neg (by omega)]
  rw [key]; rfl
theorem blocks_eq {l : List Rn} (h : Bd l) (hl : l.length ≤ 99000) : ext_List_Blocks l = some (sumL l) := by
  unfold ext_List_Blocks
  have key : iter (fun (s : Int × Int) => ext_List_Blocks_l0 l s.1 s.2) (l.length + 1) (0, 0) = some (sumL l) := by
    refine iter_fold (l := l) (S := fun i t => (sumL t, (i : Int))) _ (fun i x hx => ?_) ?_ (Nat.lt_succ_self _)
    · have hi : i < l.length := (List.getElem?_eq_some_iff.1 hx).1
      have hb := h x (List.mem_of_getElem? hx)
      have h1 := Bd.sum (l := l.take i) (fun e he => h e (take_mem he))
      have h2 := sumL_nn (l := l.take i) (fun e he => h.nn e (take_mem he))
      rw [List.length_take] at h1
      show ext_List_Blocks_l0 l (sumL (l.take i)) i = _
      unfold ext_List_Blocks_l0
      rw [if_pos (by omega), rd_ok hx, Option.bind_some, take_next hx, sumL_app, w64 (n := (i : Int) + 1) (by omega) (by omega), w64 (by omega) (by omega)]
      simp [sumL]
    · show ext_List_Blocks_l0 l (sumL l) l.length = _
      unfold ext_List_Blocks_l0
      rw [if_neg (by omega)]
  rw [key]; rfl
def heldL : List Rn → Int
  | [] => 0
  | e :: r => (if e.1 = -1 then 0 else e.2) + heldL r
theorem heldL_app {l m : List Rn} : heldL (l ++ m) = heldL l + heldL m := by
  induction l with
  | nil => simp [heldL]
  | cons a l ih => simp only [List.cons_append, heldL, ih]; omega
theorem heldL_le {l : List Rn} (h : ∀ e ∈ l, 0 ≤ e.2) : 0 ≤ heldL l ∧ heldL l ≤ sumL l := by
  induction l with
  | nil => simp [heldL, sumL]
  | cons e l ih =>
    have h1 := h e (by simp)
    have h2 := ih fun x hx => h x (by simp [hx])
    rw [heldL, sumL]; split <;> omega
theorem held_eq {l : List Rn} (h : Bd l) (hl : l.length ≤ 99000) : ext_List_Held l = some (heldL l) := by
  unfold ext_List_Held
  have key : iter (fun (s : Int × Int) => ext_List_Held_l0 l s.1 s.2) (l.length + 1) (0, 0) = some (heldL l) := by
    refine iter_fold (l := l) (S := fun i t => (heldL t, (i : Int))) _ (fun i x hx => ?_) ?_ (Nat.lt_succ_self _)
    · have hi : i < l.length := (List.getElem?_eq_some_iff.1 hx).1
      have hb := h x (List.mem_of_getElem? hx)
      have h1 := Bd.sum (l := l.take i) (fun e he => h e (take_mem he))
      have h2 := heldL_le (l := l.take i) (fun e he => h.nn e (take_mem he))
      rw [List.length_take] at h1
      show ext_List_Held_l0 l (heldL (l.take i)) i = _
      unfold ext_List_Held_l0 ext_List_Held_j7
      rw [if_pos (by omega), rd_ok hx, Option.bind_some, take_next hx, heldL_app, w64 (n := (i : Int) + 1) (by omega) (by omega), w64 (by omega) (by omega)]
      by_cases hh : x.1 = -1
      · rw [if_neg (fun g => g hh)]; simp [heldL, hh]
      · rw [if_pos hh]; simp [heldL, hh]
    · show ext_List_Held_l0 l (heldL l) l.length = _
      unfold ext_List_Held_l0
      rw [if_neg (by omega)]
  rw [key]; rfl

/-! ### The fewest runs -/
def push (out : List Rn) (e : Rn) : List Rn :=
  match out.getLast? with
  | some q => if jn q e then out.dropLast ++ [(q.1, q.2 + e.2)] else out ++ [e]
  | none => out ++ [e]
def tog (l : List Rn) : List Rn := l.foldl push []
def unit (x : Int) : Rn := (x, 1)
theorem push_nil {e : Rn} : push [] e = [e] := rfl
theorem push_snoc {p : List Rn} {q e : Rn} : push (p ++ [q]) e = if jn q e then p ++ [(q.1, q.2 + e.2)] else p ++ [q] ++ [e] := by
  unfold push; rw [getLast_snoc]; simp
theorem push_bd {p : List Rn} {e : Rn} {m : Int} (hp : ∀ q ∈ p, 0 ≤ q.2 ∧ q.2 ≤ m) (hm : 0 ≤ m) (he : 0 ≤ e.2) : ∀ q ∈ push p e, 0 ≤ q.2 ∧ q.2 ≤ m + e.2 := by
  by_cases hn : p = []
  · subst hn; intro q hq; rw [push_nil, List.mem_singleton] at hq; subst hq; omega
  · obtain ⟨p, l, rfl⟩ := snoc hn
    rw [push_snoc]
    intro q hq
    have hl := hp l (by simp)
    split at hq
    · rcases List.mem_append.1 hq with h | h
      · have := hp q (by simp [h]); omega
      · rw [List.mem_singleton] at h; subst h; simp only; omega
    · rcases List.mem_append.1 hq with h | h
      · have := hp q h; omega
      · rw [List.mem_singleton] at h; subst h; omega
theorem fold_bd : ∀ {l p : List Rn} {m : Int}, (∀ q ∈ p, 0 ≤ q.2 ∧ q.2 ≤ m) → 0 ≤ m → (∀ e ∈ l, 0 ≤ e.2) → ∀ q ∈ l.foldl push p, 0 ≤ q.2 ∧ q.2 ≤ m + sumL l
  | [], p, m, hp, _, _ => by simpa [sumL] using hp
  | e :: l, p, m, hp, hm, hl => by
    have he := hl e (by simp)
    have := fold_bd (l := l) (push_bd hp hm he) (by omega) fun x hx => hl x (by simp [hx])
    intro q hq
    have := this q hq
    rw [sumL]; omega
/-- The element that the code puts. -/
theorem push_len {p : List Rn} {e : Rn} : (push p e).length ≤ p.length + 1 := by
  by_cases hn : p = []
  · subst hn; simp [push_nil]
  · obtain ⟨p, l, rfl⟩ := snoc hn
    rw [push_snoc]; split <;> simp
theorem fold_len : ∀ {l p : List Rn}, (l.foldl push p).length ≤ p.length + l.length
  | [], p => by simp
  | e :: l, p => by
    have := fold_len (l := l) (p := push p e)
    have := push_len (p := p) (e := e)
    simp only [List.foldl_cons, List.length_cons]; omega
theorem sumL_unit {b : List Int} : sumL (b.map unit) = b.length := by
  induction b with
  | nil => rfl
  | cons x b ih => simp only [List.map_cons, sumL, ih, unit, List.length_cons]; omega
theorem runs_eq {b : List Int} (hb : b.length < 100000) : gabionref15_Runs b = some (tog (b.map unit)) := by
  unfold gabionref15_Runs
  have key : iter (fun (s : (List Rn) × Int) => gabionref15_Runs_l0 b s.1 s.2) 100000 ([], 0) = some (tog (b.map unit)) := by
    refine iter_fold (l := b) (S := fun i t => (tog (t.map unit), (i : Int))) _ (fun i x hx => ?_) ?_ hb
    · have hi : i < b.length := (List.getElem?_eq_some_iff.1 hx).1
      have hT : tog ((b.take (i + 1)).map unit) = push (tog ((b.take i).map unit)) (unit x) := by
        rw [take_next hx, List.map_append]; unfold tog; rw [List.foldl_append]; rfl
      have hbd := fold_bd (l := (b.take i).map unit) (p := []) (m := 0) (by simp) (by omega) (fun e he => by obtain ⟨z, _, rfl⟩ := List.mem_map.1 he; exact (by decide : (0 : Int) ≤ 1))
      have hlen := fold_len (l := (b.take i).map unit) (p := [])
      rw [sumL_unit, List.length_take] at hbd
      rw [List.length_map, List.length_take, List.length_nil] at hlen
      rw [hT]
      show gabionref15_Runs_l0 b (tog ((b.take i).map unit)) i = _
      unfold tog
      generalize ((b.take i).map unit).foldl push [] = out at hbd hlen
      unfold gabionref15_Runs_l0 gabionref15_Runs_j11 gabionref15_Runs_j10
      rw [if_pos (by omega), w64 (n := (i : Int) + 1) (by omega) (by omega)]
      by_cases hn : out = []
      · subst hn
        rw [if_neg (by simp), rd_ok hx, Option.bind_some, appL_ok (by simp), Option.bind_some]; rfl
      · obtain ⟨p, q, rfl⟩ := snoc hn
        have hq := hbd q (by simp)
        have hpl : (p ++ [q]).length = p.length + 1 := by simp
        rw [if_pos (by omega), w64 (n := ((p ++ [q]).length : Int) - 1) (by omega) (by omega), show ((p ++ [q]).length : Int) - 1 = (p.length : Nat) by omega]
        simp only [rd_last, Option.bind_some, rd_ok hx, rjoins_eq, push_snoc]
        show (if jn q (unit x) = true then _ else _) = _
        by_cases hj : jn q (unit x) = true
        · rw [if_pos hj, if_pos hj, w64 (by omega) (by omega)]
          simp [unit]
        · rw [if_neg hj, if_neg hj, appL_ok (by simp only [List.length_append, List.length_cons, List.length_nil] at *; omega), Option.bind_some]; rfl
    · show gabionref15_Runs_l0 b _ b.length = _
      unfold gabionref15_Runs_l0
      rw [if_neg (by omega)]
  rw [key]; rfl
theorem together_eq {ls : List (List Rn)} (h : ∀ l ∈ ls, l.length ≤ 1000 ∧ ∀ e ∈ l, 0 ≤ e.2 ∧ e.2 ≤ 99000) (hls : ls.length ≤ 1000) : ext_together ls = some (tog ls.flatten) := by
  have hfl : ∀ k, (∀ e ∈ (ls.take k).flatten, 0 ≤ e.2 ∧ e.2 ≤ 99000) ∧ (ls.take k).flatten.length ≤ 1000 * k := by
    intro k
    refine ⟨fun e he => ?_, ?_⟩
    · obtain ⟨l, hl, he⟩ := List.mem_flatten.1 he
      exact (h l (take_mem hl)).2 e he
    · induction k with
      | zero => simp
      | succ k ih =>
        by_cases hk : k < ls.length
        · rw [take_next (List.getElem?_eq_getElem hk), List.flatten_append, List.length_append, List.flatten_cons, List.flatten_nil, List.append_nil]
          have := (h ls[k] (List.getElem_mem hk)).1
          omega
        · rw [List.take_of_length_le (by omega)] at ih ⊢; omega
  unfold ext_together
  have key : iter (fun (s : (List Rn) × Int) => ext_together_l0 ls s.1 s.2) (ls.length + 1) ([], 0) = some (tog ls.flatten) := by
    refine iter_fold (l := ls) (S := fun i t => (tog t.flatten, (i : Int))) _ (fun i x hx => ?_) ?_ (Nat.lt_succ_self _)
    · have hi : i < ls.length := (List.getElem?_eq_some_iff.1 hx).1
      have hb := h x (List.mem_of_getElem? hx)
      obtain ⟨h1, h2⟩ := hfl i
      have hT : tog (ls.take (i + 1)).flatten = x.foldl push (tog (ls.take i).flatten) := by
        rw [take_next hx, List.flatten_append, List.flatten_cons, List.flatten_nil, List.append_nil]; unfold tog; rw [List.foldl_append]
      have hbd := fold_bd (l := (ls.take i).flatten) (p := []) (m := 0) (by simp) (by omega) (fun e he => (h1 e he).1)
      have hsum := sumL_bd (l := (ls.take i).flatten) (fun e he => (h1 e he).2)
      have hlen := fold_len (l := (ls.take i).flatten) (p := [])
      rw [hT]
      show ext_together_l0 ls (tog (ls.take i).flatten) i = _
      unfold tog
      generalize (ls.take i).flatten.foldl push [] = out at hbd hlen
      unfold ext_together_l0
      rw [if_pos (by omega), rd_ok hx, Option.bind_some]
      have k1 : iter (fun (s : (List Rn) × Int × Int) => ext_together_l1 ls x s.1 s.2.1 s.2.2) (x.length + 1) (out, (i : Int), 0) = some (x.foldl push out, (i : Int)) := by
        refine iter_fold (l := x) (S := fun k t => (t.foldl push out, (i : Int), (k : Int))) _ (fun k e he => ?_) ?_ (Nat.lt_succ_self _)
        · have hk : k < x.length := (List.getElem?_eq_some_iff.1 he).1
          have hE := hb.2 e (List.mem_of_getElem? he)
          have hbd2 := fold_bd (l := x.take k) (p := out) (m := 99000 * (1000 * 1000)) (fun q hq => by have := hbd q hq; simp only [List.length_nil] at hlen; omega) (by omega) (fun e he => (hb.2 e (take_mem he)).1)
          have hsum2 := sumL_bd (l := x.take k) (fun e he => (hb.2 e (take_mem he)).2)
          have hlen2 := fold_len (l := x.take k) (p := out)
          rw [List.length_take] at hsum2 hlen2
          simp only [List.length_nil] at hlen
          have hT2 : (x.take (k + 1)).foldl push out = push ((x.take k).foldl push out) e := by rw [take_next he, List.foldl_append]; rfl
          rw [hT2]
          show ext_together_l1 ls x ((x.take k).foldl push out) i k = _
          generalize (x.take k).foldl push out = o2 at hbd2 hlen2
          unfold ext_together_l1 ext_together_j11 ext_together_j12
          rw [if_pos (by omega), rd_ok he, Option.bind_some, w64 (n := (k : Int) + 1) (by omega) (by omega)]
          by_cases hn : o2 = []
          · subst hn
            rw [if_neg (by rw [w64 (by simp) (by simp)]; simp), if_neg (by simp), appL_ok (by simp), Option.bind_some]; rfl
          · obtain ⟨p, q, rfl⟩ := snoc hn
            have hq := hbd2 q (by simp)
            have hpl : (p ++ [q]).length = p.length + 1 := by simp
            rw [w64 (n := ((p ++ [q]).length : Int) - 1) (by omega) (by omega), show ((p ++ [q]).length : Int) - 1 = (p.length : Nat) by omega, if_pos (by omega)]
            simp only [rd_last, Option.bind_some, joins_eq, push_snoc]
            by_cases hj : jn q e = true
            · rw [if_pos hj, if_pos hj, w64 (by omega) (by omega)]
              simp
            · rw [if_neg hj, if_neg hj, appL_ok (by simp only [List.length_append, List.length_cons, List.length_nil] at *; omega), Option.bind_some]; rfl
        · show ext_together_l1 ls x _ i x.length = _
          unfold ext_together_l1
          rw [if_neg (by omega)]
      rw [k1, Option.bind_some, w64 (n := (i : Int) + 1) (by omega) (by omega)]; rfl
    · show ext_together_l0 ls _ ls.length = _
      unfold ext_together_l0
      rw [if_neg (by omega)]
  rw [key]; rfl

/-! ### What the fewest runs are -/
theorem push_blk {at_ : Int} (h1 : -1 ≤ at_) (h2 : at_ ≤ 1099511627776) {out : List Rn} : ∀ (n : Nat), (n : Int) + 1 ≤ 1099511627776 → (∀ q ∈ out, -1 ≤ q.1 ∧ q.1 ≤ 1099511627776 ∧ 0 ≤ q.2 ∧ q.2 ≤ 1099511627776) →
    (blk (at_, ((n + 1 : Nat) : Int))).foldl (fun o x => push o (unit x)) out = push out (at_, ((n + 1 : Nat) : Int)) := by
  intro n
  induction n with
  | zero =>
    intro _ ho
    have : blk (at_, ((0 + 1 : Nat) : Int)) = [at_] := by
      simp only [blk]
      by_cases h : at_ = -1 <;> simp [h]
    rw [this]; rfl
  | succ n ih =>
    intro hn ho
    have hb : blk (at_, ((n + 1 + 1 : Nat) : Int)) = blk (at_, ((n + 1 : Nat) : Int)) ++ [if at_ = -1 then -1 else at_ + ((n + 1 : Nat) : Int)] := by
      simp only [blk, Int.toNat_natCast]
      rw [List.range_succ, List.map_append]; rfl
    rw [hb, List.foldl_append, ih (by omega) ho, List.foldl_cons, List.foldl_nil]
    have hjn : ∀ {q : Rn}, (q.1 = -1 ∧ at_ = -1 ∨ q.1 ≠ -1 ∧ at_ ≠ -1 ∧ wi64 (q.1 + q.2) = at_ + ((n + 1 : Nat) : Int)) → jn q (unit (if at_ = -1 then -1 else at_ + ((n + 1 : Nat) : Int))) = true := by
      intro q hq
      unfold jn unit
      rcases hq with ⟨a, b⟩ | ⟨a, b, c⟩
      · rw [if_pos (.inl a), if_pos b]; simp [a]
      · rw [if_neg b, if_neg (by simp only; omega)]; simpa using c
    have hw : wi64 (at_ + ((n + 1 : Nat) : Int)) = at_ + ((n + 1 : Nat) : Int) := w64 (by omega) (by omega)
    have hnew : jn (at_, ((n + 1 : Nat) : Int)) (unit (if at_ = -1 then -1 else at_ + ((n + 1 : Nat) : Int))) = true := hjn (by
      by_cases h : at_ = -1
      · exact .inl ⟨h, h⟩
      · exact .inr ⟨h, h, hw⟩)
    by_cases hne : out = []
    · subst hne
      rw [push_nil, push_nil, ← List.nil_append [(at_, ((n + 1 : Nat) : Int))], push_snoc, if_pos hnew]
      rfl
    · obtain ⟨p, q, rfl⟩ := snoc hne
      have hq := ho q (by simp)
      have hsame : jn q (at_, ((n + 1 + 1 : Nat) : Int)) = jn q (at_, ((n + 1 : Nat) : Int)) := rfl
      rw [push_snoc, push_snoc, hsame]
      by_cases hj : jn q (at_, ((n + 1 : Nat) : Int)) = true
      · rw [if_pos hj, if_pos hj, push_snoc, if_pos (hjn ?_)]
        · simp only [unit]; congr 3; omega
        · unfold jn at hj
          split at hj
          · rename_i hc
            simp only [decide_eq_true_iff] at hj hc
            left; simp only; omega
          · rename_i hc
            simp only [decide_eq_true_iff, not_or] at hj hc
            rw [w64 (by omega) (by omega)] at hj
            right
            refine ⟨hc.1, hc.2, ?_⟩
            simp only
            rw [w64 (by omega) (by omega)]; omega
      · rw [if_neg hj, if_neg hj, push_snoc, if_pos hnew]
        rfl
theorem blks_fold : ∀ {l out : List Rn}, (∀ e ∈ l, 1 ≤ e.2 ∧ -1 ≤ e.1 ∧ e.1 ≤ 1099511627776) → (∀ q ∈ out, -1 ≤ q.1 ∧ q.1 ≤ 1099511627776 ∧ 0 ≤ q.2 ∧ q.2 + sumL l ≤ 1099511627776) → sumL l ≤ 1099511627776 →
    ((blks l).map unit).foldl push out = l.foldl push out
  | [], out, _, _, _ => rfl
  | e :: l, out, h, ho, hs => by
    have he := h e (by simp)
    have hl : ∀ x ∈ l, 1 ≤ x.2 ∧ -1 ≤ x.1 ∧ x.1 ≤ 1099511627776 := fun x hx => h x (by simp [hx])
    have hnn := sumL_nn (l := l) (fun x hx => by have := hl x hx; omega)
    rw [sumL] at hs
    have h1 := push_blk (at_ := e.1) (by omega) (by omega) (out := out) (e.2 - 1).toNat (by omega) (fun q hq => by have := ho q hq; rw [sumL] at this; omega)
    rw [show (((e.2 - 1).toNat + 1 : Nat) : Int) = e.2 by omega] at h1
    rw [blks_cons, List.map_append, List.foldl_append, List.foldl_map (f := unit) (l := blk e)]
    rw [show (blk e).foldl (fun o x => push o (unit x)) out = push out e from h1, List.foldl_cons]
    refine blks_fold hl (fun q hq => ?_) (by omega)
    by_cases hne : out = []
    · subst hne
      rw [push_nil, List.mem_singleton] at hq
      subst hq; omega
    · obtain ⟨p, z, rfl⟩ := snoc hne
      have hz := ho z (by simp)
      rw [sumL] at hz
      rw [push_snoc] at hq
      split at hq
      · rcases List.mem_append.1 hq with h | h
        · have := ho q (by simp [h]); rw [sumL] at this; omega
        · rw [List.mem_singleton] at h; subst h; simp only; omega
      · rcases List.mem_append.1 hq with h | h
        · have := ho q h; rw [sumL] at this; omega
        · rw [List.mem_singleton] at h; subst h; omega
theorem runs_blks {l : List Rn} (h : ∀ e ∈ l, 1 ≤ e.2 ∧ -1 ≤ e.1 ∧ e.1 ≤ 1099511627776) (hs : sumL l < 100000) : gabionref15_Runs (blks l) = some (tog l) := by
  have hl := blks_len (l := l) (fun e he => by have := h e he; omega)
  rw [runs_eq (by omega)]
  unfold tog
  rw [blks_fold h (by simp) (by omega)]
/-- No two neighbours could be one. -/
def nj : Option Rn → List Rn → Bool
  | _, [] => true
  | q, e :: r => !jnO q e && nj (some e) r
theorem fold_nj : ∀ {l out : List Rn}, nj out.getLast? l = true → l.foldl push out = out ++ l
  | [], out, _ => by simp
  | e :: l, out, h => by
    rw [nj, Bool.and_eq_true, Bool.not_eq_true'] at h
    have hp : push out e = out ++ [e] := by
      by_cases hne : out = []
      · subst hne; rfl
      · obtain ⟨p, q, rfl⟩ := snoc hne
        rw [getLast_snoc] at h
        rw [push_snoc, if_neg]
        have := h.1
        simp only [jnO] at this
        rw [this]; simp
    rw [List.foldl_cons, hp, fold_nj (by rw [getLast_snoc]; exact h.2)]; simp
theorem tog_nj {l : List Rn} (h : nj none l = true) : tog l = l := fold_nj (out := []) h
theorem okL_nj : ∀ {l : List Rn} {q : Option Rn}, okL q l = true → nj q l = true ∧ ∀ e ∈ l, 1 ≤ e.2 ∧ e.2 ≤ 65536 ∧ -1 ≤ e.1 ∧ e.1 ≤ 65536
  | [], q, _ => ⟨rfl, by simp⟩
  | e :: l, q, h => by
    simp only [okL, okE, Bool.and_eq_true, decide_eq_true_iff] at h
    obtain ⟨⟨h1, h2⟩, h3⟩ := h
    obtain ⟨g1, g2⟩ := okL_nj h3
    exact ⟨by simp only [nj, h2, g1, Bool.and_self], fun x hx => by
      rcases List.mem_cons.1 hx with rfl | hx
      · exact h1
      · exact g2 x hx⟩
theorem nj_okL : ∀ {l : List Rn} {q : Option Rn}, nj q l = true → (∀ e ∈ l, 1 ≤ e.2 ∧ e.2 ≤ 65536 ∧ -1 ≤ e.1 ∧ e.1 ≤ 65536) → okL q l = true
  | [], q, _, _ => rfl
  | e :: l, q, h, hb => by
    rw [nj, Bool.and_eq_true] at h
    simp only [okL, okE, Bool.and_eq_true, decide_eq_true_iff]
    exact ⟨⟨hb e (by simp), h.1⟩, nj_okL h.2 fun x hx => hb x (by simp [hx])⟩
structure Rt (l : List Rn) : Prop where
  nj : Gab.nj none l = true
  bd : ∀ e ∈ l, 1 ≤ e.2 ∧ e.2 ≤ 65536 ∧ -1 ≤ e.1 ∧ e.1 ≤ 65536
  len : l.length ≤ 64
  sum : sumL l ≤ 65536
theorem rightB_iff {l : List Rn} : RightB l = true ↔ Rt l := by
  unfold RightB
  simp only [Bool.and_eq_true, decide_eq_true_iff]
  constructor
  · rintro ⟨⟨h1, h2⟩, h3⟩
    exact ⟨(okL_nj h2).1, (okL_nj h2).2, h1, h3⟩
  · intro h
    exact ⟨⟨h.len, nj_okL h.nj h.bd⟩, h.sum⟩
theorem Rt.Bd {l : List Rn} (h : Rt l) : Bd l := fun e he => by have := h.bd e he; omega
theorem Rt.nn {l : List Rn} (h : Rt l) : ∀ e ∈ l, 0 ≤ e.2 := h.Bd.nn
/-- What the pushing makes has no neighbours that could be one. -/
theorem nj_app : ∀ {l m : List Rn} {q : Option Rn}, nj q (l ++ m) = true ↔ nj q l = true ∧ nj (match l.getLast? with | some x => some x | none => q) m = true
  | [], m, q => by simp [nj]
  | e :: l, m, q => by
    rw [List.cons_append, nj, nj, Bool.and_eq_true, Bool.and_eq_true, nj_app (l := l), and_assoc]
    have : (match l.getLast? with | some x => some x | none => some e) = (match (e :: l).getLast? with | some x => some x | none => q) := by
      cases l with
      | nil => rfl
      | cons a l => rw [List.getLast?_cons_cons]; cases h : (a :: l).getLast? with
        | none => simp at h
        | some x => rfl
    rw [this]
end Gab
