/- Map and Fill of a list of runs: the program's and the document's. -/
import Derived.Test.YtdkldojcpncnhaaPe6
set_option linter.unusedVariables false
set_option linter.unusedSimpArgs false
namespace Gab
open Go

/-! ### Map -/
def mapS : List Rn → Int → Option Int
  | [], _ => none
  | e :: r, i => if e.2 ≤ i then mapS r (i - e.2) else some (if e.1 = -1 then -1 else e.1 + i)
theorem mapS_blks : ∀ {l : List Rn} {i : Int}, (∀ e ∈ l, 1 ≤ e.2) → 0 ≤ i → mapS l i = (blks l)[i.toNat]?
  | [], i, _, _ => by simp [mapS, blks]
  | e :: l, i, h, h0 => by
    have he := h e (by simp)
    have hl : (blk e).length = e.2.toNat := blk_len
    unfold mapS
    rw [blks_cons]
    by_cases h3 : e.2 ≤ i
    · rw [if_pos h3, mapS_blks (fun x hx => h x (by simp [hx])) (by omega), List.getElem?_append_right (by omega), hl]
      congr 1; omega
    · rw [if_neg h3, List.getElem?_append_left (by omega), blk_get (by omega), show ((i.toNat : Nat) : Int) = i by omega]
def mapG (r : List Rn) (i : Int) : (Int × Bool) ⊕ Unit := match mapS r i with
  | some x => .inl (x, true)
  | none => .inr ()
theorem mapG_cons {e : Rn} {r : List Rn} {b : Int} : mapG (e :: r) b = if e.2 ≤ b then mapG r (b - e.2) else .inl (if e.1 = -1 then -1 else e.1 + b, true) := by
  unfold mapG
  rw [show mapS (e :: r) b = if e.2 ≤ b then mapS r (b - e.2) else some (if e.1 = -1 then -1 else e.1 + b) from rfl]
  by_cases h : e.2 ≤ b
  · rw [if_pos h, if_pos h]
  · rw [if_neg h, if_neg h]
theorem map_eq {l : List Rn} (h : ∀ e ∈ l, 1 ≤ e.2 ∧ e.2 ≤ 99000 ∧ -1 ≤ e.1 ∧ e.1 ≤ 1099511627776) (hl : l.length ≤ 1000) {i : Int} (hi : i ≤ 9223372036854775807) :
    ext_List_Map l i = some (if i < 0 then (0, false) else match (blks l)[i.toNat]? with | some x => (x, true) | none => (0, false)) := by
  unfold ext_List_Map
  by_cases h0 : i < 0
  · rw [if_pos h0, if_pos h0]
  rw [if_neg h0, if_neg h0]
  have := iter_go (step := fun (s : Int × Int) => ext_List_Map_l0 l s.1 s.2) (l := l) (fun i b => (b, (i : Int))) (fun p r b => mapG r b) (fun p b => 0 ≤ b ∧ b ≤ 9223372036854775807)
    (fun b hb => by
      show ext_List_Map_l0 l b l.length = _
      unfold ext_List_Map_l0
      rw [if_neg (by omega)]; rfl)
    (fun p x r b hl' hb => by
      have hlen : l.length = p.length + (r.length + 1) := by rw [hl']; simp
      have hx := h x (by rw [hl']; simp)
      show ext_List_Map_l0 l b p.length = _ ∨ ∃ b', ext_List_Map_l0 l b p.length = _ ∧ _
      unfold ext_List_Map_l0
      rw [if_pos (by omega), rd_mid hl', Option.bind_some]
      rw [mapG_cons]
      by_cases h3 : x.2 ≤ b
      · right
        rw [if_pos h3, if_pos h3]
        exact ⟨b - x.2, by rw [w64 (by omega) (by omega), w64 (by omega) (by omega)]; rfl, by omega, rfl⟩
      · left
        rw [if_neg h3, if_neg h3]
        by_cases h4 : x.1 = -1
        · rw [if_pos h4, if_pos h4]
        · rw [if_neg h4, if_neg h4, w64 (by omega) (by omega)])
    l [] i (l.length + 1) rfl ⟨by omega, hi⟩ (Nat.lt_succ_self _)
  have h1 : iter (fun (s : Int × Int) => ext_List_Map_l0 l s.1 s.2) (l.length + 1) (i, 0) = some (mapG l i) := this
  rw [h1, Option.bind_some]
  unfold mapG
  rw [mapS_blks (fun e he => (h e he).1) (by omega)]
  cases (blks l)[i.toNat]? <;> rfl

/-! ### Fill -/
theorem held_blks {l : List Rn} (h : ∀ e ∈ l, 0 ≤ e.2 ∧ -1 ≤ e.1) : heldL l = 0 ↔ ∀ x ∈ blks l, x = -1 := by
  induction l with
  | nil => simp [heldL, blks]
  | cons e l ih =>
    have he := h e (by simp)
    have hl : ∀ x ∈ l, 0 ≤ x.2 ∧ -1 ≤ x.1 := fun x hx => h x (by simp [hx])
    have hh := heldL_le (l := l) fun x hx => (hl x hx).1
    rw [heldL, blks_cons]
    simp only [List.mem_append]
    constructor
    · intro h0 x hx
      rcases hx with hx | hx
      · obtain ⟨k, hk, rfl⟩ := List.mem_map.1 hx
        rw [List.mem_range] at hk
        by_cases hc : e.1 = -1
        · rw [if_pos hc]
        · rw [if_neg hc] at h0; omega
      · exact (ih hl).1 (by split at h0 <;> omega) x hx
    · intro h0
      have h2 := (ih hl).2 fun x hx => h0 x (.inr hx)
      by_cases hc : e.1 = -1
      · rw [if_pos hc]; omega
      · rw [if_neg hc]
        by_cases hz : e.2 = 0
        · omega
        · have hm : (if e.1 = -1 then -1 else e.1 + ((0 : Nat) : Int)) ∈ blk e := List.mem_map.2 ⟨0, by rw [List.mem_range]; omega, rfl⟩
          have := h0 _ (.inl hm)
          rw [if_neg hc] at this; omega
def big (p : List Rn) : Prop := ∃ q ∈ p, 65536 < q.1
theorem big_push {p : List Rn} {e : Rn} (h : big p) : big (push p e) := by
  obtain ⟨q, hq, hb⟩ := h
  obtain ⟨p, z, rfl⟩ := snoc (l := p) (by intro h; subst h; simp at hq)
  rw [push_snoc]
  split
  · rcases List.mem_append.1 hq with h | h
    · exact ⟨q, by simp [h], hb⟩
    · rw [List.mem_singleton] at h; subst h
      exact ⟨(q.1, q.2 + e.2), by simp, hb⟩
  · exact ⟨q, List.mem_append_left _ hq, hb⟩
theorem big_fold : ∀ {l p : List Rn}, big p → big (l.foldl push p)
  | [], _, h => h
  | e :: l, p, h => big_fold (l := l) (big_push h)
theorem big_new {p : List Rn} {e : Rn} (h : ∀ q ∈ p, -1 ≤ q.1 ∧ q.1 ≤ 65536 ∧ 0 ≤ q.2 ∧ q.2 ≤ 65536) (he : 1099511627776 < e.1) : big (push p e) := by
  by_cases hne : p = []
  · subst hne; exact ⟨e, by simp [push_nil], by omega⟩
  · obtain ⟨p, z, rfl⟩ := snoc hne
    have hz := h z (by simp)
    rw [push_snoc, if_neg]
    · exact ⟨e, by simp, by omega⟩
    · unfold jn
      by_cases hc : z.1 = -1 ∨ e.1 = -1
      · rw [if_pos hc]; simp only [decide_eq_true_iff]; omega
      · rw [if_neg hc, w64 (by omega) (by omega)]; simp only [decide_eq_true_iff]; omega
theorem big_right {p : List Rn} (h : big p) : RightB p = false := by
  obtain ⟨q, hq, hb⟩ := h
  cases hr : RightB p with
  | false => rfl
  | true => have := (rightB_iff.1 hr).bd q hq; omega
def fillB (l : List Rn) (i : Int) (e : Rn) : Bool := RightB l && decide (0 ≤ e.1 ∧ 1 ≤ e.2 ∧ 0 ≤ i ∧ e.2 ≤ sumL l ∧ i ≤ sumL l - e.2)
def fillR (l : List Rn) (i : Int) (e : Rn) : List Rn × Int :=
  if fillB l i e = true then
    if 0 < heldL (spl (spl l i).2 e.2).1 then ([], 2)
    else if RightB (tog ((spl l i).1 ++ [e] ++ (spl (spl l i).2 e.2).2)) = true then (tog ((spl l i).1 ++ [e] ++ (spl (spl l i).2 e.2).2), 0) else ([], 7)
  else ([], 2)
theorem spl_mem2 : ∀ {l : List Rn} {n : Int}, (∀ e ∈ l, 1 ≤ e.2 ∧ e.2 ≤ 65536 ∧ -1 ≤ e.1 ∧ e.1 ≤ 131072) → 0 ≤ n → (∀ e ∈ (spl l n).1, 1 ≤ e.2 ∧ e.2 ≤ 65536 ∧ -1 ≤ e.1 ∧ e.1 ≤ 131072) ∧ ∀ e ∈ (spl l n).2, 1 ≤ e.2 ∧ e.2 ≤ 65536 ∧ -1 ≤ e.1 ∧ e.1 ≤ 196608
  | [], n, _, _ => by simp [spl]
  | e :: l, n, h, hn => by
    have he := h e (by simp)
    have hl : ∀ x ∈ l, 1 ≤ x.2 ∧ x.2 ≤ 65536 ∧ -1 ≤ x.1 ∧ x.1 ≤ 131072 := fun x hx => h x (by simp [hx])
    unfold spl
    by_cases h3 : e.2 ≤ n
    · rw [if_pos h3]
      obtain ⟨a, b⟩ := spl_mem2 hl (n := n - e.2) (by omega)
      exact ⟨fun x hx => by
        rcases List.mem_cons.1 hx with rfl | hx
        · exact he
        · exact a x hx, b⟩
    · rw [if_neg h3]
      by_cases h4 : 0 < n
      · rw [if_pos h4]
        refine ⟨fun x hx => by rw [List.mem_singleton] at hx; subst hx; simp only; omega, fun x hx => ?_⟩
        rcases List.mem_cons.1 hx with rfl | hx
        · simp only [prt]; split <;> omega
        · have := hl x hx; omega
      · rw [if_neg h4]
        exact ⟨by simp, fun x hx => by have := h x hx; omega⟩
theorem fill_eq {l : List Rn} (hl : l.length ≤ 400) (i : Int) (e : Rn) : ext_List_Fill l i e = some (fillR l i e) := by
  unfold ext_List_Fill ext_List_Fill_j1 fillR fillB
  rw [right_eq (by omega), Option.bind_some]
  by_cases h1 : RightB l = true
  · have r := rightB_iff.1 h1
    rw [if_pos h1, h1, Bool.true_and]
    by_cases g1 : e.1 < 0
    · rw [if_pos g1, if_pos rfl, decide_eq_false (by omega)]; rfl
    rw [if_neg g1]
    by_cases g2 : e.2 < 1
    · rw [if_pos g2, if_pos rfl, decide_eq_false (by omega)]; rfl
    rw [if_neg g2]
    by_cases g3 : i < 0
    · rw [if_pos g3, if_pos rfl, decide_eq_false (by omega)]; rfl
    rw [if_neg g3, blocks_eq r.Bd (by omega), Option.bind_some]
    by_cases g4 : sumL l < e.2
    · rw [if_pos g4, if_pos rfl, decide_eq_false (by omega)]; rfl
    have hsum := r.sum
    rw [if_neg g4, Option.bind_some, w64 (n := sumL l - e.2) (by omega) (by omega)]
    by_cases g5 : sumL l - e.2 < i
    · rw [if_pos (by simpa using g5), decide_eq_false (by omega)]; rfl
    rw [if_neg (by simpa using g5), decide_eq_true (by omega), if_pos rfl]
    have hL1 := spl_len (l := l) (n := i)
    obtain ⟨m1, m2⟩ := spl_mem r.bd (n := i) (by omega)
    have hL2 := spl_len (l := (spl l i).2) (n := e.2)
    obtain ⟨m3, m4⟩ := spl_mem2 m2 (n := e.2) (by omega)
    rw [split_eq (fun e he => by have := r.bd e he; omega) (by omega) (by omega) (by omega), Option.bind_some, split_eq (fun e he => by have := m2 e he; omega) (by omega) (by omega) (by omega), Option.bind_some,
      held_eq (fun e he => by have := m3 e he; omega) (by omega), Option.bind_some]
    by_cases g6 : 0 < heldL (spl (spl l i).2 e.2).1
    · rw [if_pos g6, if_pos g6]
    · rw [if_neg g6, if_neg g6, together_eq (fun x hx => by
        simp only [List.mem_cons, List.not_mem_nil, or_false] at hx
        rcases hx with rfl | rfl | rfl
        · exact ⟨by omega, fun e he => by have := m1 e he; omega⟩
        · exact ⟨by simp, fun z hz => by rw [List.mem_singleton] at hz; subst hz; omega⟩
        · exact ⟨by omega, fun e he => by have := m4 e he; omega⟩) (by simp), Option.bind_some]
      have hf : [(spl l i).1, [e], (spl (spl l i).2 e.2).2].flatten = (spl l i).1 ++ [e] ++ (spl (spl l i).2 e.2).2 := by simp
      have hlen := fold_len (l := (spl l i).1 ++ [e] ++ (spl (spl l i).2 e.2).2) (p := [])
      simp only [List.length_append, List.length_cons, List.length_nil] at hlen
      rw [hf]
      unfold ext_checked
      rw [right_eq (by unfold tog; omega), Option.bind_some]
      by_cases h3 : RightB (tog ((spl l i).1 ++ [e] ++ (spl (spl l i).2 e.2).2)) = true
      · rw [if_pos h3, if_pos h3]; rfl
      · rw [if_neg h3, if_neg h3]; rfl
  · rw [if_neg h1, if_pos rfl]
    simp only [Bool.not_eq_true] at h1
    rw [h1]; rfl
def news (at_ : Int) (n : Nat) : List Int := (List.range n).map fun (k : Nat) => wi64 (at_ + k)
theorem news_len {at_ : Int} {n : Nat} : (news at_ n).length = n := by simp [news]
theorem news_succ {at_ : Int} {n : Nat} : news at_ (n + 1) = news at_ n ++ [wi64 (at_ + n)] := by unfold news; rw [List.range_succ, List.map_append]; rfl
theorem rfill_loop {b : List Int} {i n : Nat} {at_ : Int} (hb : b.length < 90000) (hin : i + n ≤ b.length) (hn : 1 ≤ n) :
    (∃ k, k < n ∧ b[i + k]? ≠ some (-1)) ∧ iter (fun (s : (List Int) × Int) => gabionref15_Fill_l0 i at_ n b s.1 s.2) 100000 (b, 0) = some (.inl ([], 2)) ∨
    (∀ k, k < n → b[i + k]? = some (-1)) ∧ iter (fun (s : (List Int) × Int) => gabionref15_Fill_l0 i at_ n b s.1 s.2) 100000 (b, 0) = some (.inr (b.take i ++ news at_ n ++ b.drop (i + n))) := by
  obtain ⟨e, he, hq⟩ := iter_of (step := fun (s : (List Int) × Int) => gabionref15_Fill_l0 i at_ n b s.1 s.2)
    (fun m s => ∃ k, s = (b.take i ++ news at_ k ++ b.drop (i + k), (k : Int)) ∧ k + m = n ∧ ∀ j, j < k → b[i + j]? = some (-1))
    (fun e => (e = .inl ([], 2) ∧ ∃ k, k < n ∧ b[i + k]? ≠ some (-1)) ∨ e = .inr (b.take i ++ news at_ n ++ b.drop (i + n)) ∧ ∀ k, k < n → b[i + k]? = some (-1)) (fun m s ⟨k, h1, h2, h3⟩ => by
      subst h1
      cases m with
      | zero =>
        have hk : k = n := by omega
        subst hk
        right
        refine ⟨_, ?_, .inr ⟨rfl, h3⟩⟩
        show gabionref15_Fill_l0 i at_ k b _ k = _
        unfold gabionref15_Fill_l0
        rw [if_neg (by omega)]
      | succ m =>
        have hlt : i + k < b.length := by omega
        have hx : b[i + k]? = some b[i + k] := List.getElem?_eq_getElem hlt
        have hw : wi64 ((i : Int) + k) = ((i + k : Nat) : Int) := w64 (by omega) (by omega)
        by_cases hv : b[i + k] = -1
        · left
          refine ⟨m, (b.take i ++ news at_ (k + 1) ++ b.drop (i + (k + 1)), ((k + 1 : Nat) : Int)), rfl, ?_, k + 1, rfl, by omega, fun j hj => ?_⟩
          · show gabionref15_Fill_l0 i at_ n b (b.take i ++ news at_ k ++ b.drop (i + k)) k = _
            have hpl : (b.take i ++ news at_ k).length = i + k := by rw [List.length_append, news_len, List.length_take]; omega
            have hd : b.drop (i + k) = b[i + k] :: b.drop (i + (k + 1)) := List.drop_eq_getElem_cons hlt
            have hr2 : rd (b.take i ++ news at_ k ++ b.drop (i + k)) ((b.take i ++ news at_ k).length : Int) = some b[i + k] := by
              rw [hd]
              exact rd_mid rfl
            rw [hpl] at hr2
            unfold gabionref15_Fill_l0
            rw [if_pos (by omega), hw, rd_ok hx, Option.bind_some, if_neg (fun g => g hv), hr2, Option.bind_some, w64 (n := (k : Int) + 1) (by omega) (by omega), Int.toNat_natCast]
            congr 3
            rw [hd, List.set_append_right _ _ (by omega), hpl, Nat.sub_self, List.set_cons_zero, news_succ]
            simp
          · by_cases hj2 : j = k
            · subst hj2; rw [hx, hv]
            · exact h3 j (by omega)
        · right
          refine ⟨.inl ([], 2), ?_, .inl ⟨rfl, k, by omega, by rw [hx]; exact fun g => hv (Option.some.inj g)⟩⟩
          show gabionref15_Fill_l0 i at_ n b _ k = _
          unfold gabionref15_Fill_l0
          rw [if_pos (by omega), hw, rd_ok hx, Option.bind_some, if_pos hv]) (n := n) (d := 100000) (s := (b, 0)) ⟨0, by simp [news], by omega, fun j hj => by omega⟩ (by omega)
  rcases hq with ⟨h1, h2⟩ | ⟨h1, h2⟩
  · exact .inl ⟨h2, by rw [he, h1]⟩
  · exact .inr ⟨h2, by rw [he, h1]⟩
theorem rfill_eq {l : List Rn} (hl : l.length ≤ 400) (i : Int) (e : Rn) (he1 : e.1 ≤ 9223372036854775807) : gabionref15_Fill l i e.1 e.2 = some (fillR l i e) := by
  unfold gabionref15_Fill fillR fillB
  rw [rright_eq, Option.bind_some]
  by_cases h1 : RightB l = true
  · have r := rightB_iff.1 h1
    have hbl := blks_len r.nn
    have hsum := r.sum
    unfold gabionref15_Fill_j2
    rw [if_pos h1, h1, Bool.true_and]
    by_cases g1 : e.1 < 0
    · rw [if_pos g1, if_pos rfl, decide_eq_false (by omega)]; rfl
    rw [if_neg g1]
    by_cases g2 : e.2 < 1
    · rw [if_pos g2, if_pos rfl, decide_eq_false (by omega)]; rfl
    rw [if_neg g2]
    by_cases g3 : i < 0
    · rw [if_pos (by simpa using g3), decide_eq_false (by omega)]; rfl
    rw [if_neg (by simpa using g3), rblocks_eq r.Bd (by omega), Option.bind_some, hbl]
    unfold gabionref15_Fill_j5
    by_cases g4 : sumL l < e.2
    · rw [if_pos g4, if_pos rfl, decide_eq_false (by omega)]; rfl
    rw [if_neg g4, w64 (n := sumL l - e.2) (by omega) (by omega)]
    by_cases g5 : sumL l - e.2 < i
    · rw [if_pos (by simpa using g5), decide_eq_false (by omega)]; rfl
    rw [if_neg (by simpa using g5), decide_eq_true (by omega), if_pos rfl, appL_ok (by simp only [List.length_nil]; omega), Option.bind_some, List.nil_append]
    have hb1 : ∀ e ∈ l, 1 ≤ e.2 ∧ -1 ≤ e.1 := fun e he => by have := r.bd e he; omega
    obtain ⟨b1, b2⟩ := spl_blks hb1 (n := i) (by omega)
    obtain ⟨n1, n2⟩ := spl_nj r.nj hb1 (n := i) (by omega)
    obtain ⟨m1, m2⟩ := spl_mem r.bd (n := i) (by omega)
    obtain ⟨s1, s2⟩ := spl_sum (fun e he => (hb1 e he).1) (n := i) (by omega) (by omega)
    obtain ⟨b3, b4⟩ := spl_blks (l := (spl l i).2) (fun e he => by have := m2 e he; omega) (n := e.2) (by omega)
    obtain ⟨m3, m4⟩ := spl_mem2 m2 (n := e.2) (by omega)
    obtain ⟨s3, s4⟩ := spl_sum (l := (spl l i).2) (fun e he => (m2 e he).1) (n := e.2) (by omega) (by omega)
    have hheld := held_blks (l := (spl (spl l i).2 e.2).1) (fun e he => by have := m3 e he; omega)
    have hhl := heldL_le (l := (spl (spl l i).2 e.2).1) (fun e he => by have := m3 e he; omega)
    rw [b3, b2] at hheld
    have hloop := rfill_loop (b := blks l) (i := i.toNat) (n := e.2.toNat) (at_ := e.1) (by omega) (by omega) (by omega)
    rw [show ((i.toNat : Nat) : Int) = i by omega, show ((e.2.toNat : Nat) : Int) = e.2 by omega] at hloop
    have hgd : ∀ k, k < e.2.toNat → (((blks l).drop i.toNat).take e.2.toNat)[k]? = (blks l)[i.toNat + k]? := fun k hk => by rw [List.getElem?_take_of_lt hk, List.getElem?_drop]
    rcases hloop with ⟨⟨k, hk, hne⟩, hit⟩ | ⟨hall, hit⟩
    · rw [hit, Option.bind_some, if_pos]
      · rfl
      · have hne0 : heldL (spl (spl l i).2 e.2).1 ≠ 0 := fun h0 => by
          have hlt : i.toNat + k < (blks l).length := by omega
          have hx : (blks l)[i.toNat + k]? = some (blks l)[i.toNat + k] := List.getElem?_eq_getElem hlt
          have := hheld.1 h0 _ (List.mem_of_getElem? ((hgd k hk).trans hx))
          exact hne (by rw [hx, this])
        omega
    · have h0 : heldL (spl (spl l i).2 e.2).1 = 0 := hheld.2 fun x hx => by
        obtain ⟨k, hk⟩ := List.getElem?_of_mem hx
        have hk2 : k < e.2.toNat := by have := (List.getElem?_eq_some_iff.1 hk).1; rw [List.length_take] at this; omega
        rw [hgd k hk2, hall k hk2] at hk
        exact (Option.some.inj hk).symm
      rw [hit, Option.bind_some, if_neg (by omega)]
      show ((gabionref15_Runs (((blks l).take i.toNat) ++ news e.1 e.2.toNat ++ (blks l).drop (i.toNat + e.2.toNat))).bind _) = _
      have hdd : (blks l).drop (i.toNat + e.2.toNat) = blks (spl (spl l i).2 e.2).2 := by rw [b4, b2, List.drop_drop]
      rw [hdd, ← b1]
      have hlen2 : ((blks (spl l i).1).length : Int) = i := by rw [blks_len fun e he => by have := m1 e he; omega, s1]
      have hlen3 : ((blks (spl (spl l i).2 e.2).2).length : Int) = sumL l - i - e.2 := by rw [blks_len fun e he => by have := m4 e he; omega, s4, s2]
      by_cases hbig : e.1 ≤ 1099511627776
      · have hnw : news e.1 e.2.toNat = blk e := by
          unfold news blk
          refine List.map_congr_left fun k hk => ?_
          rw [List.mem_range] at hk
          rw [if_neg (by omega), w64 (by omega) (by omega)]
        rw [hnw, ← blks_one, ← blks_app, ← blks_app, runs_blks (fun x hx => by
          rcases List.mem_append.1 hx with hx | hx
          · rcases List.mem_append.1 hx with hx | hx
            · have := m1 x hx; omega
            · rw [List.mem_singleton] at hx; subst hx; omega
          · have := m4 x hx; omega) (by rw [sumL_app, sumL_app]; simp only [sumL]; omega), Option.bind_some, rright_eq, Option.bind_some]
        by_cases h3 : RightB (tog ((spl l i).1 ++ [e] ++ (spl (spl l i).2 e.2).2)) = true
        · rw [if_pos h3, if_pos h3]
        · rw [if_neg h3, if_neg h3]
      · have hA : big (tog ((spl l i).1 ++ [e] ++ (spl (spl l i).2 e.2).2)) := by
          unfold tog
          rw [List.foldl_append, List.foldl_append]
          refine big_fold ?_
          show big (push (tog (spl l i).1) e)
          rw [tog_nj n1]
          exact big_new (fun q hq => by have := m1 q hq; omega) (by omega)
        have hB : big (tog (((blks (spl l i).1) ++ news e.1 e.2.toNat ++ blks (spl (spl l i).2 e.2).2).map unit)) := by
          unfold tog
          rw [List.map_append, List.map_append, List.foldl_append, List.foldl_append]
          refine big_fold ?_
          obtain ⟨m, hm⟩ : ∃ m, e.2.toNat = m + 1 := ⟨e.2.toNat - 1, by omega⟩
          have hcons : news e.1 e.2.toNat = wi64 (e.1 + ((0 : Nat) : Int)) :: ((List.range m).map fun (k : Nat) => wi64 (e.1 + ((k + 1 : Nat) : Int))) := by
            unfold news
            rw [hm, List.range_succ_eq_map, List.map_cons, List.map_map]; rfl
          rw [hcons, List.map_cons, List.foldl_cons]
          refine big_fold ?_
          rw [blks_fold (fun x hx => by have := m1 x hx; omega) (by simp) (by omega)]
          show big (push (tog (spl l i).1) (unit (wi64 (e.1 + ((0 : Nat) : Int)))))
          rw [tog_nj n1]
          refine big_new (fun q hq => by have := m1 q hq; omega) ?_
          show 1099511627776 < wi64 (e.1 + ((0 : Nat) : Int))
          rw [w64 (by omega) (by omega)]; omega
        rw [runs_eq (by simp only [List.length_append, news_len]; omega), Option.bind_some, rright_eq, Option.bind_some, big_right hB, big_right hA]
        rfl
  · unfold gabionref15_Fill_j2
    rw [if_neg h1, if_pos rfl]
    simp only [Bool.not_eq_true] at h1
    rw [h1]; rfl
end Gab
