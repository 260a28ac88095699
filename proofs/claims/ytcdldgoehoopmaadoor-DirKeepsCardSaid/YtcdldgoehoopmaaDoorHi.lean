/- A range over a map: whatever order. -/
import Derived.Test.YtcdldgoehoopmaaDoorHh
import Derived.Laws.IdiomRangeMap
set_option linter.unusedSimpArgs false
set_option linter.unusedVariables false
namespace Gab
open Go

theorem next_run {P : Program} {w : World} {r m since last clock : Nat} {seen : Array Nat} {es : Array MapEntry} (hit : w.heap[r]? = some (.mapIter (some m) since seen last)) (hm : w.heap[m]? = some (.map es clock)) (hold : ∀ x ∈ es.toList, x.born < since) (hsc : since ≤ last) (ty : TypeId) :
    ((∀ e ∈ es.toList, e.born ∈ seen.toList) ∧ (Instr.next (.pointer (some ⟨r, 0, none⟩)) false ty).run P w = .ok (.tuple #[.bool false]) w) ∨
    ∃ e ∈ es.toList, e.born ∉ seen.toList ∧ ∃ w1 : World, (w1 = w ∨ w1 = w.drew) ∧ (Instr.next (.pointer (some ⟨r, 0, none⟩)) false ty).run P w = .ok (.tuple #[.bool true, e.key, e.val]) { w1 with heap := w1.heap.setIfInBounds r (.mapIter (some m) since (seen.push e.born) clock) } := by
  simp only [Instr.next, getObj, Sem.run_bind, Sem.run, hit, hm, Result.andThen, next_test_false seen es since last hold hsc, Bool.false_eq_true, if_false]
  have hmem : ∀ x ∈ (Array.filter (fun e => !seen.contains e.born) es).toList, x.born < since ∧ x ∈ es.toList ∧ x.born ∉ seen.toList := fun x hx => by
    simp at hx
    exact ⟨hold x (by simpa using hx.1), by simpa using hx.1, by simpa using hx.2⟩
  have hall : (Array.filter (fun e => !seen.contains e.born) es).size = 0 → ∀ e ∈ es.toList, e.born ∈ seen.toList := fun h0 e he => by
    have h1 := Array.eq_empty_of_size_eq_zero h0
    rw [Array.filter_eq_empty_iff] at h1
    have := h1 e (by simpa using he)
    simpa using this
  generalize Array.filter (fun e => !seen.contains e.born) es = L at hmem hall ⊢
  have e1 : L.filter (fun x => decide (x.born < since)) = L := Array.filter_eq_self.2 (fun x hx => by simpa using (hmem x (by simpa using hx)).1)
  have e2 : L.filter (fun x => decide (x.born ≥ since)) = #[] := by
    rw [Array.filter_eq_empty_iff]
    intro x hx
    have := (hmem x (by simpa using hx)).1
    simp
    omega
  simp only [e1, e2, Array.append_empty]
  by_cases h0 : L.size = 0
  · refine .inl ⟨hall h0, ?_⟩
    have : L = #[] := Array.eq_empty_of_size_eq_zero h0
    subst this
    simp [choose, Sem.run, Question.forced]
  · right
    have hne : L.isEmpty = false := by simp [Array.isEmpty, h0]
    simp only [hne, Bool.false_eq_true, if_false, Array.empty_append, Array.size_map]
    have hch : ∃ (j : Nat) (w1 : World), j < L.size ∧ (w1 = w ∨ w1 = w.drew) ∧ (choose (Question.mapNext L.size)).run P w = .ok j w1 := by
      by_cases hf : L.size ≤ 1
      · exact ⟨0, w, by omega, .inl rfl, by simp [choose, Sem.run, Question.forced, hf]⟩
      · exact ⟨_, w.drew, Nat.mod_lt _ (by omega), .inr rfl, by
          simp only [choose, Sem.run, Question.forced, decide_eq_true_eq, hf, if_false, Question.cut]
          rfl⟩
    obtain ⟨j, w1, hj, hal, hrun⟩ := hch
    have hLj := hmem L[j] (by simp)
    have hh : w1.heap = w.heap := by rcases hal with rfl | rfl <;> rfl
    refine ⟨L[j], hLj.2.1, hLj.2.2, w1, hal, ?_⟩
    have hset : ∀ (o' : Obj), (setObj r o').run P w1 = .ok () { w1 with heap := w1.heap.setIfInBounds r o' } := fun o' => run_setObj_i o' (by rw [hh]; exact hit)
    simp only [hrun, Array.getElem?_map, Array.getElem?_eq_getElem hj, Option.map_some, Sem.run_bind, hset, Result.andThen]
    rfl

section
variable {P : Program} {N n0 : Nat} {Q : Post} {fr : Fr} {st : St} {ops : Array Oper}
theorem AOps.next {d bi bm since last c : Nat} {it : Operand} {ty : TypeId} {ps : String} {af : Array Edge} {g : Option (Nat × Bool)} {rest : List Oper} {seen : List Nat} {es : MEnts}
    (hw : wantedA ops.toList fr ⟨some d, .next it false, ty, ps, af, g⟩ = some true) (hd : d < N) (he : fr.ev it = .ptr bi 0) (hi : st.get bi = some (.miter (some bm) since seen last)) (hm : getMap st bm = some (es, c))
    (hold : ∀ e ∈ es, e.2.2 < since) (hsc : since ≤ last)
    (k0 : (∀ e ∈ es, e.2.2 ∈ seen) → AOps P N n0 ops rest Q ((d, .tup [.bool false]) :: fr) st)
    (k1 : ∀ e ∈ es, e.2.2 ∉ seen → AOps P N n0 ops rest Q ((d, .tup [.bool true, e.1, e.2.1]) :: fr) (st.set bi (.miter (some bm) since (seen ++ [e.2.2]) c))) :
    AOps P N n0 ops (⟨some d, .next it false, ty, ps, af, g⟩ :: rest) Q fr st := by
  intro ρ w a hn hr hf hdf
  have hw := wantedA_ok hw hf
  unfold wpList
  rw [hw]
  have hx := hf.ev it
  rw [he] at hx
  obtain ⟨lc', hl', hx⟩ := hx
  obtain ⟨lc, hl, hb0, hit⟩ := hr.obj bi _ hi
  rw [hl] at hl'; simp at hl'; subst hl'
  rcases hit with ⟨e', _⟩ | ⟨m', lm, e', hlm, hh⟩
  · cases e'
  cases e'
  obtain ⟨ents, hhm, hents⟩ := map_obj hr hm hlm
  have hbk : ∀ x ∈ ents.toList, ∃ e ∈ es, RV ρ e.1 x.key ∧ RV ρ e.2.1 x.val ∧ x.born = e.2.2 := fun x hx => by
    obtain ⟨i, hi⟩ := List.mem_iff_getElem?.1 hx
    have hlt : i < es.length := by have := (List.getElem?_eq_some_iff.1 hi).1; rw [hents.1] at this; exact this
    obtain ⟨x', h1, h2, h3, h4⟩ := hents.2 i es[i].1 es[i].2.1 es[i].2.2 (List.getElem?_eq_getElem hlt)
    rw [hi] at h1; simp at h1; subst h1
    exact ⟨es[i], List.getElem_mem hlt, h2, h3, h4⟩
  have hfw : ∀ e ∈ es, ∃ x ∈ ents.toList, x.born = e.2.2 := fun e he => by
    obtain ⟨i, hi⟩ := List.mem_iff_getElem?.1 he
    obtain ⟨x, h1, _, _, h4⟩ := hents.2 i e.1 e.2.1 e.2.2 hi
    exact ⟨x, List.mem_of_getElem? h1, h4⟩
  have hx : a.eval it = .pointer (some ⟨lc.blk, 0, none⟩) := by
    rw [hx, hb0]
  simp only [if_true]
  refine .inl ?_
  unfold Oper.wp
  have hrn : ∀ (c : Value) (w' : World), (Instr.next (a.eval it) false ty).run P w = .ok c w' → (execOp a.eval ⟨some d, .next it false, ty, ps, af, g⟩).run P w = .ok (.value c) w' := by
    intro c w' h
    simp only [execOp]
    exact run_v h
  rcases next_run (P := P) hh hhm (fun x hx => by obtain ⟨e, he, _, _, h⟩ := hbk x hx; rw [h]; exact hold e he) hsc ty with ⟨hall, hrun⟩ | ⟨x, hx1, hx2, w1, hw1, hrun⟩
  · rw [← hx] at hrun
    rw [hrn _ _ hrun, Oper.upon_value]
    exact k0 (fun e he => by obtain ⟨x, hx, h⟩ := hfw e he; have := hall x hx; rw [h] at this; simpa using this) ρ w _ hn hr (hf.put (fun t e => by cases e; exact hd) ⟨_, rfl, _, _, rfl, rfl, rfl⟩) hdf
  · rw [← hx] at hrun
    obtain ⟨e, he, hk, hv, hbn⟩ := hbk x hx1
    rw [hrn _ _ hrun, Oper.upon_value]
    have hhp : w1.heap = w.heap := by rcases hw1 with rfl | rfl <;> rfl
    obtain ⟨g1, g2⟩ := MapKept.heap_set (o' := .mapIter (some lm.blk) since (seen.toArray.push x.born) c) hh
    obtain ⟨h1, h2⟩ := hr.upd (o' := .miter (some bm) since (seen ++ [e.2.2]) c) hi rfl hl (w' := { w1 with heap := w1.heap.setIfInBounds lc.blk (.mapIter (some lm.blk) since (seen.toArray.push x.born) c) }) (by rw [hhp]; exact g2) (by rw [hhp]; simp) (by rcases hw1 with rfl | rfl <;> rfl) (by rcases hw1 with rfl | rfl <;> rfl) (by rcases hw1 with rfl | rfl <;> rfl) (by rcases hw1 with rfl | rfl; exact Nat.le_refl _; exact Nat.le_succ _) ⟨hb0, .inr ⟨bm, lm, rfl, hlm, by
      show (w1.heap.setIfInBounds _ _)[_]? = _
      rw [hhp, g1, hbn]; simp⟩⟩
    have h2' := h2.le (n1 := n0) (by have := hr.len; omega)
    exact wpList_mono (fun _ _ _ hq => CPost.step h2' hq) (k1 e he (by rw [← hbn]; simpa using hx2) ρ _ _ hn h1 (hf.put (fun t e => by cases e; exact hd) ⟨_, rfl, _, _, rfl, rfl, _, _, rfl, hk, _, _, rfl, hv, rfl⟩) hdf)
variable {k : List It} {R : Post} {B : Kn} {A L : Own}
/-- What is left of a map that is ranged over. -/
def Lft {β : Type} (es : MEnts) (ps : List β) (seen : List Nat) : List β := ((es.zip ps).filter fun z => !seen.contains z.1.2.2).map (·.2)
theorem Lft.zero {β : Type} {es : MEnts} {ps : List β} (h : es.length = ps.length) : Lft es ps [] = ps := by
  unfold Lft
  have : (es.zip ps).filter (fun z => !([] : List Nat).contains z.1.2.2) = es.zip ps := List.filter_eq_self.2 (fun _ _ => rfl)
  rw [this]
  exact List.map_snd_zip (by omega)
theorem Lft.none {β : Type} {es : MEnts} {ps : List β} {seen : List Nat} (h : ∀ e ∈ es, e.2.2 ∈ seen) : Lft es ps seen = [] := by
  unfold Lft
  rw [List.filter_eq_nil_iff.2, List.map_nil]
  intro z hz
  have := h _ (List.of_mem_zip hz).1
  simpa using this
theorem Lft.pick {β : Type} {seen : List Nat} {e : AV × AV × Nat} {p : β} : ∀ {es : MEnts} {ps : List β} {i : Nat}, (es.map (·.2.2)).Nodup → es[i]? = some e → ps[i]? = some p → e.2.2 ∉ seen → (Lft es ps seen).Perm (p :: Lft es ps (seen ++ [e.2.2]))
  | [], _, i, _, h, _, _ => by simp at h
  | _ :: _, [], i, _, _, h, _ => by simp at h
  | a :: es, q :: ps, 0, hn, h1, h2, hs => by
    simp at h1 h2; subst h1; subst h2
    rw [List.map_cons, List.nodup_cons] at hn
    unfold Lft
    have e1 : ∀ z ∈ es.zip ps, (!(seen ++ [a.2.2]).contains z.1.2.2) = !seen.contains z.1.2.2 := fun z hz => by
      have : z.1.2.2 ≠ a.2.2 := fun e => hn.1 (by rw [← e]; exact List.mem_map.2 ⟨_, (List.of_mem_zip hz).1, rfl⟩)
      simp [this]
    rw [List.zip_cons_cons, List.filter_cons_of_pos (by simpa using hs), List.filter_cons_of_neg (by simp), List.filter_congr e1, List.map_cons]
  | a :: es, q :: ps, i + 1, hn, h1, h2, hs => by
    rw [List.map_cons, List.nodup_cons] at hn
    have ih := Lft.pick (es := es) (ps := ps) (i := i) hn.2 (by simpa using h1) (by simpa using h2) hs
    have hne : a.2.2 ≠ e.2.2 := fun ee => hn.1 (by rw [ee]; exact List.mem_map.2 ⟨_, List.mem_of_getElem? (by simpa using h1), rfl⟩)
    unfold Lft at ih ⊢
    rw [List.zip_cons_cons]
    by_cases hc : a.2.2 ∈ seen
    · rw [List.filter_cons_of_neg (by simpa using hc), List.filter_cons_of_neg (by simp [hc])]; exact ih
    · rw [List.filter_cons_of_pos (by simpa using hc), List.filter_cons_of_pos (by simp [hc, hne]), List.map_cons, List.map_cons]
      exact (ih.cons q).trans (.swap _ _ _)
theorem find_stamp {e : AV × AV × Nat} : ∀ {es : MEnts}, (es.map (·.2.2)).Nodup → e ∈ es → (es.find? fun x => x.2.2 == e.2.2) = some e
  | x :: l, hn, he => by
    rw [List.map_cons, List.nodup_cons] at hn
    rcases List.mem_cons.1 he with rfl | h
    · simp
    · have hx : (x.2.2 == e.2.2) = false := by
        cases hc : x.2.2 == e.2.2 with
        | false => rfl
        | true => exact absurd (by rw [beq_iff_eq.1 hc]; exact List.mem_map.2 ⟨e, h, rfl⟩) hn.1
      rw [List.find?_cons, hx]
      exact find_stamp hn.2 h
theorem MOp.range {κ α : Type} [DecidableEq κ] {t : TypeId} {m : Operand} {tk : Ty κ} {tv : Ty α} {z : α} (ht : MapT P t tk tv z) {bm c : Nat} {es : MEnts} (hM : (bm, some (OV.m es c)) ∈ A ++ L) (he : fr.ev m = .map bm) :
    MOp P (.range t m) fr B A L fun v A' => ∃ bi, v = .ptr bi 0 ∧ A' = (bi, some (OV.i (some bm) c [] c)) :: A := fun st hl hh => by
  obtain ⟨ti, kt, et, ki, w, h1, h2, h3, h4, h5, h6⟩ := ht.ex
  refine ⟨.ptr st.n 0, st.push (.miter (some bm) c [] c), (st.n, some (OV.i (some bm) c [] c)) :: A, ?_, lw_push hl _, hh.pushV hl (.i (some bm) c [] c), _, rfl, rfl⟩
  simp only [evOp, evRange, h1, Option.bind_some, h2, he, getMap_in hh.rd hM]
theorem QOp.entry {bi bm c since : Nat} {es : MEnts} {it : Operand} {seen : List Nat} {e : AV × AV × Nat} (he : fr.ev it = .ptr bi 0) (hi : (bi, some (OV.i (some bm) since (seen ++ [e.2.2]) c)) ∈ A) (hM : (bm, some (OV.m es c)) ∈ A) (hn : (es.map (·.2.2)).Nodup) (hm : e ∈ es) :
    QOp P (.entry it) fr B A (.tup [e.1, e.2.1]) := fun st hr => by
  simp only [evOp, he, evEntry, hr.own _ _ hi, OV.obj, getMap_in hr hM, Option.bind_some, if_true, List.getLast?_append, List.getLast?_singleton, Option.some_or, find_stamp hn hm]
theorem WO.next {d bi bm since last c : Nat} {it : Operand} {ty : TypeId} {ps : String} {af : Array Edge} {g : Option (Nat × Bool)} {rest : List Oper} {seen : List Nat} {es : MEnts}
    (hM : (bm, some (OV.m es c)) ∈ A ++ L) (he : fr.ev it = .ptr bi 0) (hold : ∀ e ∈ es, e.2.2 < since) (hsc : since ≤ last)
    (hw : wantedA ops.toList fr ⟨some d, .next it false, ty, ps, af, g⟩ = some true) (hd : decide (d < N) = true)
    (k0 : (∀ e ∈ es, e.2.2 ∈ seen) → WO P N n0 ops rest R k ((d, .tup [.bool false]) :: fr) B ((bi, some (OV.i (some bm) since seen last)) :: A) L)
    (k1 : ∀ e ∈ es, e.2.2 ∉ seen → WO P N n0 ops rest R k ((d, .tup [.bool true, e.1, e.2.1]) :: fr) B ((bi, some (OV.i (some bm) since (seen ++ [e.2.2]) c)) :: A) L) :
    WO P N n0 ops (⟨some d, .next it false, ty, ps, af, g⟩ :: rest) R k fr B ((bi, some (OV.i (some bm) since seen last)) :: A) L := fun st hl hp => by
  have hi : (bi, some (OV.i (some bm) since seen last)) ∈ ((bi, some (OV.i (some bm) since seen last)) :: A) ++ L := List.mem_cons_self
  exact AOps.next hw (of_decide_eq_true hd) he (hp.own _ _ hi) (getMap_in hp.rd (List.mem_cons_of_mem _ hM)) hold hsc (fun h => k0 h st hl hp) (fun e h1 h2 => k1 e h1 h2 _ (lw_set hl (o' := .miter (some bm) since seen last) (hp.lt hl hi) _)
    (Upd.hp (cs := OV.i (some bm) since seen last) (cs' := OV.i (some bm) since (seen ++ [e.2.2]) c) .h hp (fun i hi => set_get_old hi) (set_get_new rfl)))
theorem WX.loopN {I : Nat → Fr → Kn → Own → Own → Prop} {c : Code} (hs : ∀ n fr B A E, I n fr B A E → (∀ n' fr' B' A' E', n' < n → I n' fr' B' A' E' → WX P N n0 R (.lp c :: k) fr' B' A' (E' ++ L)) → WX P N n0 R (.code c :: .lp c :: k) fr B A (E ++ L)) :
    ∀ n fr B A E, I n fr B A E → WX P N n0 R (.code c :: .lp c :: k) fr B A (E ++ L) := by
  intro n
  induction n using Nat.strongRecOn with
  | ind n ih => exact fun fr B A E h => hs n fr B A E h fun n' fr' B' A' E' hn h' => WX.lp (ih n' hn fr' B' A' E' h')
theorem Upd.stay {x y z : Nat × Option OV} {A A' : Own} (h : Upd x y A A') (hz : z ∈ A) (hn : z ≠ x) : z ∈ A' := by
  induction h with
  | h =>
    rcases List.mem_cons.1 hz with e | hz
    · exact absurd e hn
    · exact List.mem_cons_of_mem _ hz
  | t _ ih =>
    rcases List.mem_cons.1 hz with e | hz
    · exact e ▸ List.mem_cons_self
    · exact List.mem_cons_of_mem _ (ih hz)
theorem Seg.ne {α : Type} {T : Nat} {R : OV → α → Prop} {l : List α} {F : Own} (h : Seg B T R l F) (hp : F.Pairwise fun x y => x.2.isSome = true → y.2.isSome = true → x.1 ≠ y.1) {i j b b' : Nat} (hij : i ≠ j) (hi : (B.ad T)[i]? = some b) (hj : (B.ad T)[j]? = some b') : b ≠ b' := by
  have hil : i < l.length := by have := (List.getElem?_eq_some_iff.1 hi).1; have := h.ad; omega
  have hjl : j < l.length := by have := (List.getElem?_eq_some_iff.1 hj).1; have := h.ad; omega
  obtain ⟨b1, u1, a1, c1, _⟩ := h.at_ i _ (List.getElem?_eq_getElem hil)
  obtain ⟨b2, u2, a2, c2, _⟩ := h.at_ j _ (List.getElem?_eq_getElem hjl)
  rw [hi] at a1; rw [hj] at a2; simp at a1 a2; subst a1; subst a2
  obtain ⟨p1, q1⟩ := List.getElem?_eq_some_iff.1 c1
  obtain ⟨p2, q2⟩ := List.getElem?_eq_some_iff.1 c2
  rw [List.pairwise_iff_getElem] at hp
  rcases Nat.lt_or_gt_of_ne hij with hlt | hlt
  · have := hp i j p1 p2 hlt (by rw [q1]; rfl) (by rw [q2]; rfl)
    rw [q1, q2] at this; exact this
  · have := hp j i p2 p1 hlt (by rw [q2]; rfl) (by rw [q1]; rfl)
    rw [q1, q2] at this; exact this.symm
/-- A key's value in a map is set; the other objects stand. -/
theorem MOpE.putF {κ α : Type} {T : Nat} {E : Own} [DecidableEq κ] {t : TypeId} {m ky vl : Operand} {tk : Ty κ} {tv : Ty α} {z : α} (ht : MapT P t tk tv z) {l : List (List (κ × α))} {K : Kn → List (List (κ × α)) → Own → Prop} (hf : Foc B T (MR tk tv) l E K) {n : Nat} {mv kv vv : AV} (hp : HMt B T mv n) {x : List (κ × α)} (hx : hobj l n = some x) {key : κ} {y : α} (hk : tk.R B [kv] key) (hv : tv.R B [vv] y) (e0 : fr.ev m = mv) (e1 : fr.ev ky = kv) (e2 : fr.ev vl = vv) :
    MOpE P (.mapUpdate t m ky vl) fr B A E L fun _ B' A' E' => B' = B ∧ A' = A ∧ K B (hset l n (mput x key y)) E' ∧ ∀ j b u, j + 1 ≠ n → (B.ad T)[j]? = some b → (b, u) ∈ E → (b, u) ∈ E' := fun st hl hh => by
  subst e0; subst e1; subst e2
  obtain ⟨ti, kt, et, ki, w, h1, h2, h3, h4, h5, h6⟩ := ht.ex
  obtain ⟨i, rfl, hi⟩ := hobj_some hx
  rcases hp with ⟨e, _⟩ | ⟨b, j, hj, hb, hm⟩
  · omega
  obtain rfl : i = j := by omega
  obtain ⟨u, x', hx', hmem, ⟨es, c, rfl, hr⟩, hs⟩ := hf.get hb
  rw [hi] at hx'; simp at hx'; subst hx'
  obtain ⟨r, es', c', hfd, hr', hc⟩ := hr.put h4 hk hv
  obtain ⟨E', hu, hK⟩ := hs (.m es' c') _ ⟨es', c', rfl, hr'⟩
  have hmA : (b, some (OV.m es c)) ∈ A ++ (E ++ L) := inE hmem
  have hst : ∀ (j b1 : Nat) (u : Option OV), j + 1 ≠ i + 1 → (B.ad T)[j]? = some b1 → (b1, u) ∈ E → (b1, u) ∈ E' := fun j b1 u hne hj hz => hu.stay hz fun e => by
    obtain ⟨pre, F, post, rfl, hseg, _⟩ := hf
    have hsep := hh.sep
    have hF : F.Pairwise fun x y => x.2.isSome = true → y.2.isSome = true → x.1 ≠ y.1 := hsep.sublist ((((List.sublist_append_left F post).trans (List.sublist_append_right pre _)).trans (List.sublist_append_left _ L)).trans (List.sublist_append_right A _))
    exact hseg.ne hF (show j ≠ i by omega) hj hb (congrArg Prod.fst e)
  refine ⟨.any, st.set b (.map es' c'), B, A, E', ?_, lw_set hl (o' := .map es c) (hh.lt hl hmA) _, ((hu.app L).pre A).hp hh (fun i hi => set_get_old hi) (set_get_new rfl), rfl, rfl, hK, hst⟩
  have hkk := h4.ok _ _ _ hk
  rcases hc with ⟨rfl, rfl, rfl⟩ | ⟨j, w', e, rfl, he, rfl, rfl⟩
  · simp only [evOp, evMapUpdate, h1, h2, h3, hkk, hm, getMap_in hh.rd hmA, hfd, Option.bind_some, if_true]
  · simp only [evOp, evMapUpdate, h1, h2, h3, hkk, hm, getMap_in hh.rd hmA, hfd, he, Option.bind_some, if_true]
theorem MRel.perm {κ α : Type} {tk : Ty κ} {tv : Ty α} {es : MEnts} {c : Nat} {x y : List (κ × α)} (h : MRel tk tv B es c x) (hp : x.Perm y) : MRel tk tv B es c y := by
  obtain ⟨⟨ps, h1, h2, h3⟩, h4, h5, h6⟩ := h
  exact ⟨⟨ps, h1.trans hp, h2, h3⟩, (hp.map _).nodup_iff.1 h4, h5, h6⟩
end
end Gab
