/- Joined out of Draw Wk Hp Hr Hs Pu Ht Hh Hi Hn Ho by a program. -/
import Derived.Test.YthadcldhclallaaGreatDoorPTreeNone1
import Derived.Laws.IdiomRangeMap
section
set_option linter.unusedSimpArgs false
set_option linter.unusedVariables false
namespace Gab
open Go
theorem evOp_congr {P : Program} {op : Op} {fr fr2 : Fr} {st : St} (h : ∀ x ∈ op.operands, fr.ev x = fr2.ev x) : evOp P op fr st = evOp P op fr2 st := by
  have pairs : ∀ ps : Array (Nat × Operand), (∀ x ∈ (ps.toList.map (·.2)).toArray, fr.ev x = fr2.ev x) → (ps.toList.map fun p => (p.1, fr.ev p.2)) = (ps.toList.map fun p => (p.1, fr2.ev p.2)) := fun ps hp =>
    List.map_congr_left fun p hm => by rw [hp p.2 (by simpa using ⟨p.1, by simpa using hm⟩)]
  have lists : ∀ l : List Operand, (∀ x ∈ l, fr.ev x = fr2.ev x) → l.map fr.ev = l.map fr2.ev := fun l hl => List.map_congr_left hl
  cases op <;> simp only [Op.operands] at h <;> simp only [evOp]
  case build t ps => rw [pairs ps h]
  case buildSlice t n ps => rw [pairs ps h]
  case makeFunc f a b => rw [lists a.toList fun x hx => h x (by simp at hx ⊢; exact .inl hx), lists b.toList fun x hx => h x (by simp at hx ⊢; exact .inr hx)]
  case makeMap t r => cases r <;> simp_all
  case next x b => cases b <;> simp_all
  case slice t x lo hi mx => cases lo <;> cases hi <;> cases mx <;> simp_all
  case call c =>
    split
    · rw [lists c.args.toList fun x hx => h x (by simp [Call.operands]; exact .inr (by simpa using hx))]
    · rename_i g hg
      rw [lists c.args.toList fun x hx => h x (by simp [Call.operands]; exact .inr (by simpa using hx)), h g (by simp [Call.operands, hg])]
    · rfl
  all_goals (first | rfl | (simp_all; done))
def FrEq (fr fr2 : Fr) : Prop := ∀ t, Fr.get fr t = Fr.get fr2 t
theorem FrEq.ev {fr fr2 : Fr} (h : FrEq fr fr2) (x : Operand) : fr.ev x = fr2.ev x := by cases x <;> first | exact h _ | rfl
theorem FrEq.put {fr fr2 : Fr} (h : FrEq fr fr2) (d : Option Nat) (v : AV) : FrEq (fr.put d v) (fr2.put d v) := fun t => by
  cases d with
  | none => exact h t
  | some d => simp only [fr_put_some, fr_get_cons, h t]
theorem FrEq.comm (fr : Fr) {d e : Option Nat} (v u : AV) (h : ∀ t, d = some t → e ≠ some t) : FrEq ((fr.put d v).put e u) ((fr.put e u).put d v) := fun t => by
  cases d with
  | none => rfl
  | some d =>
    cases e with
    | none => rfl
    | some e =>
      have hne : d ≠ e := fun x => h d rfl (x ▸ rfl)
      simp only [fr_put_some, fr_get_cons]
      by_cases h1 : e = t
      · subst h1; rw [if_pos rfl, if_neg hne, if_pos rfl]
      · rw [if_neg h1]
        by_cases h2 : d = t
        · rw [if_pos h2, if_pos h2]
        · rw [if_neg h2, if_neg h2, if_neg h1]
def AExec (P : Program) (o : Oper) (fr : Fr) (st : St) (K : AV → St → Prop) : Prop :=
  (∃ v st', evOp P o.op fr st = some (v, st') ∧ K v st') ∨
  (∃ c g f first cap, o.op = .call c ∧ c.callee = .value g ∧ fr.ev g = .fn (.func f) first cap ∧ ASpec P f (first ++ c.args.toList.map fr.ev ++ cap) st K)
theorem AExec.mono {P : Program} {o : Oper} {fr : Fr} {st : St} {K K' : AV → St → Prop} (h : AExec P o fr st K) (hk : ∀ v s, K v s → K' v s) : AExec P o fr st K' := by
  rcases h with ⟨v, st', h1, h2⟩ | ⟨c, g, f, first, cap, h1, h2, h3, h4⟩
  · exact .inl ⟨v, st', h1, hk _ _ h2⟩
  · exact .inr ⟨c, g, f, first, cap, h1, h2, h3, h4.mono hk⟩
theorem AExec.congr {P : Program} {o : Oper} {fr fr2 : Fr} {st : St} {K : AV → St → Prop} (h : AExec P o fr st K) (he : ∀ x ∈ o.op.operands, fr.ev x = fr2.ev x) : AExec P o fr2 st K := by
  rcases h with ⟨v, st', h1, h2⟩ | ⟨c, g, f, first, cap, h1, h2, h3, h4⟩
  · exact .inl ⟨v, st', by rw [← evOp_congr he]; exact h1, h2⟩
  · have hops : o.op.operands = c.operands := by rw [h1]; rfl
    rw [hops] at he
    have hg : fr.ev g = fr2.ev g := he g (by simp [Call.operands, h2])
    have hl : c.args.toList.map fr.ev = c.args.toList.map fr2.ev := List.map_congr_left fun x hx => he x (by simp [Call.operands]; exact .inr (by simpa using hx))
    exact .inr ⟨c, g, f, first, cap, h1, h2, by rw [← hg]; exact h3, by rw [← hl]; exact h4⟩
def AStep (P : Program) (N : Nat) (ops : List Oper) (o : Oper) (fr : Fr) (st : St) (K : Fr → St → Prop) : Prop :=
  dstOk N o.dst = true ∧ ∃ q, wantedA ops fr o = some q ∧ (q = false → K (fr.put o.dst (.tup [])) st) ∧ (q = true → AExec P o fr st fun v st' => K (fr.put o.dst v) st')
theorem wantedA_congr {ops : List Oper} {fr fr2 : Fr} {o : Oper} (h : ∀ d, (∃ j w, o.guard = some (j, w) ∧ (ops[j]?.bind (·.dst)) = some d) → Fr.get fr d = Fr.get fr2 d) : wantedA ops fr o = wantedA ops fr2 o := by
  unfold wantedA
  split
  · rfl
  · rename_i j w hg
    cases hd : ops[j]?.bind (·.dst) with
    | none => rfl
    | some d => simp only [Option.bind_some, h d ⟨j, w, hg, hd⟩]
theorem AStep.congr {P : Program} {N : Nat} {ops : Array Oper} {o : Oper} {fr fr2 : Fr} {st : St} {K K2 : Fr → St → Prop} (h : AStep P N ops.toList o fr st K) (he : ∀ d, d ∈ o.looksAt ops → Fr.get fr d = Fr.get fr2 d)
    (hk : ∀ v s, K (fr.put o.dst v) s → K2 (fr2.put o.dst v) s) : AStep P N ops.toList o fr2 st K2 := by
  obtain ⟨h1, q, h2, h3, h4⟩ := h
  have hev : ∀ x ∈ o.op.operands, fr.ev x = fr2.ev x := fun x hx => by
    cases x with
    | tmp t => exact he t (List.mem_append_left _ (List.mem_filterMap.2 ⟨.tmp t, by simpa using hx, rfl⟩))
    | _ => rfl
  have hw : wantedA ops.toList fr o = wantedA ops.toList fr2 o := wantedA_congr fun d ⟨j, w, hg, hd⟩ => he d (by
    refine List.mem_append_right _ ?_
    rw [Array.getElem?_toList] at hd
    simp [hg, hd])
  exact ⟨h1, q, by rw [← hw]; exact h2, fun hq => hk _ _ (h3 hq), fun hq => ((h4 hq).congr hev).mono fun v s hs => hk v s hs⟩
theorem AStep.mono {P : Program} {N : Nat} {ops : Array Oper} {o : Oper} {fr : Fr} {st : St} {K K2 : Fr → St → Prop} (h : AStep P N ops.toList o fr st K) (hk : ∀ f s, K f s → K2 f s) : AStep P N ops.toList o fr st K2 :=
  h.congr (fun _ _ => rfl) fun v s hs => hk _ _ hs
def isQ (P : Program) : Op → Bool
  | .convert S D _ => (match tinfo P S, tinfo P D with
    | some si, some di => (match si.k, di.k with
      | .sl _, _ => false
      | _, .sl _ => false
      | _, _ => true)
    | _, _ => false)
  | .move _ | .assign _ | .pick .. | .build .. | .load .. | .nilCheck _ | .binOp .. | .unOp .. | .makeFunc .. | .slice .. | .fieldAddr .. | .field .. | .indexAddr .. | .index .. | .extract .. => true
  | .call c => match c.callee with
    | .builtin .len => (match c.argTypes.toList with
      | t :: _ => (match tinfo P t with
        | some ti => (match ti.k with
          | .map _ _ => false
          | _ => true)
        | none => false)
      | [] => false)
    | .builtin .min | .builtin .max => true
    | _ => false
  | _ => false
def memRd : Op → Bool
  | .load .. => true
  | _ => false
def Kp (K st : St) : Prop := ∀ b cs, rdBlk K b = some cs → rdBlk st b = some cs
theorem Kp.refl (st : St) : Kp st st := fun _ _ h => h
theorem Kp.push {K st : St} (h : Kp K st) (hn : ∀ b cs, rdBlk K b = some cs → b < st.n) (o : AObj) : Kp K (st.push o) := fun b cs hb => by
  rw [rdBlk_old (by have := hn b cs hb; omega)]; exact h b cs hb
theorem bind_pair {x : Option AV} {K K' st : St} {v : AV} (h : (x.bind fun v => some (v, K)) = some (v, K')) : (x.bind fun v => some (v, st)) = some (v, st) := by
  cases x with
  | none => cases h
  | some y => simp at h; obtain ⟨rfl, rfl⟩ := h; rfl
theorem conv_quiet {P : Program} {S D : TypeId} {x : Operand} {a v : AV} {K K' : St} (hq : isQ P (.convert S D x) = true) (h : evConvert P S D a K = some (v, K')) (st : St) : evConvert P S D a st = some (v, st) := by
  unfold isQ at hq
  unfold evConvert at h ⊢
  cases hs : tinfo P S with
  | none => simp [hs] at hq
  | some si =>
    cases hd : tinfo P D with
    | none => simp [hs, hd] at hq
    | some di =>
      simp only [hs, hd] at hq
      simp only [hs, hd, Option.bind_some] at h ⊢
      cases hk : di.k <;> cases a <;> cases hk' : si.k <;> simp_all
theorem evOp_quiet {P : Program} {op : Op} {fr : Fr} {K K' st : St} {v : AV} (hq : isQ P op = true) (h : evOp P op fr K = some (v, K')) (hk : memRd op = true → Kp K st) : evOp P op fr st = some (v, st) := by
  cases op <;> simp only [isQ, Bool.false_eq_true] at hq <;> simp only [evOp] at h ⊢
  case load t x =>
    simp only [Option.bind_eq_some_iff] at h
    obtain ⟨v', hv, h⟩ := h
    simp at h; obtain ⟨rfl, rfl⟩ := h
    have : evLoad P t (fr.ev x) st = some v' := by
      unfold evLoad at hv ⊢
      split at hv
      · simp only [Option.bind_eq_some_iff] at hv
        obtain ⟨ti, hti, cs, hcs, hv⟩ := hv
        simp only [hti, hk rfl _ _ hcs, Option.bind_some]
        exact hv
      · cases hv
    rw [this]; rfl
  case call c =>
    split at hq <;> rename_i hc
    case h_4 => cases hq
    all_goals
      rw [hc] at h ⊢
      simp only [evBuiltin] at h ⊢
    · cases ht : c.argTypes.toList with
      | nil => rw [ht] at h; cases h
      | cons t r =>
        rw [ht] at h hq
        cases hx : c.args.toList.map fr.ev with
        | nil => rw [hx] at h; cases h
        | cons x s =>
          rw [hx] at h
          cases s with
          | nil =>
            simp only at hq
            split at hq
            · rename_i ti hti
              have hno : ∀ m K, evLenM P t m K = none := fun m K => by
                unfold evLenM
                rw [hti, Option.bind_some]
                split
                · rename_i hk; rw [hk] at hq; cases hq
                · rfl
              cases hl : evLen P t x with
              | some v' => simp only [hl] at h ⊢; simp at h; rw [h.1]
              | none => simp only [hl, hno, Option.bind_none] at h; cases h
            · cases hq
          | cons y s => cases h
    · exact bind_pair h
    · exact bind_pair h
  case pick c a b =>
    split at h
    · simp at h ⊢; exact h.1
    · cases h
  case nilCheck x =>
    split at h
    · simp at h ⊢; exact h.1
    · simp at h ⊢; exact h.1
    · cases h
  case extract t i =>
    split at h
    · exact bind_pair h
    · cases h
  case move x => simp at h ⊢; exact h.1
  case assign x => simp at h ⊢; exact h.1
  case makeFunc f a b => simp at h ⊢; exact h.1
  case convert S D x => exact conv_quiet (x := x) (by simpa [isQ] using hq) h st
  all_goals exact bind_pair h
def needS (P : Program) (ops : Array Oper) (j : Nat) : Bool := match ops[j]? with
  | none => true
  | some oj => !isQ P oj.op && (List.range ops.size).any fun i => i != j && (match ops[i]? with
    | some oi => memRd oi.op && !(oj.after.any fun e => Region.binds .any e && e.on == i)
    | none => false)
theorem needS_spec {P : Program} {ops : Array Oper} {i j : Nat} {oi oj : Oper} (hi : ops[i]? = some oi) (hj : ops[j]? = some oj) (hne : i ≠ j) (hm : memRd oi.op = true) (hqj : isQ P oj.op = false) (hno : ∀ e ∈ oj.after, Region.binds .any e = true → e.on ≠ i) : needS P ops j = true := by
  unfold needS
  simp only [hj, hqj, Bool.not_false, Bool.true_and, List.any_eq_true, List.mem_range]
  refine ⟨i, (Array.getElem?_eq_some_iff.1 hi).1, ?_⟩
  simp only [hi, hm, Bool.and_eq_true, bne_iff_ne, ne_eq, hne, not_false_eq_true, true_and, Bool.not_eq_true', Bool.and_eq_false_iff]
  rw [Array.any_eq_false']
  intro e he
  cases hb : Region.binds .any e with
  | false => simp
  | true => simpa using hno e he hb
def AStepI (P : Program) (N : Nat) (ops : Array Oper) (j : Nat) (fr : Fr) (st : St) (K : Fr → St → Prop) : Prop := match ops[j]? with
  | none => K fr st
  | some o => AStep P N ops.toList o fr st K
def AAny (P : Program) (N : Nat) (ops : Array Oper) (K : St) (Q : Fr → St → Prop) : Nat → Array Bool → Fr → St → Prop
  | 0, listed, fr, st => Region.ready .any ops listed = [] ∧ ∃ fr2, FrEq fr fr2 ∧ Q fr2 st
  | n + 1, listed, fr, st => (Region.ready .any ops listed = [] → ∃ fr2, FrEq fr fr2 ∧ Q fr2 st) ∧
    ∀ j ∈ Region.ready .any ops listed, AStepI P N ops j fr st fun fr' st' => (needS P ops j = true → Kp K st') ∧ AAny P N ops K Q n (listed.setIfInBounds j true) fr' st'
section
variable {P : Program} {N : Nat} {ops : Array Oper} {K : St} {Q : Fr → St → Prop}
theorem AAny.freq : ∀ {n : Nat} {listed : Array Bool} {fr fr2 : Fr} {st : St}, AAny P N ops K Q n listed fr st → FrEq fr fr2 → AAny P N ops K Q n listed fr2 st
  | 0, _, fr, fr2, st, h, he => ⟨h.1, let ⟨f, h1, h2⟩ := h.2; ⟨f, fun t => (he t).symm.trans (h1 t), h2⟩⟩
  | n + 1, _, fr, fr2, st, h, he => by
    refine ⟨fun hr => let ⟨f, h1, h2⟩ := h.1 hr; ⟨f, fun t => (he t).symm.trans (h1 t), h2⟩, fun j hj => ?_⟩
    have := h.2 j hj
    unfold AStepI at this ⊢
    split
    · rename_i ho
      rw [ho] at this
      exact ⟨this.1, this.2.freq he⟩
    · rename_i o ho
      rw [ho] at this
      exact this.congr (fun d _ => he d) fun v s hs => ⟨hs.1, hs.2.freq (he.put _ _)⟩
noncomputable def evQ (P : Program) (N : Nat) (ops : List Oper) (K : St) (o : Oper) (fr : Fr) : Option AV :=
  (wantedA ops fr o).bind fun q => if dstOk N o.dst then (if q then (evOp P o.op fr K).bind fun r => some r.1 else some (.tup [])) else none
theorem evQ_step {o : Oper} {fr : Fr} {st : St} {v : AV} (hq : isQ P o.op = true) (h : evQ P N ops.toList K o fr = some v) (hk : memRd o.op = true → Kp K st) {C : Fr → St → Prop} (hc : C (fr.put o.dst v) st) : AStep P N ops.toList o fr st C := by
  unfold evQ at h
  simp only [Option.bind_eq_some_iff] at h
  obtain ⟨q, hw, h⟩ := h
  split at h
  · rename_i hd
    refine ⟨hd, q, hw, fun e => ?_, fun e => ?_⟩
    · subst e; simp at h; subst h; exact hc
    · subst e
      simp only [if_true, Option.bind_eq_some_iff] at h
      obtain ⟨r, hr, h⟩ := h
      simp at h; subst h
      exact .inl ⟨r.1, st, evOp_quiet hq hr hk, hc⟩
  · cases h
theorem evQ_congr {o : Oper} {fr fr2 : Fr} (he : ∀ d, d ∈ o.looksAt ops → Fr.get fr d = Fr.get fr2 d) : evQ P N ops.toList K o fr = evQ P N ops.toList K o fr2 := by
  have hev : ∀ x ∈ o.op.operands, fr.ev x = fr2.ev x := fun x hx => by
    cases x with
    | tmp t => exact he t (List.mem_append_left _ (List.mem_filterMap.2 ⟨.tmp t, by simpa using hx, rfl⟩))
    | _ => rfl
  have hw : wantedA ops.toList fr o = wantedA ops.toList fr2 o := wantedA_congr fun d ⟨j, w, hg, hd⟩ => he d (by
    refine List.mem_append_right _ ?_
    rw [Array.getElem?_toList] at hd
    simp [hg, hd])
  unfold evQ
  rw [hw, evOp_congr hev]
theorem get_put_of {fr : Fr} {d : Option Nat} {v : AV} {t : Nat} (h : d ≠ some t) : Fr.get (fr.put d v) t = Fr.get fr t := by
  cases d with
  | none => rfl
  | some d => simp only [fr_put_some, fr_get_cons]; rw [if_neg (fun e => h (by rw [e]))]
theorem AStep.quiet {o : Oper} {fr : Fr} {st : St} {C : Fr → St → Prop} (hq : isQ P o.op = true) (h : AStep P N ops.toList o fr st C) : AStep P N ops.toList o fr st fun f s => C f s ∧ s = st := by
  obtain ⟨h1, q, h2, h3, h4⟩ := h
  refine ⟨h1, q, h2, fun e => ⟨h3 e, rfl⟩, fun e => ?_⟩
  rcases h4 e with ⟨v, st', g1, g2⟩ | ⟨c, g, f, first, cap, g1, g2, _⟩
  · have := evOp_quiet (st := st) hq g1 (fun _ => Kp.refl _)
    rw [this] at g1
    simp at g1; subst g1
    exact .inl ⟨v, st, this, g2, rfl⟩
  · rw [g1] at hq; simp [isQ, g2] at hq
theorem AAny.first {i : Nat} {oi : Oper} (hi : ops[i]? = some oi) (hq : isQ P oi.op = true) : ∀ {n : Nat} {listed : Array Bool} {fr : Fr} {st : St} {v : AV},
    (∀ j oj, ops[j]? = some oj → j ≠ i → listed.getD j true = false → (∀ e ∈ oj.after, Region.binds .any e = true → e.on ≠ i) → oi.apart ops oj = true) →
    i ∈ Region.ready .any ops listed → evQ P N ops.toList K oi fr = some v → (memRd oi.op = true → Kp K st) →
    AAny P N ops K Q n (listed.setIfInBounds i true) (fr.put oi.dst v) st → AAny P N ops K Q (n + 1) listed fr st := by
  have hnS : needS P ops i = true → False := fun h => by simp [needS, hi, hq] at h
  intro n
  induction n with
  | zero =>
    intro listed fr st v _ hr hv hk H
    refine ⟨fun h => (by rw [h] at hr; cases hr), fun j hj => ?_⟩
    by_cases hji : j = i
    · subst hji
      unfold AStepI; rw [hi]
      exact evQ_step hq hv hk ⟨fun h => (hnS h).elim, H⟩
    · have := ready_mono hj hji
      rw [H.1] at this
      cases this
  | succ n ih =>
    intro listed fr st v hfree hr hv hk H
    refine ⟨fun h => (by rw [h] at hr; cases hr), fun j hj => ?_⟩
    by_cases hji : j = i
    · subst hji
      unfold AStepI; rw [hi]
      exact evQ_step hq hv hk ⟨fun h => (hnS h).elim, H⟩
    · have h1 := H.2 j (ready_mono hj hji)
      obtain ⟨hjun, oj, hoj, hall⟩ := mem_ready.1 hj
      have hnot : ∀ e ∈ oj.after, Region.binds .any e = true → e.on ≠ i := fun e he hb heq => by
        have h1 := hall e he hb
        have h0 := (mem_ready.1 hr).1
        rw [heq] at h1
        rcases Nat.lt_or_ge i listed.size with h' | h'
        · simp [h'] at h0 h1; rw [h0] at h1; cases h1
        · simp [Array.getElem?_eq_none h'] at h1
      obtain ⟨a1, a2, a3⟩ := Oper.apart_spec (hfree j oj hoj hji hjun hnot)
      have hfree' : ∀ k ok, ops[k]? = some ok → k ≠ i → (listed.setIfInBounds j true).getD k true = false → (∀ e ∈ ok.after, Region.binds .any e = true → e.on ≠ i) → oi.apart ops ok = true := fun k ok hk hki hun hno => by
        refine hfree k ok hk hki ?_ hno
        by_cases hjk : j = k
        · subst hjk; exact hjun
        · rw [getD_set_ne true hjk] at hun; exact hun
      unfold AStepI at h1 ⊢
      rw [hoj] at h1 ⊢
      simp only at h1 ⊢
      have main : ∀ (u : AV) (s : St), ((needS P ops j = true → Kp K s) ∧ AAny P N ops K Q n ((listed.setIfInBounds i true).setIfInBounds j true) ((fr.put oi.dst v).put oj.dst u) s) → (memRd oi.op = true → Kp K s) →
          ((needS P ops j = true → Kp K s) ∧ AAny P N ops K Q (n + 1) (listed.setIfInBounds j true) (fr.put oj.dst u) s) := fun u s ⟨hs, hA⟩ hks => by
        refine ⟨hs, ih hfree' (ready_mono hr (Ne.symm hji)) (v := v) ?_ hks ?_⟩
        · rw [← hv]
          exact evQ_congr fun d hd => get_put_of fun e => a3 d e hd
        · rw [Array.setIfInBounds_comm _ _ hji]
          exact hA.freq (FrEq.comm fr v u a2)
      have hget : ∀ d, d ∈ oj.looksAt ops → Fr.get (fr.put oi.dst v) d = Fr.get fr d := fun d hd => get_put_of fun e => a1 d e hd
      cases hqj : isQ P oj.op with
      | true => exact (AStep.quiet hqj h1).congr hget fun u s ⟨hs, e⟩ => main u s hs fun hm => by rw [e]; exact hk hm
      | false => exact h1.congr hget fun u s hs => main u s hs fun hm => hs.1 (needS_spec hi hoj (Ne.symm hji) hm hqj hnot)
theorem wpOpIn_mono2 {F : Fence} {n : Nat} {P : Program} {ops : Array Oper} {Q Q' : Exit → Act → World → Prop} (hq : ∀ e a w, Q e a w → Q' e a w) {i : Nat} {K K' : Act → World → Prop} (hk : ∀ a w, K a w → K' a w) {a : Act} {w : World} (h : wpOpIn F n P ops Q i K a w) : wpOpIn F n P ops Q' i K' a w := by
  unfold wpOpIn at h ⊢
  split
  · rename_i ho; rw [ho] at h; exact hk _ _ h
  · rename_i o ho
    rw [ho] at h
    simp only at h
    split
    · rename_i hw
      rw [if_pos hw] at h
      unfold Oper.wpIn at *
      refine ⟨h.1, ?_⟩
      have h := h.2
      generalize (o.semAt F.round a.eval).run P w = r at *
      cases r with
      | ok n w' =>
        cases n <;> simp only [Oper.uponIn] at h ⊢ <;>
          first
            | exact hk _ _ h
            | exact ⟨h.1, CallsIn.mono h.2 (fun e w'' he => by cases e <;> first | exact hk _ _ he | exact hq _ _ _ he | exact let ⟨a, w, hh⟩ := he; ⟨a, w, hq _ _ _ hh⟩)⟩
            | exact ⟨h.1, RowsIn.mono h.2 (fun _ _ he => hk _ _ he)⟩
            | exact ⟨h.1, RoundIn.mono h.2 (fun e w'' he => by cases e <;> first | exact hk _ _ he | exact hq _ _ _ he | exact let ⟨a, w, hh⟩ := he; ⟨a, w, hq _ _ _ hh⟩)⟩
      | halt x w' => cases x <;> simp only [Oper.uponIn] at h ⊢ <;> first | exact h | exact hq _ _ _ h
    · rename_i hw
      rw [if_neg hw] at h
      exact ⟨h.1, hk _ _ h.2⟩
theorem wpAnyIn_mono' {F : Fence} {n : Nat} {P : Program} {md : Region.Mode} {ops : Array Oper} {Q Q' : Exit → Act → World → Prop} (hq : ∀ e a w, Q e a w → Q' e a w) : ∀ {k : Nat} {listed : Array Bool} {a : Act} {w : World}, wpAnyIn F n P md ops Q k listed a w → wpAnyIn F n P md ops Q' k listed a w
  | 0, _, _, _, h => ⟨h.1, hq _ _ _ h.2⟩
  | _ + 1, _, _, _, h => ⟨fun e => hq _ _ _ (h.1 e), fun i hi => wpOpIn_mono2 hq (fun _ _ hk => wpAnyIn_mono' hq hk) (h.2 i hi)⟩
theorem AStep.sound {n0 : Nat} {R : Post} {o : Oper} {fr : Fr} {st : St} {C : Fr → St → Prop} (h : AStep P N ops.toList o fr st C) {ro : Option Nat} {m : Nat} {ρ : Loc.Map} {w : World} {a : Act} (hn : n0 ≤ ρ.length) (hr : Rel ρ st w) (hf : FrameRel ρ N fr a.tmps) (hd : Dk m ρ st w a.defers)
    {X : Act → World → Prop} {E : Exit → Act → World → Prop} (hx : ∀ fr' st' ρ' w' a', C fr' st' → n0 ≤ ρ'.length → Rel ρ' st' w' → FrameRel ρ' N fr' (a' : Act).tmps → Dk m ρ' st' w' a'.defers → Step n0 ρ st w ρ' st' w' → X a' w') :
    if Region.wanted o (yielded ops a.tmps) then o.wpIn (FW ro) 0 P a w X E else (∀ f, o.about P w a.eval = some f → (FW ro).fn f) ∧ X (a.put o.dst undef) w := by
  obtain ⟨h1, q, h2, h3, h4⟩ := h
  have hdst := dstOk_spec h1
  rw [wantedA_ok h2 hf]
  cases q with
  | false =>
    rw [if_neg (by simp)]
    exact ⟨fun _ _ => trivial, hx _ _ ρ w _ (h3 rfl) hn hr (hf.put hdst ⟨[], rfl, rfl⟩) (hd.put _ _) (.refl ..)⟩
  | true =>
    rw [if_pos rfl]
    refine ⟨fun _ _ => trivial, ?_⟩
    rcases h4 rfl with ⟨v, st', g1, g2⟩ | ⟨c, g, f, first, cap, hop, hc, hg, hcall, g4⟩
    · obtain ⟨cv, w', ρ', hrun, k1, k2, k3⟩ := evOp_ok (N := N) (o := o) g1 ρ w a hr hf
      have hsup := hr.n_le k1 k3
      have k3' := k3.le (n1 := n0) (by have := hr.len; omega)
      rw [semW (N := N) g1]
      rcases hrun with hrun | ⟨rfl, hrun⟩
      · rw [hrun, Oper.uponIn_value]
        exact hx _ _ ρ' w' _ g2 (k3'.ext.len hn) k1 ((hf.sup hsup).put hdst k2) ((hd.next k3').put _ _) k3'
      · rw [hrun, Oper.uponIn_skip]
        exact hx _ _ ρ' w' _ g2 (k3'.ext.len hn) k1 ((hf.sup hsup).put hdst k2) ((hd.next k3').put _ _) k3'
    · obtain ⟨fn, hfn, hname, hbody⟩ := hcall
      have he := fun x => hf.ev x
      have hgv := he g
      rw [hg] at hgv
      obtain ⟨cf, cc, hgv, p1, p2⟩ := hgv
      have hcargs : RVs ρ (first ++ c.args.toList.map fr.ev ++ cap) (cf ++ (c.args.map a.eval).toList ++ cc) := by
        refine RVs.append (RVs.append p1 ?_) p2
        rw [Array.toList_map]; exact RVs.map he _
      have hrun : (execOp a.eval o).run P w = .ok (.enter f ⟨cf ++ (c.args.map a.eval).toList ++ cc⟩) w := by
        have hres : (resolve a.eval c o.type).run P w = .ok { target := .fn (.func f) ⟨cc⟩, args := ⟨cf⟩ ++ c.args.map a.eval } w := by
          simp only [resolve, hc, hgv, Deferred.ofValue, Sem.run_pure]
        simp only [execOp, hop, Sem.run_bind, hres, Result.andThen_ok, invoke, callFunc, run_program, hfn, hname, hbody, Bool.false_eq_true, if_false, Sem.run_pure]
        congr 2
        apply Array.ext'
        simp
      rw [Oper.semAt_eq _ _ o (fun c' e => by rw [hop] at e; cases e), hrun, Oper.uponIn_enter]
      refine ⟨fun e => by simp [FW, Fence.wide] at e, callsW ((g4 ρ w _ hr hcargs).mono fun e w' hq => ?_)⟩
      obtain ⟨cv, v, ρ', st', rfl, hQ, hrv, hr', hs⟩ := hq
      have hsup := hr.n_le hr' hs
      have hs' := hs.le (n1 := n0) (by have := hr.len; omega)
      exact hx _ _ ρ' w' _ hQ (hs'.ext.len hn) hr' ((hf.sup hsup).put hdst hrv) ((hd.next hs').put _ _) hs'
theorem AAny.sound {n0 : Nat} {R : Post} : ∀ {n : Nat} {listed : Array Bool} {fr : Fr} {st : St}, AAny P N ops K (R .normal) n listed fr st → ∀ {ro : Option Nat} {m : Nat} {ρ : Loc.Map} {w : World} {a : Act}, n0 ≤ ρ.length → Rel ρ st w → FrameRel ρ N fr a.tmps → Dk m ρ st w a.defers →
    wpAnyIn (FW ro) 0 P .any ops (CPost N n0 m R ρ st w) n listed a w
  | 0, listed, fr, st, h, ro, m, ρ, w, a, hn, hr, hf, hd => by
    obtain ⟨h1, fr2, h2, h3⟩ := h
    exact ⟨h1, fr2, st, ρ, h3, hr, ⟨hf.1, fun t => by rw [← h2 t]; exact hf.2 t⟩, hd, .refl ..⟩
  | n + 1, listed, fr, st, h, ro, m, ρ, w, a, hn, hr, hf, hd => by
    refine ⟨fun he => ?_, fun j hj => ?_⟩
    · obtain ⟨fr2, h2, h3⟩ := h.1 he
      exact ⟨fr2, st, ρ, h3, hr, ⟨hf.1, fun t => by rw [← h2 t]; exact hf.2 t⟩, hd, .refl ..⟩
    · have hs := h.2 j hj
      unfold AStepI at hs
      unfold wpOpIn
      split
      · rename_i ho
        rw [ho] at hs
        exact AAny.sound hs.2 hn hr hf hd
      · rename_i o ho
        rw [ho] at hs
        refine AStep.sound (n0 := n0) (R := R) hs hn hr hf hd fun fr' st' ρ' w' a' hC hn' hr' hf' hd' hst => ?_
        exact wpAnyIn_mono' (fun _ _ _ hq => CPost.step hst hq) (AAny.sound hC.2 hn' hr' hf' hd')
end
inductive Plan where
  | nil
  | one (i : Nat) (r : Plan)
  | alt (a b : Plan)
namespace Plan
def len : Plan → Nat
  | nil => 0
  | one _ r => r.len + 1
  | alt a _ => a.len
def heads : Plan → List Nat
  | nil => []
  | one i _ => [i]
  | alt a b => a.heads ++ b.heads
@[reducible] def of : List Nat → Plan → Plan
  | [], t => t
  | i :: r, t => one i (of r t)
end Plan
def planOkB (P : Program) (ops : Array Oper) : Bool → Array Bool → Plan → Bool
  | alone, listed, .nil => alone && (Region.ready .any ops listed).isEmpty
  | alone, listed, .one i r => (match ops[i]? with
    | none => false
    | some o => if isQ P o.op then alone && (Region.ready .any ops listed).contains i && Region.free .any ops listed i else !alone || Region.ready .any ops listed == [i]) && planOkB P ops true (listed.setIfInBounds i true) r
  | alone, listed, .alt a b => (!alone || Region.ready .any ops listed == a.heads ++ b.heads) && (a.len == b.len) && planOkB P ops false listed a && planOkB P ops false listed b
abbrev planOk (P : Program) (ops : Array Oper) (listed : Array Bool) (p : Plan) : Bool := planOkB P ops true listed p
abbrev altOk (P : Program) (ops : Array Oper) (listed : Array Bool) (p : Plan) : Bool := planOkB P ops false listed p
section
variable {P : Program} {N : Nat} {ops : Array Oper} {K : St} {Q : Fr → St → Prop}
def ABr (P : Program) (N : Nat) (ops : Array Oper) (K : St) (Q : Fr → St → Prop) (listed : Array Bool) : Plan → Fr → St → Prop
  | .nil, _, _ => True
  | .one i r, fr, st => AStepI P N ops i fr st fun fr' st' => (needS P ops i = true → Kp K st') ∧ AAny P N ops K Q r.len (listed.setIfInBounds i true) fr' st'
  | .alt a b, fr, st => ABr P N ops K Q listed a fr st ∧ ABr P N ops K Q listed b fr st
def APlan (P : Program) (N : Nat) (ops : Array Oper) (K : St) (Q : Fr → St → Prop) (listed : Array Bool) (plan : Plan) (fr : Fr) (st : St) : Prop :=
  (planOk P ops listed plan = true → AAny P N ops K Q plan.len listed fr st) ∧ (altOk P ops listed plan = true → ABr P N ops K Q listed plan fr st)
theorem APlan.nil {listed : Array Bool} {fr : Fr} {st : St} (h : Q fr st) : APlan P N ops K Q listed .nil fr st := ⟨fun hp =>
  ⟨by simpa [planOkB] using hp, fr, fun _ => rfl, h⟩, fun _ => trivial⟩
theorem APlan.quiet {listed : Array Bool} {i : Nat} {r : Plan} {o : Oper} {fr : Fr} {st : St} {v : AV} (hi : ops[i]? = some o) (hq : isQ P o.op = true) (hv : evQ P N ops.toList K o fr = some v) (hk : Kp K st)
    (h : APlan P N ops K Q (listed.setIfInBounds i true) r (fr.put o.dst v) st) : APlan P N ops K Q listed (.one i r) fr st := ⟨fun hp => by
  simp only [planOkB, hi, hq, if_true, Bool.true_and, Bool.and_eq_true] at hp
  exact AAny.first hi hq (Region.free_spec hi hp.1.2) (by simpa using hp.1.1) hv (fun _ => hk) (h.1 hp.2), fun hp => by
  simp [planOkB, hi, hq] at hp⟩
theorem APlan.step {listed : Array Bool} {i : Nat} {r : Plan} {o : Oper} {fr : Fr} {st : St} (hi : ops[i]? = some o) (hq : isQ P o.op = false)
    (h : AStep P N ops.toList o fr st fun fr' st' => (needS P ops i = true → Kp K st') ∧ APlan P N ops K Q (listed.setIfInBounds i true) r fr' st') : APlan P N ops K Q listed (.one i r) fr st := ⟨fun hp => by
  simp only [planOkB, hi, hq, Bool.false_eq_true, if_false, Bool.not_true, Bool.false_or, Bool.and_eq_true, beq_iff_eq] at hp
  refine ⟨fun e => (by rw [hp.1] at e; cases e), fun j hj => ?_⟩
  rw [hp.1] at hj
  simp at hj; subst hj
  unfold AStepI
  rw [hi]
  exact h.mono fun f s hs => ⟨hs.1, hs.2.1 hp.2⟩, fun hp => by
  simp only [planOkB, hi, hq, Bool.false_eq_true, if_false, Bool.not_false, Bool.true_or, Bool.true_and] at hp
  show AStepI P N ops i fr st _
  unfold AStepI
  rw [hi]
  exact h.mono fun f s hs => ⟨hs.1, hs.2.1 hp⟩⟩
theorem ABr.step {listed : Array Bool} {fr : Fr} {st : St} : ∀ {p : Plan} {n : Nat}, altOk P ops listed p = true → ABr P N ops K Q listed p fr st → p.len = n + 1 → ∀ j ∈ p.heads, AStepI P N ops j fr st fun fr' st' => (needS P ops j = true → Kp K st') ∧ AAny P N ops K Q n (listed.setIfInBounds j true) fr' st'
  | .nil, n, _, _, hl => by simp [Plan.len] at hl
  | .one i r, n, _, h, hl => fun j hj => by
    simp only [Plan.heads, List.mem_singleton] at hj
    subst hj
    have : r.len = n := by simpa [Plan.len] using hl
    subst this
    exact h
  | .alt a b, n, ho, h, hl => fun j hj => by
    simp only [planOkB, Bool.and_eq_true, beq_iff_eq] at ho
    rcases List.mem_append.1 hj with hj | hj
    · exact ABr.step ho.1.2 h.1 hl j hj
    · exact ABr.step ho.2 h.2 (ho.1.1.2.symm.trans hl) j hj
theorem alt_len {listed : Array Bool} : ∀ {p : Plan}, altOk P ops listed p = true → ∃ n, p.len = n + 1 ∧ p.heads ≠ []
  | .nil, h => by simp [planOkB] at h
  | .one i r, _ => ⟨_, rfl, by simp [Plan.heads]⟩
  | .alt a b, h => by
    simp only [planOkB, Bool.and_eq_true] at h
    obtain ⟨n, h1, h2⟩ := alt_len (p := a) h.1.2
    exact ⟨n, h1, by simp [Plan.heads, h2]⟩
theorem APlan.alt {listed : Array Bool} {a b : Plan} {fr : Fr} {st : St} (ha : APlan P N ops K Q listed a fr st) (hb : APlan P N ops K Q listed b fr st) : APlan P N ops K Q listed (.alt a b) fr st := by
  have h2 : altOk P ops listed (.alt a b) = true → ABr P N ops K Q listed (.alt a b) fr st := fun hp => by
    simp only [planOkB, Bool.and_eq_true] at hp
    exact ⟨ha.2 hp.1.2, hb.2 hp.2⟩
  refine ⟨fun hp => ?_, h2⟩
  have ho : altOk P ops listed (.alt a b) = true := by
    simp only [planOkB, Bool.and_eq_true, Bool.not_true, Bool.false_or, Bool.not_false, Bool.true_or] at hp ⊢
    exact ⟨⟨⟨trivial, hp.1.1.2⟩, hp.1.2⟩, hp.2⟩
  have hr : Region.ready .any ops listed = (Plan.alt a b).heads := by
    simp only [planOkB, Bool.and_eq_true, Bool.not_true, Bool.false_or, beq_iff_eq] at hp
    exact hp.1.1.1
  obtain ⟨n, hn, hne⟩ := alt_len ho
  rw [hn]
  refine ⟨fun e => absurd (hr.symm.trans e) hne, fun j hj => ?_⟩
  rw [hr] at hj
  exact ABr.step ho (h2 ho) hn j hj
def isNew : Op → Bool
  | .alloc _ | .box .. | .buildSlice .. | .makeSlice .. => true
  | _ => false
theorem evOp_new {op : Op} {fr : Fr} {st st' : St} {v : AV} (hq : isNew op = true) (h : evOp P op fr st = some (v, st')) : ∃ o, st' = st.push o := by
  cases op <;> simp only [isNew, Bool.false_eq_true] at hq <;> simp only [evOp] at h
  case alloc e =>
    simp only [evAlloc, Option.bind_eq_some_iff] at h
    obtain ⟨_, _, _, _, h⟩ := h
    simp at h; exact ⟨_, h.2.symm⟩
  case box e x =>
    simp only [evBox, Option.bind_eq_some_iff] at h
    obtain ⟨_, _, h⟩ := h
    simp at h; exact ⟨_, h.2.symm⟩
  case buildSlice t n ps =>
    simp only [evBuildSlice, Option.bind_eq_some_iff] at h
    obtain ⟨_, _, h⟩ := h
    split at h
    · simp only [Option.bind_eq_some_iff] at h
      obtain ⟨_, _, _, _, h⟩ := h
      obtain ⟨_, h⟩ := need_some h
      simp only [Option.bind_eq_some_iff] at h
      obtain ⟨_, _, h⟩ := h
      obtain ⟨_, h⟩ := need_some h
      simp at h; exact ⟨_, h.2.symm⟩
    · cases h
  case makeSlice t l c =>
    simp only [evMakeSlice] at h
    split at h
    · simp only [Option.bind_eq_some_iff] at h
      obtain ⟨_, _, h⟩ := h
      split at h
      · simp only [Option.bind_eq_some_iff] at h
        obtain ⟨_, _, _, _, h⟩ := h
        obtain ⟨_, h⟩ := need_some h
        simp at h; exact ⟨_, h.2.symm⟩
      · cases h
    · cases h
noncomputable def evPl (P : Program) (N : Nat) (ops : List Oper) (K : St) : Plan → Fr → St → Plan × Fr × St
  | .nil, fr, st => (.nil, fr, st)
  | .alt a b, fr, st => (.alt a b, fr, st)
  | .one i r, fr, st => match ops[i]? with
    | none => (.one i r, fr, st)
    | some o => if isQ P o.op then (match evQ P N ops K o fr with
        | some v => evPl P N ops K r (fr.put o.dst v) st
        | none => (.one i r, fr, st))
      else if isNew o.op then (match evStep P N ops o fr st with
        | some p => evPl P N ops K r p.1 p.2
        | none => (.one i r, fr, st))
      else (.one i r, fr, st)
theorem evPl_cons {ops : List Oper} {i : Nat} {r : Plan} {fr : Fr} {st : St} : evPl P N ops K (.one i r) fr st = match ops[i]? with
    | none => (.one i r, fr, st)
    | some o => if isQ P o.op then (match evQ P N ops K o fr with
        | some v => evPl P N ops K r (fr.put o.dst v) st
        | none => (.one i r, fr, st))
      else if isNew o.op then (match evStep P N ops o fr st with
        | some p => evPl P N ops K r p.1 p.2
        | none => (.one i r, fr, st))
      else (.one i r, fr, st) := rfl
def APl (P : Program) (N : Nat) (ops : Array Oper) (K : St) (Q : Fr → St → Prop) (plan : Plan) (fr : Fr) (st : St) : Prop :=
  ∀ listed, APlan P N ops K Q listed plan fr st
theorem APl.seg {plan plan' : Plan} {fr fr' : Fr} {st st' : St} (h : evPl P N ops.toList K plan fr st = (plan', fr', st')) (hk : Kp K st) (hn : ∀ b cs, rdBlk K b = some cs → b < st.n) (g : Kp K st' → APl P N ops K Q plan' fr' st') : APl P N ops K Q plan fr st := by
  induction plan generalizing fr st with
  | nil => simp [evPl] at h; obtain ⟨rfl, rfl, rfl⟩ := h; exact g hk
  | alt a b _ _ => simp [evPl] at h; obtain ⟨rfl, rfl, rfl⟩ := h; exact g hk
  | one i r ih =>
    rw [evPl_cons] at h
    split at h
    · simp at h; obtain ⟨rfl, rfl, rfl⟩ := h; exact g hk
    · rename_i o ho
      rw [Array.getElem?_toList] at ho
      split at h
      · rename_i hq
        split at h
        · rename_i v hv
          exact fun listed => APlan.quiet ho hq hv hk (ih h hk hn _)
        · simp at h; obtain ⟨rfl, rfl, rfl⟩ := h; exact g hk
      · rename_i hq
        split at h
        · rename_i hnew
          split at h
          · rename_i p hp
            intro listed
            refine APlan.step ho (by simpa using hq) ?_
            unfold evStep at hp
            simp only [Option.bind_eq_some_iff] at hp
            obtain ⟨q, hw, hp⟩ := hp
            split at hp
            · rename_i hd
              refine ⟨hd, q, hw, fun e => ?_, fun e => ?_⟩
              · subst e
                simp at hp; subst hp
                exact ⟨fun _ => hk, ih h hk hn _⟩
              · subst e
                simp only [if_true, Option.bind_eq_some_iff] at hp
                obtain ⟨x, hx, hp⟩ := hp
                simp at hp; subst hp
                obtain ⟨ob, hob⟩ := evOp_new hnew hx
                refine .inl ⟨x.1, x.2, hx, ?_⟩
                have hk' : Kp K x.2 := by rw [hob]; exact hk.push hn ob
                have hn' : ∀ b cs, rdBlk K b = some cs → b < x.2.n := fun b cs hb => by have := hn b cs hb; rw [hob, St.push_n]; omega
                exact ⟨fun _ => hk', ih h hk' hn' _⟩
            · cases hp
          · simp at h; obtain ⟨rfl, rfl, rfl⟩ := h; exact g hk
        · simp at h; obtain ⟨rfl, rfl, rfl⟩ := h; exact g hk
theorem APl.quiet' {i : Nat} {r : Plan} {o : Oper} {fr : Fr} {st : St} {v : AV} (hi : ops.toList[i]? = some o) (hq : isQ P o.op = true) (hv : evQ P N ops.toList K o fr = some v) (hk : memRd o.op = true → Kp K st)
    (h : APl P N ops K Q r (fr.put o.dst v) st) : APl P N ops K Q (.one i r) fr st := fun listed => ⟨fun hp => by
  rw [Array.getElem?_toList] at hi
  simp only [planOkB, hi, hq, if_true, Bool.true_and, Bool.and_eq_true] at hp
  exact AAny.first hi hq (Region.free_spec hi hp.1.2) (by simpa using hp.1.1) hv hk ((h _).1 hp.2), fun hp => by
  rw [Array.getElem?_toList] at hi
  simp [planOkB, hi, hq] at hp⟩
theorem APl.alt {a b : Plan} {fr : Fr} {st : St} (ha : APl P N ops K Q a fr st) (hb : APl P N ops K Q b fr st) : APl P N ops K Q (.alt a b) fr st := fun listed => APlan.alt (ha listed) (hb listed)
theorem APl.nil {fr : Fr} {st : St} (h : Q fr st) : APl P N ops K Q .nil fr st := fun _ => APlan.nil h
theorem APl.op {i : Nat} {r : Plan} {o : Oper} {fr : Fr} {st : St} {p : Fr × St} (hi : ops.toList[i]? = some o) (hq : isQ P o.op = false) (h : evStep P N ops.toList o fr st = some p) (hS : needS P ops i = false ∨ Kp K p.2)
    (g : APl P N ops K Q r p.1 p.2) : APl P N ops K Q (.one i r) fr st := fun listed => by
  rw [Array.getElem?_toList] at hi
  refine APlan.step hi hq ?_
  unfold evStep at h
  simp only [Option.bind_eq_some_iff] at h
  obtain ⟨q, hw, h⟩ := h
  split at h
  · rename_i hd
    have hS' : ∀ s, s = p.2 → needS P ops i = true → Kp K s := fun s e hn => by
      rcases hS with hS | hS
      · rw [hS] at hn; cases hn
      · rw [e]; exact hS
    refine ⟨hd, q, hw, fun e => ?_, fun e => ?_⟩
    · subst e; simp at h; subst h; exact ⟨hS' _ rfl, g _⟩
    · subst e
      simp only [if_true, Option.bind_eq_some_iff] at h
      obtain ⟨x, hx, h⟩ := h
      simp at h; subst h
      exact .inl ⟨x.1, x.2, hx, hS' _ rfl, g _⟩
  · cases h
theorem APl.call {i : Nat} {r : Plan} {o : Oper} {fr : Fr} {st : St} {c : Call} {gop : Operand} {f : FuncId} {first cap args : List AV} (hi : ops.toList[i]? = some o) (hop : o.op = .call c) (hc : c.callee = .value gop) (hw : wantedA ops.toList fr o = some true) (hg : fr.ev gop = .fn (.func f) first cap)
    (hargs : first ++ c.args.toList.map fr.ev ++ cap = args) (hd : dstOk N o.dst = true) (h : ASpec P f args st fun v st' => (needS P ops i = false ∨ Kp K st') ∧ APl P N ops K Q r (fr.put o.dst v) st') : APl P N ops K Q (.one i r) fr st := fun listed => by
  rw [Array.getElem?_toList] at hi
  refine APlan.step hi (by rw [hop]; simp [isQ, hc]) ⟨hd, true, hw, fun e => (by cases e), fun _ => .inr ⟨c, gop, f, first, cap, hop, hc, hg, ?_⟩⟩
  rw [hargs]
  refine h.mono fun v s ⟨h1, h2⟩ => ⟨fun hn => ?_, h2 _⟩
  rcases h1 with h1 | h1
  · rw [h1] at hn; cases hn
  · exact h1
theorem AX.draw {n0 : Nat} {R : Post} {k : List It} {id : Nat} {fr : Fr} {st : St} (plan : Plan) (K : St) (hm : P.follows .mixedOrders = true) (hp : planOk P ops (Array.replicate ops.size false) plan = true) (hl : plan.len = ops.size)
    (g : APl P N ops K (AX P N n0 R k .normal) plan fr st) : AX P N n0 R (.code (.region id ops true) :: k) .normal fr st := by
  intro ro m _ ρ w a hn hr hf hd
  have ha := (g _).1 hp
  rw [hl] at ha
  have hr' : Rel ρ st { w with drawn := w.drawn + 1 } := ⟨⟨hr.len, fun b o hb => let ⟨l, hl, ho⟩ := hr.obj b o hb; ⟨l, hl, ho.world rfl⟩, hr.sep⟩, ⟨hr.gi.glb, hr.gi.gsep⟩⟩
  have hst : Step n0 ρ st w ρ st { w with drawn := w.drawn + 1 } := ⟨.refl _ _, rfl, rfl, rfl, Nat.le_succ _, Nat.le_refl _, fun _ _ _ => rfl, fun b o l h1 h2 h3 _ => ⟨b, o, l, h1, h2, h3, rfl⟩⟩
  exact wpIn_region_any hm (wpAnyIn_mono' (fun _ _ _ hq => CPost.step hst hq) (AAny.sound (n0 := n0) (R := AX P N n0 R k) ha hn hr' hf (hd.next hst)))
end
theorem Tell.le {m : Nat → Nat} {n0 n1 : Nat} {st st2 : St} (h : Tell m n0 st st2) (hn : n1 ≤ n0) : Tell m n1 st st2 :=
  ⟨by have := h.n; omega, fun b hb => h.low b (by omega), h.obj, h.inj⟩
end Gab
end
section
set_option linter.unusedSimpArgs false
set_option linter.unusedVariables false
namespace Gab
open Go
section
variable {P : Program} {N n0 : Nat} {Q : Post} {fr fr' : Fr} {st st' : St} {ops : Array Oper}
def Up (st st' : St) : Prop := st.n ≤ st'.n ∧ ∀ b, b < st.n → st'.get b = st.get b
theorem Up.refl (st : St) : Up st st := ⟨Nat.le_refl _, fun _ _ => rfl⟩
theorem Up.trans {a b c : St} (h : Up a b) (h' : Up b c) : Up a c := ⟨Nat.le_trans h.1 h'.1, fun i hi => by rw [h'.2 i (Nat.lt_of_lt_of_le hi h.1), h.2 i hi]⟩
theorem Up.trans' {a b : St} (h : Up a b) {c : St} (hc : ∀ j, j < a.n → c.get j = b.get j) (hn : b.n ≤ c.n := by first | rfl | exact Nat.le_refl _) : Up a c := ⟨Nat.le_trans h.1 hn, fun i hi => by rw [hc i hi, h.2 i hi]⟩
theorem Up.push {a b : St} (h : Up a b) (o : AObj) : Up a (b.push o) := h.trans ⟨by rw [St.push_n]; omega, fun i hi => push_get_old (by omega)⟩
theorem Up.pushO {a b : St} (h : Up a b) (o : Option AObj) : Up a (b.pushO o) := h.trans ⟨by rw [St.pushO_n]; omega, fun i hi => pushO_get_old (by omega)⟩
theorem Up.set {a b : St} (h : Up a b) {i : Nat} (o : AObj) (hi : a.n ≤ i) : Up a (b.set i o) := h.trans' fun j hj => set_get_old (by omega)
theorem Up.kill {a b : St} (h : Up a b) {i : Nat} (hi : a.n ≤ i) : Up a (b.kill i) := h.trans' fun j hj => kill_get_old (by omega)
theorem Up.le {a b : St} (h : Up a b) : a.n ≤ b.n := h.1
theorem Up.rd {a b : St} (h : Up a b) {i : Nat} (hi : i < a.n) : rdBlk b i = rdBlk a i := by unfold rdBlk; rw [h.2 i hi]
theorem Up.wr {a b : St} (h : Up a b) {i : Nat} (hi : i < a.n) : wrBlk b i = wrBlk a i := by unfold wrBlk; rw [h.2 i hi]
theorem Up.old {a b : St} (h : Up a b) (hwf : a.wf) : ∀ i o, a.get i = some o → b.get i = some o := fun i o hi => by rw [h.2 i (hwf i o hi).1]; exact hi
theorem Sl.up {a b : St} {sz : Nat} {v : AV} {cs : List AV} (h : Sl a sz v cs) (hu : Up a b) : Sl b sz v cs := h.keep hu.1 fun i hi => hu.rd hi
theorem PS.of {s : St} {b mc : Nat} {cs : List AV} {l : List (Int × Int)} (h : rdBlk s b = some cs) (hb : b < s.n) (he : cs = enc2 l) (hm : l.length ≤ mc) : PS s (.sl 2 b 0 l.length mc false) l :=
  ⟨2, b, 0, l.length, mc, false, rfl, enc2_length l, hm, fun e => by simp at e, fun _ => rfl, fun _ => ⟨hb, cs, h, fun j _ => by rw [Nat.zero_add, he]⟩⟩
theorem PS.up {a b : St} {v : AV} {l : List (Int × Int)} (h : PS a v l) (hu : Up a b) : PS b v l := Sl.up h hu
theorem PS.empty (s : St) (sz b off mc : Nat) (nl : Bool) (h : nl = false → sz = 2) : PS s (.sl sz b off 0 mc nl) [] := ⟨sz, b, off, 0, mc, nl, rfl, rfl, Nat.zero_le _, fun _ => rfl, h, fun h0 => by omega⟩
theorem PS.nil (s : St) : PS s (.sl 0 0 0 0 0 true) [] := Sl.nil s 2
theorem LeV.refl {v : AV} : LeV n0 v st v st := fun ρ w c hn hr hc => ⟨ρ, hr, hc, .refl ..⟩
theorem ASpec.bodyX {f : FuncId} {fn : Func} {c : Code} {args : List AV} {Q : AV → St → Prop} (hf : P.funcs[f]? = some fn) (hname : (fn.name == "runtime.NumGoroutine") = false) (hb : fn.body = some c) (hN : fn.ntmps = N) (hle : args.length ≤ N)
    (h : st.wf → Subs id st.n args args → AX P N st.n (Fin P fn.results.toList st.n Q) [.code c] .normal (enumFr 0 args) st) : ASpec P f args st Q := ASpec.body hf hname hb hN hle h
def Fr.keep (ks : List Nat) (fr : Fr) : Fr := ks.map fun k => (k, Fr.get fr k)
theorem Fr.keep_get (fr : Fr) : ∀ (ks : List Nat) (t : Nat), Fr.get (Fr.keep ks fr) t = if t ∈ ks then Fr.get fr t else .any
  | [], t => by simp [Fr.keep, Fr.get]
  | k :: r, t => by
    rw [Fr.keep, List.map_cons, fr_get_cons]
    by_cases h : k = t
    · subst h; simp
    · have := Fr.keep_get fr r t
      rw [Fr.keep] at this
      rw [if_neg h, this]
      simp [Ne.symm h]
end
section
variable {P : Program} {N : Nat} {ops : Array Oper} {K : St} {Q : Fr → St → Prop}
theorem APl.q1 {i : Nat} {r : Plan} {o : Oper} {fr : Fr} {st : St} {v : AV} (hi : ops.toList[i]? = some o) (hq : isQ P o.op = true) (hm : memRd o.op = false) (hv : evQ P N ops.toList K o fr = some v) (g : APl P N ops K Q r (fr.put o.dst v) st) : APl P N ops K Q (.one i r) fr st := APl.quiet' hi hq hv (fun h => by rw [hm] at h; cases h) g
theorem Kp.up {K st st' : St} (h : Kp K st) (hu : Up st st') (hl : ∀ b cs, rdBlk K b = some cs → b < st.n) : Kp K st' := fun b cs hb => by rw [hu.rd (hl b cs hb)]; exact h b cs hb
end
def plO {α β : Type} (x : Option α) (d : β) (k : α → β) : β := match x with
  | none => d
  | some o => k o
@[congr] theorem plO_congr {α β : Type} {x y : Option α} {d : β} {k : α → β} (h : ∀ _ : Unit, x = y) : plO x d k = plO y d k := by rw [h ()]
def cnd {β : Type} (b : Bool) (x y : β) : β := match b with
  | true => x
  | false => y
@[congr] theorem cnd_congr {β : Type} {b c : Bool} {x y : β} (h : ∀ _ : Unit, b = c) : cnd b x y = cnd c x y := by rw [h ()]
end Gab
end
section
set_option linter.unusedSimpArgs false
set_option linter.unusedVariables false
namespace Gab
open Go
structure Kn where
  kn : Nat → Option AObj
  ad : Nat → List Nat
instance : CoeFun Kn fun _ => Nat → Option AObj := ⟨Kn.kn⟩
structure KLe (A B : Kn) : Prop where
  k : ∀ b o, A b = some o → B b = some o
  a : B.ad = A.ad
structure KLw (A B : Kn) : Prop where
  k : ∀ b o, A b = some o → B b = some o
  a : ∀ T, A.ad T <+: B.ad T
theorem KLe.w {A B : Kn} (h : KLe A B) : KLw A B := ⟨h.k, fun T => by rw [h.a]; exact List.prefix_rfl⟩
theorem KLe.refl (A : Kn) : KLe A A := ⟨fun _ _ h => h, rfl⟩
theorem KLe.trans {A B C : Kn} (h : KLe A B) (k : KLe B C) : KLe A C := ⟨fun b o x => k.k b o (h.k b o x), k.a.trans h.a⟩
theorem KLw.refl (A : Kn) : KLw A A := ⟨fun _ _ h => h, fun _ => List.prefix_rfl⟩
theorem KLw.trans {A B C : Kn} (h : KLw A B) (k : KLw B C) : KLw A C := ⟨fun b o x => k.k b o (h.k b o x), fun T => (h.a T).trans (k.a T)⟩
theorem KLw.at {A B : Kn} (h : KLw A B) {T i b : Nat} (hb : (A.ad T)[i]? = some b) : (B.ad T)[i]? = some b := by
  obtain ⟨r, hr⟩ := h.a T
  rw [← hr, List.getElem?_append_left (List.getElem?_eq_some_iff.1 hb).1]; exact hb
def St.lw (st : St) : Prop := ∀ b o, st.get b = some o → b < st.n
theorem St.wf.lw {st : St} (h : st.wf) : st.lw := fun b o hb => (h b o hb).1
theorem lw_push {st : St} (h : st.lw) (o : AObj) : (st.push o).lw := fun b x hb => by
  rw [St.push_get] at hb
  rw [St.push_n]
  split at hb
  · omega
  · have := h b x hb; omega
theorem lw_pushO {st : St} (h : st.lw) (o : Option AObj) : (st.pushO o).lw := fun b x hb => by
  rw [St.pushO_get] at hb
  rw [St.pushO_n]
  split at hb
  · omega
  · have := h b x hb; omega
theorem lw_set {st : St} (h : st.lw) {i : Nat} {o' : AObj} (hi : i < st.n) (o : AObj) : (st.set i o).lw := fun b x hb => by
  rw [St.set_get] at hb
  rw [St.set_n]
  split at hb
  · omega
  · exact h b x hb
theorem lw_kill {st : St} (h : st.lw) (i : Nat) : (st.kill i).lw := fun b x hb => by
  rw [St.kill_get] at hb
  rw [St.kill_n]
  split at hb
  · cases hb
  · exact h b x hb
inductive OV where
  | c (cs : List AV)
  | m (es : MEnts) (clock : Nat)
  | s (l : List UInt8) (pos : Nat)
  | i (m : Option Nat) (since : Nat) (seen : List Nat) (last : Nat)
  | ex (k N : Nat) (fr : List (Nat × AV)) (mk : Array Value → Obj)
@[reducible] def OV.obj : OV → AObj
  | .c cs => .blk cs true
  | .m es k => .map es k
  | .s x p => .siter x p
  | .i x a y z => .miter x a y z
  | .ex k N fr mk => .ext k N fr mk
instance : Coe (List AV) OV := ⟨OV.c⟩
abbrev Own := List (Nat × Option OV)
structure Rd (B : Kn) (M : Own) (st : St) : Prop where
  kn : ∀ b o, B b = some o → st.get b = some o
  own : ∀ b o, (b, some o) ∈ M → st.get b = some (OV.obj o)
structure Hp (B : Kn) (L : Own) (st : St) : Prop extends Rd B L st where
  frz : ∀ b o, (b, some o) ∈ L → B b = none
  sep : L.Pairwise fun x y => x.2.isSome = true → y.2.isSome = true → x.1 ≠ y.1
theorem Rd.rd {B : Kn} {M : Own} {st : St} (h : Rd B M st) {b : Nat} {cs : List AV} {rw : Bool} (hb : B b = some (.blk cs rw)) : rdBlk st b = some cs := rdBlk_of (h.kn b _ hb)
theorem Rd.ro {B : Kn} {M : Own} {st : St} (h : Rd B M st) {b : Nat} {cs : List AV} (hb : (b, some (OV.c cs)) ∈ M) : rdBlk st b = some cs := rdBlk_of (h.own b _ hb)
theorem Rd.wr {B : Kn} {M : Own} {st : St} (h : Rd B M st) {b : Nat} {cs : List AV} (hb : (b, some (OV.c cs)) ∈ M) : wrBlk st b = some cs := wrBlk_of (h.own b _ hb)
theorem Rd.sub {B : Kn} {M M' : Own} {st : St} (h : Rd B M st) (hs : ∀ e ∈ M', e ∈ M) : Rd B M' st := ⟨h.kn, fun b cs hb => h.own b cs (hs _ hb)⟩
theorem Rd.le {A B : Kn} {M : Own} {st : St} (h : Rd B M st) (hs : KLe A B) : Rd A M st := ⟨fun b o hb => h.kn b o (hs.k b o hb), h.own⟩
theorem Rd.lew {A B : Kn} {M : Own} {st : St} (h : Rd B M st) (hs : KLw A B) : Rd A M st := ⟨fun b o hb => h.kn b o (hs.k b o hb), h.own⟩
theorem Hp.rd {B : Kn} {L : Own} {st : St} (h : Hp B L st) : Rd B L st := h.toRd
theorem Hp.le {A B : Kn} {L : Own} {st : St} (h : Hp B L st) (hs : KLe A B) : Hp A L st :=
  ⟨h.rd.le hs, fun b cs hb => (by
    have := h.frz b cs hb
    cases ha : A b with
    | none => rfl
    | some o => rw [hs.k b o ha] at this; cases this), h.sep⟩
theorem Hp.lt {B : Kn} {L : Own} {st : St} (h : Hp B L st) (hwf : st.lw) {b : Nat} {o : OV} (hb : (b, some o) ∈ L) : b < st.n := hwf b _ (h.own b o hb)
theorem Hp.klt {B : Kn} {L : Own} {st : St} (h : Hp B L st) (hwf : st.lw) {b : Nat} {o : AObj} (hb : B b = some o) : b < st.n := hwf b _ (h.kn b o hb)
theorem Hp.skip {B : Kn} {L : Own} {st : St} (h : Hp B L st) (b : Nat) : Hp B ((b, none) :: L) st :=
  ⟨⟨h.kn, fun b' cs hb => by
    simp only [List.mem_cons, Prod.mk.injEq, reduceCtorEq, and_false, false_or] at hb
    exact h.own b' cs hb⟩, fun b' cs hb => by
    simp only [List.mem_cons, Prod.mk.injEq, reduceCtorEq, and_false, false_or] at hb
    exact h.frz b' cs hb, List.pairwise_cons.2 ⟨fun a _ h1 => by simp at h1, h.sep⟩⟩
theorem Hp.pushV {B : Kn} {L : Own} {st : St} (h : Hp B L st) (hwf : st.lw) (u : OV) : Hp B ((st.n, some u) :: L) (st.push u.obj) where
  kn b o hb := by rw [push_get_old (by have := h.klt hwf hb; omega)]; exact h.kn b o hb
  own b c hb := by
    rcases List.mem_cons.1 hb with e | hb
    · cases e; exact push_get_new rfl
    · rw [push_get_old (by have := h.lt hwf hb; omega)]; exact h.own b c hb
  frz b c hb := by
    rcases List.mem_cons.1 hb with e | hb
    · cases e
      cases hB : B st.n with
      | none => rfl
      | some o => have := h.klt hwf hB; omega
    · exact h.frz b c hb
  sep := List.pairwise_cons.2 ⟨fun a ha _ h2 => by
    obtain ⟨x, c⟩ := a
    cases c with
    | none => cases h2
    | some c => have := h.lt hwf ha; simp only [ne_eq]; omega, h.sep⟩
theorem Hp.push {B : Kn} {L : Own} {st : St} (h : Hp B L st) (hwf : st.lw) (cs : List AV) : Hp B ((st.n, some (OV.c cs)) :: L) (st.push (.blk cs true)) := h.pushV hwf (.c cs)
theorem Hp.pushNone {B : Kn} {L : Own} {st : St} (h : Hp B L st) (hwf : st.lw) : Hp B L (st.pushO none) where
  kn b o hb := by rw [pushO_get_old (by have := h.klt hwf hb; omega)]; exact h.kn b o hb
  own b c hb := by rw [pushO_get_old (by have := h.lt hwf hb; omega)]; exact h.own b c hb
  frz := h.frz
  sep := h.sep
theorem Hp.lew {A B : Kn} {L : Own} {st : St} (h : Hp B L st) (hs : KLw A B) : Hp A L st :=
  ⟨h.rd.lew hs, fun b cs hb => (by
    have := h.frz b cs hb
    cases ha : A b with
    | none => rfl
    | some o => rw [hs.k b o ha] at this; cases this), h.sep⟩
inductive Upd (x y : Nat × Option OV) : Own → Own → Prop
  | h {A : Own} : Upd x y (x :: A) (y :: A)
  | t {e : Nat × Option OV} {A A' : Own} : Upd x y A A' → Upd x y (e :: A) (e :: A')
theorem Upd.app {x y : Nat × Option OV} {A A' : Own} (h : Upd x y A A') (L : Own) : Upd x y (A ++ L) (A' ++ L) := by
  induction h with
  | h => exact .h
  | t _ ih => exact .t ih
theorem Upd.mem {x y : Nat × Option OV} {A A' : Own} (h : Upd x y A A') : x ∈ A := by
  induction h with
  | h => exact List.mem_cons_self
  | t _ ih => exact List.mem_cons_of_mem _ ih
theorem Upd.sub {x y : Nat × Option OV} {A A' : Own} (h : Upd x y A A') : ∀ z ∈ A', z = y ∨ z ∈ A := by
  induction h with
  | h =>
    intro z hz
    rcases List.mem_cons.1 hz with e | e
    · exact .inl e
    · exact .inr (List.mem_cons_of_mem _ e)
  | t _ ih =>
    intro z hz
    rcases List.mem_cons.1 hz with e | e
    · exact .inr (by rw [e]; exact List.mem_cons_self)
    · rcases ih z e with e | e
      · exact .inl e
      · exact .inr (List.mem_cons_of_mem _ e)
def OnlyAt (b : Nat) (st st' : St) : Prop := ∀ i, i ≠ b → st'.get i = st.get i
theorem Upd.hp {B : Kn} {b : Nat} {cs cs' : OV} {st st' : St} : ∀ {A A' : Own}, Upd (b, some cs) (b, some cs') A A' → Hp B A st → OnlyAt b st st' → st'.get b = some cs'.obj → Hp B A' st'
  | _, _, .h, hh, ho, hb => by
    have hs := List.pairwise_cons.1 hh.sep
    have hf := hh.frz b cs List.mem_cons_self
    refine ⟨⟨fun i o hi => ?_, fun i c hi => ?_⟩, fun i c hi => ?_, List.pairwise_cons.2 ⟨fun a ha _ h2 => hs.1 a ha rfl h2, hs.2⟩⟩
    · rw [ho i (fun e => by rw [e, hf] at hi; cases hi)]; exact hh.kn i o hi
    · rcases List.mem_cons.1 hi with e | hi
      · cases e; exact hb
      · rw [ho i (fun e => hs.1 _ hi rfl rfl e.symm)]; exact hh.own i c (List.mem_cons_of_mem _ hi)
    · rcases List.mem_cons.1 hi with e | hi
      · cases e; exact hf
      · exact hh.frz i c (List.mem_cons_of_mem _ hi)
  | _, _, .t (e := z) u, hh, ho, hb => by
    have hs := List.pairwise_cons.1 hh.sep
    have hm := u.mem
    have ht : Hp B _ st := ⟨⟨hh.kn, fun i c hi => hh.own i c (List.mem_cons_of_mem _ hi)⟩, fun i c hi => hh.frz i c (List.mem_cons_of_mem _ hi), hs.2⟩
    have hp := Upd.hp u ht ho hb
    obtain ⟨zb, zc⟩ := z
    refine ⟨⟨hp.kn, fun i c hi => ?_⟩, fun i c hi => ?_, List.pairwise_cons.2 ⟨fun a ha h1 h2 => ?_, hp.sep⟩⟩
    · rcases List.mem_cons.1 hi with e | hi
      · cases e
        rw [ho zb (hs.1 _ hm rfl rfl)]; exact hh.own zb c List.mem_cons_self
      · exact hp.own i c hi
    · rcases List.mem_cons.1 hi with e | hi
      · cases e; exact hh.frz zb c List.mem_cons_self
      · exact hp.frz i c hi
    · rcases u.sub a ha with e | e
      · subst e; exact hs.1 (b, some cs) hm h1 rfl
      · exact hs.1 a e h1 h2
def pk (is : List Nat) (A : Own) : Own := is.filterMap fun i => A[i]?
theorem pk_mem {A : Own} {is : List Nat} {e : Nat × Option OV} (h : e ∈ pk is A) : ∃ i ∈ is, A[i]? = some e := by
  obtain ⟨i, h1, h2⟩ := List.mem_filterMap.1 h
  exact ⟨i, h1, h2⟩
theorem pk_pairwise {A : Own} (h : A.Pairwise fun x y => x.2.isSome = true → y.2.isSome = true → x.1 ≠ y.1) : ∀ {is : List Nat}, is.Nodup → (pk is A).Pairwise fun x y => x.2.isSome = true → y.2.isSome = true → x.1 ≠ y.1
  | [], _ => List.Pairwise.nil
  | i :: r, hn => by
    obtain ⟨h1, h2⟩ := List.nodup_cons.1 hn
    have ih := pk_pairwise h h2
    rw [pk, List.filterMap_cons]
    cases hi : A[i]? with
    | none => exact ih
    | some e =>
      refine List.pairwise_cons.2 ⟨fun a ha h3 h4 => ?_, ih⟩
      obtain ⟨j, hj, hja⟩ := pk_mem ha
      have hne : i ≠ j := fun e => h1 (e ▸ hj)
      obtain ⟨li, ei⟩ := List.getElem?_eq_some_iff.1 hi
      obtain ⟨lj, ej⟩ := List.getElem?_eq_some_iff.1 hja
      have hp := List.pairwise_iff_getElem.1 h
      rcases Nat.lt_or_ge i j with hlt | hge
      · have := hp i j li lj hlt
        rw [ei, ej] at this
        exact this h3 h4
      · have := hp j i lj li (by omega)
        rw [ei, ej] at this
        exact fun e => this h4 h3 e.symm
theorem Hp.pk {B : Kn} {A L : Own} {st : St} (h : Hp B (A ++ L) st) (is : List Nat) (hn : is.Nodup) : Hp B (Gab.pk is A ++ L) st where
  kn := h.kn
  own b cs hb := by
    rcases List.mem_append.1 hb with hb | hb
    · obtain ⟨i, _, hi⟩ := pk_mem hb
      exact h.own b cs (List.mem_append_left _ (List.mem_of_getElem? hi))
    · exact h.own b cs (List.mem_append_right _ hb)
  frz b cs hb := by
    rcases List.mem_append.1 hb with hb | hb
    · obtain ⟨i, _, hi⟩ := pk_mem hb
      exact h.frz b cs (List.mem_append_left _ (List.mem_of_getElem? hi))
    · exact h.frz b cs (List.mem_append_right _ hb)
  sep := by
    have hs := List.pairwise_append.1 h.sep
    refine List.pairwise_append.2 ⟨pk_pairwise hs.1 hn, hs.2.1, fun a ha b hb => ?_⟩
    obtain ⟨i, _, hi⟩ := pk_mem ha
    exact hs.2.2 a (List.mem_of_getElem? hi) b hb
def Kn.add (B : Kn) (b : Nat) (o : AObj) : Kn := ⟨fun i => if i = b then some o else B i, B.ad⟩
theorem KLe.add {B : Kn} {b : Nat} {o : AObj} (h : B b = none) : KLe B (B.add b o) := ⟨fun i x hi => by
  show (if i = b then some o else B i) = some x
  rw [if_neg (fun e => by rw [e, h] at hi; cases hi)]; exact hi, rfl⟩
theorem Kn.add_at {B : Kn} {b : Nat} {o : AObj} : B.add b o b = some o := if_pos rfl
theorem Hp.freeze {B : Kn} {b : Nat} {cs : List AV} {L : Own} {st : St} (h : Hp B ((b, some (OV.c cs)) :: L) st) : Hp (B.add b (.blk cs true)) L st := by
  have hs := List.pairwise_cons.1 h.sep
  refine ⟨⟨fun i o hi => ?_, fun i c hi => h.own i c (List.mem_cons_of_mem _ hi)⟩, fun i c hi => ?_, hs.2⟩
  · have hi : (if i = b then some (AObj.blk cs true) else B i) = some o := hi
    split at hi
    · rename_i e; cases hi; subst e; exact h.own _ (OV.c cs) List.mem_cons_self
    · exact h.kn i o hi
  · show (if i = b then some (AObj.blk cs true) else B i) = none
    rw [if_neg (fun e => hs.1 _ hi rfl rfl e.symm)]
    exact h.frz i c (List.mem_cons_of_mem _ hi)
theorem Hp.thaw {B B' : Kn} {b : Nat} {cs : List AV} {L : Own} {st st' : St} (h : Hp B ((b, some (OV.c cs)) :: L) st) (hl : KLe (B.add b (.blk cs true)) B') (h' : Hp B' L st') : Hp B ((b, some (OV.c cs)) :: L) st' := by
  have hf := h.frz b cs List.mem_cons_self
  have hk : KLe B B' := (KLe.add hf).trans hl
  have hp := h'.le hk
  refine ⟨⟨hp.kn, fun i c hi => ?_⟩, h.frz, h.sep⟩
  rcases List.mem_cons.1 hi with e | hi
  · cases e; exact h'.kn b _ (hl.k b _ Kn.add_at)
  · exact hp.own i c hi
def lookO : Own → Nat → Option AObj
  | [], _ => none
  | (x, some o) :: r, b => if x = b then some o.obj else lookO r b
  | (_, none) :: r, b => lookO r b
theorem lookO_mem : ∀ {M : Own} {b : Nat} {o : AObj}, lookO M b = some o → ∃ u : OV, o = u.obj ∧ (b, some u) ∈ M
  | (x, some u) :: r, b, o, h => by
    unfold lookO at h
    split at h
    · rename_i e; cases h; subst e; exact ⟨u, rfl, List.mem_cons_self⟩
    · obtain ⟨c, h1, h2⟩ := lookO_mem h; exact ⟨c, h1, List.mem_cons_of_mem _ h2⟩
  | (x, none) :: r, b, o, h => by
    obtain ⟨c, h1, h2⟩ := lookO_mem (M := r) h; exact ⟨c, h1, List.mem_cons_of_mem _ h2⟩
theorem lookO_some : ∀ {M : Own} {b : Nat} {u : OV}, (b, some u) ∈ M → ∃ o, lookO M b = some o
  | (x, some c) :: r, b, cs, h => by
    unfold lookO
    split
    · exact ⟨_, rfl⟩
    · rename_i hne
      rcases List.mem_cons.1 h with e | h
      · cases e; exact absurd rfl hne
      · exact lookO_some h
  | (x, none) :: r, b, cs, h => by
    rcases List.mem_cons.1 h with e | h
    · cases e
    · exact lookO_some (M := r) h
def Kof (B : Kn) (M : Own) : St := ⟨0, fun b => match B b with
  | some o => some o
  | none => lookO M b⟩
theorem Rd.kof {B : Kn} {M L : Own} {st : St} (h : Hp B L st) (hs : ∀ e ∈ M, e ∈ L) : Rd B M (Kof B M) where
  kn b o hb := by unfold Kof; simp only [hb]
  own b cs hb := by
    have h1 := h.own b cs (hs _ hb)
    have h2 := h.frz b cs (hs _ hb)
    obtain ⟨o, ho⟩ := lookO_some hb
    obtain ⟨c, rfl, hc⟩ := lookO_mem ho
    have h3 := h.own b c (hs _ hc)
    have e : c.obj = cs.obj := Option.some.inj (h3.symm.trans h1)
    unfold Kof; simp only [h2]; rw [ho, e]
theorem Kp.kof {B : Kn} {M : Own} {st : St} (h : Rd B M st) : Kp (Kof B M) st := fun b cs hb => by
  obtain ⟨rw, hb⟩ := rdBlk_spec hb
  unfold Kof at hb
  simp only at hb
  split at hb
  · rename_i o ho
    cases hb
    exact rdBlk_of (h.kn b _ ho)
  · obtain ⟨c, e, hc⟩ := lookO_mem hb
    cases c with
    | c cs' => cases e; exact rdBlk_of (h.own b _ hc)
    | m => cases e
    | s => cases e
    | i => cases e
    | ex => cases e
structure Ty (α : Type) where
  sz : Nat
  R : Kn → List AV → α → Prop
  len : ∀ {B cs x}, R B cs x → cs.length = sz
  one : ∀ {B cs x}, R B cs x → cs.all AV.one = true
  mono : ∀ {B B' cs x}, KLw B B' → R B cs x → R B' cs x
def RL {α : Type} (t : Ty α) (B : Kn) : List AV → List α → Prop
  | cs, [] => cs = []
  | cs, x :: l => ∃ c r, cs = c ++ r ∧ t.R B c x ∧ RL t B r l
section
variable {α β : Type} {t : Ty α} {B B' : Kn}
theorem RL.len : ∀ {l : List α} {cs : List AV}, RL t B cs l → cs.length = l.length * t.sz
  | [], cs, h => by simp [RL] at h; simp [h]
  | x :: l, cs, h => by
    obtain ⟨c, r, rfl, h1, h2⟩ := h
    rw [List.length_append, t.len h1, RL.len h2, List.length_cons, Nat.add_mul, Nat.one_mul, Nat.add_comm]
theorem RL.one : ∀ {l : List α} {cs : List AV}, RL t B cs l → cs.all AV.one = true
  | [], cs, h => by simp [RL] at h; simp [h]
  | x :: l, cs, h => by
    obtain ⟨c, r, rfl, h1, h2⟩ := h
    rw [List.all_append, t.one h1, RL.one h2]; rfl
theorem RL.mono (hk : KLw B B') : ∀ {l : List α} {cs : List AV}, RL t B cs l → RL t B' cs l
  | [], cs, h => h
  | x :: l, cs, h => by
    obtain ⟨c, r, rfl, h1, h2⟩ := h
    exact ⟨c, r, rfl, t.mono hk h1, RL.mono hk h2⟩
theorem RL.append : ∀ {l m : List α} {cs ds : List AV}, RL t B cs l → RL t B ds m → RL t B (cs ++ ds) (l ++ m)
  | [], m, cs, ds, h, h' => by simp [RL] at h; subst h; exact h'
  | x :: l, m, cs, ds, h, h' => by
    obtain ⟨c, r, rfl, h1, h2⟩ := h
    exact ⟨c, r ++ ds, by simp, h1, RL.append h2 h'⟩
theorem RL.drop : ∀ {n : Nat} {l : List α} {cs : List AV}, RL t B cs l → RL t B (cs.drop (n * t.sz)) (l.drop n)
  | 0, l, cs, h => by simpa using h
  | n + 1, [], cs, h => by simp [RL] at h; subst h; simp [RL]
  | n + 1, x :: l, cs, h => by
    obtain ⟨c, r, rfl, h1, h2⟩ := h
    rw [List.drop_succ_cons, List.drop_append_of_le_length_or t.sz (t.len h1)]
    exact RL.drop h2
where
  List.drop_append_of_le_length_or (s : Nat) {n : Nat} {c r : List AV} (h : c.length = s) : (c ++ r).drop ((n + 1) * s) = r.drop (n * s) := by
    rw [Nat.add_mul, Nat.one_mul, Nat.add_comm, ← List.drop_drop, ← h, List.drop_left]
theorem RL.take : ∀ {n : Nat} {l : List α} {cs : List AV}, RL t B cs l → RL t B (cs.take (n * t.sz)) (l.take n)
  | 0, l, cs, h => by simp [RL]
  | n + 1, [], cs, h => by simp [RL] at h; subst h; simp [RL]
  | n + 1, x :: l, cs, h => by
    obtain ⟨c, r, rfl, h1, h2⟩ := h
    refine ⟨c, r.take (n * t.sz), ?_, h1, RL.take h2⟩
    rw [Nat.add_mul, Nat.one_mul, Nat.add_comm, ← t.len h1, List.take_length_add_append]
theorem RL.get : ∀ {l : List α} {cs : List AV} {i : Nat} {x : α}, RL t B cs l → l[i]? = some x → t.R B ((cs.drop (i * t.sz)).take t.sz) x
  | x :: l, cs, 0, y, h, hi => by
    obtain ⟨c, r, rfl, h1, h2⟩ := h
    simp at hi; subst hi
    simpa [← t.len h1] using h1
  | x :: l, cs, i + 1, y, h, hi => by
    obtain ⟨c, r, rfl, h1, h2⟩ := h
    have := RL.get h2 (i := i) (by simpa using hi)
    rw [RL.drop.List.drop_append_of_le_length_or t.sz (t.len h1)]
    exact this
def RSl (t : Ty α) (B : Kn) (v : AV) (l : List α) : Prop :=
  ∃ sz b off mc nl, v = .sl sz b off l.length mc nl ∧ l.length ≤ mc ∧ (nl = true → l = []) ∧ (nl = false → sz = t.sz) ∧
    (l ≠ [] → ∃ blk rw, B b = some (.blk blk rw) ∧ off + l.length * t.sz ≤ blk.length ∧ RL t B ((blk.drop off).take (l.length * t.sz)) l)
theorem RSl.upw (hk : KLw B B') {v : AV} {l : List α} (h : RSl t B v l) : RSl t B' v l := by
  obtain ⟨sz, b, off, mc, nl, rfl, h1, h2, h3, h4⟩ := h
  exact ⟨sz, b, off, mc, nl, rfl, h1, h2, h3, fun hne => let ⟨blk, rw, a, b', c⟩ := h4 hne; ⟨blk, rw, hk.k _ _ a, b', c.mono hk⟩⟩
theorem RSl.up (hk : KLe B B') {v : AV} {l : List α} (h : RSl t B v l) : RSl t B' v l := h.upw hk.w
theorem RSl.nil (t : Ty α) (B : Kn) : RSl t B (.sl 0 0 0 0 0 true) [] := ⟨0, 0, 0, 0, true, rfl, Nat.le_refl _, fun _ => rfl, by simp, by simp⟩
def Ty.int (k : IntKind) : Ty Int := ⟨1, fun _ cs x => cs = [.int k x], fun h => by rw [h]; rfl, fun h => by rw [h]; rfl, fun _ h => h⟩
def Ty.bool : Ty Bool := ⟨1, fun _ cs x => cs = [.bool x], fun h => by rw [h]; rfl, fun h => by rw [h]; rfl, fun _ h => h⟩
def Ty.str : Ty (List UInt8) := ⟨1, fun _ cs x => cs = [.str x], fun h => by rw [h]; rfl, fun h => by rw [h]; rfl, fun _ h => h⟩
def Ty.slice (t : Ty α) : Ty (List α) := ⟨1, fun B cs x => ∃ v, cs = [v] ∧ RSl t B v x, fun ⟨v, h, _⟩ => by rw [h]; rfl, fun ⟨v, h, a⟩ => by
  obtain ⟨_, _, _, _, _, e, _⟩ := a
  rw [h, e]; rfl, fun hk ⟨v, h, a⟩ => ⟨v, h, a.upw hk⟩⟩
def Ty.pair (s : Ty α) (t : Ty β) : Ty (α × β) := ⟨s.sz + t.sz, fun B cs x => ∃ c d, cs = c ++ d ∧ s.R B c x.1 ∧ t.R B d x.2, fun ⟨c, d, h, a, b⟩ => by rw [h, List.length_append, s.len a, t.len b], fun ⟨c, d, h, a, b⟩ => by
  rw [h, List.all_append, s.one a, t.one b]; rfl, fun hk ⟨c, d, h, a, b⟩ => ⟨c, d, h, s.mono hk a, t.mono hk b⟩⟩
def Ty.unit : Ty Unit := ⟨0, fun _ cs _ => cs = [], fun h => by rw [h]; rfl, fun h => by rw [h]; rfl, fun _ h => h⟩
def Pt (B : Kn) (b o : Nat) (cs : List AV) : Prop := ∃ blk rw, B b = some (.blk blk rw) ∧ ∀ j, j < cs.length → blk[o + j]? = cs[j]?
theorem Pt.upw (hk : KLw B B') {b o : Nat} {cs : List AV} (h : Pt B b o cs) : Pt B' b o cs := let ⟨blk, rw, a, c⟩ := h; ⟨blk, rw, hk.k _ _ a, c⟩
theorem Pt.up (hk : KLe B B') {b o : Nat} {cs : List AV} (h : Pt B b o cs) : Pt B' b o cs := h.upw hk.w
def oe (b : Nat) (nl : Bool) (cs : List AV) : Nat × Option OV := (b, bif nl then none else some (OV.c cs))
structure OSl (t : Ty α) (B : Kn) (v : AV) (b : Nat) (nl : Bool) (cs : List AV) (l : List α) : Prop where
  v_eq : ∃ sz mc, v = .sl sz b 0 l.length mc nl ∧ l.length ≤ mc ∧ (nl = false → sz = t.sz)
  nil : nl = true → l = []
  rl : RL t B cs l
theorem OSl.upw (hk : KLw B B') {v : AV} {b : Nat} {nl : Bool} {cs : List AV} {l : List α} (h : OSl t B v b nl cs l) : OSl t B' v b nl cs l := ⟨h.v_eq, h.nil, h.rl.mono hk⟩
theorem OSl.up (hk : KLe B B') {v : AV} {b : Nat} {nl : Bool} {cs : List AV} {l : List α} (h : OSl t B v b nl cs l) : OSl t B' v b nl cs l := h.upw hk.w
theorem OSl.none (t : Ty α) (B : Kn) : OSl t B (.sl 0 0 0 0 0 true) 0 true [] [] := ⟨⟨0, 0, rfl, Nat.le_refl _, by simp⟩, fun _ => rfl, rfl⟩
theorem OSl.rsl {v : AV} {b : Nat} {cs : List AV} {l : List α} (h : OSl t B v b false cs l) (hk : KLe B B') (hb : B' b = some (.blk cs true)) : RSl t B' v l := by
  obtain ⟨⟨sz, mc, rfl, h1, h2⟩, _, h3⟩ := h
  refine ⟨sz, b, 0, mc, false, rfl, h1, by simp, h2, fun _ => ⟨cs, true, hb, by rw [h3.len]; omega, ?_⟩⟩
  rw [List.drop_zero, ← h3.len, List.take_length]
  exact h3.mono hk.w
theorem OSl.nilr {v : AV} {b : Nat} {cs : List AV} {l : List α} (h : OSl t B v b true cs l) : RSl t B v l := by
  obtain ⟨⟨sz, mc, rfl, h1, h2⟩, h0, h3⟩ := h
  have := h0 rfl
  subst this
  exact ⟨sz, b, 0, mc, true, rfl, h1, by simp, by simp, by simp⟩
theorem Hp.freezeS {v : AV} {b : Nat} {nl : Bool} {cs : List AV} {l : List α} {L : Own} {st : St} (h : Hp B (oe b nl cs :: L) st) (ho : OSl t B v b nl cs l) : ∃ B', KLe B B' ∧ Hp B' L st ∧ RSl t B' v l := by
  cases nl with
  | true =>
    refine ⟨B, .refl _, ⟨⟨h.kn, fun i c hi => h.own i c (List.mem_cons_of_mem _ hi)⟩, fun i c hi => h.frz i c (List.mem_cons_of_mem _ hi), (List.pairwise_cons.1 h.sep).2⟩, ho.nilr⟩
  | false =>
    have hf := h.frz b cs List.mem_cons_self
    exact ⟨_, KLe.add hf, Hp.freeze h, ho.rsl (KLe.add hf) Kn.add_at⟩
theorem Hp.lendS {v : AV} {b : Nat} {nl : Bool} {cs : List AV} {l : List α} {L : Own} {st : St} (h : Hp B (oe b nl cs :: L) st) (ho : OSl t B v b nl cs l) : ∃ B', KLe B B' ∧ Hp B' L st ∧ RSl t B' v l ∧ ∀ B2 st2, KLe B' B2 → Hp B2 L st2 → Hp B (oe b nl cs :: L) st2 := by
  cases nl with
  | true =>
    exact ⟨B, .refl _, ⟨⟨h.kn, fun i c hi => h.own i c (List.mem_cons_of_mem _ hi)⟩, fun i c hi => h.frz i c (List.mem_cons_of_mem _ hi), (List.pairwise_cons.1 h.sep).2⟩, ho.nilr, fun B2 st2 hk h2 => (h2.le hk).skip b⟩
  | false =>
    have hf := h.frz b cs List.mem_cons_self
    exact ⟨_, KLe.add hf, Hp.freeze h, ho.rsl (KLe.add hf) Kn.add_at, fun B2 st2 hk h2 => Hp.thaw h hk h2⟩
end
end Gab
end
section
set_option linter.unusedSimpArgs false
set_option linter.unusedVariables false
namespace Gab
open Go
theorem ASpec.lw {P : Program} {f : FuncId} {args : List AV} {st : St} {Q : AV → St → Prop} (h : ASpec P f args st Q) : ASpec P f args st fun v s => Q v s ∧ s.lw :=
  ⟨h.1, fun ρ w cargs hr ha => (h.2 ρ w cargs hr ha).mono fun _ _ ⟨c, v, ρ', st', e, q, a, b, r⟩ => ⟨c, v, ρ', st', e, ⟨q, b.wf.lw⟩, a, b, r⟩⟩
section
variable {P : Program} {N n0 : Nat} {ops : Array Oper} {R : Post} {k : List It} {fr : Fr} {B : Kn} {A L M : Own}
def WX (P : Program) (N n0 : Nat) (R : Post) (k : List It) (fr : Fr) (B : Kn) (A L : Own) : Prop := ∀ st, st.lw → Hp B (A ++ L) st → AX P N n0 R k .normal fr st
def WO (P : Program) (N n0 : Nat) (ops : Array Oper) (l : List Oper) (R : Post) (k : List It) (fr : Fr) (B : Kn) (A L : Own) : Prop := ∀ st, st.lw → Hp B (A ++ L) st → AOps P N n0 ops l (AX P N n0 R k) fr st
def WP (P : Program) (N n0 : Nat) (ops : Array Oper) (plan : Plan) (R : Post) (k : List It) (fr : Fr) (B : Kn) (A L M : Own) : Prop := (∀ e ∈ M, e ∈ A ++ L) → ∀ st, st.lw → Hp B (A ++ L) st → APl P N ops (Kof B M) (AX P N n0 R k .normal) plan fr st
def WS (P : Program) (N n0 : Nat) (ops : Array Oper) (plan : Plan) (R : Post) (k : List It) (fr : Fr) (B : Kn) (A L : Own) : Prop := ∀ st, st.lw → Hp B (A ++ L) st → ∀ K, APl P N ops K (AX P N n0 R k .normal) plan fr st
theorem Hp.loc {st : St} (h : Hp B (A ++ L) st) : Rd B A st := h.rd.sub fun _ he => List.mem_append_left _ he
theorem subL (h : ∀ e ∈ M, e ∈ A) : ∀ e ∈ M, e ∈ A ++ L := fun e he => List.mem_append_left _ (h e he)
theorem Hp.kpm {st : St} (h : Hp B L st) (hs : ∀ e ∈ M, e ∈ L) : Kp (Kof B M) st := Kp.kof (h.rd.sub hs)
def QOp (P : Program) (op : Op) (fr : Fr) (B : Kn) (A : Own) (v : AV) : Prop := ∀ st, Rd B A st → evOp P op fr st = some (v, st)
theorem QOp.r {op : Op} {v : AV} (h : ∀ st, evOp P op fr st = some (v, st)) : QOp P op fr B A v := fun st _ => h st
theorem wg {l : List Oper} {d : Option Nat} {op : Op} {ty : TypeId} {ps : String} {af : Array Edge} {j gd : Nat} {want b q : Bool} (hj : (l[j]?.bind (·.dst)) = some gd) (hb : Fr.get fr gd = .bool b) (hq : (b == want) = q) :
    wantedA l fr ⟨d, op, ty, ps, af, some (j, want)⟩ = some q := by
  simp only [wantedA, hj, Option.bind_some, hb, hq]
theorem gt {b : Bool} (h : b = true) : (b == true) = true := by rw [h]; rfl
theorem gtn {b : Bool} (h : b = false) : (b == true) = false := by rw [h]; rfl
theorem gf {b : Bool} (h : b = false) : (b == false) = true := by rw [h]; rfl
theorem gfn {b : Bool} (h : b = true) : (b == false) = false := by rw [h]; rfl
theorem WO.q {d : Nat} {op : Op} {ty : TypeId} {ps : String} {af : Array Edge} {g : Option (Nat × Bool)} {rest : List Oper} {v : AV} (hq : QOp P op fr B A v) (hw : wantedA ops.toList fr ⟨some d, op, ty, ps, af, g⟩ = some true) (hd : decide (d < N) = true)
    (h : WO P N n0 ops rest R k ((d, v) :: fr) B A L) : WO P N n0 ops (⟨some d, op, ty, ps, af, g⟩ :: rest) R k fr B A L := fun st hl hp =>
  AOps.one (p := ((d, v) :: fr, st)) (by
    unfold evStep
    rw [hw, Option.bind_some, if_pos (show dstOk N (some d) = true from hd), if_pos rfl, hq st hp.loc]; rfl) (h st hl hp)
theorem WO.ql {d : Nat} {op : Op} {ty : TypeId} {ps : String} {af : Array Edge} {g : Option (Nat × Bool)} {rest : List Oper} {v : AV} (hq : QOp P op fr B (A ++ L) v) (hw : wantedA ops.toList fr ⟨some d, op, ty, ps, af, g⟩ = some true) (hd : decide (d < N) = true)
    (h : WO P N n0 ops rest R k ((d, v) :: fr) B A L) : WO P N n0 ops (⟨some d, op, ty, ps, af, g⟩ :: rest) R k fr B A L := fun st hl hp =>
  AOps.one (p := ((d, v) :: fr, st)) (by
    unfold evStep
    rw [hw, Option.bind_some, if_pos (show dstOk N (some d) = true from hd), if_pos rfl, hq st hp.rd]; rfl) (h st hl hp)
theorem WO.sk {d : Option Nat} {op : Op} {ty : TypeId} {ps : String} {af : Array Edge} {g : Option (Nat × Bool)} {rest : List Oper} (hw : wantedA ops.toList fr ⟨d, op, ty, ps, af, g⟩ = some false) (hd : dstOk N d = true)
    (h : WO P N n0 ops rest R k (fr.put d (.tup [])) B A L) : WO P N n0 ops (⟨d, op, ty, ps, af, g⟩ :: rest) R k fr B A L := fun st hl hp =>
  AOps.one (p := (fr.put d (.tup []), st)) (by
    unfold evStep
    rw [hw, Option.bind_some, if_pos hd]; rfl) (h st hl hp)
theorem WO.nil (h : WX P N n0 R k fr B A L) : WO P N n0 ops [] R k fr B A L := fun st hl hp => AOps.nil (h st hl hp)
theorem WX.reg {id : Nat} (h : WO P N n0 ops ops.toList R k fr B A L) : WX P N n0 R (.code (.region id ops false) :: k) fr B A L := fun st hl hp => ACode.region (h st hl hp)
theorem WP.q {i : Nat} {r : Plan} {d : Nat} {op : Op} {ty : TypeId} {ps : String} {af : Array Edge} {g : Option (Nat × Bool)} {v : AV} (hi : ops.toList[i]? = some ⟨some d, op, ty, ps, af, g⟩) (hq : QOp P op fr B M v) (hQ : isQ P op = true)
    (hw : wantedA ops.toList fr ⟨some d, op, ty, ps, af, g⟩ = some true) (hd : decide (d < N) = true) (h : WP P N n0 ops r R k ((d, v) :: fr) B A L M) : WP P N n0 ops (.one i r) R k fr B A L M := fun hs st hl hp => by
  refine APl.quiet' hi hQ (v := v) ?_ (fun _ => hp.kpm hs) (h hs st hl hp)
  unfold evQ
  rw [hw, Option.bind_some, if_pos (show dstOk N (some d) = true from hd), if_pos rfl, hq _ (Rd.kof hp hs)]; rfl
theorem WP.sk {i : Nat} {r : Plan} {d : Nat} {op : Op} {ty : TypeId} {ps : String} {af : Array Edge} {g : Option (Nat × Bool)} (hi : ops.toList[i]? = some ⟨some d, op, ty, ps, af, g⟩) (hQ : isQ P op = true)
    (hw : wantedA ops.toList fr ⟨some d, op, ty, ps, af, g⟩ = some false) (hd : decide (d < N) = true) (h : WP P N n0 ops r R k ((d, .tup []) :: fr) B A L M) : WP P N n0 ops (.one i r) R k fr B A L M := fun hs st hl hp => by
  refine APl.quiet' hi hQ (v := .tup []) ?_ (fun _ => hp.kpm hs) (h hs st hl hp)
  unfold evQ
  rw [hw, Option.bind_some, if_pos (show dstOk N (some d) = true from hd)]; rfl
theorem WP.nil (h : WX P N n0 R k fr B A L) : WP P N n0 ops .nil R k fr B A L M := fun _ st hl hp => APl.nil (h st hl hp)
theorem WP.skm {i : Nat} {r : Plan} {d : Option Nat} {op : Op} {ty : TypeId} {ps : String} {af : Array Edge} {g : Option (Nat × Bool)} (hi : ops.toList[i]? = some ⟨d, op, ty, ps, af, g⟩) (hQ : isQ P op = false)
    (hw : wantedA ops.toList fr ⟨d, op, ty, ps, af, g⟩ = some false) (hd : dstOk N d = true) (h : WP P N n0 ops r R k (fr.put d (.tup [])) B A L M) : WP P N n0 ops (.one i r) R k fr B A L M := fun hs st hl hp =>
  APl.op (p := (fr.put d (.tup []), st)) hi hQ (by
    unfold evStep
    rw [hw, Option.bind_some, if_pos hd]; rfl) (.inr (hp.kpm hs)) (h hs st hl hp)
theorem WX.drw {id : Nat} (plan : Plan) (M : Own) (hm : P.follows .mixedOrders = true) (hp : planOk P ops (Array.replicate ops.size false) plan = true) (hl : plan.len = ops.size) (hs : ∀ e ∈ M, e ∈ A ++ L)
    (h : WP P N n0 ops plan R k fr B A L M) : WX P N n0 R (.code (.region id ops true) :: k) fr B A L := fun st hw hh => AX.draw plan (Kof B M) hm hp hl (h hs st hw hh)
theorem WS.q {i : Nat} {r : Plan} {d : Nat} {op : Op} {ty : TypeId} {ps : String} {af : Array Edge} {g : Option (Nat × Bool)} {v : AV} (hi : ops.toList[i]? = some ⟨some d, op, ty, ps, af, g⟩) (hq : QOp P op fr ⟨fun _ => none, fun _ => []⟩ [] v) (hQ : isQ P op = true) (hm : memRd op = false)
    (hw : wantedA ops.toList fr ⟨some d, op, ty, ps, af, g⟩ = some true) (hd : decide (d < N) = true) (h : WS P N n0 ops r R k ((d, v) :: fr) B A L) : WS P N n0 ops (.one i r) R k fr B A L := fun st hl hp K => by
  refine APl.quiet' hi hQ (v := v) ?_ (fun e => by rw [hm] at e; cases e) (h st hl hp K)
  unfold evQ
  rw [hw, Option.bind_some, if_pos (show dstOk N (some d) = true from hd), if_pos rfl, hq K ⟨fun _ _ h => (by cases h), fun _ _ h => (by cases h)⟩]; rfl
theorem WS.nil (h : WX P N n0 R k fr B A L) : WS P N n0 ops .nil R k fr B A L := fun st hl hp _ => APl.nil (h st hl hp)
def MOp (P : Program) (op : Op) (fr : Fr) (B : Kn) (A L : Own) (Q : AV → Own → Prop) : Prop := ∀ st, st.lw → Hp B (A ++ L) st → ∃ v st' A', evOp P op fr st = some (v, st') ∧ st'.lw ∧ Hp B (A' ++ L) st' ∧ Q v A'
theorem WO.m {d : Option Nat} {op : Op} {ty : TypeId} {ps : String} {af : Array Edge} {g : Option (Nat × Bool)} {rest : List Oper} {Q : AV → Own → Prop} (hm : MOp P op fr B A L Q) (hw : wantedA ops.toList fr ⟨d, op, ty, ps, af, g⟩ = some true) (hd : dstOk N d = true)
    (h : ∀ v A', Q v A' → WO P N n0 ops rest R k (fr.put d v) B A' L) : WO P N n0 ops (⟨d, op, ty, ps, af, g⟩ :: rest) R k fr B A L := fun st hl hp => by
  obtain ⟨v, st', A', h1, h2, h3, h4⟩ := hm st hl hp
  exact AOps.one (p := (fr.put d v, st')) (by
    unfold evStep
    rw [hw, Option.bind_some, if_pos hd, if_pos rfl, h1]; rfl) (h v A' h4 st' h2 h3)
theorem WP.m {i : Nat} {r : Plan} {d : Option Nat} {op : Op} {ty : TypeId} {ps : String} {af : Array Edge} {g : Option (Nat × Bool)} {Q : AV → Own → Prop} (hi : ops.toList[i]? = some ⟨d, op, ty, ps, af, g⟩) (hm : MOp P op fr B A L Q) (hQ : isQ P op = false) (hw : wantedA ops.toList fr ⟨d, op, ty, ps, af, g⟩ = some true) (hd : dstOk N d = true)
    (hs : ∀ v A', Q v A' → (∀ e ∈ M, e ∈ A ++ L) → ∀ e ∈ M, e ∈ A' ++ L) (h : ∀ v A', Q v A' → WP P N n0 ops r R k (fr.put d v) B A' L M) : WP P N n0 ops (.one i r) R k fr B A L M := fun hsub st hl hp => by
  obtain ⟨v, st', A', h1, h2, h3, h4⟩ := hm st hl hp
  have hs' := hs v A' h4 hsub
  exact APl.op (p := (fr.put d v, st')) hi hQ (by
    unfold evStep
    rw [hw, Option.bind_some, if_pos hd, if_pos rfl, h1]; rfl) (.inr (h3.kpm hs')) (h v A' h4 hs' st' h2 h3)
theorem WP.ms {i : Nat} {r : Plan} {d : Option Nat} {op : Op} {ty : TypeId} {ps : String} {af : Array Edge} {g : Option (Nat × Bool)} {Q : AV → Own → Prop} (hi : ops.toList[i]? = some ⟨d, op, ty, ps, af, g⟩) (hm : MOp P op fr B A L Q) (hQ : isQ P op = false) (hS : needS P ops i = false) (hw : wantedA ops.toList fr ⟨d, op, ty, ps, af, g⟩ = some true) (hd : dstOk N d = true)
    (h : ∀ v A', Q v A' → WS P N n0 ops r R k (fr.put d v) B A' L) : WP P N n0 ops (.one i r) R k fr B A L M := fun hsub st hl hp => by
  obtain ⟨v, st', A', h1, h2, h3, h4⟩ := hm st hl hp
  exact APl.op (p := (fr.put d v, st')) hi hQ (by
    unfold evStep
    rw [hw, Option.bind_some, if_pos hd, if_pos rfl, h1]; rfl) (.inl hS) (h v A' h4 st' h2 h3 _)
theorem WS.m {i : Nat} {r : Plan} {d : Option Nat} {op : Op} {ty : TypeId} {ps : String} {af : Array Edge} {g : Option (Nat × Bool)} {Q : AV → Own → Prop} (hi : ops.toList[i]? = some ⟨d, op, ty, ps, af, g⟩) (hm : MOp P op fr B A L Q) (hQ : isQ P op = false) (hS : needS P ops i = false) (hw : wantedA ops.toList fr ⟨d, op, ty, ps, af, g⟩ = some true) (hd : dstOk N d = true)
    (h : ∀ v A', Q v A' → WS P N n0 ops r R k (fr.put d v) B A' L) : WS P N n0 ops (.one i r) R k fr B A L := fun st hl hp K => by
  obtain ⟨v, st', A', h1, h2, h3, h4⟩ := hm st hl hp
  exact APl.op (p := (fr.put d v, st')) hi hQ (by
    unfold evStep
    rw [hw, Option.bind_some, if_pos hd, if_pos rfl, h1]; rfl) (.inl hS) (h v A' h4 st' h2 h3 K)
def NewQ (cs : List AV) (A : Own) : AV → Own → Prop := fun v A' => ∃ b, v = .ptr b 0 ∧ A' = (b, some (OV.c cs)) :: A
theorem MOp.box {t : TypeId} {x : Operand} {cs : List AV} (hc : (fr.ev x).cells = some cs) : MOp P (.box t x) fr B A L (NewQ cs A) := fun st hl hp =>
  ⟨_, _, _, by simp only [evOp, evBox, hc, Option.bind_some], lw_push hl _, hp.push hl cs, _, rfl, rfl⟩
theorem MOp.alloc {t : TypeId} {ti : TI} {cs : List AV} (ht : tinfo P t = some ti) (hz : ti.zero = some cs) : MOp P (.alloc t) fr B A L (NewQ cs A) := fun st hl hp =>
  ⟨_, _, _, by simp only [evOp, evAlloc, ht, hz, Option.bind_some], lw_push hl _, hp.push hl cs, _, rfl, rfl⟩
theorem MOp.store {t : TypeId} {a x : Operand} {ti : TI} {b off : Nat} {cs vs cs' : List AV} {A' : Own} (ha : fr.ev a = .ptr b off) (hx : (fr.ev x).cells = some vs) (hu : Upd (b, some (OV.c cs)) (b, some (OV.c cs')) A A') (ht : tinfo P t = some ti)
    (hsz : vs.length = ti.size) (ho : vs.all AV.one = true) (hf : off + vs.length ≤ cs.length) (he : setL cs off vs = cs') : MOp P (.store t a x) fr B A L fun _ A'' => A'' = A' := fun st hl hp => by
  have hm : (b, some (OV.c cs)) ∈ A ++ L := List.mem_append_left _ hu.mem
  refine ⟨.any, st.set b (.blk cs' true), A', ?_, lw_set hl (o' := .blk cs' true) (hp.lt hl hm) _, (hu.app L).hp hp (fun i hi => set_get_old hi) (set_get_new rfl), rfl⟩
  simp only [evOp, evStore, ha, ht, Option.bind_some, hx, hp.rd.wr hm]
  rw [need_pos ⟨hsz, hf⟩, if_pos ho, he]; rfl
theorem MOp.storeW {t : TypeId} {a x : Operand} {ti : TI} {b : Nat} {cs vs : List AV} {A' : Own} (ha : fr.ev a = .ptr b 0) (hx : (fr.ev x).cells = some vs) (hu : Upd (b, some (OV.c cs)) (b, some (OV.c vs)) A A') (ht : tinfo P t = some ti)
    (hsz : vs.length = ti.size) (ho : vs.all AV.one = true) (hf : vs.length = cs.length) : MOp P (.store t a x) fr B A L fun _ A'' => A'' = A' :=
  MOp.store ha hx hu ht hsz ho (by omega) (setL_all vs cs hf)
where
  setL_all : ∀ (vs cs : List AV), vs.length = cs.length → setL cs 0 vs = vs := fun vs cs h => by
    refine List.ext_getElem? fun j => ?_
    rw [setL_get vs cs 0 j (by omega)]
    split
    · rfl
    · rename_i hj
      rw [List.getElem?_eq_none (by omega), List.getElem?_eq_none (by omega)]
def BsQ {α : Type} (t : Ty α) (l : List α) (B : Kn) (cs : List AV) (A : Own) : AV → Own → Prop := fun v A' => ∃ b, OSl t B v b false cs l ∧ A' = (b, some (OV.c cs)) :: A
structure SlT {α : Type} (P : Program) (T : TypeId) (t : Ty α) (z : List AV) (by_ : Nat) : Prop where
  ex : ∃ ti e ei, tinfo P T = some ti ∧ ti.k = .sl e ∧ tinfo P e = some ei ∧ ei.size = t.sz ∧ ei.zero = some z ∧ z.length = t.sz ∧ ei.bytes = by_
theorem MOp.bs {α : Type} {T : TypeId} {n : Nat} {ps : Array (Nat × Operand)} {t : Ty α} {z cs : List AV} {y : Nat} {l : List α} (ht : SlT P T t z y) (hr : RL t B cs l) (hn : n * t.sz ≤ 16777216) (hf : fillA (fun i => some (i * t.sz, t.sz)) (zeroRow z n) (ps.toList.map fun p => (p.1, fr.ev p.2)) = some cs)
    (hl : l.length = n) : MOp P (.buildSlice T n ps) fr B A L (BsQ t l B cs A) := fun st hw hp => by
  obtain ⟨ti, e, ei, h1, h2, h3, h4, h5, h6, _⟩ := ht.ex
  have hlen : cs.length = n * t.sz := by rw [hr.len, hl]
  subst hl
  refine ⟨.sl t.sz st.n 0 l.length l.length false, st.push (.blk cs true), _, ?_, lw_push hw _, hp.push hw cs, st.n, ⟨⟨_, _, rfl, Nat.le_refl _, fun _ => rfl⟩, by simp, hr⟩, rfl⟩
  simp only [evOp, evBuildSlice, h1, h2, h3, h4, h5, Option.bind_some]
  rw [need_pos ⟨hn, h6⟩, hf, Option.bind_some, need_pos hlen]
theorem MOp.mk {α : Type} {T : TypeId} {lo co : Operand} {t : Ty α} {z : List AV} {y : Nat} {kl kc : IntKind} {n : Int} {x : α} (ht : SlT P T t z y) (hl : fr.ev lo = .int kl n) (hc : fr.ev co = .int kc n) (h0 : 0 ≤ n) (hn : n ≤ 9223372036854775807) (hy : y * n ≤ 281474976710656) (hr : t.R B z x) :
    MOp P (.makeSlice T lo co) fr B A L (BsQ t (List.replicate n.toNat x) B (zeroRow z n.toNat) A) := fun st hw hp => by
  obtain ⟨ti, e, ei, h1, h2, h3, h4, h5, h6, h7⟩ := ht.ex
  have hrl : ∀ m, RL t B (zeroRow z m) (List.replicate m x) := by
    intro m
    induction m with
    | zero => rfl
    | succ m ih => exact ⟨z, zeroRow z m, rfl, hr, ih⟩
  refine ⟨.sl t.sz st.n 0 n.toNat n.toNat false, st.push (.blk (zeroRow z n.toNat) true), _, ?_, lw_push hw _, hp.push hw _, st.n, ⟨⟨_, _, by rw [List.length_replicate], by rw [List.length_replicate]; exact Nat.le_refl _, fun _ => rfl⟩, by simp, hrl _⟩, rfl⟩
  simp only [evOp, evMakeSlice, hl, hc, h1, h2, h3, h4, h5, Option.bind_some]
  rw [need_pos ⟨h0, Int.le_refl _, hn, by rw [h7]; exact hy, h6⟩]
theorem ldS {cs : List AV} {st : St} {t : TypeId} {ti : TI} {b off : Nat} {v : AV} (ht : tinfo P t = some ti) (ha : ti.k.agg = false) (hr : rdBlk st b = some cs) (hv : cs[off]? = some v) : evLoad P t (.ptr b off) st = some v := by
  simp only [evLoad, ht, Option.bind_some, hr, ha, Bool.false_eq_true, if_false, hv]
theorem ldA {cs vs : List AV} {st : St} {t : TypeId} {ti : TI} {b off : Nat} (ht : tinfo P t = some ti) (ha : ti.k.agg = true) (hr : rdBlk st b = some cs) (hv : loadN cs off ti.size = some vs) : evLoad P t (.ptr b off) st = some (.agg vs) := by
  simp only [evLoad, ht, Option.bind_some, hr, ha, if_true, hv]
theorem QOp.ldS {x : Operand} {t : TypeId} {ti : TI} {b off i : Nat} {cs : List AV} {v : AV} (hx : fr.ev x = .ptr b off) (hA : A[i]? = some (b, some (OV.c cs))) (hv : cs[off]? = some v) (ht : tinfo P t = some ti) (ha : ti.k.agg = false) : QOp P (.load t x) fr B A v := fun st hr => by
  simp only [evOp, hx, Gab.ldS ht ha (hr.ro (List.mem_of_getElem? hA)) hv, Option.bind_some]
theorem QOp.ldA {x : Operand} {t : TypeId} {ti : TI} {b off i : Nat} {cs vs : List AV} (hx : fr.ev x = .ptr b off) (hA : A[i]? = some (b, some (OV.c cs))) (hv : loadN cs off ti.size = some vs) (ht : tinfo P t = some ti) (ha : ti.k.agg = true) : QOp P (.load t x) fr B A (.agg vs) := fun st hr => by
  simp only [evOp, hx, Gab.ldA ht ha (hr.ro (List.mem_of_getElem? hA)) hv, Option.bind_some]
theorem QOp.lp0 {x : Operand} {t : TypeId} {ti : TI} {b o : Nat} {cs : List AV} {v : AV} (hx : fr.ev x = .ptr b o) (hp : Pt B b o cs) (hv : cs[0]? = some v) (ht : tinfo P t = some ti) (ha : ti.k.agg = false) : QOp P (.load t x) fr B A v := fun st hr => by
  obtain ⟨blk, rw', h1, h2⟩ := hp
  have hf := (List.getElem?_eq_some_iff.1 hv).1
  simp only [evOp, hx, Gab.ldS (off := o) ht ha (hr.rd h1) ((show blk[o]? = cs[0]? from h2 0 hf).trans hv), Option.bind_some]
theorem loadN_of {blk cs : List AV} : ∀ {n o : Nat}, cs.length = n → (∀ j, j < cs.length → blk[o + j]? = cs[j]?) → loadN blk o n = some cs
  | 0, o, h, _ => by rw [List.eq_nil_of_length_eq_zero h]; rfl
  | n + 1, o, h, hg => by
    cases cs with
    | nil => simp at h
    | cons c r =>
      have h0 := hg 0 (by simp)
      have ih := loadN_of (blk := blk) (cs := r) (n := n) (o := o + 1) (by simpa using h) fun j hj => by
        have := hg (j + 1) (by simp; omega)
        rw [show o + 1 + j = o + (j + 1) by omega, this]; simp
      simp only [Nat.add_zero, List.getElem?_cons_zero] at h0
      simp only [loadN, h0, Option.bind_some, ih]
theorem QOp.lpA {x : Operand} {t : TypeId} {ti : TI} {b o : Nat} {cs : List AV} (hx : fr.ev x = .ptr b o) (hp : Pt B b o cs) (ht : tinfo P t = some ti) (ha : ti.k.agg = true) (hsz : cs.length = ti.size) : QOp P (.load t x) fr B A (.agg cs) := fun st hr => by
  obtain ⟨blk, rw', h1, h2⟩ := hp
  simp only [evOp, hx, Gab.ldA ht ha (hr.rd h1) (loadN_of hsz h2), Option.bind_some]
theorem Pt.part {b o : Nat} {cs : List AV} (h : Pt B b o cs) (f : Nat) {ds : List AV} (hd : ∀ j, j < ds.length → cs[f + j]? = ds[j]?) (hl : f + ds.length ≤ cs.length) : Pt B b (o + f) ds := by
  obtain ⟨blk, rw', h1, h2⟩ := h
  exact ⟨blk, rw', h1, fun j hj => by rw [Nat.add_assoc, h2 (f + j) (by omega), hd j hj]⟩
theorem QOp.fa {t : TypeId} {x : Operand} {f : Nat} {v : AV} (h : evFieldAddr P t (fr.ev x) f = some v) : QOp P (.fieldAddr t x f) fr B A v := fun st _ => by simp only [evOp, h, Option.bind_some]
theorem QOp.fd {t : TypeId} {x : Operand} {f : Nat} {v : AV} (h : evField P t (fr.ev x) f = some v) : QOp P (.field t x f) fr B A v := fun st _ => by simp only [evOp, h, Option.bind_some]
theorem QOp.ia {t : TypeId} {x i : Operand} {v : AV} (h : evIndexAddr P t (fr.ev x) (fr.ev i) = some v) : QOp P (.indexAddr t x i) fr B A v := fun st _ => by simp only [evOp, h, Option.bind_some]
theorem QOp.ix {t : TypeId} {x i : Operand} {v : AV} (h : evIndex P t (fr.ev x) (fr.ev i) = some v) : QOp P (.index t x i) fr B A v := fun st _ => by simp only [evOp, h, Option.bind_some]
theorem QOp.sl {t : TypeId} {x : Operand} {lo hi : Option Operand} {v : AV} (h : evSlice P t (fr.ev x) (lo.map fr.ev) (hi.map fr.ev) none = some v) : QOp P (.slice t x lo hi none) fr B A v := fun st _ => by simp only [evOp, Option.map_none, h, Option.bind_some]
theorem QOp.bd {t : TypeId} {ps : Array (Nat × Operand)} {v : AV} (h : evBuild P t (ps.toList.map fun p => (p.1, fr.ev p.2)) = some v) : QOp P (.build t ps) fr B A v := fun st _ => by simp only [evOp, h, Option.bind_some]
theorem QOp.bin {op : BinOp} {t : TypeId} {x y : Operand} {q : _} {v : AV} (h : evBin P op t (fr.ev x) (fr.ev y) = some v) : QOp P (.binOp op t x y q) fr B A v := fun st _ => by simp only [evOp, h, Option.bind_some]
theorem QOp.len {c : Call} {t : TypeId} {x : Operand} {v : AV} (h1 : c.callee = .builtin .len) (h2 : c.argTypes.toList = [t]) (h3 : c.args.toList = [x]) (h : evLen P t (fr.ev x) = some v) : QOp P (.call c) fr B A v := fun st _ => by
  simp only [evOp, h1, h2, h3, List.map_cons, List.map_nil, evBuiltin, h]
theorem pick_t {a b : AV} : AV.pick true a b = a := by cases a <;> cases b <;> rfl
theorem pick_f {a b : AV} : AV.pick false a b = b := by cases a <;> cases b <;> rfl
theorem QOp.pt {c a b : Operand} {t : Bool} (hc : fr.ev c = .bool t) (ht : t = true) : QOp P (.pick c a b) fr B A (fr.ev a) := fun st _ => by subst ht; simp only [evOp, hc, pick_t]
theorem QOp.pf {c a b : Operand} {t : Bool} (hc : fr.ev c = .bool t) (ht : t = false) : QOp P (.pick c a b) fr B A (fr.ev b) := fun st _ => by subst ht; simp only [evOp, hc, pick_f]
section slices
variable {α : Type} {t : Ty α} {T : TypeId} {z : List AV} {y : Nat} {v : AV} {l : List α}
theorem SlT.len (ht : SlT P T t z y) (h : ∃ sz b off mc nl, v = .sl sz b off l.length mc nl) : evLen P T v = some (.int .i64 (l.length : Int)) := by
  obtain ⟨ti, e, ei, h1, h2, _⟩ := ht.ex
  obtain ⟨sz, b, off, mc, nl, rfl⟩ := h
  simp only [evLen, h1, h2, Option.bind_some]
theorem RSl.isl (h : RSl t B v l) : ∃ sz b off mc nl, v = .sl sz b off l.length mc nl := let ⟨sz, b, off, mc, nl, e, _⟩ := h; ⟨sz, b, off, mc, nl, e⟩
theorem OSl.isl {b : Nat} {nl : Bool} {cs : List AV} (h : OSl t B v b nl cs l) : ∃ sz b off mc nl, v = .sl sz b off l.length mc nl := let ⟨sz, mc, e, _⟩ := h.v_eq; ⟨sz, b, 0, mc, nl, e⟩
def rd (l : List α) (i : Int) : Option α := if 0 ≤ i then l[i.toNat]? else none
theorem rd_some {i : Int} {x : α} (h : rd l i = some x) : 0 ≤ i ∧ l[i.toNat]? = some x := by
  unfold rd at h
  split at h
  · exact ⟨‹_›, h⟩
  · cases h
theorem getElem?_take_drop {cs : List AV} {o n j : Nat} (h : j < n) : ((cs.drop o).take n)[j]? = cs[o + j]? := by
  rw [List.getElem?_take, if_pos h, List.getElem?_drop]
theorem RSl.at (h : RSl t B v l) (ht : SlT P T t z y) {i : Int} {x : α} (hi : rd l i = some x) (k : IntKind) : ∃ b o cs, evIndexAddr P T v (.int k i) = some (.ptr b o) ∧ Pt B b o cs ∧ t.R B cs x := by
  obtain ⟨ti, e, ei, h1, h2, h3, h4, _⟩ := ht.ex
  obtain ⟨sz, b, off, mc, nl, rfl, g1, g2, g3, g4⟩ := h
  obtain ⟨i0, hx⟩ := rd_some hi
  have hlt := (List.getElem?_eq_some_iff.1 hx).1
  have hne : l ≠ [] := fun e => by subst e; simp at hlt
  have hnl : nl = false := by cases nl with
    | true => exact absurd (g2 rfl) hne
    | false => rfl
  obtain ⟨blk, rw', c1, c2, c3⟩ := g4 hne
  have hsz := g3 hnl
  have hm : i.toNat * t.sz + t.sz ≤ l.length * t.sz := by
    have := Nat.mul_le_mul_right t.sz (show i.toNat + 1 ≤ l.length from hlt)
    rw [Nat.add_mul, Nat.one_mul] at this; exact this
  refine ⟨b, off + i.toNat * sz, (((blk.drop off).take (l.length * t.sz)).drop (i.toNat * t.sz)).take t.sz, ?_, ⟨blk, rw', c1, fun j hj => ?_⟩, c3.get hx⟩
  · simp only [evIndexAddr, h1, h2, h3, Option.bind_some]
    rw [need_pos ⟨h4.trans hsz.symm, i0, by omega⟩]
  · have hj' : j < t.sz := by rw [List.length_take] at hj; omega
    rw [getElem?_take_drop hj', getElem?_take_drop (by omega), hsz, Nat.add_assoc]
def cutL (l : List α) (a b : Int) : Option (List α) := if 0 ≤ a ∧ a ≤ b ∧ b ≤ l.length then some ((l.take b.toNat).drop a.toNat) else none
theorem cutL_some {a b : Int} {m : List α} (h : cutL l a b = some m) : (0 ≤ a ∧ a ≤ b ∧ b ≤ l.length) ∧ m = (l.take b.toNat).drop a.toNat := by
  unfold cutL at h
  split at h
  · exact ⟨‹_›, (Option.some.inj h).symm⟩
  · cases h
theorem RSl.cut (h : RSl t B v l) (ht : SlT P T t z y) {a b : Int} {m : List α} (hc : cutL l a b = some m) {lo hi : Option AV} (hlo : bnd 0 lo = some a.toNat) (hhi : bnd l.length hi = some b.toNat) :
    ∃ v', evSlice P T v lo hi none = some v' ∧ RSl t B v' m := by
  obtain ⟨ti, e, ei, h1, h2, h3, h4, _⟩ := ht.ex
  obtain ⟨sz, b', off, mc, nl, rfl, g1, g2, g3, g4⟩ := h
  obtain ⟨⟨a0, ab, bl⟩, rfl⟩ := cutL_some hc
  have hlen : ((l.take b.toNat).drop a.toNat).length = b.toNat - a.toNat := by rw [List.length_drop, List.length_take]; omega
  refine ⟨.sl sz b' (off + a.toNat * sz) (b.toNat - a.toNat) (mc - a.toNat) nl, ?_, sz, b', off + a.toNat * sz, mc - a.toNat, nl, by rw [hlen], by rw [hlen]; omega, fun hn => by rw [g2 hn]; simp, g3, fun hne => ?_⟩
  · simp only [evSlice, h1, h2, h3, Option.bind_some, hlo, hhi]
    rw [need_pos ⟨by omega, by omega, fun hn => by rw [h4, g3 hn]⟩]
  · have hl : l ≠ [] := fun e => by subst e; simp at hne
    have hnl : nl = false := by cases nl with
      | true => exact absurd (g2 rfl) hl
      | false => rfl
    obtain ⟨blk, rw', c1, c2, c3⟩ := g4 hl
    have hsz := g3 hnl
    have e1 : a.toNat * t.sz + (b.toNat - a.toNat) * t.sz = b.toNat * t.sz := by rw [← Nat.add_mul]; congr 1; omega
    have e2 := Nat.mul_le_mul_right t.sz (show b.toNat ≤ l.length by omega)
    refine ⟨blk, rw', c1, by rw [hlen, hsz]; omega, ?_⟩
    have := (RL.take (n := b.toNat) c3).drop (n := a.toNat)
    rw [List.take_take, Nat.min_eq_left e2, List.drop_take, List.drop_drop, ← hsz] at this
    rw [hlen, show (b.toNat - a.toNat) * t.sz = b.toNat * t.sz - a.toNat * t.sz by omega, ← hsz]
    exact this
theorem bnd_int {d : Nat} {k : IntKind} {n : Int} (h : 0 ≤ n) : bnd d (some (.int k n)) = some n.toNat := need_pos h
theorem bnd_none {d : Nat} : bnd d none = some d := rfl
end slices
end
end Gab
end
section
set_option linter.unusedSimpArgs false
set_option linter.unusedVariables false
namespace Gab
open Go
theorem Hp.perm {B : Kn} {L L' : Own} {st : St} (h : Hp B L st) (hp : L.Perm L') : Hp B L' st :=
  ⟨⟨h.kn, fun b cs hb => h.own b cs (hp.mem_iff.2 hb)⟩, fun b cs hb => h.frz b cs (hp.mem_iff.2 hb), (List.Perm.pairwise_iff (fun {a b} hab h1 h2 e => hab h2 h1 e.symm) hp).1 h.sep⟩
theorem perm_out {α : Type} : ∀ {A : List α} {i : Nat} {e : α}, A[i]? = some e → A.Perm (e :: A.eraseIdx i)
  | [], i, e, h => by simp at h
  | a :: A, 0, e, h => by simp at h; subst h; exact .refl _
  | a :: A, i + 1, e, h => ((perm_out (A := A) (i := i) (by simpa using h)).cons a).trans (.swap e a _)
theorem Hp.out {B : Kn} {A L : Own} {st : St} (h : Hp B (A ++ L) st) {i : Nat} {e : Nat × Option OV} (hi : A[i]? = some e) : Hp B (e :: (A.eraseIdx i ++ L)) st :=
  h.perm ((perm_out hi).append_right L)
theorem Hp.into {B : Kn} {A L : Own} {st : St} {i : Nat} {e : Nat × Option OV} (hi : A[i]? = some e) (h : Hp B (e :: (A.eraseIdx i ++ L)) st) : Hp B (A ++ L) st :=
  h.perm ((perm_out hi).symm.append_right L)
theorem Upd.mv {B : Kn} {x : Nat × Option OV} {cs' : List AV} {st st' : St} : ∀ {A A' : Own}, Upd x (st.n, some (OV.c cs')) A A' → Hp B A st → st.lw → (∀ i, i ≠ st.n → (∀ cs, x ≠ (i, some (OV.c cs))) → st'.get i = st.get i) → st'.get st.n = some (.blk cs' true) → Hp B A' st'
  | _, _, .h (A := A), hh, hl, ho, hb => by
    have hs := List.pairwise_cons.1 hh.sep
    have hx : ∀ i cs c, (i, some c) ∈ A → x ≠ (i, some (OV.c cs)) := fun i cs c hi e => by subst e; exact hs.1 _ hi rfl rfl rfl
    have hn : B st.n = none := by
      cases hB : B st.n with
      | none => rfl
      | some o => have := hh.klt hl hB; omega
    refine ⟨⟨fun i o hi => ?_, fun i c hi => ?_⟩, fun i c hi => ?_, List.pairwise_cons.2 ⟨fun a ha _ h2 => ?_, hs.2⟩⟩
    · rw [ho i (by have := hh.klt hl hi; omega) (fun cs e => by subst e; have := hh.frz i cs List.mem_cons_self; rw [this] at hi; cases hi)]; exact hh.kn i o hi
    · rcases List.mem_cons.1 hi with e | hi
      · cases e; exact hb
      · rw [ho i (by have := hh.lt hl (List.mem_cons_of_mem _ hi); omega) (fun cs => hx i cs c hi)]; exact hh.own i c (List.mem_cons_of_mem _ hi)
    · rcases List.mem_cons.1 hi with e | hi
      · cases e; exact hn
      · exact hh.frz i c (List.mem_cons_of_mem _ hi)
    · obtain ⟨y, c⟩ := a
      cases c with
      | none => cases h2
      | some c => have := hh.lt hl (List.mem_cons_of_mem _ ha); simp only [ne_eq]; omega
  | _, _, .t (e := z) u, hh, hl, ho, hb => by
    have hs := List.pairwise_cons.1 hh.sep
    have hm := u.mem
    have ht : Hp B _ st := ⟨⟨hh.kn, fun i c hi => hh.own i c (List.mem_cons_of_mem _ hi)⟩, fun i c hi => hh.frz i c (List.mem_cons_of_mem _ hi), hs.2⟩
    have hp := Upd.mv u ht hl ho hb
    obtain ⟨zb, zc⟩ := z
    refine ⟨⟨hp.kn, fun i c hi => ?_⟩, fun i c hi => ?_, List.pairwise_cons.2 ⟨fun a ha h1 h2 => ?_, hp.sep⟩⟩
    · rcases List.mem_cons.1 hi with e | hi
      · cases e
        rw [ho zb (by have := hh.lt hl List.mem_cons_self; omega) (fun cs e => by subst e; exact hs.1 _ hm rfl rfl rfl)]; exact hh.own zb c List.mem_cons_self
      · exact hp.own i c hi
    · rcases List.mem_cons.1 hi with e | hi
      · cases e; exact hh.frz zb c List.mem_cons_self
      · exact hp.frz i c hi
    · rcases u.sub a ha with e | e
      · subst e
        cases zc with
        | none => cases h1
        | some c => have := hh.lt hl (b := zb) (o := c) List.mem_cons_self; simp only [ne_eq]; omega
      · exact hs.1 a e h1 h2
theorem Upd.none {B : Kn} {b b' : Nat} {st : St} : ∀ {A A' : Own}, Upd (b, Option.none) (b', Option.none) A A' → Hp B A st → Hp B A' st
  | _, _, .h, hh => by
    have ht : Hp B _ st := ⟨⟨hh.kn, fun i c hi => hh.own i c (List.mem_cons_of_mem _ hi)⟩, fun i c hi => hh.frz i c (List.mem_cons_of_mem _ hi), (List.pairwise_cons.1 hh.sep).2⟩
    exact ht.skip b'
  | _, _, .t (e := z) u, hh => by
    have hs := List.pairwise_cons.1 hh.sep
    have ht : Hp B _ st := ⟨⟨hh.kn, fun i c hi => hh.own i c (List.mem_cons_of_mem _ hi)⟩, fun i c hi => hh.frz i c (List.mem_cons_of_mem _ hi), hs.2⟩
    have hp := Upd.none u ht
    obtain ⟨zb, zc⟩ := z
    refine ⟨⟨hp.kn, fun i c hi => ?_⟩, fun i c hi => ?_, List.pairwise_cons.2 ⟨fun a ha h1 h2 => ?_, hp.sep⟩⟩
    · rcases List.mem_cons.1 hi with e | hi
      · cases e; exact hh.own zb c List.mem_cons_self
      · exact hp.own i c hi
    · rcases List.mem_cons.1 hi with e | hi
      · cases e; exact hh.frz zb c List.mem_cons_self
      · exact hp.frz i c hi
    · rcases u.sub a ha with e | e
      · subst e; cases h2
      · exact hs.1 a e h1 h2
section
variable {P : Program} {N n0 : Nat} {ops : Array Oper} {R : Post} {k : List It} {fr : Fr} {B : Kn} {A L M : Own}
section app
variable {α : Type} {t : Ty α} {T X : TypeId} {z z' : List AV} {y y' : Nat}
def Src (P : Program) (t : Ty α) (X : TypeId) (B : Kn) (A : Own) (v : AV) (news : List AV) (m : List α) : Prop :=
  RL t B news m ∧ ∀ e ei st, ei.size = t.sz → Rd B A st → evNews P e ei (some X) v st = some (m.length, news)
theorem Src.o {v : AV} {b i : Nat} {nl : Bool} {cs : List AV} {m : List α} (hX : SlT P X t z y) (h : OSl t B v b nl cs m) (hA : A[i]? = some (oe b nl cs)) : Src P t X B A v cs m := by
  obtain ⟨ti, e, ei, h1, h2, _⟩ := hX.ex
  obtain ⟨⟨sz, mc, rfl, g1, g2⟩, g3, g4⟩ := h
  refine ⟨g4, fun e' ei' st hsz hr => ?_⟩
  simp only [evNews, h1, h2, Option.bind_some]
  by_cases hm : m.length = 0
  · have : m = [] := List.eq_nil_of_length_eq_zero hm
    subst this
    simp only [RL] at g4
    rw [if_pos hm, g4]; rfl
  · have hnl : nl = false := by cases nl with
      | true => exact absurd (by rw [g3 rfl]; rfl) hm
      | false => rfl
    subst hnl
    rw [if_neg hm, need_pos ((g2 rfl).trans hsz.symm), hr.ro (List.mem_of_getElem? hA), Option.bind_some, need_pos (by rw [g4.len, g2 rfl]; omega), List.drop_zero, g2 rfl, ← g4.len, List.take_length]
theorem Src.r {v : AV} {m : List α} (hX : SlT P X t z y) (h : RSl t B v m) : ∃ cs, ∀ A, Src P t X B A v cs m := by
  obtain ⟨ti, e, ei, h1, h2, _⟩ := hX.ex
  obtain ⟨sz, b, off, mc, nl, rfl, g1, g2, g3, g4⟩ := h
  by_cases hm : m = []
  · subst hm
    refine ⟨[], fun A => ⟨rfl, fun e' ei' st hsz hr => ?_⟩⟩
    simp only [evNews, h1, h2, Option.bind_some]
    rfl
  · obtain ⟨blk, rw', c1, c2, c3⟩ := g4 hm
    have hnl : nl = false := by cases nl with
      | true => exact absurd (g2 rfl) hm
      | false => rfl
    refine ⟨_, fun A => ⟨c3, fun e' ei' st hsz hr => ?_⟩⟩
    simp only [evNews, h1, h2, Option.bind_some]
    rw [if_neg (fun e => hm (List.eq_nil_of_length_eq_zero e)), need_pos ((g3 hnl).trans hsz.symm), hr.rd c1, Option.bind_some, need_pos (by rw [g3 hnl]; omega), g3 hnl]
def appL (n : Nat) (l m : List α) : Option (List α) := if l.length + m.length ≤ n then some (l ++ m) else none
theorem appL_some {n : Nat} {l m r : List α} (h : appL n l m = some r) : l.length + m.length ≤ n ∧ r = l ++ m := by
  unfold appL at h
  split at h
  · exact ⟨‹_›, (Option.some.inj h).symm⟩
  · cases h
def AppQ (t : Ty α) (B : Kn) (l : List α) (cs : List AV) (F : Nat × Option OV → Own) : AV → Own → Prop := fun v A' => ∃ b nl, OSl t B v b nl cs l ∧ A' = F (oe b nl cs)
theorem MOp.app {c : Call} {s x : Operand} {b n : Nat} {nl : Bool} {cs news : List AV} {l m r : List α} {F : Nat × Option OV → Own} (h1 : c.callee = .builtin .append) (h2 : c.argTypes.toList = [T, X]) (h3 : c.args.toList = [s, x])
    (ht : SlT P T t z y) (ho : OSl t B (fr.ev s) b nl cs l) (hx : Src P t X B A (fr.ev x) news m) (hr : appL n l m = some r) (hn : Nat.ble (n * y) 140737488355328 = true) (hn2 : Nat.ble n 9223372036854775807 = true) (hu : ∀ e, Upd (oe b nl cs) e A (F e)) :
    MOp P (.call c) fr B A L (AppQ t B r (cs ++ news) F) := fun st hl hp => by
  obtain ⟨ti, e, ei, e1, e2, e3, e4, e5, e6, e7⟩ := ht.ex
  obtain ⟨hlen, rfl⟩ := appL_some hr
  have hx1 := hx.1
  have hx2 := hx.2 e ei st e4 hp.loc
  obtain ⟨⟨sz, mc, hv, g1, g2⟩, g3, g4⟩ := ho
  have hb1 : (l.length + m.length) * ei.bytes ≤ 140737488355328 := Nat.le_trans (Nat.mul_le_mul_right _ hlen) (by rw [e7]; exact Nat.le_of_ble_eq_true hn)
  have hb2 : l.length + m.length ≤ 9223372036854775807 := Nat.le_trans hlen (Nat.le_of_ble_eq_true hn2)
  have hev : evOp P (.call c) fr st = evAppend P [T, X] (.sl sz b 0 l.length mc nl) (fr.ev x) st := by
    simp only [evOp, h1, h2, h3, List.map_cons, List.map_nil, hv, evBuiltin]
  rw [hev]
  simp only [evAppend, e1, e2, e3, e5, Option.bind_some, List.head?_cons, hx2]
  rw [need_pos ⟨hb1, hb2, e6.trans e4.symm⟩]
  have hrl := g4.append hx1
  have hul := hu (oe b nl cs)
  cases nl with
  | true =>
    have := g3 rfl
    subst this
    simp only [RL] at g4
    subst g4
    rw [if_pos rfl]
    by_cases hm : m.length = 0
    · have : m = [] := List.eq_nil_of_length_eq_zero hm
      subst this
      have hnil : news = [] := by simpa [RL] using hx1
      subst hnil
      refine ⟨_, _, _, rfl, lw_pushO hl _, ?_, st.n, true, ⟨⟨ei.size, 0, rfl, Nat.le_refl _, by simp⟩, by simp, rfl⟩, rfl⟩
      exact (Upd.none ((hu (oe st.n true [])).app L) hp).pushNone hl
    · rw [if_neg hm, pushO_some]
      refine ⟨_, _, _, rfl, lw_push hl _, ?_, st.n, false, ⟨⟨ei.size, m.length, ?_, by simp, fun _ => e4⟩, by simp, by simpa using hx1⟩, rfl⟩
      · exact Upd.mv ((hu (oe st.n false news)).app L) hp hl (fun i hi _ => push_get_old hi) (push_get_new rfl)
      · simp [hm]
  | false =>
    have hmem : (b, some (OV.c cs)) ∈ A ++ L := List.mem_append_left _ (hu (b, some (OV.c cs))).mem
    have hsz := g2 rfl
    have hcl := g4.len
    rw [if_neg (by simp), if_pos hx1.one, hp.rd.wr hmem, Option.bind_some, need_pos (hsz.trans e4.symm)]
    by_cases hin : l.length + m.length ≤ mc ∧ 0 + (l.length + m.length) * sz ≤ cs.length
    · rw [if_pos hin]
      have hnl : news = [] := by
        refine List.eq_nil_of_length_eq_zero ?_
        have h1 := hin.2
        rw [hcl, hsz, Nat.add_mul] at h1
        rw [hx1.len]; omega
      subst hnl
      refine ⟨_, _, _, rfl, lw_set hl (o' := .blk cs true) (hp.lt hl hmem) _, ?_, b, false, ⟨⟨sz, mc, by rw [List.length_append], by rw [List.length_append]; exact hin.1, fun _ => hsz⟩, by simp, by simpa using hrl⟩, rfl⟩
      have : setL cs (0 + l.length * sz) [] = cs := rfl
      rw [this, List.append_nil]
      exact ((hu (b, some (OV.c cs))).app L).hp hp (fun i hi => set_get_old hi) (set_get_new rfl)
    · rw [if_neg hin, need_pos (by rw [hcl, hsz]; omega), List.drop_zero]
      refine ⟨_, _, _, rfl, lw_push (lw_kill hl b) _, ?_, st.n, false, ⟨⟨sz, l.length + m.length, by rw [List.length_append], by rw [List.length_append]; exact Nat.le_refl _, fun _ => hsz⟩, by simp, hrl⟩, rfl⟩
      refine Upd.mv ((hu (oe st.n false (cs ++ news))).app L) hp hl (fun i hi hne => ?_) (push_get_new rfl)
      exact (push_get_old (s := st.kill b) hi).trans (kill_get_old (fun e => hne cs (by rw [e]; rfl)))
end app
def CS (B : Kn) (L : Own) (Q : AV → Prop) : AV → St → Prop := fun v s => Hp B L s ∧ Q v
def C0 (B : Kn) (L : Own) (Q : Kn → AV → Prop) : AV → St → Prop := fun v s => ∃ B', KLe B B' ∧ Hp B' L s ∧ Q B' v
def C1 (B : Kn) (L : Own) (Q : Kn → AV → Nat × Option OV → Prop) : AV → St → Prop := fun v s => ∃ B' e, KLe B B' ∧ Hp B' (e :: L) s ∧ Q B' v e
def C2 (B : Kn) (L : Own) (Q : Kn → AV → Nat × Option OV → Nat × Option OV → Prop) : AV → St → Prop := fun v s => ∃ B' e e', KLe B B' ∧ Hp B' (e :: e' :: L) s ∧ Q B' v e e'
section calls
variable {d : Option Nat} {c : Call} {ty : TypeId} {ps : String} {af : Array Edge} {g : Option (Nat × Bool)} {rest : List Oper} {gop : Operand} {f : FuncId} {first cap args : List AV} {i : Nat} {r : Plan}
theorem WO.cS {Q : AV → Prop} (hc : c.callee = .value gop) (hg : fr.ev gop = .fn (.func f) first cap) (hs : ∀ st, Hp B (A ++ L) st → ASpec P f args st (CS B (A ++ L) Q)) (ha : first ++ c.args.toList.map fr.ev ++ cap = args) (hw : wantedA ops.toList fr ⟨d, .call c, ty, ps, af, g⟩ = some true) (hd : dstOk N d = true)
    (h : ∀ v, Q v → WO P N n0 ops rest R k (fr.put d v) B A L) : WO P N n0 ops (⟨d, .call c, ty, ps, af, g⟩ :: rest) R k fr B A L := fun st hl hp =>
  AOps.call rfl hc hw hg ha hd ((hs st hp).lw.mono fun v s ⟨⟨h1, h2⟩, h3⟩ => h v h2 s h3 h1)
theorem WO.c0 {Q : Kn → AV → Prop} (hc : c.callee = .value gop) (hg : fr.ev gop = .fn (.func f) first cap) (hs : ∀ st, Hp B (A ++ L) st → ASpec P f args st (C0 B (A ++ L) Q)) (ha : first ++ c.args.toList.map fr.ev ++ cap = args) (hw : wantedA ops.toList fr ⟨d, .call c, ty, ps, af, g⟩ = some true) (hd : dstOk N d = true)
    (h : ∀ v B', KLe B B' → Q B' v → WO P N n0 ops rest R k (fr.put d v) B' A L) : WO P N n0 ops (⟨d, .call c, ty, ps, af, g⟩ :: rest) R k fr B A L := fun st hl hp =>
  AOps.call rfl hc hw hg ha hd ((hs st hp).lw.mono fun v s ⟨⟨B', h0, h1, h2⟩, h3⟩ => h v B' h0 h2 s h3 h1)
theorem WO.c1 {Q : Kn → AV → Nat × Option OV → Prop} (hc : c.callee = .value gop) (hg : fr.ev gop = .fn (.func f) first cap) (hs : ∀ st, Hp B (A ++ L) st → ASpec P f args st (C1 B (A ++ L) Q)) (ha : first ++ c.args.toList.map fr.ev ++ cap = args) (hw : wantedA ops.toList fr ⟨d, .call c, ty, ps, af, g⟩ = some true) (hd : dstOk N d = true)
    (h : ∀ v B' e, KLe B B' → Q B' v e → WO P N n0 ops rest R k (fr.put d v) B' (e :: A) L) : WO P N n0 ops (⟨d, .call c, ty, ps, af, g⟩ :: rest) R k fr B A L := fun st hl hp =>
  AOps.call rfl hc hw hg ha hd ((hs st hp).lw.mono fun v s ⟨⟨B', e, h0, h1, h2⟩, h3⟩ => h v B' e h0 h2 s h3 h1)
theorem WO.c2 {Q : Kn → AV → Nat × Option OV → Nat × Option OV → Prop} (hc : c.callee = .value gop) (hg : fr.ev gop = .fn (.func f) first cap) (hs : ∀ st, Hp B (A ++ L) st → ASpec P f args st (C2 B (A ++ L) Q)) (ha : first ++ c.args.toList.map fr.ev ++ cap = args) (hw : wantedA ops.toList fr ⟨d, .call c, ty, ps, af, g⟩ = some true) (hd : dstOk N d = true)
    (h : ∀ v B' e e', KLe B B' → Q B' v e e' → WO P N n0 ops rest R k (fr.put d v) B' (e :: e' :: A) L) : WO P N n0 ops (⟨d, .call c, ty, ps, af, g⟩ :: rest) R k fr B A L := fun st hl hp =>
  AOps.call rfl hc hw hg ha hd ((hs st hp).lw.mono fun v s ⟨⟨B', e, e', h0, h1, h2⟩, h3⟩ => h v B' e e' h0 h2 s h3 h1)
theorem APl.grow {K K' : St} {Q : Fr → St → Prop} {plan : Plan} {st : St} (hk : Kp K K') (h : APl P N ops K' Q plan fr st) : APl P N ops K Q plan fr st := fun listed => ⟨fun hp => AAny.grow hk ((h listed).1 hp), fun hp => ABr.grow hk ((h listed).2 hp)⟩
where
  AAny.grow {K K' : St} {Q : Fr → St → Prop} (hk : Kp K K') : ∀ {n : Nat} {listed : Array Bool} {fr : Fr} {st : St}, AAny P N ops K' Q n listed fr st → AAny P N ops K Q n listed fr st
    | 0, _, _, _, h => h
    | n + 1, _, _, _, h => ⟨h.1, fun j hj => by
      have := h.2 j hj
      unfold AStepI at this ⊢
      split
      · rename_i ho
        rw [ho] at this
        exact ⟨fun e => fun b cs hb => this.1 e b cs (hk b cs hb), AAny.grow hk this.2⟩
      · rename_i o ho
        rw [ho] at this
        exact this.mono fun f s hs => ⟨fun e b cs hb => hs.1 e b cs (hk b cs hb), AAny.grow hk hs.2⟩⟩
  ABr.grow {K K' : St} {Q : Fr → St → Prop} (hk : Kp K K') {listed : Array Bool} {fr : Fr} {st : St} : ∀ {p : Plan}, ABr P N ops K' Q listed p fr st → ABr P N ops K Q listed p fr st
    | .nil, _ => trivial
    | .alt _ _, h => ⟨ABr.grow hk h.1, ABr.grow hk h.2⟩
    | .one i r, h => by
      have this : AStepI P N ops i fr st _ := h
      show AStepI P N ops i fr st _
      unfold AStepI at this ⊢
      split
      · rename_i ho
        rw [ho] at this
        exact ⟨fun e => fun b cs hb => this.1 e b cs (hk b cs hb), AAny.grow hk this.2⟩
      · rename_i o ho
        rw [ho] at this
        exact this.mono fun f s hs => ⟨fun e => fun b cs hb => hs.1 e b cs (hk b cs hb), AAny.grow hk hs.2⟩
theorem Kp.kofs {B' : Kn} {L' : Own} {st : St} (hB : KLe B B') (h : Hp B' L' st) (hs : ∀ e ∈ M, e ∈ L') : Kp (Kof B M) (Kof B' M) := Kp.kof ((Rd.kof h hs).le hB)
theorem WP.cS {Q : AV → Prop} (hi : ops.toList[i]? = some ⟨d, .call c, ty, ps, af, g⟩) (hc : c.callee = .value gop) (hg : fr.ev gop = .fn (.func f) first cap) (hs : ∀ st, Hp B (A ++ L) st → ASpec P f args st (CS B (A ++ L) Q)) (ha : first ++ c.args.toList.map fr.ev ++ cap = args) (hw : wantedA ops.toList fr ⟨d, .call c, ty, ps, af, g⟩ = some true) (hd : dstOk N d = true)
    (h : ∀ v, Q v → WP P N n0 ops r R k (fr.put d v) B A L M) : WP P N n0 ops (.one i r) R k fr B A L M := fun hsub st hl hp =>
  APl.call hi rfl hc hw hg ha hd ((hs st hp).lw.mono fun v s ⟨⟨h1, h2⟩, h3⟩ => ⟨.inr (h1.kpm hsub), h v h2 hsub s h3 h1⟩)
theorem WP.c0 {Q : Kn → AV → Prop} (hi : ops.toList[i]? = some ⟨d, .call c, ty, ps, af, g⟩) (hc : c.callee = .value gop) (hg : fr.ev gop = .fn (.func f) first cap) (hs : ∀ st, Hp B (A ++ L) st → ASpec P f args st (C0 B (A ++ L) Q)) (ha : first ++ c.args.toList.map fr.ev ++ cap = args) (hw : wantedA ops.toList fr ⟨d, .call c, ty, ps, af, g⟩ = some true) (hd : dstOk N d = true)
    (h : ∀ v B', KLe B B' → Q B' v → WP P N n0 ops r R k (fr.put d v) B' A L M) : WP P N n0 ops (.one i r) R k fr B A L M := fun hsub st hl hp =>
  APl.call hi rfl hc hw hg ha hd ((hs st hp).lw.mono fun v s ⟨⟨B', h0, h1, h2⟩, h3⟩ => ⟨.inr ((h1.le h0).kpm hsub), APl.grow (Kp.kofs h0 h1 hsub) (h v B' h0 h2 hsub s h3 h1)⟩)
theorem WP.c1 {Q : Kn → AV → Nat × Option OV → Prop} (hi : ops.toList[i]? = some ⟨d, .call c, ty, ps, af, g⟩) (hc : c.callee = .value gop) (hg : fr.ev gop = .fn (.func f) first cap) (hs : ∀ st, Hp B (A ++ L) st → ASpec P f args st (C1 B (A ++ L) Q)) (ha : first ++ c.args.toList.map fr.ev ++ cap = args) (hw : wantedA ops.toList fr ⟨d, .call c, ty, ps, af, g⟩ = some true) (hd : dstOk N d = true)
    (h : ∀ v B' e, KLe B B' → Q B' v e → WP P N n0 ops r R k (fr.put d v) B' (e :: A) L M) : WP P N n0 ops (.one i r) R k fr B A L M := fun hsub st hl hp =>
  APl.call hi rfl hc hw hg ha hd ((hs st hp).lw.mono fun v s ⟨⟨B', e, h0, h1, h2⟩, h3⟩ => by
    have hsub' : ∀ x ∈ M, x ∈ (e :: A) ++ L := fun x hx => List.mem_cons_of_mem _ (hsub x hx)
    exact ⟨.inr (Hp.kpm (L := (e :: A) ++ L) (h1.le h0) hsub'), APl.grow (Kp.kofs (L' := (e :: A) ++ L) h0 h1 hsub') (h v B' e h0 h2 hsub' s h3 h1)⟩)
theorem WP.c2 {Q : Kn → AV → Nat × Option OV → Nat × Option OV → Prop} (hi : ops.toList[i]? = some ⟨d, .call c, ty, ps, af, g⟩) (hc : c.callee = .value gop) (hg : fr.ev gop = .fn (.func f) first cap) (hs : ∀ st, Hp B (A ++ L) st → ASpec P f args st (C2 B (A ++ L) Q)) (ha : first ++ c.args.toList.map fr.ev ++ cap = args) (hw : wantedA ops.toList fr ⟨d, .call c, ty, ps, af, g⟩ = some true) (hd : dstOk N d = true)
    (h : ∀ v B' e e', KLe B B' → Q B' v e e' → WP P N n0 ops r R k (fr.put d v) B' (e :: e' :: A) L M) : WP P N n0 ops (.one i r) R k fr B A L M := fun hsub st hl hp =>
  APl.call hi rfl hc hw hg ha hd ((hs st hp).lw.mono fun v s ⟨⟨B', e, e', h0, h1, h2⟩, h3⟩ => by
    have hsub' : ∀ x ∈ M, x ∈ (e :: e' :: A) ++ L := fun x hx => List.mem_cons_of_mem _ (List.mem_cons_of_mem _ (hsub x hx))
    exact ⟨.inr (Hp.kpm (L := (e :: e' :: A) ++ L) (h1.le h0) hsub'), APl.grow (Kp.kofs (L' := (e :: e' :: A) ++ L) h0 h1 hsub') (h v B' e e' h0 h2 hsub' s h3 h1)⟩)
theorem lendC {α : Type} {t : Ty α} {v : AV} {b j : Nat} {nl : Bool} {cs : List AV} {l : List α} {Q : AV → Prop} (ho : OSl t B v b nl cs l) (hA : A[j]? = some (oe b nl cs)) (h : ∀ B1, KLe B B1 → RSl t B1 v l → ∀ st, Hp B1 (A.eraseIdx j ++ L) st → ASpec P f args st (CS B1 (A.eraseIdx j ++ L) Q)) :
    ∀ st, Hp B (A ++ L) st → ASpec P f args st (CS B (A ++ L) Q) := fun st hp => by
  obtain ⟨B1, h1, h2, h3, h4⟩ := (hp.out hA).lendS ho
  exact (h B1 h1 h3 st h2).mono fun v s ⟨a, b⟩ => ⟨(h4 B1 s (.refl _) a).into hA, b⟩
end calls
section give
variable {α : Type} {t : Ty α} {v : AV} {b j : Nat} {nl : Bool} {cs : List AV} {l : List α} {rest : List Oper} {r : Plan}
theorem WX.fz (ho : OSl t B v b nl cs l) (hA : A[j]? = some (oe b nl cs)) (h : ∀ B', KLe B B' → RSl t B' v l → WX P N n0 R k fr B' (A.eraseIdx j) L) : WX P N n0 R k fr B A L := fun st hl hp => by
  obtain ⟨B1, h1, h2, h3⟩ := (hp.out hA).freezeS ho
  exact h B1 h1 h3 st hl h2
theorem WO.fz (ho : OSl t B v b nl cs l) (hA : A[j]? = some (oe b nl cs)) (h : ∀ B', KLe B B' → RSl t B' v l → WO P N n0 ops rest R k fr B' (A.eraseIdx j) L) : WO P N n0 ops rest R k fr B A L := fun st hl hp => by
  obtain ⟨B1, h1, h2, h3⟩ := (hp.out hA).freezeS ho
  exact h B1 h1 h3 st hl h2
theorem WP.fz (ho : OSl t B v b nl cs l) (hA : A[j]? = some (oe b nl cs)) (hs : ∀ e ∈ M, e ∈ A ++ L → e ∈ A.eraseIdx j ++ L) (h : ∀ B', KLe B B' → RSl t B' v l → WP P N n0 ops r R k fr B' (A.eraseIdx j) L M) : WP P N n0 ops r R k fr B A L M := fun hsub st hl hp => by
  obtain ⟨B1, h1, h2, h3⟩ := (hp.out hA).freezeS ho
  exact APl.grow (Kp.kofs h1 h2 fun e he => hs e he (hsub e he)) (h B1 h1 h3 (fun e he => hs e he (hsub e he)) st hl h2)
theorem WX.pk (is : List Nat) (hn : is.Nodup) (h : WX P N n0 R k fr B (Gab.pk is A) L) : WX P N n0 R k fr B A L := fun st hl hp => h st hl (hp.pk is hn)
end give
theorem WX.seq {x y : Code} (h : WX P N n0 R (.code x :: .code y :: k) fr B A L) : WX P N n0 R (.code (.seq x y) :: k) fr B A L := fun st hl hp => AX.seq (h st hl hp)
theorem WX.skip (h : WX P N n0 R k fr B A L) : WX P N n0 R (.code .skip :: k) fr B A L := fun st hl hp => AX.skip (h st hl hp)
theorem WX.block {id : Nat} {c : Code} (h : WX P N n0 R (.code c :: .blk id :: k) fr B A L) : WX P N n0 R (.code (.block id c) :: k) fr B A L := fun st hl hp => AX.block (h st hl hp)
theorem WX.pop {id : Nat} (h : WX P N n0 R k fr B A L) : WX P N n0 R (.blk id :: k) fr B A L := fun st hl hp => AX.pop (h st hl hp)
theorem WX.loop {c : Code} (h : WX P N n0 R (.code c :: .lp c :: k) fr B A L) : WX P N n0 R (.code (.loop c) :: k) fr B A L := fun st hl hp => AX.loop (h st hl hp)
theorem WX.lp {c : Code} (h : WX P N n0 R (.code c :: .lp c :: k) fr B A L) : WX P N n0 R (.lp c :: k) fr B A L := fun st hl hp => AX.lp (h st hl hp)
theorem WX.cond {c : Operand} {x y : Code} {b : Bool} (hc : fr.ev c = .bool b) (ht : b = true → WX P N n0 R (.code x :: k) fr B A L) (hf : b = false → WX P N n0 R (.code y :: k) fr B A L) : WX P N n0 R (.code (.cond c x y) :: k) fr B A L := fun st hl hp =>
  AX.condB hc (fun e => ht e st hl hp) (fun e => hf e st hl hp)
def unw (id : Nat) : List It → Option (List It)
  | [] => none
  | .blk i :: k => if id = i then some k else unw id k
  | .code _ :: k => unw id k
  | .lp _ :: k => unw id k
theorem AX.unw {id : Nat} {st : St} : ∀ {k k' : List It}, Gab.unw id k = some k' → AX P N n0 R k' .normal fr st → AX P N n0 R k (.exit id) fr st
  | .blk i :: k, k', h, hx => by
    unfold Gab.unw at h
    rw [AX.blk_exit]
    split at h
    · rename_i e; cases h; rw [if_pos e]; exact hx
    · rename_i e; rw [if_neg e]; exact AX.unw h hx
  | .code _ :: k, k', h, hx => by rw [AX.code_exit]; exact AX.unw (k := k) h hx
  | .lp _ :: k, k', h, hx => by rw [AX.lp_exit]; exact AX.unw (k := k) h hx
theorem WX.exit {id : Nat} {k' : List It} (hk : Gab.unw id k = some k') (h : WX P N n0 R k' fr B A L) : WX P N n0 R (.code (.exit id) :: k) fr B A L := fun st hl hp => AX.exit (AX.unw hk (h st hl hp))
theorem AX.retk {st : St} : ∀ {k : List It}, R .ret fr st → AX P N n0 R k .ret fr st
  | [], h => h
  | .blk _ :: k, h => by rw [AX.blk_ret]; exact AX.retk h
  | .code _ :: k, h => by rw [AX.code_ret]; exact AX.retk h
  | .lp _ :: k, h => by rw [AX.lp_ret]; exact AX.retk h
theorem WX.ret {rs : List ResultVar} {Q : AV → St → Prop} {v : AV} (hv : ∀ st, Rd B A st → evResults P rs fr st = some v) (h : ∀ st, Hp B (A ++ L) st → Q v st) : WX P N n0 (Fin P rs n0 Q) (.code .ret :: k) fr B A L := fun st hl hp =>
  AX.ret (AX.retk ⟨.inr rfl, v, hv st hp.loc, v, st, LeV.refl, h st hp⟩)
theorem WX.fin {rs : List ResultVar} {Q : AV → St → Prop} {v : AV} (hv : ∀ st, Rd B A st → evResults P rs fr st = some v) (h : ∀ st, Hp B (A ++ L) st → Q v st) : WX P N n0 (Fin P rs n0 Q) [] fr B A L := fun st hl hp =>
  ⟨.inl rfl, v, hv st hp.loc, v, st, LeV.refl, h st hp⟩
theorem rs_ {rs : List ResultVar} {l : List AV} (h : ∀ st, Rd B A st → evRess P fr st rs = some l) : ∀ st, Rd B A st → evResults P rs fr st = some (tupOf l) := fun st hr => by simp only [evResults, h st hr, Option.bind_some]
theorem rs_nil : ∀ st, Rd B A st → evRess P fr st [] = some [] := fun _ _ => rfl
theorem rs_tmp {t : Nat} {v : AV} {rs : List ResultVar} {l : List AV} (hv : Fr.get fr t = v) (h : ∀ st, Rd B A st → evRess P fr st rs = some l) : ∀ st, Rd B A st → evRess P fr st (.tmp t :: rs) = some (v :: l) := fun st hr => by
  simp only [evRess, evRes1, hv, Option.bind_some, h st hr]
theorem rs_cell {t a : Nat} {v : AV} {rs : List ResultVar} {l : List AV} (hv : QOp P (.load t (.tmp a)) fr B A v) (h : ∀ st, Rd B A st → evRess P fr st rs = some l) : ∀ st, Rd B A st → evRess P fr st (.cell a t :: rs) = some (v :: l) := fun st hr => by
  have h1 := hv st hr
  simp only [evOp, fr_ev_tmp] at h1
  cases he : evLoad P t (Fr.get fr a) st with
  | none => rw [he] at h1; cases h1
  | some u =>
    rw [he] at h1
    simp only [Option.bind_some, Option.some.injEq, Prod.mk.injEq, and_true] at h1
    subst h1
    simp only [evRess, evRes1, he, Option.bind_some, h st hr]
theorem frel_keep (ks : List Nat) {st : St} : Le N n0 fr st (Fr.keep ks fr) st := fun ρ w tmps hn hr hf => ⟨ρ, hr, ⟨hf.1, fun t => by
  rw [Fr.keep_get]
  split
  · exact hf.2 t
  · trivial⟩, .refl ..⟩
theorem WX.keep {c : Code} (ks : List Nat) {fr2 : Fr} (h : WX P N n0 R (.code c :: k) fr2 B A L) (he : Fr.keep ks fr = fr2) : WX P N n0 R (.code c :: k) fr B A L := fun st hl hp => AX.weaken (he ▸ frel_keep ks) (h st hl hp)
theorem WX.keepL {c : Code} (ks : List Nat) {fr2 : Fr} (h : WX P N n0 R (.lp c :: k) fr2 B A L) (he : Fr.keep ks fr = fr2) : WX P N n0 R (.lp c :: k) fr B A L := fun st hl hp => AX.weaken_lp (he ▸ frel_keep ks) (h st hl hp)
theorem body {f : FuncId} {fn : Func} {c : Code} {args : List AV} {Q : AV → St → Prop} (hf : P.funcs[f]? = some fn) (hname : (fn.name == "runtime.NumGoroutine") = false) (hb : fn.body = some c) (hN : fn.ntmps = N) (hle : args.length ≤ N)
    (h : ∀ n0, WX P N n0 (Fin P fn.results.toList n0 Q) [.code c] (enumFr 0 args) B [] L) : ∀ st, Hp B L st → ASpec P f args st Q := fun st hp =>
  ASpec.bodyX hf hname hb hN hle fun hwf _ => h st.n st hwf.lw hp
def iter {σ ε : Type} (step : σ → Option (σ ⊕ ε)) : Nat → σ → Option ε
  | 0, _ => none
  | d + 1, s => (step s).bind fun o => match o with
    | .inl s' => iter step d s'
    | .inr e => some e
def on {α β γ : Type} (e : α ⊕ β) (f : α → γ) (g : β → γ) : γ := match e with
  | .inl x => f x
  | .inr y => g y
theorem on_l {α β γ : Type} {x : α} {f : α → γ} {g : β → γ} {z : γ} (h : on (.inl x) f g = z) : f x = z := h
theorem on_r {α β γ : Type} {x : β} {f : α → γ} {g : β → γ} {z : γ} (h : on (.inr x) f g = z) : g x = z := h
def WXI (P : Program) (N n0 : Nat) (R : Post) (k : List It) (I : Fr → Kn → Own → Prop) (L : Own) : Prop := ∀ fr B A, I fr B A → WX P N n0 R k fr B A L
theorem iter_ok {σ ε : Type} {step : σ → Option (σ ⊕ ε)} {I : σ → Fr → Kn → Own → Prop} {D : ε → Prop} {c : Code}
    (hs : ∀ E : σ ⊕ ε → Prop, (∀ s, E (.inl s) → WXI P N n0 R (.lp c :: k) (I s) L) → (∀ e, E (.inr e) → D e) → ∀ s o, step s = some o → E o → WXI P N n0 R (.code c :: .lp c :: k) (I s) L) :
    ∀ {d : Nat} {s : σ} {e : ε}, iter step d s = some e → D e → WXI P N n0 R (.code c :: .lp c :: k) (I s) L
  | 0, _, _, h, _ => by cases h
  | d + 1, s, e, h, hD => by
    obtain ⟨o, ho, h⟩ := Option.bind_eq_some_iff.1 h
    refine hs (fun o => match o with
      | .inl s' => iter step d s' = some e
      | .inr e' => e' = e) (fun s' hs' fr B A hI => WX.lp (iter_ok hs hs' hD fr B A hI)) (fun e' he => by cases he; exact hD) s o ho ?_
    cases o with
    | inl s' => exact h
    | inr e' => exact Option.some.inj h
theorem bsp (b : Bool) : b = true ∨ b = false := by cases b <;> simp
theorem bnt {b : Bool} (h : b = false) : ¬ b = true := by rw [h]; exact Bool.false_ne_true
theorem t_not {b : Bool} (h : b = false) : (!b) = true := by rw [h]; rfl
theorem f_not {b : Bool} (h : b = true) : (!b) = false := by rw [h]; rfl
theorem WX.condT {c : Operand} {x y : Code} {b : Bool} (hc : fr.ev c = .bool b) (hb : b = true) (h : WX P N n0 R (.code x :: k) fr B A L) : WX P N n0 R (.code (.cond c x y) :: k) fr B A L := WX.cond hc (fun _ => h) (fun e => by rw [hb] at e; cases e)
theorem WX.condF {c : Operand} {x y : Code} {b : Bool} (hc : fr.ev c = .bool b) (hb : b = false) (h : WX P N n0 R (.code y :: k) fr B A L) : WX P N n0 R (.code (.cond c x y) :: k) fr B A L := WX.cond hc (fun e => by rw [hb] at e; cases e) (fun _ => h)
theorem RL.cons {α : Type} {t : Ty α} {c r : List AV} {x : α} {l : List α} (h : t.R B c x) (h' : RL t B r l) : RL t B (c ++ r) (x :: l) := ⟨c, r, rfl, h, h'⟩
theorem RL.nil {α : Type} {t : Ty α} : RL t B [] ([] : List α) := rfl
theorem Ri {kd : IntKind} {x : Int} : (Ty.int kd).R B [.int kd x] x := rfl
theorem Rb {x : Bool} : Ty.bool.R B [.bool x] x := rfl
theorem Rs {x : List UInt8} : Ty.str.R B [.str x] x := rfl
theorem Rl {α : Type} {t : Ty α} {v : AV} {x : List α} (h : RSl t B v x) : (Ty.slice t).R B [v] x := ⟨v, rfl, h⟩
theorem Rp {α β : Type} {s : Ty α} {t : Ty β} {c d : List AV} {x : α} {y : β} (h : s.R B c x) (h' : t.R B d y) : (Ty.pair s t).R B (c ++ d) (x, y) := ⟨c, d, rfl, h, h'⟩
section tgt
variable {d : Nat} {op : Op} {ty : TypeId} {ps : String} {af : Array Edge} {g : Option (Nat × Bool)} {rest : List Oper} {i : Nat} {r : Plan}
theorem WO.md {Q : AV → Own → Prop} (hm : MOp P op fr B A L Q) (hw : wantedA ops.toList fr ⟨some d, op, ty, ps, af, g⟩ = some true) (hd : dstOk N (some d) = true)
    (h : ∀ v A', Q v A' → WO P N n0 ops rest R k ((d, v) :: fr) B A' L) : WO P N n0 ops (⟨some d, op, ty, ps, af, g⟩ :: rest) R k fr B A L := WO.m hm hw hd h
theorem WO.mn {Q : AV → Own → Prop} (hm : MOp P op fr B A L Q) (hw : wantedA ops.toList fr ⟨none, op, ty, ps, af, g⟩ = some true)
    (h : ∀ v A', Q v A' → WO P N n0 ops rest R k fr B A' L) : WO P N n0 ops (⟨none, op, ty, ps, af, g⟩ :: rest) R k fr B A L := WO.m hm hw rfl h
theorem WO.sd (hw : wantedA ops.toList fr ⟨some d, op, ty, ps, af, g⟩ = some false) (hd : dstOk N (some d) = true)
    (h : WO P N n0 ops rest R k ((d, .tup []) :: fr) B A L) : WO P N n0 ops (⟨some d, op, ty, ps, af, g⟩ :: rest) R k fr B A L := WO.sk hw hd h
theorem WP.md {Q : AV → Own → Prop} (hi : ops.toList[i]? = some ⟨some d, op, ty, ps, af, g⟩) (hm : MOp P op fr B A L Q) (hQ : isQ P op = false) (hw : wantedA ops.toList fr ⟨some d, op, ty, ps, af, g⟩ = some true) (hd : dstOk N (some d) = true)
    (h : ∀ v A', Q v A' → (∀ e ∈ M, e ∈ A ++ L → e ∈ A' ++ L) ∧ WP P N n0 ops r R k ((d, v) :: fr) B A' L M) : WP P N n0 ops (.one i r) R k fr B A L M :=
  WP.m hi hm hQ hw hd (fun v A' hq hs e he => (h v A' hq).1 e he (hs e he)) fun v A' hq => (h v A' hq).2
theorem WP.sd (hi : ops.toList[i]? = some ⟨some d, op, ty, ps, af, g⟩) (hQ : isQ P op = false) (hw : wantedA ops.toList fr ⟨some d, op, ty, ps, af, g⟩ = some false) (hd : dstOk N (some d) = true)
    (h : WP P N n0 ops r R k ((d, .tup []) :: fr) B A L M) : WP P N n0 ops (.one i r) R k fr B A L M := WP.skm hi hQ hw hd h
theorem WP.mn {Q : AV → Own → Prop} (hi : ops.toList[i]? = some ⟨none, op, ty, ps, af, g⟩) (hm : MOp P op fr B A L Q) (hQ : isQ P op = false) (hw : wantedA ops.toList fr ⟨none, op, ty, ps, af, g⟩ = some true)
    (h : ∀ v A', Q v A' → (∀ e ∈ M, e ∈ A ++ L → e ∈ A' ++ L) ∧ WP P N n0 ops r R k fr B A' L M) : WP P N n0 ops (.one i r) R k fr B A L M :=
  WP.m hi hm hQ hw rfl (fun v A' hq hs e he => (h v A' hq).1 e he (hs e he)) fun v A' hq => (h v A' hq).2
end tgt
end
end Gab
end
section
set_option linter.unusedVariables false
namespace Gab
open Go
abbrev wi64 (n : Int) : Int := IntKind.wrap .i64 n
abbrev wu16 (n : Int) : Int := IntKind.wrap .u16 n
abbrev shlK (k : IntKind) (a b : Int) : Int := k.wrap (a * 2 ^ (min b.toNat k.bits))
abbrev mn (x y : Int) : Int := if y < x then y else x
abbrev mx (x y : Int) : Int := if x < y then y else x
def ifS {α : Type} (c : Prop) [Decidable c] (x : Option α) : Option α := if c then x else none
theorem ifS_some {α : Type} {c : Prop} [Decidable c] {x : Option α} {r : α} (h : ifS c x = some r) : c ∧ x = some r := by
  unfold ifS at h
  split at h
  · exact ⟨‹_›, h⟩
  · cases h
end Gab
namespace Gab
open Go
def idxB (l : List UInt8) (c : Int) : Int := firstIdx ⟨l.toArray⟩ c.toNat.toUInt8
theorem QOp.idxB {P : Program} {fr : Fr} {B : Kn} {A : Own} {c : Call} {g : Operand} {f : FuncId} {fn : Func} {l : List UInt8} {n : Int} (h1 : c.callee = .value g) (h2 : fr.ev g = .fn (.func f) [] []) (h3 : c.args.toList.map fr.ev = [.str l, .int .u8 n])
    (hf : P.funcs[f]? = some fn) (hn : (fn.name == "runtime.NumGoroutine") = false) (hb : fn.body.isNone = true) (hx : Extern.findNext fn = none) (he : Extern.find fn = some Extern.BytealgIndexByte.indexByte) : QOp P (.call c) fr B A (.int .i64 (Gab.idxB l n)) := fun st _ => by
  simp only [evOp, h1, h2, h3, evExt, hf, Option.bind_some]
  rw [if_pos ⟨hn, hb, hx, he⟩]; rfl
end Gab
namespace Gab
open Go
def sortE (l : List (List UInt8 × Int)) : List (List UInt8 × Int) := l.mergeSort fun a b => !Op.bytesLess b.1 a.1
def insBy {α : Type} (le : α → α → Bool) (x : α) : List α → List α
  | [] => [x]
  | y :: l => if le x y = true then x :: y :: l else y :: insBy le x l
def sortBy {α : Type} (le : α → α → Bool) : List α → List α
  | [] => []
  | x :: l => insBy le x (sortBy le l)
def sortI (l : List Int) : List Int := sortBy (fun a b => decide (a ≤ b)) l
def leP (a b : Int × List UInt8) : Bool := decide (a.1 < b.1) || (decide (a.1 = b.1) && !Op.bytesLess b.2 a.2)
def sortP (l : List (Int × List UInt8)) : List (Int × List UInt8) := sortBy leP l
def splitB : List UInt8 → List (List UInt8)
  | [] => [[]]
  | c :: r => if c = 47 then [] :: splitB r else match splitB r with
    | [] => [[c]]
    | x :: l => (c :: x) :: l
end Gab
end
section
set_option linter.unusedSimpArgs false
set_option linter.unusedVariables false
namespace Gab
open Go
theorem lb {a b : Nat} (h : Nat.ble a b = true) : a ≤ b := Nat.le_of_ble_eq_true h
def ct : List Nat → Code → Code
  | 0 :: p, .seq a _ => ct p a
  | 1 :: p, .seq _ b => ct p b
  | 0 :: p, .cond _ a _ => ct p a
  | 1 :: p, .cond _ _ b => ct p b
  | 0 :: p, .block _ a => ct p a
  | 0 :: p, .loop a => ct p a
  | _, c => c
def bodyOf (f : Func) : Code := f.body.getD .skip
section
variable {P : Program} {N n0 : Nat} {ops : Array Oper} {R : Post} {k : List It} {fr : Fr} {B : Kn} {A L M : Own}
theorem wgu {l : List Oper} {d : Option Nat} {op : Op} {ty : TypeId} {ps : String} {af : Array Edge} {j gd : Nat} {want : Bool} (hj : (l[j]?.bind (·.dst)) = some gd) (hb : Fr.get fr gd = .tup []) : wantedA l fr ⟨d, op, ty, ps, af, some (j, want)⟩ = some false := by
  simp only [wantedA, hj, Option.bind_some, hb]
theorem pk_in {M A' : Own} {jx : List Nat} (h : pk jx A' = M) : ∀ e ∈ M, e ∈ A' := fun e he => by
  subst h
  obtain ⟨i, _, hi⟩ := pk_mem he
  exact List.mem_of_getElem? hi
theorem pk_sub (is : List Nat) : ∀ e ∈ pk is A, e ∈ A := fun e he => by
  obtain ⟨i, _, hi⟩ := pk_mem he
  exact List.mem_of_getElem? hi
theorem bodyA {f : FuncId} {fn : Func} {c : Code} {args : List AV} {Q : AV → St → Prop} (hf : P.funcs[f]? = some fn) (hname : (fn.name == "runtime.NumGoroutine") = false) (hb : fn.body = some c) (hN : fn.ntmps = N) (hle : args.length ≤ N)
    (h : ∀ n0, WX P N n0 (Fin P fn.results.toList n0 Q) [.code c] (enumFr 0 args) B A L) : ∀ st, Hp B (A ++ L) st → ASpec P f args st Q := fun st hp =>
  ASpec.bodyX hf hname hb hN hle fun hwf _ => h st.n st hwf.lw hp
def ins : Nat → Own → Own
  | 0, A => (0, none) :: A
  | _ + 1, [] => [(0, none)]
  | n + 1, a :: A => a :: ins n A
def addn : List Nat → Own → Own
  | [], A => A
  | i :: r, A => addn r (ins i A)
theorem ins_perm : ∀ (n : Nat) (A : Own), ((0, none) :: A).Perm (ins n A)
  | 0, A => .refl _
  | _ + 1, [] => .refl _
  | n + 1, a :: A => (List.Perm.swap a _ A).trans ((ins_perm n A).cons a)
theorem Hp.addn : ∀ (is : List Nat) {A : Own} {st : St}, Hp B (A ++ L) st → Hp B (Gab.addn is A ++ L) st
  | [], _, _, h => h
  | i :: r, A, st, h => Hp.addn r (A := ins i A) ((h.skip 0).perm ((ins_perm i A).append_right L))
theorem WX.addn (is : List Nat) (h : WX P N n0 R k fr B (Gab.addn is A) L) : WX P N n0 R k fr B A L := fun st hl hp => h st hl (hp.addn is)
theorem WO.addn {l : List Oper} (h : WO P N n0 ops l R k fr B ((0, none) :: A) L) : WO P N n0 ops l R k fr B A L := fun st hl hp => h st hl (hp.skip 0)
theorem WP.addn {r : Plan} (h : WP P N n0 ops r R k fr B ((0, none) :: A) L M) : WP P N n0 ops r R k fr B A L M := fun hs st hl hp => h (fun e he => List.mem_cons_of_mem _ (hs e he)) st hl (hp.skip 0)
theorem _root_.Gab.QOp.mv {x : Operand} {v : AV} (h : fr.ev x = v) : QOp P (.move x) fr B A v := fun st _ => by simp only [evOp, h]
theorem _root_.Gab.QOp.as {x : Operand} {v : AV} (h : fr.ev x = v) : QOp P (.assign x) fr B A v := fun st _ => by simp only [evOp, h]
theorem _root_.Gab.QOp.ptv {c a b : Operand} {t : Bool} {v : AV} (hc : fr.ev c = .bool t) (ht : t = true) (hv : fr.ev a = v) : QOp P (.pick c a b) fr B A v := hv ▸ QOp.pt hc ht
theorem _root_.Gab.QOp.pfv {c a b : Operand} {t : Bool} {v : AV} (hc : fr.ev c = .bool t) (ht : t = false) (hv : fr.ev b = v) : QOp P (.pick c a b) fr B A v := hv ▸ QOp.pf hc ht
theorem cI {a : AV} {k : IntKind} {n : Int} (h : a = .int k n) : a.cells = some [.int k n] := by rw [h]; rfl
theorem cB {a : AV} {b : Bool} (h : a = .bool b) : a.cells = some [.bool b] := by rw [h]; rfl
theorem cS {a : AV} {l : List UInt8} (h : a = .str l) : a.cells = some [.str l] := by rw [h]; rfl
theorem cL {a : AV} {s b o n m : Nat} {nl : Bool} (h : a = .sl s b o n m nl) : a.cells = some [.sl s b o n m nl] := by rw [h]; rfl
theorem cA {a : AV} {l : List AV} (h : a = .agg l) : a.cells = some l := by rw [h]; rfl
section el
variable {α : Type} {t : Ty α} {T : TypeId} {z : List AV} {y : Nat} {v : AV} {l : List α} {b : Nat} {nl : Bool} {cs : List AV}
theorem OSl.nonnil (h : OSl t B v b nl cs l) {i : Int} {x : α} (hi : rd l i = some x) : nl = false := by
  cases nl with
  | false => rfl
  | true =>
    have := (rd_some hi).2
    rw [h.nil rfl] at this
    simp at this
def OEl (cs : List AV) (o : Nat) (ds : List AV) : Prop := ∀ j, j < ds.length → cs[o + j]? = ds[j]?
theorem OEl.g0 {o : Nat} {ds : List AV} {w : AV} (h : OEl cs o ds) (hv : ds[0]? = some w) : cs[o]? = some w := (h 0 (List.getElem?_eq_some_iff.1 hv).1).trans hv
theorem OEl.g {o f : Nat} {ds : List AV} {w : AV} (h : OEl cs o ds) (hv : ds[f]? = some w) : cs[o + f]? = some w := (h f (List.getElem?_eq_some_iff.1 hv).1).trans hv
theorem OEl.ld {o n : Nat} {ds : List AV} (h : OEl cs o ds) (hn : ds.length = n) : loadN cs o n = some ds := loadN_of hn h
theorem _root_.Gab.QOp.leA {x : Operand} {t : TypeId} {ti : TI} {b off i : Nat} {cs ds : List AV} (hx : fr.ev x = .ptr b off) (hA : A[i]? = some (b, some (OV.c cs))) (hl : OEl cs off ds) (ht : tinfo P t = some ti) (ha : ti.k.agg = true) (hsz : ds.length = ti.size) : QOp P (.load t x) fr B A (.agg ds) :=
  QOp.ldA hx hA (hl.ld hsz) ht ha
theorem OSl.at (h : OSl t B v b false cs l) (ht : SlT P T t z y) {i : Int} {x : α} (hi : rd l i = some x) (k : IntKind) : ∃ ds, evIndexAddr P T v (.int k i) = some (.ptr b (0 + i.toNat * t.sz)) ∧ OEl cs (0 + i.toNat * t.sz) ds ∧ t.R B ds x := by
  obtain ⟨ti, e, ei, h1, h2, h3, h4, _⟩ := ht.ex
  obtain ⟨⟨sz, mc, rfl, g1, g2⟩, g3, g4⟩ := h
  obtain ⟨i0, hx⟩ := rd_some hi
  have hlt := (List.getElem?_eq_some_iff.1 hx).1
  have hsz := g2 rfl
  refine ⟨(cs.drop (i.toNat * t.sz)).take t.sz, ?_, fun j hj => ?_, g4.get hx⟩
  · simp only [evIndexAddr, h1, h2, h3, Option.bind_some]
    rw [need_pos ⟨h4.trans hsz.symm, i0, by omega⟩, hsz]
  · have hj' : j < t.sz := by rw [List.length_take] at hj; omega
    rw [getElem?_take_drop hj', Nat.zero_add]
theorem setL_append : ∀ (vs pre cs post : List AV), vs.length = cs.length → setL (pre ++ (cs ++ post)) pre.length vs = pre ++ (vs ++ post)
  | [], pre, cs, post, h => by
    have : cs = [] := List.eq_nil_of_length_eq_zero (by simpa using h.symm)
    subst this; rfl
  | w :: vs, pre, [], post, h => by simp at h
  | w :: vs, pre, c :: cs, post, h => by
    have ih := setL_append vs (pre ++ [w]) cs post (by simpa using h)
    rw [setL]
    have e1 : (pre ++ (c :: cs ++ post)).set pre.length w = (pre ++ [w]) ++ (cs ++ post) := by simp
    rw [e1]
    simpa using ih
theorem RL.setW : ∀ {l : List α} {cs vs : List AV} {i : Nat} {x x' : α}, RL t B cs l → l[i]? = some x → t.R B vs x' → RL t B (setL cs (i * t.sz) vs) (l.set i x')
  | a :: l, cs, vs, 0, x, x', h, hi, hr => by
    obtain ⟨c, r, rfl, h1, h2⟩ := h
    refine ⟨vs, r, ?_, hr, h2⟩
    have := setL_append vs [] c r (by rw [t.len hr, t.len h1])
    simpa using this
  | a :: l, cs, vs, i + 1, x, x', h, hi, hr => by
    obtain ⟨c, r, rfl, h1, h2⟩ := h
    have ih := RL.setW h2 (i := i) (by simpa using hi) hr
    refine ⟨c, setL r (i * t.sz) vs, ?_, h1, ih⟩
    rw [Nat.add_mul, Nat.one_mul, Nat.add_comm]
    have := setL_shift vs c r (i * t.sz)
    rw [t.len h1] at this
    exact this
where
  setL_shift : ∀ (vs c r : List AV) (o : Nat), setL (c ++ r) (c.length + o) vs = c ++ setL r o vs
    | [], c, r, o => rfl
    | w :: vs, c, r, o => by
      rw [setL, setL, List.set_append_right _ _ (by omega), show c.length + o - c.length = o by omega]
      exact setL_shift vs c (r.set o w) (o + 1)
def OstQ (t : Ty α) (B : Kn) (v : AV) (b : Nat) (l : List α) (F : Nat × Option OV → Own) : AV → Own → Prop := fun _ A' => ∃ cs, OSl t B v b false cs l ∧ A' = F (b, some (OV.c cs))
theorem MOp.ostW {E : TypeId} {a w : Operand} {ti : TI} {vs : List AV} {F : Nat × Option OV → Own} {i : Int} {x x' : α} (ha : fr.ev a = .ptr b (0 + i.toNat * t.sz)) (hx : (fr.ev w).cells = some vs) (hu : ∀ e, Upd (b, some (OV.c cs)) e A (F e)) (ht : tinfo P E = some ti)
    (hsz : vs.length = ti.size) (h : OSl t B v b false cs l) (hi : rd l i = some x) (hr : t.R B vs x') : MOp P (.store E a w) fr B A L (OstQ t B v b (l.set i.toNat x') F) := fun st hl hp => by
  have ho := t.one hr
  obtain ⟨⟨sz, mc, rfl, g1, g2⟩, g3, g4⟩ := h
  obtain ⟨i0, hx0⟩ := rd_some hi
  have hlt := (List.getElem?_eq_some_iff.1 hx0).1
  have hm := Nat.mul_le_mul_right t.sz (show i.toNat + 1 ≤ l.length from hlt)
  rw [Nat.add_mul, Nat.one_mul] at hm
  obtain ⟨u, st', A', h1, h2, h3, h4⟩ := MOp.store (P := P) (L := L) (B := B) ha hx (hu (b, some (OV.c (setL cs (0 + i.toNat * t.sz) vs)))) ht hsz ho (by rw [t.len hr, g4.len]; omega) rfl st hl hp
  refine ⟨u, st', A', h1, h2, h3, _, ⟨⟨sz, mc, by rw [List.length_set], by rw [List.length_set]; exact g1, g2⟩, by simp, ?_⟩, h4⟩
  rw [Nat.zero_add]
  exact g4.setW hx0 hr
end el
theorem isQc {S D : TypeId} {si di : TI} {x : Operand} (hs : tinfo P S = some si) (hd : tinfo P D = some di) (h : (match si.k, di.k with
    | .sl _, _ => false
    | _, .sl _ => false
    | _, _ => true) = true) : isQ P (.convert S D x) = true := by simp only [isQ, hs, hd]; exact h
theorem isQl {c : Call} {t : TypeId} {r : List TypeId} {ti : TI} (h1 : c.callee = .builtin .len) (h2 : c.argTypes.toList = t :: r) (ht : tinfo P t = some ti) (hk : (match ti.k with
    | .map _ _ => false
    | _ => true) = true) : isQ P (.call c) = true := by simp only [isQ, h1, h2, ht]; exact hk
theorem evrem {op : TypeId} {kd : IntKind} {x y : Int} (h : y ≠ 0) : evBin P .rem op (.int kd x) (.int kd y) = some (.int kd (x.tmod y)) := by simp only [evBin, evInt, if_true]; rw [need_pos h]
theorem evslen {T : TypeId} {ti : TI} (ht : tinfo P T = some ti) (hk : ti.k = .str) (x : List UInt8) : evLen P T (.str x) = some (.int .i64 (x.length : Int)) := by simp only [evLen, ht, Option.bind_some, hk]
theorem evsix {T : TypeId} {ti : TI} (ht : tinfo P T = some ti) (hk : ti.k = .str) {x : List UInt8} {i : Int} {b : UInt8} (h : rd x i = some b) (kd : IntKind) : evIndex P T (.str x) (.int kd i) = some (.int .u8 (b.toNat : Int)) := by
  obtain ⟨h0, hx⟩ := rd_some h
  simp only [evIndex, ht, Option.bind_some, hk]
  rw [need_pos h0, hx]; rfl
theorem evscut {T : TypeId} {ti : TI} (ht : tinfo P T = some ti) (hk : ti.k = .str) {x m : List UInt8} {a b : Int} (h : cutL x a b = some m) {lo hi : Option AV} (hlo : bnd 0 lo = some a.toNat) (hhi : bnd x.length hi = some b.toNat) : evSlice P T (.str x) lo hi none = some (.str m) := by
  obtain ⟨⟨a0, ab, bl⟩, rfl⟩ := cutL_some h
  simp only [evSlice, ht, Option.bind_some, hk, hlo, hhi]
  rw [need_pos ⟨by omega, by omega⟩]
theorem cvI {S D : TypeId} {si di : TI} {x : Operand} {ks kd : IntKind} {n : Int} (hs : tinfo P S = some si) (hd : tinfo P D = some di) (hk : di.k = .int kd) (hx : fr.ev x = .int ks n) : QOp P (.convert S D x) fr B A (.int kd (kd.wrap n)) := fun st _ => by
  simp only [evOp, evConvert, hs, hd, Option.bind_some, hk, hx]
end
end Gab
namespace Gab
open Go
theorem Rel.less {ρ : Loc.Map} {st : St} {w : World} (h : Rel ρ st w) {b : Nat} {cs cs' : List AV} (hb : st.get b = some (.blk cs true)) (hp : ∀ (i : Nat) (v : AV), cs'[i]? = some v → cs[i]? = some v) : Rel ρ (st.set b (.blk cs' true)) w := by
  have key : ∀ i o, (st.set b (.blk cs' true)).get i = some o → ∃ o', st.get i = some o' ∧ o'.rw = o.rw ∧ ∀ l, ObjRel ρ o' l w → ObjRel ρ o l w := fun i o hi => by
    rw [St.set_get] at hi
    split at hi
    · rename_i e
      cases hi; subst e
      exact ⟨_, hb, rfl, fun l ⟨c, e, fz, h1, h2, h3, h4⟩ => ⟨c, e, fz, h1, h2, fun i v hv => h3 i v (hp i v hv), h4⟩⟩
    · exact ⟨o, hi, rfl, fun _ h => h⟩
  refine ⟨⟨h.len, fun i o hi => ?_, fun i i' l l' o o' hne hi hrw hi' hl hl' => ?_⟩, ⟨h.gi.glb, fun i o l hi hrw hl => ?_⟩⟩
  · obtain ⟨o', h1, _, h3⟩ := key i o hi
    obtain ⟨l, hl, ho⟩ := h.obj i o' h1
    exact ⟨l, hl, h3 l ho⟩
  · obtain ⟨p, h1, h2, _⟩ := key i o hi
    obtain ⟨p', h1', _, _⟩ := key i' o' hi'
    exact h.sep i i' l l' p p' hne h1 (h2.trans hrw) h1' hl hl'
  · obtain ⟨p, h1, h2, _⟩ := key i o hi
    exact h.gi.gsep i p l h1 (h2.trans hrw) hl
theorem Step.less {n0 : Nat} {ρ : Loc.Map} {st : St} {w : World} {b : Nat} {cs cs' : List AV} (hb : st.get b = some (.blk cs true)) : Step n0 ρ st w ρ (st.set b (.blk cs' true)) w :=
  ⟨.refl _ _, rfl, rfl, rfl, Nat.le_refl _, Nat.le_refl _, fun _ _ _ => rfl, fun i o l hi ho hl _ => by
    rw [St.set_get] at hi
    split at hi
    · rename_i e; subst e; exact ⟨_, _, l, hb, rfl, hl, rfl⟩
    · exact ⟨i, o, l, hi, ho, hl, rfl⟩⟩
section
variable {P : Program} {N n0 : Nat} {ops : Array Oper} {R : Post} {k : List It} {fr : Fr} {B : Kn} {A A' L : Own}
theorem WX.less {c : Code} {b : Nat} {cs cs' : List AV} (hu : Upd (b, some (OV.c cs)) (b, some (OV.c cs')) A A') (hp : ∀ (i : Nat) (v : AV), cs'[i]? = some v → cs[i]? = some v) (h : WX P N n0 R (.code c :: k) fr B A' L) : WX P N n0 R (.code c :: k) fr B A L := fun st hl hh => by
  have hm : (b, some (OV.c cs)) ∈ A ++ L := List.mem_append_left _ hu.mem
  have hg := hh.own b cs hm
  refine AX.weaken (fr' := fr) (st' := st.set b (.blk cs' true)) (fun ρ w tmps hn hr hf => ⟨ρ, hr.less hg hp, hf, Step.less hg⟩) (h _ (lw_set hl (o' := .blk cs true) (hh.lt hl hm) _) ((hu.app L).hp hh (fun i hi => set_get_old hi) (set_get_new rfl)))
theorem evslnil {T e : TypeId} {ti : TI} (ht : tinfo P T = some ti) (hk : ti.k = .sl e) (a b c d f : Nat) (nl : Bool) : evBin P .eql T (.sl a b c d f nl) (.sl 0 0 0 0 0 true) = some (.bool nl) := by
  simp only [evBin, evEq, ht, Option.bind_some, hk, if_true]
theorem MOp.appMk {α : Type} {t : Ty α} {T X : TypeId} {z : List AV} {y : Nat} {tx : TI} {kx kn : IntKind} {c : Call} {s x : Operand} {n : Int} {a : α} (h1 : c.callee = .builtin .append) (h2 : c.argTypes.toList = [T, X]) (h3 : c.args.toList = [s, x])
    (ht : SlT P T t z y) (hX : tinfo P X = some tx) (hkx : tx.k = .int kx) (hs : fr.ev s = .sl 0 0 0 0 0 true) (hx : fr.ev x = .int kn n) (h0 : 0 < n) (hn : n ≤ 9223372036854775807) (hy : n.toNat * y ≤ 140737488355328) (ha : t.R B z a) :
    MOp P (.call c) fr B A L (BsQ t (List.replicate n.toNat a) B (zeroRow z n.toNat) A) := fun st hw hp => by
  obtain ⟨ti, e, ei, e1, e2, e3, e4, e5, e6, e7⟩ := ht.ex
  have hrl : ∀ m, RL t B (zeroRow z m) (List.replicate m a) := by
    intro m
    induction m with
    | zero => rfl
    | succ m ih => exact ⟨z, zeroRow z m, rfl, ha, ih⟩
  have hpos : 0 < n.toNat := by omega
  refine ⟨.sl ei.size st.n 0 n.toNat n.toNat false, st.push (.blk (zeroRow z n.toNat) true), _, ?_, lw_push hw _, hp.push hw _, st.n, ⟨⟨_, _, by rw [List.length_replicate], by rw [List.length_replicate]; exact Nat.le_refl _, fun _ => e4⟩, by simp, hrl _⟩, rfl⟩
  simp only [evOp, h1, h2, h3, List.map_cons, List.map_nil, hs, hx, evBuiltin, evAppend, e1, e2, e3, e5, Option.bind_some, List.head?_cons, evNews, hX, hkx]
  have hb : n * (ei.bytes : Int) ≤ 281474976710656 := by
    have e : ((n.toNat * y : Nat) : Int) = n * (y : Int) := by rw [Int.natCast_mul, Int.toNat_of_nonneg (by omega)]
    rw [e7, ← e]; omega
  rw [need_pos ⟨by omega, hn, hb, e6.trans e4.symm⟩]
  simp only [Option.bind_some]
  rw [need_pos ⟨by rw [Nat.zero_add, e7]; exact hy, by omega, e6.trans e4.symm⟩, if_pos trivial, if_neg (by omega), pushO_some, decide_eq_false (by omega)]
end
end Gab
namespace Gab
open Go
theorem QOp.capN {P : Program} {fr : Fr} {B : Kn} {A : Own} {c : Call} {t e : TypeId} {ti : TI} {x : Operand} (h1 : c.callee = .builtin .cap) (h2 : c.argTypes.toList = [t]) (h3 : c.args.toList = [x]) (ht : tinfo P t = some ti) (hk : ti.k = .sl e) (hx : fr.ev x = .sl 0 0 0 0 0 true) : QOp P (.call c) fr B A (.int .i64 0) := fun st _ => by
  simp only [evOp, h1, h2, h3, List.map_cons, List.map_nil, evBuiltin, evCap, ht, hk, hx, Option.bind_some]
end Gab
namespace Gab
open Go
theorem evsl0 {P : Program} {T e : TypeId} {ti ei : TI} (ht : tinfo P T = some ti) (hk : ti.k = .sl e) (he : tinfo P e = some ei) {sz b off len mc l h : Nat} {nl : Bool} {lo hi : Option AV} (hlo : bnd 0 lo = some l) (hhi : bnd len hi = some h) (hc : l ≤ h ∧ h ≤ mc ∧ (nl = false → ei.size = sz)) :
    evSlice P T (.sl sz b off len mc nl) lo hi none = some (.sl sz b (off + l * sz) (h - l) (mc - l) nl) := by
  simp only [evSlice, ht, hk, he, Option.bind_some, hlo, hhi]
  exact need_pos hc
end Gab
namespace Gab
open Go
theorem Hp.swap2 {B : Kn} {a b : Nat × Option OV} {L : Own} {st : St} (h : Hp B (a :: b :: L) st) : Hp B (b :: a :: L) st := h.perm (.swap b a L)
end Gab
namespace Gab
open Go
section
variable {α : Type} {P : Program} {ops : Array Oper} {N n0 : Nat} {R : Post} {k : List It} {t : Ty α} {z : List AV} {T : TypeId} {y : Nat} {fr : Fr} {B : Kn} {A L M : Own} {l : List α} {v : AV} {b : Nat} {nl : Bool} {cs : List AV}
theorem Upd.self {x : Nat × Option OV} {A A' : Own} (h : Upd x x A A') : A' = A := by
  induction h with
  | h => rfl
  | t _ ih => rw [ih]
def OEnd (t : Ty α) (b : Nat) (nl : Bool) (a n : Nat) (w : AV) : Prop := ∃ sz mc, w = .sl sz b (0 + a * sz) n mc nl ∧ (nl = false → sz = t.sz)
theorem OSl.end_ (h : OSl t B v b nl cs l) (ht : SlT P T t z y) {a : Int} {m : List α} (hc : cutL l a l.length = some m) {kd : IntKind} : ∃ w, evSlice P T v (some (.int kd a)) Option.none Option.none = some w ∧ OEnd t b nl a.toNat m.length w := by
  obtain ⟨ti, e, ei, h1, h2, h3, h4, _⟩ := ht.ex
  obtain ⟨⟨sz, mc, rfl, g1, g2⟩, g3, g4⟩ := h
  obtain ⟨⟨c1, c2, c3⟩, rfl⟩ := cutL_some hc
  refine ⟨_, evsl0 h1 h2 h3 (l := a.toNat) (h := l.length) (bnd_int c1) rfl ⟨by omega, g1, fun hn => h4.trans (g2 hn).symm⟩, sz, mc - a.toNat, ?_, g2⟩
  congr 1
  simp
def ClrQ (t : Ty α) (B : Kn) (v : AV) (b : Nat) (nl : Bool) (l : List α) (F : Nat × Option OV → Own) : AV → Own → Prop := fun _ A' => ∃ cs, OSl t B v b nl cs l ∧ A' = F (oe b nl cs)
theorem RL.zeros {x : α} (hr : t.R B z x) : ∀ n, RL t B (zeroRow z n) (List.replicate n x)
  | 0 => rfl
  | n + 1 => ⟨z, zeroRow z n, rfl, hr, RL.zeros hr n⟩
theorem MOp.clr {c : Call} {s : Operand} {F : Nat × Option OV → Own} {a : Int} {m : List α} {x : α} (h1 : c.callee = .builtin .clear) (h2 : c.argTypes.toList = [T]) (h3 : c.args.toList = [s]) (ht : SlT P T t z y) (hr : t.R B z x)
    (ho : OSl t B v b nl cs l) (hs : OEnd t b nl a.toNat m.length (fr.ev s)) (hc : cutL l a l.length = some m) (hu : ∀ e, Upd (oe b nl cs) e A (F e)) :
    MOp P (.call c) fr B A L (ClrQ t B v b nl (l.take a.toNat ++ List.replicate m.length x) F) := fun st hl hp => by
  obtain ⟨ti, e, ei, e1, e2, e3, e4, e5, e6, e7⟩ := ht.ex
  obtain ⟨⟨sz, mc, rfl, g1, g2⟩, g3, g4⟩ := ho
  obtain ⟨sz', mc', hv, q2⟩ := hs
  obtain ⟨⟨c1, c2, c3⟩, rfl⟩ := cutL_some hc
  have hlen : ((l.take (l.length : Int).toNat).drop a.toNat).length = l.length - a.toNat := by simp
  have hev : evOp P (.call c) fr st = evClear P T (.sl sz' b (0 + a.toNat * sz') ((l.take (l.length : Int).toNat).drop a.toNat).length mc' nl) st := by
    simp only [evOp, h1, h2, h3, List.map_cons, List.map_nil, hv, evBuiltin, evClear2]
  rw [hev]
  simp only [evClear, e1, e2, e3, e5, Option.bind_some]
  have hul := hu (oe b nl cs)
  by_cases h0 : ((l.take (l.length : Int).toNat).drop a.toNat).length = 0
  · rw [if_pos h0, h0]
    refine ⟨_, _, A, rfl, hl, hp, cs, ⟨⟨sz, mc, ?_, ?_, g2⟩, fun h => ?_, ?_⟩, hul.self.symm⟩
    · simp; omega
    · simp; omega
    · rw [g3 h]; simp
    · have : l.take a.toNat ++ List.replicate 0 x = l := by rw [List.take_of_length_le (by omega)]; simp
      rw [this]; exact g4
  · cases nl with
    | true => exact absurd (by rw [g3 rfl]; simp) h0
    | false =>
      have hsz := q2 rfl
      have hsz2 := g2 rfl
      subst hsz
      have hmem : (b, some (OV.c cs)) ∈ A ++ L := List.mem_append_left _ (hu (b, some (OV.c cs))).mem
      have hzr := RL.zeros hr (l.length - a.toNat)
      have hzl : (zeroRow z (l.length - a.toNat)).length = (l.length - a.toNat) * t.sz := by rw [hzr.len, List.length_replicate]
      have hcl := g4.len
      have hm1 : a.toNat * t.sz + (l.length - a.toNat) * t.sz = l.length * t.sz := by rw [← Nat.add_mul]; congr 1; omega
      rw [if_neg h0, hp.rd.wr hmem, Option.bind_some, hlen, need_pos ⟨rfl, hzr.one, by rw [hzl, hcl]; omega⟩]
      have hset : setL cs (0 + a.toNat * t.sz) (zeroRow z (l.length - a.toNat)) = cs.take (a.toNat * t.sz) ++ zeroRow z (l.length - a.toNat) := by
        have := setL_append (zeroRow z (l.length - a.toNat)) (cs.take (a.toNat * t.sz)) (cs.drop (a.toNat * t.sz)) [] (by rw [List.length_drop, hzl]; omega)
        rw [List.append_nil, List.append_nil, List.take_append_drop, List.length_take, Nat.min_eq_left (by omega)] at this
        rw [Nat.zero_add]; exact this
      refine ⟨_, _, _, rfl, lw_set hl (o' := .blk (setL cs (0 + a.toNat * t.sz) (zeroRow z (l.length - a.toNat))) true) (hp.lt hl hmem) _, ((hu (b, some (setL cs (0 + a.toNat * t.sz) (zeroRow z (l.length - a.toNat))))).app L).hp hp (fun i hi => set_get_old hi) (set_get_new rfl), setL cs (0 + a.toNat * t.sz) (zeroRow z (l.length - a.toNat)), ⟨⟨sz, mc, ?_, ?_, g2⟩, by simp, ?_⟩, rfl⟩
      · simp; omega
      · simp; omega
      · rw [hset]
        exact (g4.take (n := a.toNat)).append hzr
section
variable {d : Option Nat} {c : Call} {ty : TypeId} {ps : String} {af : Array Edge} {g : Option (Nat × Bool)} {rest : List Oper} {gop : Operand} {f : FuncId} {first cap args : List AV} {j : Nat} {x : Nat × Option OV}
theorem WO.t0 {Q : Kn → AV → Prop} (hA : A[j]? = some x) (hc : c.callee = .value gop) (hg : fr.ev gop = .fn (.func f) first cap) (hs : ∀ st, Hp B (x :: (A.eraseIdx j ++ L)) st → ASpec P f args st (C0 B (A.eraseIdx j ++ L) Q)) (ha : first ++ c.args.toList.map fr.ev ++ cap = args) (hw : wantedA ops.toList fr ⟨d, .call c, ty, ps, af, g⟩ = some true) (hd : dstOk N d = true)
    (h : ∀ v B', KLe B B' → Q B' v → WO P N n0 ops rest R k (fr.put d v) B' (A.eraseIdx j) L) : WO P N n0 ops (⟨d, .call c, ty, ps, af, g⟩ :: rest) R k fr B A L := fun st hl hp =>
  AOps.call rfl hc hw hg ha hd ((hs st (hp.out hA)).lw.mono fun v s ⟨⟨B', h0, h1, h2⟩, h3⟩ => h v B' h0 h2 s h3 h1)
theorem WO.t1 {Q : Kn → AV → Nat × Option OV → Prop} (hA : A[j]? = some x) (hc : c.callee = .value gop) (hg : fr.ev gop = .fn (.func f) first cap) (hs : ∀ st, Hp B (x :: (A.eraseIdx j ++ L)) st → ASpec P f args st (C1 B (A.eraseIdx j ++ L) Q)) (ha : first ++ c.args.toList.map fr.ev ++ cap = args) (hw : wantedA ops.toList fr ⟨d, .call c, ty, ps, af, g⟩ = some true) (hd : dstOk N d = true)
    (h : ∀ v B' e, KLe B B' → Q B' v e → WO P N n0 ops rest R k (fr.put d v) B' (e :: A.eraseIdx j) L) : WO P N n0 ops (⟨d, .call c, ty, ps, af, g⟩ :: rest) R k fr B A L := fun st hl hp =>
  AOps.call rfl hc hw hg ha hd ((hs st (hp.out hA)).lw.mono fun v s ⟨⟨B', e, h0, h1, h2⟩, h3⟩ => h v B' e h0 h2 s h3 h1)
end
end
end Gab
namespace Gab
open Go
theorem WP.alt {P : Program} {N n0 : Nat} {ops : Array Oper} {R : Post} {k : List It} {fr : Fr} {B : Kn} {A L M : Own} {a b : Plan} (ha : WP P N n0 ops a R k fr B A L M) (hb : WP P N n0 ops b R k fr B A L M) : WP P N n0 ops (.alt a b) R k fr B A L M :=
  fun hs st hl hp => APl.alt (ha hs st hl hp) (hb hs st hl hp)
end Gab
namespace Gab
open Go
theorem WP.grow {P : Program} {N n0 : Nat} {ops : Array Oper} {R : Post} {k : List It} {fr : Fr} {B : Kn} {A L M : Own} {r : Plan} (M' : Own) (hs' : ∀ e ∈ M', e ∈ A ++ L) (hs : ∀ e ∈ M, e ∈ M') (h : WP P N n0 ops r R k fr B A L M') : WP P N n0 ops r R k fr B A L M := fun _ st hl hp =>
  APl.grow (Kp.kof ((Rd.kof hp hs').sub hs)) (h hs' st hl hp)
theorem pkL {A' L M : Own} {A : Own} {jx : List Nat} (h : pk jx A' = M) : ∀ e ∈ M, e ∈ A ++ L → e ∈ A' ++ L := fun e he _ => List.mem_append_left _ (pk_in h e he)
theorem pkE {A' E L M : Own} {A : Own} {jx : List Nat} (h : pk jx A' = M) : ∀ e ∈ M ++ E, e ∈ A ++ (E ++ L) → e ∈ A' ++ (E ++ L) := fun e he _ => (List.mem_append.1 he).elim (fun x => List.mem_append_left _ (pk_in h e x)) fun x => List.mem_append_right _ (List.mem_append_left _ x)
theorem subE {A E L M : Own} (h : ∀ e ∈ M, e ∈ A) : ∀ e ∈ M ++ E, e ∈ A ++ (E ++ L) := fun e he => (List.mem_append.1 he).elim (fun x => List.mem_append_left _ (h e x)) fun x => List.mem_append_right _ (List.mem_append_left _ x)
theorem inM {E : Own} {x : Nat × Option OV} {X : Own} (h : x ∈ E) : x ∈ X ++ E := List.mem_append_right _ h
theorem WS.alt {P : Program} {N n0 : Nat} {ops : Array Oper} {R : Post} {k : List It} {fr : Fr} {B : Kn} {A L : Own} {a b : Plan} (ha : WS P N n0 ops a R k fr B A L) (hb : WS P N n0 ops b R k fr B A L) : WS P N n0 ops (.alt a b) R k fr B A L :=
  fun st hl hp K => APl.alt (ha st hl hp K) (hb st hl hp K)
end Gab

end
section
set_option linter.unusedSimpArgs false
set_option linter.unusedVariables false
namespace Gab
open Go
def Kn.obj (B : Kn) (T b : Nat) : Kn := ⟨B.kn, fun t => if t = T then B.ad t ++ [b] else B.ad t⟩
theorem Kn.obj_at {B : Kn} {T b : Nat} : (B.obj T b).ad T = B.ad T ++ [b] := if_pos rfl
theorem Kn.obj_ne {B : Kn} {T b t : Nat} (h : t ≠ T) : (B.obj T b).ad t = B.ad t := if_neg h
theorem KLw.obj (B : Kn) (T b : Nat) : KLw B (B.obj T b) := ⟨fun _ _ h => h, fun t => by
  show B.ad t <+: (if t = T then B.ad t ++ [b] else B.ad t)
  split
  · exact List.prefix_append _ _
  · exact List.prefix_rfl⟩
theorem Hp.objK {B : Kn} {L : Own} {st : St} (h : Hp B L st) (T b : Nat) : Hp (B.obj T b) L st := ⟨⟨h.kn, h.own⟩, h.frz, h.sep⟩
def HPt (B : Kn) (T : Nat) (v : AV) (n : Nat) : Prop := (n = 0 ∧ v = .nilptr) ∨ ∃ b i, n = i + 1 ∧ (B.ad T)[i]? = some b ∧ v = .ptr b 0
def HMt (B : Kn) (T : Nat) (v : AV) (n : Nat) : Prop := (n = 0 ∧ v = .nilmap) ∨ ∃ b i, n = i + 1 ∧ (B.ad T)[i]? = some b ∧ v = .map b
section
variable {B B' : Kn} {T : Nat} {v : AV} {n : Nat}
theorem HPt.upw (hk : KLw B B') (h : HPt B T v n) : HPt B' T v n := by
  rcases h with h | ⟨b, i, h1, h2, h3⟩
  · exact .inl h
  · exact .inr ⟨b, i, h1, hk.at h2, h3⟩
theorem HPt.up (hk : KLe B B') (h : HPt B T v n) : HPt B' T v n := h.upw hk.w
theorem HMt.upw (hk : KLw B B') (h : HMt B T v n) : HMt B' T v n := by
  rcases h with h | ⟨b, i, h1, h2, h3⟩
  · exact .inl h
  · exact .inr ⟨b, i, h1, hk.at h2, h3⟩
theorem HMt.up (hk : KLe B B') (h : HMt B T v n) : HMt B' T v n := h.upw hk.w
theorem HPt.nil : HPt B T .nilptr 0 := .inl ⟨rfl, rfl⟩
theorem HMt.nil : HMt B T .nilmap 0 := .inl ⟨rfl, rfl⟩
theorem HPt.one (h : HPt B T v n) : v.one = true := by
  rcases h with ⟨_, rfl⟩ | ⟨_, _, _, _, rfl⟩ <;> rfl
theorem HMt.one (h : HMt B T v n) : v.one = true := by
  rcases h with ⟨_, rfl⟩ | ⟨_, _, _, _, rfl⟩ <;> rfl
end
def Ty.hp (T : Nat) : Ty Nat := ⟨1, fun B cs n => ∃ v, cs = [v] ∧ HPt B T v n, fun ⟨v, h, _⟩ => by rw [h]; rfl, fun ⟨v, h, a⟩ => by rw [h]; simp [a.one], fun hk ⟨v, h, a⟩ => ⟨v, h, a.upw hk⟩⟩
def Ty.hm (T : Nat) : Ty Nat := ⟨1, fun B cs n => ∃ v, cs = [v] ∧ HMt B T v n, fun ⟨v, h, _⟩ => by rw [h]; rfl, fun ⟨v, h, a⟩ => by rw [h]; simp [a.one], fun hk ⟨v, h, a⟩ => ⟨v, h, a.upw hk⟩⟩
theorem Rhp {B : Kn} {T : Nat} {v : AV} {n : Nat} (h : HPt B T v n) : (Ty.hp T).R B [v] n := ⟨v, rfl, h⟩
theorem Rhm {B : Kn} {T : Nat} {v : AV} {n : Nat} (h : HMt B T v n) : (Ty.hm T).R B [v] n := ⟨v, rfl, h⟩
section maps
variable {κ α : Type} [DecidableEq κ]
def mget (x : List (κ × α)) (k : κ) : Option α := (x.find? fun p => decide (p.1 = k)).map (·.2)
def mput (x : List (κ × α)) (k : κ) (v : α) : List (κ × α) := match x with
  | [] => [(k, v)]
  | p :: r => if p.1 = k then (k, v) :: r else p :: mput r k v
def mdel (x : List (κ × α)) (k : κ) : List (κ × α) := match x with
  | [] => []
  | p :: r => if p.1 = k then r else p :: mdel r k
theorem mget_cons {p : κ × α} {x : List (κ × α)} {k : κ} : mget (p :: x) k = if p.1 = k then some p.2 else mget x k := by
  unfold mget
  rw [List.find?_cons]
  by_cases h : p.1 = k <;> simp [h]
theorem mget_some_iff {x : List (κ × α)} (hn : (x.map (·.1)).Nodup) {k : κ} {v : α} : mget x k = some v ↔ (k, v) ∈ x := by
  induction x with
  | nil => simp [mget]
  | cons p r ih =>
    rw [List.map_cons, List.nodup_cons] at hn
    rw [mget_cons]
    by_cases h : p.1 = k
    · rw [if_pos h]
      constructor
      · intro e; cases e; rw [← h]; exact List.mem_cons_self
      · intro e
        rcases List.mem_cons.1 e with e | e
        · rw [← e]
        · exact absurd (List.mem_map.2 ⟨_, e, rfl⟩) (h ▸ hn.1)
    · rw [if_neg h, ih hn.2]
      constructor
      · exact List.mem_cons_of_mem _
      · intro e
        rcases List.mem_cons.1 e with e | e
        · exact absurd (congrArg Prod.fst e).symm h
        · exact e
theorem mget_perm {x y : List (κ × α)} (h : x.Perm y) (hn : (x.map (·.1)).Nodup) (k : κ) : mget x k = mget y k := by
  have hn' : (y.map (·.1)).Nodup := (h.map _).nodup_iff.1 hn
  cases hx : mget x k with
  | some v => exact ((mget_some_iff hn').2 (h.mem_iff.1 ((mget_some_iff hn).1 hx))).symm
  | none =>
    cases hy : mget y k with
    | none => rfl
    | some v => rw [(mget_some_iff hn).2 (h.mem_iff.2 ((mget_some_iff hn').1 hy))] at hx; cases hx
theorem mget_none_iff {x : List (κ × α)} {k : κ} : mget x k = none ↔ k ∉ x.map (·.1) := by
  induction x with
  | nil => simp [mget]
  | cons p r ih =>
    rw [mget_cons, List.map_cons, List.mem_cons]
    by_cases h : p.1 = k
    · simp [h]
    · rw [if_neg h, ih]
      constructor
      · intro e; rintro (e' | e')
        · exact h e'.symm
        · exact e e'
      · intro e e'; exact e (.inr e')
theorem mput_none {x : List (κ × α)} {k : κ} {v : α} (h : mget x k = none) : mput x k v = x ++ [(k, v)] := by
  induction x with
  | nil => rfl
  | cons p r ih =>
    rw [mget_cons] at h
    split at h
    · cases h
    · rename_i hne
      rw [mput, if_neg hne, ih h]; rfl
theorem mput_keys {x : List (κ × α)} {k : κ} {v w : α} (h : mget x k = some w) : (mput x k v).map (·.1) = x.map (·.1) := by
  induction x with
  | nil => simp [mget] at h
  | cons p r ih =>
    rw [mget_cons] at h
    rw [mput]
    split at h
    · rename_i he; rw [if_pos he]; simp [he]
    · rename_i hne; rw [if_neg hne, List.map_cons, List.map_cons, ih h]
theorem mput_nodup {x : List (κ × α)} (hn : (x.map (·.1)).Nodup) (k : κ) (v : α) : ((mput x k v).map (·.1)).Nodup := by
  cases h : mget x k with
  | some w => rw [mput_keys h]; exact hn
  | none =>
    rw [mput_none h, List.map_append]
    refine List.nodup_append.2 ⟨hn, by simp, fun a ha b hb => ?_⟩
    simp at hb; subst hb
    exact fun e => mget_none_iff.1 h (e ▸ ha)
theorem mdel_filter {x : List (κ × α)} (hn : (x.map (·.1)).Nodup) (k : κ) : mdel x k = x.filter fun p => decide (p.1 ≠ k) := by
  induction x with
  | nil => rfl
  | cons p r ih =>
    rw [List.map_cons, List.nodup_cons] at hn
    rw [mdel, List.filter_cons]
    by_cases h : p.1 = k
    · rw [if_pos h, if_neg (by simp [h])]
      refine (List.filter_eq_self.2 fun q hq => ?_).symm
      simp only [ne_eq, decide_eq_true_eq]
      exact fun e => hn.1 (List.mem_map.2 ⟨q, hq, by rw [e, h]⟩)
    · rw [if_neg h, if_pos (by simp [h]), ih hn.2]
theorem mdel_nodup {x : List (κ × α)} (hn : (x.map (·.1)).Nodup) (k : κ) : ((mdel x k).map (·.1)).Nodup := by
  rw [mdel_filter hn]
  exact hn.sublist (List.Sublist.map _ List.filter_sublist)
theorem mput_perm {x y : List (κ × α)} (h : x.Perm y) (hn : (x.map (·.1)).Nodup) (k : κ) (v : α) : (mput x k v).Perm (mput y k v) := by
  have hn' : (y.map (·.1)).Nodup := (h.map _).nodup_iff.1 hn
  have ex : ∀ {z : List (κ × α)}, (z.map (·.1)).Nodup → (mput z k v).Perm ((k, v) :: mdel z k) := by
    intro z
    induction z with
    | nil => intro _; exact .refl _
    | cons p r ih =>
      intro hz
      rw [List.map_cons, List.nodup_cons] at hz
      rw [mput, mdel]
      split
      · exact .refl _
      · exact ((ih hz.2).cons p).trans (.swap _ _ _)
  refine (ex hn).trans (.trans ?_ (ex hn').symm)
  rw [mdel_filter hn, mdel_filter hn']
  exact (h.filter _).cons _
theorem mdel_perm {x y : List (κ × α)} (h : x.Perm y) (hn : (x.map (·.1)).Nodup) (k : κ) : (mdel x k).Perm (mdel y k) := by
  have hn' : (y.map (·.1)).Nodup := (h.map _).nodup_iff.1 hn
  rw [mdel_filter hn, mdel_filter hn']
  exact h.filter _
structure KTy (α : Type) where
  R : Kn → AV → α → Prop
  mono : ∀ {B B' v x}, KLw B B' → R B v x → R B' v x
def KTy.int (k : IntKind) : KTy Int := ⟨fun _ v x => v = .int k x, fun _ h => h⟩
def KTy.bool : KTy Bool := ⟨fun _ v x => v = .bool x, fun _ h => h⟩
def KTy.str : KTy (List UInt8) := ⟨fun _ v x => v = .str x, fun _ h => h⟩
def KTy.hp (T : Nat) : KTy Nat := ⟨fun B v n => HPt B T v n, fun hk h => h.upw hk⟩
def KTy.hm (T : Nat) : KTy Nat := ⟨fun B v n => HMt B T v n, fun hk h => h.upw hk⟩
def KTy.slice {α : Type} (t : Ty α) : KTy (List α) := ⟨fun B v x => RSl t B v x, fun hk h => h.upw hk⟩
def KTy.g {α : Type} (t : Ty α) : KTy α := ⟨fun B v x => ∃ l, v = .agg l ∧ t.R B l x, fun hk ⟨l, e, h⟩ => ⟨l, e, t.mono hk h⟩⟩
structure KeyT (P : Program) (kt : TypeId) (tk : KTy κ) (kk : TK) : Prop where
  ok : ∀ (B : Kn) (k : AV) (x : κ), tk.R B k x → keyKP P kt kk k = true
  eq : ∀ (B B' : Kn) (k k' : AV) (x x' : κ), tk.R B k x → tk.R B' k' x' → keyEq k k' = some (decide (x = x'))
theorem keyT_int {P : Program} {kt : TypeId} (j : IntKind) : KeyT P kt (KTy.int j) (.int j) := ⟨fun B k x h => by
    have h : k = AV.int j x := h
    subst h; simp [keyKP, keyK], fun B B' k k' x x' h h' => by
    have h : k = AV.int j x := h
    have h' : k' = AV.int j x' := h'
    subst h; subst h'; simp [keyEq]⟩
theorem keyT_str {P : Program} {kt : TypeId} : KeyT P kt KTy.str .str := ⟨fun B k x h => by
    have h : k = AV.str x := h
    subst h; rfl, fun B B' k k' x x' h h' => by
    have h : k = AV.str x := h
    have h' : k' = AV.str x' := h'
    subst h; subst h'; rfl⟩
structure MRel (tk : KTy κ) (tv : KTy α) (B : Kn) (es : MEnts) (c : Nat) (x : List (κ × α)) : Prop where
  ps : ∃ ps : List (κ × α), ps.Perm x ∧ es.length = ps.length ∧ ∀ (i : Nat) (k v : AV) (b : Nat), es[i]? = some (k, v, b) → ∃ p, ps[i]? = some p ∧ tk.R B k p.1 ∧ tv.R B v p.2
  nd : (x.map (·.1)).Nodup
  nb : (es.map (·.2.2)).Nodup
  lb : ∀ e ∈ es, e.2.2 < c
variable {tk : KTy κ} {tv : KTy α} {B B' : Kn}
omit [DecidableEq κ] in
theorem MRel.mono (hk : KLw B B') {es : MEnts} {c : Nat} {x : List (κ × α)} (h : MRel tk tv B es c x) : MRel tk tv B' es c x := by
  obtain ⟨⟨ps, h1, h2, h3⟩, h4, h5, h6⟩ := h
  exact ⟨⟨ps, h1, h2, fun i k v b hi => let ⟨p, a, b, c⟩ := h3 i k v b hi; ⟨p, a, tk.mono hk b, tv.mono hk c⟩⟩, h4, h5, h6⟩
omit [DecidableEq κ] in
theorem MRel.nil : MRel tk tv B [] 0 [] := ⟨⟨[], .refl _, rfl, fun i k v b hi => by simp at hi⟩, by simp, by simp, by simp⟩
theorem find_rel {P : Program} {kt : TypeId} {kk : TK} (hk : KeyT P kt tk kk) {k : AV} {x : κ} (hx : tk.R B k x) : ∀ {es : MEnts} {ps : List (κ × α)}, es.length = ps.length → (∀ (i : Nat) (k v : AV) (b : Nat), es[i]? = some (k, v, b) → ∃ p, ps[i]? = some p ∧ tk.R B k p.1 ∧ tv.R B v p.2) →
    ∃ r, findA k es = some r ∧ ((r = none ∧ mget ps x = none) ∨ ∃ i v y, r = some (i, v) ∧ mget ps x = some y ∧ tv.R B v y ∧ ps[i]? = some (x, y))
  | [], [], _, _ => ⟨none, rfl, .inl ⟨rfl, rfl⟩⟩
  | e :: es, p :: ps, hl, h => by
    obtain ⟨p', hp', h1, h2⟩ := h 0 e.1 e.2.1 e.2.2 rfl
    simp at hp'; subst hp'
    have hq := hk.eq B B k e.1 x p.1 hx h1
    obtain ⟨r, hr, hc⟩ := find_rel hk hx (es := es) (ps := ps) (by simpa using hl) fun i k v b hi => by simpa using h (i + 1) k v b (by simpa using hi)
    by_cases he : x = p.1
    · rw [decide_eq_true he] at hq
      refine ⟨some (0, e.2.1), by unfold findA; rw [hq], .inr ⟨0, _, p.2, rfl, by rw [mget_cons, if_pos he.symm], h2, by rw [he]; rfl⟩⟩
    · rw [decide_eq_false he] at hq
      refine ⟨r.map fun p => (p.1 + 1, p.2), by unfold findA; rw [hq, hr]; rfl, ?_⟩
      rcases hc with ⟨rfl, hm⟩ | ⟨i, v, y, rfl, hm, hv, hi⟩
      · exact .inl ⟨rfl, by rw [mget_cons, if_neg (Ne.symm he)]; exact hm⟩
      · exact .inr ⟨i + 1, v, y, rfl, by rw [mget_cons, if_neg (Ne.symm he)]; exact hm, hv, by simpa using hi⟩
theorem MRel.find {P : Program} {kt : TypeId} {kk : TK} (hk : KeyT P kt tk kk) {es : MEnts} {c : Nat} {x : List (κ × α)} (h : MRel tk tv B es c x) {k : AV} {key : κ} (hx : tk.R B k key) :
    ∃ r, findA k es = some r ∧ ((r = none ∧ mget x key = none) ∨ ∃ i v y, r = some (i, v) ∧ mget x key = some y ∧ tv.R B v y) := by
  obtain ⟨⟨ps, h1, h2, h3⟩, h4, h5, h6⟩ := h
  obtain ⟨r, hr, hc⟩ := find_rel (tk := tk) (tv := tv) hk hx h2 h3
  have hn' : (ps.map (·.1)).Nodup := (h1.map _).nodup_iff.2 h4
  refine ⟨r, hr, ?_⟩
  rw [← mget_perm h1 hn']
  rcases hc with hc | ⟨i, v, y, a, b, c, _⟩
  · exact .inl hc
  · exact .inr ⟨i, v, y, a, b, c⟩
theorem mput_at {ps : List (κ × α)} (hn : (ps.map (·.1)).Nodup) {i : Nat} {x : κ} {y v : α} (h : ps[i]? = some (x, y)) : mput ps x v = ps.set i (x, v) := by
  induction ps generalizing i with
  | nil => simp at h
  | cons p r ih =>
    rw [List.map_cons, List.nodup_cons] at hn
    cases i with
    | zero => simp at h; subst h; simp [mput]
    | succ i =>
      have hne : p.1 ≠ x := fun e => hn.1 (List.mem_map.2 ⟨(x, y), List.mem_of_getElem? (by simpa using h), e.symm⟩)
      rw [mput, if_neg hne, List.set_cons_succ, ih hn.2 (by simpa using h)]
theorem mdel_at {ps : List (κ × α)} (hn : (ps.map (·.1)).Nodup) {i : Nat} {x : κ} {y : α} (h : ps[i]? = some (x, y)) : mdel ps x = ps.eraseIdx i := by
  induction ps generalizing i with
  | nil => simp at h
  | cons p r ih =>
    rw [List.map_cons, List.nodup_cons] at hn
    cases i with
    | zero => simp at h; subst h; simp [mdel]
    | succ i =>
      have hne : p.1 ≠ x := fun e => hn.1 (List.mem_map.2 ⟨(x, y), List.mem_of_getElem? (by simpa using h), e.symm⟩)
      rw [mdel, if_neg hne, List.eraseIdx_cons_succ, ih hn.2 (by simpa using h)]
theorem mdel_none {ps : List (κ × α)} {x : κ} (h : mget ps x = none) : mdel ps x = ps := by
  induction ps with
  | nil => rfl
  | cons p r ih =>
    rw [mget_cons] at h
    split at h
    · cases h
    · rename_i hne; rw [mdel, if_neg hne, ih h]
theorem MRel.put {P : Program} {kt : TypeId} {kk : TK} (hk : KeyT P kt tk kk) {es : MEnts} {c : Nat} {x : List (κ × α)} (h : MRel tk tv B es c x) {k v : AV} {key : κ} {y : α} (hx : tk.R B k key) (hy : tv.R B v y) :
    ∃ r es' c', findA k es = some r ∧ MRel tk tv B es' c' (mput x key y) ∧ ((r = none ∧ es' = es ++ [(k, v, c)] ∧ c' = c + 1) ∨ ∃ i w e, r = some (i, w) ∧ es[i]? = some e ∧ es' = es.set i (k, v, e.2.2) ∧ c' = c) := by
  obtain ⟨⟨ps, h1, h2, h3⟩, h4, h5, h6⟩ := h
  obtain ⟨r, hr, hc⟩ := find_rel (tk := tk) (tv := tv) hk hx h2 h3
  have hn' : (ps.map (·.1)).Nodup := (h1.map _).nodup_iff.2 h4
  have hp := mput_perm h1 hn' key y
  rcases hc with ⟨rfl, hm⟩ | ⟨i, w, z, rfl, hm, _, hi⟩
  · refine ⟨none, _, _, hr, ⟨⟨ps ++ [(key, y)], by rw [← mput_none hm]; exact hp, by simp [h2], fun i k' v' b' hi => ?_⟩, mput_nodup h4 _ _, ?_, ?_⟩, .inl ⟨rfl, rfl, rfl⟩⟩
    · rcases Nat.lt_or_ge i es.length with hlt | hge
      · rw [List.getElem?_append_left hlt] at hi
        obtain ⟨p, a, b⟩ := h3 i k' v' b' hi
        exact ⟨p, by rw [List.getElem?_append_left (by omega)]; exact a, b⟩
      · rw [List.getElem?_append_right hge] at hi
        have h0 : i - es.length = 0 := by
          rcases Nat.eq_zero_or_pos (i - es.length) with h0 | h0
          · exact h0
          · rw [List.getElem?_eq_none (by simp; omega)] at hi; cases hi
        rw [h0] at hi
        simp at hi; obtain ⟨rfl, rfl, rfl⟩ := hi
        exact ⟨(key, y), by rw [List.getElem?_append_right (by omega), show i - ps.length = 0 by omega]; rfl, hx, hy⟩
    · rw [List.map_append]
      refine List.nodup_append.2 ⟨h5, by simp, fun a ha b hb => ?_⟩
      obtain ⟨e, he, rfl⟩ := List.mem_map.1 ha
      simp at hb; subst hb
      have := h6 e he; omega
    · intro e he
      rcases List.mem_append.1 he with he | he
      · have := h6 e he; omega
      · simp at he; subst he; simp
  · have hil : i < es.length := by have := (List.getElem?_eq_some_iff.1 hi).1; omega
    refine ⟨some (i, w), _, _, hr, ⟨⟨ps.set i (key, y), by rw [← mput_at hn' hi]; exact hp, by simp [h2], fun j k' v' b' hj => ?_⟩, mput_nodup h4 _ _, ?_, ?_⟩, .inr ⟨i, w, es[i], rfl, List.getElem?_eq_getElem hil, rfl, rfl⟩⟩
    · rw [List.getElem?_set] at hj
      rw [List.getElem?_set]
      split at hj
      · rename_i hij
        rw [if_pos hij]
        subst hij
        simp [hil] at hj; obtain ⟨rfl, rfl, rfl⟩ := hj
        exact ⟨(key, y), by rw [if_pos (by omega)], hx, hy⟩
      · rename_i hij
        rw [if_neg hij]; exact h3 j k' v' b' hj
    · have : (es.set i (k, v, es[i].2.2)).map (·.2.2) = es.map (·.2.2) := by
        rw [List.map_set]
        refine List.ext_getElem? fun j => ?_
        rw [List.getElem?_set]
        split
        · rename_i e; subst e; simp [hil]
        · rfl
      rw [this]; exact h5
    · intro e he
      obtain ⟨j, hj⟩ := List.getElem?_of_mem he
      rw [List.getElem?_set] at hj
      split at hj
      · rename_i e1
        subst e1
        simp [hil] at hj; subst hj
        exact (show es[i].2.2 < c from h6 _ (List.getElem_mem hil))
      · exact h6 e (List.mem_of_getElem? hj)
def ment (x : List (κ × α)) (k : κ) (z : α) : List (κ × α) := if (mget x k).isSome then x else mput x k z
theorem mput_same {x : List (κ × α)} {k : κ} {y : α} (h : mget x k = some y) : mput x k y = x := by
  induction x with
  | nil => simp [mget] at h
  | cons p r ih =>
    rw [mget_cons] at h
    rw [mput]
    split at h
    · rename_i e
      simp at h; subst h; subst e; rw [if_pos rfl]
    · rename_i hne; rw [if_neg hne, ih h]
theorem MRel.setAt {es : MEnts} {c : Nat} {x : List (κ × α)} (h : MRel tk tv B es c x) {ps : List (κ × α)} (h1 : ps.Perm x) (h2 : es.length = ps.length) (h3 : ∀ (i : Nat) (k v : AV) (b : Nat), es[i]? = some (k, v, b) → ∃ p, ps[i]? = some p ∧ tk.R B k p.1 ∧ tv.R B v p.2)
    {i : Nat} {key : κ} {yo y : α} {e : AV × AV × Nat} {k v : AV} (hi : ps[i]? = some (key, yo)) (he : es[i]? = some e) (hx : tk.R B k key) (hy : tv.R B v y) : MRel tk tv B (es.set i (k, v, e.2.2)) c (mput x key y) := by
  obtain ⟨_, h4, h5, h6⟩ := h
  have hn' : (ps.map (·.1)).Nodup := (h1.map _).nodup_iff.2 h4
  have hp := mput_perm h1 hn' key y
  have hil : i < es.length := (List.getElem?_eq_some_iff.1 he).1
  obtain rfl : es[i] = e := (List.getElem?_eq_some_iff.1 he).2
  refine ⟨⟨ps.set i (key, y), by rw [← mput_at hn' hi]; exact hp, by simp [h2], fun j k' v' b' hj => ?_⟩, mput_nodup h4 _ _, ?_, ?_⟩
  · rw [List.getElem?_set] at hj
    rw [List.getElem?_set]
    split at hj
    · rename_i hij
      rw [if_pos hij]
      subst hij
      simp [hil] at hj; obtain ⟨rfl, rfl, rfl⟩ := hj
      exact ⟨(key, y), by rw [if_pos (by omega)], hx, hy⟩
    · rename_i hij
      rw [if_neg hij]; exact h3 j k' v' b' hj
  · have : (es.set i (k, v, es[i].2.2)).map (·.2.2) = es.map (·.2.2) := by
      rw [List.map_set]
      refine List.ext_getElem? fun j => ?_
      rw [List.getElem?_set]
      split
      · rename_i e; subst e; simp [hil]
      · rfl
    rw [this]; exact h5
  · intro e he
    obtain ⟨j, hj⟩ := List.getElem?_of_mem he
    rw [List.getElem?_set] at hj
    split at hj
    · rename_i e1
      subst e1
      simp [hil] at hj; subst hj
      exact (show es[i].2.2 < c from h6 _ (List.getElem_mem hil))
    · exact h6 e (List.mem_of_getElem? hj)
theorem MRel.ment {P : Program} {kt : TypeId} {kk : TK} (hk : KeyT P kt tk kk) {es : MEnts} {c : Nat} {x : List (κ × α)} (h : MRel tk tv B es c x) {k w : AV} {key : κ} {z : α} (hx : tk.R B k key) (hz : tv.R B w z) :
    ∃ r es' c', findA k es = some r ∧ MRel tk tv B es' c' (ment x key z) ∧ ((r = none ∧ es' = es ++ [(k, w, c)] ∧ c' = c + 1 ∧ mget x key = none) ∨ ∃ i u e y, r = some (i, u) ∧ es[i]? = some e ∧ es' = es.set i (k, e.2.1, e.2.2) ∧ c' = c ∧ mget x key = some y ∧ tv.R B u y) := by
  obtain ⟨r0, hr0, hc0⟩ := h.find hk hx
  obtain ⟨ps, h1, h2, h3⟩ := h.ps
  obtain ⟨r, hr, hc⟩ := find_rel (tk := tk) (tv := tv) hk hx h2 h3
  rw [hr0] at hr; simp at hr; subst hr
  rcases hc0 with ⟨rfl, hm⟩ | ⟨i, u, y, rfl, hm, hu⟩
  · obtain ⟨r', es', c', g1, g2, g3⟩ := h.put hk hx hz
    rw [hr0] at g1; simp at g1; subst g1
    rcases g3 with ⟨_, rfl, rfl⟩ | ⟨_, _, _, e, _⟩
    · exact ⟨none, _, _, hr0, by rw [Gab.ment, hm]; exact g2, .inl ⟨rfl, rfl, rfl, hm⟩⟩
    · cases e
  · rcases hc with ⟨e, _⟩ | ⟨i', w', z', e, hm', _, hi⟩
    · cases e
    · simp at e; obtain ⟨rfl, rfl⟩ := e
      have hil : i < es.length := by have := (List.getElem?_eq_some_iff.1 hi).1; omega
      obtain ⟨p, hp, _, hpv⟩ := h3 i es[i].1 es[i].2.1 es[i].2.2 (List.getElem?_eq_getElem hil)
      rw [hi] at hp; simp at hp; subst hp
      have hm2 : mget x key = some z' := by rw [← mget_perm h1 ((h1.map _).nodup_iff.2 h.nd)]; exact hm'
      refine ⟨_, _, _, hr0, ?_, .inr ⟨i, u, es[i], y, rfl, List.getElem?_eq_getElem hil, rfl, rfl, hm, hu⟩⟩
      rw [Gab.ment, hm, Option.isSome_some, if_pos rfl]
      have := h.setAt h1 h2 h3 hi (List.getElem?_eq_getElem hil) hx hpv
      rwa [mput_same hm2] at this
def Stamp (tk : KTy κ) (B : Kn) (T n : Nat) (key : κ) (s : Int) (E : Own) : Prop := ∃ (b : Nat) (es : MEnts) (c j : Nat) (k u : AV) (q : Nat), (B.ad T)[n - 1]? = some b ∧ (b, some (OV.m es c)) ∈ E ∧ es[j]? = some (k, u, q) ∧ tk.R B k key ∧ s = (q : Int)
theorem MRel.del {P : Program} {kt : TypeId} {kk : TK} (hk : KeyT P kt tk kk) {es : MEnts} {c : Nat} {x : List (κ × α)} (h : MRel tk tv B es c x) {k : AV} {key : κ} (hx : tk.R B k key) :
    ∃ r es', findA k es = some r ∧ MRel tk tv B es' c (mdel x key) ∧ ((r = none ∧ es' = es) ∨ ∃ i w, r = some (i, w) ∧ es' = es.eraseIdx i) := by
  obtain ⟨⟨ps, h1, h2, h3⟩, h4, h5, h6⟩ := h
  obtain ⟨r, hr, hc⟩ := find_rel (tk := tk) (tv := tv) hk hx h2 h3
  have hn' : (ps.map (·.1)).Nodup := (h1.map _).nodup_iff.2 h4
  have hp := mdel_perm h1 hn' key
  rcases hc with ⟨rfl, hm⟩ | ⟨i, w, z, rfl, hm, _, hi⟩
  · exact ⟨none, es, hr, ⟨⟨ps, by rw [mdel_none hm] at hp; exact hp, h2, h3⟩, mdel_nodup h4 _, h5, h6⟩, .inl ⟨rfl, rfl⟩⟩
  · refine ⟨some (i, w), _, hr, ⟨⟨ps.eraseIdx i, by rw [← mdel_at hn' hi]; exact hp, by rw [List.length_eraseIdx, List.length_eraseIdx, h2], fun j k' v' b' hj => ?_⟩, mdel_nodup h4 _, ?_, fun e he => h6 e (List.mem_of_mem_eraseIdx he)⟩, .inr ⟨i, w, rfl, rfl⟩⟩
    · rw [List.getElem?_eraseIdx] at hj
      rw [List.getElem?_eraseIdx]
      split at hj
      · rename_i hij; rw [if_pos hij]; exact h3 j k' v' b' hj
      · rename_i hij; rw [if_neg hij]; exact h3 (j + 1) k' v' b' hj
    · exact h5.sublist ((List.eraseIdx_sublist es i).map _)
end maps
end Gab
namespace Gab
open Go
structure Seg {α : Type} (B : Kn) (T : Nat) (R : OV → α → Prop) (l : List α) (E : Own) : Prop where
  len : E.length = l.length
  ad : (B.ad T).length = l.length
  at_ : ∀ (i : Nat) (x : α), l[i]? = some x → ∃ b u, (B.ad T)[i]? = some b ∧ E[i]? = some (b, some u) ∧ R u x
section
variable {α κ : Type} {B B' : Kn} {T : Nat} {E E' A L : Own} {l : List α}
theorem Seg.up {R R' : OV → α → Prop} (h : Seg B T R l E) (ha : B'.ad T = B.ad T) (hr : ∀ u x, R u x → R' u x) : Seg B' T R' l E :=
  ⟨h.len, by rw [ha]; exact h.ad, fun i x hi => let ⟨b, u, a, c, d⟩ := h.at_ i x hi; ⟨b, u, by rw [ha]; exact a, c, hr u x d⟩⟩
theorem Seg.nil {R : OV → α → Prop} (h : B.ad T = []) : Seg B T R [] [] := ⟨rfl, by rw [h]; rfl, fun i x hi => by simp at hi⟩
theorem Seg.snoc {R : OV → α → Prop} (h : Seg B T R l E) {b : Nat} {u : OV} {x : α} (ha : B'.ad T = B.ad T ++ [b]) {R' : OV → α → Prop} (hr : ∀ u x, R u x → R' u x) (hx : R' u x) : Seg B' T R' (l ++ [x]) (E ++ [(b, some u)]) := by
  have h1 := h.len
  have h2 := h.ad
  refine ⟨by simp [h1], by rw [ha]; simp [h2], fun i y hi => ?_⟩
  rcases Nat.lt_or_ge i l.length with hlt | hge
  · rw [List.getElem?_append_left hlt] at hi
    obtain ⟨b', u', a, c, d⟩ := h.at_ i y hi
    exact ⟨b', u', by rw [ha, List.getElem?_append_left (by omega)]; exact a, by rw [List.getElem?_append_left (by omega)]; exact c, hr _ _ d⟩
  · have hie : i = l.length := by
      have := (List.getElem?_eq_some_iff.1 hi).1
      simp at this; omega
    subst hie
    simp at hi; subst hi
    exact ⟨b, u, by rw [ha, ← h2]; simp, by rw [← h1]; simp, hx⟩
theorem Seg.set {R : OV → α → Prop} (h : Seg B T R l E) {i b : Nat} {u u' : OV} {x' : α} (hb : (B.ad T)[i]? = some b) (hx : R u' x') : Seg B T R (l.set i x') (E.set i (b, some u')) := by
  refine ⟨by simp [h.len], by simp [h.ad], fun j y hj => ?_⟩
  rw [List.getElem?_set] at hj
  split at hj
  · rename_i e; subst e
    split at hj
    · rename_i hlt
      simp at hj; subst hj
      exact ⟨b, u', hb, by rw [List.getElem?_set_self (by rw [h.len]; exact hlt)], hx⟩
    · cases hj
  · rename_i hne
    obtain ⟨b', v, a, c, d⟩ := h.at_ j y hj
    exact ⟨b', v, a, by rw [List.getElem?_set_ne hne]; exact c, d⟩
theorem Upd.at_ {x y : Nat × Option OV} : ∀ {F : Own} {i : Nat}, F[i]? = some x → Upd x y F (F.set i y)
  | a :: F, 0, hx => by simp at hx; subst hx; exact Upd.h
  | a :: F, i + 1, hx => .t (Upd.at_ (F := F) (i := i) (by simpa using hx))
theorem Upd.pre {x y : Nat × Option OV} (h : Upd x y E E') : ∀ X : Own, Upd x y (X ++ E) (X ++ E')
  | [] => h
  | a :: X => .t (Upd.pre h X)
def Foc (B : Kn) (T : Nat) (R : Kn → OV → α → Prop) (l : List α) (E : Own) (K : Kn → List α → Own → Prop) : Prop :=
  ∃ pre F post, E = pre ++ (F ++ post) ∧ Seg B T (R B) l F ∧ ∀ B' l' F', KLw B B' → (∀ t, t ≠ T → B'.ad t = B.ad t) → Seg B' T (R B') l' F' → K B' l' (pre ++ (F' ++ post))
def hobj (l : List α) (n : Nat) : Option α := if n = 0 then none else l[n - 1]?
def hset (l : List α) (n : Nat) (x : α) : List α := l.set (n - 1) x
theorem Foc.get {R : Kn → OV → α → Prop} {K : Kn → List α → Own → Prop} (hf : Foc B T R l E K) {i b : Nat} (hb : (B.ad T)[i]? = some b) : ∃ u x, l[i]? = some x ∧ (b, some u) ∈ E ∧ R B u x ∧ ∀ u' x', R B u' x' → ∃ E', Upd (b, some u) (b, some u') E E' ∧ K B (l.set i x') E' := by
  obtain ⟨pre, F, post, rfl, hs, hk⟩ := hf
  have hil : i < l.length := by have := (List.getElem?_eq_some_iff.1 hb).1; have := hs.ad; omega
  obtain ⟨b', u, a, c, d⟩ := hs.at_ i _ (List.getElem?_eq_getElem hil)
  rw [hb] at a; simp at a; subst a
  refine ⟨u, _, List.getElem?_eq_getElem hil, List.mem_append_right _ (List.mem_append_left _ (List.mem_of_getElem? c)), d, fun u' x' hx => ⟨pre ++ (F.set i (b, some u') ++ post), ((Upd.at_ c).app post).pre pre, ?_⟩⟩
  exact hk B _ _ (KLw.refl B) (fun _ _ => rfl) (hs.set (u := u) hb hx)
def SR (t : Ty α) (B : Kn) (u : OV) (x : α) : Prop := ∃ cs, u = .c cs ∧ t.R B cs x
def MR {κ : Type} [DecidableEq κ] (tk : KTy κ) (tv : KTy α) (B : Kn) (u : OV) (x : List (κ × α)) : Prop := ∃ es c, u = .m es c ∧ MRel tk tv B es c x
theorem SR.mono {t : Ty α} (hk : KLw B B') {u : OV} {x : α} (h : SR t B u x) : SR t B' u x := let ⟨cs, a, b⟩ := h; ⟨cs, a, t.mono hk b⟩
theorem MR.mono [DecidableEq κ] {tk : KTy κ} {tv : KTy α} (hk : KLw B B') {u : OV} {x : List (κ × α)} (h : MR tk tv B u x) : MR tk tv B' u x := let ⟨es, c, a, b⟩ := h; ⟨es, c, a, b.mono hk⟩
theorem HPt.ne0 {v : AV} {n : Nat} (h : HPt B T v n) (hn : n ≠ 0) : ∃ b i, n = i + 1 ∧ (B.ad T)[i]? = some b ∧ v = .ptr b 0 := by
  rcases h with ⟨e, _⟩ | h
  · exact absurd e hn
  · exact h
theorem hobj_some {n : Nat} {x : α} (h : hobj l n = some x) : ∃ i, n = i + 1 ∧ l[i]? = some x := by
  unfold hobj at h
  split at h
  · cases h
  · exact ⟨n - 1, by omega, h⟩
theorem hgetS {t : Ty α} {K : Kn → List α → Own → Prop} (hf : Foc B T (SR t) l E K) {v : AV} {n : Nat} (hp : HPt B T v n) {x : α} (hx : hobj l n = some x) :
    ∃ b cs, v = .ptr b 0 ∧ (b, some (OV.c cs)) ∈ E ∧ t.R B cs x ∧ ∀ cs' x', t.R B cs' x' → ∃ E', Upd (b, some (OV.c cs)) (b, some (OV.c cs')) E E' ∧ K B (hset l n x') E' := by
  obtain ⟨i, rfl, hi⟩ := hobj_some hx
  obtain ⟨b, j, hj, hb, rfl⟩ := hp.ne0 (by omega)
  obtain rfl : i = j := by omega
  obtain ⟨u, y, hy, hm, ⟨cs, rfl, hr⟩, hs⟩ := hf.get hb
  rw [hi] at hy; simp at hy; subst hy
  exact ⟨b, cs, rfl, hm, hr, fun cs' x' hr' => let ⟨E', a, c⟩ := hs (.c cs') x' ⟨cs', rfl, hr'⟩; ⟨E', a, c⟩⟩
section ops
variable {P : Program} {N n0 : Nat} {ops : Array Oper} {Rr : Post} {k : List It} {fr : Fr} {M : Own}
def MOpE (P : Program) (op : Op) (fr : Fr) (B : Kn) (A E L : Own) (Q : AV → Kn → Own → Own → Prop) : Prop :=
  ∀ st, st.lw → Hp B (A ++ (E ++ L)) st → ∃ v st' B' A' E', evOp P op fr st = some (v, st') ∧ st'.lw ∧ Hp B' (A' ++ (E' ++ L)) st' ∧ Q v B' A' E'
theorem WO.e {d : Option Nat} {op : Op} {ty : TypeId} {ps : String} {af : Array Edge} {g : Option (Nat × Bool)} {rest : List Oper} {Q : AV → Kn → Own → Own → Prop} (hm : MOpE P op fr B A E L Q) (hw : wantedA ops.toList fr ⟨d, op, ty, ps, af, g⟩ = some true) (hd : dstOk N d = true)
    (h : ∀ v B' A' E', Q v B' A' E' → WO P N n0 ops rest Rr k (fr.put d v) B' A' (E' ++ L)) : WO P N n0 ops (⟨d, op, ty, ps, af, g⟩ :: rest) Rr k fr B A (E ++ L) := fun st hl hp => by
  obtain ⟨v, st', B', A', E', h1, h2, h3, h4⟩ := hm st hl hp
  exact AOps.one (p := (fr.put d v, st')) (by
    unfold evStep
    rw [hw, Option.bind_some, if_pos hd, if_pos rfl, h1]; rfl) (h v B' A' E' h4 st' h2 h3)
theorem WO.ed {d : Nat} {op : Op} {ty : TypeId} {ps : String} {af : Array Edge} {g : Option (Nat × Bool)} {rest : List Oper} {Q : AV → Kn → Own → Own → Prop} (hm : MOpE P op fr B A E L Q) (hw : wantedA ops.toList fr ⟨some d, op, ty, ps, af, g⟩ = some true) (hd : dstOk N (some d) = true)
    (h : ∀ v B' A' E', Q v B' A' E' → WO P N n0 ops rest Rr k ((d, v) :: fr) B' A' (E' ++ L)) : WO P N n0 ops (⟨some d, op, ty, ps, af, g⟩ :: rest) Rr k fr B A (E ++ L) := WO.e hm hw hd h
theorem WO.en {op : Op} {ty : TypeId} {ps : String} {af : Array Edge} {g : Option (Nat × Bool)} {rest : List Oper} {Q : AV → Kn → Own → Own → Prop} (hm : MOpE P op fr B A E L Q) (hw : wantedA ops.toList fr ⟨none, op, ty, ps, af, g⟩ = some true)
    (h : ∀ v B' A' E', Q v B' A' E' → WO P N n0 ops rest Rr k fr B' A' (E' ++ L)) : WO P N n0 ops (⟨none, op, ty, ps, af, g⟩ :: rest) Rr k fr B A (E ++ L) := WO.e hm hw rfl h
theorem inE {x : Nat × Option OV} (h : x ∈ E) : x ∈ A ++ (E ++ L) := List.mem_append_right _ (List.mem_append_left _ h)
theorem QOp.ldSm {x : Operand} {t : TypeId} {ti : TI} {b off : Nat} {cs : List AV} {v : AV} (hx : fr.ev x = .ptr b off) (hA : (b, some (OV.c cs)) ∈ A) (hv : cs[off]? = some v) (ht : tinfo P t = some ti) (ha : ti.k.agg = false) : QOp P (.load t x) fr B A v := fun st hr => by
  simp only [evOp, hx, Gab.ldS ht ha (hr.ro hA) hv, Option.bind_some]
theorem QOp.ldAm {x : Operand} {t : TypeId} {ti : TI} {b off : Nat} {cs vs : List AV} (hx : fr.ev x = .ptr b off) (hA : (b, some (OV.c cs)) ∈ A) (hv : loadN cs off ti.size = some vs) (ht : tinfo P t = some ti) (ha : ti.k.agg = true) : QOp P (.load t x) fr B A (.agg vs) := fun st hr => by
  simp only [evOp, hx, Gab.ldA ht ha (hr.ro hA) hv, Option.bind_some]
theorem oc {v : AV} {vs : List AV} (h : v.one = true) (hs : vs.all AV.one = true) : (v :: vs).all AV.one = true := by simp [h, hs]
theorem MOpE.st {t : TypeId} {a x : Operand} {ti : TI} {b off : Nat} {cs vs cs' : List AV} (ha : fr.ev a = .ptr b off) (hx : (fr.ev x).cells = some vs) (hu : Upd (b, some (OV.c cs)) (b, some (OV.c cs')) E E') (ht : tinfo P t = some ti)
    (hsz : vs.length = ti.size) (ho : vs.all AV.one = true) (hf : off + vs.length ≤ cs.length) (he : setL cs off vs = cs') : MOpE P (.store t a x) fr B A E L fun _ B' A' E'' => B' = B ∧ A' = A ∧ E'' = E' := fun st hl hp => by
  have hm : (b, some (OV.c cs)) ∈ A ++ (E ++ L) := inE hu.mem
  refine ⟨.any, st.set b (.blk cs' true), B, A, E', ?_, lw_set hl (o' := .blk cs' true) (hp.lt hl hm) _, ((hu.app L).pre A).hp hp (fun i hi => set_get_old hi) (set_get_new rfl), rfl, rfl, rfl⟩
  simp only [evOp, evStore, ha, ht, Option.bind_some, hx, hp.rd.wr hm]
  rw [need_pos ⟨hsz, hf⟩, if_pos ho, he]; rfl
structure MapT [DecidableEq κ] (P : Program) (T : TypeId) (tk : KTy κ) (tv : KTy α) (z : α) : Prop where
  ex : ∃ ti kt et ki w, tinfo P T = some ti ∧ ti.k = .map kt et ∧ tinfo P kt = some ki ∧ KeyT P kt tk ki.k ∧ zinfo P et = some w ∧ ∀ B, tv.R B w z
def hmap {κ α : Type} (l : List (List (κ × α))) (n : Nat) : Option (List (κ × α)) := if n = 0 then some [] else l[n - 1]?
theorem hgetM [DecidableEq κ] {tk : KTy κ} {tv : KTy α} {l : List (List (κ × α))} {K : Kn → List (List (κ × α)) → Own → Prop} (hf : Foc B T (MR tk tv) l E K) {v : AV} {n : Nat} (hp : HMt B T v n) {x : List (κ × α)} (hx : hmap l n = some x) :
    (v = .nilmap ∧ x = []) ∨ ∃ b es c, v = .map b ∧ (b, some (OV.m es c)) ∈ E ∧ MRel tk tv B es c x := by
  unfold hmap at hx
  rcases hp with ⟨rfl, rfl⟩ | ⟨b, i, rfl, hb, rfl⟩
  · simp at hx; exact .inl ⟨rfl, hx⟩
  · obtain ⟨u, y, hy, hm, ⟨es, c, rfl, hr⟩, _⟩ := hf.get hb
    rw [if_neg (by omega), show i + 1 - 1 = i by omega, hy] at hx
    simp at hx; subst hx
    exact .inr ⟨b, es, c, rfl, hm, hr⟩
theorem getMap_in {st : St} {b : Nat} {es : MEnts} {c : Nat} (hr : Rd B M st) (h : (b, some (OV.m es c)) ∈ M) : getMap st b = some (es, c) := getMap_of (hr.own b _ h)
theorem ents_rel [DecidableEq κ] {tk : KTy κ} {tv : KTy α} {l : List (List (κ × α))} {K : Kn → List (List (κ × α)) → Own → Prop} (hf : Foc B T (MR tk tv) l E K) {v : AV} {n : Nat} (hp : HMt B T v n) {x : List (κ × α)} (hx : hmap l n = some x) :
    ∃ es c, MRel tk tv B es c x ∧ ∀ st, Rd B (A ++ (E ++ L)) st → entsOf st v = some es := by
  rcases hgetM hf hp hx with ⟨rfl, rfl⟩ | ⟨b, es, c, rfl, hm, hr⟩
  · exact ⟨[], 0, .nil, fun st _ => rfl⟩
  · exact ⟨es, c, hr, fun st h => by simp only [entsOf, getMap_in h (inE hm), Option.map_some]⟩
@[reducible] def lkV (ok : Bool) (u : AV) (b : Bool) : AV := match ok with
  | true => .tup [u, .bool b]
  | false => u
theorem MOp.lookup [DecidableEq κ] {t : TypeId} {m ky : Operand} {ok : Bool} {tk : KTy κ} {tv : KTy α} {z : α} (ht : MapT P t tk tv z) {l : List (List (κ × α))} {K : Kn → List (List (κ × α)) → Own → Prop} (hf : Foc B T (MR tk tv) l E K) {n : Nat} {mv kv : AV} (hp : HMt B T mv n) {x : List (κ × α)} (hx : hmap l n = some x) {key : κ} (hk : tk.R B kv key) (e0 : fr.ev m = mv) (e1 : fr.ev ky = kv) :
    MOp P (.lookup t m ky ok) fr B A (E ++ L) fun v A' => A' = A ∧ ∃ u, tv.R B u ((mget x key).getD z) ∧ v = lkV ok u (mget x key).isSome := fun st hl hh => by
  subst e0; subst e1
  obtain ⟨ti, kt, et, ki, w, h1, h2, h3, h4, h5, h6⟩ := ht.ex
  obtain ⟨es, c, hr, hes⟩ := ents_rel (A := A) (L := L) hf hp hx
  obtain ⟨r, hfd, hc⟩ := hr.find h4 hk
  have hkk := h4.ok _ _ _ hk
  rcases hc with ⟨rfl, hm⟩ | ⟨i, u, y, rfl, hm, hu⟩
  · refine ⟨lkV ok w false, st, A, ?_, hl, hh, rfl, w, by rw [hm]; exact h6 B, by rw [hm]; rfl⟩
    simp only [evOp, evLookup, h1, h2, h3, hkk, hes st hh.rd, hfd, h5, Option.bind_some, if_true]
    cases ok <;> rfl
  · refine ⟨lkV ok u true, st, A, ?_, hl, hh, rfl, u, by rw [hm]; exact hu, by rw [hm]; rfl⟩
    simp only [evOp, evLookup, h1, h2, h3, hkk, hes st hh.rd, hfd, Option.bind_some, if_true]
    cases ok <;> rfl
theorem MOp.lenM [DecidableEq κ] {c : Call} {t : TypeId} {m : Operand} {tk : KTy κ} {tv : KTy α} {z : α} (h1 : c.callee = .builtin .len) (h2 : c.argTypes.toList = [t]) (h3 : c.args.toList = [m]) (ht : MapT P t tk tv z) {l : List (List (κ × α))} {K : Kn → List (List (κ × α)) → Own → Prop} (hf : Foc B T (MR tk tv) l E K) {n : Nat} {mv : AV} (hp : HMt B T mv n) {x : List (κ × α)} (hx : hmap l n = some x) (e0 : fr.ev m = mv) :
    MOp P (.call c) fr B A (E ++ L) fun v A' => v = .int .i64 (x.length : Int) ∧ A' = A := fun st hl hh => by
  subst e0
  obtain ⟨ti, kt, et, ki, w, g1, g2, g3, g4, g5, g6⟩ := ht.ex
  obtain ⟨es, c', hr, hes⟩ := ents_rel (A := A) (L := L) hf hp hx
  obtain ⟨ps, p1, p2, _⟩ := hr.ps
  have hlen : es.length = x.length := by rw [p2]; exact p1.length_eq
  refine ⟨_, st, A, ?_, hl, hh, rfl, rfl⟩
  have hn : evLen P t (fr.ev m) = none := by
    unfold evLen
    rw [g1, Option.bind_some, g2]
  simp only [evOp, h1, h2, h3, List.map_cons, List.map_nil, evBuiltin, hn, evLenM, g1, g2, hes st hh.rd, Option.bind_some, hlen]
theorem MOpE.put [DecidableEq κ] {t : TypeId} {m ky vl : Operand} {tk : KTy κ} {tv : KTy α} {z : α} (ht : MapT P t tk tv z) {l : List (List (κ × α))} {K : Kn → List (List (κ × α)) → Own → Prop} (hf : Foc B T (MR tk tv) l E K) {n : Nat} {mv kv vv : AV} (hp : HMt B T mv n) {x : List (κ × α)} (hx : hobj l n = some x) {key : κ} {y : α} (hk : tk.R B kv key) (hv : tv.R B vv y) (e0 : fr.ev m = mv) (e1 : fr.ev ky = kv) (e2 : fr.ev vl = vv) :
    MOpE P (.mapUpdate t m ky vl) fr B A E L fun _ B' A' E' => B' = B ∧ A' = A ∧ K B (hset l n (mput x key y)) E' := fun st hl hh => by
  subst e0; subst e1; subst e2
  obtain ⟨ti, kt, et, ki, w, h1, h2, h3, h4, h5, h6⟩ := ht.ex
  obtain ⟨i, rfl, hi⟩ := hobj_some hx
  rcases hp with ⟨e, _⟩ | ⟨b, j, hj, hb, hm⟩
  · omega
  obtain rfl : i = j := by omega
  obtain ⟨u, x', hx', hmem, ⟨es, c, rfl, hr⟩, hs⟩ := hf.get hb
  rw [hi] at hx'; simp at hx'; subst hx'
  obtain ⟨r, es', c', hfd, hr', hc⟩ := hr.put h4 hk hv
  obtain ⟨E', hu, hK⟩ := hs (.m es' c') _ ⟨es', c', rfl, hr'⟩
  have hmA : (b, some (OV.m es c)) ∈ A ++ (E ++ L) := inE hmem
  refine ⟨.any, st.set b (.map es' c'), B, A, E', ?_, lw_set hl (o' := .map es c) (hh.lt hl hmA) _, ((hu.app L).pre A).hp hh (fun i hi => set_get_old hi) (set_get_new rfl), rfl, rfl, hK⟩
  have hkk := h4.ok _ _ _ hk
  rcases hc with ⟨rfl, rfl, rfl⟩ | ⟨j, w', e, rfl, he, rfl, rfl⟩
  · simp only [evOp, evMapUpdate, h1, h2, h3, hkk, hm, getMap_in hh.rd hmA, hfd, Option.bind_some, if_true]
  · simp only [evOp, evMapUpdate, h1, h2, h3, hkk, hm, getMap_in hh.rd hmA, hfd, he, Option.bind_some, if_true]
theorem Upd.mem2 {x y : Nat × Option OV} {A A' : Own} (h : Upd x y A A') : y ∈ A' := by
  induction h with
  | h => simp
  | t _ ih => exact List.mem_cons_of_mem _ ih
theorem MOpE.ment [DecidableEq κ] {t : TypeId} {m ky : Operand} {tk : KTy κ} {tv : KTy α} {z : α} (ht : MapT P t tk tv z) {l : List (List (κ × α))} {K : Kn → List (List (κ × α)) → Own → Prop} (hf : Foc B T (MR tk tv) l E K) {n : Nat} {mv kv : AV} (hp : HMt B T mv n) {x : List (κ × α)} (hx : hobj l n = some x) {key : κ} (hk : tk.R B kv key) (e0 : fr.ev m = mv) (e1 : fr.ev ky = kv) :
    MOpE P (.mapEntry t m ky) fr B A E L fun v B' A' E' => B' = B ∧ A' = A ∧ K B (hset l n (ment x key z)) E' ∧ ∃ u s, v = .tup [u, .int .i64 s] ∧ Stamp tk B T n key s E' := fun st hl hh => by
  subst e0; subst e1
  obtain ⟨ti, kt, et, ki, w, h1, h2, h3, h4, h5, h6⟩ := ht.ex
  obtain ⟨i, rfl, hi⟩ := hobj_some hx
  rcases hp with ⟨e, _⟩ | ⟨b, j, hj, hb, hm⟩
  · omega
  obtain rfl : i = j := by omega
  obtain ⟨u, x', hx', hmem, ⟨es, c, rfl, hr⟩, hs⟩ := hf.get hb
  rw [hi] at hx'; simp at hx'; subst hx'
  obtain ⟨r, es', c', hfd, hr', hc⟩ := hr.ment h4 hk (h6 B)
  obtain ⟨E', hu, hK⟩ := hs (.m es' c') _ ⟨es', c', rfl, hr'⟩
  have hmA : (b, some (OV.m es c)) ∈ A ++ (E ++ L) := inE hmem
  have hkk := h4.ok _ _ _ hk
  have hE' : (b, some (OV.m es' c')) ∈ E' := hu.mem2
  rcases hc with ⟨rfl, rfl, rfl, _⟩ | ⟨j, w', e, y, rfl, he, rfl, hcc, _⟩
  · refine ⟨.tup [w, .int .i64 (c : Int)], st.set b (.map (es ++ [(fr.ev ky, w, c)]) (c + 1)), B, A, E', ?_, lw_set hl (o' := .map es c) (hh.lt hl hmA) _, ((hu.app L).pre A).hp hh (fun i hi => set_get_old hi) (set_get_new rfl), rfl, rfl, hK, _, _, rfl, b, _, _, es.length, fr.ev ky, w, c, by simpa using hb, hE', by simp, hk, rfl⟩
    simp only [evOp, evMapEntry, h1, h2, h3, hkk, hm, getMap_in hh.rd hmA, hfd, h5, Option.bind_some, if_true]
  · refine ⟨.tup [w', .int .i64 (e.2.2 : Int)], st.set b (.map (es.set j (fr.ev ky, e.2.1, e.2.2)) c'), B, A, E', ?_, lw_set hl (o' := .map es c) (hh.lt hl hmA) _, ((hu.app L).pre A).hp hh (fun i hi => set_get_old hi) (set_get_new rfl), rfl, rfl, hK, _, _, rfl, b, _, _, j, fr.ev ky, e.2.1, e.2.2, by simpa using hb, hE', by rw [List.getElem?_set_self (List.getElem?_eq_some_iff.1 he).1], hk, rfl⟩
    simp only [evOp, evMapEntry, h1, h2, h3, hkk, hm, getMap_in hh.rd hmA, hfd, he, Option.bind_some, if_true, hcc]
theorem MOpE.est [DecidableEq κ] {t : TypeId} {m sy vl : Operand} {tk : KTy κ} {tv : KTy α} {z : α} (ht : MapT P t tk tv z) {l : List (List (κ × α))} {K : Kn → List (List (κ × α)) → Own → Prop} (hf : Foc B T (MR tk tv) l E K) {n : Nat} {mv vv : AV} (hp : HMt B T mv n) {x : List (κ × α)} (hx : hobj l n = some x) {key : κ} {s : Int} (hst : Stamp tk B T n key s E) {y : α} (hv : tv.R B vv y) (e0 : fr.ev m = mv) (e1 : fr.ev sy = .int .i64 s) (e2 : fr.ev vl = vv) :
    MOpE P (.entryStore t m sy vl) fr B A E L fun _ B' A' E' => B' = B ∧ A' = A ∧ K B (hset l n (mput x key y)) E' := fun st hl hh => by
  subst e0; subst e2
  obtain ⟨ti, kt, et, ki, w, h1, h2, h3, h4, h5, h6⟩ := ht.ex
  obtain ⟨i, rfl, hi⟩ := hobj_some hx
  rcases hp with ⟨e, _⟩ | ⟨b, j, hj, hb, hm⟩
  · omega
  obtain rfl : i = j := by omega
  obtain ⟨u, x', hx', hmem, ⟨es, c, rfl, hr⟩, hs⟩ := hf.get hb
  rw [hi] at hx'; simp at hx'; subst hx'
  obtain ⟨b', es', c', j, k, uu, q, hb', hmem', hj, hkR, rfl⟩ := hst
  have hmA : (b, some (OV.m es c)) ∈ A ++ (E ++ L) := inE hmem
  rw [show i + 1 - 1 = i by omega, hb] at hb'; simp at hb'; subst hb'
  have hee := getMap_in hh.rd hmA
  rw [getMap_in hh.rd (inE hmem' : _ ∈ A ++ (E ++ L))] at hee
  simp at hee; obtain ⟨rfl, rfl⟩ := hee
  obtain ⟨ps, p1, p2, p3⟩ := hr.ps
  obtain ⟨p, hpj, hpk, _⟩ := p3 j k uu q hj
  have hpe : p.1 = key := by
    have a := h4.eq _ _ _ _ _ _ hpk hkR
    have c := h4.eq _ _ _ _ _ _ hkR hkR
    rw [c] at a; simpa using a.symm
  obtain ⟨p1', p2'⟩ := p
  obtain rfl := hpe
  have hr' := hr.setAt p1 p2 p3 hpj hj hkR hv
  obtain ⟨E', hu, hK⟩ := hs (.m (es'.set j (k, fr.ev vl, q)) c') _ ⟨_, _, rfl, hr'⟩
  refine ⟨.any, st.set b (.map (es'.set j (k, fr.ev vl, q)) c'), B, A, E', ?_, lw_set hl (o' := .map es' c') (hh.lt hl hmA) _, ((hu.app L).pre A).hp hh (fun i hi => set_get_old hi) (set_get_new rfl), rfl, rfl, hK⟩
  have hfi : es'.findIdx? (fun e => ((e.2.2 : Nat) : Int) == (q : Int)) = some j := by
    rw [List.findIdx?_eq_some_iff_getElem]
    have hjl := (List.getElem?_eq_some_iff.1 hj).1
    have hje := (List.getElem?_eq_some_iff.1 hj).2
    refine ⟨hjl, by rw [hje]; simp, fun i' hlt he' => ?_⟩
    have he2 : es'[i'].2.2 = q := by have := he'; simp only [beq_iff_eq] at this; omega
    have hn := hr.nb
    have hne := (List.pairwise_iff_getElem.1 hn) i' j (by simp; omega) (by simpa using hjl) hlt
    simp only [List.getElem_map] at hne
    exact hne (by rw [he2, hje])
  simp only [evOp, evEntryStore, e1, hm, getMap_in hh.rd hmA, hfi, hj, Option.bind_some]
theorem MOpE.del [DecidableEq κ] {c : Call} {t : TypeId} {m ky : Operand} {ts : List TypeId} {tk : KTy κ} {tv : KTy α} {z : α} (g1 : c.callee = .builtin .delete) (g2 : c.argTypes.toList = t :: ts) (g3 : c.args.toList = [m, ky]) (ht : MapT P t tk tv z) {l : List (List (κ × α))} {K : Kn → List (List (κ × α)) → Own → Prop} (hf : Foc B T (MR tk tv) l E K) {n : Nat} {mv kv : AV} (hp : HMt B T mv n) {x : List (κ × α)} (hx : hobj l n = some x) {key : κ} (hk : tk.R B kv key) (e0 : fr.ev m = mv) (e1 : fr.ev ky = kv) :
    MOpE P (.call c) fr B A E L fun v B' A' E' => v = .tup [] ∧ B' = B ∧ A' = A ∧ K B (hset l n (mdel x key)) E' := fun st hl hh => by
  subst e0; subst e1
  obtain ⟨ti, kt, et, ki, w, h1, h2, h3, h4, h5, h6⟩ := ht.ex
  obtain ⟨i, rfl, hi⟩ := hobj_some hx
  rcases hp with ⟨e, _⟩ | ⟨b, j, hj, hb, hm⟩
  · omega
  obtain rfl : i = j := by omega
  obtain ⟨u, x', hx', hmem, ⟨es, c', rfl, hr⟩, hs⟩ := hf.get hb
  rw [hi] at hx'; simp at hx'; subst hx'
  obtain ⟨r, es', hfd, hr', hc⟩ := hr.del h4 hk
  obtain ⟨E', hu, hK⟩ := hs (.m es' c') _ ⟨es', c', rfl, hr'⟩
  have hmA : (b, some (OV.m es c')) ∈ A ++ (E ++ L) := inE hmem
  refine ⟨.tup [], st.set b (.map es' c'), B, A, E', ?_, lw_set hl (o' := .map es c') (hh.lt hl hmA) _, ((hu.app L).pre A).hp hh (fun i hi => set_get_old hi) (set_get_new rfl), rfl, rfl, rfl, hK⟩
  have hkk := h4.ok _ _ _ hk
  rcases hc with ⟨rfl, rfl⟩ | ⟨j, w', rfl, rfl⟩
  · simp only [evOp, g1, g2, g3, List.map_cons, List.map_nil, evBuiltin, evDelete, h1, h2, h3, hkk, hm, getMap_in hh.rd hmA, hfd, Option.bind_some, if_true]
  · simp only [evOp, g1, g2, g3, List.map_cons, List.map_nil, evBuiltin, evDelete, h1, h2, h3, hkk, hm, getMap_in hh.rd hmA, hfd, Option.bind_some, if_true]
theorem MOpE.clrM [DecidableEq κ] {c : Call} {t : TypeId} {m : Operand} {ts : List TypeId} {tk : KTy κ} {tv : KTy α} {z : α} (g1 : c.callee = .builtin .clear) (g2 : c.argTypes.toList = t :: ts) (g3 : c.args.toList = [m]) (ht : MapT P t tk tv z) {l : List (List (κ × α))} {K : Kn → List (List (κ × α)) → Own → Prop} (hf : Foc B T (MR tk tv) l E K) {n : Nat} {mv : AV} (hp : HMt B T mv n) {x : List (κ × α)} (hx : hobj l n = some x) (e0 : fr.ev m = mv) :
    MOpE P (.call c) fr B A E L fun v B' A' E' => v = .any ∧ B' = B ∧ A' = A ∧ K B (hset l n []) E' := fun st hl hh => by
  subst e0
  obtain ⟨ti, kt, et, ki, w, h1, h2, h3, h4, h5, h6⟩ := ht.ex
  obtain ⟨i, rfl, hi⟩ := hobj_some hx
  rcases hp with ⟨e, _⟩ | ⟨b, j, hj, hb, hm⟩
  · omega
  obtain rfl : i = j := by omega
  obtain ⟨u, x', hx', hmem, ⟨es, c', rfl, hr⟩, hs⟩ := hf.get hb
  obtain ⟨E', hu, hK⟩ := hs (.m [] c') _ ⟨[], c', rfl, ⟨⟨[], .refl _, rfl, fun i k v b hi => by simp at hi⟩, by simp, by simp, by simp⟩⟩
  have hmA : (b, some (OV.m es c')) ∈ A ++ (E ++ L) := inE hmem
  refine ⟨.any, st.set b (.map [] c'), B, A, E', ?_, lw_set hl (o' := .map es c') (hh.lt hl hmA) _, ((hu.app L).pre A).hp hh (fun i hi => set_get_old hi) (set_get_new rfl), rfl, rfl, rfl, hK⟩
  simp only [evOp, g1, g2, g3, List.map_cons, List.map_nil, evBuiltin, evClear2, h1, h2, hm, getMap_in hh.rd hmA, Option.bind_some]
theorem perm_in {x : Nat × Option OV} {A pre F post L : Own} : (x :: (A ++ ((pre ++ (F ++ post)) ++ L))).Perm (A ++ ((pre ++ ((F ++ [x]) ++ post)) ++ L)) := by
  have e1 : A ++ ((pre ++ (F ++ post)) ++ L) = (A ++ (pre ++ F)) ++ (post ++ L) := by simp only [List.append_assoc]
  have e2 : A ++ ((pre ++ ((F ++ [x]) ++ post)) ++ L) = (A ++ (pre ++ F)) ++ (x :: (post ++ L)) := by simp only [List.append_assoc, List.cons_append, List.nil_append]
  rw [e1, e2]
  exact List.perm_middle.symm
theorem MOpE.mk [DecidableEq κ] {t : TypeId} {tk : KTy κ} {tv : KTy α} {l : List (List (κ × α))} {K : Kn → List (List (κ × α)) → Own → Prop} (hf : Foc B T (MR tk tv) l E K) :
    MOpE P (.makeMap t none) fr B A E L fun v B' A' E' => KLw B B' ∧ A' = A ∧ HMt B' T v (l.length + 1) ∧ K B' (l ++ [[]]) E' := fun st hl hh => by
  obtain ⟨pre, F, post, rfl, hs, hk⟩ := hf
  have hadl := hs.ad
  refine ⟨.map st.n, st.push (.map [] 0), B.obj T st.n, A, pre ++ ((F ++ [(st.n, some (OV.m [] 0))]) ++ post), rfl, lw_push hl _, ((hh.pushV hl (.m [] 0)).objK T st.n).perm perm_in, KLw.obj _ _ _, rfl, ?_, ?_⟩
  · exact .inr ⟨st.n, l.length, rfl, by rw [Kn.obj_at, ← hadl]; simp, rfl⟩
  · exact hk _ _ _ (KLw.obj _ _ _) (fun t ht => Kn.obj_ne ht) (hs.snoc Kn.obj_at (fun u x h => MR.mono (KLw.obj _ _ _) h) ⟨[], 0, rfl, .nil⟩)
theorem Hp.abs {t : Ty α} {K : Kn → List α → Own → Prop} (hf : Foc B T (SR t) l E K) {j b : Nat} {cs : List AV} (hA : A[j]? = some (b, some (OV.c cs))) {x : α} (hr : t.R B cs x) :
    ∃ B' E', KLw B B' ∧ HPt B' T (.ptr b 0) (l.length + 1) ∧ K B' (l ++ [x]) E' ∧ ∀ st, Hp B (A ++ (E ++ L)) st → Hp B' (A.eraseIdx j ++ (E' ++ L)) st := by
  obtain ⟨pre, F, post, rfl, hs, hk⟩ := hf
  have hadl := hs.ad
  refine ⟨B.obj T b, pre ++ ((F ++ [(b, some (OV.c cs))]) ++ post), KLw.obj _ _ _, .inr ⟨b, l.length, rfl, by rw [Kn.obj_at, ← hadl]; simp, rfl⟩, ?_, fun st hp => ?_⟩
  · exact hk _ _ _ (KLw.obj _ _ _) (fun t ht => Kn.obj_ne ht) (hs.snoc Kn.obj_at (fun u x h => SR.mono (KLw.obj _ _ _) h) ⟨cs, rfl, t.mono (KLw.obj _ _ _) hr⟩)
  · exact ((hp.out hA).objK T b).perm perm_in
theorem WO.abs {rest : List Oper} {t : Ty α} {K : Kn → List α → Own → Prop} (hf : Foc B T (SR t) l E K) {j b : Nat} {cs : List AV} (hA : A[j]? = some (b, some (OV.c cs))) {x : α} (hr : t.R B cs x)
    (h : ∀ B' E', KLw B B' → HPt B' T (.ptr b 0) (l.length + 1) → K B' (l ++ [x]) E' → WO P N n0 ops rest Rr k fr B' (A.eraseIdx j) (E' ++ L)) : WO P N n0 ops rest Rr k fr B A (E ++ L) := fun st hl hp => by
  obtain ⟨B', E', h1, h2, h3, h4⟩ := Hp.abs (L := L) hf hA hr
  exact h B' E' h1 h2 h3 st hl (h4 st hp)
theorem WX.abs {t : Ty α} {K : Kn → List α → Own → Prop} (hf : Foc B T (SR t) l E K) {j b : Nat} {cs : List AV} (hA : A[j]? = some (b, some (OV.c cs))) {x : α} (hr : t.R B cs x)
    (h : ∀ B' E', KLw B B' → HPt B' T (.ptr b 0) (l.length + 1) → K B' (l ++ [x]) E' → WX P N n0 Rr k fr B' (A.eraseIdx j) (E' ++ L)) : WX P N n0 Rr k fr B A (E ++ L) := fun st hl hp => by
  obtain ⟨B', E', h1, h2, h3, h4⟩ := Hp.abs (L := L) hf hA hr
  exact h B' E' h1 h2 h3 st hl (h4 st hp)
def CH (B : Kn) (L : Own) (Q : Kn → Own → Own → AV → Prop) : AV → St → Prop := fun v s => ∃ B' X E', KLw B B' ∧ Hp B' (X ++ (E' ++ L)) s ∧ Q B' X E' v
theorem perm_call {A E L : Own} : (A ++ (E ++ L)).Perm (E ++ (A ++ L)) := by
  rw [← List.append_assoc, ← List.append_assoc]
  exact List.perm_append_comm.append_right L
theorem perm_back {X A E L : Own} : (X ++ (E ++ (A ++ L))).Perm ((X ++ A) ++ (E ++ L)) := by
  rw [List.append_assoc]
  exact (perm_call (A := E) (E := A) (L := L)).append_left X
theorem WO.ch {d : Option Nat} {c : Call} {ty : TypeId} {ps : String} {af : Array Edge} {g : Option (Nat × Bool)} {rest : List Oper} {gop : Operand} {f : FuncId} {first cap args : List AV} {Q : Kn → Own → Own → AV → Prop} (hc : c.callee = .value gop) (hg : fr.ev gop = .fn (.func f) first cap) (hs : ∀ st, Hp B (E ++ (A ++ L)) st → ASpec P f args st (CH B (A ++ L) Q)) (ha : first ++ c.args.toList.map fr.ev ++ cap = args) (hw : wantedA ops.toList fr ⟨d, .call c, ty, ps, af, g⟩ = some true) (hd : dstOk N d = true)
    (h : ∀ v B' X E', KLw B B' → Q B' X E' v → WO P N n0 ops rest Rr k (fr.put d v) B' (X ++ A) (E' ++ L)) : WO P N n0 ops (⟨d, .call c, ty, ps, af, g⟩ :: rest) Rr k fr B A (E ++ L) := fun st hl hp =>
  AOps.call rfl hc hw hg ha hd ((hs st (hp.perm perm_call)).lw.mono fun v s ⟨⟨B', X, E', h0, h1, h2⟩, h3⟩ => h v B' X E' h0 h2 s h3 (h1.perm perm_back))
def WXH (P : Program) (N n0 : Nat) (R : Post) (k : List It) (I : Fr → Kn → Own → Own → Prop) (L : Own) : Prop := ∀ fr B A E, I fr B A E → WX P N n0 R k fr B A (E ++ L)
theorem iter_okH {σ ε : Type} {step : σ → Option (σ ⊕ ε)} {I : σ → Fr → Kn → Own → Own → Prop} {D : ε → Prop} {c : Code} {R : Post}
    (hs : ∀ Z : σ ⊕ ε → Prop, (∀ s, Z (.inl s) → WXH P N n0 R (.lp c :: k) (I s) L) → (∀ e, Z (.inr e) → D e) → ∀ s o, step s = some o → Z o → WXH P N n0 R (.code c :: .lp c :: k) (I s) L) :
    ∀ {d : Nat} {s : σ} {e : ε}, iter step d s = some e → D e → WXH P N n0 R (.code c :: .lp c :: k) (I s) L
  | 0, _, _, h, _ => by cases h
  | d + 1, s, e, h, hD => by
    obtain ⟨o, ho, h⟩ := Option.bind_eq_some_iff.1 h
    refine hs (fun o => match o with
      | .inl s' => iter step d s' = some e
      | .inr e' => e' = e) (fun s' hs' fr B A E hI => WX.lp (iter_okH hs hs' hD fr B A E hI)) (fun e' he => by cases he; exact hD) s o ho ?_
    cases o with
    | inl s' => exact h
    | inr e' => exact Option.some.inj h
end ops
end
end Gab
namespace Gab
open Go
theorem cHp {B : Kn} {T n : Nat} {a v : AV} (e : a = v) (h : HPt B T v n) : a.cells = some [v] := by
  rcases h with ⟨_, rfl⟩ | ⟨_, _, _, _, rfl⟩ <;> rw [e] <;> rfl
theorem cHm {B : Kn} {T n : Nat} {a v : AV} (e : a = v) (h : HMt B T v n) : a.cells = some [v] := by
  rcases h with ⟨_, rfl⟩ | ⟨_, _, _, _, rfl⟩ <;> rw [e] <;> rfl
theorem hgetP {α : Type} {B : Kn} {T : Nat} {E : Own} {l : List α} {t : Ty α} {K : Kn → List α → Own → Prop} (hf : Foc B T (SR t) l E K) {b n : Nat} (hp : HPt B T (.ptr b 0) n) {x : α} (hx : hobj l n = some x) :
    ∃ cs, (b, some (OV.c cs)) ∈ E ∧ t.R B cs x ∧ ∀ cs' x', t.R B cs' x' → ∃ E', Upd (b, some (OV.c cs)) (b, some (OV.c cs')) E E' ∧ K B (hset l n x') E' := by
  obtain ⟨b', cs, e, r⟩ := hgetS hf hp hx
  cases e
  exact ⟨cs, r⟩
theorem eveqlnil {P : Program} {B : Kn} {T n : Nat} {v : AV} {Tp e : TypeId} {ti : TI} (h : HPt B T v n) (ht : tinfo P Tp = some ti) (hk : ti.k = .ptr e) : evBin P .eql Tp v .nilptr = some (.bool (decide (n = 0))) := by
  rcases h with ⟨rfl, rfl⟩ | ⟨b, i, rfl, _, rfl⟩ <;> simp only [evBin, evEq, ht, Option.bind_some, hk] <;> simp
theorem evneqnil {P : Program} {B : Kn} {T n : Nat} {v : AV} {Tp e : TypeId} {ti : TI} (h : HPt B T v n) (ht : tinfo P Tp = some ti) (hk : ti.k = .ptr e) : evBin P .neq Tp v .nilptr = some (.bool (!decide (n = 0))) := by
  rcases h with ⟨rfl, rfl⟩ | ⟨b, i, rfl, _, rfl⟩ <;> simp only [evBin, evEq, ht, Option.bind_some, hk] <;> simp
end Gab
namespace Gab
open Go
section
variable {α : Type} {P : Program} {N n0 : Nat} {ops : Array Oper} {Rr : Post} {k : List It} {fr : Fr} {B : Kn} {T : Nat} {E A L M : Own} {l : List α} {i : Nat} {r : Plan}
theorem Kp.kofw {B' : Kn} {L' : Own} {st : St} (hB : KLw B B') (h : Hp B' L' st) (hs : ∀ e ∈ M, e ∈ L') : Kp (Kof B M) (Kof B' M) := Kp.kof ((Rd.kof h hs).lew hB)
theorem WP.ch {d : Option Nat} {c : Call} {ty : TypeId} {ps : String} {af : Array Edge} {g : Option (Nat × Bool)} {gop : Operand} {f : FuncId} {first cap args : List AV} {Q : Kn → Own → Own → AV → Prop} (hi : ops.toList[i]? = some ⟨d, .call c, ty, ps, af, g⟩) (hc : c.callee = .value gop) (hg : fr.ev gop = .fn (.func f) first cap) (hs : ∀ st, Hp B (E ++ (A ++ L)) st → ASpec P f args st (CH B (A ++ L) Q)) (ha : first ++ c.args.toList.map fr.ev ++ cap = args) (hw : wantedA ops.toList fr ⟨d, .call c, ty, ps, af, g⟩ = some true) (hd : dstOk N d = true)
    (hm : ∀ e ∈ M, e ∈ A) (h : ∀ v B' X E', KLw B B' → Q B' X E' v → WP P N n0 ops r Rr k (fr.put d v) B' (X ++ A) (E' ++ L) M) : WP P N n0 ops (.one i r) Rr k fr B A (E ++ L) M := fun _ st hl hp =>
  APl.call hi rfl hc hw hg ha hd ((hs st (hp.perm perm_call)).lw.mono fun v s ⟨⟨B', X, E', h0, h1, h2⟩, h3⟩ => by
    have h1 := h1.perm perm_back
    have hsub' : ∀ x ∈ M, x ∈ (X ++ A) ++ (E' ++ L) := fun x hx => List.mem_append_left _ (List.mem_append_right _ (hm x hx))
    exact ⟨.inr ((h1.lew h0).kpm hsub'), APl.grow (Kp.kofw h0 h1 hsub') (h v B' X E' h0 h2 hsub' s h3 h1)⟩)
theorem WP.e {d : Option Nat} {op : Op} {ty : TypeId} {ps : String} {af : Array Edge} {g : Option (Nat × Bool)} {Q : AV → Kn → Own → Own → Prop} (hi : ops.toList[i]? = some ⟨d, op, ty, ps, af, g⟩) (hm : MOpE P op fr B A E L Q) (hQ : isQ P op = false) (hw : wantedA ops.toList fr ⟨d, op, ty, ps, af, g⟩ = some true) (hd : dstOk N d = true) (hma : ∀ e ∈ M, e ∈ A)
    (h : ∀ v B' A' E', Q v B' A' E' → KLw B B' ∧ (∀ e ∈ A, e ∈ A') ∧ WP P N n0 ops r Rr k (fr.put d v) B' A' (E' ++ L) M) : WP P N n0 ops (.one i r) Rr k fr B A (E ++ L) M := fun _ st hl hp => by
  obtain ⟨v, st', B', A', E', h1, h2, h3, h4⟩ := hm st hl hp
  obtain ⟨h0, h5, h6⟩ := h v B' A' E' h4
  have hsub' : ∀ x ∈ M, x ∈ A' ++ (E' ++ L) := fun x hx => List.mem_append_left _ (h5 x (hma x hx))
  exact APl.op (p := (fr.put d v, st')) hi hQ (by
    unfold evStep
    rw [hw, Option.bind_some, if_pos hd, if_pos rfl, h1]; rfl) (.inr ((h3.lew h0).kpm hsub')) (APl.grow (Kp.kofw h0 h3 hsub') (h6 hsub' st' h2 h3))
theorem WP.es {d : Option Nat} {op : Op} {ty : TypeId} {ps : String} {af : Array Edge} {g : Option (Nat × Bool)} {Q : AV → Kn → Own → Own → Prop} (hi : ops.toList[i]? = some ⟨d, op, ty, ps, af, g⟩) (hm : MOpE P op fr B A E L Q) (hQ : isQ P op = false) (hS : needS P ops i = false) (hw : wantedA ops.toList fr ⟨d, op, ty, ps, af, g⟩ = some true) (hd : dstOk N d = true)
    (h : ∀ v B' A' E', Q v B' A' E' → WS P N n0 ops r Rr k (fr.put d v) B' A' (E' ++ L)) : WP P N n0 ops (.one i r) Rr k fr B A (E ++ L) M := fun _ st hl hp => by
  obtain ⟨v, st', B', A', E', h1, h2, h3, h4⟩ := hm st hl hp
  exact APl.op (p := (fr.put d v, st')) hi hQ (by
    unfold evStep
    rw [hw, Option.bind_some, if_pos hd, if_pos rfl, h1]; rfl) (.inl hS) (h v B' A' E' h4 st' h2 h3 _)
theorem WS.e {d : Option Nat} {op : Op} {ty : TypeId} {ps : String} {af : Array Edge} {g : Option (Nat × Bool)} {Q : AV → Kn → Own → Own → Prop} (hi : ops.toList[i]? = some ⟨d, op, ty, ps, af, g⟩) (hm : MOpE P op fr B A E L Q) (hQ : isQ P op = false) (hS : needS P ops i = false) (hw : wantedA ops.toList fr ⟨d, op, ty, ps, af, g⟩ = some true) (hd : dstOk N d = true)
    (h : ∀ v B' A' E', Q v B' A' E' → WS P N n0 ops r Rr k (fr.put d v) B' A' (E' ++ L)) : WS P N n0 ops (.one i r) Rr k fr B A (E ++ L) := fun st hl hp K => by
  obtain ⟨v, st', B', A', E', h1, h2, h3, h4⟩ := hm st hl hp
  exact APl.op (p := (fr.put d v, st')) hi hQ (by
    unfold evStep
    rw [hw, Option.bind_some, if_pos hd, if_pos rfl, h1]; rfl) (.inl hS) (h v B' A' E' h4 st' h2 h3 K)
theorem WP.abs {t : Ty α} {K : Kn → List α → Own → Prop} (hf : Foc B T (SR t) l E K) {j b : Nat} {cs : List AV} (hA : A[j]? = some (b, some (OV.c cs))) {x : α} (hr : t.R B cs x) (hm : ∀ e ∈ M, e ∈ A.eraseIdx j)
    (h : ∀ B' E', KLw B B' → HPt B' T (.ptr b 0) (l.length + 1) → K B' (l ++ [x]) E' → WP P N n0 ops r Rr k fr B' (A.eraseIdx j) (E' ++ L) M) : WP P N n0 ops r Rr k fr B A (E ++ L) M := fun _ st hl hp => by
  obtain ⟨B', E', h1, h2, h3, h4⟩ := Hp.abs (L := L) hf hA hr
  have hsub' : ∀ x ∈ M, x ∈ A.eraseIdx j ++ (E' ++ L) := fun x hx => List.mem_append_left _ (hm x hx)
  exact APl.grow (Kp.kofw h1 (h4 st hp) hsub') (h B' E' h1 h2 h3 hsub' st hl (h4 st hp))
end
end Gab
end
section
set_option linter.unusedSimpArgs false
set_option linter.unusedVariables false
namespace Gab
open Go
theorem next_run {P : Program} {w : World} {r m since last clock : Nat} {seen : Array Nat} {es : Array MapEntry} (hit : w.heap[r]? = some (.mapIter (some m) since seen last)) (hm : w.heap[m]? = some (.map es clock)) (hold : ∀ x ∈ es.toList, x.born < since) (hsc : since ≤ last) (ty : TypeId) :
    ((∀ e ∈ es.toList, e.born ∈ seen.toList) ∧ (Instr.next (.pointer (some ⟨r, 0, none⟩)) false ty).run P w = .ok (.tuple #[.bool false]) w) ∨
    ∃ e ∈ es.toList, e.born ∉ seen.toList ∧ ∃ w1 : World, (w1 = w ∨ w1 = w.drew) ∧ (Instr.next (.pointer (some ⟨r, 0, none⟩)) false ty).run P w = .ok (.tuple #[.bool true, e.key, e.val]) { w1 with heap := w1.heap.setIfInBounds r (.mapIter (some m) since (seen.push e.born) clock) } := by
  simp only [Instr.next, getObj, Sem.run_bind, Sem.run, hit, hm, Result.andThen, next_test_false seen es since last hold hsc, Bool.false_eq_true, if_false]
  have hmem : ∀ x ∈ (Array.filter (fun e => !seen.contains e.born) es).toList, x.born < since ∧ x ∈ es.toList ∧ x.born ∉ seen.toList := fun x hx => by
    simp at hx
    exact ⟨hold x (by simpa using hx.1), by simpa using hx.1, by simpa using hx.2⟩
  have hall : (Array.filter (fun e => !seen.contains e.born) es).size = 0 → ∀ e ∈ es.toList, e.born ∈ seen.toList := fun h0 e he => by
    have h1 := Array.eq_empty_of_size_eq_zero h0
    rw [Array.filter_eq_empty_iff] at h1
    have := h1 e (by simpa using he)
    simpa using this
  generalize Array.filter (fun e => !seen.contains e.born) es = L at hmem hall ⊢
  have e1 : L.filter (fun x => decide (x.born < since)) = L := Array.filter_eq_self.2 (fun x hx => by simpa using (hmem x (by simpa using hx)).1)
  have e2 : L.filter (fun x => decide (x.born ≥ since)) = #[] := by
    rw [Array.filter_eq_empty_iff]
    intro x hx
    have := (hmem x (by simpa using hx)).1
    simp
    omega
  simp only [e1, e2, Array.append_empty]
  by_cases h0 : L.size = 0
  · refine .inl ⟨hall h0, ?_⟩
    have : L = #[] := Array.eq_empty_of_size_eq_zero h0
    subst this
    simp [choose, Sem.run, Question.forced]
  · right
    have hne : L.isEmpty = false := by simp [Array.isEmpty, h0]
    simp only [hne, Bool.false_eq_true, if_false, Array.empty_append, Array.size_map]
    have hch : ∃ (j : Nat) (w1 : World), j < L.size ∧ (w1 = w ∨ w1 = w.drew) ∧ (choose (Question.mapNext L.size)).run P w = .ok j w1 := by
      by_cases hf : L.size ≤ 1
      · exact ⟨0, w, by omega, .inl rfl, by simp [choose, Sem.run, Question.forced, hf]⟩
      · exact ⟨_, w.drew, Nat.mod_lt _ (by omega), .inr rfl, by
          simp only [choose, Sem.run, Question.forced, decide_eq_true_eq, hf, if_false, Question.cut]
          rfl⟩
    obtain ⟨j, w1, hj, hal, hrun⟩ := hch
    have hLj := hmem L[j] (by simp)
    have hh : w1.heap = w.heap := by rcases hal with rfl | rfl <;> rfl
    refine ⟨L[j], hLj.2.1, hLj.2.2, w1, hal, ?_⟩
    have hset : ∀ (o' : Obj), (setObj r o').run P w1 = .ok () { w1 with heap := w1.heap.setIfInBounds r o' } := fun o' => run_setObj_i o' (by rw [hh]; exact hit)
    simp only [hrun, Array.getElem?_map, Array.getElem?_eq_getElem hj, Option.map_some, Sem.run_bind, hset, Result.andThen]
    rfl
section
variable {P : Program} {N n0 : Nat} {Q : Post} {fr : Fr} {st : St} {ops : Array Oper}
theorem AOps.next {d bi bm since last c : Nat} {it : Operand} {ty : TypeId} {ps : String} {af : Array Edge} {g : Option (Nat × Bool)} {rest : List Oper} {seen : List Nat} {es : MEnts}
    (hw : wantedA ops.toList fr ⟨some d, .next it false, ty, ps, af, g⟩ = some true) (hd : d < N) (he : fr.ev it = .ptr bi 0) (hi : st.get bi = some (.miter (some bm) since seen last)) (hm : getMap st bm = some (es, c))
    (hold : ∀ e ∈ es, e.2.2 < since) (hsc : since ≤ last)
    (k0 : (∀ e ∈ es, e.2.2 ∈ seen) → AOps P N n0 ops rest Q ((d, .tup [.bool false]) :: fr) st)
    (k1 : ∀ e ∈ es, e.2.2 ∉ seen → AOps P N n0 ops rest Q ((d, .tup [.bool true, e.1, e.2.1]) :: fr) (st.set bi (.miter (some bm) since (seen ++ [e.2.2]) c))) :
    AOps P N n0 ops (⟨some d, .next it false, ty, ps, af, g⟩ :: rest) Q fr st := by
  intro ro m ρ w a hn hr hf hdf
  have hw := wantedA_ok hw hf
  unfold wpListIn
  rw [hw]
  have hx := hf.ev it
  rw [he] at hx
  obtain ⟨lc', hl', hx⟩ := hx
  obtain ⟨lc, hl, hb0, hit⟩ := hr.obj bi _ hi
  rw [hl] at hl'; simp at hl'; subst hl'
  rcases hit with ⟨e', _⟩ | ⟨m', lm, e', hlm, hh⟩
  · cases e'
  cases e'
  obtain ⟨ents, hhm, hents⟩ := map_obj hr hm hlm
  have hbk : ∀ x ∈ ents.toList, ∃ e ∈ es, RV ρ e.1 x.key ∧ RV ρ e.2.1 x.val ∧ x.born = e.2.2 := fun x hx => by
    obtain ⟨i, hi⟩ := List.mem_iff_getElem?.1 hx
    have hlt : i < es.length := by have := (List.getElem?_eq_some_iff.1 hi).1; rw [hents.1] at this; exact this
    obtain ⟨x', h1, h2, h3, h4⟩ := hents.2 i es[i].1 es[i].2.1 es[i].2.2 (List.getElem?_eq_getElem hlt)
    rw [hi] at h1; simp at h1; subst h1
    exact ⟨es[i], List.getElem_mem hlt, h2, h3, h4⟩
  have hfw : ∀ e ∈ es, ∃ x ∈ ents.toList, x.born = e.2.2 := fun e he => by
    obtain ⟨i, hi⟩ := List.mem_iff_getElem?.1 he
    obtain ⟨x, h1, _, _, h4⟩ := hents.2 i e.1 e.2.1 e.2.2 hi
    exact ⟨x, List.mem_of_getElem? h1, h4⟩
  have hx : a.eval it = .pointer (some ⟨lc.blk, 0, none⟩) := by
    rw [hx, hb0]
  simp only [if_true]
  refine ⟨fun _ _ => trivial, ?_⟩
  rw [Oper.semAt_eq _ _ _ fun c' e => by cases e]
  have hrn : ∀ (c : Value) (w' : World), (Instr.next (a.eval it) false ty).run P w = .ok c w' → (execOp a.eval ⟨some d, .next it false, ty, ps, af, g⟩).run P w = .ok (.value c) w' := by
    intro c w' h
    simp only [execOp]
    exact run_v h
  rcases next_run (P := P) hh hhm (fun x hx => by obtain ⟨e, he, _, _, h⟩ := hbk x hx; rw [h]; exact hold e he) hsc ty with ⟨hall, hrun⟩ | ⟨x, hx1, hx2, w1, hw1, hrun⟩
  · rw [← hx] at hrun
    rw [hrn _ _ hrun, Oper.uponIn_value]
    exact k0 (fun e he => by obtain ⟨x, hx, h⟩ := hfw e he; have := hall x hx; rw [h] at this; simpa using this) ro m ρ w _ hn hr (hf.put (fun t e => by cases e; exact hd) ⟨_, rfl, _, _, rfl, rfl, rfl⟩) hdf
  · rw [← hx] at hrun
    obtain ⟨e, he, hk, hv, hbn⟩ := hbk x hx1
    rw [hrn _ _ hrun, Oper.uponIn_value]
    have hhp : w1.heap = w.heap := by rcases hw1 with rfl | rfl <;> rfl
    obtain ⟨g1, g2⟩ := MapKept.heap_set (o' := .mapIter (some lm.blk) since (seen.toArray.push x.born) c) hh
    obtain ⟨h1, h2⟩ := hr.upd (o' := .miter (some bm) since (seen ++ [e.2.2]) c) hi rfl hl (w' := { w1 with heap := w1.heap.setIfInBounds lc.blk (.mapIter (some lm.blk) since (seen.toArray.push x.born) c) }) (by rw [hhp]; exact g2) (by rw [hhp]; simp) (by rcases hw1 with rfl | rfl <;> rfl) (by rcases hw1 with rfl | rfl <;> rfl) (by rcases hw1 with rfl | rfl <;> rfl) (by rcases hw1 with rfl | rfl; exact Nat.le_refl _; exact Nat.le_succ _) ⟨hb0, .inr ⟨bm, lm, rfl, hlm, by
      show (w1.heap.setIfInBounds _ _)[_]? = _
      rw [hhp, g1, hbn]; simp⟩⟩
    have h2' := h2.le (n1 := n0) (by have := hr.len; omega)
    exact wpListIn_mono (fun _ _ _ hq => CPost.step h2' hq) (k1 e he (by rw [← hbn]; simpa using hx2) ro m ρ _ _ hn h1 (hf.put (fun t e => by cases e; exact hd) ⟨_, rfl, _, _, rfl, rfl, _, _, rfl, hk, _, _, rfl, hv, rfl⟩) ((hdf.next h2').put _ _))
variable {k : List It} {R : Post} {B : Kn} {A L : Own}
def Lft {β : Type} (es : MEnts) (ps : List β) (seen : List Nat) : List β := ((es.zip ps).filter fun z => !seen.contains z.1.2.2).map (·.2)
theorem Lft.zero {β : Type} {es : MEnts} {ps : List β} (h : es.length = ps.length) : Lft es ps [] = ps := by
  unfold Lft
  have : (es.zip ps).filter (fun z => !([] : List Nat).contains z.1.2.2) = es.zip ps := List.filter_eq_self.2 (fun _ _ => rfl)
  rw [this]
  exact List.map_snd_zip (by omega)
theorem Lft.none {β : Type} {es : MEnts} {ps : List β} {seen : List Nat} (h : ∀ e ∈ es, e.2.2 ∈ seen) : Lft es ps seen = [] := by
  unfold Lft
  rw [List.filter_eq_nil_iff.2, List.map_nil]
  intro z hz
  have := h _ (List.of_mem_zip hz).1
  simpa using this
theorem Lft.pick {β : Type} {seen : List Nat} {e : AV × AV × Nat} {p : β} : ∀ {es : MEnts} {ps : List β} {i : Nat}, (es.map (·.2.2)).Nodup → es[i]? = some e → ps[i]? = some p → e.2.2 ∉ seen → (Lft es ps seen).Perm (p :: Lft es ps (seen ++ [e.2.2]))
  | [], _, i, _, h, _, _ => by simp at h
  | _ :: _, [], i, _, _, h, _ => by simp at h
  | a :: es, q :: ps, 0, hn, h1, h2, hs => by
    simp at h1 h2; subst h1; subst h2
    rw [List.map_cons, List.nodup_cons] at hn
    unfold Lft
    have e1 : ∀ z ∈ es.zip ps, (!(seen ++ [a.2.2]).contains z.1.2.2) = !seen.contains z.1.2.2 := fun z hz => by
      have : z.1.2.2 ≠ a.2.2 := fun e => hn.1 (by rw [← e]; exact List.mem_map.2 ⟨_, (List.of_mem_zip hz).1, rfl⟩)
      simp [this]
    rw [List.zip_cons_cons, List.filter_cons_of_pos (by simpa using hs), List.filter_cons_of_neg (by simp), List.filter_congr e1, List.map_cons]
  | a :: es, q :: ps, i + 1, hn, h1, h2, hs => by
    rw [List.map_cons, List.nodup_cons] at hn
    have ih := Lft.pick (es := es) (ps := ps) (i := i) hn.2 (by simpa using h1) (by simpa using h2) hs
    have hne : a.2.2 ≠ e.2.2 := fun ee => hn.1 (by rw [ee]; exact List.mem_map.2 ⟨_, List.mem_of_getElem? (by simpa using h1), rfl⟩)
    unfold Lft at ih ⊢
    rw [List.zip_cons_cons]
    by_cases hc : a.2.2 ∈ seen
    · rw [List.filter_cons_of_neg (by simpa using hc), List.filter_cons_of_neg (by simp [hc])]; exact ih
    · rw [List.filter_cons_of_pos (by simpa using hc), List.filter_cons_of_pos (by simp [hc, hne]), List.map_cons, List.map_cons]
      exact (ih.cons q).trans (.swap _ _ _)
theorem find_stamp {e : AV × AV × Nat} : ∀ {es : MEnts}, (es.map (·.2.2)).Nodup → e ∈ es → (es.find? fun x => x.2.2 == e.2.2) = some e
  | x :: l, hn, he => by
    rw [List.map_cons, List.nodup_cons] at hn
    rcases List.mem_cons.1 he with rfl | h
    · simp
    · have hx : (x.2.2 == e.2.2) = false := by
        cases hc : x.2.2 == e.2.2 with
        | false => rfl
        | true => exact absurd (by rw [beq_iff_eq.1 hc]; exact List.mem_map.2 ⟨e, h, rfl⟩) hn.1
      rw [List.find?_cons, hx]
      exact find_stamp hn.2 h
theorem MOp.range {κ α : Type} [DecidableEq κ] {t : TypeId} {m : Operand} {tk : KTy κ} {tv : KTy α} {z : α} (ht : MapT P t tk tv z) {bm c : Nat} {es : MEnts} (hM : (bm, some (OV.m es c)) ∈ A ++ L) (he : fr.ev m = .map bm) :
    MOp P (.range t m) fr B A L fun v A' => ∃ bi, v = .ptr bi 0 ∧ A' = (bi, some (OV.i (some bm) c [] c)) :: A := fun st hl hh => by
  obtain ⟨ti, kt, et, ki, w, h1, h2, h3, h4, h5, h6⟩ := ht.ex
  refine ⟨.ptr st.n 0, st.push (.miter (some bm) c [] c), (st.n, some (OV.i (some bm) c [] c)) :: A, ?_, lw_push hl _, hh.pushV hl (.i (some bm) c [] c), _, rfl, rfl⟩
  simp only [evOp, evRange, h1, Option.bind_some, h2, he, getMap_in hh.rd hM]
theorem QOp.entry {bi bm c since : Nat} {es : MEnts} {it : Operand} {seen : List Nat} {e : AV × AV × Nat} (he : fr.ev it = .ptr bi 0) (hi : (bi, some (OV.i (some bm) since (seen ++ [e.2.2]) c)) ∈ A) (hM : (bm, some (OV.m es c)) ∈ A) (hn : (es.map (·.2.2)).Nodup) (hm : e ∈ es) :
    QOp P (.entry it) fr B A (.tup [e.1, e.2.1]) := fun st hr => by
  simp only [evOp, he, evEntry, hr.own _ _ hi, OV.obj, getMap_in hr hM, Option.bind_some, if_true, List.getLast?_append, List.getLast?_singleton, Option.some_or, find_stamp hn hm]
theorem WO.next {d bi bm since last c : Nat} {it : Operand} {ty : TypeId} {ps : String} {af : Array Edge} {g : Option (Nat × Bool)} {rest : List Oper} {seen : List Nat} {es : MEnts}
    (hM : (bm, some (OV.m es c)) ∈ A ++ L) (he : fr.ev it = .ptr bi 0) (hold : ∀ e ∈ es, e.2.2 < since) (hsc : since ≤ last)
    (hw : wantedA ops.toList fr ⟨some d, .next it false, ty, ps, af, g⟩ = some true) (hd : decide (d < N) = true)
    (k0 : (∀ e ∈ es, e.2.2 ∈ seen) → WO P N n0 ops rest R k ((d, .tup [.bool false]) :: fr) B ((bi, some (OV.i (some bm) since seen last)) :: A) L)
    (k1 : ∀ e ∈ es, e.2.2 ∉ seen → WO P N n0 ops rest R k ((d, .tup [.bool true, e.1, e.2.1]) :: fr) B ((bi, some (OV.i (some bm) since (seen ++ [e.2.2]) c)) :: A) L) :
    WO P N n0 ops (⟨some d, .next it false, ty, ps, af, g⟩ :: rest) R k fr B ((bi, some (OV.i (some bm) since seen last)) :: A) L := fun st hl hp => by
  have hi : (bi, some (OV.i (some bm) since seen last)) ∈ ((bi, some (OV.i (some bm) since seen last)) :: A) ++ L := List.mem_cons_self
  exact AOps.next hw (of_decide_eq_true hd) he (hp.own _ _ hi) (getMap_in hp.rd (List.mem_cons_of_mem _ hM)) hold hsc (fun h => k0 h st hl hp) (fun e h1 h2 => k1 e h1 h2 _ (lw_set hl (o' := .miter (some bm) since seen last) (hp.lt hl hi) _)
    (Upd.hp (cs := OV.i (some bm) since seen last) (cs' := OV.i (some bm) since (seen ++ [e.2.2]) c) .h hp (fun i hi => set_get_old hi) (set_get_new rfl)))
theorem WX.loopN {I : Nat → Fr → Kn → Own → Own → Prop} {c : Code} (hs : ∀ n fr B A E, I n fr B A E → (∀ n' fr' B' A' E', n' < n → I n' fr' B' A' E' → WX P N n0 R (.lp c :: k) fr' B' A' (E' ++ L)) → WX P N n0 R (.code c :: .lp c :: k) fr B A (E ++ L)) :
    ∀ n fr B A E, I n fr B A E → WX P N n0 R (.code c :: .lp c :: k) fr B A (E ++ L) := by
  intro n
  induction n using Nat.strongRecOn with
  | ind n ih => exact fun fr B A E h => hs n fr B A E h fun n' fr' B' A' E' hn h' => WX.lp (ih n' hn fr' B' A' E' h')
theorem Upd.stay {x y z : Nat × Option OV} {A A' : Own} (h : Upd x y A A') (hz : z ∈ A) (hn : z ≠ x) : z ∈ A' := by
  induction h with
  | h =>
    rcases List.mem_cons.1 hz with e | hz
    · exact absurd e hn
    · exact List.mem_cons_of_mem _ hz
  | t _ ih =>
    rcases List.mem_cons.1 hz with e | hz
    · exact e ▸ List.mem_cons_self
    · exact List.mem_cons_of_mem _ (ih hz)
theorem Seg.ne {α : Type} {T : Nat} {R : OV → α → Prop} {l : List α} {F : Own} (h : Seg B T R l F) (hp : F.Pairwise fun x y => x.2.isSome = true → y.2.isSome = true → x.1 ≠ y.1) {i j b b' : Nat} (hij : i ≠ j) (hi : (B.ad T)[i]? = some b) (hj : (B.ad T)[j]? = some b') : b ≠ b' := by
  have hil : i < l.length := by have := (List.getElem?_eq_some_iff.1 hi).1; have := h.ad; omega
  have hjl : j < l.length := by have := (List.getElem?_eq_some_iff.1 hj).1; have := h.ad; omega
  obtain ⟨b1, u1, a1, c1, _⟩ := h.at_ i _ (List.getElem?_eq_getElem hil)
  obtain ⟨b2, u2, a2, c2, _⟩ := h.at_ j _ (List.getElem?_eq_getElem hjl)
  rw [hi] at a1; rw [hj] at a2; simp at a1 a2; subst a1; subst a2
  obtain ⟨p1, q1⟩ := List.getElem?_eq_some_iff.1 c1
  obtain ⟨p2, q2⟩ := List.getElem?_eq_some_iff.1 c2
  rw [List.pairwise_iff_getElem] at hp
  rcases Nat.lt_or_gt_of_ne hij with hlt | hlt
  · have := hp i j p1 p2 hlt (by rw [q1]; rfl) (by rw [q2]; rfl)
    rw [q1, q2] at this; exact this
  · have := hp j i p2 p1 hlt (by rw [q2]; rfl) (by rw [q1]; rfl)
    rw [q1, q2] at this; exact this.symm
theorem MOpE.putF {κ α : Type} {T : Nat} {E : Own} [DecidableEq κ] {t : TypeId} {m ky vl : Operand} {tk : KTy κ} {tv : KTy α} {z : α} (ht : MapT P t tk tv z) {l : List (List (κ × α))} {K : Kn → List (List (κ × α)) → Own → Prop} (hf : Foc B T (MR tk tv) l E K) {n : Nat} {mv kv vv : AV} (hp : HMt B T mv n) {x : List (κ × α)} (hx : hobj l n = some x) {key : κ} {y : α} (hk : tk.R B kv key) (hv : tv.R B vv y) (e0 : fr.ev m = mv) (e1 : fr.ev ky = kv) (e2 : fr.ev vl = vv) :
    MOpE P (.mapUpdate t m ky vl) fr B A E L fun _ B' A' E' => B' = B ∧ A' = A ∧ K B (hset l n (mput x key y)) E' ∧ ∀ j b u, j + 1 ≠ n → (B.ad T)[j]? = some b → (b, u) ∈ E → (b, u) ∈ E' := fun st hl hh => by
  subst e0; subst e1; subst e2
  obtain ⟨ti, kt, et, ki, w, h1, h2, h3, h4, h5, h6⟩ := ht.ex
  obtain ⟨i, rfl, hi⟩ := hobj_some hx
  rcases hp with ⟨e, _⟩ | ⟨b, j, hj, hb, hm⟩
  · omega
  obtain rfl : i = j := by omega
  obtain ⟨u, x', hx', hmem, ⟨es, c, rfl, hr⟩, hs⟩ := hf.get hb
  rw [hi] at hx'; simp at hx'; subst hx'
  obtain ⟨r, es', c', hfd, hr', hc⟩ := hr.put h4 hk hv
  obtain ⟨E', hu, hK⟩ := hs (.m es' c') _ ⟨es', c', rfl, hr'⟩
  have hmA : (b, some (OV.m es c)) ∈ A ++ (E ++ L) := inE hmem
  have hst : ∀ (j b1 : Nat) (u : Option OV), j + 1 ≠ i + 1 → (B.ad T)[j]? = some b1 → (b1, u) ∈ E → (b1, u) ∈ E' := fun j b1 u hne hj hz => hu.stay hz fun e => by
    obtain ⟨pre, F, post, rfl, hseg, _⟩ := hf
    have hsep := hh.sep
    have hF : F.Pairwise fun x y => x.2.isSome = true → y.2.isSome = true → x.1 ≠ y.1 := hsep.sublist ((((List.sublist_append_left F post).trans (List.sublist_append_right pre _)).trans (List.sublist_append_left _ L)).trans (List.sublist_append_right A _))
    exact hseg.ne hF (show j ≠ i by omega) hj hb (congrArg Prod.fst e)
  refine ⟨.any, st.set b (.map es' c'), B, A, E', ?_, lw_set hl (o' := .map es c) (hh.lt hl hmA) _, ((hu.app L).pre A).hp hh (fun i hi => set_get_old hi) (set_get_new rfl), rfl, rfl, hK, hst⟩
  have hkk := h4.ok _ _ _ hk
  rcases hc with ⟨rfl, rfl, rfl⟩ | ⟨j, w', e, rfl, he, rfl, rfl⟩
  · simp only [evOp, evMapUpdate, h1, h2, h3, hkk, hm, getMap_in hh.rd hmA, hfd, Option.bind_some, if_true]
  · simp only [evOp, evMapUpdate, h1, h2, h3, hkk, hm, getMap_in hh.rd hmA, hfd, he, Option.bind_some, if_true]
theorem MRel.perm {κ α : Type} {tk : KTy κ} {tv : KTy α} {es : MEnts} {c : Nat} {x y : List (κ × α)} (h : MRel tk tv B es c x) (hp : x.Perm y) : MRel tk tv B es c y := by
  obtain ⟨⟨ps, h1, h2, h3⟩, h4, h5, h6⟩ := h
  exact ⟨⟨ps, h1.trans hp, h2, h3⟩, (hp.map _).nodup_iff.1 h4, h5, h6⟩
end
end Gab
end
section
set_option linter.unusedSimpArgs false
set_option linter.unusedVariables false
namespace Gab
open Go
def ndP {ρ : Type} (Z : ρ → Prop) (P : ρ → AV → St → Prop) : AV → St → Prop := fun v s => ∃ r, Z r ∧ P r v s
theorem on_lN {α β : Type} {x : α} {f : α → Prop} {g : β → Prop} (h : on (.inl x) f g) : f x := h
theorem on_rN {α β : Type} {x : β} {f : α → Prop} {g : β → Prop} (h : on (.inr x) f g) : g x := h
section
variable {P : Program} {f : FuncId} {args : List AV} {B : Kn} {A E L M : Own}
theorem ndCH {ρ : Type} {Z : ρ → Prop} {Q : ρ → Kn → Own → Own → AV → Prop} (h : ∀ st, Hp B M st → ASpec P f args st (ndP Z fun r => CH B L (Q r))) : ∀ st, Hp B M st → ASpec P f args st (CH B L fun B' X E' v => ∃ r, Z r ∧ Q r B' X E' v) :=
  fun st hp => (h st hp).mono fun v s ⟨r, hz, B', X, E', h0, h1, h2⟩ => ⟨B', X, E', h0, h1, r, hz, h2⟩
theorem rdS {Q : AV → Prop} (h : ∀ st, Hp B (E ++ (A ++ L)) st → ASpec P f args st (CS B (E ++ (A ++ L)) Q)) : ∀ st, Hp B (A ++ (E ++ L)) st → ASpec P f args st (CS B (A ++ (E ++ L)) Q) :=
  fun st hp => (h st (hp.perm perm_call)).mono fun v s ⟨h1, h2⟩ => ⟨h1.perm perm_call, h2⟩
theorem rd0 {Q : Kn → AV → Prop} (h : ∀ st, Hp B (E ++ (A ++ L)) st → ASpec P f args st (C0 B (E ++ (A ++ L)) Q)) : ∀ st, Hp B (A ++ (E ++ L)) st → ASpec P f args st (C0 B (A ++ (E ++ L)) Q) :=
  fun st hp => (h st (hp.perm perm_call)).mono fun v s ⟨B', h0, h1, h2⟩ => ⟨B', h0, h1.perm perm_call, h2⟩
theorem rd1 {Q : Kn → AV → Nat × Option OV → Prop} (h : ∀ st, Hp B (E ++ (A ++ L)) st → ASpec P f args st (C1 B (E ++ (A ++ L)) Q)) : ∀ st, Hp B (A ++ (E ++ L)) st → ASpec P f args st (C1 B (A ++ (E ++ L)) Q) :=
  fun st hp => (h st (hp.perm perm_call)).mono fun v s ⟨B', e, h0, h1, h2⟩ => ⟨B', e, h0, h1.perm (perm_call.cons e), h2⟩
end
def rngN {σ ε π : Type} (step : σ → π → Option (σ ⊕ ε)) (fin : σ → Option ε) : List π → σ → Option ε
  | [], s => fin s
  | p :: l, s => (step s p).bind fun o => match o with
    | .inl s' => rngN step fin l s'
    | .inr e => some e
def RN {σ ε π : Type} (step : σ → π → Option (σ ⊕ ε)) (fin : σ → Option ε) (m : List π) (s : σ) (K : ε → Prop) : Prop := ∀ l : List π, l.Perm m → ∃ e, rngN step fin l s = some e ∧ K e
section
variable {σ ε π : Type} {step : σ → π → Option (σ ⊕ ε)} {fin : σ → Option ε} {m m' : List π} {s : σ} {K : ε → Prop}
theorem RN.perm (h : RN step fin m s K) (hp : m'.Perm m) : RN step fin m' s K := fun l hl => h l (hl.trans hp)
theorem RN.nil (h : RN step fin [] s K) : ∃ e, fin s = some e ∧ K e := h [] (.refl _)
theorem RN.cons {p : π} (h : RN step fin m s K) (hp : m.Perm (p :: m')) : ∃ o, step s p = some o ∧ on o (fun s' => RN step fin m' s' K) K := by
  obtain ⟨e, h1, h2⟩ := h (p :: m') hp.symm
  obtain ⟨o, h3, h4⟩ := Option.bind_eq_some_iff.1 h1
  refine ⟨o, h3, ?_⟩
  cases o with
  | inl s' =>
    intro l hl
    obtain ⟨e', g1, g2⟩ := h (p :: l) ((hl.cons p).trans hp.symm)
    obtain ⟨o', g3, g4⟩ := Option.bind_eq_some_iff.1 g1
    obtain rfl := Option.some.inj (h3.symm.trans g3)
    exact ⟨e', g4, g2⟩
  | inr e' => cases h4; exact h2
end
structure MPs {κ α : Type} (tk : KTy κ) (tv : KTy α) (B : Kn) (es : MEnts) (c : Nat) (ps : List (κ × α)) : Prop where
  len : es.length = ps.length
  rel : ∀ (i : Nat) (e : AV × AV × Nat), es[i]? = some e → ∃ p, ps[i]? = some p ∧ tk.R B e.1 p.1 ∧ tv.R B e.2.1 p.2
  nb : (es.map (·.2.2)).Nodup
  lb : ∀ e ∈ es, e.2.2 < c
theorem MPs.up {κ α : Type} {tk : KTy κ} {tv : KTy α} {B B' : Kn} {es : MEnts} {c : Nat} {ps : List (κ × α)} (h : MPs tk tv B es c ps) (hk : KLw B B') : MPs tk tv B' es c ps :=
  ⟨h.len, fun i e hi => let ⟨p, a, b, d⟩ := h.rel i e hi; ⟨p, a, tk.mono hk b, tv.mono hk d⟩, h.nb, h.lb⟩
theorem hgetR {κ α : Type} [DecidableEq κ] {B : Kn} {T : Nat} {E : Own} {tk : KTy κ} {tv : KTy α} {l : List (List (κ × α))} {K : Kn → List (List (κ × α)) → Own → Prop} (hf : Foc B T (MR tk tv) l E K) {v : AV} {n : Nat} (hp : HMt B T v n) {x : List (κ × α)} (hx : hobj l n = some x) :
    ∃ b es c ps, v = .map b ∧ (b, some (OV.m es c)) ∈ E ∧ MPs tk tv B es c ps ∧ ps.Perm x := by
  obtain ⟨i, rfl, hi⟩ := hobj_some hx
  have hm : hmap l (i + 1) = some x := by unfold hmap; rw [if_neg (by omega)]; exact hi
  rcases hgetM hf hp hm with ⟨rfl, rfl⟩ | ⟨b, es, c, rfl, h1, ⟨⟨ps, g1, g2, g3⟩, g4, g5, g6⟩⟩
  · rcases hp with ⟨e, _⟩ | ⟨_, _, _, _, e⟩
    · omega
    · cases e
  · refine ⟨b, es, c, ps, rfl, h1, ⟨g2, fun i e he => ?_, g5, g6⟩, g1⟩
    obtain ⟨p, a, b, c⟩ := g3 i e.1 e.2.1 e.2.2 he
    exact ⟨p, a, b, c⟩
end Gab
namespace Gab
open Go
section
variable {α : Type} {B : Kn} {T n : Nat} {v : AV}
theorem kI {k : IntKind} {x : Int} : (KTy.int k).R B (.int k x) x := rfl
theorem kB {x : Bool} : KTy.bool.R B (.bool x) x := rfl
theorem kS {x : List UInt8} : KTy.str.R B (.str x) x := rfl
theorem kHp (h : HPt B T v n) : (KTy.hp T).R B v n := h
theorem kG {t : Ty α} {l : List AV} {x : α} (h : t.R B l x) : (KTy.g t).R B (.agg l) x := ⟨_, rfl, h⟩
end
end Gab
end
section
set_option linter.unusedSimpArgs false
set_option linter.unusedVariables false
set_option maxHeartbeats 1000000
namespace Gab
open Go
structure OTy (α : Type) where
  R : Kn → List AV → Own → α → Prop
  mono : ∀ {B B' : Kn} {cs : List AV} {es : Own} {x : α}, KLw B B' → R B cs es x → R B' cs es x
def OTy.pl {α : Type} (t : Ty α) : OTy α := ⟨fun B cs es x => es = [] ∧ t.R B cs x, fun hk ⟨a, b⟩ => ⟨a, t.mono hk b⟩⟩
def OTy.os {α : Type} (t : Ty α) : OTy (List α) := ⟨fun B cs es l => ∃ v b nl c, cs = [v] ∧ es = [oe b nl c] ∧ OSl t B v b nl c l, fun hk ⟨v, b, nl, c, h1, h2, h3⟩ => ⟨v, b, nl, c, h1, h2, h3.upw hk⟩⟩
def OTy.pair {α β : Type} (s : OTy α) (t : OTy β) : OTy (α × β) := ⟨fun B cs es x => ∃ c d e f, cs = c ++ d ∧ es = e ++ f ∧ s.R B c e x.1 ∧ t.R B d f x.2, fun hk ⟨c, d, e, f, h1, h2, h3, h4⟩ => ⟨c, d, e, f, h1, h2, s.mono hk h3, t.mono hk h4⟩⟩
@[reducible] def grp (b : Nat) (cs : List AV) (es : Own) : Own := (b, some (OV.c cs)) :: es
section
variable {α : Type} {B B' : Kn} {T : Nat} {E E' A A' G L : Own} {l : List α}
def SegO (R : List AV → Own → α → Prop) : List Nat → List α → Own → Prop
  | [], [], E => E = []
  | b :: bs, x :: l, E => ∃ cs es E', E = grp b cs es ++ E' ∧ R cs es x ∧ SegO R bs l E'
  | _, _, _ => False
theorem SegO.up {R R' : List AV → Own → α → Prop} (hr : ∀ cs es x, R cs es x → R' cs es x) : ∀ {bs : List Nat} {l : List α} {E : Own}, SegO R bs l E → SegO R' bs l E
  | [], [], _, h => h
  | b :: bs, x :: l, E, ⟨cs, es, E', h1, h2, h3⟩ => ⟨cs, es, E', h1, hr _ _ _ h2, SegO.up hr h3⟩
  | [], _ :: _, _, h => h.elim
  | _ :: _, [], _, h => h.elim
theorem SegO.len {R : List AV → Own → α → Prop} : ∀ {bs : List Nat} {l : List α} {E : Own}, SegO R bs l E → bs.length = l.length
  | [], [], _, _ => rfl
  | b :: bs, x :: l, E, ⟨cs, es, E', h1, h2, h3⟩ => by simp [SegO.len h3]
  | [], _ :: _, _, h => h.elim
  | _ :: _, [], _, h => h.elim
theorem SegO.snoc {R : List AV → Own → α → Prop} {b : Nat} {cs : List AV} {es : Own} {x : α} (hx : R cs es x) : ∀ {bs : List Nat} {l : List α} {E : Own}, SegO R bs l E → SegO R (bs ++ [b]) (l ++ [x]) (E ++ grp b cs es)
  | [], [], E, h => ⟨cs, es, [], by rw [show E = [] from h]; simp, hx, rfl⟩
  | b' :: bs, x' :: l, E, ⟨cs', es', E', h1, h2, h3⟩ => ⟨cs', es', E' ++ grp b cs es, by rw [h1, List.append_assoc], h2, SegO.snoc hx h3⟩
  | [], _ :: _, _, h => h.elim
  | _ :: _, [], _, h => h.elim
theorem SegO.at_ {R : List AV → Own → α → Prop} : ∀ {bs : List Nat} {l : List α} {E : Own} {i b : Nat}, SegO R bs l E → bs[i]? = some b → ∃ x cs es pre post, l[i]? = some x ∧ E = pre ++ (grp b cs es ++ post) ∧ R cs es x ∧
    ∀ (R' : List AV → Own → α → Prop), (∀ cs es x, R cs es x → R' cs es x) → ∀ cs' es' x', R' cs' es' x' → SegO R' bs (l.set i x') (pre ++ (grp b cs' es' ++ post))
  | b' :: bs, x :: l, E, 0, b, ⟨cs, es, E', h1, h2, h3⟩, hb => by
    simp at hb; subst hb
    exact ⟨x, cs, es, [], E', rfl, h1, h2, fun R' hr cs' es' x' hx => ⟨cs', es', E', rfl, hx, h3.up hr⟩⟩
  | b' :: bs, x :: l, E, i + 1, b, ⟨cs, es, E', h1, h2, h3⟩, hb => by
    obtain ⟨y, cs1, es1, pre, post, g1, g2, g3, g4⟩ := SegO.at_ h3 (by simpa using hb)
    refine ⟨y, cs1, es1, grp b' cs es ++ pre, post, by simpa using g1, by rw [h1, g2, List.append_assoc], g3, fun R' hr cs' es' x' hx => ?_⟩
    rw [List.set_cons_succ, List.append_assoc]
    exact ⟨cs, es, _, rfl, hr _ _ _ h2, g4 R' hr _ _ _ hx⟩
  | [], [], _, _, _, _, hb => by simp at hb
  | [], _ :: _, _, _, _, h, _ => h.elim
  | _ :: _, [], _, _, _, h, _ => h.elim
variable {P : Program} {N n0 : Nat} {ops : Array Oper} {Rr : Post} {k : List It} {fr : Fr}
end
end Gab
end
