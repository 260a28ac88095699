/- Regions whose order is open: every order comes to the same, shown in the abstract memory. -/
import Derived.Test.YtcdldgoehoopmaaDoorAx
set_option linter.unusedSimpArgs false
set_option linter.unusedVariables false
namespace Gab
open Go

/-! ### What an operation looks at -/
theorem evOp_congr {P : Program} {op : Op} {fr fr2 : Fr} {st : St} (h : ∀ x ∈ op.operands, fr.ev x = fr2.ev x) : evOp P op fr st = evOp P op fr2 st := by
  have pairs : ∀ ps : Array (Nat × Operand), (∀ x ∈ (ps.toList.map (·.2)).toArray, fr.ev x = fr2.ev x) → (ps.toList.map fun p => (p.1, fr.ev p.2)) = (ps.toList.map fun p => (p.1, fr2.ev p.2)) := fun ps hp =>
    List.map_congr_left fun p hm => by rw [hp p.2 (by simpa using ⟨p.1, by simpa using hm⟩)]
  have lists : ∀ l : List Operand, (∀ x ∈ l, fr.ev x = fr2.ev x) → l.map fr.ev = l.map fr2.ev := fun l hl => List.map_congr_left hl
  cases op <;> simp only [Op.operands] at h <;> simp only [evOp]
  case build t ps => rw [pairs ps h]
  case buildSlice t n ps => rw [pairs ps h]
  case makeFunc f a b => rw [lists a.toList fun x hx => h x (by simp at hx ⊢; exact .inl hx), lists b.toList fun x hx => h x (by simp at hx ⊢; exact .inr hx)]
  case makeMap t r => cases r <;> simp_all
  case next x b => cases b <;> simp_all
  case slice t x lo hi mx => cases lo <;> cases hi <;> cases mx <;> simp_all
  case call c =>
    split
    · rw [lists c.args.toList fun x hx => h x (by simp [Call.operands]; exact .inr (by simpa using hx))]
    · rename_i g hg
      rw [lists c.args.toList fun x hx => h x (by simp [Call.operands]; exact .inr (by simpa using hx)), h g (by simp [Call.operands, hg])]
    · rfl
  all_goals (first | rfl | (simp_all; done))

def FrEq (fr fr2 : Fr) : Prop := ∀ t, Fr.get fr t = Fr.get fr2 t
theorem FrEq.ev {fr fr2 : Fr} (h : FrEq fr fr2) (x : Operand) : fr.ev x = fr2.ev x := by cases x <;> first | exact h _ | rfl
theorem FrEq.put {fr fr2 : Fr} (h : FrEq fr fr2) (d : Option Nat) (v : AV) : FrEq (fr.put d v) (fr2.put d v) := fun t => by
  cases d with
  | none => exact h t
  | some d => simp only [fr_put_some, fr_get_cons, h t]
theorem FrEq.comm (fr : Fr) {d e : Option Nat} (v u : AV) (h : ∀ t, d = some t → e ≠ some t) : FrEq ((fr.put d v).put e u) ((fr.put e u).put d v) := fun t => by
  cases d with
  | none => rfl
  | some d =>
    cases e with
    | none => rfl
    | some e =>
      have hne : d ≠ e := fun x => h d rfl (x ▸ rfl)
      simp only [fr_put_some, fr_get_cons]
      by_cases h1 : e = t
      · subst h1; rw [if_pos rfl, if_neg hne, if_pos rfl]
      · rw [if_neg h1]
        by_cases h2 : d = t
        · rw [if_pos h2, if_pos h2]
        · rw [if_neg h2, if_neg h2, if_neg h1]

/-! ### One operation, in whatever way it goes on -/
def AExec (P : Program) (o : Oper) (fr : Fr) (st : St) (K : AV → St → Prop) : Prop :=
  (∃ v st', evOp P o.op fr st = some (v, st') ∧ K v st') ∨
  (∃ c g f first cap, o.op = .call c ∧ c.callee = .value g ∧ fr.ev g = .fn (.func f) first cap ∧ ASpec P f (first ++ c.args.toList.map fr.ev ++ cap) st K)
theorem AExec.mono {P : Program} {o : Oper} {fr : Fr} {st : St} {K K' : AV → St → Prop} (h : AExec P o fr st K) (hk : ∀ v s, K v s → K' v s) : AExec P o fr st K' := by
  rcases h with ⟨v, st', h1, h2⟩ | ⟨c, g, f, first, cap, h1, h2, h3, h4⟩
  · exact .inl ⟨v, st', h1, hk _ _ h2⟩
  · exact .inr ⟨c, g, f, first, cap, h1, h2, h3, h4.mono hk⟩
theorem AExec.congr {P : Program} {o : Oper} {fr fr2 : Fr} {st : St} {K : AV → St → Prop} (h : AExec P o fr st K) (he : ∀ x ∈ o.op.operands, fr.ev x = fr2.ev x) : AExec P o fr2 st K := by
  rcases h with ⟨v, st', h1, h2⟩ | ⟨c, g, f, first, cap, h1, h2, h3, h4⟩
  · exact .inl ⟨v, st', by rw [← evOp_congr he]; exact h1, h2⟩
  · have hops : o.op.operands = c.operands := by rw [h1]; rfl
    rw [hops] at he
    have hg : fr.ev g = fr2.ev g := he g (by simp [Call.operands, h2])
    have hl : c.args.toList.map fr.ev = c.args.toList.map fr2.ev := List.map_congr_left fun x hx => he x (by simp [Call.operands]; exact .inr (by simpa using hx))
    exact .inr ⟨c, g, f, first, cap, h1, h2, by rw [← hg]; exact h3, by rw [← hl]; exact h4⟩

def AStep (P : Program) (N : Nat) (ops : List Oper) (o : Oper) (fr : Fr) (st : St) (K : Fr → St → Prop) : Prop :=
  dstOk N o.dst = true ∧ ∃ q, wantedA ops fr o = some q ∧ (q = false → K (fr.put o.dst (.tup [])) st) ∧ (q = true → AExec P o fr st fun v st' => K (fr.put o.dst v) st')

theorem wantedA_congr {ops : List Oper} {fr fr2 : Fr} {o : Oper} (h : ∀ d, (∃ j w, o.guard = some (j, w) ∧ (ops[j]?.bind (·.dst)) = some d) → Fr.get fr d = Fr.get fr2 d) : wantedA ops fr o = wantedA ops fr2 o := by
  unfold wantedA
  split
  · rfl
  · rename_i j w hg
    cases hd : ops[j]?.bind (·.dst) with
    | none => rfl
    | some d => simp only [Option.bind_some, h d ⟨j, w, hg, hd⟩]

/-- The slots that an operation looks at. -/
theorem AStep.congr {P : Program} {N : Nat} {ops : Array Oper} {o : Oper} {fr fr2 : Fr} {st : St} {K K2 : Fr → St → Prop} (h : AStep P N ops.toList o fr st K) (he : ∀ d, d ∈ o.looksAt ops → Fr.get fr d = Fr.get fr2 d)
    (hk : ∀ v s, K (fr.put o.dst v) s → K2 (fr2.put o.dst v) s) : AStep P N ops.toList o fr2 st K2 := by
  obtain ⟨h1, q, h2, h3, h4⟩ := h
  have hev : ∀ x ∈ o.op.operands, fr.ev x = fr2.ev x := fun x hx => by
    cases x with
    | tmp t => exact he t (List.mem_append_left _ (List.mem_filterMap.2 ⟨.tmp t, by simpa using hx, rfl⟩))
    | _ => rfl
  have hw : wantedA ops.toList fr o = wantedA ops.toList fr2 o := wantedA_congr fun d ⟨j, w, hg, hd⟩ => he d (by
    refine List.mem_append_right _ ?_
    rw [Array.getElem?_toList] at hd
    simp [hg, hd])
  exact ⟨h1, q, by rw [← hw]; exact h2, fun hq => hk _ _ (h3 hq), fun hq => ((h4 hq).congr hev).mono fun v s hs => hk v s hs⟩

theorem AStep.mono {P : Program} {N : Nat} {ops : Array Oper} {o : Oper} {fr : Fr} {st : St} {K K2 : Fr → St → Prop} (h : AStep P N ops.toList o fr st K) (hk : ∀ f s, K f s → K2 f s) : AStep P N ops.toList o fr st K2 :=
  h.congr (fun _ _ => rfl) fun v s hs => hk _ _ hs

/-! ### Quiet operations -/
/-- Operations that leave the memory alone. -/
def isQ (P : Program) : Op → Bool
  | .convert S D _ => (match tinfo P S, tinfo P D with
    | some si, some di => (match si.k, di.k with
      | .sl _, _ => false
      | _, .sl _ => false
      | _, _ => true)
    | _, _ => false)
  | .move _ | .assign _ | .pick .. | .build .. | .load .. | .nilCheck _ | .binOp .. | .unOp .. | .makeFunc .. | .slice .. | .fieldAddr .. | .field .. | .indexAddr .. | .index .. | .extract .. => true
  | .call c => match c.callee with
    | .builtin .len => (match c.argTypes.toList with
      | t :: _ => (match tinfo P t with
        | some ti => (match ti.k with
          | .map _ _ => false
          | _ => true)
        | none => false)
      | [] => false)
    | .builtin .min | .builtin .max => true
    | _ => false
  | _ => false
/-- Of these, those that look at the memory. -/
def memRd : Op → Bool
  | .load .. => true
  | _ => false

/-- What is known in the one memory is known in the other. -/
def Kp (K st : St) : Prop := ∀ b cs, rdBlk K b = some cs → rdBlk st b = some cs
theorem Kp.refl (st : St) : Kp st st := fun _ _ h => h
theorem Kp.push {K st : St} (h : Kp K st) (hn : ∀ b cs, rdBlk K b = some cs → b < st.n) (o : AObj) : Kp K (st.push o) := fun b cs hb => by
  rw [rdBlk_old (by have := hn b cs hb; omega)]; exact h b cs hb

theorem bind_pair {x : Option AV} {K K' st : St} {v : AV} (h : (x.bind fun v => some (v, K)) = some (v, K')) : (x.bind fun v => some (v, st)) = some (v, st) := by
  cases x with
  | none => cases h
  | some y => simp at h; obtain ⟨rfl, rfl⟩ := h; rfl
theorem conv_quiet {P : Program} {S D : TypeId} {x : Operand} {a v : AV} {K K' : St} (hq : isQ P (.convert S D x) = true) (h : evConvert P S D a K = some (v, K')) (st : St) : evConvert P S D a st = some (v, st) := by
  unfold isQ at hq
  unfold evConvert at h ⊢
  cases hs : tinfo P S with
  | none => simp [hs] at hq
  | some si =>
    cases hd : tinfo P D with
    | none => simp [hs, hd] at hq
    | some di =>
      simp only [hs, hd] at hq
      simp only [hs, hd, Option.bind_some] at h ⊢
      cases hk : di.k <;> cases a <;> cases hk' : si.k <;> simp_all
theorem evOp_quiet {P : Program} {op : Op} {fr : Fr} {K K' st : St} {v : AV} (hq : isQ P op = true) (h : evOp P op fr K = some (v, K')) (hk : memRd op = true → Kp K st) : evOp P op fr st = some (v, st) := by
  cases op <;> simp only [isQ, Bool.false_eq_true] at hq <;> simp only [evOp] at h ⊢
  case load t x =>
    simp only [Option.bind_eq_some_iff] at h
    obtain ⟨v', hv, h⟩ := h
    simp at h; obtain ⟨rfl, rfl⟩ := h
    have : evLoad P t (fr.ev x) st = some v' := by
      unfold evLoad at hv ⊢
      split at hv
      · simp only [Option.bind_eq_some_iff] at hv
        obtain ⟨ti, hti, cs, hcs, hv⟩ := hv
        simp only [hti, hk rfl _ _ hcs, Option.bind_some]
        exact hv
      · cases hv
    rw [this]; rfl
  case call c =>
    split at hq <;> rename_i hc
    case h_4 => cases hq
    all_goals
      rw [hc] at h ⊢
      simp only [evBuiltin] at h ⊢
    · cases ht : c.argTypes.toList with
      | nil => rw [ht] at h; cases h
      | cons t r =>
        rw [ht] at h hq
        cases hx : c.args.toList.map fr.ev with
        | nil => rw [hx] at h; cases h
        | cons x s =>
          rw [hx] at h
          cases s with
          | nil =>
            simp only at hq
            split at hq
            · rename_i ti hti
              have hno : ∀ m K, evLenM P t m K = none := fun m K => by
                unfold evLenM
                rw [hti, Option.bind_some]
                split
                · rename_i hk; rw [hk] at hq; cases hq
                · rfl
              cases hl : evLen P t x with
              | some v' => simp only [hl] at h ⊢; simp at h; rw [h.1]
              | none => simp only [hl, hno, Option.bind_none] at h; cases h
            · cases hq
          | cons y s => cases h
    · exact bind_pair h
    · exact bind_pair h
  case pick c a b =>
    split at h
    · simp at h ⊢; exact h.1
    · cases h
  case nilCheck x =>
    split at h
    · simp at h ⊢; exact h.1
    · simp at h ⊢; exact h.1
    · cases h
  case extract t i =>
    split at h
    · exact bind_pair h
    · cases h
  case move x => simp at h ⊢; exact h.1
  case assign x => simp at h ⊢; exact h.1
  case makeFunc f a b => simp at h ⊢; exact h.1
  case convert S D x => exact conv_quiet (x := x) (by simpa [isQ] using hq) h st
  all_goals exact bind_pair h

/-! ### Every order -/
/-- Must the memory that the others look at be kept behind operation j? -/
def needS (P : Program) (ops : Array Oper) (j : Nat) : Bool := match ops[j]? with
  | none => true
  | some oj => !isQ P oj.op && (List.range ops.size).any fun i => i != j && (match ops[i]? with
    | some oi => memRd oi.op && !(oj.after.any fun e => Region.binds .any e && e.on == i)
    | none => false)
theorem needS_spec {P : Program} {ops : Array Oper} {i j : Nat} {oi oj : Oper} (hi : ops[i]? = some oi) (hj : ops[j]? = some oj) (hne : i ≠ j) (hm : memRd oi.op = true) (hqj : isQ P oj.op = false) (hno : ∀ e ∈ oj.after, Region.binds .any e = true → e.on ≠ i) : needS P ops j = true := by
  unfold needS
  simp only [hj, hqj, Bool.not_false, Bool.true_and, List.any_eq_true, List.mem_range]
  refine ⟨i, (Array.getElem?_eq_some_iff.1 hi).1, ?_⟩
  simp only [hi, hm, Bool.and_eq_true, bne_iff_ne, ne_eq, hne, not_false_eq_true, true_and, Bool.not_eq_true', Bool.and_eq_false_iff]
  rw [Array.any_eq_false']
  intro e he
  cases hb : Region.binds .any e with
  | false => simp
  | true => simpa using hno e he hb

def AStepI (P : Program) (N : Nat) (ops : Array Oper) (j : Nat) (fr : Fr) (st : St) (K : Fr → St → Prop) : Prop := match ops[j]? with
  | none => K fr st
  | some o => AStep P N ops.toList o fr st K

def AAny (P : Program) (N : Nat) (ops : Array Oper) (K : St) (Q : Fr → St → Prop) : Nat → Array Bool → Fr → St → Prop
  | 0, listed, fr, st => Region.ready .any ops listed = [] ∧ ∃ fr2, FrEq fr fr2 ∧ Q fr2 st
  | n + 1, listed, fr, st => (Region.ready .any ops listed = [] → ∃ fr2, FrEq fr fr2 ∧ Q fr2 st) ∧
    ∀ j ∈ Region.ready .any ops listed, AStepI P N ops j fr st fun fr' st' => (needS P ops j = true → Kp K st') ∧ AAny P N ops K Q n (listed.setIfInBounds j true) fr' st'

section
variable {P : Program} {N : Nat} {ops : Array Oper} {K : St} {Q : Fr → St → Prop}

theorem AAny.freq : ∀ {n : Nat} {listed : Array Bool} {fr fr2 : Fr} {st : St}, AAny P N ops K Q n listed fr st → FrEq fr fr2 → AAny P N ops K Q n listed fr2 st
  | 0, _, fr, fr2, st, h, he => ⟨h.1, let ⟨f, h1, h2⟩ := h.2; ⟨f, fun t => (he t).symm.trans (h1 t), h2⟩⟩
  | n + 1, _, fr, fr2, st, h, he => by
    refine ⟨fun hr => let ⟨f, h1, h2⟩ := h.1 hr; ⟨f, fun t => (he t).symm.trans (h1 t), h2⟩, fun j hj => ?_⟩
    have := h.2 j hj
    unfold AStepI at this ⊢
    split
    · rename_i ho
      rw [ho] at this
      exact ⟨this.1, this.2.freq he⟩
    · rename_i o ho
      rw [ho] at this
      exact this.congr (fun d _ => he d) fun v s hs => ⟨hs.1, hs.2.freq (he.put _ _)⟩

/-- What a quiet operation comes to now: the value that is put. -/
noncomputable def evQ (P : Program) (N : Nat) (ops : List Oper) (K : St) (o : Oper) (fr : Fr) : Option AV :=
  (wantedA ops fr o).bind fun q => if dstOk N o.dst then (if q then (evOp P o.op fr K).bind fun r => some r.1 else some (.tup [])) else none

theorem evQ_step {o : Oper} {fr : Fr} {st : St} {v : AV} (hq : isQ P o.op = true) (h : evQ P N ops.toList K o fr = some v) (hk : memRd o.op = true → Kp K st) {C : Fr → St → Prop} (hc : C (fr.put o.dst v) st) : AStep P N ops.toList o fr st C := by
  unfold evQ at h
  simp only [Option.bind_eq_some_iff] at h
  obtain ⟨q, hw, h⟩ := h
  split at h
  · rename_i hd
    refine ⟨hd, q, hw, fun e => ?_, fun e => ?_⟩
    · subst e; simp at h; subst h; exact hc
    · subst e
      simp only [if_true, Option.bind_eq_some_iff] at h
      obtain ⟨r, hr, h⟩ := h
      simp at h; subst h
      exact .inl ⟨r.1, st, evOp_quiet hq hr hk, hc⟩
  · cases h

theorem evQ_congr {o : Oper} {fr fr2 : Fr} (he : ∀ d, d ∈ o.looksAt ops → Fr.get fr d = Fr.get fr2 d) : evQ P N ops.toList K o fr = evQ P N ops.toList K o fr2 := by
  have hev : ∀ x ∈ o.op.operands, fr.ev x = fr2.ev x := fun x hx => by
    cases x with
    | tmp t => exact he t (List.mem_append_left _ (List.mem_filterMap.2 ⟨.tmp t, by simpa using hx, rfl⟩))
    | _ => rfl
  have hw : wantedA ops.toList fr o = wantedA ops.toList fr2 o := wantedA_congr fun d ⟨j, w, hg, hd⟩ => he d (by
    refine List.mem_append_right _ ?_
    rw [Array.getElem?_toList] at hd
    simp [hg, hd])
  unfold evQ
  rw [hw, evOp_congr hev]

theorem get_put_of {fr : Fr} {d : Option Nat} {v : AV} {t : Nat} (h : d ≠ some t) : Fr.get (fr.put d v) t = Fr.get fr t := by
  cases d with
  | none => rfl
  | some d => simp only [fr_put_some, fr_get_cons]; rw [if_neg (fun e => h (by rw [e]))]

theorem AStep.quiet {o : Oper} {fr : Fr} {st : St} {C : Fr → St → Prop} (hq : isQ P o.op = true) (h : AStep P N ops.toList o fr st C) : AStep P N ops.toList o fr st fun f s => C f s ∧ s = st := by
  obtain ⟨h1, q, h2, h3, h4⟩ := h
  refine ⟨h1, q, h2, fun e => ⟨h3 e, rfl⟩, fun e => ?_⟩
  rcases h4 e with ⟨v, st', g1, g2⟩ | ⟨c, g, f, first, cap, g1, g2, _⟩
  · have := evOp_quiet (st := st) hq g1 (fun _ => Kp.refl _)
    rw [this] at g1
    simp at g1; subst g1
    exact .inl ⟨v, st, this, g2, rfl⟩
  · rw [g1] at hq; simp [isQ, g2] at hq

/-- A quiet operation that may come up may be taken first. -/
theorem AAny.first {i : Nat} {oi : Oper} (hi : ops[i]? = some oi) (hq : isQ P oi.op = true) : ∀ {n : Nat} {listed : Array Bool} {fr : Fr} {st : St} {v : AV},
    (∀ j oj, ops[j]? = some oj → j ≠ i → listed.getD j true = false → (∀ e ∈ oj.after, Region.binds .any e = true → e.on ≠ i) → oi.apart ops oj = true) →
    i ∈ Region.ready .any ops listed → evQ P N ops.toList K oi fr = some v → (memRd oi.op = true → Kp K st) →
    AAny P N ops K Q n (listed.setIfInBounds i true) (fr.put oi.dst v) st → AAny P N ops K Q (n + 1) listed fr st := by
  have hnS : needS P ops i = true → False := fun h => by simp [needS, hi, hq] at h
  intro n
  induction n with
  | zero =>
    intro listed fr st v _ hr hv hk H
    refine ⟨fun h => (by rw [h] at hr; cases hr), fun j hj => ?_⟩
    by_cases hji : j = i
    · subst hji
      unfold AStepI; rw [hi]
      exact evQ_step hq hv hk ⟨fun h => (hnS h).elim, H⟩
    · have := ready_mono hj hji
      rw [H.1] at this
      cases this
  | succ n ih =>
    intro listed fr st v hfree hr hv hk H
    refine ⟨fun h => (by rw [h] at hr; cases hr), fun j hj => ?_⟩
    by_cases hji : j = i
    · subst hji
      unfold AStepI; rw [hi]
      exact evQ_step hq hv hk ⟨fun h => (hnS h).elim, H⟩
    · have h1 := H.2 j (ready_mono hj hji)
      obtain ⟨hjun, oj, hoj, hall⟩ := mem_ready.1 hj
      have hnot : ∀ e ∈ oj.after, Region.binds .any e = true → e.on ≠ i := fun e he hb heq => by
        have h1 := hall e he hb
        have h0 := (mem_ready.1 hr).1
        rw [heq] at h1
        rcases Nat.lt_or_ge i listed.size with h' | h'
        · simp [h'] at h0 h1; rw [h0] at h1; cases h1
        · simp [Array.getElem?_eq_none h'] at h1
      obtain ⟨a1, a2, a3⟩ := Oper.apart_spec (hfree j oj hoj hji hjun hnot)
      have hfree' : ∀ k ok, ops[k]? = some ok → k ≠ i → (listed.setIfInBounds j true).getD k true = false → (∀ e ∈ ok.after, Region.binds .any e = true → e.on ≠ i) → oi.apart ops ok = true := fun k ok hk hki hun hno => by
        refine hfree k ok hk hki ?_ hno
        by_cases hjk : j = k
        · subst hjk; exact hjun
        · rw [getD_set_ne true hjk] at hun; exact hun
      unfold AStepI at h1 ⊢
      rw [hoj] at h1 ⊢
      simp only at h1 ⊢
      have main : ∀ (u : AV) (s : St), ((needS P ops j = true → Kp K s) ∧ AAny P N ops K Q n ((listed.setIfInBounds i true).setIfInBounds j true) ((fr.put oi.dst v).put oj.dst u) s) → (memRd oi.op = true → Kp K s) →
          ((needS P ops j = true → Kp K s) ∧ AAny P N ops K Q (n + 1) (listed.setIfInBounds j true) (fr.put oj.dst u) s) := fun u s ⟨hs, hA⟩ hks => by
        refine ⟨hs, ih hfree' (ready_mono hr (Ne.symm hji)) (v := v) ?_ hks ?_⟩
        · rw [← hv]
          exact evQ_congr fun d hd => get_put_of fun e => a3 d e hd
        · rw [Array.setIfInBounds_comm _ _ hji]
          exact hA.freq (FrEq.comm fr v u a2)
      have hget : ∀ d, d ∈ oj.looksAt ops → Fr.get (fr.put oi.dst v) d = Fr.get fr d := fun d hd => get_put_of fun e => a1 d e hd
      cases hqj : isQ P oj.op with
      | true => exact (AStep.quiet hqj h1).congr hget fun u s ⟨hs, e⟩ => main u s hs fun hm => by rw [e]; exact hk hm
      | false => exact h1.congr hget fun u s hs => main u s hs fun hm => hs.1 (needS_spec hi hoj (Ne.symm hji) hm hqj hnot)

/-! ### Soundness -/
theorem wpOp_mono2 {P : Program} {ops : Array Oper} {Q Q' : Exit → Act → World → Prop} (hq : ∀ e a w, Q e a w → Q' e a w) {i : Nat} {K K' : Act → World → Prop} (hk : ∀ a w, K a w → K' a w) {a : Act} {w : World} (h : wpOp P ops Q i K a w) : wpOp P ops Q' i K' a w := by
  unfold wpOp at h ⊢
  split
  · rename_i ho; rw [ho] at h; exact hk _ _ h
  · rename_i o ho
    rw [ho] at h
    simp only at h
    split
    · rename_i hw
      rw [if_pos hw] at h
      rcases h with h | ⟨h1, a0, w0, h2⟩
      · refine .inl ?_
        unfold Oper.wp at *
        generalize (execOp a.eval o).run P w = r at *
        cases r with
        | ok n w' =>
          cases n <;> simp only [Oper.upon] at h ⊢ <;>
            first
              | exact hk _ _ h
              | exact Calls.mono h (fun e w'' he => by cases e <;> first | exact hk _ _ he | exact hq _ _ _ he | exact let ⟨a, w, hh⟩ := he; ⟨a, w, hq _ _ _ hh⟩)
              | exact Rows.mono h (fun _ _ he => hk _ _ he)
        | halt x w' => cases x <;> simp only [Oper.upon] at h ⊢ <;> first | exact h | exact hq _ _ _ h
      · exact .inr ⟨h1, a0, w0, hq _ _ _ h2⟩
    · rename_i hw
      rw [if_neg hw] at h
      exact hk _ _ h
theorem wpAny_mono' {P : Program} {md : Region.Mode} {ops : Array Oper} {Q Q' : Exit → Act → World → Prop} (hq : ∀ e a w, Q e a w → Q' e a w) : ∀ {n : Nat} {listed : Array Bool} {a : Act} {w : World}, wpAny P md ops Q n listed a w → wpAny P md ops Q' n listed a w
  | 0, _, _, _, h => ⟨h.1, hq _ _ _ h.2⟩
  | _ + 1, _, _, _, h => ⟨fun e => hq _ _ _ (h.1 e), fun i hi => wpOp_mono2 hq (fun _ _ hk => wpAny_mono' hq hk) (h.2 i hi)⟩

theorem AStep.sound {n0 : Nat} {R : Post} {o : Oper} {fr : Fr} {st : St} {C : Fr → St → Prop} (h : AStep P N ops.toList o fr st C) {ρ : Loc.Map} {w : World} {a : Act} (hn : n0 ≤ ρ.length) (hr : Rel ρ st w) (hf : FrameRel ρ N fr a.tmps) (hd : a.defers = [])
    {X : Act → World → Prop} {E : Exit → Act → World → Prop} (hx : ∀ fr' st' ρ' w' a', C fr' st' → n0 ≤ ρ'.length → Rel ρ' st' w' → FrameRel ρ' N fr' (a' : Act).tmps → a'.defers = [] → Step n0 ρ st w ρ' st' w' → X a' w') :
    if Region.wanted o (yielded ops a.tmps) then o.wp P a w X E ∨ (o.asks P a w ∧ LetsOut E) else X (a.put o.dst undef) w := by
  obtain ⟨h1, q, h2, h3, h4⟩ := h
  have hdst := dstOk_spec h1
  rw [wantedA_ok h2 hf]
  have hdef : ∀ c, (a.put o.dst c).defers = [] := fun c => by cases o.dst <;> exact hd
  cases q with
  | false =>
    rw [if_neg (by simp)]
    exact hx _ _ ρ w _ (h3 rfl) hn hr (hf.put hdst ⟨[], rfl, rfl⟩) (hdef _) (.refl ..)
  | true =>
    rw [if_pos rfl]
    refine .inl ?_
    unfold Oper.wp
    rcases h4 rfl with ⟨v, st', g1, g2⟩ | ⟨c, g, f, first, cap, hop, hc, hg, hcall, g4⟩
    · obtain ⟨cv, w', ρ', hrun, k1, k2, k3⟩ := evOp_ok (N := N) (o := o) g1 ρ w a hr hf
      have hsup := hr.n_le k1 k3
      have k3' := k3.le (n1 := n0) (by have := hr.len; omega)
      rcases hrun with hrun | ⟨rfl, hrun⟩
      · rw [hrun, Oper.upon_value]
        exact hx _ _ ρ' w' _ g2 (k3'.ext.len hn) k1 ((hf.sup hsup).put hdst k2) (hdef _) k3'
      · rw [hrun, Oper.upon_skip]
        exact hx _ _ ρ' w' _ g2 (k3'.ext.len hn) k1 ((hf.sup hsup).put hdst k2) (hdef _) k3'
    · obtain ⟨fn, hfn, hname, hbody⟩ := hcall
      have he := fun x => hf.ev x
      have hgv := he g
      rw [hg] at hgv
      obtain ⟨cf, cc, hgv, p1, p2⟩ := hgv
      have hcargs : RVs ρ (first ++ c.args.toList.map fr.ev ++ cap) (cf ++ (c.args.map a.eval).toList ++ cc) := by
        refine RVs.append (RVs.append p1 ?_) p2
        rw [Array.toList_map]; exact RVs.map he _
      have hrun : (execOp a.eval o).run P w = .ok (.enter f ⟨cf ++ (c.args.map a.eval).toList ++ cc⟩) w := by
        have hres : (resolve a.eval c o.type).run P w = .ok { target := .fn (.func f) ⟨cc⟩, args := ⟨cf⟩ ++ c.args.map a.eval } w := by
          simp only [resolve, hc, hgv, Deferred.ofValue, Sem.run_pure]
        simp only [execOp, hop, Sem.run_bind, hres, Result.andThen_ok, invoke, callFunc, run_program, hfn, hname, hbody, Bool.false_eq_true, if_false, Sem.run_pure]
        congr 2
        apply Array.ext'
        simp
      rw [hrun, Oper.upon_enter]
      refine Calls.mono (g4 ρ w _ hr hcargs) fun e w' hq => ?_
      obtain ⟨cv, v, ρ', st', rfl, hQ, hrv, hr', hs⟩ := hq
      have hsup := hr.n_le hr' hs
      have hs' := hs.le (n1 := n0) (by have := hr.len; omega)
      exact hx _ _ ρ' w' _ hQ (hs'.ext.len hn) hr' ((hf.sup hsup).put hdst hrv) (hdef _) hs'

theorem AAny.sound {n0 : Nat} {R : Post} : ∀ {n : Nat} {listed : Array Bool} {fr : Fr} {st : St}, AAny P N ops K (R .normal) n listed fr st → ∀ {ρ : Loc.Map} {w : World} {a : Act}, n0 ≤ ρ.length → Rel ρ st w → FrameRel ρ N fr a.tmps → a.defers = [] →
    wpAny P .any ops (CPost N n0 R ρ st w) n listed a w
  | 0, listed, fr, st, h, ρ, w, a, hn, hr, hf, hd => by
    obtain ⟨h1, fr2, h2, h3⟩ := h
    exact ⟨h1, fr2, st, ρ, h3, hr, ⟨hf.1, fun t => by rw [← h2 t]; exact hf.2 t⟩, hd, .refl ..⟩
  | n + 1, listed, fr, st, h, ρ, w, a, hn, hr, hf, hd => by
    refine ⟨fun he => ?_, fun j hj => ?_⟩
    · obtain ⟨fr2, h2, h3⟩ := h.1 he
      exact ⟨fr2, st, ρ, h3, hr, ⟨hf.1, fun t => by rw [← h2 t]; exact hf.2 t⟩, hd, .refl ..⟩
    · have hs := h.2 j hj
      unfold AStepI at hs
      unfold wpOp
      split
      · rename_i ho
        rw [ho] at hs
        exact AAny.sound hs.2 hn hr hf hd
      · rename_i o ho
        rw [ho] at hs
        refine AStep.sound (n0 := n0) (R := R) hs hn hr hf hd fun fr' st' ρ' w' a' hC hn' hr' hf' hd' hst => ?_
        exact wpAny_mono' (fun _ _ _ hq => CPost.step hst hq) (AAny.sound hC.2 hn' hr' hf' hd')
end

/-! ### A plan: quiet operations first; where several loud ones are ready, one plan for each -/
inductive Plan where
  | nil
  | one (i : Nat) (r : Plan)
  | alt (a b : Plan)
namespace Plan
def len : Plan → Nat
  | nil => 0
  | one _ r => r.len + 1
  | alt a _ => a.len
def heads : Plan → List Nat
  | nil => []
  | one i _ => [i]
  | alt a b => a.heads ++ b.heads
@[reducible] def of : List Nat → Plan → Plan
  | [], t => t
  | i :: r, t => one i (of r t)
end Plan
/-- alone: one plan for all that is ready; otherwise one of several. -/
def planOkB (P : Program) (ops : Array Oper) : Bool → Array Bool → Plan → Bool
  | alone, listed, .nil => alone && (Region.ready .any ops listed).isEmpty
  | alone, listed, .one i r => (match ops[i]? with
    | none => false
    | some o => if isQ P o.op then alone && (Region.ready .any ops listed).contains i && Region.free .any ops listed i else !alone || Region.ready .any ops listed == [i]) && planOkB P ops true (listed.setIfInBounds i true) r
  | alone, listed, .alt a b => (!alone || Region.ready .any ops listed == a.heads ++ b.heads) && (a.len == b.len) && planOkB P ops false listed a && planOkB P ops false listed b
abbrev planOk (P : Program) (ops : Array Oper) (listed : Array Bool) (p : Plan) : Bool := planOkB P ops true listed p
abbrev altOk (P : Program) (ops : Array Oper) (listed : Array Bool) (p : Plan) : Bool := planOkB P ops false listed p
section
variable {P : Program} {N : Nat} {ops : Array Oper} {K : St} {Q : Fr → St → Prop}
def ABr (P : Program) (N : Nat) (ops : Array Oper) (K : St) (Q : Fr → St → Prop) (listed : Array Bool) : Plan → Fr → St → Prop
  | .nil, _, _ => True
  | .one i r, fr, st => AStepI P N ops i fr st fun fr' st' => (needS P ops i = true → Kp K st') ∧ AAny P N ops K Q r.len (listed.setIfInBounds i true) fr' st'
  | .alt a b, fr, st => ABr P N ops K Q listed a fr st ∧ ABr P N ops K Q listed b fr st
def APlan (P : Program) (N : Nat) (ops : Array Oper) (K : St) (Q : Fr → St → Prop) (listed : Array Bool) (plan : Plan) (fr : Fr) (st : St) : Prop :=
  (planOk P ops listed plan = true → AAny P N ops K Q plan.len listed fr st) ∧ (altOk P ops listed plan = true → ABr P N ops K Q listed plan fr st)

theorem APlan.nil {listed : Array Bool} {fr : Fr} {st : St} (h : Q fr st) : APlan P N ops K Q listed .nil fr st := ⟨fun hp =>
  ⟨by simpa [planOkB] using hp, fr, fun _ => rfl, h⟩, fun _ => trivial⟩
theorem APlan.quiet {listed : Array Bool} {i : Nat} {r : Plan} {o : Oper} {fr : Fr} {st : St} {v : AV} (hi : ops[i]? = some o) (hq : isQ P o.op = true) (hv : evQ P N ops.toList K o fr = some v) (hk : Kp K st)
    (h : APlan P N ops K Q (listed.setIfInBounds i true) r (fr.put o.dst v) st) : APlan P N ops K Q listed (.one i r) fr st := ⟨fun hp => by
  simp only [planOkB, hi, hq, if_true, Bool.true_and, Bool.and_eq_true] at hp
  exact AAny.first hi hq (Region.free_spec hi hp.1.2) (by simpa using hp.1.1) hv (fun _ => hk) (h.1 hp.2), fun hp => by
  simp [planOkB, hi, hq] at hp⟩
theorem APlan.step {listed : Array Bool} {i : Nat} {r : Plan} {o : Oper} {fr : Fr} {st : St} (hi : ops[i]? = some o) (hq : isQ P o.op = false)
    (h : AStep P N ops.toList o fr st fun fr' st' => (needS P ops i = true → Kp K st') ∧ APlan P N ops K Q (listed.setIfInBounds i true) r fr' st') : APlan P N ops K Q listed (.one i r) fr st := ⟨fun hp => by
  simp only [planOkB, hi, hq, Bool.false_eq_true, if_false, Bool.not_true, Bool.false_or, Bool.and_eq_true, beq_iff_eq] at hp
  refine ⟨fun e => (by rw [hp.1] at e; cases e), fun j hj => ?_⟩
  rw [hp.1] at hj
  simp at hj; subst hj
  unfold AStepI
  rw [hi]
  exact h.mono fun f s hs => ⟨hs.1, hs.2.1 hp.2⟩, fun hp => by
  simp only [planOkB, hi, hq, Bool.false_eq_true, if_false, Bool.not_false, Bool.true_or, Bool.true_and] at hp
  show AStepI P N ops i fr st _
  unfold AStepI
  rw [hi]
  exact h.mono fun f s hs => ⟨hs.1, hs.2.1 hp⟩⟩
theorem ABr.step {listed : Array Bool} {fr : Fr} {st : St} : ∀ {p : Plan} {n : Nat}, altOk P ops listed p = true → ABr P N ops K Q listed p fr st → p.len = n + 1 → ∀ j ∈ p.heads, AStepI P N ops j fr st fun fr' st' => (needS P ops j = true → Kp K st') ∧ AAny P N ops K Q n (listed.setIfInBounds j true) fr' st'
  | .nil, n, _, _, hl => by simp [Plan.len] at hl
  | .one i r, n, _, h, hl => fun j hj => by
    simp only [Plan.heads, List.mem_singleton] at hj
    subst hj
    have : r.len = n := by simpa [Plan.len] using hl
    subst this
    exact h
  | .alt a b, n, ho, h, hl => fun j hj => by
    simp only [planOkB, Bool.and_eq_true, beq_iff_eq] at ho
    rcases List.mem_append.1 hj with hj | hj
    · exact ABr.step ho.1.2 h.1 hl j hj
    · exact ABr.step ho.2 h.2 (ho.1.1.2.symm.trans hl) j hj
theorem alt_len {listed : Array Bool} : ∀ {p : Plan}, altOk P ops listed p = true → ∃ n, p.len = n + 1 ∧ p.heads ≠ []
  | .nil, h => by simp [planOkB] at h
  | .one i r, _ => ⟨_, rfl, by simp [Plan.heads]⟩
  | .alt a b, h => by
    simp only [planOkB, Bool.and_eq_true] at h
    obtain ⟨n, h1, h2⟩ := alt_len (p := a) h.1.2
    exact ⟨n, h1, by simp [Plan.heads, h2]⟩
theorem APlan.alt {listed : Array Bool} {a b : Plan} {fr : Fr} {st : St} (ha : APlan P N ops K Q listed a fr st) (hb : APlan P N ops K Q listed b fr st) : APlan P N ops K Q listed (.alt a b) fr st := by
  have h2 : altOk P ops listed (.alt a b) = true → ABr P N ops K Q listed (.alt a b) fr st := fun hp => by
    simp only [planOkB, Bool.and_eq_true] at hp
    exact ⟨ha.2 hp.1.2, hb.2 hp.2⟩
  refine ⟨fun hp => ?_, h2⟩
  have ho : altOk P ops listed (.alt a b) = true := by
    simp only [planOkB, Bool.and_eq_true, Bool.not_true, Bool.false_or, Bool.not_false, Bool.true_or] at hp ⊢
    exact ⟨⟨⟨trivial, hp.1.1.2⟩, hp.1.2⟩, hp.2⟩
  have hr : Region.ready .any ops listed = (Plan.alt a b).heads := by
    simp only [planOkB, Bool.and_eq_true, Bool.not_true, Bool.false_or, beq_iff_eq] at hp
    exact hp.1.1.1
  obtain ⟨n, hn, hne⟩ := alt_len ho
  rw [hn]
  refine ⟨fun e => absurd (hr.symm.trans e) hne, fun j hj => ?_⟩
  rw [hr] at hj
  exact ABr.step ho (h2 ho) hn j hj

/-- New blocks alone. -/
def isNew : Op → Bool
  | .alloc _ | .box .. | .buildSlice .. | .makeSlice .. => true
  | _ => false
theorem evOp_new {op : Op} {fr : Fr} {st st' : St} {v : AV} (hq : isNew op = true) (h : evOp P op fr st = some (v, st')) : ∃ o, st' = st.push o := by
  cases op <;> simp only [isNew, Bool.false_eq_true] at hq <;> simp only [evOp] at h
  case alloc e =>
    simp only [evAlloc, Option.bind_eq_some_iff] at h
    obtain ⟨_, _, _, _, h⟩ := h
    simp at h; exact ⟨_, h.2.symm⟩
  case box e x =>
    simp only [evBox, Option.bind_eq_some_iff] at h
    obtain ⟨_, _, h⟩ := h
    simp at h; exact ⟨_, h.2.symm⟩
  case buildSlice t n ps =>
    simp only [evBuildSlice, Option.bind_eq_some_iff] at h
    obtain ⟨_, _, h⟩ := h
    split at h
    · simp only [Option.bind_eq_some_iff] at h
      obtain ⟨_, _, _, _, h⟩ := h
      obtain ⟨_, h⟩ := need_some h
      simp only [Option.bind_eq_some_iff] at h
      obtain ⟨_, _, h⟩ := h
      obtain ⟨_, h⟩ := need_some h
      simp at h; exact ⟨_, h.2.symm⟩
    · cases h
  case makeSlice t l c =>
    simp only [evMakeSlice] at h
    split at h
    · simp only [Option.bind_eq_some_iff] at h
      obtain ⟨_, _, h⟩ := h
      split at h
      · simp only [Option.bind_eq_some_iff] at h
        obtain ⟨_, _, _, _, h⟩ := h
        obtain ⟨_, h⟩ := need_some h
        simp at h; exact ⟨_, h.2.symm⟩
      · cases h
    · cases h

noncomputable def evPl (P : Program) (N : Nat) (ops : List Oper) (K : St) : Plan → Fr → St → Plan × Fr × St
  | .nil, fr, st => (.nil, fr, st)
  | .alt a b, fr, st => (.alt a b, fr, st)
  | .one i r, fr, st => match ops[i]? with
    | none => (.one i r, fr, st)
    | some o => if isQ P o.op then (match evQ P N ops K o fr with
        | some v => evPl P N ops K r (fr.put o.dst v) st
        | none => (.one i r, fr, st))
      else if isNew o.op then (match evStep P N ops o fr st with
        | some p => evPl P N ops K r p.1 p.2
        | none => (.one i r, fr, st))
      else (.one i r, fr, st)
theorem evPl_nil {ops : List Oper} {fr : Fr} {st : St} : evPl P N ops K .nil fr st = (.nil, fr, st) := rfl
theorem evPl_cons {ops : List Oper} {i : Nat} {r : Plan} {fr : Fr} {st : St} : evPl P N ops K (.one i r) fr st = match ops[i]? with
    | none => (.one i r, fr, st)
    | some o => if isQ P o.op then (match evQ P N ops K o fr with
        | some v => evPl P N ops K r (fr.put o.dst v) st
        | none => (.one i r, fr, st))
      else if isNew o.op then (match evStep P N ops o fr st with
        | some p => evPl P N ops K r p.1 p.2
        | none => (.one i r, fr, st))
      else (.one i r, fr, st) := rfl

/-- The list of what has come up, not looked at any more. -/
def APl (P : Program) (N : Nat) (ops : Array Oper) (K : St) (Q : Fr → St → Prop) (plan : Plan) (fr : Fr) (st : St) : Prop :=
  ∀ listed, APlan P N ops K Q listed plan fr st

theorem APl.seg {plan plan' : Plan} {fr fr' : Fr} {st st' : St} (h : evPl P N ops.toList K plan fr st = (plan', fr', st')) (hk : Kp K st) (hn : ∀ b cs, rdBlk K b = some cs → b < st.n) (g : Kp K st' → APl P N ops K Q plan' fr' st') : APl P N ops K Q plan fr st := by
  induction plan generalizing fr st with
  | nil => simp [evPl] at h; obtain ⟨rfl, rfl, rfl⟩ := h; exact g hk
  | alt a b _ _ => simp [evPl] at h; obtain ⟨rfl, rfl, rfl⟩ := h; exact g hk
  | one i r ih =>
    rw [evPl_cons] at h
    split at h
    · simp at h; obtain ⟨rfl, rfl, rfl⟩ := h; exact g hk
    · rename_i o ho
      rw [Array.getElem?_toList] at ho
      split at h
      · rename_i hq
        split at h
        · rename_i v hv
          exact fun listed => APlan.quiet ho hq hv hk (ih h hk hn _)
        · simp at h; obtain ⟨rfl, rfl, rfl⟩ := h; exact g hk
      · rename_i hq
        split at h
        · rename_i hnew
          split at h
          · rename_i p hp
            intro listed
            refine APlan.step ho (by simpa using hq) ?_
            unfold evStep at hp
            simp only [Option.bind_eq_some_iff] at hp
            obtain ⟨q, hw, hp⟩ := hp
            split at hp
            · rename_i hd
              refine ⟨hd, q, hw, fun e => ?_, fun e => ?_⟩
              · subst e
                simp at hp; subst hp
                exact ⟨fun _ => hk, ih h hk hn _⟩
              · subst e
                simp only [if_true, Option.bind_eq_some_iff] at hp
                obtain ⟨x, hx, hp⟩ := hp
                simp at hp; subst hp
                obtain ⟨ob, hob⟩ := evOp_new hnew hx
                refine .inl ⟨x.1, x.2, hx, ?_⟩
                have hk' : Kp K x.2 := by rw [hob]; exact hk.push hn ob
                have hn' : ∀ b cs, rdBlk K b = some cs → b < x.2.n := fun b cs hb => by have := hn b cs hb; rw [hob, St.push_n]; omega
                exact ⟨fun _ => hk', ih h hk' hn' _⟩
            · cases hp
          · simp at h; obtain ⟨rfl, rfl, rfl⟩ := h; exact g hk
        · simp at h; obtain ⟨rfl, rfl, rfl⟩ := h; exact g hk

theorem APl.quiet' {i : Nat} {r : Plan} {o : Oper} {fr : Fr} {st : St} {v : AV} (hi : ops.toList[i]? = some o) (hq : isQ P o.op = true) (hv : evQ P N ops.toList K o fr = some v) (hk : memRd o.op = true → Kp K st)
    (h : APl P N ops K Q r (fr.put o.dst v) st) : APl P N ops K Q (.one i r) fr st := fun listed => ⟨fun hp => by
  rw [Array.getElem?_toList] at hi
  simp only [planOkB, hi, hq, if_true, Bool.true_and, Bool.and_eq_true] at hp
  exact AAny.first hi hq (Region.free_spec hi hp.1.2) (by simpa using hp.1.1) hv hk ((h _).1 hp.2), fun hp => by
  rw [Array.getElem?_toList] at hi
  simp [planOkB, hi, hq] at hp⟩
theorem APl.alt {a b : Plan} {fr : Fr} {st : St} (ha : APl P N ops K Q a fr st) (hb : APl P N ops K Q b fr st) : APl P N ops K Q (.alt a b) fr st := fun listed => APlan.alt (ha listed) (hb listed)
theorem APl.nil {fr : Fr} {st : St} (h : Q fr st) : APl P N ops K Q .nil fr st := fun _ => APlan.nil h
/-- An operation that writes. -/
theorem APl.op {i : Nat} {r : Plan} {o : Oper} {fr : Fr} {st : St} {p : Fr × St} (hi : ops.toList[i]? = some o) (hq : isQ P o.op = false) (h : evStep P N ops.toList o fr st = some p) (hS : needS P ops i = false ∨ Kp K p.2)
    (g : APl P N ops K Q r p.1 p.2) : APl P N ops K Q (.one i r) fr st := fun listed => by
  rw [Array.getElem?_toList] at hi
  refine APlan.step hi hq ?_
  unfold evStep at h
  simp only [Option.bind_eq_some_iff] at h
  obtain ⟨q, hw, h⟩ := h
  split at h
  · rename_i hd
    have hS' : ∀ s, s = p.2 → needS P ops i = true → Kp K s := fun s e hn => by
      rcases hS with hS | hS
      · rw [hS] at hn; cases hn
      · rw [e]; exact hS
    refine ⟨hd, q, hw, fun e => ?_, fun e => ?_⟩
    · subst e; simp at h; subst h; exact ⟨hS' _ rfl, g _⟩
    · subst e
      simp only [if_true, Option.bind_eq_some_iff] at h
      obtain ⟨x, hx, h⟩ := h
      simp at h; subst h
      exact .inl ⟨x.1, x.2, hx, hS' _ rfl, g _⟩
  · cases h
/-- A call. -/
theorem APl.call {i : Nat} {r : Plan} {o : Oper} {fr : Fr} {st : St} {c : Call} {gop : Operand} {f : FuncId} {first cap args : List AV} (hi : ops.toList[i]? = some o) (hop : o.op = .call c) (hc : c.callee = .value gop) (hw : wantedA ops.toList fr o = some true) (hg : fr.ev gop = .fn (.func f) first cap)
    (hargs : first ++ c.args.toList.map fr.ev ++ cap = args) (hd : dstOk N o.dst = true) (h : ASpec P f args st fun v st' => (needS P ops i = false ∨ Kp K st') ∧ APl P N ops K Q r (fr.put o.dst v) st') : APl P N ops K Q (.one i r) fr st := fun listed => by
  rw [Array.getElem?_toList] at hi
  refine APlan.step hi (by rw [hop]; simp [isQ, hc]) ⟨hd, true, hw, fun e => (by cases e), fun _ => .inr ⟨c, gop, f, first, cap, hop, hc, hg, ?_⟩⟩
  rw [hargs]
  refine h.mono fun v s ⟨h1, h2⟩ => ⟨fun hn => ?_, h2 _⟩
  rcases h1 with h1 | h1
  · rw [h1] at hn; cases hn
  · exact h1

theorem AX.draw {n0 : Nat} {R : Post} {k : List It} {id : Nat} {fr : Fr} {st : St} (plan : Plan) (K : St) (hm : P.follows .mixedOrders = true) (hp : planOk P ops (Array.replicate ops.size false) plan = true) (hl : plan.len = ops.size)
    (g : APl P N ops K (AX P N n0 R k .normal) plan fr st) : AX P N n0 R (.code (.region id ops true) :: k) .normal fr st := by
  intro ρ w a hn hr hf hd
  have ha := (g _).1 hp
  rw [hl] at ha
  have hr' : Rel ρ st { w with drawn := w.drawn + 1 } := ⟨⟨hr.len, fun b o hb => let ⟨l, hl, ho⟩ := hr.obj b o hb; ⟨l, hl, ho.world rfl⟩, hr.sep⟩, ⟨hr.gi.glb, hr.gi.gsep⟩⟩
  refine wp_region_any hm (wpAny_mono' (fun _ _ _ hq => CPost.step ?_ hq) (AAny.sound (n0 := n0) (R := AX P N n0 R k) ha hn hr' hf hd))
  exact ⟨.refl _ _, rfl, rfl, rfl, Nat.le_succ _, Nat.le_refl _, fun _ _ _ => rfl, fun b o l h1 h2 h3 _ => ⟨b, o, l, h1, h2, h3, rfl⟩⟩
end

/-! ### Small words -/
def Low (K : St) : Prop := ∀ b cs, rdBlk K b = some cs → b < K.n
theorem low_of_wf {st : St} (h : st.wf) : Low st := fun b cs hb => by
  obtain ⟨rw, hb⟩ := rdBlk_spec hb
  exact (h b _ hb).1
theorem low_push {s : St} {o : AObj} (h : Low s) : Low (s.push o) := fun b cs hb => by
  rw [St.push_n]
  by_cases he : b = s.n
  · omega
  · rw [rdBlk_old he] at hb; have := h b cs hb; omega
theorem low_pushO {s : St} {o : Option AObj} (h : Low s) : Low (s.pushO o) := fun b cs hb => by
  rw [St.pushO_n]
  by_cases he : b = s.n
  · omega
  · rw [rdBlk_oldO he] at hb; have := h b cs hb; omega
theorem low_set {s : St} {o : AObj} {b : Nat} (h : Low s) (hb : b < s.n) : Low (s.set b o) := fun i cs hi => by
  rw [St.set_n]
  by_cases he : i = b
  · omega
  · rw [rdBlk_setO he] at hi; exact h i cs hi
theorem low_kill {s : St} {b : Nat} (h : Low s) : Low (s.kill b) := fun i cs hi => by
  rw [St.kill_n]
  unfold rdBlk at hi
  rw [St.kill_get] at hi
  split at hi
  · rename_i hg
    split at hg
    · cases hg
    · exact h i cs (by simp at hi; subst hi; unfold rdBlk; rw [hg])
  · cases hi
theorem APl.seg' {P : Program} {N : Nat} {ops : Array Oper} {K : St} {Q : Fr → St → Prop} {plan plan' : Plan} {fr fr' : Fr} {st' : St} (h : evPl P N ops.toList K plan fr K = (plan', fr', st')) (hn : Low K) (g : Kp K st' → APl P N ops K Q plan' fr' st') : APl P N ops K Q plan fr K :=
  APl.seg h (Kp.refl _) hn g

theorem OSub_of {m : Nat → Nat} {n : Nat} {cs cs' : List AV} {rw : Bool} (h : Subs m n cs cs') : OSub m n (.blk cs rw) (.blk cs' rw) := by
  refine ⟨id, fun i v hi => ?_⟩
  induction cs generalizing cs' i with
  | nil => simp at hi
  | cons a r ih =>
    obtain ⟨b, s, rfl, h1, h2⟩ := h
    cases i with
    | zero => simp at hi; subst hi; exact ⟨b, rfl, h1⟩
    | succ i => simpa using ih h2 i (by simpa using hi)
theorem wf_push {st : St} (h : st.wf) {o : AObj} (ho : OSub id (st.n + 1) o o) : (st.push o).wf := fun b x hb => by
  rw [St.push_get] at hb
  rw [St.push_n]
  split at hb
  · simp at hb; subst hb; exact ⟨by omega, ho⟩
  · exact ⟨by have := (h b x hb).1; omega, (h b x hb).2.up (by omega) (fun _ _ => rfl)⟩
theorem wf_pushO {st : St} (h : st.wf) {o : Option AObj} (ho : ∀ x, o = some x → OSub id (st.n + 1) x x) : (st.pushO o).wf := fun b x hb => by
  rw [St.pushO_get] at hb
  rw [St.pushO_n]
  split at hb
  · exact ⟨by omega, ho x hb⟩
  · exact ⟨by have := (h b x hb).1; omega, (h b x hb).2.up (by omega) (fun _ _ => rfl)⟩
theorem Tell.le {m : Nat → Nat} {n0 n1 : Nat} {st st2 : St} (h : Tell m n0 st st2) (hn : n1 ≤ n0) : Tell m n1 st st2 :=
  ⟨by have := h.n; omega, fun b hb => h.low b (by omega), h.obj, h.inj⟩
theorem Sub.low_up {n0 n : Nat} (hn : n0 ≤ n) {a : AV} (h : Sub id n0 a a) : Sub id n a a := (Sub.mono hn (fun _ _ => rfl)).1 a a h
end Gab
