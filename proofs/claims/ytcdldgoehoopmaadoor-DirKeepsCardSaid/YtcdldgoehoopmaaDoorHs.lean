/- The rules of the printed proofs, continued: calls, append, control flow, results. -/
import Derived.Test.YtcdldgoehoopmaaDoorHr
set_option linter.unusedSimpArgs false
set_option linter.unusedVariables false
namespace Gab
open Go

theorem Hp.perm {B : Kn} {L L' : Own} {st : St} (h : Hp B L st) (hp : L.Perm L') : Hp B L' st :=
  ⟨⟨h.kn, fun b cs hb => h.own b cs (hp.mem_iff.2 hb)⟩, fun b cs hb => h.frz b cs (hp.mem_iff.2 hb), (List.Perm.pairwise_iff (fun {a b} hab h1 h2 e => hab h2 h1 e.symm) hp).1 h.sep⟩
theorem perm_out {α : Type} : ∀ {A : List α} {i : Nat} {e : α}, A[i]? = some e → A.Perm (e :: A.eraseIdx i)
  | [], i, e, h => by simp at h
  | a :: A, 0, e, h => by simp at h; subst h; exact .refl _
  | a :: A, i + 1, e, h => ((perm_out (A := A) (i := i) (by simpa using h)).cons a).trans (.swap e a _)
theorem Hp.out {B : Kn} {A L : Own} {st : St} (h : Hp B (A ++ L) st) {i : Nat} {e : Nat × Option OV} (hi : A[i]? = some e) : Hp B (e :: (A.eraseIdx i ++ L)) st :=
  h.perm ((perm_out hi).append_right L)
theorem Hp.into {B : Kn} {A L : Own} {st : St} {i : Nat} {e : Nat × Option OV} (hi : A[i]? = some e) (h : Hp B (e :: (A.eraseIdx i ++ L)) st) : Hp B (A ++ L) st :=
  h.perm ((perm_out hi).symm.append_right L)

theorem Upd.mv {B : Kn} {x : Nat × Option OV} {cs' : List AV} {st st' : St} : ∀ {A A' : Own}, Upd x (st.n, some (OV.c cs')) A A' → Hp B A st → st.lw → (∀ i, i ≠ st.n → (∀ cs, x ≠ (i, some (OV.c cs))) → st'.get i = st.get i) → st'.get st.n = some (.blk cs' true) → Hp B A' st'
  | _, _, .h (A := A), hh, hl, ho, hb => by
    have hs := List.pairwise_cons.1 hh.sep
    have hx : ∀ i cs c, (i, some c) ∈ A → x ≠ (i, some (OV.c cs)) := fun i cs c hi e => by subst e; exact hs.1 _ hi rfl rfl rfl
    have hn : B st.n = none := by
      cases hB : B st.n with
      | none => rfl
      | some o => have := hh.klt hl hB; omega
    refine ⟨⟨fun i o hi => ?_, fun i c hi => ?_⟩, fun i c hi => ?_, List.pairwise_cons.2 ⟨fun a ha _ h2 => ?_, hs.2⟩⟩
    · rw [ho i (by have := hh.klt hl hi; omega) (fun cs e => by subst e; have := hh.frz i cs List.mem_cons_self; rw [this] at hi; cases hi)]; exact hh.kn i o hi
    · rcases List.mem_cons.1 hi with e | hi
      · cases e; exact hb
      · rw [ho i (by have := hh.lt hl (List.mem_cons_of_mem _ hi); omega) (fun cs => hx i cs c hi)]; exact hh.own i c (List.mem_cons_of_mem _ hi)
    · rcases List.mem_cons.1 hi with e | hi
      · cases e; exact hn
      · exact hh.frz i c (List.mem_cons_of_mem _ hi)
    · obtain ⟨y, c⟩ := a
      cases c with
      | none => cases h2
      | some c => have := hh.lt hl (List.mem_cons_of_mem _ ha); simp only [ne_eq]; omega
  | _, _, .t (e := z) u, hh, hl, ho, hb => by
    have hs := List.pairwise_cons.1 hh.sep
    have hm := u.mem
    have ht : Hp B _ st := ⟨⟨hh.kn, fun i c hi => hh.own i c (List.mem_cons_of_mem _ hi)⟩, fun i c hi => hh.frz i c (List.mem_cons_of_mem _ hi), hs.2⟩
    have hp := Upd.mv u ht hl ho hb
    obtain ⟨zb, zc⟩ := z
    refine ⟨⟨hp.kn, fun i c hi => ?_⟩, fun i c hi => ?_, List.pairwise_cons.2 ⟨fun a ha h1 h2 => ?_, hp.sep⟩⟩
    · rcases List.mem_cons.1 hi with e | hi
      · cases e
        rw [ho zb (by have := hh.lt hl List.mem_cons_self; omega) (fun cs e => by subst e; exact hs.1 _ hm rfl rfl rfl)]; exact hh.own zb c List.mem_cons_self
      · exact hp.own i c hi
    · rcases List.mem_cons.1 hi with e | hi
      · cases e; exact hh.frz zb c List.mem_cons_self
      · exact hp.frz i c hi
    · rcases u.sub a ha with e | e
      · subst e
        cases zc with
        | none => cases h1
        | some c => have := hh.lt hl (b := zb) (o := c) List.mem_cons_self; simp only [ne_eq]; omega
      · exact hs.1 a e h1 h2
theorem Upd.none {B : Kn} {b b' : Nat} {st : St} : ∀ {A A' : Own}, Upd (b, Option.none) (b', Option.none) A A' → Hp B A st → Hp B A' st
  | _, _, .h, hh => by
    have ht : Hp B _ st := ⟨⟨hh.kn, fun i c hi => hh.own i c (List.mem_cons_of_mem _ hi)⟩, fun i c hi => hh.frz i c (List.mem_cons_of_mem _ hi), (List.pairwise_cons.1 hh.sep).2⟩
    exact ht.skip b'
  | _, _, .t (e := z) u, hh => by
    have hs := List.pairwise_cons.1 hh.sep
    have ht : Hp B _ st := ⟨⟨hh.kn, fun i c hi => hh.own i c (List.mem_cons_of_mem _ hi)⟩, fun i c hi => hh.frz i c (List.mem_cons_of_mem _ hi), hs.2⟩
    have hp := Upd.none u ht
    obtain ⟨zb, zc⟩ := z
    refine ⟨⟨hp.kn, fun i c hi => ?_⟩, fun i c hi => ?_, List.pairwise_cons.2 ⟨fun a ha h1 h2 => ?_, hp.sep⟩⟩
    · rcases List.mem_cons.1 hi with e | hi
      · cases e; exact hh.own zb c List.mem_cons_self
      · exact hp.own i c hi
    · rcases List.mem_cons.1 hi with e | hi
      · cases e; exact hh.frz zb c List.mem_cons_self
      · exact hp.frz i c hi
    · rcases u.sub a ha with e | e
      · subst e; cases h2
      · exact hs.1 a e h1 h2

section
variable {P : Program} {N n0 : Nat} {ops : Array Oper} {R : Post} {k : List It} {fr : Fr} {B : Kn} {A L M : Own}

/-! ### Append -/
section app
variable {α : Type} {t : Ty α} {T X : TypeId} {z z' : List AV} {y y' : Nat}
/-- What is appended: it reads as a list. -/
def Src (P : Program) (t : Ty α) (X : TypeId) (B : Kn) (A : Own) (v : AV) (news : List AV) (m : List α) : Prop :=
  RL t B news m ∧ ∀ e ei st, ei.size = t.sz → Rd B A st → evNews P e ei (some X) v st = some (m.length, news)
theorem Src.o {v : AV} {b i : Nat} {nl : Bool} {cs : List AV} {m : List α} (hX : SlT P X t z y) (h : OSl t B v b nl cs m) (hA : A[i]? = some (oe b nl cs)) : Src P t X B A v cs m := by
  obtain ⟨ti, e, ei, h1, h2, _⟩ := hX.ex
  obtain ⟨⟨sz, mc, rfl, g1, g2⟩, g3, g4⟩ := h
  refine ⟨g4, fun e' ei' st hsz hr => ?_⟩
  simp only [evNews, h1, h2, Option.bind_some]
  by_cases hm : m.length = 0
  · have : m = [] := List.eq_nil_of_length_eq_zero hm
    subst this
    simp only [RL] at g4
    rw [if_pos hm, g4]; rfl
  · have hnl : nl = false := by cases nl with
      | true => exact absurd (by rw [g3 rfl]; rfl) hm
      | false => rfl
    subst hnl
    rw [if_neg hm, need_pos ((g2 rfl).trans hsz.symm), hr.ro (List.mem_of_getElem? hA), Option.bind_some, need_pos (by rw [g4.len, g2 rfl]; omega), List.drop_zero, g2 rfl, ← g4.len, List.take_length]
theorem Src.r {v : AV} {m : List α} (hX : SlT P X t z y) (h : RSl t B v m) : ∃ cs, ∀ A, Src P t X B A v cs m := by
  obtain ⟨ti, e, ei, h1, h2, _⟩ := hX.ex
  obtain ⟨sz, b, off, mc, nl, rfl, g1, g2, g3, g4⟩ := h
  by_cases hm : m = []
  · subst hm
    refine ⟨[], fun A => ⟨rfl, fun e' ei' st hsz hr => ?_⟩⟩
    simp only [evNews, h1, h2, Option.bind_some]
    rfl
  · obtain ⟨blk, rw', c1, c2, c3⟩ := g4 hm
    have hnl : nl = false := by cases nl with
      | true => exact absurd (g2 rfl) hm
      | false => rfl
    refine ⟨_, fun A => ⟨c3, fun e' ei' st hsz hr => ?_⟩⟩
    simp only [evNews, h1, h2, Option.bind_some]
    rw [if_neg (fun e => hm (List.eq_nil_of_length_eq_zero e)), need_pos ((g3 hnl).trans hsz.symm), hr.rd c1, Option.bind_some, need_pos (by rw [g3 hnl]; omega), g3 hnl]
/-- Go's append, where there is room for it. -/
def appL (n : Nat) (l m : List α) : Option (List α) := if l.length + m.length ≤ n then some (l ++ m) else none
theorem appL_some {n : Nat} {l m r : List α} (h : appL n l m = some r) : l.length + m.length ≤ n ∧ r = l ++ m := by
  unfold appL at h
  split at h
  · exact ⟨‹_›, (Option.some.inj h).symm⟩
  · cases h
def AppQ (t : Ty α) (B : Kn) (l : List α) (cs : List AV) (F : Nat × Option OV → Own) : AV → Own → Prop := fun v A' => ∃ b nl, OSl t B v b nl cs l ∧ A' = F (oe b nl cs)
theorem MOp.app {c : Call} {s x : Operand} {b n : Nat} {nl : Bool} {cs news : List AV} {l m r : List α} {F : Nat × Option OV → Own} (h1 : c.callee = .builtin .append) (h2 : c.argTypes.toList = [T, X]) (h3 : c.args.toList = [s, x])
    (ht : SlT P T t z y) (ho : OSl t B (fr.ev s) b nl cs l) (hx : Src P t X B A (fr.ev x) news m) (hr : appL n l m = some r) (hn : Nat.ble (n * y) 140737488355328 = true) (hn2 : Nat.ble n 9223372036854775807 = true) (hu : ∀ e, Upd (oe b nl cs) e A (F e)) :
    MOp P (.call c) fr B A L (AppQ t B r (cs ++ news) F) := fun st hl hp => by
  obtain ⟨ti, e, ei, e1, e2, e3, e4, e5, e6, e7⟩ := ht.ex
  obtain ⟨hlen, rfl⟩ := appL_some hr
  have hx1 := hx.1
  have hx2 := hx.2 e ei st e4 hp.loc
  obtain ⟨⟨sz, mc, hv, g1, g2⟩, g3, g4⟩ := ho
  have hb1 : (l.length + m.length) * ei.bytes ≤ 140737488355328 := Nat.le_trans (Nat.mul_le_mul_right _ hlen) (by rw [e7]; exact Nat.le_of_ble_eq_true hn)
  have hb2 : l.length + m.length ≤ 9223372036854775807 := Nat.le_trans hlen (Nat.le_of_ble_eq_true hn2)
  have hev : evOp P (.call c) fr st = evAppend P [T, X] (.sl sz b 0 l.length mc nl) (fr.ev x) st := by
    simp only [evOp, h1, h2, h3, List.map_cons, List.map_nil, hv, evBuiltin]
  rw [hev]
  simp only [evAppend, e1, e2, e3, e5, Option.bind_some, List.head?_cons, hx2]
  rw [need_pos ⟨hb1, hb2, e6.trans e4.symm⟩]
  have hrl := g4.append hx1
  have hul := hu (oe b nl cs)
  cases nl with
  | true =>
    have := g3 rfl
    subst this
    simp only [RL] at g4
    subst g4
    rw [if_pos rfl]
    by_cases hm : m.length = 0
    · have : m = [] := List.eq_nil_of_length_eq_zero hm
      subst this
      have hnil : news = [] := by simpa [RL] using hx1
      subst hnil
      refine ⟨_, _, _, rfl, lw_pushO hl _, ?_, st.n, true, ⟨⟨ei.size, 0, rfl, Nat.le_refl _, by simp⟩, by simp, rfl⟩, rfl⟩
      exact (Upd.none ((hu (oe st.n true [])).app L) hp).pushNone hl
    · rw [if_neg hm, pushO_some]
      refine ⟨_, _, _, rfl, lw_push hl _, ?_, st.n, false, ⟨⟨ei.size, m.length, ?_, by simp, fun _ => e4⟩, by simp, by simpa using hx1⟩, rfl⟩
      · exact Upd.mv ((hu (oe st.n false news)).app L) hp hl (fun i hi _ => push_get_old hi) (push_get_new rfl)
      · simp [hm]
  | false =>
    have hmem : (b, some (OV.c cs)) ∈ A ++ L := List.mem_append_left _ (hu (b, some (OV.c cs))).mem
    have hsz := g2 rfl
    have hcl := g4.len
    rw [if_neg (by simp), if_pos hx1.one, hp.rd.wr hmem, Option.bind_some, need_pos (hsz.trans e4.symm)]
    by_cases hin : l.length + m.length ≤ mc ∧ 0 + (l.length + m.length) * sz ≤ cs.length
    · rw [if_pos hin]
      have hnl : news = [] := by
        refine List.eq_nil_of_length_eq_zero ?_
        have h1 := hin.2
        rw [hcl, hsz, Nat.add_mul] at h1
        rw [hx1.len]; omega
      subst hnl
      refine ⟨_, _, _, rfl, lw_set hl (o' := .blk cs true) (hp.lt hl hmem) _, ?_, b, false, ⟨⟨sz, mc, by rw [List.length_append], by rw [List.length_append]; exact hin.1, fun _ => hsz⟩, by simp, by simpa using hrl⟩, rfl⟩
      have : setL cs (0 + l.length * sz) [] = cs := rfl
      rw [this, List.append_nil]
      exact ((hu (b, some (OV.c cs))).app L).hp hp (fun i hi => set_get_old hi) (set_get_new rfl)
    · rw [if_neg hin, need_pos (by rw [hcl, hsz]; omega), List.drop_zero]
      refine ⟨_, _, _, rfl, lw_push (lw_kill hl b) _, ?_, st.n, false, ⟨⟨sz, l.length + m.length, by rw [List.length_append], by rw [List.length_append]; exact Nat.le_refl _, fun _ => hsz⟩, by simp, hrl⟩, rfl⟩
      refine Upd.mv ((hu (oe st.n false (cs ++ news))).app L) hp hl (fun i hi hne => ?_) (push_get_new rfl)
      exact (push_get_old (s := st.kill b) hi).trans (kill_get_old (fun e => hne cs (by rw [e]; rfl)))
end app

/-! ### Calls -/
/-- What a call leaves: scalars alone; or what is known has grown; or there is an own slice, too. -/
def CS (B : Kn) (L : Own) (Q : AV → Prop) : AV → St → Prop := fun v s => Hp B L s ∧ Q v
def C0 (B : Kn) (L : Own) (Q : Kn → AV → Prop) : AV → St → Prop := fun v s => ∃ B', KLe B B' ∧ Hp B' L s ∧ Q B' v
def C1 (B : Kn) (L : Own) (Q : Kn → AV → Nat × Option OV → Prop) : AV → St → Prop := fun v s => ∃ B' e, KLe B B' ∧ Hp B' (e :: L) s ∧ Q B' v e
def C2 (B : Kn) (L : Own) (Q : Kn → AV → Nat × Option OV → Nat × Option OV → Prop) : AV → St → Prop := fun v s => ∃ B' e e', KLe B B' ∧ Hp B' (e :: e' :: L) s ∧ Q B' v e e'

section calls
variable {d : Option Nat} {c : Call} {ty : TypeId} {ps : String} {af : Array Edge} {g : Option (Nat × Bool)} {rest : List Oper} {gop : Operand} {f : FuncId} {first cap args : List AV} {i : Nat} {r : Plan}
theorem WO.cS {Q : AV → Prop} (hc : c.callee = .value gop) (hg : fr.ev gop = .fn (.func f) first cap) (hs : ∀ st, Hp B (A ++ L) st → ASpec P f args st (CS B (A ++ L) Q)) (ha : first ++ c.args.toList.map fr.ev ++ cap = args) (hw : wantedA ops.toList fr ⟨d, .call c, ty, ps, af, g⟩ = some true) (hd : dstOk N d = true)
    (h : ∀ v, Q v → WO P N n0 ops rest R k (fr.put d v) B A L) : WO P N n0 ops (⟨d, .call c, ty, ps, af, g⟩ :: rest) R k fr B A L := fun st hl hp =>
  AOps.call rfl hc hw hg ha hd ((hs st hp).lw.mono fun v s ⟨⟨h1, h2⟩, h3⟩ => h v h2 s h3 h1)
theorem WO.c0 {Q : Kn → AV → Prop} (hc : c.callee = .value gop) (hg : fr.ev gop = .fn (.func f) first cap) (hs : ∀ st, Hp B (A ++ L) st → ASpec P f args st (C0 B (A ++ L) Q)) (ha : first ++ c.args.toList.map fr.ev ++ cap = args) (hw : wantedA ops.toList fr ⟨d, .call c, ty, ps, af, g⟩ = some true) (hd : dstOk N d = true)
    (h : ∀ v B', KLe B B' → Q B' v → WO P N n0 ops rest R k (fr.put d v) B' A L) : WO P N n0 ops (⟨d, .call c, ty, ps, af, g⟩ :: rest) R k fr B A L := fun st hl hp =>
  AOps.call rfl hc hw hg ha hd ((hs st hp).lw.mono fun v s ⟨⟨B', h0, h1, h2⟩, h3⟩ => h v B' h0 h2 s h3 h1)
theorem WO.c1 {Q : Kn → AV → Nat × Option OV → Prop} (hc : c.callee = .value gop) (hg : fr.ev gop = .fn (.func f) first cap) (hs : ∀ st, Hp B (A ++ L) st → ASpec P f args st (C1 B (A ++ L) Q)) (ha : first ++ c.args.toList.map fr.ev ++ cap = args) (hw : wantedA ops.toList fr ⟨d, .call c, ty, ps, af, g⟩ = some true) (hd : dstOk N d = true)
    (h : ∀ v B' e, KLe B B' → Q B' v e → WO P N n0 ops rest R k (fr.put d v) B' (e :: A) L) : WO P N n0 ops (⟨d, .call c, ty, ps, af, g⟩ :: rest) R k fr B A L := fun st hl hp =>
  AOps.call rfl hc hw hg ha hd ((hs st hp).lw.mono fun v s ⟨⟨B', e, h0, h1, h2⟩, h3⟩ => h v B' e h0 h2 s h3 h1)
theorem WO.c2 {Q : Kn → AV → Nat × Option OV → Nat × Option OV → Prop} (hc : c.callee = .value gop) (hg : fr.ev gop = .fn (.func f) first cap) (hs : ∀ st, Hp B (A ++ L) st → ASpec P f args st (C2 B (A ++ L) Q)) (ha : first ++ c.args.toList.map fr.ev ++ cap = args) (hw : wantedA ops.toList fr ⟨d, .call c, ty, ps, af, g⟩ = some true) (hd : dstOk N d = true)
    (h : ∀ v B' e e', KLe B B' → Q B' v e e' → WO P N n0 ops rest R k (fr.put d v) B' (e :: e' :: A) L) : WO P N n0 ops (⟨d, .call c, ty, ps, af, g⟩ :: rest) R k fr B A L := fun st hl hp =>
  AOps.call rfl hc hw hg ha hd ((hs st hp).lw.mono fun v s ⟨⟨B', e, e', h0, h1, h2⟩, h3⟩ => h v B' e e' h0 h2 s h3 h1)

theorem APl.grow {K K' : St} {Q : Fr → St → Prop} {plan : Plan} {st : St} (hk : Kp K K') (h : APl P N ops K' Q plan fr st) : APl P N ops K Q plan fr st := fun listed => ⟨fun hp => AAny.grow hk ((h listed).1 hp), fun hp => ABr.grow hk ((h listed).2 hp)⟩
where
  AAny.grow {K K' : St} {Q : Fr → St → Prop} (hk : Kp K K') : ∀ {n : Nat} {listed : Array Bool} {fr : Fr} {st : St}, AAny P N ops K' Q n listed fr st → AAny P N ops K Q n listed fr st
    | 0, _, _, _, h => h
    | n + 1, _, _, _, h => ⟨h.1, fun j hj => by
      have := h.2 j hj
      unfold AStepI at this ⊢
      split
      · rename_i ho
        rw [ho] at this
        exact ⟨fun e => fun b cs hb => this.1 e b cs (hk b cs hb), AAny.grow hk this.2⟩
      · rename_i o ho
        rw [ho] at this
        exact this.mono fun f s hs => ⟨fun e b cs hb => hs.1 e b cs (hk b cs hb), AAny.grow hk hs.2⟩⟩
  ABr.grow {K K' : St} {Q : Fr → St → Prop} (hk : Kp K K') {listed : Array Bool} {fr : Fr} {st : St} : ∀ {p : Plan}, ABr P N ops K' Q listed p fr st → ABr P N ops K Q listed p fr st
    | .nil, _ => trivial
    | .alt _ _, h => ⟨ABr.grow hk h.1, ABr.grow hk h.2⟩
    | .one i r, h => by
      have this : AStepI P N ops i fr st _ := h
      show AStepI P N ops i fr st _
      unfold AStepI at this ⊢
      split
      · rename_i ho
        rw [ho] at this
        exact ⟨fun e => fun b cs hb => this.1 e b cs (hk b cs hb), AAny.grow hk this.2⟩
      · rename_i o ho
        rw [ho] at this
        exact this.mono fun f s hs => ⟨fun e => fun b cs hb => hs.1 e b cs (hk b cs hb), AAny.grow hk hs.2⟩

theorem Kp.kofs {B' : Kn} {L' : Own} {st : St} (hB : KLe B B') (h : Hp B' L' st) (hs : ∀ e ∈ M, e ∈ L') : Kp (Kof B M) (Kof B' M) := Kp.kof ((Rd.kof h hs).le hB)
theorem WP.cS {Q : AV → Prop} (hi : ops.toList[i]? = some ⟨d, .call c, ty, ps, af, g⟩) (hc : c.callee = .value gop) (hg : fr.ev gop = .fn (.func f) first cap) (hs : ∀ st, Hp B (A ++ L) st → ASpec P f args st (CS B (A ++ L) Q)) (ha : first ++ c.args.toList.map fr.ev ++ cap = args) (hw : wantedA ops.toList fr ⟨d, .call c, ty, ps, af, g⟩ = some true) (hd : dstOk N d = true)
    (h : ∀ v, Q v → WP P N n0 ops r R k (fr.put d v) B A L M) : WP P N n0 ops (.one i r) R k fr B A L M := fun hsub st hl hp =>
  APl.call hi rfl hc hw hg ha hd ((hs st hp).lw.mono fun v s ⟨⟨h1, h2⟩, h3⟩ => ⟨.inr (h1.kpm hsub), h v h2 hsub s h3 h1⟩)
theorem WP.c0 {Q : Kn → AV → Prop} (hi : ops.toList[i]? = some ⟨d, .call c, ty, ps, af, g⟩) (hc : c.callee = .value gop) (hg : fr.ev gop = .fn (.func f) first cap) (hs : ∀ st, Hp B (A ++ L) st → ASpec P f args st (C0 B (A ++ L) Q)) (ha : first ++ c.args.toList.map fr.ev ++ cap = args) (hw : wantedA ops.toList fr ⟨d, .call c, ty, ps, af, g⟩ = some true) (hd : dstOk N d = true)
    (h : ∀ v B', KLe B B' → Q B' v → WP P N n0 ops r R k (fr.put d v) B' A L M) : WP P N n0 ops (.one i r) R k fr B A L M := fun hsub st hl hp =>
  APl.call hi rfl hc hw hg ha hd ((hs st hp).lw.mono fun v s ⟨⟨B', h0, h1, h2⟩, h3⟩ => ⟨.inr ((h1.le h0).kpm hsub), APl.grow (Kp.kofs h0 h1 hsub) (h v B' h0 h2 hsub s h3 h1)⟩)
theorem WP.c1 {Q : Kn → AV → Nat × Option OV → Prop} (hi : ops.toList[i]? = some ⟨d, .call c, ty, ps, af, g⟩) (hc : c.callee = .value gop) (hg : fr.ev gop = .fn (.func f) first cap) (hs : ∀ st, Hp B (A ++ L) st → ASpec P f args st (C1 B (A ++ L) Q)) (ha : first ++ c.args.toList.map fr.ev ++ cap = args) (hw : wantedA ops.toList fr ⟨d, .call c, ty, ps, af, g⟩ = some true) (hd : dstOk N d = true)
    (h : ∀ v B' e, KLe B B' → Q B' v e → WP P N n0 ops r R k (fr.put d v) B' (e :: A) L M) : WP P N n0 ops (.one i r) R k fr B A L M := fun hsub st hl hp =>
  APl.call hi rfl hc hw hg ha hd ((hs st hp).lw.mono fun v s ⟨⟨B', e, h0, h1, h2⟩, h3⟩ => by
    have hsub' : ∀ x ∈ M, x ∈ (e :: A) ++ L := fun x hx => List.mem_cons_of_mem _ (hsub x hx)
    exact ⟨.inr (Hp.kpm (L := (e :: A) ++ L) (h1.le h0) hsub'), APl.grow (Kp.kofs (L' := (e :: A) ++ L) h0 h1 hsub') (h v B' e h0 h2 hsub' s h3 h1)⟩)
theorem WP.c2 {Q : Kn → AV → Nat × Option OV → Nat × Option OV → Prop} (hi : ops.toList[i]? = some ⟨d, .call c, ty, ps, af, g⟩) (hc : c.callee = .value gop) (hg : fr.ev gop = .fn (.func f) first cap) (hs : ∀ st, Hp B (A ++ L) st → ASpec P f args st (C2 B (A ++ L) Q)) (ha : first ++ c.args.toList.map fr.ev ++ cap = args) (hw : wantedA ops.toList fr ⟨d, .call c, ty, ps, af, g⟩ = some true) (hd : dstOk N d = true)
    (h : ∀ v B' e e', KLe B B' → Q B' v e e' → WP P N n0 ops r R k (fr.put d v) B' (e :: e' :: A) L M) : WP P N n0 ops (.one i r) R k fr B A L M := fun hsub st hl hp =>
  APl.call hi rfl hc hw hg ha hd ((hs st hp).lw.mono fun v s ⟨⟨B', e, e', h0, h1, h2⟩, h3⟩ => by
    have hsub' : ∀ x ∈ M, x ∈ (e :: e' :: A) ++ L := fun x hx => List.mem_cons_of_mem _ (List.mem_cons_of_mem _ (hsub x hx))
    exact ⟨.inr (Hp.kpm (L := (e :: e' :: A) ++ L) (h1.le h0) hsub'), APl.grow (Kp.kofs (L' := (e :: e' :: A) ++ L) h0 h1 hsub') (h v B' e e' h0 h2 hsub' s h3 h1)⟩)
/-- An own slice lent for a call that answers with scalars. -/
theorem lendC {α : Type} {t : Ty α} {v : AV} {b j : Nat} {nl : Bool} {cs : List AV} {l : List α} {Q : AV → Prop} (ho : OSl t B v b nl cs l) (hA : A[j]? = some (oe b nl cs)) (h : ∀ B1, KLe B B1 → RSl t B1 v l → ∀ st, Hp B1 (A.eraseIdx j ++ L) st → ASpec P f args st (CS B1 (A.eraseIdx j ++ L) Q)) :
    ∀ st, Hp B (A ++ L) st → ASpec P f args st (CS B (A ++ L) Q) := fun st hp => by
  obtain ⟨B1, h1, h2, h3, h4⟩ := (hp.out hA).lendS ho
  exact (h B1 h1 h3 st h2).mono fun v s ⟨a, b⟩ => ⟨(h4 B1 s (.refl _) a).into hA, b⟩
end calls

/-! ### Own slices given up; entries in another order -/
section give
variable {α : Type} {t : Ty α} {v : AV} {b j : Nat} {nl : Bool} {cs : List AV} {l : List α} {rest : List Oper} {r : Plan}
theorem WX.fz (ho : OSl t B v b nl cs l) (hA : A[j]? = some (oe b nl cs)) (h : ∀ B', KLe B B' → RSl t B' v l → WX P N n0 R k fr B' (A.eraseIdx j) L) : WX P N n0 R k fr B A L := fun st hl hp => by
  obtain ⟨B1, h1, h2, h3⟩ := (hp.out hA).freezeS ho
  exact h B1 h1 h3 st hl h2
theorem WO.fz (ho : OSl t B v b nl cs l) (hA : A[j]? = some (oe b nl cs)) (h : ∀ B', KLe B B' → RSl t B' v l → WO P N n0 ops rest R k fr B' (A.eraseIdx j) L) : WO P N n0 ops rest R k fr B A L := fun st hl hp => by
  obtain ⟨B1, h1, h2, h3⟩ := (hp.out hA).freezeS ho
  exact h B1 h1 h3 st hl h2
theorem WP.fz (ho : OSl t B v b nl cs l) (hA : A[j]? = some (oe b nl cs)) (hs : ∀ e ∈ M, e ∈ A ++ L → e ∈ A.eraseIdx j ++ L) (h : ∀ B', KLe B B' → RSl t B' v l → WP P N n0 ops r R k fr B' (A.eraseIdx j) L M) : WP P N n0 ops r R k fr B A L M := fun hsub st hl hp => by
  obtain ⟨B1, h1, h2, h3⟩ := (hp.out hA).freezeS ho
  exact APl.grow (Kp.kofs h1 h2 fun e he => hs e he (hsub e he)) (h B1 h1 h3 (fun e he => hs e he (hsub e he)) st hl h2)
theorem WX.pk (is : List Nat) (hn : is.Nodup) (h : WX P N n0 R k fr B (Gab.pk is A) L) : WX P N n0 R k fr B A L := fun st hl hp => h st hl (hp.pk is hn)
end give

/-! ### Control flow -/
theorem WX.seq {x y : Code} (h : WX P N n0 R (.code x :: .code y :: k) fr B A L) : WX P N n0 R (.code (.seq x y) :: k) fr B A L := fun st hl hp => AX.seq (h st hl hp)
theorem WX.skip (h : WX P N n0 R k fr B A L) : WX P N n0 R (.code .skip :: k) fr B A L := fun st hl hp => AX.skip (h st hl hp)
theorem WX.block {id : Nat} {c : Code} (h : WX P N n0 R (.code c :: .blk id :: k) fr B A L) : WX P N n0 R (.code (.block id c) :: k) fr B A L := fun st hl hp => AX.block (h st hl hp)
theorem WX.pop {id : Nat} (h : WX P N n0 R k fr B A L) : WX P N n0 R (.blk id :: k) fr B A L := fun st hl hp => AX.pop (h st hl hp)
theorem WX.loop {c : Code} (h : WX P N n0 R (.code c :: .lp c :: k) fr B A L) : WX P N n0 R (.code (.loop c) :: k) fr B A L := fun st hl hp => AX.loop (h st hl hp)
theorem WX.lp {c : Code} (h : WX P N n0 R (.code c :: .lp c :: k) fr B A L) : WX P N n0 R (.lp c :: k) fr B A L := fun st hl hp => AX.lp (h st hl hp)
theorem WX.cond {c : Operand} {x y : Code} {b : Bool} (hc : fr.ev c = .bool b) (ht : b = true → WX P N n0 R (.code x :: k) fr B A L) (hf : b = false → WX P N n0 R (.code y :: k) fr B A L) : WX P N n0 R (.code (.cond c x y) :: k) fr B A L := fun st hl hp =>
  AX.condB hc (fun e => ht e st hl hp) (fun e => hf e st hl hp)
/-- The stack behind an exit. -/
def unw (id : Nat) : List It → Option (List It)
  | [] => none
  | .blk i :: k => if id = i then some k else unw id k
  | .code _ :: k => unw id k
  | .lp _ :: k => unw id k
theorem AX.unw {id : Nat} {st : St} : ∀ {k k' : List It}, Gab.unw id k = some k' → AX P N n0 R k' .normal fr st → AX P N n0 R k (.exit id) fr st
  | .blk i :: k, k', h, hx => by
    unfold Gab.unw at h
    rw [AX.blk_exit]
    split at h
    · rename_i e; cases h; rw [if_pos e]; exact hx
    · rename_i e; rw [if_neg e]; exact AX.unw h hx
  | .code _ :: k, k', h, hx => by rw [AX.code_exit]; exact AX.unw (k := k) h hx
  | .lp _ :: k, k', h, hx => by rw [AX.lp_exit]; exact AX.unw (k := k) h hx
theorem WX.exit {id : Nat} {k' : List It} (hk : Gab.unw id k = some k') (h : WX P N n0 R k' fr B A L) : WX P N n0 R (.code (.exit id) :: k) fr B A L := fun st hl hp => AX.exit (AX.unw hk (h st hl hp))
theorem AX.retk {st : St} : ∀ {k : List It}, R .ret fr st → AX P N n0 R k .ret fr st
  | [], h => h
  | .blk _ :: k, h => by rw [AX.blk_ret]; exact AX.retk h
  | .code _ :: k, h => by rw [AX.code_ret]; exact AX.retk h
  | .lp _ :: k, h => by rw [AX.lp_ret]; exact AX.retk h
theorem WX.ret {rs : List ResultVar} {Q : AV → St → Prop} {v : AV} (hv : ∀ st, Rd B A st → evResults P rs fr st = some v) (h : ∀ st, Hp B (A ++ L) st → Q v st) : WX P N n0 (Fin P rs n0 Q) (.code .ret :: k) fr B A L := fun st hl hp =>
  AX.ret (AX.retk ⟨.inr rfl, v, hv st hp.loc, v, st, LeV.refl, h st hp⟩)
theorem WX.fin {rs : List ResultVar} {Q : AV → St → Prop} {v : AV} (hv : ∀ st, Rd B A st → evResults P rs fr st = some v) (h : ∀ st, Hp B (A ++ L) st → Q v st) : WX P N n0 (Fin P rs n0 Q) [] fr B A L := fun st hl hp =>
  ⟨.inl rfl, v, hv st hp.loc, v, st, LeV.refl, h st hp⟩
theorem rs_ {rs : List ResultVar} {l : List AV} (h : ∀ st, Rd B A st → evRess P fr st rs = some l) : ∀ st, Rd B A st → evResults P rs fr st = some (tupOf l) := fun st hr => by simp only [evResults, h st hr, Option.bind_some]
theorem rs_nil : ∀ st, Rd B A st → evRess P fr st [] = some [] := fun _ _ => rfl
theorem rs_tmp {t : Nat} {v : AV} {rs : List ResultVar} {l : List AV} (hv : Fr.get fr t = v) (h : ∀ st, Rd B A st → evRess P fr st rs = some l) : ∀ st, Rd B A st → evRess P fr st (.tmp t :: rs) = some (v :: l) := fun st hr => by
  simp only [evRess, evRes1, hv, Option.bind_some, h st hr]
theorem rs_cell {t a : Nat} {v : AV} {rs : List ResultVar} {l : List AV} (hv : QOp P (.load t (.tmp a)) fr B A v) (h : ∀ st, Rd B A st → evRess P fr st rs = some l) : ∀ st, Rd B A st → evRess P fr st (.cell a t :: rs) = some (v :: l) := fun st hr => by
  have h1 := hv st hr
  simp only [evOp, fr_ev_tmp] at h1
  cases he : evLoad P t (Fr.get fr a) st with
  | none => rw [he] at h1; cases h1
  | some u =>
    rw [he] at h1
    simp only [Option.bind_some, Option.some.injEq, Prod.mk.injEq, and_true] at h1
    subst h1
    simp only [evRess, evRes1, he, Option.bind_some, h st hr]

theorem frel_keep (ks : List Nat) {st : St} : Le N n0 fr st (Fr.keep ks fr) st := fun ρ w tmps hn hr hf => ⟨ρ, hr, ⟨hf.1, fun t => by
  rw [Fr.keep_get]
  split
  · exact hf.2 t
  · trivial⟩, .refl ..⟩
theorem WX.keep {c : Code} (ks : List Nat) {fr2 : Fr} (h : WX P N n0 R (.code c :: k) fr2 B A L) (he : Fr.keep ks fr = fr2) : WX P N n0 R (.code c :: k) fr B A L := fun st hl hp => AX.weaken (he ▸ frel_keep ks) (h st hl hp)
theorem WX.keepL {c : Code} (ks : List Nat) {fr2 : Fr} (h : WX P N n0 R (.lp c :: k) fr2 B A L) (he : Fr.keep ks fr = fr2) : WX P N n0 R (.lp c :: k) fr B A L := fun st hl hp => AX.weaken_lp (he ▸ frel_keep ks) (h st hl hp)
/-- A function's contract, from its body. -/
theorem body {f : FuncId} {fn : Func} {c : Code} {args : List AV} {Q : AV → St → Prop} (hf : P.funcs[f]? = some fn) (hname : (fn.name == "runtime.NumGoroutine") = false) (hb : fn.body = some c) (hN : fn.ntmps = N) (hle : args.length ≤ N)
    (h : ∀ n0, WX P N n0 (Fin P fn.results.toList n0 Q) [.code c] (enumFr 0 args) B [] L) : ∀ st, Hp B L st → ASpec P f args st Q := fun st hp =>
  ASpec.bodyX hf hname hb hN hle fun hwf _ => h st.n st hwf.lw hp

/-! ### Loops and meeting points -/
def iter {σ ε : Type} (step : σ → Option (σ ⊕ ε)) : Nat → σ → Option ε
  | 0, _ => none
  | d + 1, s => (step s).bind fun o => match o with
    | .inl s' => iter step d s'
    | .inr e => some e
def on {α β γ : Type} (e : α ⊕ β) (f : α → γ) (g : β → γ) : γ := match e with
  | .inl x => f x
  | .inr y => g y
theorem on_l {α β γ : Type} {x : α} {f : α → γ} {g : β → γ} {z : γ} (h : on (.inl x) f g = z) : f x = z := h
theorem on_r {α β γ : Type} {x : β} {f : α → γ} {g : β → γ} {z : γ} (h : on (.inr x) f g = z) : g x = z := h
def WXI (P : Program) (N n0 : Nat) (R : Post) (k : List It) (I : Fr → Kn → Own → Prop) (L : Own) : Prop := ∀ fr B A, I fr B A → WX P N n0 R k fr B A L
theorem iter_ok {σ ε : Type} {step : σ → Option (σ ⊕ ε)} {I : σ → Fr → Kn → Own → Prop} {D : ε → Prop} {c : Code}
    (hs : ∀ E : σ ⊕ ε → Prop, (∀ s, E (.inl s) → WXI P N n0 R (.lp c :: k) (I s) L) → (∀ e, E (.inr e) → D e) → ∀ s o, step s = some o → E o → WXI P N n0 R (.code c :: .lp c :: k) (I s) L) :
    ∀ {d : Nat} {s : σ} {e : ε}, iter step d s = some e → D e → WXI P N n0 R (.code c :: .lp c :: k) (I s) L
  | 0, _, _, h, _ => by cases h
  | d + 1, s, e, h, hD => by
    obtain ⟨o, ho, h⟩ := Option.bind_eq_some_iff.1 h
    refine hs (fun o => match o with
      | .inl s' => iter step d s' = some e
      | .inr e' => e' = e) (fun s' hs' fr B A hI => WX.lp (iter_ok hs hs' hD fr B A hI)) (fun e' he => by cases he; exact hD) s o ho ?_
    cases o with
    | inl s' => exact h
    | inr e' => exact Option.some.inj h
theorem bsp (b : Bool) : b = true ∨ b = false := by cases b <;> simp
theorem bnt {b : Bool} (h : b = false) : ¬ b = true := by rw [h]; exact Bool.false_ne_true
theorem not_t {b : Bool} (h : (!b) = true) : b = false := by cases b <;> simp_all
theorem not_f {b : Bool} (h : (!b) = false) : b = true := by cases b <;> simp_all
theorem t_not {b : Bool} (h : b = false) : (!b) = true := by rw [h]; rfl
theorem f_not {b : Bool} (h : b = true) : (!b) = false := by rw [h]; rfl
theorem WX.condT {c : Operand} {x y : Code} {b : Bool} (hc : fr.ev c = .bool b) (hb : b = true) (h : WX P N n0 R (.code x :: k) fr B A L) : WX P N n0 R (.code (.cond c x y) :: k) fr B A L := WX.cond hc (fun _ => h) (fun e => by rw [hb] at e; cases e)
theorem WX.condF {c : Operand} {x y : Code} {b : Bool} (hc : fr.ev c = .bool b) (hb : b = false) (h : WX P N n0 R (.code y :: k) fr B A L) : WX P N n0 R (.code (.cond c x y) :: k) fr B A L := WX.cond hc (fun e => by rw [hb] at e; cases e) (fun _ => h)
theorem RL.cons {α : Type} {t : Ty α} {c r : List AV} {x : α} {l : List α} (h : t.R B c x) (h' : RL t B r l) : RL t B (c ++ r) (x :: l) := ⟨c, r, rfl, h, h'⟩
theorem RL.nil {α : Type} {t : Ty α} : RL t B [] ([] : List α) := rfl
theorem Ri {kd : IntKind} {x : Int} : (Ty.int kd).R B [.int kd x] x := rfl
theorem Rb {x : Bool} : Ty.bool.R B [.bool x] x := rfl
theorem Rs {x : List UInt8} : Ty.str.R B [.str x] x := rfl
theorem Rl {α : Type} {t : Ty α} {v : AV} {x : List α} (h : RSl t B v x) : (Ty.slice t).R B [v] x := ⟨v, rfl, h⟩
theorem Rp {α β : Type} {s : Ty α} {t : Ty β} {c d : List AV} {x : α} {y : β} (h : s.R B c x) (h' : t.R B d y) : (Ty.pair s t).R B (c ++ d) (x, y) := ⟨c, d, rfl, h, h'⟩
theorem Ru : Ty.unit.R B [] () := rfl

/-! ### Variants with the target slot -/
section tgt
variable {d : Nat} {op : Op} {ty : TypeId} {ps : String} {af : Array Edge} {g : Option (Nat × Bool)} {rest : List Oper} {i : Nat} {r : Plan}
theorem WO.md {Q : AV → Own → Prop} (hm : MOp P op fr B A L Q) (hw : wantedA ops.toList fr ⟨some d, op, ty, ps, af, g⟩ = some true) (hd : dstOk N (some d) = true)
    (h : ∀ v A', Q v A' → WO P N n0 ops rest R k ((d, v) :: fr) B A' L) : WO P N n0 ops (⟨some d, op, ty, ps, af, g⟩ :: rest) R k fr B A L := WO.m hm hw hd h
theorem WO.mn {Q : AV → Own → Prop} (hm : MOp P op fr B A L Q) (hw : wantedA ops.toList fr ⟨none, op, ty, ps, af, g⟩ = some true)
    (h : ∀ v A', Q v A' → WO P N n0 ops rest R k fr B A' L) : WO P N n0 ops (⟨none, op, ty, ps, af, g⟩ :: rest) R k fr B A L := WO.m hm hw rfl h
theorem WO.sd (hw : wantedA ops.toList fr ⟨some d, op, ty, ps, af, g⟩ = some false) (hd : dstOk N (some d) = true)
    (h : WO P N n0 ops rest R k ((d, .tup []) :: fr) B A L) : WO P N n0 ops (⟨some d, op, ty, ps, af, g⟩ :: rest) R k fr B A L := WO.sk hw hd h
theorem WO.sn (hw : wantedA ops.toList fr ⟨none, op, ty, ps, af, g⟩ = some false)
    (h : WO P N n0 ops rest R k fr B A L) : WO P N n0 ops (⟨none, op, ty, ps, af, g⟩ :: rest) R k fr B A L := WO.sk hw rfl h
theorem WP.md {Q : AV → Own → Prop} (hi : ops.toList[i]? = some ⟨some d, op, ty, ps, af, g⟩) (hm : MOp P op fr B A L Q) (hQ : isQ P op = false) (hw : wantedA ops.toList fr ⟨some d, op, ty, ps, af, g⟩ = some true) (hd : dstOk N (some d) = true)
    (h : ∀ v A', Q v A' → (∀ e ∈ M, e ∈ A ++ L → e ∈ A' ++ L) ∧ WP P N n0 ops r R k ((d, v) :: fr) B A' L M) : WP P N n0 ops (.one i r) R k fr B A L M :=
  WP.m hi hm hQ hw hd (fun v A' hq hs e he => (h v A' hq).1 e he (hs e he)) fun v A' hq => (h v A' hq).2
theorem WP.sd (hi : ops.toList[i]? = some ⟨some d, op, ty, ps, af, g⟩) (hQ : isQ P op = false) (hw : wantedA ops.toList fr ⟨some d, op, ty, ps, af, g⟩ = some false) (hd : dstOk N (some d) = true)
    (h : WP P N n0 ops r R k ((d, .tup []) :: fr) B A L M) : WP P N n0 ops (.one i r) R k fr B A L M := WP.skm hi hQ hw hd h
theorem WP.mn {Q : AV → Own → Prop} (hi : ops.toList[i]? = some ⟨none, op, ty, ps, af, g⟩) (hm : MOp P op fr B A L Q) (hQ : isQ P op = false) (hw : wantedA ops.toList fr ⟨none, op, ty, ps, af, g⟩ = some true)
    (h : ∀ v A', Q v A' → (∀ e ∈ M, e ∈ A ++ L → e ∈ A' ++ L) ∧ WP P N n0 ops r R k fr B A' L M) : WP P N n0 ops (.one i r) R k fr B A L M :=
  WP.m hi hm hQ hw rfl (fun v A' hq hs e he => (h v A' hq).1 e he (hs e he)) fun v A' hq => (h v A' hq).2
theorem WP.msd {Q : AV → Own → Prop} (hi : ops.toList[i]? = some ⟨some d, op, ty, ps, af, g⟩) (hm : MOp P op fr B A L Q) (hQ : isQ P op = false) (hS : needS P ops i = false) (hw : wantedA ops.toList fr ⟨some d, op, ty, ps, af, g⟩ = some true) (hd : dstOk N (some d) = true)
    (h : ∀ v A', Q v A' → WS P N n0 ops r R k ((d, v) :: fr) B A' L) : WP P N n0 ops (.one i r) R k fr B A L M := WP.ms hi hm hQ hS hw hd h
theorem WP.msn {Q : AV → Own → Prop} (hi : ops.toList[i]? = some ⟨none, op, ty, ps, af, g⟩) (hm : MOp P op fr B A L Q) (hQ : isQ P op = false) (hS : needS P ops i = false) (hw : wantedA ops.toList fr ⟨none, op, ty, ps, af, g⟩ = some true)
    (h : ∀ v A', Q v A' → WS P N n0 ops r R k fr B A' L) : WP P N n0 ops (.one i r) R k fr B A L M := WP.ms hi hm hQ hS hw rfl h
theorem WS.msn {Q : AV → Own → Prop} (hi : ops.toList[i]? = some ⟨none, op, ty, ps, af, g⟩) (hm : MOp P op fr B A L Q) (hQ : isQ P op = false) (hS : needS P ops i = false) (hw : wantedA ops.toList fr ⟨none, op, ty, ps, af, g⟩ = some true)
    (h : ∀ v A', Q v A' → WS P N n0 ops r R k fr B A' L) : WS P N n0 ops (.one i r) R k fr B A L := WS.m hi hm hQ hS hw rfl h
end tgt
end
end Gab
