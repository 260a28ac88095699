/- What hangs on the order of a map; functions that only look at the heap. -/
import Derived.Test.YtcdldgoehoopmaaDoorHi
import Derived.Test.YtcdldgoehoopmaaDoorPu
set_option linter.unusedSimpArgs false
set_option linter.unusedVariables false
namespace Gab
open Go

/-- An answer of which something is told. -/
def ndP {ρ : Type} (Z : ρ → Prop) (P : ρ → AV → St → Prop) : AV → St → Prop := fun v s => ∃ r, Z r ∧ P r v s
theorem on_lN {α β : Type} {x : α} {f : α → Prop} {g : β → Prop} (h : on (.inl x) f g) : f x := h
theorem on_rN {α β : Type} {x : β} {f : α → Prop} {g : β → Prop} (h : on (.inr x) f g) : g x := h
section
variable {P : Program} {f : FuncId} {args : List AV} {B : Kn} {A E L M : Own}
theorem ndCH {ρ : Type} {Z : ρ → Prop} {Q : ρ → Kn → Own → Own → AV → Prop} (h : ∀ st, Hp B M st → ASpec P f args st (ndP Z fun r => CH B L (Q r))) : ∀ st, Hp B M st → ASpec P f args st (CH B L fun B' X E' v => ∃ r, Z r ∧ Q r B' X E' v) :=
  fun st hp => (h st hp).mono fun v s ⟨r, hz, B', X, E', h0, h1, h2⟩ => ⟨B', X, E', h0, h1, r, hz, h2⟩
theorem rdS {Q : AV → Prop} (h : ∀ st, Hp B (E ++ (A ++ L)) st → ASpec P f args st (CS B (E ++ (A ++ L)) Q)) : ∀ st, Hp B (A ++ (E ++ L)) st → ASpec P f args st (CS B (A ++ (E ++ L)) Q) :=
  fun st hp => (h st (hp.perm perm_call)).mono fun v s ⟨h1, h2⟩ => ⟨h1.perm perm_call, h2⟩
theorem rd0 {Q : Kn → AV → Prop} (h : ∀ st, Hp B (E ++ (A ++ L)) st → ASpec P f args st (C0 B (E ++ (A ++ L)) Q)) : ∀ st, Hp B (A ++ (E ++ L)) st → ASpec P f args st (C0 B (A ++ (E ++ L)) Q) :=
  fun st hp => (h st (hp.perm perm_call)).mono fun v s ⟨B', h0, h1, h2⟩ => ⟨B', h0, h1.perm perm_call, h2⟩
theorem rd1 {Q : Kn → AV → Nat × Option OV → Prop} (h : ∀ st, Hp B (E ++ (A ++ L)) st → ASpec P f args st (C1 B (E ++ (A ++ L)) Q)) : ∀ st, Hp B (A ++ (E ++ L)) st → ASpec P f args st (C1 B (A ++ (E ++ L)) Q) :=
  fun st hp => (h st (hp.perm perm_call)).mono fun v s ⟨B', e, h0, h1, h2⟩ => ⟨B', e, h0, h1.perm (perm_call.cons e), h2⟩
theorem rd2 {Q : Kn → AV → Nat × Option OV → Nat × Option OV → Prop} (h : ∀ st, Hp B (E ++ (A ++ L)) st → ASpec P f args st (C2 B (E ++ (A ++ L)) Q)) : ∀ st, Hp B (A ++ (E ++ L)) st → ASpec P f args st (C2 B (A ++ (E ++ L)) Q) :=
  fun st hp => (h st (hp.perm perm_call)).mono fun v s ⟨B', e, e', h0, h1, h2⟩ => ⟨B', e, e', h0, h1.perm ((perm_call.cons e').cons e), h2⟩
end
/-! ### Loops whose rounds hang on an order -/
def iterN {σ ε : Type} (step : σ → (σ ⊕ ε → Prop) → Prop) : Nat → σ → (ε → Prop) → Prop
  | 0, _, _ => False
  | d + 1, s, K => step s fun o => match o with
    | .inl s' => iterN step d s' K
    | .inr e => K e
section
variable {P : Program} {N n0 : Nat} {k : List It} {L : Own}
theorem iterN_ok {σ ε : Type} {step : σ → (σ ⊕ ε → Prop) → Prop} {I : σ → Fr → Kn → Own → Prop} {K : ε → Prop} {c : Code} {R : Post}
    (hs : ∀ Z : σ ⊕ ε → Prop, (∀ s, Z (.inl s) → WXI P N n0 R (.lp c :: k) (I s) L) → (∀ e, Z (.inr e) → K e) → ∀ s, step s Z → WXI P N n0 R (.code c :: .lp c :: k) (I s) L) :
    ∀ {d : Nat} {s : σ}, iterN step d s K → WXI P N n0 R (.code c :: .lp c :: k) (I s) L
  | 0, _, h => h.elim
  | d + 1, s, h => hs _ (fun s' hs' fr B A hI => WX.lp (iterN_ok hs hs' fr B A hI)) (fun e he => he) s h
theorem iterN_okH {σ ε : Type} {step : σ → (σ ⊕ ε → Prop) → Prop} {I : σ → Fr → Kn → Own → Own → Prop} {K : ε → Prop} {c : Code} {R : Post}
    (hs : ∀ Z : σ ⊕ ε → Prop, (∀ s, Z (.inl s) → WXH P N n0 R (.lp c :: k) (I s) L) → (∀ e, Z (.inr e) → K e) → ∀ s, step s Z → WXH P N n0 R (.code c :: .lp c :: k) (I s) L) :
    ∀ {d : Nat} {s : σ}, iterN step d s K → WXH P N n0 R (.code c :: .lp c :: k) (I s) L
  | 0, _, h => h.elim
  | d + 1, s, h => hs _ (fun s' hs' fr B A E hI => WX.lp (iterN_okH hs hs' fr B A E hI)) (fun e he => he) s h
end
/-! ### A range over a map, in whatever order -/
def rngN {σ ε π : Type} (step : σ → π → Option (σ ⊕ ε)) (fin : σ → Option ε) : List π → σ → Option ε
  | [], s => fin s
  | p :: l, s => (step s p).bind fun o => match o with
    | .inl s' => rngN step fin l s'
    | .inr e => some e
def RN {σ ε π : Type} (step : σ → π → Option (σ ⊕ ε)) (fin : σ → Option ε) (m : List π) (s : σ) (K : ε → Prop) : Prop := ∀ l : List π, l.Perm m → ∃ e, rngN step fin l s = some e ∧ K e
section
variable {σ ε π : Type} {step : σ → π → Option (σ ⊕ ε)} {fin : σ → Option ε} {m m' : List π} {s : σ} {K : ε → Prop}
theorem RN.perm (h : RN step fin m s K) (hp : m'.Perm m) : RN step fin m' s K := fun l hl => h l (hl.trans hp)
theorem RN.nil (h : RN step fin [] s K) : ∃ e, fin s = some e ∧ K e := h [] (.refl _)
theorem RN.cons {p : π} (h : RN step fin m s K) (hp : m.Perm (p :: m')) : ∃ o, step s p = some o ∧ on o (fun s' => RN step fin m' s' K) K := by
  obtain ⟨e, h1, h2⟩ := h (p :: m') hp.symm
  obtain ⟨o, h3, h4⟩ := Option.bind_eq_some_iff.1 h1
  refine ⟨o, h3, ?_⟩
  cases o with
  | inl s' =>
    intro l hl
    obtain ⟨e', g1, g2⟩ := h (p :: l) ((hl.cons p).trans hp.symm)
    obtain ⟨o', g3, g4⟩ := Option.bind_eq_some_iff.1 g1
    obtain rfl := Option.some.inj (h3.symm.trans g3)
    exact ⟨e', g4, g2⟩
  | inr e' => cases h4; exact h2
end
/-- The entries of a map, told one by one. -/
structure MPs {κ α : Type} (tk : Ty κ) (tv : Ty α) (B : Kn) (es : MEnts) (c : Nat) (ps : List (κ × α)) : Prop where
  len : es.length = ps.length
  rel : ∀ (i : Nat) (e : AV × AV × Nat), es[i]? = some e → ∃ p ck cv, ps[i]? = some p ∧ tk.R B ck p.1 ∧ tv.R B cv p.2 ∧ ck = [e.1] ∧ cv = [e.2.1]
  nb : (es.map (·.2.2)).Nodup
  lb : ∀ e ∈ es, e.2.2 < c
theorem MPs.up {κ α : Type} {tk : Ty κ} {tv : Ty α} {B B' : Kn} {es : MEnts} {c : Nat} {ps : List (κ × α)} (h : MPs tk tv B es c ps) (hk : KLw B B') : MPs tk tv B' es c ps :=
  ⟨h.len, fun i e hi => let ⟨p, ck, cv, a, b, d, f, g⟩ := h.rel i e hi; ⟨p, ck, cv, a, tk.mono hk b, tv.mono hk d, f, g⟩, h.nb, h.lb⟩
theorem hgetR {κ α : Type} [DecidableEq κ] {B : Kn} {T : Nat} {E : Own} {tk : Ty κ} {tv : Ty α} {l : List (List (κ × α))} {K : Kn → List (List (κ × α)) → Own → Prop} (hf : Foc B T (MR tk tv) l E K) {v : AV} {n : Nat} (hp : HMt B T v n) {x : List (κ × α)} (hx : hobj l n = some x) :
    ∃ b es c ps, v = .map b ∧ (b, some (OV.m es c)) ∈ E ∧ MPs tk tv B es c ps ∧ ps.Perm x := by
  obtain ⟨i, rfl, hi⟩ := hobj_some hx
  have hm : hmap l (i + 1) = some x := by unfold hmap; rw [if_neg (by omega)]; exact hi
  rcases hgetM hf hp hm with ⟨rfl, rfl⟩ | ⟨b, es, c, rfl, h1, ⟨⟨ps, g1, g2, g3⟩, g4, g5, g6⟩⟩
  · rcases hp with ⟨e, _⟩ | ⟨_, _, _, _, e⟩
    · omega
    · cases e
  · refine ⟨b, es, c, ps, rfl, h1, ⟨g2, fun i e he => ?_, g5, g6⟩, g1⟩
    obtain ⟨p, a, b, c⟩ := g3 i e.1 e.2.1 e.2.2 he
    exact ⟨p, _, _, a, b, c, rfl, rfl⟩
section
variable {P : Program} {N n0 : Nat} {k : List It} {L : Own} {σ ε κ α : Type} {tk : Ty κ} {tv : Ty α} {B1 : Kn} {es : MEnts} {c0 : Nat} {ps : List (κ × α)}
theorem rng_ok {step : σ → κ × α → Option (σ ⊕ ε)} {fin : σ → Option ε} {K : ε → Prop} {I : σ → List Nat → Fr → Kn → Own → Prop} {c : Code} {R : Post} (hm : MPs tk tv B1 es c0 ps)
    (hs : ∀ (T : Nat → σ → Prop) (s : σ) (seen : List Nat), ((∀ e ∈ es, e.2.2 ∈ seen) → ∃ e', fin s = some e' ∧ K e') →
      (∀ (q : Nat) (e : AV × AV × Nat) (p : κ × α), es[q]? = some e → ps[q]? = some p → e.2.2 ∉ seen → ∃ o, step s p = some o ∧ on o (T e.2.2) K) →
      (∀ t s', T t s' → WXI P N n0 R (.lp c :: k) (I s' (seen ++ [t])) L) → WXI P N n0 R (.code c :: .lp c :: k) (I s seen) L) :
    ∀ {s : σ} {seen : List Nat}, RN step fin (Lft es ps seen) s K → WXI P N n0 R (.code c :: .lp c :: k) (I s seen) L := by
  have key : ∀ (n : Nat) (s : σ) (seen : List Nat), (Lft es ps seen).length = n → RN step fin (Lft es ps seen) s K → WXI P N n0 R (.code c :: .lp c :: k) (I s seen) L := by
    intro n
    induction n using Nat.strongRecOn with
    | ind n ih =>
      intro s seen hn h
      refine hs (fun t s' => RN step fin (Lft es ps (seen ++ [t])) s' K ∧ (Lft es ps (seen ++ [t])).length < n) s seen (fun hall => ?_) (fun q e p hq hp hse => ?_) (fun t s' ht fr B A hI => WX.lp (ih _ ht.2 s' _ rfl ht.1 fr B A hI))
      · rw [Lft.none hall] at h; exact h.nil
      · have hpk := Lft.pick hm.nb hq hp hse
        obtain ⟨o, h1, h2⟩ := h.cons hpk
        refine ⟨o, h1, ?_⟩
        cases o with
        | inl s' => exact ⟨h2, by have := hpk.length_eq; simp at this; omega⟩
        | inr e' => exact h2
  intro s seen h
  exact key _ s seen rfl h
end
end Gab
