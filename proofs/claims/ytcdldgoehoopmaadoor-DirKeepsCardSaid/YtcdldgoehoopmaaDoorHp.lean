/- Own blocks and what is known for good: the memory as the printed proofs see it. -/
import Derived.Test.YtcdldgoehoopmaaDoorWk
set_option linter.unusedSimpArgs false
set_option linter.unusedVariables false
namespace Gab
open Go

/-- What is known of blocks that nobody writes any more. -/
structure Kn where
  kn : Nat → Option AObj
  ad : Nat → List Nat
instance : CoeFun Kn fun _ => Nat → Option AObj := ⟨Kn.kn⟩
/-- More is known; the objects of the heap are the same ones. -/
structure KLe (A B : Kn) : Prop where
  k : ∀ b o, A b = some o → B b = some o
  a : B.ad = A.ad
/-- More is known, and there may be more objects. -/
structure KLw (A B : Kn) : Prop where
  k : ∀ b o, A b = some o → B b = some o
  a : ∀ T, A.ad T <+: B.ad T
theorem KLe.w {A B : Kn} (h : KLe A B) : KLw A B := ⟨h.k, fun T => by rw [h.a]; exact List.prefix_rfl⟩
theorem KLe.refl (A : Kn) : KLe A A := ⟨fun _ _ h => h, rfl⟩
theorem KLe.trans {A B C : Kn} (h : KLe A B) (k : KLe B C) : KLe A C := ⟨fun b o x => k.k b o (h.k b o x), k.a.trans h.a⟩
theorem KLw.refl (A : Kn) : KLw A A := ⟨fun _ _ h => h, fun _ => List.prefix_rfl⟩
theorem KLw.trans {A B C : Kn} (h : KLw A B) (k : KLw B C) : KLw A C := ⟨fun b o x => k.k b o (h.k b o x), fun T => (h.a T).trans (k.a T)⟩
theorem KLw.at {A B : Kn} (h : KLw A B) {T i b : Nat} (hb : (A.ad T)[i]? = some b) : (B.ad T)[i]? = some b := by
  obtain ⟨r, hr⟩ := h.a T
  rw [← hr, List.getElem?_append_left (List.getElem?_eq_some_iff.1 hb).1]; exact hb
/-- Every block has a name below n. -/
def St.lw (st : St) : Prop := ∀ b o, st.get b = some o → b < st.n
theorem St.wf.lw {st : St} (h : st.wf) : st.lw := fun b o hb => (h b o hb).1
theorem lw_push {st : St} (h : st.lw) (o : AObj) : (st.push o).lw := fun b x hb => by
  rw [St.push_get] at hb
  rw [St.push_n]
  split at hb
  · omega
  · have := h b x hb; omega
theorem lw_pushO {st : St} (h : st.lw) (o : Option AObj) : (st.pushO o).lw := fun b x hb => by
  rw [St.pushO_get] at hb
  rw [St.pushO_n]
  split at hb
  · omega
  · have := h b x hb; omega
theorem lw_set {st : St} (h : st.lw) {i : Nat} {o' : AObj} (hi : i < st.n) (o : AObj) : (st.set i o).lw := fun b x hb => by
  rw [St.set_get] at hb
  rw [St.set_n]
  split at hb
  · omega
  · exact h b x hb
theorem lw_kill {st : St} (h : st.lw) (i : Nat) : (st.kill i).lw := fun b x hb => by
  rw [St.kill_get] at hb
  rw [St.kill_n]
  split at hb
  · cases hb
  · exact h b x hb
/-- Own blocks, by name; none: nothing is known. -/
inductive OV where
  | c (cs : List AV)
  | m (es : MEnts) (clock : Nat)
  | s (l : List UInt8) (pos : Nat)
  | i (m : Option Nat) (since : Nat) (seen : List Nat) (last : Nat)
@[reducible] def OV.obj : OV → AObj
  | .c cs => .blk cs true
  | .m es k => .map es k
  | .s x p => .siter x p
  | .i x a y z => .miter x a y z
instance : Coe (List AV) OV := ⟨OV.c⟩
abbrev Own := List (Nat × Option OV)

structure Rd (B : Kn) (M : Own) (st : St) : Prop where
  kn : ∀ b o, B b = some o → st.get b = some o
  own : ∀ b o, (b, some o) ∈ M → st.get b = some (OV.obj o)
structure Hp (B : Kn) (L : Own) (st : St) : Prop extends Rd B L st where
  frz : ∀ b o, (b, some o) ∈ L → B b = none
  sep : L.Pairwise fun x y => x.2.isSome = true → y.2.isSome = true → x.1 ≠ y.1

theorem Rd.rd {B : Kn} {M : Own} {st : St} (h : Rd B M st) {b : Nat} {cs : List AV} {rw : Bool} (hb : B b = some (.blk cs rw)) : rdBlk st b = some cs := rdBlk_of (h.kn b _ hb)
theorem Rd.ro {B : Kn} {M : Own} {st : St} (h : Rd B M st) {b : Nat} {cs : List AV} (hb : (b, some (OV.c cs)) ∈ M) : rdBlk st b = some cs := rdBlk_of (h.own b _ hb)
theorem Rd.wr {B : Kn} {M : Own} {st : St} (h : Rd B M st) {b : Nat} {cs : List AV} (hb : (b, some (OV.c cs)) ∈ M) : wrBlk st b = some cs := wrBlk_of (h.own b _ hb)
theorem Rd.sub {B : Kn} {M M' : Own} {st : St} (h : Rd B M st) (hs : ∀ e ∈ M', e ∈ M) : Rd B M' st := ⟨h.kn, fun b cs hb => h.own b cs (hs _ hb)⟩
theorem Rd.le {A B : Kn} {M : Own} {st : St} (h : Rd B M st) (hs : KLe A B) : Rd A M st := ⟨fun b o hb => h.kn b o (hs.k b o hb), h.own⟩
theorem Rd.lew {A B : Kn} {M : Own} {st : St} (h : Rd B M st) (hs : KLw A B) : Rd A M st := ⟨fun b o hb => h.kn b o (hs.k b o hb), h.own⟩
theorem Hp.rd {B : Kn} {L : Own} {st : St} (h : Hp B L st) : Rd B L st := h.toRd
theorem Hp.le {A B : Kn} {L : Own} {st : St} (h : Hp B L st) (hs : KLe A B) : Hp A L st :=
  ⟨h.rd.le hs, fun b cs hb => (by
    have := h.frz b cs hb
    cases ha : A b with
    | none => rfl
    | some o => rw [hs.k b o ha] at this; cases this), h.sep⟩

theorem Hp.lt {B : Kn} {L : Own} {st : St} (h : Hp B L st) (hwf : st.lw) {b : Nat} {o : OV} (hb : (b, some o) ∈ L) : b < st.n := hwf b _ (h.own b o hb)
theorem Hp.klt {B : Kn} {L : Own} {st : St} (h : Hp B L st) (hwf : st.lw) {b : Nat} {o : AObj} (hb : B b = some o) : b < st.n := hwf b _ (h.kn b o hb)

theorem Hp.skip {B : Kn} {L : Own} {st : St} (h : Hp B L st) (b : Nat) : Hp B ((b, none) :: L) st :=
  ⟨⟨h.kn, fun b' cs hb => by
    simp only [List.mem_cons, Prod.mk.injEq, reduceCtorEq, and_false, false_or] at hb
    exact h.own b' cs hb⟩, fun b' cs hb => by
    simp only [List.mem_cons, Prod.mk.injEq, reduceCtorEq, and_false, false_or] at hb
    exact h.frz b' cs hb, List.pairwise_cons.2 ⟨fun a _ h1 => by simp at h1, h.sep⟩⟩
theorem Hp.pushV {B : Kn} {L : Own} {st : St} (h : Hp B L st) (hwf : st.lw) (u : OV) : Hp B ((st.n, some u) :: L) (st.push u.obj) where
  kn b o hb := by rw [push_get_old (by have := h.klt hwf hb; omega)]; exact h.kn b o hb
  own b c hb := by
    rcases List.mem_cons.1 hb with e | hb
    · cases e; exact push_get_new rfl
    · rw [push_get_old (by have := h.lt hwf hb; omega)]; exact h.own b c hb
  frz b c hb := by
    rcases List.mem_cons.1 hb with e | hb
    · cases e
      cases hB : B st.n with
      | none => rfl
      | some o => have := h.klt hwf hB; omega
    · exact h.frz b c hb
  sep := List.pairwise_cons.2 ⟨fun a ha _ h2 => by
    obtain ⟨x, c⟩ := a
    cases c with
    | none => cases h2
    | some c => have := h.lt hwf ha; simp only [ne_eq]; omega, h.sep⟩
theorem Hp.push {B : Kn} {L : Own} {st : St} (h : Hp B L st) (hwf : st.lw) (cs : List AV) : Hp B ((st.n, some (OV.c cs)) :: L) (st.push (.blk cs true)) := h.pushV hwf (.c cs)
theorem Hp.pushNone {B : Kn} {L : Own} {st : St} (h : Hp B L st) (hwf : st.lw) : Hp B L (st.pushO none) where
  kn b o hb := by rw [pushO_get_old (by have := h.klt hwf hb; omega)]; exact h.kn b o hb
  own b c hb := by rw [pushO_get_old (by have := h.lt hwf hb; omega)]; exact h.own b c hb
  frz := h.frz
  sep := h.sep

theorem Hp.lew {A B : Kn} {L : Own} {st : St} (h : Hp B L st) (hs : KLw A B) : Hp A L st :=
  ⟨h.rd.lew hs, fun b cs hb => (by
    have := h.frz b cs hb
    cases ha : A b with
    | none => rfl
    | some o => rw [hs.k b o ha] at this; cases this), h.sep⟩

/-- One entry turned to another one. -/
inductive Upd (x y : Nat × Option OV) : Own → Own → Prop
  | h {A : Own} : Upd x y (x :: A) (y :: A)
  | t {e : Nat × Option OV} {A A' : Own} : Upd x y A A' → Upd x y (e :: A) (e :: A')
theorem Upd.app {x y : Nat × Option OV} {A A' : Own} (h : Upd x y A A') (L : Own) : Upd x y (A ++ L) (A' ++ L) := by
  induction h with
  | h => exact .h
  | t _ ih => exact .t ih
theorem Upd.mem {x y : Nat × Option OV} {A A' : Own} (h : Upd x y A A') : x ∈ A := by
  induction h with
  | h => exact List.mem_cons_self
  | t _ ih => exact List.mem_cons_of_mem _ ih
theorem Upd.sub {x y : Nat × Option OV} {A A' : Own} (h : Upd x y A A') : ∀ z ∈ A', z = y ∨ z ∈ A := by
  induction h with
  | h =>
    intro z hz
    rcases List.mem_cons.1 hz with e | e
    · exact .inl e
    · exact .inr (List.mem_cons_of_mem _ e)
  | t _ ih =>
    intro z hz
    rcases List.mem_cons.1 hz with e | e
    · exact .inr (by rw [e]; exact List.mem_cons_self)
    · rcases ih z e with e | e
      · exact .inl e
      · exact .inr (List.mem_cons_of_mem _ e)

/-- The block named b alone is another one behind it. -/
def OnlyAt (b : Nat) (st st' : St) : Prop := ∀ i, i ≠ b → st'.get i = st.get i

theorem Upd.hp {B : Kn} {b : Nat} {cs cs' : OV} {st st' : St} : ∀ {A A' : Own}, Upd (b, some cs) (b, some cs') A A' → Hp B A st → OnlyAt b st st' → st'.get b = some cs'.obj → Hp B A' st'
  | _, _, .h, hh, ho, hb => by
    have hs := List.pairwise_cons.1 hh.sep
    have hf := hh.frz b cs List.mem_cons_self
    refine ⟨⟨fun i o hi => ?_, fun i c hi => ?_⟩, fun i c hi => ?_, List.pairwise_cons.2 ⟨fun a ha _ h2 => hs.1 a ha rfl h2, hs.2⟩⟩
    · rw [ho i (fun e => by rw [e, hf] at hi; cases hi)]; exact hh.kn i o hi
    · rcases List.mem_cons.1 hi with e | hi
      · cases e; exact hb
      · rw [ho i (fun e => hs.1 _ hi rfl rfl e.symm)]; exact hh.own i c (List.mem_cons_of_mem _ hi)
    · rcases List.mem_cons.1 hi with e | hi
      · cases e; exact hf
      · exact hh.frz i c (List.mem_cons_of_mem _ hi)
  | _, _, .t (e := z) u, hh, ho, hb => by
    have hs := List.pairwise_cons.1 hh.sep
    have hm := u.mem
    have ht : Hp B _ st := ⟨⟨hh.kn, fun i c hi => hh.own i c (List.mem_cons_of_mem _ hi)⟩, fun i c hi => hh.frz i c (List.mem_cons_of_mem _ hi), hs.2⟩
    have hp := Upd.hp u ht ho hb
    obtain ⟨zb, zc⟩ := z
    refine ⟨⟨hp.kn, fun i c hi => ?_⟩, fun i c hi => ?_, List.pairwise_cons.2 ⟨fun a ha h1 h2 => ?_, hp.sep⟩⟩
    · rcases List.mem_cons.1 hi with e | hi
      · cases e
        rw [ho zb (hs.1 _ hm rfl rfl)]; exact hh.own zb c List.mem_cons_self
      · exact hp.own i c hi
    · rcases List.mem_cons.1 hi with e | hi
      · cases e; exact hh.frz zb c List.mem_cons_self
      · exact hp.frz i c hi
    · rcases u.sub a ha with e | e
      · subst e; exact hs.1 (b, some cs) hm h1 rfl
      · exact hs.1 a e h1 h2

/-- A part of the entries, in another order. -/
def pk (is : List Nat) (A : Own) : Own := is.filterMap fun i => A[i]?
theorem pk_mem {A : Own} {is : List Nat} {e : Nat × Option OV} (h : e ∈ pk is A) : ∃ i ∈ is, A[i]? = some e := by
  obtain ⟨i, h1, h2⟩ := List.mem_filterMap.1 h
  exact ⟨i, h1, h2⟩
theorem pk_pairwise {A : Own} (h : A.Pairwise fun x y => x.2.isSome = true → y.2.isSome = true → x.1 ≠ y.1) : ∀ {is : List Nat}, is.Nodup → (pk is A).Pairwise fun x y => x.2.isSome = true → y.2.isSome = true → x.1 ≠ y.1
  | [], _ => List.Pairwise.nil
  | i :: r, hn => by
    obtain ⟨h1, h2⟩ := List.nodup_cons.1 hn
    have ih := pk_pairwise h h2
    rw [pk, List.filterMap_cons]
    cases hi : A[i]? with
    | none => exact ih
    | some e =>
      refine List.pairwise_cons.2 ⟨fun a ha h3 h4 => ?_, ih⟩
      obtain ⟨j, hj, hja⟩ := pk_mem ha
      have hne : i ≠ j := fun e => h1 (e ▸ hj)
      obtain ⟨li, ei⟩ := List.getElem?_eq_some_iff.1 hi
      obtain ⟨lj, ej⟩ := List.getElem?_eq_some_iff.1 hja
      have hp := List.pairwise_iff_getElem.1 h
      rcases Nat.lt_or_ge i j with hlt | hge
      · have := hp i j li lj hlt
        rw [ei, ej] at this
        exact this h3 h4
      · have := hp j i lj li (by omega)
        rw [ei, ej] at this
        exact fun e => this h4 h3 e.symm
theorem Hp.pk {B : Kn} {A L : Own} {st : St} (h : Hp B (A ++ L) st) (is : List Nat) (hn : is.Nodup) : Hp B (Gab.pk is A ++ L) st where
  kn := h.kn
  own b cs hb := by
    rcases List.mem_append.1 hb with hb | hb
    · obtain ⟨i, _, hi⟩ := pk_mem hb
      exact h.own b cs (List.mem_append_left _ (List.mem_of_getElem? hi))
    · exact h.own b cs (List.mem_append_right _ hb)
  frz b cs hb := by
    rcases List.mem_append.1 hb with hb | hb
    · obtain ⟨i, _, hi⟩ := pk_mem hb
      exact h.frz b cs (List.mem_append_left _ (List.mem_of_getElem? hi))
    · exact h.frz b cs (List.mem_append_right _ hb)
  sep := by
    have hs := List.pairwise_append.1 h.sep
    refine List.pairwise_append.2 ⟨pk_pairwise hs.1 hn, hs.2.1, fun a ha b hb => ?_⟩
    obtain ⟨i, _, hi⟩ := pk_mem ha
    exact hs.2.2 a (List.mem_of_getElem? hi) b hb

/-- Nobody writes to a block any more. -/
def Kn.add (B : Kn) (b : Nat) (o : AObj) : Kn := ⟨fun i => if i = b then some o else B i, B.ad⟩
theorem KLe.add {B : Kn} {b : Nat} {o : AObj} (h : B b = none) : KLe B (B.add b o) := ⟨fun i x hi => by
  show (if i = b then some o else B i) = some x
  rw [if_neg (fun e => by rw [e, h] at hi; cases hi)]; exact hi, rfl⟩
theorem Kn.add_at {B : Kn} {b : Nat} {o : AObj} : B.add b o b = some o := if_pos rfl
theorem Hp.freeze {B : Kn} {b : Nat} {cs : List AV} {L : Own} {st : St} (h : Hp B ((b, some (OV.c cs)) :: L) st) : Hp (B.add b (.blk cs true)) L st := by
  have hs := List.pairwise_cons.1 h.sep
  refine ⟨⟨fun i o hi => ?_, fun i c hi => h.own i c (List.mem_cons_of_mem _ hi)⟩, fun i c hi => ?_, hs.2⟩
  · have hi : (if i = b then some (AObj.blk cs true) else B i) = some o := hi
    split at hi
    · rename_i e; cases hi; subst e; exact h.own _ (OV.c cs) List.mem_cons_self
    · exact h.kn i o hi
  · show (if i = b then some (AObj.blk cs true) else B i) = none
    rw [if_neg (fun e => hs.1 _ hi rfl rfl e.symm)]
    exact h.frz i c (List.mem_cons_of_mem _ hi)
/-- What was lent is back. -/
theorem Hp.thaw {B B' : Kn} {b : Nat} {cs : List AV} {L : Own} {st st' : St} (h : Hp B ((b, some (OV.c cs)) :: L) st) (hl : KLe (B.add b (.blk cs true)) B') (h' : Hp B' L st') : Hp B ((b, some (OV.c cs)) :: L) st' := by
  have hf := h.frz b cs List.mem_cons_self
  have hk : KLe B B' := (KLe.add hf).trans hl
  have hp := h'.le hk
  refine ⟨⟨hp.kn, fun i c hi => ?_⟩, h.frz, h.sep⟩
  rcases List.mem_cons.1 hi with e | hi
  · cases e; exact h'.kn b _ (hl.k b _ Kn.add_at)
  · exact hp.own i c hi

/-! ### The known part alone, as a memory -/
def lookO : Own → Nat → Option AObj
  | [], _ => none
  | (x, some o) :: r, b => if x = b then some o.obj else lookO r b
  | (_, none) :: r, b => lookO r b
theorem lookO_mem : ∀ {M : Own} {b : Nat} {o : AObj}, lookO M b = some o → ∃ u : OV, o = u.obj ∧ (b, some u) ∈ M
  | (x, some u) :: r, b, o, h => by
    unfold lookO at h
    split at h
    · rename_i e; cases h; subst e; exact ⟨u, rfl, List.mem_cons_self⟩
    · obtain ⟨c, h1, h2⟩ := lookO_mem h; exact ⟨c, h1, List.mem_cons_of_mem _ h2⟩
  | (x, none) :: r, b, o, h => by
    obtain ⟨c, h1, h2⟩ := lookO_mem (M := r) h; exact ⟨c, h1, List.mem_cons_of_mem _ h2⟩
theorem lookO_some : ∀ {M : Own} {b : Nat} {u : OV}, (b, some u) ∈ M → ∃ o, lookO M b = some o
  | (x, some c) :: r, b, cs, h => by
    unfold lookO
    split
    · exact ⟨_, rfl⟩
    · rename_i hne
      rcases List.mem_cons.1 h with e | h
      · cases e; exact absurd rfl hne
      · exact lookO_some h
  | (x, none) :: r, b, cs, h => by
    rcases List.mem_cons.1 h with e | h
    · cases e
    · exact lookO_some (M := r) h
def Kof (B : Kn) (M : Own) : St := ⟨0, fun b => match B b with
  | some o => some o
  | none => lookO M b⟩
theorem Rd.kof {B : Kn} {M L : Own} {st : St} (h : Hp B L st) (hs : ∀ e ∈ M, e ∈ L) : Rd B M (Kof B M) where
  kn b o hb := by unfold Kof; simp only [hb]
  own b cs hb := by
    have h1 := h.own b cs (hs _ hb)
    have h2 := h.frz b cs (hs _ hb)
    obtain ⟨o, ho⟩ := lookO_some hb
    obtain ⟨c, rfl, hc⟩ := lookO_mem ho
    have h3 := h.own b c (hs _ hc)
    have e : c.obj = cs.obj := Option.some.inj (h3.symm.trans h1)
    unfold Kof; simp only [h2]; rw [ho, e]
theorem Kp.kof {B : Kn} {M : Own} {st : St} (h : Rd B M st) : Kp (Kof B M) st := fun b cs hb => by
  obtain ⟨rw, hb⟩ := rdBlk_spec hb
  unfold Kof at hb
  simp only at hb
  split at hb
  · rename_i o ho
    cases hb
    exact rdBlk_of (h.kn b _ ho)
  · obtain ⟨c, e, hc⟩ := lookO_mem hb
    cases c with
    | c cs' => cases e; exact rdBlk_of (h.own b _ hc)
    | m => cases e
    | s => cases e
    | i => cases e

/-! ### What a row of cells stands for -/
structure Ty (α : Type) where
  sz : Nat
  R : Kn → List AV → α → Prop
  len : ∀ {B cs x}, R B cs x → cs.length = sz
  one : ∀ {B cs x}, R B cs x → cs.all AV.one = true
  mono : ∀ {B B' cs x}, KLw B B' → R B cs x → R B' cs x

def RL {α : Type} (t : Ty α) (B : Kn) : List AV → List α → Prop
  | cs, [] => cs = []
  | cs, x :: l => ∃ c r, cs = c ++ r ∧ t.R B c x ∧ RL t B r l
section
variable {α β : Type} {t : Ty α} {B B' : Kn}
theorem RL.len : ∀ {l : List α} {cs : List AV}, RL t B cs l → cs.length = l.length * t.sz
  | [], cs, h => by simp [RL] at h; simp [h]
  | x :: l, cs, h => by
    obtain ⟨c, r, rfl, h1, h2⟩ := h
    rw [List.length_append, t.len h1, RL.len h2, List.length_cons, Nat.add_mul, Nat.one_mul, Nat.add_comm]
theorem RL.one : ∀ {l : List α} {cs : List AV}, RL t B cs l → cs.all AV.one = true
  | [], cs, h => by simp [RL] at h; simp [h]
  | x :: l, cs, h => by
    obtain ⟨c, r, rfl, h1, h2⟩ := h
    rw [List.all_append, t.one h1, RL.one h2]; rfl
theorem RL.mono (hk : KLw B B') : ∀ {l : List α} {cs : List AV}, RL t B cs l → RL t B' cs l
  | [], cs, h => h
  | x :: l, cs, h => by
    obtain ⟨c, r, rfl, h1, h2⟩ := h
    exact ⟨c, r, rfl, t.mono hk h1, RL.mono hk h2⟩
theorem RL.append : ∀ {l m : List α} {cs ds : List AV}, RL t B cs l → RL t B ds m → RL t B (cs ++ ds) (l ++ m)
  | [], m, cs, ds, h, h' => by simp [RL] at h; subst h; exact h'
  | x :: l, m, cs, ds, h, h' => by
    obtain ⟨c, r, rfl, h1, h2⟩ := h
    exact ⟨c, r ++ ds, by simp, h1, RL.append h2 h'⟩
theorem RL.one1 {cs : List AV} {x : α} (h : t.R B cs x) : RL t B cs [x] := ⟨cs, [], by simp, h, rfl⟩
theorem RL.drop : ∀ {n : Nat} {l : List α} {cs : List AV}, RL t B cs l → RL t B (cs.drop (n * t.sz)) (l.drop n)
  | 0, l, cs, h => by simpa using h
  | n + 1, [], cs, h => by simp [RL] at h; subst h; simp [RL]
  | n + 1, x :: l, cs, h => by
    obtain ⟨c, r, rfl, h1, h2⟩ := h
    rw [List.drop_succ_cons, List.drop_append_of_le_length_or t.sz (t.len h1)]
    exact RL.drop h2
where
  List.drop_append_of_le_length_or (s : Nat) {n : Nat} {c r : List AV} (h : c.length = s) : (c ++ r).drop ((n + 1) * s) = r.drop (n * s) := by
    rw [Nat.add_mul, Nat.one_mul, Nat.add_comm, ← List.drop_drop, ← h, List.drop_left]
theorem RL.take : ∀ {n : Nat} {l : List α} {cs : List AV}, RL t B cs l → RL t B (cs.take (n * t.sz)) (l.take n)
  | 0, l, cs, h => by simp [RL]
  | n + 1, [], cs, h => by simp [RL] at h; subst h; simp [RL]
  | n + 1, x :: l, cs, h => by
    obtain ⟨c, r, rfl, h1, h2⟩ := h
    refine ⟨c, r.take (n * t.sz), ?_, h1, RL.take h2⟩
    rw [Nat.add_mul, Nat.one_mul, Nat.add_comm, ← t.len h1, List.take_length_add_append]
theorem RL.get : ∀ {l : List α} {cs : List AV} {i : Nat} {x : α}, RL t B cs l → l[i]? = some x → t.R B ((cs.drop (i * t.sz)).take t.sz) x
  | x :: l, cs, 0, y, h, hi => by
    obtain ⟨c, r, rfl, h1, h2⟩ := h
    simp at hi; subst hi
    simpa [← t.len h1] using h1
  | x :: l, cs, i + 1, y, h, hi => by
    obtain ⟨c, r, rfl, h1, h2⟩ := h
    have := RL.get h2 (i := i) (by simpa using hi)
    rw [RL.drop.List.drop_append_of_le_length_or t.sz (t.len h1)]
    exact this

/-- A slice whose elements nobody writes. -/
def RSl (t : Ty α) (B : Kn) (v : AV) (l : List α) : Prop :=
  ∃ sz b off mc nl, v = .sl sz b off l.length mc nl ∧ l.length ≤ mc ∧ (nl = true → l = []) ∧ (nl = false → sz = t.sz) ∧
    (l ≠ [] → ∃ blk rw, B b = some (.blk blk rw) ∧ off + l.length * t.sz ≤ blk.length ∧ RL t B ((blk.drop off).take (l.length * t.sz)) l)
theorem RSl.upw (hk : KLw B B') {v : AV} {l : List α} (h : RSl t B v l) : RSl t B' v l := by
  obtain ⟨sz, b, off, mc, nl, rfl, h1, h2, h3, h4⟩ := h
  exact ⟨sz, b, off, mc, nl, rfl, h1, h2, h3, fun hne => let ⟨blk, rw, a, b', c⟩ := h4 hne; ⟨blk, rw, hk.k _ _ a, b', c.mono hk⟩⟩
theorem RSl.up (hk : KLe B B') {v : AV} {l : List α} (h : RSl t B v l) : RSl t B' v l := h.upw hk.w
theorem RSl.nil (t : Ty α) (B : Kn) : RSl t B (.sl 0 0 0 0 0 true) [] := ⟨0, 0, 0, 0, true, rfl, Nat.le_refl _, fun _ => rfl, by simp, by simp⟩

def Ty.int (k : IntKind) : Ty Int := ⟨1, fun _ cs x => cs = [.int k x], fun h => by rw [h]; rfl, fun h => by rw [h]; rfl, fun _ h => h⟩
def Ty.bool : Ty Bool := ⟨1, fun _ cs x => cs = [.bool x], fun h => by rw [h]; rfl, fun h => by rw [h]; rfl, fun _ h => h⟩
def Ty.str : Ty (List UInt8) := ⟨1, fun _ cs x => cs = [.str x], fun h => by rw [h]; rfl, fun h => by rw [h]; rfl, fun _ h => h⟩
def Ty.slice (t : Ty α) : Ty (List α) := ⟨1, fun B cs x => ∃ v, cs = [v] ∧ RSl t B v x, fun ⟨v, h, _⟩ => by rw [h]; rfl, fun ⟨v, h, a⟩ => by
  obtain ⟨_, _, _, _, _, e, _⟩ := a
  rw [h, e]; rfl, fun hk ⟨v, h, a⟩ => ⟨v, h, a.upw hk⟩⟩
def Ty.pair (s : Ty α) (t : Ty β) : Ty (α × β) := ⟨s.sz + t.sz, fun B cs x => ∃ c d, cs = c ++ d ∧ s.R B c x.1 ∧ t.R B d x.2, fun ⟨c, d, h, a, b⟩ => by rw [h, List.length_append, s.len a, t.len b], fun ⟨c, d, h, a, b⟩ => by
  rw [h, List.all_append, s.one a, t.one b]; rfl, fun hk ⟨c, d, h, a, b⟩ => ⟨c, d, h, s.mono hk a, t.mono hk b⟩⟩
def Ty.unit : Ty Unit := ⟨0, fun _ cs _ => cs = [], fun h => by rw [h]; rfl, fun h => by rw [h]; rfl, fun _ h => h⟩
/-- Cells that tell all, whatever is known. -/
def Ty.Flat (t : Ty α) : Prop := ∀ B B' cs x, t.R B cs x → t.R B' cs x
theorem flat_int (k : IntKind) : (Ty.int k).Flat := fun _ _ _ _ h => h
theorem flat_bool : Ty.bool.Flat := fun _ _ _ _ h => h
theorem flat_str : Ty.str.Flat := fun _ _ _ _ h => h
theorem flat_pair {s : Ty α} {t : Ty β} (h : s.Flat) (k : t.Flat) : (Ty.pair s t).Flat := fun B B' _ _ ⟨c, d, e, a, b⟩ => ⟨c, d, e, h B B' _ _ a, k B B' _ _ b⟩
theorem RL.flat (hf : t.Flat) : ∀ {l : List α} {cs : List AV}, RL t B cs l → RL t B' cs l
  | [], cs, h => h
  | x :: l, cs, h => by
    obtain ⟨c, r, rfl, h1, h2⟩ := h
    exact ⟨c, r, rfl, hf _ _ _ _ h1, RL.flat hf h2⟩

/-- The cells at a place that nobody writes. -/
def Pt (B : Kn) (b o : Nat) (cs : List AV) : Prop := ∃ blk rw, B b = some (.blk blk rw) ∧ ∀ j, j < cs.length → blk[o + j]? = cs[j]?
theorem Pt.upw (hk : KLw B B') {b o : Nat} {cs : List AV} (h : Pt B b o cs) : Pt B' b o cs := let ⟨blk, rw, a, c⟩ := h; ⟨blk, rw, hk.k _ _ a, c⟩
theorem Pt.up (hk : KLe B B') {b o : Nat} {cs : List AV} (h : Pt B b o cs) : Pt B' b o cs := h.upw hk.w

/-- A slice that is somebody's own: its block. -/
def oe (b : Nat) (nl : Bool) (cs : List AV) : Nat × Option OV := (b, bif nl then none else some (OV.c cs))
/-- An own slice with its cells. -/
structure OSl (t : Ty α) (B : Kn) (v : AV) (b : Nat) (nl : Bool) (cs : List AV) (l : List α) : Prop where
  v_eq : ∃ sz mc, v = .sl sz b 0 l.length mc nl ∧ l.length ≤ mc ∧ (nl = false → sz = t.sz)
  nil : nl = true → l = []
  rl : RL t B cs l
theorem OSl.upw (hk : KLw B B') {v : AV} {b : Nat} {nl : Bool} {cs : List AV} {l : List α} (h : OSl t B v b nl cs l) : OSl t B' v b nl cs l := ⟨h.v_eq, h.nil, h.rl.mono hk⟩
theorem OSl.up (hk : KLe B B') {v : AV} {b : Nat} {nl : Bool} {cs : List AV} {l : List α} (h : OSl t B v b nl cs l) : OSl t B' v b nl cs l := h.upw hk.w
theorem OSl.flat (hf : t.Flat) {v : AV} {b : Nat} {nl : Bool} {cs : List AV} {l : List α} (h : OSl t B v b nl cs l) : OSl t B' v b nl cs l := ⟨h.v_eq, h.nil, h.rl.flat hf⟩
theorem OSl.none (t : Ty α) (B : Kn) : OSl t B (.sl 0 0 0 0 0 true) 0 true [] [] := ⟨⟨0, 0, rfl, Nat.le_refl _, by simp⟩, fun _ => rfl, rfl⟩
/-- An own slice given up. -/
theorem OSl.rsl {v : AV} {b : Nat} {cs : List AV} {l : List α} (h : OSl t B v b false cs l) (hk : KLe B B') (hb : B' b = some (.blk cs true)) : RSl t B' v l := by
  obtain ⟨⟨sz, mc, rfl, h1, h2⟩, _, h3⟩ := h
  refine ⟨sz, b, 0, mc, false, rfl, h1, by simp, h2, fun _ => ⟨cs, true, hb, by rw [h3.len]; omega, ?_⟩⟩
  rw [List.drop_zero, ← h3.len, List.take_length]
  exact h3.mono hk.w
theorem OSl.nilr {v : AV} {b : Nat} {cs : List AV} {l : List α} (h : OSl t B v b true cs l) : RSl t B v l := by
  obtain ⟨⟨sz, mc, rfl, h1, h2⟩, h0, h3⟩ := h
  have := h0 rfl
  subst this
  exact ⟨sz, b, 0, mc, true, rfl, h1, by simp, by simp, by simp⟩
/-- Freezing, nil or not. -/
theorem Hp.freezeS {v : AV} {b : Nat} {nl : Bool} {cs : List AV} {l : List α} {L : Own} {st : St} (h : Hp B (oe b nl cs :: L) st) (ho : OSl t B v b nl cs l) : ∃ B', KLe B B' ∧ Hp B' L st ∧ RSl t B' v l := by
  cases nl with
  | true =>
    refine ⟨B, .refl _, ⟨⟨h.kn, fun i c hi => h.own i c (List.mem_cons_of_mem _ hi)⟩, fun i c hi => h.frz i c (List.mem_cons_of_mem _ hi), (List.pairwise_cons.1 h.sep).2⟩, ho.nilr⟩
  | false =>
    have hf := h.frz b cs List.mem_cons_self
    exact ⟨_, KLe.add hf, Hp.freeze h, ho.rsl (KLe.add hf) Kn.add_at⟩
/-- Lending, nil or not. -/
theorem Hp.lendS {v : AV} {b : Nat} {nl : Bool} {cs : List AV} {l : List α} {L : Own} {st : St} (h : Hp B (oe b nl cs :: L) st) (ho : OSl t B v b nl cs l) : ∃ B', KLe B B' ∧ Hp B' L st ∧ RSl t B' v l ∧ ∀ B2 st2, KLe B' B2 → Hp B2 L st2 → Hp B (oe b nl cs :: L) st2 := by
  cases nl with
  | true =>
    exact ⟨B, .refl _, ⟨⟨h.kn, fun i c hi => h.own i c (List.mem_cons_of_mem _ hi)⟩, fun i c hi => h.frz i c (List.mem_cons_of_mem _ hi), (List.pairwise_cons.1 h.sep).2⟩, ho.nilr, fun B2 st2 hk h2 => (h2.le hk).skip b⟩
  | false =>
    have hf := h.frz b cs List.mem_cons_self
    exact ⟨_, KLe.add hf, Hp.freeze h, ho.rsl (KLe.add hf) Kn.add_at, fun B2 st2 hk h2 => Hp.thaw h hk h2⟩
end
end Gab
