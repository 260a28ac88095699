/- The rules in the form in which the walks use them: what is left to do is a stack of code. -/
import Derived.Test.YtcdldgoehoopmaaDoorCall
set_option linter.unusedSimpArgs false
set_option linter.unusedVariables false
namespace Gab
open Go
section
variable {P : Program} {N n0 : Nat} {Q : Post} {fr fr' : Fr} {st st' : St} {k : List It}

theorem AX.seq {x y : Code} (h : AX P N n0 Q (.code x :: .code y :: k) .normal fr st) : AX P N n0 Q (.code (.seq x y) :: k) .normal fr st := ACode.seq h
theorem AX.reg {id : Nat} {ops : Array Oper} (h : evSeg P N ops.toList ops.toList fr st = ([], fr', st')) (g : AX P N n0 Q k .normal fr' st') : AX P N n0 Q (.code (.region id ops false) :: k) .normal fr st :=
  ACode.region (AOps.seg h (AOps.nil g))
theorem AX.regC {id : Nat} {ops : Array Oper} {l : List Oper} (h : evSeg P N ops.toList ops.toList fr st = (l, fr', st')) (g : AOps P N n0 ops l (AX P N n0 Q k) fr' st') : AX P N n0 Q (.code (.region id ops false) :: k) .normal fr st :=
  ACode.region (AOps.seg h g)
theorem AX.skip (h : AX P N n0 Q k .normal fr st) : AX P N n0 Q (.code .skip :: k) .normal fr st := ACode.skip h
theorem AX.ret (h : AX P N n0 Q k .ret fr st) : AX P N n0 Q (.code .ret :: k) .normal fr st := ACode.ret h
theorem AX.exit {id : Nat} (h : AX P N n0 Q k (.exit id) fr st) : AX P N n0 Q (.code (.exit id) :: k) .normal fr st := ACode.exit h
theorem AX.block {id : Nat} {c : Code} (h : AX P N n0 Q (.code c :: .blk id :: k) .normal fr st) : AX P N n0 Q (.code (.block id c) :: k) .normal fr st := ACode.block h
theorem AX.pop {id : Nat} (h : AX P N n0 Q k .normal fr st) : AX P N n0 Q (.blk id :: k) .normal fr st := h
theorem AX.loop {c : Code} (h : AX P N n0 Q (.code c :: .lp c :: k) .normal fr st) : AX P N n0 Q (.code (.loop c) :: k) .normal fr st := ACode.loop h
theorem AX.lp {c : Code} (h : AX P N n0 Q (.code c :: .lp c :: k) .normal fr st) : AX P N n0 Q (.lp c :: k) .normal fr st := ALp.round h
theorem AX.condD {c : Operand} {x y : Code} {p : Prop} [Decidable p] (hc : fr.ev c = .bool (decide p)) (ht : p → AX P N n0 Q (.code x :: k) .normal fr st) (hf : ¬ p → AX P N n0 Q (.code y :: k) .normal fr st) : AX P N n0 Q (.code (.cond c x y) :: k) .normal fr st :=
  ACode.cond hc (fun e => ht (by simpa using e)) (fun e => hf (by simpa using e))
theorem AX.condT {c : Operand} {x y : Code} (hc : fr.ev c = .bool true) (ht : AX P N n0 Q (.code x :: k) .normal fr st) : AX P N n0 Q (.code (.cond c x y) :: k) .normal fr st :=
  ACode.cond hc (fun _ => ht) (fun e => by cases e)
theorem AX.condF {c : Operand} {x y : Code} (hc : fr.ev c = .bool false) (hf : AX P N n0 Q (.code y :: k) .normal fr st) : AX P N n0 Q (.code (.cond c x y) :: k) .normal fr st :=
  ACode.cond hc (fun e => by cases e) (fun _ => hf)
theorem AX.condB {c : Operand} {x y : Code} {b : Bool} (hc : fr.ev c = .bool b) (ht : b = true → AX P N n0 Q (.code x :: k) .normal fr st) (hf : b = false → AX P N n0 Q (.code y :: k) .normal fr st) : AX P N n0 Q (.code (.cond c x y) :: k) .normal fr st :=
  ACode.cond hc ht hf

theorem AX.code_exit {c : Code} {i : Nat} : AX P N n0 Q (.code c :: k) (.exit i) = AX P N n0 Q k (.exit i) := rfl
theorem AX.lp_exit {c : Code} {i : Nat} : AX P N n0 Q (.lp c :: k) (.exit i) = AX P N n0 Q k (.exit i) := rfl
theorem AX.blk_exit {id i : Nat} : AX P N n0 Q (.blk id :: k) (.exit i) = if i = id then AX P N n0 Q k .normal else AX P N n0 Q k (.exit i) := rfl
theorem AX.code_ret {c : Code} : AX P N n0 Q (.code c :: k) .ret = AX P N n0 Q k .ret := rfl
theorem AX.lp_ret {c : Code} : AX P N n0 Q (.lp c :: k) .ret = AX P N n0 Q k .ret := rfl
theorem AX.blk_ret {id : Nat} : AX P N n0 Q (.blk id :: k) .ret = AX P N n0 Q k .ret := rfl
theorem AX.nil {e : Exit} : AX P N n0 Q [] e = Q e := rfl

theorem AX.weaken_lp {c : Code} {fr' : Fr} {st' : St} (hl : Le N n0 fr st fr' st') (h : AX P N n0 Q (.lp c :: k) .normal fr' st') : AX P N n0 Q (.lp c :: k) .normal fr st := ALp.weaken hl h
theorem AX.weaken {c : Code} {fr' : Fr} {st' : St} (hl : Le N n0 fr st fr' st') (h : AX P N n0 Q (.code c :: k) .normal fr' st') : AX P N n0 Q (.code c :: k) .normal fr st := ACode.weaken hl h

/-- A loop, from an invariant: `F x`, `S x` are the frame and the memory at the head of a round, `x` what is carried; each round goes to a lesser one. -/
theorem AX.inv {α : Type} (μ : α → Nat) (I : α → Prop) (F : α → Fr) (S : α → St) {c : Code}
    (round : ∀ x, I x → (∀ y fr' st', I y → μ y < μ x → Le N n0 fr' st' (F y) (S y) → AX P N n0 Q (.lp c :: k) .normal fr' st') → AX P N n0 Q (.code c :: .lp c :: k) .normal (F x) (S x))
    (x : α) (hx : I x) (hl : Le N n0 fr st (F x) (S x)) : AX P N n0 Q (.code (.loop c) :: k) .normal fr st := by
  have key : ∀ m x, μ x = m → I x → AX P N n0 Q (.code c :: .lp c :: k) .normal (F x) (S x) := by
    intro m
    induction m using Nat.strongRecOn with
    | _ m ih =>
      intro x hm hx
      refine round x hx fun y fr' st' hy hlt hle => AX.weaken_lp hle (AX.lp (ih (μ y) (hm ▸ hlt) y rfl hy))
  exact AX.loop (AX.weaken hl (key _ x rfl hx))
end

/-! ### Words for the walks -/
theorem dec_true {i : Decidable True} : @decide True i = true := @decide_eq_true True i trivial
theorem dec_false {i : Decidable False} : @decide False i = false := @decide_eq_false False i not_false
theorem need_true {α : Type} {i : Decidable True} {x : Option α} : @need True i α x = x := need_pos trivial
theorem fr_get_cons {k t : Nat} {v : AV} {r : Fr} : Fr.get ((k, v) :: r) t = if k = t then v else Fr.get r t := rfl
theorem fr_get_nil {t : Nat} : Fr.get [] t = .any := rfl
theorem fr_put_some {fr : Fr} {d : Nat} {v : AV} : Fr.put fr (some d) v = (d, v) :: fr := rfl
theorem fr_put_none {fr : Fr} {v : AV} : Fr.put fr none v = fr := rfl
theorem fr_ev_tmp {fr : Fr} {t : Nat} : fr.ev (.tmp t) = Fr.get fr t := rfl
theorem fr_ev_const {fr : Fr} {v : Value} : fr.ev (.const v) = AV.ofV v := rfl
theorem fr_ev_func {fr : Fr} {f : Nat} : fr.ev (.func f) = .fn (.func f) [] [] := rfl
theorem ofV_int {k : IntKind} {n : Int} : AV.ofV (.int k n) = .int k n := rfl
theorem ofV_bool {b : Bool} : AV.ofV (.bool b) = .bool b := rfl
theorem ofV_slice : AV.ofV (.slice none 0 0) = .sl 0 0 0 0 0 true := rfl
theorem ofV_str {l : List UInt8} : AV.ofV (.string ⟨⟨l⟩⟩) = .str l := rfl
theorem ofV_nilptr : AV.ofV (.pointer none) = .nilptr := rfl
theorem ofV_nilfn : AV.ofV .nilFunc = .nilfn := rfl
theorem ofV_nilmap : AV.ofV (.map none) = .nilmap := rfl

/-! ### The evaluator, in an order that looks at no operation before its turn -/
def sq {α : Type} (x : Option (Fr × St)) (d : α) (k : Fr → St → α) : α := match x with
  | some p => k p.1 p.2
  | none => d
@[congr] theorem sq_congr {α : Type} {x y : Option (Fr × St)} {d : α} {k : Fr → St → α} (h : ∀ _ : Unit, x = y) : sq x d k = sq y d k := by rw [h ()]
theorem sq_some {α : Type} {a : Fr} {b : St} {d : α} {k : Fr → St → α} : sq (some (a, b)) d k = k a b := rfl
theorem sq_none {α : Type} {d : α} {k : Fr → St → α} : sq none d k = d := rfl
def bd {α β : Type} (x : Option α) (k : α → Option β) : Option β := x.bind k
@[congr] theorem bd_congr {α β : Type} {x y : Option α} {k : α → Option β} (h : ∀ _ : Unit, x = y) : bd x k = bd y k := by rw [h ()]
@[congr] theorem obind_congr {α β : Type} {x y : Option α} {k : α → Option β} (h : ∀ _ : Unit, x = y) : x.bind k = y.bind k := by rw [h ()]
theorem bd_some {α β : Type} {a : α} {k : α → Option β} : bd (some a) k = k a := rfl
theorem bd_none {α β : Type} {k : α → Option β} : bd none k = none := rfl

theorem push_get_new {s : St} {o : AObj} {b : Nat} (h : b = s.n) : (s.push o).get b = some o := by rw [St.push_get, if_pos h]
theorem push_get_old {s : St} {o : AObj} {b : Nat} (h : b ≠ s.n) : (s.push o).get b = s.get b := by rw [St.push_get, if_neg h]
theorem pushO_get_new {s : St} {o : Option AObj} {b : Nat} (h : b = s.n) : (s.pushO o).get b = o := by rw [St.pushO_get, if_pos h]
theorem pushO_get_old {s : St} {o : Option AObj} {b : Nat} (h : b ≠ s.n) : (s.pushO o).get b = s.get b := by rw [St.pushO_get, if_neg h]
theorem set_get_new {s : St} {o : AObj} {b i : Nat} (h : i = b) : (s.set b o).get i = some o := by rw [St.set_get, if_pos h]
theorem set_get_old {s : St} {o : AObj} {b i : Nat} (h : i ≠ b) : (s.set b o).get i = s.get i := by rw [St.set_get, if_neg h]
theorem kill_get_old {s : St} {b i : Nat} (h : i ≠ b) : (s.kill b).get i = s.get i := by rw [St.kill_get, if_neg h]

theorem rdBlk_of {st : St} {b : Nat} {cs : List AV} {rw : Bool} (h : st.get b = some (.blk cs rw)) : rdBlk st b = some cs := by unfold rdBlk; rw [h]
theorem wrBlk_of {st : St} {b : Nat} {cs : List AV} (h : st.get b = some (.blk cs true)) : wrBlk st b = some cs := by unfold wrBlk; rw [h]
theorem wrap64 {n : Int} (h1 : -9223372036854775808 ≤ n) (h2 : n ≤ 9223372036854775807) : IntKind.i64.wrap n = n := IntWalk.i64_in n ⟨h1, h2⟩
theorem rdBlk_new {s : St} {cs : List AV} {rw : Bool} {b : Nat} (h : b = s.n) : rdBlk (s.push (.blk cs rw)) b = some cs := rdBlk_of (push_get_new h)
theorem rdBlk_old {s : St} {o : AObj} {b : Nat} (h : b ≠ s.n) : rdBlk (s.push o) b = rdBlk s b := by unfold rdBlk; rw [push_get_old h]
theorem rdBlk_oldO {s : St} {o : Option AObj} {b : Nat} (h : b ≠ s.n) : rdBlk (s.pushO o) b = rdBlk s b := by unfold rdBlk; rw [pushO_get_old h]
theorem rdBlk_set {s : St} {cs : List AV} {rw : Bool} {b i : Nat} (h : i = b) : rdBlk (s.set b (.blk cs rw)) i = some cs := rdBlk_of (set_get_new h)
theorem rdBlk_setO {s : St} {o : AObj} {b i : Nat} (h : i ≠ b) : rdBlk (s.set b o) i = rdBlk s i := by unfold rdBlk; rw [set_get_old h]
theorem rdBlk_kill {s : St} {b i : Nat} (h : i ≠ b) : rdBlk (s.kill b) i = rdBlk s i := by unfold rdBlk; rw [kill_get_old h]
theorem wrBlk_new {s : St} {cs : List AV} {b : Nat} (h : b = s.n) : wrBlk (s.push (.blk cs true)) b = some cs := wrBlk_of (push_get_new h)
theorem wrBlk_old {s : St} {o : AObj} {b : Nat} (h : b ≠ s.n) : wrBlk (s.push o) b = wrBlk s b := by unfold wrBlk; rw [push_get_old h]
theorem wrBlk_oldO {s : St} {o : Option AObj} {b : Nat} (h : b ≠ s.n) : wrBlk (s.pushO o) b = wrBlk s b := by unfold wrBlk; rw [pushO_get_old h]
theorem wrBlk_set {s : St} {cs : List AV} {b i : Nat} (h : i = b) : wrBlk (s.set b (.blk cs true)) i = some cs := wrBlk_of (set_get_new h)
theorem wrBlk_setO {s : St} {o : AObj} {b i : Nat} (h : i ≠ b) : wrBlk (s.set b o) i = wrBlk s i := by unfold wrBlk; rw [set_get_old h]
theorem wrBlk_kill {s : St} {b i : Nat} (h : i ≠ b) : wrBlk (s.kill b) i = wrBlk s i := by unfold wrBlk; rw [kill_get_old h]
theorem Subs_cons {m : Nat → Nat} {n : Nat} {a b : AV} {r s : List AV} : Subs m n (a :: r) (b :: s) ↔ Sub m n a b ∧ Subs m n r s := by
  constructor
  · rintro ⟨b', s', e, h1, h2⟩
    obtain ⟨rfl, rfl⟩ := List.cons.inj e
    exact ⟨h1, h2⟩
  · rintro ⟨h1, h2⟩
    exact ⟨b, s, rfl, h1, h2⟩
theorem Subs_nil {m : Nat → Nat} {n : Nat} : Subs m n [] [] ↔ True := ⟨fun _ => trivial, fun _ => rfl⟩
theorem Sub_agg {m : Nat → Nat} {n : Nat} {r s : List AV} : Sub m n (.agg r) (.agg s) ↔ Subs m n r s :=
  ⟨fun ⟨_, e, h⟩ => by cases e; exact h, fun h => ⟨s, rfl, h⟩⟩
theorem Sub_tup {m : Nat → Nat} {n : Nat} {r s : List AV} : Sub m n (.tup r) (.tup s) ↔ Subs m n r s :=
  ⟨fun ⟨_, e, h⟩ => by cases e; exact h, fun h => ⟨s, rfl, h⟩⟩
theorem Sub_int {m : Nat → Nat} {n : Nat} {k : IntKind} {x : Int} : Sub m n (.int k x) (.int k x) ↔ True := ⟨fun _ => trivial, fun _ => rfl⟩
theorem Sub_bool {m : Nat → Nat} {n : Nat} {x : Bool} : Sub m n (.bool x) (.bool x) ↔ True := ⟨fun _ => trivial, fun _ => rfl⟩
theorem Sub_str {m : Nat → Nat} {n : Nat} {x : List UInt8} : Sub m n (.str x) (.str x) ↔ True := ⟨fun _ => trivial, fun _ => rfl⟩
/-- A store into the newest block, a store over a store. -/
theorem push_set {s : St} {o o' : AObj} {b : Nat} (h : b = s.n) : (s.push o).set b o' = s.push o' := by
  subst h
  refine St.ext rfl (funext fun i => ?_)
  rw [St.set_get, St.push_get, St.push_get]
  split <;> rfl
theorem set_push {s : St} {o o' : AObj} {b : Nat} (h : b ≠ s.n) : (s.push o).set b o' = (s.set b o').push o := by
  refine St.ext rfl (funext fun i => ?_)
  rw [St.set_get, St.push_get, St.push_get, St.set_get, St.set_n]
  by_cases h1 : i = b
  · subst h1; rw [if_pos rfl, if_neg h, if_pos rfl]
  · rw [if_neg h1, if_neg h1]
theorem set_set {s : St} {o o' : AObj} {b i : Nat} (h : i = b) : (s.set b o).set i o' = s.set b o' := by
  subst h
  refine St.ext rfl (funext fun j => ?_)
  rw [St.set_get, St.set_get, St.set_get]
  split <;> rfl
end Gab
