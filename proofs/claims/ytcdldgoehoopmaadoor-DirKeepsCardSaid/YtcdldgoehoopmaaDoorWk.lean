/- Rules for calls and results, as the walks use them. -/
import Derived.Test.YtcdldgoehoopmaaDoorSl
import Derived.Test.YtcdldgoehoopmaaDoorDraw
set_option linter.unusedSimpArgs false
set_option linter.unusedVariables false
namespace Gab
open Go
section
variable {P : Program} {N n0 : Nat} {Q : Post} {fr fr' : Fr} {st st' : St} {ops : Array Oper}
/-- A memory that has grown. -/
def Up (st st' : St) : Prop := st.n ≤ st'.n ∧ ∀ b, b < st.n → st'.get b = st.get b
theorem Up.refl (st : St) : Up st st := ⟨Nat.le_refl _, fun _ _ => rfl⟩
theorem Up.trans {a b c : St} (h : Up a b) (h' : Up b c) : Up a c := ⟨Nat.le_trans h.1 h'.1, fun i hi => by rw [h'.2 i (Nat.lt_of_lt_of_le hi h.1), h.2 i hi]⟩
theorem Up.trans' {a b : St} (h : Up a b) {c : St} (hc : ∀ j, j < a.n → c.get j = b.get j) (hn : b.n ≤ c.n := by first | rfl | exact Nat.le_refl _) : Up a c := ⟨Nat.le_trans h.1 hn, fun i hi => by rw [hc i hi, h.2 i hi]⟩
theorem Up.push {a b : St} (h : Up a b) (o : AObj) : Up a (b.push o) := h.trans ⟨by rw [St.push_n]; omega, fun i hi => push_get_old (by omega)⟩
theorem Up.pushO {a b : St} (h : Up a b) (o : Option AObj) : Up a (b.pushO o) := h.trans ⟨by rw [St.pushO_n]; omega, fun i hi => pushO_get_old (by omega)⟩


theorem Up.set {a b : St} (h : Up a b) {i : Nat} (o : AObj) (hi : a.n ≤ i) : Up a (b.set i o) := h.trans' fun j hj => set_get_old (by omega)
theorem Up.kill {a b : St} (h : Up a b) {i : Nat} (hi : a.n ≤ i) : Up a (b.kill i) := h.trans' fun j hj => kill_get_old (by omega)
theorem Up.le {a b : St} (h : Up a b) : a.n ≤ b.n := h.1
theorem Up.rd {a b : St} (h : Up a b) {i : Nat} (hi : i < a.n) : rdBlk b i = rdBlk a i := by unfold rdBlk; rw [h.2 i hi]
theorem Up.wr {a b : St} (h : Up a b) {i : Nat} (hi : i < a.n) : wrBlk b i = wrBlk a i := by unfold wrBlk; rw [h.2 i hi]
theorem Up.old {a b : St} (h : Up a b) (hwf : a.wf) : ∀ i o, a.get i = some o → b.get i = some o := fun i o hi => by rw [h.2 i (hwf i o hi).1]; exact hi
theorem Sl.up {a b : St} {sz : Nat} {v : AV} {cs : List AV} (h : Sl a sz v cs) (hu : Up a b) : Sl b sz v cs := h.keep hu.1 fun i hi => hu.rd hi

theorem PS.of {s : St} {b mc : Nat} {cs : List AV} {l : List (Int × Int)} (h : rdBlk s b = some cs) (hb : b < s.n) (he : cs = enc2 l) (hm : l.length ≤ mc) : PS s (.sl 2 b 0 l.length mc false) l :=
  ⟨2, b, 0, l.length, mc, false, rfl, enc2_length l, hm, fun e => by simp at e, fun _ => rfl, fun _ => ⟨hb, cs, h, fun j _ => by rw [Nat.zero_add, he]⟩⟩
theorem PS.up {a b : St} {v : AV} {l : List (Int × Int)} (h : PS a v l) (hu : Up a b) : PS b v l := Sl.up h hu
theorem PS.empty (s : St) (sz b off mc : Nat) (nl : Bool) (h : nl = false → sz = 2) : PS s (.sl sz b off 0 mc nl) [] := ⟨sz, b, off, 0, mc, nl, rfl, rfl, Nat.zero_le _, fun _ => rfl, h, fun h0 => by omega⟩
theorem PS.nil (s : St) : PS s (.sl 0 0 0 0 0 true) [] := Sl.nil s 2
theorem LeV.refl {v : AV} : LeV n0 v st v st := fun ρ w c hn hr hc => ⟨ρ, hr, hc, .refl ..⟩
theorem AOps.segN {l : List Oper} (h : evSeg P N ops.toList l fr st = ([], fr', st')) (k : Q .normal fr' st') : AOps P N n0 ops l Q fr st := AOps.seg h (AOps.nil k)
theorem AX.drawS {R : Post} {k : List It} {id : Nat} (plan : Plan) (hm : P.follows .mixedOrders = true) (hp : planOk P ops (Array.replicate ops.size false) plan = true) (hl : plan.len = ops.size)
    (g : APl P N ops st (AX P N n0 R k .normal) plan fr st) : AX P N n0 R (.code (.region id ops true) :: k) .normal fr st := AX.draw plan st hm hp hl g
theorem ASpec.bodyX {f : FuncId} {fn : Func} {c : Code} {args : List AV} {Q : AV → St → Prop} (hf : P.funcs[f]? = some fn) (hname : (fn.name == "runtime.NumGoroutine") = false) (hb : fn.body = some c) (hN : fn.ntmps = N) (hle : args.length ≤ N)
    (h : st.wf → Subs id st.n args args → AX P N st.n (Fin P fn.results.toList st.n Q) [.code c] .normal (enumFr 0 args) st) : ASpec P f args st Q := ASpec.body hf hname hb hN hle h
/-- A meeting point: what holds behind the code c. -/
theorem AX.mid {R : Post} {c : Code} {k : List It} (I : Fr → St → Prop) (h1 : AX P N n0 (fun e f s => match e with | .normal => I f s | e => AX P N n0 R k e f s) [.code c] .normal fr st) (h2 : ∀ f s, I f s → AX P N n0 R k .normal f s) : AX P N n0 R (.code c :: k) .normal fr st :=
  ACode.mono h1 fun e f s h => by cases e <;> first | exact h2 _ _ h | exact h
/-- The slots ks of the frame alone. -/
def Fr.keep (ks : List Nat) (fr : Fr) : Fr := ks.map fun k => (k, Fr.get fr k)
theorem Fr.keep_get (fr : Fr) : ∀ (ks : List Nat) (t : Nat), Fr.get (Fr.keep ks fr) t = if t ∈ ks then Fr.get fr t else .any
  | [], t => by simp [Fr.keep, Fr.get]
  | k :: r, t => by
    rw [Fr.keep, List.map_cons, fr_get_cons]
    by_cases h : k = t
    · subst h; simp
    · have := Fr.keep_get fr r t
      rw [Fr.keep] at this
      rw [if_neg h, this]
      simp [Ne.symm h]
theorem AX.keepE {c : Code} {k : List It} (ks : List Nat) {fr2 : Fr} (he : Fr.keep ks fr = fr2) (h : AX P N n0 Q (.code c :: k) .normal fr2 st) : AX P N n0 Q (.code c :: k) .normal fr st := by
  refine AX.weaken (fun ρ w tmps hn hr hf => ⟨ρ, hr, ⟨hf.1, fun t => ?_⟩, .refl ..⟩) h
  rw [← he, Fr.keep_get]
  split
  · exact hf.2 t
  · trivial
end

section
variable {P : Program} {N : Nat} {ops : Array Oper} {K : St} {Q : Fr → St → Prop}
theorem APl.q1 {i : Nat} {r : Plan} {o : Oper} {fr : Fr} {st : St} {v : AV} (hi : ops.toList[i]? = some o) (hq : isQ P o.op = true) (hm : memRd o.op = false) (hv : evQ P N ops.toList K o fr = some v) (g : APl P N ops K Q r (fr.put o.dst v) st) : APl P N ops K Q (.one i r) fr st := APl.quiet' hi hq hv (fun h => by rw [hm] at h; cases h) g
theorem Kp.up {K st st' : St} (h : Kp K st) (hu : Up st st') (hl : ∀ b cs, rdBlk K b = some cs → b < st.n) : Kp K st' := fun b cs hb => by rw [hu.rd (hl b cs hb)]; exact h b cs hb
end
/-! ### Plans, in an order that looks at no operation before its turn -/
def plO {α β : Type} (x : Option α) (d : β) (k : α → β) : β := match x with
  | none => d
  | some o => k o
@[congr] theorem plO_congr {α β : Type} {x y : Option α} {d : β} {k : α → β} (h : ∀ _ : Unit, x = y) : plO x d k = plO y d k := by rw [h ()]
theorem plO_some {α β : Type} {a : α} {d : β} {k : α → β} : plO (some a) d k = k a := rfl
theorem plO_none {α β : Type} {d : β} {k : α → β} : plO none d k = d := rfl
theorem cast0 : ((0 : Nat) : Int) = 0 := rfl
theorem beq_ft : (false == true) = false := rfl
theorem beq_tf : (true == false) = false := rfl
theorem beq_ff : (false == false) = true := rfl
def cnd {β : Type} (b : Bool) (x y : β) : β := match b with
  | true => x
  | false => y
@[congr] theorem cnd_congr {β : Type} {b c : Bool} {x y : β} (h : ∀ _ : Unit, b = c) : cnd b x y = cnd c x y := by rw [h ()]
theorem cnd_true {β : Type} {x y : β} : cnd true x y = x := rfl
theorem cnd_false {β : Type} {x y : β} : cnd false x y = y := rfl
end Gab
