/- The rules of the printed proofs: one for each operation, over own blocks and what is known for good. -/
import Derived.Test.YtcdldgoehoopmaaDoorHp
set_option linter.unusedSimpArgs false
set_option linter.unusedVariables false
namespace Gab
open Go

theorem ASpec.lw {P : Program} {f : FuncId} {args : List AV} {st : St} {Q : AV → St → Prop} (h : ASpec P f args st Q) : ASpec P f args st fun v s => Q v s ∧ s.lw :=
  ⟨h.1, fun ρ w cargs hr ha => (h.2 ρ w cargs hr ha).mono fun _ _ ⟨c, v, ρ', st', e, q, a, b, r⟩ => ⟨c, v, ρ', st', e, ⟨q, b.wf.lw⟩, a, b, r⟩⟩

section
variable {P : Program} {N n0 : Nat} {ops : Array Oper} {R : Post} {k : List It} {fr : Fr} {B : Kn} {A L M : Own}

def WX (P : Program) (N n0 : Nat) (R : Post) (k : List It) (fr : Fr) (B : Kn) (A L : Own) : Prop := ∀ st, st.lw → Hp B (A ++ L) st → AX P N n0 R k .normal fr st
def WO (P : Program) (N n0 : Nat) (ops : Array Oper) (l : List Oper) (R : Post) (k : List It) (fr : Fr) (B : Kn) (A L : Own) : Prop := ∀ st, st.lw → Hp B (A ++ L) st → AOps P N n0 ops l (AX P N n0 R k) fr st
def WP (P : Program) (N n0 : Nat) (ops : Array Oper) (plan : Plan) (R : Post) (k : List It) (fr : Fr) (B : Kn) (A L M : Own) : Prop := (∀ e ∈ M, e ∈ A ++ L) → ∀ st, st.lw → Hp B (A ++ L) st → APl P N ops (Kof B M) (AX P N n0 R k .normal) plan fr st
/-- A drawn region in which no load is left. -/
def WS (P : Program) (N n0 : Nat) (ops : Array Oper) (plan : Plan) (R : Post) (k : List It) (fr : Fr) (B : Kn) (A L : Own) : Prop := ∀ st, st.lw → Hp B (A ++ L) st → ∀ K, APl P N ops K (AX P N n0 R k .normal) plan fr st

theorem Hp.loc {st : St} (h : Hp B (A ++ L) st) : Rd B A st := h.rd.sub fun _ he => List.mem_append_left _ he
theorem subL (h : ∀ e ∈ M, e ∈ A) : ∀ e ∈ M, e ∈ A ++ L := fun e he => List.mem_append_left _ (h e he)
theorem Hp.kpm {st : St} (h : Hp B L st) (hs : ∀ e ∈ M, e ∈ L) : Kp (Kof B M) st := Kp.kof (h.rd.sub hs)

/-! ### Operations that leave the memory alone -/
def QOp (P : Program) (op : Op) (fr : Fr) (B : Kn) (A : Own) (v : AV) : Prop := ∀ st, Rd B A st → evOp P op fr st = some (v, st)
theorem QOp.r {op : Op} {v : AV} (h : ∀ st, evOp P op fr st = some (v, st)) : QOp P op fr B A v := fun st _ => h st

/-- The guard of an operation. -/
theorem wg {l : List Oper} {d : Option Nat} {op : Op} {ty : TypeId} {ps : String} {af : Array Edge} {j gd : Nat} {want b q : Bool} (hj : (l[j]?.bind (·.dst)) = some gd) (hb : Fr.get fr gd = .bool b) (hq : (b == want) = q) :
    wantedA l fr ⟨d, op, ty, ps, af, some (j, want)⟩ = some q := by
  simp only [wantedA, hj, Option.bind_some, hb, hq]
theorem gt {b : Bool} (h : b = true) : (b == true) = true := by rw [h]; rfl
theorem gtn {b : Bool} (h : b = false) : (b == true) = false := by rw [h]; rfl
theorem gf {b : Bool} (h : b = false) : (b == false) = true := by rw [h]; rfl
theorem gfn {b : Bool} (h : b = true) : (b == false) = false := by rw [h]; rfl

theorem WO.q {d : Nat} {op : Op} {ty : TypeId} {ps : String} {af : Array Edge} {g : Option (Nat × Bool)} {rest : List Oper} {v : AV} (hq : QOp P op fr B A v) (hw : wantedA ops.toList fr ⟨some d, op, ty, ps, af, g⟩ = some true) (hd : decide (d < N) = true)
    (h : WO P N n0 ops rest R k ((d, v) :: fr) B A L) : WO P N n0 ops (⟨some d, op, ty, ps, af, g⟩ :: rest) R k fr B A L := fun st hl hp =>
  AOps.one (p := ((d, v) :: fr, st)) (by
    unfold evStep
    rw [hw, Option.bind_some, if_pos (show dstOk N (some d) = true from hd), if_pos rfl, hq st hp.loc]; rfl) (h st hl hp)
theorem WO.ql {d : Nat} {op : Op} {ty : TypeId} {ps : String} {af : Array Edge} {g : Option (Nat × Bool)} {rest : List Oper} {v : AV} (hq : QOp P op fr B (A ++ L) v) (hw : wantedA ops.toList fr ⟨some d, op, ty, ps, af, g⟩ = some true) (hd : decide (d < N) = true)
    (h : WO P N n0 ops rest R k ((d, v) :: fr) B A L) : WO P N n0 ops (⟨some d, op, ty, ps, af, g⟩ :: rest) R k fr B A L := fun st hl hp =>
  AOps.one (p := ((d, v) :: fr, st)) (by
    unfold evStep
    rw [hw, Option.bind_some, if_pos (show dstOk N (some d) = true from hd), if_pos rfl, hq st hp.rd]; rfl) (h st hl hp)
theorem WO.sk {d : Option Nat} {op : Op} {ty : TypeId} {ps : String} {af : Array Edge} {g : Option (Nat × Bool)} {rest : List Oper} (hw : wantedA ops.toList fr ⟨d, op, ty, ps, af, g⟩ = some false) (hd : dstOk N d = true)
    (h : WO P N n0 ops rest R k (fr.put d (.tup [])) B A L) : WO P N n0 ops (⟨d, op, ty, ps, af, g⟩ :: rest) R k fr B A L := fun st hl hp =>
  AOps.one (p := (fr.put d (.tup []), st)) (by
    unfold evStep
    rw [hw, Option.bind_some, if_pos hd]; rfl) (h st hl hp)
theorem WO.nil (h : WX P N n0 R k fr B A L) : WO P N n0 ops [] R k fr B A L := fun st hl hp => AOps.nil (h st hl hp)
theorem WX.reg {id : Nat} (h : WO P N n0 ops ops.toList R k fr B A L) : WX P N n0 R (.code (.region id ops false) :: k) fr B A L := fun st hl hp => ACode.region (h st hl hp)

theorem WP.q {i : Nat} {r : Plan} {d : Nat} {op : Op} {ty : TypeId} {ps : String} {af : Array Edge} {g : Option (Nat × Bool)} {v : AV} (hi : ops.toList[i]? = some ⟨some d, op, ty, ps, af, g⟩) (hq : QOp P op fr B M v) (hQ : isQ P op = true)
    (hw : wantedA ops.toList fr ⟨some d, op, ty, ps, af, g⟩ = some true) (hd : decide (d < N) = true) (h : WP P N n0 ops r R k ((d, v) :: fr) B A L M) : WP P N n0 ops (.one i r) R k fr B A L M := fun hs st hl hp => by
  refine APl.quiet' hi hQ (v := v) ?_ (fun _ => hp.kpm hs) (h hs st hl hp)
  unfold evQ
  rw [hw, Option.bind_some, if_pos (show dstOk N (some d) = true from hd), if_pos rfl, hq _ (Rd.kof hp hs)]; rfl
theorem WP.sk {i : Nat} {r : Plan} {d : Nat} {op : Op} {ty : TypeId} {ps : String} {af : Array Edge} {g : Option (Nat × Bool)} (hi : ops.toList[i]? = some ⟨some d, op, ty, ps, af, g⟩) (hQ : isQ P op = true)
    (hw : wantedA ops.toList fr ⟨some d, op, ty, ps, af, g⟩ = some false) (hd : decide (d < N) = true) (h : WP P N n0 ops r R k ((d, .tup []) :: fr) B A L M) : WP P N n0 ops (.one i r) R k fr B A L M := fun hs st hl hp => by
  refine APl.quiet' hi hQ (v := .tup []) ?_ (fun _ => hp.kpm hs) (h hs st hl hp)
  unfold evQ
  rw [hw, Option.bind_some, if_pos (show dstOk N (some d) = true from hd)]; rfl
theorem WP.nil (h : WX P N n0 R k fr B A L) : WP P N n0 ops .nil R k fr B A L M := fun _ st hl hp => APl.nil (h st hl hp)
/-- A guarded operation that isn't quiet, and isn't wanted. -/
theorem WP.skm {i : Nat} {r : Plan} {d : Option Nat} {op : Op} {ty : TypeId} {ps : String} {af : Array Edge} {g : Option (Nat × Bool)} (hi : ops.toList[i]? = some ⟨d, op, ty, ps, af, g⟩) (hQ : isQ P op = false)
    (hw : wantedA ops.toList fr ⟨d, op, ty, ps, af, g⟩ = some false) (hd : dstOk N d = true) (h : WP P N n0 ops r R k (fr.put d (.tup [])) B A L M) : WP P N n0 ops (.one i r) R k fr B A L M := fun hs st hl hp =>
  APl.op (p := (fr.put d (.tup []), st)) hi hQ (by
    unfold evStep
    rw [hw, Option.bind_some, if_pos hd]; rfl) (.inr (hp.kpm hs)) (h hs st hl hp)
theorem WX.drw {id : Nat} (plan : Plan) (M : Own) (hm : P.follows .mixedOrders = true) (hp : planOk P ops (Array.replicate ops.size false) plan = true) (hl : plan.len = ops.size) (hs : ∀ e ∈ M, e ∈ A ++ L)
    (h : WP P N n0 ops plan R k fr B A L M) : WX P N n0 R (.code (.region id ops true) :: k) fr B A L := fun st hw hh => AX.draw plan (Kof B M) hm hp hl (h hs st hw hh)
theorem WS.q {i : Nat} {r : Plan} {d : Nat} {op : Op} {ty : TypeId} {ps : String} {af : Array Edge} {g : Option (Nat × Bool)} {v : AV} (hi : ops.toList[i]? = some ⟨some d, op, ty, ps, af, g⟩) (hq : QOp P op fr ⟨fun _ => none, fun _ => []⟩ [] v) (hQ : isQ P op = true) (hm : memRd op = false)
    (hw : wantedA ops.toList fr ⟨some d, op, ty, ps, af, g⟩ = some true) (hd : decide (d < N) = true) (h : WS P N n0 ops r R k ((d, v) :: fr) B A L) : WS P N n0 ops (.one i r) R k fr B A L := fun st hl hp K => by
  refine APl.quiet' hi hQ (v := v) ?_ (fun e => by rw [hm] at e; cases e) (h st hl hp K)
  unfold evQ
  rw [hw, Option.bind_some, if_pos (show dstOk N (some d) = true from hd), if_pos rfl, hq K ⟨fun _ _ h => (by cases h), fun _ _ h => (by cases h)⟩]; rfl
theorem WS.nil (h : WX P N n0 R k fr B A L) : WS P N n0 ops .nil R k fr B A L := fun st hl hp _ => APl.nil (h st hl hp)

/-! ### Operations that turn the memory -/
def MOp (P : Program) (op : Op) (fr : Fr) (B : Kn) (A L : Own) (Q : AV → Own → Prop) : Prop := ∀ st, st.lw → Hp B (A ++ L) st → ∃ v st' A', evOp P op fr st = some (v, st') ∧ st'.lw ∧ Hp B (A' ++ L) st' ∧ Q v A'
theorem WO.m {d : Option Nat} {op : Op} {ty : TypeId} {ps : String} {af : Array Edge} {g : Option (Nat × Bool)} {rest : List Oper} {Q : AV → Own → Prop} (hm : MOp P op fr B A L Q) (hw : wantedA ops.toList fr ⟨d, op, ty, ps, af, g⟩ = some true) (hd : dstOk N d = true)
    (h : ∀ v A', Q v A' → WO P N n0 ops rest R k (fr.put d v) B A' L) : WO P N n0 ops (⟨d, op, ty, ps, af, g⟩ :: rest) R k fr B A L := fun st hl hp => by
  obtain ⟨v, st', A', h1, h2, h3, h4⟩ := hm st hl hp
  exact AOps.one (p := (fr.put d v, st')) (by
    unfold evStep
    rw [hw, Option.bind_some, if_pos hd, if_pos rfl, h1]; rfl) (h v A' h4 st' h2 h3)
theorem WP.m {i : Nat} {r : Plan} {d : Option Nat} {op : Op} {ty : TypeId} {ps : String} {af : Array Edge} {g : Option (Nat × Bool)} {Q : AV → Own → Prop} (hi : ops.toList[i]? = some ⟨d, op, ty, ps, af, g⟩) (hm : MOp P op fr B A L Q) (hQ : isQ P op = false) (hw : wantedA ops.toList fr ⟨d, op, ty, ps, af, g⟩ = some true) (hd : dstOk N d = true)
    (hs : ∀ v A', Q v A' → (∀ e ∈ M, e ∈ A ++ L) → ∀ e ∈ M, e ∈ A' ++ L) (h : ∀ v A', Q v A' → WP P N n0 ops r R k (fr.put d v) B A' L M) : WP P N n0 ops (.one i r) R k fr B A L M := fun hsub st hl hp => by
  obtain ⟨v, st', A', h1, h2, h3, h4⟩ := hm st hl hp
  have hs' := hs v A' h4 hsub
  exact APl.op (p := (fr.put d v, st')) hi hQ (by
    unfold evStep
    rw [hw, Option.bind_some, if_pos hd, if_pos rfl, h1]; rfl) (.inr (h3.kpm hs')) (h v A' h4 hs' st' h2 h3)
/-- A store at the end, ahead of which every load is made. -/
theorem WP.ms {i : Nat} {r : Plan} {d : Option Nat} {op : Op} {ty : TypeId} {ps : String} {af : Array Edge} {g : Option (Nat × Bool)} {Q : AV → Own → Prop} (hi : ops.toList[i]? = some ⟨d, op, ty, ps, af, g⟩) (hm : MOp P op fr B A L Q) (hQ : isQ P op = false) (hS : needS P ops i = false) (hw : wantedA ops.toList fr ⟨d, op, ty, ps, af, g⟩ = some true) (hd : dstOk N d = true)
    (h : ∀ v A', Q v A' → WS P N n0 ops r R k (fr.put d v) B A' L) : WP P N n0 ops (.one i r) R k fr B A L M := fun hsub st hl hp => by
  obtain ⟨v, st', A', h1, h2, h3, h4⟩ := hm st hl hp
  exact APl.op (p := (fr.put d v, st')) hi hQ (by
    unfold evStep
    rw [hw, Option.bind_some, if_pos hd, if_pos rfl, h1]; rfl) (.inl hS) (h v A' h4 st' h2 h3 _)
theorem WS.m {i : Nat} {r : Plan} {d : Option Nat} {op : Op} {ty : TypeId} {ps : String} {af : Array Edge} {g : Option (Nat × Bool)} {Q : AV → Own → Prop} (hi : ops.toList[i]? = some ⟨d, op, ty, ps, af, g⟩) (hm : MOp P op fr B A L Q) (hQ : isQ P op = false) (hS : needS P ops i = false) (hw : wantedA ops.toList fr ⟨d, op, ty, ps, af, g⟩ = some true) (hd : dstOk N d = true)
    (h : ∀ v A', Q v A' → WS P N n0 ops r R k (fr.put d v) B A' L) : WS P N n0 ops (.one i r) R k fr B A L := fun st hl hp K => by
  obtain ⟨v, st', A', h1, h2, h3, h4⟩ := hm st hl hp
  exact APl.op (p := (fr.put d v, st')) hi hQ (by
    unfold evStep
    rw [hw, Option.bind_some, if_pos hd, if_pos rfl, h1]; rfl) (.inl hS) (h v A' h4 st' h2 h3 K)

def NewQ (cs : List AV) (A : Own) : AV → Own → Prop := fun v A' => ∃ b, v = .ptr b 0 ∧ A' = (b, some (OV.c cs)) :: A
theorem MOp.box {t : TypeId} {x : Operand} {cs : List AV} (hc : (fr.ev x).cells = some cs) : MOp P (.box t x) fr B A L (NewQ cs A) := fun st hl hp =>
  ⟨_, _, _, by simp only [evOp, evBox, hc, Option.bind_some], lw_push hl _, hp.push hl cs, _, rfl, rfl⟩
theorem MOp.alloc {t : TypeId} {ti : TI} {cs : List AV} (ht : tinfo P t = some ti) (hz : ti.zero = some cs) : MOp P (.alloc t) fr B A L (NewQ cs A) := fun st hl hp =>
  ⟨_, _, _, by simp only [evOp, evAlloc, ht, hz, Option.bind_some], lw_push hl _, hp.push hl cs, _, rfl, rfl⟩
theorem MOp.store {t : TypeId} {a x : Operand} {ti : TI} {b off : Nat} {cs vs cs' : List AV} {A' : Own} (ha : fr.ev a = .ptr b off) (hx : (fr.ev x).cells = some vs) (hu : Upd (b, some (OV.c cs)) (b, some (OV.c cs')) A A') (ht : tinfo P t = some ti)
    (hsz : vs.length = ti.size) (ho : vs.all AV.one = true) (hf : off + vs.length ≤ cs.length) (he : setL cs off vs = cs') : MOp P (.store t a x) fr B A L fun _ A'' => A'' = A' := fun st hl hp => by
  have hm : (b, some (OV.c cs)) ∈ A ++ L := List.mem_append_left _ hu.mem
  refine ⟨.any, st.set b (.blk cs' true), A', ?_, lw_set hl (o' := .blk cs' true) (hp.lt hl hm) _, (hu.app L).hp hp (fun i hi => set_get_old hi) (set_get_new rfl), rfl⟩
  simp only [evOp, evStore, ha, ht, Option.bind_some, hx, hp.rd.wr hm]
  rw [need_pos ⟨hsz, hf⟩, if_pos ho, he]; rfl
/-- A store over all of a block. -/
theorem MOp.storeW {t : TypeId} {a x : Operand} {ti : TI} {b : Nat} {cs vs : List AV} {A' : Own} (ha : fr.ev a = .ptr b 0) (hx : (fr.ev x).cells = some vs) (hu : Upd (b, some (OV.c cs)) (b, some (OV.c vs)) A A') (ht : tinfo P t = some ti)
    (hsz : vs.length = ti.size) (ho : vs.all AV.one = true) (hf : vs.length = cs.length) : MOp P (.store t a x) fr B A L fun _ A'' => A'' = A' :=
  MOp.store ha hx hu ht hsz ho (by omega) (setL_all vs cs hf)
where
  setL_all : ∀ (vs cs : List AV), vs.length = cs.length → setL cs 0 vs = vs := fun vs cs h => by
    refine List.ext_getElem? fun j => ?_
    rw [setL_get vs cs 0 j (by omega)]
    split
    · rfl
    · rename_i hj
      rw [List.getElem?_eq_none (by omega), List.getElem?_eq_none (by omega)]
def BsQ {α : Type} (t : Ty α) (l : List α) (B : Kn) (cs : List AV) (A : Own) : AV → Own → Prop := fun v A' => ∃ b, OSl t B v b false cs l ∧ A' = (b, some (OV.c cs)) :: A
/-- Slice types: their elements. -/
structure SlT {α : Type} (P : Program) (T : TypeId) (t : Ty α) (z : List AV) (by_ : Nat) : Prop where
  ex : ∃ ti e ei, tinfo P T = some ti ∧ ti.k = .sl e ∧ tinfo P e = some ei ∧ ei.size = t.sz ∧ ei.zero = some z ∧ z.length = t.sz ∧ ei.bytes = by_
theorem MOp.bs {α : Type} {T : TypeId} {n : Nat} {ps : Array (Nat × Operand)} {t : Ty α} {z cs : List AV} {y : Nat} {l : List α} (ht : SlT P T t z y) (hr : RL t B cs l) (hn : n * t.sz ≤ 16777216) (hf : fillA (fun i => some (i * t.sz, t.sz)) (zeroRow z n) (ps.toList.map fun p => (p.1, fr.ev p.2)) = some cs)
    (hl : l.length = n) : MOp P (.buildSlice T n ps) fr B A L (BsQ t l B cs A) := fun st hw hp => by
  obtain ⟨ti, e, ei, h1, h2, h3, h4, h5, h6, _⟩ := ht.ex
  have hlen : cs.length = n * t.sz := by rw [hr.len, hl]
  subst hl
  refine ⟨.sl t.sz st.n 0 l.length l.length false, st.push (.blk cs true), _, ?_, lw_push hw _, hp.push hw cs, st.n, ⟨⟨_, _, rfl, Nat.le_refl _, fun _ => rfl⟩, by simp, hr⟩, rfl⟩
  simp only [evOp, evBuildSlice, h1, h2, h3, h4, h5, Option.bind_some]
  rw [need_pos ⟨hn, h6⟩, hf, Option.bind_some, need_pos hlen]
theorem MOp.mk {α : Type} {T : TypeId} {lo co : Operand} {t : Ty α} {z : List AV} {y : Nat} {kl kc : IntKind} {n : Int} {x : α} (ht : SlT P T t z y) (hl : fr.ev lo = .int kl n) (hc : fr.ev co = .int kc n) (h0 : 0 ≤ n) (hn : n ≤ 9223372036854775807) (hy : y * n ≤ 281474976710656) (hr : t.R B z x) :
    MOp P (.makeSlice T lo co) fr B A L (BsQ t (List.replicate n.toNat x) B (zeroRow z n.toNat) A) := fun st hw hp => by
  obtain ⟨ti, e, ei, h1, h2, h3, h4, h5, h6, h7⟩ := ht.ex
  have hrl : ∀ m, RL t B (zeroRow z m) (List.replicate m x) := by
    intro m
    induction m with
    | zero => rfl
    | succ m ih => exact ⟨z, zeroRow z m, rfl, hr, ih⟩
  refine ⟨.sl t.sz st.n 0 n.toNat n.toNat false, st.push (.blk (zeroRow z n.toNat) true), _, ?_, lw_push hw _, hp.push hw _, st.n, ⟨⟨_, _, by rw [List.length_replicate], by rw [List.length_replicate]; exact Nat.le_refl _, fun _ => rfl⟩, by simp, hrl _⟩, rfl⟩
  simp only [evOp, evMakeSlice, hl, hc, h1, h2, h3, h4, h5, Option.bind_some]
  rw [need_pos ⟨h0, Int.le_refl _, hn, by rw [h7]; exact hy, h6⟩]

/-! ### Loads -/
theorem ldS {cs : List AV} {st : St} {t : TypeId} {ti : TI} {b off : Nat} {v : AV} (ht : tinfo P t = some ti) (ha : ti.k.agg = false) (hr : rdBlk st b = some cs) (hv : cs[off]? = some v) : evLoad P t (.ptr b off) st = some v := by
  simp only [evLoad, ht, Option.bind_some, hr, ha, Bool.false_eq_true, if_false, hv]
theorem ldA {cs vs : List AV} {st : St} {t : TypeId} {ti : TI} {b off : Nat} (ht : tinfo P t = some ti) (ha : ti.k.agg = true) (hr : rdBlk st b = some cs) (hv : loadN cs off ti.size = some vs) : evLoad P t (.ptr b off) st = some (.agg vs) := by
  simp only [evLoad, ht, Option.bind_some, hr, ha, if_true, hv]
theorem QOp.ldS {x : Operand} {t : TypeId} {ti : TI} {b off i : Nat} {cs : List AV} {v : AV} (hx : fr.ev x = .ptr b off) (hA : A[i]? = some (b, some (OV.c cs))) (hv : cs[off]? = some v) (ht : tinfo P t = some ti) (ha : ti.k.agg = false) : QOp P (.load t x) fr B A v := fun st hr => by
  simp only [evOp, hx, Gab.ldS ht ha (hr.ro (List.mem_of_getElem? hA)) hv, Option.bind_some]
theorem QOp.ldA {x : Operand} {t : TypeId} {ti : TI} {b off i : Nat} {cs vs : List AV} (hx : fr.ev x = .ptr b off) (hA : A[i]? = some (b, some (OV.c cs))) (hv : loadN cs off ti.size = some vs) (ht : tinfo P t = some ti) (ha : ti.k.agg = true) : QOp P (.load t x) fr B A (.agg vs) := fun st hr => by
  simp only [evOp, hx, Gab.ldA ht ha (hr.ro (List.mem_of_getElem? hA)) hv, Option.bind_some]
theorem QOp.lp0 {x : Operand} {t : TypeId} {ti : TI} {b o : Nat} {cs : List AV} {v : AV} (hx : fr.ev x = .ptr b o) (hp : Pt B b o cs) (hv : cs[0]? = some v) (ht : tinfo P t = some ti) (ha : ti.k.agg = false) : QOp P (.load t x) fr B A v := fun st hr => by
  obtain ⟨blk, rw', h1, h2⟩ := hp
  have hf := (List.getElem?_eq_some_iff.1 hv).1
  simp only [evOp, hx, Gab.ldS (off := o) ht ha (hr.rd h1) ((show blk[o]? = cs[0]? from h2 0 hf).trans hv), Option.bind_some]
theorem QOp.lpS {x : Operand} {t : TypeId} {ti : TI} {b o f : Nat} {cs : List AV} {v : AV} (hx : fr.ev x = .ptr b (o + f)) (hp : Pt B b o cs) (hv : cs[f]? = some v) (ht : tinfo P t = some ti) (ha : ti.k.agg = false) : QOp P (.load t x) fr B A v := fun st hr => by
  obtain ⟨blk, rw', h1, h2⟩ := hp
  have hf := (List.getElem?_eq_some_iff.1 hv).1
  simp only [evOp, hx, Gab.ldS ht ha (hr.rd h1) ((h2 f hf).trans hv), Option.bind_some]
theorem loadN_of {blk cs : List AV} : ∀ {n o : Nat}, cs.length = n → (∀ j, j < cs.length → blk[o + j]? = cs[j]?) → loadN blk o n = some cs
  | 0, o, h, _ => by rw [List.eq_nil_of_length_eq_zero h]; rfl
  | n + 1, o, h, hg => by
    cases cs with
    | nil => simp at h
    | cons c r =>
      have h0 := hg 0 (by simp)
      have ih := loadN_of (blk := blk) (cs := r) (n := n) (o := o + 1) (by simpa using h) fun j hj => by
        have := hg (j + 1) (by simp; omega)
        rw [show o + 1 + j = o + (j + 1) by omega, this]; simp
      simp only [Nat.add_zero, List.getElem?_cons_zero] at h0
      simp only [loadN, h0, Option.bind_some, ih]
theorem QOp.lpA {x : Operand} {t : TypeId} {ti : TI} {b o : Nat} {cs : List AV} (hx : fr.ev x = .ptr b o) (hp : Pt B b o cs) (ht : tinfo P t = some ti) (ha : ti.k.agg = true) (hsz : cs.length = ti.size) : QOp P (.load t x) fr B A (.agg cs) := fun st hr => by
  obtain ⟨blk, rw', h1, h2⟩ := hp
  simp only [evOp, hx, Gab.ldA ht ha (hr.rd h1) (loadN_of hsz h2), Option.bind_some]
/-- A part of the cells. -/
theorem Pt.part {b o : Nat} {cs : List AV} (h : Pt B b o cs) (f : Nat) {ds : List AV} (hd : ∀ j, j < ds.length → cs[f + j]? = ds[j]?) (hl : f + ds.length ≤ cs.length) : Pt B b (o + f) ds := by
  obtain ⟨blk, rw', h1, h2⟩ := h
  exact ⟨blk, rw', h1, fun j hj => by rw [Nat.add_assoc, h2 (f + j) (by omega), hd j hj]⟩
theorem QOp.fa {t : TypeId} {x : Operand} {f : Nat} {v : AV} (h : evFieldAddr P t (fr.ev x) f = some v) : QOp P (.fieldAddr t x f) fr B A v := fun st _ => by simp only [evOp, h, Option.bind_some]
theorem QOp.fd {t : TypeId} {x : Operand} {f : Nat} {v : AV} (h : evField P t (fr.ev x) f = some v) : QOp P (.field t x f) fr B A v := fun st _ => by simp only [evOp, h, Option.bind_some]
theorem QOp.ia {t : TypeId} {x i : Operand} {v : AV} (h : evIndexAddr P t (fr.ev x) (fr.ev i) = some v) : QOp P (.indexAddr t x i) fr B A v := fun st _ => by simp only [evOp, h, Option.bind_some]
theorem QOp.ix {t : TypeId} {x i : Operand} {v : AV} (h : evIndex P t (fr.ev x) (fr.ev i) = some v) : QOp P (.index t x i) fr B A v := fun st _ => by simp only [evOp, h, Option.bind_some]
theorem QOp.sl {t : TypeId} {x : Operand} {lo hi : Option Operand} {v : AV} (h : evSlice P t (fr.ev x) (lo.map fr.ev) (hi.map fr.ev) none = some v) : QOp P (.slice t x lo hi none) fr B A v := fun st _ => by simp only [evOp, Option.map_none, h, Option.bind_some]
theorem QOp.bd {t : TypeId} {ps : Array (Nat × Operand)} {v : AV} (h : evBuild P t (ps.toList.map fun p => (p.1, fr.ev p.2)) = some v) : QOp P (.build t ps) fr B A v := fun st _ => by simp only [evOp, h, Option.bind_some]
theorem QOp.bin {op : BinOp} {t : TypeId} {x y : Operand} {q : _} {v : AV} (h : evBin P op t (fr.ev x) (fr.ev y) = some v) : QOp P (.binOp op t x y q) fr B A v := fun st _ => by simp only [evOp, h, Option.bind_some]
theorem QOp.len {c : Call} {t : TypeId} {x : Operand} {v : AV} (h1 : c.callee = .builtin .len) (h2 : c.argTypes.toList = [t]) (h3 : c.args.toList = [x]) (h : evLen P t (fr.ev x) = some v) : QOp P (.call c) fr B A v := fun st _ => by
  simp only [evOp, h1, h2, h3, List.map_cons, List.map_nil, evBuiltin, h]
theorem pick_t {a b : AV} : AV.pick true a b = a := by cases a <;> cases b <;> rfl
theorem pick_f {a b : AV} : AV.pick false a b = b := by cases a <;> cases b <;> rfl
theorem QOp.pt {c a b : Operand} {t : Bool} (hc : fr.ev c = .bool t) (ht : t = true) : QOp P (.pick c a b) fr B A (fr.ev a) := fun st _ => by subst ht; simp only [evOp, hc, pick_t]
theorem QOp.pf {c a b : Operand} {t : Bool} (hc : fr.ev c = .bool t) (ht : t = false) : QOp P (.pick c a b) fr B A (fr.ev b) := fun st _ => by subst ht; simp only [evOp, hc, pick_f]

section slices
variable {α : Type} {t : Ty α} {T : TypeId} {z : List AV} {y : Nat} {v : AV} {l : List α}
theorem SlT.len (ht : SlT P T t z y) (h : ∃ sz b off mc nl, v = .sl sz b off l.length mc nl) : evLen P T v = some (.int .i64 (l.length : Int)) := by
  obtain ⟨ti, e, ei, h1, h2, _⟩ := ht.ex
  obtain ⟨sz, b, off, mc, nl, rfl⟩ := h
  simp only [evLen, h1, h2, Option.bind_some]
theorem RSl.isl (h : RSl t B v l) : ∃ sz b off mc nl, v = .sl sz b off l.length mc nl := let ⟨sz, b, off, mc, nl, e, _⟩ := h; ⟨sz, b, off, mc, nl, e⟩
theorem OSl.isl {b : Nat} {nl : Bool} {cs : List AV} (h : OSl t B v b nl cs l) : ∃ sz b off mc nl, v = .sl sz b off l.length mc nl := let ⟨sz, mc, e, _⟩ := h.v_eq; ⟨sz, b, 0, mc, nl, e⟩
/-- An element of a slice: Go's reading. -/
def rd (l : List α) (i : Int) : Option α := if 0 ≤ i then l[i.toNat]? else none
theorem rd_some {i : Int} {x : α} (h : rd l i = some x) : 0 ≤ i ∧ l[i.toNat]? = some x := by
  unfold rd at h
  split at h
  · exact ⟨‹_›, h⟩
  · cases h
theorem getElem?_take_drop {cs : List AV} {o n j : Nat} (h : j < n) : ((cs.drop o).take n)[j]? = cs[o + j]? := by
  rw [List.getElem?_take, if_pos h, List.getElem?_drop]
theorem RSl.at (h : RSl t B v l) (ht : SlT P T t z y) {i : Int} {x : α} (hi : rd l i = some x) (k : IntKind) : ∃ b o cs, evIndexAddr P T v (.int k i) = some (.ptr b o) ∧ Pt B b o cs ∧ t.R B cs x := by
  obtain ⟨ti, e, ei, h1, h2, h3, h4, _⟩ := ht.ex
  obtain ⟨sz, b, off, mc, nl, rfl, g1, g2, g3, g4⟩ := h
  obtain ⟨i0, hx⟩ := rd_some hi
  have hlt := (List.getElem?_eq_some_iff.1 hx).1
  have hne : l ≠ [] := fun e => by subst e; simp at hlt
  have hnl : nl = false := by cases nl with
    | true => exact absurd (g2 rfl) hne
    | false => rfl
  obtain ⟨blk, rw', c1, c2, c3⟩ := g4 hne
  have hsz := g3 hnl
  have hm : i.toNat * t.sz + t.sz ≤ l.length * t.sz := by
    have := Nat.mul_le_mul_right t.sz (show i.toNat + 1 ≤ l.length from hlt)
    rw [Nat.add_mul, Nat.one_mul] at this; exact this
  refine ⟨b, off + i.toNat * sz, (((blk.drop off).take (l.length * t.sz)).drop (i.toNat * t.sz)).take t.sz, ?_, ⟨blk, rw', c1, fun j hj => ?_⟩, c3.get hx⟩
  · simp only [evIndexAddr, h1, h2, h3, Option.bind_some]
    rw [need_pos ⟨h4.trans hsz.symm, i0, by omega⟩]
  · have hj' : j < t.sz := by rw [List.length_take] at hj; omega
    rw [getElem?_take_drop hj', getElem?_take_drop (by omega), hsz, Nat.add_assoc]
/-- A part of a slice: Go's s[a:b]. -/
def cutL (l : List α) (a b : Int) : Option (List α) := if 0 ≤ a ∧ a ≤ b ∧ b ≤ l.length then some ((l.take b.toNat).drop a.toNat) else none
theorem cutL_some {a b : Int} {m : List α} (h : cutL l a b = some m) : (0 ≤ a ∧ a ≤ b ∧ b ≤ l.length) ∧ m = (l.take b.toNat).drop a.toNat := by
  unfold cutL at h
  split at h
  · exact ⟨‹_›, (Option.some.inj h).symm⟩
  · cases h
theorem RSl.cut (h : RSl t B v l) (ht : SlT P T t z y) {a b : Int} {m : List α} (hc : cutL l a b = some m) {lo hi : Option AV} (hlo : bnd 0 lo = some a.toNat) (hhi : bnd l.length hi = some b.toNat) :
    ∃ v', evSlice P T v lo hi none = some v' ∧ RSl t B v' m := by
  obtain ⟨ti, e, ei, h1, h2, h3, h4, _⟩ := ht.ex
  obtain ⟨sz, b', off, mc, nl, rfl, g1, g2, g3, g4⟩ := h
  obtain ⟨⟨a0, ab, bl⟩, rfl⟩ := cutL_some hc
  have hlen : ((l.take b.toNat).drop a.toNat).length = b.toNat - a.toNat := by rw [List.length_drop, List.length_take]; omega
  refine ⟨.sl sz b' (off + a.toNat * sz) (b.toNat - a.toNat) (mc - a.toNat) nl, ?_, sz, b', off + a.toNat * sz, mc - a.toNat, nl, by rw [hlen], by rw [hlen]; omega, fun hn => by rw [g2 hn]; simp, g3, fun hne => ?_⟩
  · simp only [evSlice, h1, h2, h3, Option.bind_some, hlo, hhi]
    rw [need_pos ⟨by omega, by omega, fun hn => by rw [h4, g3 hn]⟩]
  · have hl : l ≠ [] := fun e => by subst e; simp at hne
    have hnl : nl = false := by cases nl with
      | true => exact absurd (g2 rfl) hl
      | false => rfl
    obtain ⟨blk, rw', c1, c2, c3⟩ := g4 hl
    have hsz := g3 hnl
    have e1 : a.toNat * t.sz + (b.toNat - a.toNat) * t.sz = b.toNat * t.sz := by rw [← Nat.add_mul]; congr 1; omega
    have e2 := Nat.mul_le_mul_right t.sz (show b.toNat ≤ l.length by omega)
    refine ⟨blk, rw', c1, by rw [hlen, hsz]; omega, ?_⟩
    have := (RL.take (n := b.toNat) c3).drop (n := a.toNat)
    rw [List.take_take, Nat.min_eq_left e2, List.drop_take, List.drop_drop, ← hsz] at this
    rw [hlen, show (b.toNat - a.toNat) * t.sz = b.toNat * t.sz - a.toNat * t.sz by omega, ← hsz]
    exact this
theorem bnd_int {d : Nat} {k : IntKind} {n : Int} (h : 0 ≤ n) : bnd d (some (.int k n)) = some n.toNat := need_pos h
theorem bnd_none {d : Nat} : bnd d none = some d := rfl
end slices
end
end Gab
