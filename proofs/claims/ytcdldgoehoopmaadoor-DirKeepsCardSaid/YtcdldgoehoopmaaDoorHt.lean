/- The rules of the printed proofs, continued: elements of own slices, strings, numbers. -/
import Derived.Test.YtcdldgoehoopmaaDoorPu
set_option linter.unusedSimpArgs false
set_option linter.unusedVariables false
namespace Gab
open Go
theorem lb {a b : Nat} (h : Nat.ble a b = true) : a ≤ b := Nat.le_of_ble_eq_true h
def ct : List Nat → Code → Code
  | 0 :: p, .seq a _ => ct p a
  | 1 :: p, .seq _ b => ct p b
  | 0 :: p, .cond _ a _ => ct p a
  | 1 :: p, .cond _ _ b => ct p b
  | 0 :: p, .block _ a => ct p a
  | 0 :: p, .loop a => ct p a
  | _, c => c
def bodyOf (f : Func) : Code := f.body.getD .skip
section
variable {P : Program} {N n0 : Nat} {ops : Array Oper} {R : Post} {k : List It} {fr : Fr} {B : Kn} {A L M : Own}
theorem wgu {l : List Oper} {d : Option Nat} {op : Op} {ty : TypeId} {ps : String} {af : Array Edge} {j gd : Nat} {want : Bool} (hj : (l[j]?.bind (·.dst)) = some gd) (hb : Fr.get fr gd = .tup []) : wantedA l fr ⟨d, op, ty, ps, af, some (j, want)⟩ = some false := by
  simp only [wantedA, hj, Option.bind_some, hb]
theorem pk_in {M A' : Own} {jx : List Nat} (h : pk jx A' = M) : ∀ e ∈ M, e ∈ A' := fun e he => by
  subst h
  obtain ⟨i, _, hi⟩ := pk_mem he
  exact List.mem_of_getElem? hi
theorem pk_sub (is : List Nat) : ∀ e ∈ pk is A, e ∈ A := fun e he => by
  obtain ⟨i, _, hi⟩ := pk_mem he
  exact List.mem_of_getElem? hi
theorem bodyA {f : FuncId} {fn : Func} {c : Code} {args : List AV} {Q : AV → St → Prop} (hf : P.funcs[f]? = some fn) (hname : (fn.name == "runtime.NumGoroutine") = false) (hb : fn.body = some c) (hN : fn.ntmps = N) (hle : args.length ≤ N)
    (h : ∀ n0, WX P N n0 (Fin P fn.results.toList n0 Q) [.code c] (enumFr 0 args) B A L) : ∀ st, Hp B (A ++ L) st → ASpec P f args st Q := fun st hp =>
  ASpec.bodyX hf hname hb hN hle fun hwf _ => h st.n st hwf.lw hp
/-- Entries that tell nothing, at given places. -/
def ins : Nat → Own → Own
  | 0, A => (0, none) :: A
  | _ + 1, [] => [(0, none)]
  | n + 1, a :: A => a :: ins n A
def addn : List Nat → Own → Own
  | [], A => A
  | i :: r, A => addn r (ins i A)
theorem ins_perm : ∀ (n : Nat) (A : Own), ((0, none) :: A).Perm (ins n A)
  | 0, A => .refl _
  | _ + 1, [] => .refl _
  | n + 1, a :: A => (List.Perm.swap a _ A).trans ((ins_perm n A).cons a)
theorem Hp.addn : ∀ (is : List Nat) {A : Own} {st : St}, Hp B (A ++ L) st → Hp B (Gab.addn is A ++ L) st
  | [], _, _, h => h
  | i :: r, A, st, h => Hp.addn r (A := ins i A) ((h.skip 0).perm ((ins_perm i A).append_right L))
theorem WX.addn (is : List Nat) (h : WX P N n0 R k fr B (Gab.addn is A) L) : WX P N n0 R k fr B A L := fun st hl hp => h st hl (hp.addn is)
theorem WO.addn {l : List Oper} (h : WO P N n0 ops l R k fr B ((0, none) :: A) L) : WO P N n0 ops l R k fr B A L := fun st hl hp => h st hl (hp.skip 0)
theorem WP.addn {r : Plan} (h : WP P N n0 ops r R k fr B ((0, none) :: A) L M) : WP P N n0 ops r R k fr B A L M := fun hs st hl hp => h (fun e he => List.mem_cons_of_mem _ (hs e he)) st hl (hp.skip 0)

theorem _root_.Gab.QOp.mv {x : Operand} {v : AV} (h : fr.ev x = v) : QOp P (.move x) fr B A v := fun st _ => by simp only [evOp, h]
theorem _root_.Gab.QOp.as {x : Operand} {v : AV} (h : fr.ev x = v) : QOp P (.assign x) fr B A v := fun st _ => by simp only [evOp, h]
theorem _root_.Gab.QOp.ptv {c a b : Operand} {t : Bool} {v : AV} (hc : fr.ev c = .bool t) (ht : t = true) (hv : fr.ev a = v) : QOp P (.pick c a b) fr B A v := hv ▸ QOp.pt hc ht
theorem _root_.Gab.QOp.pfv {c a b : Operand} {t : Bool} {v : AV} (hc : fr.ev c = .bool t) (ht : t = false) (hv : fr.ev b = v) : QOp P (.pick c a b) fr B A v := hv ▸ QOp.pf hc ht
theorem cI {a : AV} {k : IntKind} {n : Int} (h : a = .int k n) : a.cells = some [.int k n] := by rw [h]; rfl
theorem cB {a : AV} {b : Bool} (h : a = .bool b) : a.cells = some [.bool b] := by rw [h]; rfl
theorem cS {a : AV} {l : List UInt8} (h : a = .str l) : a.cells = some [.str l] := by rw [h]; rfl
theorem cP {a : AV} {b o : Nat} (h : a = .ptr b o) : a.cells = some [.ptr b o] := by rw [h]; rfl
theorem cL {a : AV} {s b o n m : Nat} {nl : Bool} (h : a = .sl s b o n m nl) : a.cells = some [.sl s b o n m nl] := by rw [h]; rfl
theorem cA {a : AV} {l : List AV} (h : a = .agg l) : a.cells = some l := by rw [h]; rfl
theorem cF {a : AV} {f : Fn} {x y : List AV} (h : a = .fn f x y) : a.cells = some [.fn f x y] := by rw [h]; rfl
/-! ### Elements of an own slice -/
section el
variable {α : Type} {t : Ty α} {T : TypeId} {z : List AV} {y : Nat} {v : AV} {l : List α} {b : Nat} {nl : Bool} {cs : List AV}
theorem OSl.nonnil (h : OSl t B v b nl cs l) {i : Int} {x : α} (hi : rd l i = some x) : nl = false := by
  cases nl with
  | false => rfl
  | true =>
    have := (rd_some hi).2
    rw [h.nil rfl] at this
    simp at this
def OEl (cs : List AV) (o : Nat) (ds : List AV) : Prop := ∀ j, j < ds.length → cs[o + j]? = ds[j]?
theorem OEl.g0 {o : Nat} {ds : List AV} {w : AV} (h : OEl cs o ds) (hv : ds[0]? = some w) : cs[o]? = some w := (h 0 (List.getElem?_eq_some_iff.1 hv).1).trans hv
theorem OEl.g {o f : Nat} {ds : List AV} {w : AV} (h : OEl cs o ds) (hv : ds[f]? = some w) : cs[o + f]? = some w := (h f (List.getElem?_eq_some_iff.1 hv).1).trans hv
theorem OEl.ld {o n : Nat} {ds : List AV} (h : OEl cs o ds) (hn : ds.length = n) : loadN cs o n = some ds := loadN_of hn h
theorem _root_.Gab.QOp.leA {x : Operand} {t : TypeId} {ti : TI} {b off i : Nat} {cs ds : List AV} (hx : fr.ev x = .ptr b off) (hA : A[i]? = some (b, some (OV.c cs))) (hl : OEl cs off ds) (ht : tinfo P t = some ti) (ha : ti.k.agg = true) (hsz : ds.length = ti.size) : QOp P (.load t x) fr B A (.agg ds) :=
  QOp.ldA hx hA (hl.ld hsz) ht ha
theorem OSl.at (h : OSl t B v b false cs l) (ht : SlT P T t z y) {i : Int} {x : α} (hi : rd l i = some x) (k : IntKind) : ∃ ds, evIndexAddr P T v (.int k i) = some (.ptr b (0 + i.toNat * t.sz)) ∧ OEl cs (0 + i.toNat * t.sz) ds ∧ t.R B ds x := by
  obtain ⟨ti, e, ei, h1, h2, h3, h4, _⟩ := ht.ex
  obtain ⟨⟨sz, mc, rfl, g1, g2⟩, g3, g4⟩ := h
  obtain ⟨i0, hx⟩ := rd_some hi
  have hlt := (List.getElem?_eq_some_iff.1 hx).1
  have hsz := g2 rfl
  refine ⟨(cs.drop (i.toNat * t.sz)).take t.sz, ?_, fun j hj => ?_, g4.get hx⟩
  · simp only [evIndexAddr, h1, h2, h3, Option.bind_some]
    rw [need_pos ⟨h4.trans hsz.symm, i0, by omega⟩, hsz]
  · have hj' : j < t.sz := by rw [List.length_take] at hj; omega
    rw [getElem?_take_drop hj', Nat.zero_add]
theorem setL_append : ∀ (vs pre cs post : List AV), vs.length = cs.length → setL (pre ++ (cs ++ post)) pre.length vs = pre ++ (vs ++ post)
  | [], pre, cs, post, h => by
    have : cs = [] := List.eq_nil_of_length_eq_zero (by simpa using h.symm)
    subst this; rfl
  | w :: vs, pre, [], post, h => by simp at h
  | w :: vs, pre, c :: cs, post, h => by
    have ih := setL_append vs (pre ++ [w]) cs post (by simpa using h)
    rw [setL]
    have e1 : (pre ++ (c :: cs ++ post)).set pre.length w = (pre ++ [w]) ++ (cs ++ post) := by simp
    rw [e1]
    simpa using ih
theorem RL.setW : ∀ {l : List α} {cs vs : List AV} {i : Nat} {x x' : α}, RL t B cs l → l[i]? = some x → t.R B vs x' → RL t B (setL cs (i * t.sz) vs) (l.set i x')
  | a :: l, cs, vs, 0, x, x', h, hi, hr => by
    obtain ⟨c, r, rfl, h1, h2⟩ := h
    refine ⟨vs, r, ?_, hr, h2⟩
    have := setL_append vs [] c r (by rw [t.len hr, t.len h1])
    simpa using this
  | a :: l, cs, vs, i + 1, x, x', h, hi, hr => by
    obtain ⟨c, r, rfl, h1, h2⟩ := h
    have ih := RL.setW h2 (i := i) (by simpa using hi) hr
    refine ⟨c, setL r (i * t.sz) vs, ?_, h1, ih⟩
    rw [Nat.add_mul, Nat.one_mul, Nat.add_comm]
    have := setL_shift vs c r (i * t.sz)
    rw [t.len h1] at this
    exact this
where
  setL_shift : ∀ (vs c r : List AV) (o : Nat), setL (c ++ r) (c.length + o) vs = c ++ setL r o vs
    | [], c, r, o => rfl
    | w :: vs, c, r, o => by
      rw [setL, setL, List.set_append_right _ _ (by omega), show c.length + o - c.length = o by omega]
      exact setL_shift vs c (r.set o w) (o + 1)
theorem setL_split : ∀ (vs cs : List AV) (o f : Nat) (w : AV), vs.length + o ≤ cs.length → f < vs.length → OEl cs o vs → setL cs o (vs.set f w) = cs.set (o + f) w
  | vs, cs, o, f, w, hl, hf, h => by
    refine List.ext_getElem? fun j => ?_
    rw [setL_get _ _ _ _ (by simp; omega), List.length_set]
    by_cases h1 : o ≤ j ∧ j < o + vs.length
    · rw [if_pos h1]
      by_cases h2 : f = j - o
      · subst h2
        rw [List.getElem?_set_self (by omega), show o + (j - o) = j by omega, List.getElem?_set_self (by omega)]
      · rw [List.getElem?_set_ne h2, List.getElem?_set_ne (by omega)]
        have := h (j - o) (by omega)
        rw [show o + (j - o) = j by omega] at this
        exact this.symm
    · rw [if_neg h1, List.getElem?_set_ne (by omega)]
def OstQ (t : Ty α) (B : Kn) (v : AV) (b : Nat) (l : List α) (F : Nat × Option OV → Own) : AV → Own → Prop := fun _ A' => ∃ cs, OSl t B v b false cs l ∧ A' = F (b, some (OV.c cs))
theorem MOp.ostW {E : TypeId} {a w : Operand} {ti : TI} {vs : List AV} {F : Nat × Option OV → Own} {i : Int} {x x' : α} (ha : fr.ev a = .ptr b (0 + i.toNat * t.sz)) (hx : (fr.ev w).cells = some vs) (hu : ∀ e, Upd (b, some (OV.c cs)) e A (F e)) (ht : tinfo P E = some ti)
    (hsz : vs.length = ti.size) (h : OSl t B v b false cs l) (hi : rd l i = some x) (hr : t.R B vs x') : MOp P (.store E a w) fr B A L (OstQ t B v b (l.set i.toNat x') F) := fun st hl hp => by
  have ho := t.one hr
  obtain ⟨⟨sz, mc, rfl, g1, g2⟩, g3, g4⟩ := h
  obtain ⟨i0, hx0⟩ := rd_some hi
  have hlt := (List.getElem?_eq_some_iff.1 hx0).1
  have hm := Nat.mul_le_mul_right t.sz (show i.toNat + 1 ≤ l.length from hlt)
  rw [Nat.add_mul, Nat.one_mul] at hm
  obtain ⟨u, st', A', h1, h2, h3, h4⟩ := MOp.store (P := P) (L := L) (B := B) ha hx (hu (b, some (OV.c (setL cs (0 + i.toNat * t.sz) vs)))) ht hsz ho (by rw [t.len hr, g4.len]; omega) rfl st hl hp
  refine ⟨u, st', A', h1, h2, h3, _, ⟨⟨sz, mc, by rw [List.length_set], by rw [List.length_set]; exact g1, g2⟩, by simp, ?_⟩, h4⟩
  rw [Nat.zero_add]
  exact g4.setW hx0 hr
theorem MOp.ost1 {E : TypeId} {a w : Operand} {ti : TI} {f : Nat} {c : AV} {ds cs' : List AV} {F : Nat × Option OV → Own} {i : Int} {x x' : α} (ha : fr.ev a = .ptr b ((0 + i.toNat * t.sz) + f)) (hx : (fr.ev w).cells = some [c]) (hu : ∀ e, Upd (b, some (OV.c cs)) e A (F e)) (ht : tinfo P E = some ti)
    (hsz : 1 = ti.size) (ho : c.one = true) (h : OSl t B v b false cs l) (hi : rd l i = some x) (hd : OEl cs (0 + i.toNat * t.sz) ds) (he : ds.set f c = cs') (hr : t.R B cs' x') (hf : Nat.blt f ds.length = true := by rfl) : MOp P (.store E a w) fr B A L (OstQ t B v b (l.set i.toNat x') F) := fun st hl hp => by
  obtain ⟨⟨sz, mc, rfl, g1, g2⟩, g3, g4⟩ := h
  obtain ⟨i0, hx0⟩ := rd_some hi
  have hlt := (List.getElem?_eq_some_iff.1 hx0).1
  have hf' : f < ds.length := by simpa [Nat.blt_eq] using hf
  have hlen : ds.length = t.sz := by have := t.len hr; rw [← he, List.length_set] at this; exact this
  have hm := Nat.mul_le_mul_right t.sz (show i.toNat + 1 ≤ l.length from hlt)
  rw [Nat.add_mul, Nat.one_mul] at hm
  obtain ⟨u, st', A', h1, h2, h3, h4⟩ := MOp.store (P := P) (L := L) (B := B) (vs := [c]) ha hx (hu (b, some (OV.c (cs.set ((0 + i.toNat * t.sz) + f) c)))) ht hsz (by simp [ho]) (by rw [g4.len]; simp only [List.length_cons, List.length_nil]; omega) rfl st hl hp
  refine ⟨u, st', A', h1, h2, h3, _, ⟨⟨sz, mc, by rw [List.length_set], by rw [List.length_set]; exact g1, g2⟩, by simp, ?_⟩, h4⟩
  have hs := setL_split ds cs (0 + i.toNat * t.sz) f c (by rw [g4.len]; omega) hf' hd
  rw [← hs, he, Nat.zero_add]
  exact g4.setW hx0 hr
end el

theorem isQc {S D : TypeId} {si di : TI} {x : Operand} (hs : tinfo P S = some si) (hd : tinfo P D = some di) (h : (match si.k, di.k with
    | .sl _, _ => false
    | _, .sl _ => false
    | _, _ => true) = true) : isQ P (.convert S D x) = true := by simp only [isQ, hs, hd]; exact h
theorem isQl {c : Call} {t : TypeId} {r : List TypeId} {ti : TI} (h1 : c.callee = .builtin .len) (h2 : c.argTypes.toList = t :: r) (ht : tinfo P t = some ti) (hk : (match ti.k with
    | .map _ _ => false
    | _ => true) = true) : isQ P (.call c) = true := by simp only [isQ, h1, h2, ht]; exact hk
/-! ### Numbers, strings -/
theorem evquo {op : TypeId} {kd : IntKind} {x y : Int} (h : y ≠ 0) : evBin P .quo op (.int kd x) (.int kd y) = some (.int kd (kd.wrap (x.tdiv y))) := by simp only [evBin, evInt, if_true]; rw [need_pos h]
theorem evrem {op : TypeId} {kd : IntKind} {x y : Int} (h : y ≠ 0) : evBin P .rem op (.int kd x) (.int kd y) = some (.int kd (x.tmod y)) := by simp only [evBin, evInt, if_true]; rw [need_pos h]
theorem evshl {op : TypeId} {kd kd' : IntKind} {x y : Int} (h : 0 ≤ y) : evBin P .shl op (.int kd x) (.int kd' y) = some (.int kd (shlK kd x y)) := by simp only [evBin, evInt]; rw [need_pos h]
theorem evshr {op : TypeId} {kd kd' : IntKind} {x y : Int} (h : 0 ≤ y) : evBin P .shr op (.int kd x) (.int kd' y) = some (.int kd (shrK kd x y)) := by simp only [evBin, evInt]; rw [need_pos h]
theorem evcat {op : TypeId} {x y r : List UInt8} (h : catS x y = some r) : evBin P .add op (.str x) (.str y) = some (.str r) := by
  obtain ⟨h1, rfl⟩ := catS_some h
  simp only [evBin, evStr]; rw [need_pos h1]
theorem evbooleql {T : TypeId} {ti : TI} {x y : Bool} (ht : tinfo P T = some ti) (hk : ti.k = .bool) : evBin P .eql T (.bool x) (.bool y) = some (.bool (decide (x = y))) := by simp only [evBin, evEq, ht, Option.bind_some, hk]
theorem evboolneq {T : TypeId} {ti : TI} {x y : Bool} (ht : tinfo P T = some ti) (hk : ti.k = .bool) : evBin P .neq T (.bool x) (.bool y) = some (.bool (!decide (x = y))) := by simp only [evBin, evEq, ht, Option.bind_some, hk]
theorem evslen {T : TypeId} {ti : TI} (ht : tinfo P T = some ti) (hk : ti.k = .str) (x : List UInt8) : evLen P T (.str x) = some (.int .i64 (x.length : Int)) := by simp only [evLen, ht, Option.bind_some, hk]
theorem evsix {T : TypeId} {ti : TI} (ht : tinfo P T = some ti) (hk : ti.k = .str) {x : List UInt8} {i : Int} {b : UInt8} (h : rd x i = some b) (kd : IntKind) : evIndex P T (.str x) (.int kd i) = some (.int .u8 (b.toNat : Int)) := by
  obtain ⟨h0, hx⟩ := rd_some h
  simp only [evIndex, ht, Option.bind_some, hk]
  rw [need_pos h0, hx]; rfl
theorem evscut {T : TypeId} {ti : TI} (ht : tinfo P T = some ti) (hk : ti.k = .str) {x m : List UInt8} {a b : Int} (h : cutL x a b = some m) {lo hi : Option AV} (hlo : bnd 0 lo = some a.toNat) (hhi : bnd x.length hi = some b.toNat) : evSlice P T (.str x) lo hi none = some (.str m) := by
  obtain ⟨⟨a0, ab, bl⟩, rfl⟩ := cutL_some h
  simp only [evSlice, ht, Option.bind_some, hk, hlo, hhi]
  rw [need_pos ⟨by omega, by omega⟩]
theorem cvI {S D : TypeId} {si di : TI} {x : Operand} {ks kd : IntKind} {n : Int} (hs : tinfo P S = some si) (hd : tinfo P D = some di) (hk : di.k = .int kd) (hx : fr.ev x = .int ks n) : QOp P (.convert S D x) fr B A (.int kd (kd.wrap n)) := fun st _ => by
  simp only [evOp, evConvert, hs, hd, Option.bind_some, hk, hx]
theorem cvS {S D : TypeId} {si di : TI} {x : Operand} {l : List UInt8} (hs : tinfo P S = some si) (hd : tinfo P D = some di) (hk : di.k = .str) (hx : fr.ev x = .str l) : QOp P (.convert S D x) fr B A (.str l) := fun st _ => by
  simp only [evOp, evConvert, hs, hd, Option.bind_some, hk, hx]
/-- A call lent the captured variable of its closure. -/
theorem capC {f : FuncId} {args : List AV} {Q : AV → Prop} {b : Nat} {cs : List AV} (hm : (b, some (OV.c cs)) ∈ L) (h : ∀ L' st, Hp B ((b, some (OV.c cs)) :: L') st → ASpec P f args st (CS B ((b, some (OV.c cs)) :: L') Q)) : ∀ st, Hp B L st → ASpec P f args st (CS B L Q) := fun st hp => by
  obtain ⟨s, t, rfl⟩ := List.append_of_mem hm
  have hpm : (s ++ (b, some (OV.c cs)) :: t).Perm ((b, some (OV.c cs)) :: (s ++ t)) := List.perm_middle
  exact (h (s ++ t) st (hp.perm hpm)).mono fun v s' ⟨h1, h2⟩ => ⟨h1.perm hpm.symm, h2⟩
end
end Gab
namespace Gab
open Go
/-! ### Strings of bytes -/
theorem RL.ints {k : IntKind} {B : Kn} : ∀ {l : List Int} {cs : List AV}, RL (Ty.int k) B cs l → cs = l.map (AV.int k)
  | [], cs, h => h
  | x :: l, cs, h => by
    obtain ⟨c, r, rfl, h1, h2⟩ := h
    have h1 : c = [.int k x] := h1
    rw [h1, RL.ints h2]; rfl
theorem cellsBytes_ints : ∀ l : List Int, cellsBytes (l.map (AV.int .u8)) = some (bytesOf l)
  | [] => rfl
  | x :: l => by simp only [List.map_cons, cellsBytes, cellsBytes_ints l, Option.bind_some]; rfl
section
variable {P : Program} {fr : Fr} {B : Kn} {A : Own}
theorem cvBr {S D : TypeId} {di : TI} {x : Operand} {v : AV} {l : List Int} (hb : ∃ ti e ei, tinfo P S = some ti ∧ ti.k = .sl e ∧ tinfo P e = some ei ∧ ei.k = .int .u8) (hd : tinfo P D = some di) (hk : di.k = .str) (h : RSl (Ty.int .u8) B v l) (hx : fr.ev x = v) : QOp P (.convert S D x) fr B A (.str (bytesOf l)) := fun st hr => by
  obtain ⟨ti, e, ei, h1, h2, h3, h4⟩ := hb
  obtain ⟨sz, b, off, mc, nl, rfl, g1, g2, g3, g4⟩ := h
  simp only [evOp, evConvert, h1, h2, h3, h4, hd, hk, hx, Option.bind_some]
  cases nl with
  | true => rw [if_pos rfl, g2 rfl]; rfl
  | false =>
    rw [if_neg (by simp)]
    by_cases hl : l = []
    · subst hl; rfl
    · rw [if_neg (fun e => hl (List.eq_nil_of_length_eq_zero e))]
      obtain ⟨blk, rw', c1, c2, c3⟩ := g4 hl
      have hsz : (Ty.int .u8).sz = 1 := rfl
      rw [hsz, Nat.mul_one] at c2 c3
      rw [hr.rd c1, Option.bind_some, need_pos c2, RL.ints c3, cellsBytes_ints]; rfl
theorem cvBo {S D : TypeId} {di : TI} {x : Operand} {v : AV} {l : List Int} {j b : Nat} {nl : Bool} {cs : List AV} (hb : ∃ ti e ei, tinfo P S = some ti ∧ ti.k = .sl e ∧ tinfo P e = some ei ∧ ei.k = .int .u8) (hd : tinfo P D = some di) (hk : di.k = .str) (h : OSl (Ty.int .u8) B v b nl cs l) (hA : A[j]? = some (oe b nl cs)) (hx : fr.ev x = v) : QOp P (.convert S D x) fr B A (.str (bytesOf l)) := fun st hr => by
  obtain ⟨ti, e, ei, h1, h2, h3, h4⟩ := hb
  obtain ⟨⟨sz, mc, rfl, g1, g2⟩, g3, g4⟩ := h
  simp only [evOp, evConvert, h1, h2, h3, h4, hd, hk, hx, Option.bind_some]
  cases nl with
  | true => rw [if_pos rfl, g3 rfl]; rfl
  | false =>
    rw [if_neg (by simp)]
    by_cases hl : l = []
    · subst hl; rfl
    · rw [if_neg (fun e => hl (List.eq_nil_of_length_eq_zero e))]
      have hsz : (Ty.int .u8).sz = 1 := rfl
      have hlen := g4.len
      rw [hsz, Nat.mul_one] at hlen
      rw [hr.ro (List.mem_of_getElem? hA), Option.bind_some, need_pos (by omega), List.drop_zero, ← hlen, List.take_length, RL.ints g4, cellsBytes_ints]; rfl
end

/-! ### A block of which less is told -/
theorem Rel.less {ρ : Loc.Map} {st : St} {w : World} (h : Rel ρ st w) {b : Nat} {cs cs' : List AV} (hb : st.get b = some (.blk cs true)) (hp : ∀ (i : Nat) (v : AV), cs'[i]? = some v → cs[i]? = some v) : Rel ρ (st.set b (.blk cs' true)) w := by
  have key : ∀ i o, (st.set b (.blk cs' true)).get i = some o → ∃ o', st.get i = some o' ∧ o'.rw = o.rw ∧ ∀ l, ObjRel ρ o' l w → ObjRel ρ o l w := fun i o hi => by
    rw [St.set_get] at hi
    split at hi
    · rename_i e
      cases hi; subst e
      exact ⟨_, hb, rfl, fun l ⟨c, e, fz, h1, h2, h3, h4⟩ => ⟨c, e, fz, h1, h2, fun i v hv => h3 i v (hp i v hv), h4⟩⟩
    · exact ⟨o, hi, rfl, fun _ h => h⟩
  refine ⟨⟨h.len, fun i o hi => ?_, fun i i' l l' o o' hne hi hrw hi' hl hl' => ?_⟩, ⟨h.gi.glb, fun i o l hi hrw hl => ?_⟩⟩
  · obtain ⟨o', h1, _, h3⟩ := key i o hi
    obtain ⟨l, hl, ho⟩ := h.obj i o' h1
    exact ⟨l, hl, h3 l ho⟩
  · obtain ⟨p, h1, h2, _⟩ := key i o hi
    obtain ⟨p', h1', _, _⟩ := key i' o' hi'
    exact h.sep i i' l l' p p' hne h1 (h2.trans hrw) h1' hl hl'
  · obtain ⟨p, h1, h2, _⟩ := key i o hi
    exact h.gi.gsep i p l h1 (h2.trans hrw) hl
theorem Step.less {n0 : Nat} {ρ : Loc.Map} {st : St} {w : World} {b : Nat} {cs cs' : List AV} (hb : st.get b = some (.blk cs true)) : Step n0 ρ st w ρ (st.set b (.blk cs' true)) w :=
  ⟨.refl _ _, rfl, rfl, rfl, Nat.le_refl _, Nat.le_refl _, fun _ _ _ => rfl, fun i o l hi ho hl _ => by
    rw [St.set_get] at hi
    split at hi
    · rename_i e; subst e; exact ⟨_, _, l, hb, rfl, hl, rfl⟩
    · exact ⟨i, o, l, hi, ho, hl, rfl⟩⟩
section
variable {P : Program} {N n0 : Nat} {ops : Array Oper} {R : Post} {k : List It} {fr : Fr} {B : Kn} {A A' L : Own}
theorem WX.less {c : Code} {b : Nat} {cs cs' : List AV} (hu : Upd (b, some (OV.c cs)) (b, some (OV.c cs')) A A') (hp : ∀ (i : Nat) (v : AV), cs'[i]? = some v → cs[i]? = some v) (h : WX P N n0 R (.code c :: k) fr B A' L) : WX P N n0 R (.code c :: k) fr B A L := fun st hl hh => by
  have hm : (b, some (OV.c cs)) ∈ A ++ L := List.mem_append_left _ hu.mem
  have hg := hh.own b cs hm
  refine AX.weaken (fr' := fr) (st' := st.set b (.blk cs' true)) (fun ρ w tmps hn hr hf => ⟨ρ, hr.less hg hp, hf, Step.less hg⟩) (h _ (lw_set hl (o' := .blk cs true) (hh.lt hl hm) _) ((hu.app L).hp hh (fun i hi => set_get_old hi) (set_get_new rfl)))
theorem evslnil {T e : TypeId} {ti : TI} (ht : tinfo P T = some ti) (hk : ti.k = .sl e) (a b c d f : Nat) (nl : Bool) : evBin P .eql T (.sl a b c d f nl) (.sl 0 0 0 0 0 true) = some (.bool nl) := by
  simp only [evBin, evEq, ht, Option.bind_some, hk, if_true]
/-- append to nothing, of so many zeros. -/
theorem MOp.appMk {α : Type} {t : Ty α} {T X : TypeId} {z : List AV} {y : Nat} {tx : TI} {kx kn : IntKind} {c : Call} {s x : Operand} {n : Int} {a : α} (h1 : c.callee = .builtin .append) (h2 : c.argTypes.toList = [T, X]) (h3 : c.args.toList = [s, x])
    (ht : SlT P T t z y) (hX : tinfo P X = some tx) (hkx : tx.k = .int kx) (hs : fr.ev s = .sl 0 0 0 0 0 true) (hx : fr.ev x = .int kn n) (h0 : 0 < n) (hn : n ≤ 9223372036854775807) (hy : n.toNat * y ≤ 140737488355328) (ha : t.R B z a) :
    MOp P (.call c) fr B A L (BsQ t (List.replicate n.toNat a) B (zeroRow z n.toNat) A) := fun st hw hp => by
  obtain ⟨ti, e, ei, e1, e2, e3, e4, e5, e6, e7⟩ := ht.ex
  have hrl : ∀ m, RL t B (zeroRow z m) (List.replicate m a) := by
    intro m
    induction m with
    | zero => rfl
    | succ m ih => exact ⟨z, zeroRow z m, rfl, ha, ih⟩
  have hpos : 0 < n.toNat := by omega
  refine ⟨.sl ei.size st.n 0 n.toNat n.toNat false, st.push (.blk (zeroRow z n.toNat) true), _, ?_, lw_push hw _, hp.push hw _, st.n, ⟨⟨_, _, by rw [List.length_replicate], by rw [List.length_replicate]; exact Nat.le_refl _, fun _ => e4⟩, by simp, hrl _⟩, rfl⟩
  simp only [evOp, h1, h2, h3, List.map_cons, List.map_nil, hs, hx, evBuiltin, evAppend, e1, e2, e3, e5, Option.bind_some, List.head?_cons, evNews, hX, hkx]
  have hb : n * (ei.bytes : Int) ≤ 281474976710656 := by
    have e : ((n.toNat * y : Nat) : Int) = n * (y : Int) := by rw [Int.natCast_mul, Int.toNat_of_nonneg (by omega)]
    rw [e7, ← e]; omega
  rw [need_pos ⟨by omega, hn, hb, e6.trans e4.symm⟩]
  simp only [Option.bind_some]
  rw [need_pos ⟨by rw [Nat.zero_add, e7]; exact hy, by omega, e6.trans e4.symm⟩, if_pos trivial, if_neg (by omega), pushO_some, decide_eq_false (by omega)]
end
end Gab
namespace Gab
open Go
theorem QOp.capN {P : Program} {fr : Fr} {B : Kn} {A : Own} {c : Call} {t e : TypeId} {ti : TI} {x : Operand} (h1 : c.callee = .builtin .cap) (h2 : c.argTypes.toList = [t]) (h3 : c.args.toList = [x]) (ht : tinfo P t = some ti) (hk : ti.k = .sl e) (hx : fr.ev x = .sl 0 0 0 0 0 true) : QOp P (.call c) fr B A (.int .i64 0) := fun st _ => by
  simp only [evOp, h1, h2, h3, List.map_cons, List.map_nil, evBuiltin, evCap, ht, hk, hx, Option.bind_some]
end Gab
namespace Gab
open Go
theorem evsl0 {P : Program} {T e : TypeId} {ti ei : TI} (ht : tinfo P T = some ti) (hk : ti.k = .sl e) (he : tinfo P e = some ei) {sz b off len mc l h : Nat} {nl : Bool} {lo hi : Option AV} (hlo : bnd 0 lo = some l) (hhi : bnd len hi = some h) (hc : l ≤ h ∧ h ≤ mc ∧ (nl = false → ei.size = sz)) :
    evSlice P T (.sl sz b off len mc nl) lo hi none = some (.sl sz b (off + l * sz) (h - l) (mc - l) nl) := by
  simp only [evSlice, ht, hk, he, Option.bind_some, hlo, hhi]
  exact need_pos hc
end Gab
namespace Gab
open Go
theorem Hp.swap2 {B : Kn} {a b : Nat × Option OV} {L : Own} {st : St} (h : Hp B (a :: b :: L) st) : Hp B (b :: a :: L) st := h.perm (.swap b a L)
end Gab
namespace Gab
open Go
/-! ### clear of the end of an own slice; own slices as arguments -/
section
variable {α : Type} {P : Program} {ops : Array Oper} {N n0 : Nat} {R : Post} {k : List It} {t : Ty α} {z : List AV} {T : TypeId} {y : Nat} {fr : Fr} {B : Kn} {A L M : Own} {l : List α} {v : AV} {b : Nat} {nl : Bool} {cs : List AV}
theorem Upd.self {x : Nat × Option OV} {A A' : Own} (h : Upd x x A A') : A' = A := by
  induction h with
  | h => rfl
  | t _ ih => rw [ih]
/-- The end of an own slice, for clear alone. -/
def OEnd (t : Ty α) (b : Nat) (nl : Bool) (a n : Nat) (w : AV) : Prop := ∃ sz mc, w = .sl sz b (0 + a * sz) n mc nl ∧ (nl = false → sz = t.sz)
theorem OSl.end_ (h : OSl t B v b nl cs l) (ht : SlT P T t z y) {a : Int} {m : List α} (hc : cutL l a l.length = some m) {kd : IntKind} : ∃ w, evSlice P T v (some (.int kd a)) Option.none Option.none = some w ∧ OEnd t b nl a.toNat m.length w := by
  obtain ⟨ti, e, ei, h1, h2, h3, h4, _⟩ := ht.ex
  obtain ⟨⟨sz, mc, rfl, g1, g2⟩, g3, g4⟩ := h
  obtain ⟨⟨c1, c2, c3⟩, rfl⟩ := cutL_some hc
  refine ⟨_, evsl0 h1 h2 h3 (l := a.toNat) (h := l.length) (bnd_int c1) rfl ⟨by omega, g1, fun hn => h4.trans (g2 hn).symm⟩, sz, mc - a.toNat, ?_, g2⟩
  congr 1
  simp
def ClrQ (t : Ty α) (B : Kn) (v : AV) (b : Nat) (nl : Bool) (l : List α) (F : Nat × Option OV → Own) : AV → Own → Prop := fun _ A' => ∃ cs, OSl t B v b nl cs l ∧ A' = F (oe b nl cs)
theorem RL.zeros {x : α} (hr : t.R B z x) : ∀ n, RL t B (zeroRow z n) (List.replicate n x)
  | 0 => rfl
  | n + 1 => ⟨z, zeroRow z n, rfl, hr, RL.zeros hr n⟩
theorem MOp.clr {c : Call} {s : Operand} {F : Nat × Option OV → Own} {a : Int} {m : List α} {x : α} (h1 : c.callee = .builtin .clear) (h2 : c.argTypes.toList = [T]) (h3 : c.args.toList = [s]) (ht : SlT P T t z y) (hr : t.R B z x)
    (ho : OSl t B v b nl cs l) (hs : OEnd t b nl a.toNat m.length (fr.ev s)) (hc : cutL l a l.length = some m) (hu : ∀ e, Upd (oe b nl cs) e A (F e)) :
    MOp P (.call c) fr B A L (ClrQ t B v b nl (l.take a.toNat ++ List.replicate m.length x) F) := fun st hl hp => by
  obtain ⟨ti, e, ei, e1, e2, e3, e4, e5, e6, e7⟩ := ht.ex
  obtain ⟨⟨sz, mc, rfl, g1, g2⟩, g3, g4⟩ := ho
  obtain ⟨sz', mc', hv, q2⟩ := hs
  obtain ⟨⟨c1, c2, c3⟩, rfl⟩ := cutL_some hc
  have hlen : ((l.take (l.length : Int).toNat).drop a.toNat).length = l.length - a.toNat := by simp
  have hev : evOp P (.call c) fr st = evClear P T (.sl sz' b (0 + a.toNat * sz') ((l.take (l.length : Int).toNat).drop a.toNat).length mc' nl) st := by
    simp only [evOp, h1, h2, h3, List.map_cons, List.map_nil, hv, evBuiltin]
  rw [hev]
  simp only [evClear, e1, e2, e3, e5, Option.bind_some]
  have hul := hu (oe b nl cs)
  by_cases h0 : ((l.take (l.length : Int).toNat).drop a.toNat).length = 0
  · rw [if_pos h0, h0]
    refine ⟨_, _, A, rfl, hl, hp, cs, ⟨⟨sz, mc, ?_, ?_, g2⟩, fun h => ?_, ?_⟩, hul.self.symm⟩
    · simp; omega
    · simp; omega
    · rw [g3 h]; simp
    · have : l.take a.toNat ++ List.replicate 0 x = l := by rw [List.take_of_length_le (by omega)]; simp
      rw [this]; exact g4
  · cases nl with
    | true => exact absurd (by rw [g3 rfl]; simp) h0
    | false =>
      have hsz := q2 rfl
      have hsz2 := g2 rfl
      subst hsz
      have hmem : (b, some (OV.c cs)) ∈ A ++ L := List.mem_append_left _ (hu (b, some (OV.c cs))).mem
      have hzr := RL.zeros hr (l.length - a.toNat)
      have hzl : (zeroRow z (l.length - a.toNat)).length = (l.length - a.toNat) * t.sz := by rw [hzr.len, List.length_replicate]
      have hcl := g4.len
      have hm1 : a.toNat * t.sz + (l.length - a.toNat) * t.sz = l.length * t.sz := by rw [← Nat.add_mul]; congr 1; omega
      rw [if_neg h0, hp.rd.wr hmem, Option.bind_some, hlen, need_pos ⟨rfl, hzr.one, by rw [hzl, hcl]; omega⟩]
      have hset : setL cs (0 + a.toNat * t.sz) (zeroRow z (l.length - a.toNat)) = cs.take (a.toNat * t.sz) ++ zeroRow z (l.length - a.toNat) := by
        have := setL_append (zeroRow z (l.length - a.toNat)) (cs.take (a.toNat * t.sz)) (cs.drop (a.toNat * t.sz)) [] (by rw [List.length_drop, hzl]; omega)
        rw [List.append_nil, List.append_nil, List.take_append_drop, List.length_take, Nat.min_eq_left (by omega)] at this
        rw [Nat.zero_add]; exact this
      refine ⟨_, _, _, rfl, lw_set hl (o' := .blk (setL cs (0 + a.toNat * t.sz) (zeroRow z (l.length - a.toNat))) true) (hp.lt hl hmem) _, ((hu (b, some (setL cs (0 + a.toNat * t.sz) (zeroRow z (l.length - a.toNat))))).app L).hp hp (fun i hi => set_get_old hi) (set_get_new rfl), setL cs (0 + a.toNat * t.sz) (zeroRow z (l.length - a.toNat)), ⟨⟨sz, mc, ?_, ?_, g2⟩, by simp, ?_⟩, rfl⟩
      · simp; omega
      · simp; omega
      · rw [hset]
        exact (g4.take (n := a.toNat)).append hzr

/-! A call that takes an own slice: its entry goes, and what comes back stands in its place. -/
section
variable {d : Option Nat} {c : Call} {ty : TypeId} {ps : String} {af : Array Edge} {g : Option (Nat × Bool)} {rest : List Oper} {gop : Operand} {f : FuncId} {first cap args : List AV} {j : Nat} {x : Nat × Option OV}
theorem WO.t0 {Q : Kn → AV → Prop} (hA : A[j]? = some x) (hc : c.callee = .value gop) (hg : fr.ev gop = .fn (.func f) first cap) (hs : ∀ st, Hp B (x :: (A.eraseIdx j ++ L)) st → ASpec P f args st (C0 B (A.eraseIdx j ++ L) Q)) (ha : first ++ c.args.toList.map fr.ev ++ cap = args) (hw : wantedA ops.toList fr ⟨d, .call c, ty, ps, af, g⟩ = some true) (hd : dstOk N d = true)
    (h : ∀ v B', KLe B B' → Q B' v → WO P N n0 ops rest R k (fr.put d v) B' (A.eraseIdx j) L) : WO P N n0 ops (⟨d, .call c, ty, ps, af, g⟩ :: rest) R k fr B A L := fun st hl hp =>
  AOps.call rfl hc hw hg ha hd ((hs st (hp.out hA)).lw.mono fun v s ⟨⟨B', h0, h1, h2⟩, h3⟩ => h v B' h0 h2 s h3 h1)
theorem WO.t1 {Q : Kn → AV → Nat × Option OV → Prop} (hA : A[j]? = some x) (hc : c.callee = .value gop) (hg : fr.ev gop = .fn (.func f) first cap) (hs : ∀ st, Hp B (x :: (A.eraseIdx j ++ L)) st → ASpec P f args st (C1 B (A.eraseIdx j ++ L) Q)) (ha : first ++ c.args.toList.map fr.ev ++ cap = args) (hw : wantedA ops.toList fr ⟨d, .call c, ty, ps, af, g⟩ = some true) (hd : dstOk N d = true)
    (h : ∀ v B' e, KLe B B' → Q B' v e → WO P N n0 ops rest R k (fr.put d v) B' (e :: A.eraseIdx j) L) : WO P N n0 ops (⟨d, .call c, ty, ps, af, g⟩ :: rest) R k fr B A L := fun st hl hp =>
  AOps.call rfl hc hw hg ha hd ((hs st (hp.out hA)).lw.mono fun v s ⟨⟨B', e, h0, h1, h2⟩, h3⟩ => h v B' e h0 h2 s h3 h1)
end
end
end Gab
namespace Gab
open Go
theorem WP.alt {P : Program} {N n0 : Nat} {ops : Array Oper} {R : Post} {k : List It} {fr : Fr} {B : Kn} {A L M : Own} {a b : Plan} (ha : WP P N n0 ops a R k fr B A L M) (hb : WP P N n0 ops b R k fr B A L M) : WP P N n0 ops (.alt a b) R k fr B A L M :=
  fun hs st hl hp => APl.alt (ha hs st hl hp) (hb hs st hl hp)
end Gab
namespace Gab
open Go
/-- More is looked at: what was made in the region. -/
theorem WP.grow {P : Program} {N n0 : Nat} {ops : Array Oper} {R : Post} {k : List It} {fr : Fr} {B : Kn} {A L M : Own} {r : Plan} (M' : Own) (hs' : ∀ e ∈ M', e ∈ A ++ L) (hs : ∀ e ∈ M, e ∈ M') (h : WP P N n0 ops r R k fr B A L M') : WP P N n0 ops r R k fr B A L M := fun _ st hl hp =>
  APl.grow (Kp.kof ((Rd.kof hp hs').sub hs)) (h hs' st hl hp)
theorem pkL {A' L M : Own} {A : Own} {jx : List Nat} (h : pk jx A' = M) : ∀ e ∈ M, e ∈ A ++ L → e ∈ A' ++ L := fun e he _ => List.mem_append_left _ (pk_in h e he)
theorem pkE {A' E L M : Own} {A : Own} {jx : List Nat} (h : pk jx A' = M) : ∀ e ∈ M ++ E, e ∈ A ++ (E ++ L) → e ∈ A' ++ (E ++ L) := fun e he _ => (List.mem_append.1 he).elim (fun x => List.mem_append_left _ (pk_in h e x)) fun x => List.mem_append_right _ (List.mem_append_left _ x)
theorem subE {A E L M : Own} (h : ∀ e ∈ M, e ∈ A) : ∀ e ∈ M ++ E, e ∈ A ++ (E ++ L) := fun e he => (List.mem_append.1 he).elim (fun x => List.mem_append_left _ (h e x)) fun x => List.mem_append_right _ (List.mem_append_left _ x)
theorem inM {E : Own} {x : Nat × Option OV} {X : Own} (h : x ∈ E) : x ∈ X ++ E := List.mem_append_right _ h
theorem subG {M M' E : Own} (h : ∀ e ∈ M, e ∈ M') : ∀ e ∈ M ++ E, e ∈ M' ++ E := fun e he => (List.mem_append.1 he).elim (fun x => List.mem_append_left _ (h e x)) fun x => List.mem_append_right _ x
theorem WS.alt {P : Program} {N n0 : Nat} {ops : Array Oper} {R : Post} {k : List It} {fr : Fr} {B : Kn} {A L : Own} {a b : Plan} (ha : WS P N n0 ops a R k fr B A L) (hb : WS P N n0 ops b R k fr B A L) : WS P N n0 ops (.alt a b) R k fr B A L :=
  fun st hl hp K => APl.alt (ha st hl hp K) (hb st hl hp K)
end Gab
namespace Gab
open Go
/-- An operation that leaves the memory alone, among those that needn't. -/
theorem MOp.ofQ {P : Program} {op : Op} {fr : Fr} {B : Kn} {A L : Own} {v : AV} (h : QOp P op fr B A v) : MOp P op fr B A L (fun u A' => u = v ∧ A' = A) := fun st hl hp => ⟨v, st, A, h st hp.loc, hl, hp, rfl, rfl⟩
end Gab
