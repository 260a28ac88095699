/- The operations of the model over the abstract memory, continued: operators, conversions, builtins. -/
import Derived.Test.YtcdldgoehoopmaaDoorEva
import Derived.Laws.StructEq
import Derived.ChangeKeysEq
set_option linter.unusedSimpArgs false
set_option linter.unusedVariables false
namespace Gab
open Go

/-! ### Operators -/
def bitsA (op : BinOp) (k : IntKind) (x y : Int) : Int :=
  let a := BitVec.ofInt k.bits x
  let b := BitVec.ofInt k.bits y
  match op with
  | .and => k.wrap (a &&& b).toNat
  | .or => k.wrap (a ||| b).toNat
  | .xor => k.wrap (a ^^^ b).toNat
  | _ => k.wrap (a &&& ~~~b).toNat

def evInt (op : BinOp) (k : IntKind) (a : Int) (k' : IntKind) (b : Int) : Option AV := match op with
  | .shl => need (0 ≤ b) (some (.int k (k.wrap (a * 2 ^ (min b.toNat k.bits)))))
  | .shr => need (0 ≤ b) (some (.int k (a.fdiv (2 ^ (min b.toNat k.bits)))))
  | .add => if k = k' then some (.int k (k.wrap (a + b))) else none
  | .sub => if k = k' then some (.int k (k.wrap (a - b))) else none
  | .mul => if k = k' then some (.int k (k.wrap (a * b))) else none
  | .quo => if k = k' then need (b ≠ 0) (some (.int k (k.wrap (a.tdiv b)))) else none
  | .rem => if k = k' then need (b ≠ 0) (some (.int k (a.tmod b))) else none
  | .and => if k = k' then some (.int k (bitsA .and k a b)) else none
  | .or => if k = k' then some (.int k (bitsA .or k a b)) else none
  | .xor => if k = k' then some (.int k (bitsA .xor k a b)) else none
  | .andNot => if k = k' then some (.int k (bitsA .andNot k a b)) else none
  | .eql => if k = k' then some (.bool (decide (a = b))) else none
  | .neq => if k = k' then some (.bool (decide (a ≠ b))) else none
  | .lss => if k = k' then some (.bool (decide (a < b))) else none
  | .leq => if k = k' then some (.bool (decide (a ≤ b))) else none
  | .gtr => if k = k' then some (.bool (decide (b < a))) else none
  | .geq => if k = k' then some (.bool (decide (b ≤ a))) else none

theorem evInt_ok {P : Program} {op : BinOp} {k k' : IntKind} {a b : Int} {v : AV} (h : evInt op k a k' b = some v) (t : TypeId) (ρ : Loc.Map) (w : World) :
    ∃ r, (binOp op t (.int k a) (.int k' b)).run P w = .ok r w ∧ RV ρ v r := by
  by_cases hk : k = k'
  · subst hk
    cases op <;> simp only [evInt, if_true] at h
    case shl =>
      obtain ⟨h0, h⟩ := need_some h
      simp at h; subst h
      exact ⟨_, by simp only [binOp, Op.shift]; rw [if_neg (by omega)]; rfl, rfl⟩
    case shr =>
      obtain ⟨h0, h⟩ := need_some h
      simp at h; subst h
      exact ⟨_, by simp only [binOp, Op.shift]; rw [if_neg (by omega)]; rfl, rfl⟩
    case quo =>
      obtain ⟨h0, h⟩ := need_some h
      simp at h; subst h
      exact ⟨_, by simp [binOp, Op.intDiv, h0], rfl⟩
    case rem =>
      obtain ⟨h0, h⟩ := need_some h
      simp at h; subst h
      exact ⟨_, by simp [binOp, Op.intDiv, h0], rfl⟩
    all_goals
      simp only [Option.some.injEq] at h
      subst h
      simp only [binOp, ne_eq, not_true_eq_false, if_false, Op.intArith, Op.intBits, Op.intCmp, bitsA, RV]
      refine ⟨_, rfl, ?_⟩
    all_goals try rfl
    all_goals simp [bne, BEq.beq]
  · cases op <;> simp only [evInt, if_neg hk] at h <;> try (cases h; done)
    case shl =>
      obtain ⟨h0, h⟩ := need_some h
      simp at h; subst h
      exact ⟨_, by simp only [binOp, Op.shift]; rw [if_neg (by omega)]; rfl, rfl⟩
    case shr =>
      obtain ⟨h0, h⟩ := need_some h
      simp at h; subst h
      exact ⟨_, by simp only [binOp, Op.shift]; rw [if_neg (by omega)]; rfl, rfl⟩

/-- Whether two cells are the same: numbers, truths, texts. -/
def eqCell : AV → AV → Option Bool
  | .int k a, .int k' b => if k = k' then some (decide (a = b)) else none
  | .bool a, .bool b => some (decide (a = b))
  | .str a, .str b => some (decide (a = b))
  | _, _ => none
def eqFields (P : Program) (xs ys : List AV) : List (Nat × TypeId) → Option Bool
  | [] => some true
  | (o, t) :: r => (tinfo P t).bind fun ti => match ti.k with
    | .int _ | .bool | .str => xs[o]?.bind fun a => ys[o]?.bind fun b => match ti.k, a, b with
      | .int _, .int k n, .int k' m => if k = k' then (eqFields P xs ys r).bind fun e => some (decide (n = m) && e) else none
      | .bool, .bool n, .bool m => (eqFields P xs ys r).bind fun e => some (decide (n = m) && e)
      | .str, .str n, .str m => (eqFields P xs ys r).bind fun e => some (decide (n = m) && e)
      | _, _, _ => none
    | _ => none

theorem eqFields_ok {P : Program} {ρ : Loc.Map} {xs ys : List AV} {xv yv : Array Value} (hx : RVs ρ xs xv.toList) (hy : RVs ρ ys yv.toList) (d : Nat) (w : World) : ∀ {fs : List Field} {b : Bool}, (∀ f ∈ fs, f.name ≠ "_") →
    eqFields P xs ys (fs.map fun f => (f.offset, f.type)) = some b → (Op.eqFields (d + 1) xv yv fs).run P w = .ok b w
  | [], b, _, h => by simp [eqFields] at h; subst h; rfl
  | f :: fs, b, hn, h => by
    simp only [List.map_cons, eqFields, Option.bind_eq_some_iff] at h
    obtain ⟨ti, hti, h⟩ := h
    have hnn := hn f (by simp)
    obtain ⟨i, dd, hi, hd, hk, _⟩ := tinfo_spec hti
    have part_at : ti.k.agg = false → ∀ {l : List AV} {lv : Array Value} {a : AV}, RVs ρ l lv.toList → l[f.offset]? = some a → ∃ c, (part f.type lv f.offset).run P w = .ok c w ∧ RV ρ a c := by
      intro hag l lv a hl ha
      obtain ⟨c, hc, hr⟩ := RVs.get hl ha
      rw [Array.getElem?_toList] at hc
      exact ⟨c, by simp [part, run_isAgg hti, hag, hc], hr⟩
    have step : ∀ {e : Bool} {A B : Value} {q : Bool}, (part f.type xv f.offset).run P w = .ok A w → (part f.type yv f.offset).run P w = .ok B w → (Op.equalIn (d + 1) f.type A B).run P w = .ok q w →
        eqFields P xs ys (fs.map fun f => (f.offset, f.type)) = some e → b = (q && e) → (Op.eqFields (d + 1) xv yv (f :: fs)).run P w = .ok b w := by
      intro e A B q h1 h2 h3 h4 h5
      simp only [Op.eqFields, if_pos hnn, Sem.run_bind, h1, h2, h3, Result.andThen_ok, Sem.run_ite, Sem.run_pure]
      cases q with
      | false => simp at h5; subst h5; rfl
      | true =>
        simp only [Bool.true_and] at h5; subst h5
        simpa using eqFields_ok hx hy d w (fun g hg => hn g (by simp [hg])) h4
    split at h
    · rename_i k hkk
      have hd' := kd_int (hk.trans hkk)
      subst hd'
      simp only [Option.bind_eq_some_iff] at h
      obtain ⟨a, ha, c, hc, h⟩ := h
      obtain ⟨A, hA, rA⟩ := part_at (by rw [hkk]; rfl) hx ha
      obtain ⟨B, hB, rB⟩ := part_at (by rw [hkk]; rfl) hy hc
      rw [hkk] at h
      split at h <;> rename_i e1 <;> try (cases e1; done)
      · split at h
        · rename_i hkk'
          simp only [Option.bind_eq_some_iff] at h
          obtain ⟨e, he, h⟩ := h
          simp only [Option.some.injEq] at h
          simp only [RV] at rA rB
          subst rA; subst rB
          rw [← hkk'] at hB
          refine step hA hB (run_equalIn_int w d f.type _ _ _ _ hd) he ?_
          rw [← h]; simp [BEq.beq]
        · cases h
      · cases h
    · rename_i hkk
      have hd' := kd_bool (hk.trans hkk)
      subst hd'
      simp only [Option.bind_eq_some_iff] at h
      obtain ⟨a, ha, c, hc, h⟩ := h
      obtain ⟨A, hA, rA⟩ := part_at (by rw [hkk]; rfl) hx ha
      obtain ⟨B, hB, rB⟩ := part_at (by rw [hkk]; rfl) hy hc
      rw [hkk] at h
      split at h <;> rename_i e1 <;> try (cases e1; done)
      · simp only [Option.bind_eq_some_iff] at h
        obtain ⟨e, he, h⟩ := h
        simp only [Option.some.injEq] at h
        simp only [RV] at rA rB
        subst rA; subst rB
        refine step hA hB (run_equalIn_bool' w d f.type _ _ hd) he ?_
        rw [← h]; simp [BEq.beq]
      · cases h
    · rename_i hkk
      have hd' := kd_str (hk.trans hkk)
      subst hd'
      simp only [Option.bind_eq_some_iff] at h
      obtain ⟨a, ha, c, hc, h⟩ := h
      obtain ⟨A, hA, rA⟩ := part_at (by rw [hkk]; rfl) hx ha
      obtain ⟨B, hB, rB⟩ := part_at (by rw [hkk]; rfl) hy hc
      rw [hkk] at h
      split at h <;> rename_i e1 <;> try (cases e1; done)
      · simp only [Option.bind_eq_some_iff] at h
        obtain ⟨e, he, h⟩ := h
        simp only [Option.some.injEq] at h
        simp only [RV] at rA rB
        subst rA; subst rB
        refine step hA hB (run_equalIn_string w d f.type _ _ hd) he ?_
        rw [← h, mk_toList, mk_toList]
        rw [Bool.eq_iff_iff]; simp
      · cases h
    · cases h

/-- May two structs of this type be compared field by field? (A closed fact of the program's tables.) -/
def flatStruct (P : Program) (t : TypeId) : Bool := match P.underlying t with
  | some (.struct fs) => !P.stoodInHeld t && !P.eqGuardType P.depth t && fs.toList.all fun f => f.name != "_"
  | _ => false

/-- Arrays alike. -/
def flatArr (P : Program) (t : TypeId) : Bool := match P.underlying t with
  | some (.array _ _) => !P.eqGuardType P.depth t
  | _ => false
def arrFields (e sz : Nat) (is : List Nat) : List (Nat × TypeId) := is.map fun i => (i * sz, e)
def itemF (e c i : Nat) : Field := ⟨"x", e, i * c, false, "", "", 0⟩
theorem eqItems_fields (d e c : Nat) (xs ys : Array Value) : ∀ is : List Nat, Op.eqItems d e c xs ys is = Op.eqFields d xs ys (is.map (itemF e c))
  | [] => rfl
  | i :: is => by
    rw [List.map_cons, Op.eqItems, Op.eqFields, if_pos (show (itemF e c i).name ≠ "_" by show "x" ≠ "_"; decide), eqItems_fields d e c xs ys is]; rfl

def evEq (P : Program) (t : TypeId) (a b : AV) : Option Bool := match a, b with
  | .bool x, .bool y => (tinfo P t).bind fun ti => match ti.k with
    | .bool => some (decide (x = y))
    | _ => none
  | .str x, .str y => some (decide (x = y))
  | .agg xs, .agg ys => if flatStruct P t then (tinfo P t).bind fun ti => match ti.k with
      | .struct fs => eqFields P xs ys fs
      | _ => none
    else if flatArr P t then (tinfo P t).bind fun ti => match ti.k with
      | .arr n e => (tinfo P e).bind fun ei => eqFields P xs ys (arrFields e ei.size (List.range n))
      | _ => none
    else none
  | .sl _ _ _ _ _ nl, .sl _ _ _ _ _ nl' => (tinfo P t).bind fun ti => match ti.k with
    | .sl _ => if nl' then some nl else if nl then some nl' else none
    | _ => none
  | .ptr _ _, .nilptr => (tinfo P t).bind fun ti => match ti.k with
    | .ptr _ => some false
    | _ => none
  | .nilptr, .ptr _ _ => (tinfo P t).bind fun ti => match ti.k with
    | .ptr _ => some false
    | _ => none
  | .nilptr, .nilptr => (tinfo P t).bind fun ti => match ti.k with
    | .ptr _ => some true
    | _ => none
  | _, _ => none

theorem eq_both {P : Program} {t : TypeId} {x y : Value} {q : Bool} {ox oy : Operand} {w : World} (hb : binOp .eql t x y = (do pure (.bool (← Op.equal t x y)))) (hb' : binOp .neq t x y = (do pure (.bool (!(← Op.equal t x y)))))
    (hg : ∀ op, (eqGuard op t ox oy x y).run P w = .ok () w) (he : ∀ d, (Op.equalIn (d + 1) t x y).run P w = .ok q w) :
    (do eqGuard .eql t ox oy x y; binOp .eql t x y).run P w = .ok (.bool q) w ∧ (do eqGuard .neq t ox oy x y; binOp .neq t x y).run P w = .ok (.bool !q) w := by
  have h9 := he 9999
  constructor
  · simp only [Sem.run_bind, hg, Result.andThen_ok, hb, Op.equal, Op.maxDepth, h9, Sem.run_pure]
  · simp only [Sem.run_bind, hg, Result.andThen_ok, hb', Op.equal, Op.maxDepth, h9, Sem.run_pure]

theorem evEq_ok {P : Program} {t : TypeId} {a b : AV} {q : Bool} (h : evEq P t a b = some q) {ρ : Loc.Map} {x y : Value} (hx : RV ρ a x) (hy : RV ρ b y) (ox oy : Operand) (w : World) :
    (do eqGuard .eql t ox oy x y; binOp .eql t x y).run P w = .ok (.bool q) w ∧ (do eqGuard .neq t ox oy x y; binOp .neq t x y).run P w = .ok (.bool !q) w := by
  unfold evEq at h
  split at h
  · simp only [Option.bind_eq_some_iff] at h
    obtain ⟨ti, hti, h⟩ := h
    obtain ⟨i, d, hi, hd, hk, _⟩ := tinfo_spec hti
    split at h
    · rename_i hkk
      have hd' := kd_bool (hk.trans hkk); subst hd'
      simp at h; subst h
      simp only [RV] at hx hy; subst hx; subst hy
      exact eq_both rfl rfl (fun op => by cases op <;> rfl) (fun d => by rw [run_equalIn_bool' w d t _ _ hd]; rfl)
    · cases h
  · simp at h; subst h
    simp only [RV] at hx hy; subst hx; subst hy
    have e1 : ∀ (l m : List UInt8), (l == m) = decide (l = m) := fun l m => by rw [Bool.eq_iff_iff]; simp
    constructor
    · simp only [eqGuard, binOp, Op.stringOp, Sem.run_bind, mk_toList, e1]
      simp
    · simp only [eqGuard, binOp, Op.stringOp, Sem.run_bind, mk_toList, e1]
      simp
  · split at h
    · rename_i xs ys hfl
      simp only [Option.bind_eq_some_iff] at h
      obtain ⟨ti, hti, h⟩ := h
      obtain ⟨i, d, hi, hd, hk, _⟩ := tinfo_spec hti
      split at h
      · rename_i fs hfs
        obtain ⟨ff, rfl, hff⟩ := kd_struct (hk.trans hfs)
        simp only [flatStruct, hd, Bool.and_eq_true, Bool.not_eq_true', List.all_eq_true] at hfl
        obtain ⟨⟨h1, h2⟩, h3⟩ := hfl
        obtain ⟨xv, rfl, hxv⟩ := hx
        obtain ⟨yv, rfl, hyv⟩ := hy
        have hfo : P.fieldsOf t = ff := by simp [Program.fieldsOf, hd]
        rw [← hff] at h
        have he := eqFields_ok (P := P) (xv := ⟨xv⟩) (yv := ⟨yv⟩) hxv hyv 9998 w (fun f hf => by simpa using h3 f hf) h
        have heq : (Op.equalIn 10000 t (.agg ⟨xv⟩) (.agg ⟨yv⟩)).run P w = .ok q w := by
          rw [run_equalIn_struct w 9999 t ⟨xv⟩ ⟨yv⟩ (by rw [hfo]; exact hd) h1, hfo]
          exact he
        constructor
        · simp only [Sem.run_bind, run_eqGuard_agg w _ _ _ _ _ _ h2, Result.andThen_ok, run_eql_struct, heq]
        · simp only [Sem.run_bind, run_eqGuard_agg w _ _ _ _ _ _ h2, Result.andThen_ok, run_neq_struct, heq]
      · cases h
    · split at h
      · rename_i xs ys hfl0 hfl
        simp only [Option.bind_eq_some_iff] at h
        obtain ⟨ti, hti, h⟩ := h
        obtain ⟨i, d, hi, hd, hk, _⟩ := tinfo_spec hti
        split at h
        · rename_i n e hfs
          have hd' := kd_arr (hk.trans hfs)
          subst hd'
          simp only [Option.bind_eq_some_iff] at h
          obtain ⟨ei, hei, h⟩ := h
          obtain ⟨ie, de, hie, _, _, hse, _⟩ := tinfo_spec hei
          simp only [flatArr, hd, Bool.not_eq_true'] at hfl
          obtain ⟨xv, rfl, hxv⟩ := hx
          obtain ⟨yv, rfl, hyv⟩ := hy
          have hce : P.cellsOf e = ei.size := by simp only [Program.cellsOf, hie]; exact hse
          have he := eqFields_ok (P := P) (xv := ⟨xv⟩) (yv := ⟨yv⟩) hxv hyv 9998 w (fs := (List.range n).map (itemF e ei.size)) (fun f hf => by
            obtain ⟨j, _, rfl⟩ := List.mem_map.1 hf
            show "x" ≠ "_"; decide) (by rw [List.map_map]; exact h)
          have heq : (Op.equalIn 10000 t (.agg ⟨xv⟩) (.agg ⟨yv⟩)).run P w = .ok q w := by
            rw [run_equalIn_array w 9999 ⟨xv⟩ ⟨yv⟩ hd hie, hce, eqItems_fields]
            exact he
          constructor
          · simp only [Sem.run_bind, run_eqGuard_agg w _ _ _ _ _ _ hfl, Result.andThen_ok, run_eql_struct, heq]
          · simp only [Sem.run_bind, run_eqGuard_agg w _ _ _ _ _ _ hfl, Result.andThen_ok, run_neq_struct, heq]
        · cases h
      · cases h
  · rename_i nl1 _ _ _ _ _ nl2
    simp only [Option.bind_eq_some_iff] at h
    obtain ⟨ti, hti, h⟩ := h
    obtain ⟨i, d, hi, hd, hk, _⟩ := tinfo_spec hti
    split at h
    · rename_i e he
      have hd' := kd_sl (hk.trans he); subst hd'
      obtain ⟨ax, cx, rfl, _, _, n1, n2⟩ := hx
      obtain ⟨ay, cy, rfl, _, _, m1, m2⟩ := hy
      split at h
      · rename_i hnl
        obtain ⟨rfl, rfl⟩ := m1 hnl
        simp at h; subst h
        cases hq : ax with
        | none =>
          cases nl1 with
          | true => exact eq_both rfl rfl (fun op => by cases op <;> rfl) (fun d => by simp [Op.equalIn, run_underlying hd])
          | false => obtain ⟨ad, _, e, _⟩ := n2 rfl; rw [hq] at e; cases e
        | some ad =>
          cases nl1 with
          | true => obtain ⟨e, _⟩ := n1 rfl; rw [hq] at e; cases e
          | false => exact eq_both rfl rfl (fun op => by cases op <;> rfl) (fun d => by simp [Op.equalIn, run_underlying hd])
      · rename_i hnl
        split at h
        · rename_i hnl'
          obtain ⟨rfl, rfl⟩ := n1 hnl'
          have hf : nl2 = false := by simpa using hnl
          obtain ⟨ad, _, rfl, _⟩ := m2 hf
          simp only [Option.some.injEq] at h
          rw [← h, hf]
          exact eq_both rfl rfl (fun op => by cases op <;> rfl) (fun d => by simp [Op.equalIn, run_underlying hd])
        · cases h
    · cases h
  · simp only [Option.bind_eq_some_iff] at h
    obtain ⟨ti, hti, h⟩ := h
    obtain ⟨i, d, hi, hd, hk, _⟩ := tinfo_spec hti
    split at h
    · rename_i e he
      have hd' := kd_ptr (hk.trans he); subst hd'
      obtain ⟨l, _, rfl⟩ := hx
      simp only [RV] at hy; subst hy
      simp at h; subst h
      exact eq_both rfl rfl (fun op => by cases op <;> rfl) (fun d => by simp [Op.equalIn, run_underlying hd])
    · cases h
  · simp only [Option.bind_eq_some_iff] at h
    obtain ⟨ti, hti, h⟩ := h
    obtain ⟨i, d, hi, hd, hk, _⟩ := tinfo_spec hti
    split at h
    · rename_i e he
      have hd' := kd_ptr (hk.trans he); subst hd'
      obtain ⟨l, _, rfl⟩ := hy
      simp only [RV] at hx; subst hx
      simp at h; subst h
      exact eq_both rfl rfl (fun op => by cases op <;> rfl) (fun d => by simp [Op.equalIn, run_underlying hd])
    · cases h
  · simp only [Option.bind_eq_some_iff] at h
    obtain ⟨ti, hti, h⟩ := h
    obtain ⟨i, d, hi, hd, hk, _⟩ := tinfo_spec hti
    split at h
    · rename_i e he
      have hd' := kd_ptr (hk.trans he); subst hd'
      simp only [RV] at hx hy; subst hx; subst hy
      simp at h; subst h
      exact eq_both rfl rfl (fun op => by cases op <;> rfl) (fun d => by simp [Op.equalIn, run_underlying hd])
    · cases h
  · cases h

def evStr (op : BinOp) (x y : List UInt8) : Option AV := match op with
  | .add => need (x.length + y.length ≤ 9223372036854775807) (some (.str (x ++ y)))
  | .lss => some (.bool (Op.bytesLess x y))
  | .leq => some (.bool (Op.bytesLess x y || decide (x = y)))
  | .gtr => some (.bool !(Op.bytesLess x y || decide (x = y)))
  | .geq => some (.bool !(Op.bytesLess x y))
  | _ => none
theorem evStr_ok {P : Program} {op : BinOp} {x y : List UInt8} {v : AV} (h : evStr op x y = some v) (t : TypeId) (ρ : Loc.Map) (w : World) :
    ∃ r, (binOp op t (.string ⟨x.toArray⟩) (.string ⟨y.toArray⟩)).run P w = .ok r w ∧ RV ρ v r := by
  cases op <;> simp only [evStr] at h <;> try (cases h; done)
  case add =>
    obtain ⟨h0, h⟩ := need_some h
    simp at h; subst h
    refine ⟨_, ?_, rfl⟩
    simp only [binOp, Op.stringOp, mk_size, mk_append]
    rw [if_neg (by simp only [IntKind.max, IntKind.signed, IntKind.bits, if_true]; omega)]
    rfl
  all_goals
    simp at h; subst h
    refine ⟨_, rfl, ?_⟩
    simp [RV, mk_toList]
  all_goals
    try rw [Bool.eq_iff_iff]
    try simp

def evBin (P : Program) (op : BinOp) (t : TypeId) (a b : AV) : Option AV := match a, b with
  | .int k x, .int k' y => evInt op k x k' y
  | a, b => match op with
    | .eql => (evEq P t a b).bind fun q => some (.bool q)
    | .neq => (evEq P t a b).bind fun q => some (.bool !q)
    | op => match a, b with
      | .str x, .str y => evStr op x y
      | _, _ => none

theorem evBin_ok {P : Program} {op : BinOp} {t : TypeId} {a b v : AV} (h : evBin P op t a b = some v) {ρ : Loc.Map} {x y : Value} (hx : RV ρ a x) (hy : RV ρ b y) (ox oy : Operand) (w : World) :
    ∃ r, (do eqGuard op t ox oy x y; binOp op t x y).run P w = .ok r w ∧ RV ρ v r := by
  unfold evBin at h
  split at h
  · simp only [RV] at hx hy; subst hx; subst hy
    obtain ⟨r, hr, hv⟩ := evInt_ok (P := P) h t ρ w
    refine ⟨r, ?_, hv⟩
    have : ∀ k a k' b, (eqGuard op t ox oy (.int k a) (.int k' b)).run P w = .ok () w := fun _ _ _ _ => by cases op <;> rfl
    simp only [Sem.run_bind, this, Result.andThen_ok, hr]
  · split at h
    · simp only [Option.bind_eq_some_iff] at h
      obtain ⟨q, hq, h⟩ := h
      simp at h; subst h
      exact ⟨_, (evEq_ok hq hx hy ox oy w).1, rfl⟩
    · simp only [Option.bind_eq_some_iff] at h
      obtain ⟨q, hq, h⟩ := h
      simp at h; subst h
      exact ⟨_, (evEq_ok hq hx hy ox oy w).2, rfl⟩
    · split at h
      · simp only [RV] at hx hy; subst hx; subst hy
        obtain ⟨r, hr, hv⟩ := evStr_ok (P := P) h t ρ w
        refine ⟨r, ?_, hv⟩
        have : ∀ a b, (eqGuard op t ox oy (.string a) (.string b)).run P w = .ok () w := fun _ _ => by cases op <;> rfl
        simp only [Sem.run_bind, this, Result.andThen_ok, hr]
      · cases h

def evUn (op : UnOp) (a : AV) : Option AV := match op, a with
  | .not, .bool b => some (.bool !b)
  | .neg, .int k n => some (.int k (k.wrap (0 - n)))
  | .xor, .int k n => some (.int k (bitsA .xor k (if k.signed then -1 else k.max) n))
  | _, _ => none
theorem evUn_ok {P : Program} {op : UnOp} {a v : AV} (h : evUn op a = some v) {ρ : Loc.Map} {x : Value} (hx : RV ρ a x) (w : World) : ∃ r, (Op.unary op x).run P w = .ok r w ∧ RV ρ v r := by
  unfold evUn at h
  split at h
  · simp only [RV] at hx; subst hx; simp only [Option.some.injEq] at h; subst h; exact ⟨_, rfl, rfl⟩
  · simp only [RV] at hx; subst hx; simp only [Option.some.injEq] at h; subst h; exact ⟨_, rfl, rfl⟩
  · simp only [RV] at hx; subst hx; simp only [Option.some.injEq] at h; subst h; exact ⟨_, rfl, rfl⟩
  · cases h

def AV.pick (t : Bool) (a b : AV) : AV := match a, b with
  | .bool x, .bool y => .bool (if t then x else y)
  | a, b => if t then a else b
theorem RV.pick {ρ : Loc.Map} {t : Bool} {a b : AV} {x y : Value} (hx : RV ρ a x) (hy : RV ρ b y) : RV ρ (AV.pick t a b) (if t then x else y) := by
  unfold AV.pick
  split
  · simp only [RV] at *; subst hx; subst hy; cases t <;> rfl
  · cases t <;> simpa
end Gab
