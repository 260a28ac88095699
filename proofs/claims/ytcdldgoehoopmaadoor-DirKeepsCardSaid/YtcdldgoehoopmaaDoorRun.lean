/- The evaluator: operations one behind the other, regions, calls, bodies of functions. -/
import Derived.Test.YtcdldgoehoopmaaDoorEvm
import Derived.Laws.Externs
set_option linter.unusedSimpArgs false
set_option linter.unusedVariables false
namespace Gab
open Go

def evBuiltin (P : Program) (b : Builtin) (ts : List TypeId) (xs : List AV) (st : St) : Option (AV × St) := match b, ts, xs with
  | .len, t :: _, [x] => match evLen P t x with
    | some v => some (v, st)
    | none => (evLenM P t x st).bind fun v => some (v, st)
  | .cap, t :: _, [x] => (evCap P t x).bind fun v => some (v, st)
  | .min, _, xs => (evMin xs).bind fun v => some (v, st)
  | .max, _, xs => (evMax xs).bind fun v => some (v, st)
  | .append, ts, [s, x] => evAppend P ts s x st
  | .clear, t :: _, [x] => evClear P t x st
  | .delete, t :: _, [m, k] => (evDelete P t m k st).bind fun s => some (.tup [], s)
  | _, _, _ => none

/-- Functions of the model without a body. -/
noncomputable def evExt (P : Program) (g : AV) (args : List AV) (st : St) : Option (AV × St) := match g, args with
  | .fn (.func f) [] [], [.str s, .int .u8 c] => (P.funcs[f]?).bind fun fn =>
      @ite _ ((fn.name == "runtime.NumGoroutine") = false ∧ fn.body.isNone = true ∧ Extern.findNext fn = none ∧ Extern.find fn = some Extern.BytealgIndexByte.indexByte) (Classical.propDecidable _)
        (some (.int .i64 (firstIdx ⟨s.toArray⟩ c.toNat.toUInt8), st)) none
  | _, _ => none
theorem evExt_ok {P : Program} {g v : AV} {args : List AV} {st st' : St} (h : evExt P g args st = some (v, st')) {ρ : Loc.Map} {w : World} {cg : Value} {cs : List Value} (hg : RV ρ g cg) (hx : RVs ρ args cs) :
    ∃ c f cap, cg = .func (.func f) #[] cap ∧ cap = #[] ∧ (callFunc f ⟨cs⟩).run P w = .ok (.value c) w ∧ st' = st ∧ RV ρ v c := by
  unfold evExt at h
  split at h
  · rename_i f s c
    simp only [Option.bind_eq_some_iff] at h
    obtain ⟨fn, hf, h⟩ := h
    split at h
    · rename_i hc
      obtain ⟨h1, h2, h3, h4⟩ := hc
      simp at h; obtain ⟨rfl, rfl⟩ := h
      obtain ⟨cf, cc, rfl, hcf, hcc⟩ := hg
      simp only [RVs] at hcf hcc
      subst hcf hcc
      obtain ⟨x, _, rfl, hx1, y, _, rfl, hx2, rfl⟩ := hx
      simp only [RV] at hx1 hx2
      subst hx1 hx2
      refine ⟨_, f, #[], rfl, rfl, ?_, rfl, rfl⟩
      rw [run_callFunc_extern hf h1 h2 h3 h4, run_indexByte_string]; rfl
    · cases h
  · cases h
noncomputable def evOp (P : Program) (op : Op) (fr : Fr) (st : St) : Option (AV × St) := match op with
  | .move x | .assign x => some (fr.ev x, st)
  | .pick c a b => match fr.ev c with
    | .bool t => some (AV.pick t (fr.ev a) (fr.ev b), st)
    | _ => none
  | .alloc e => evAlloc P e st
  | .box _ x => evBox (fr.ev x) st
  | .build t ps => (evBuild P t (ps.toList.map fun p => (p.1, fr.ev p.2))).bind fun v => some (v, st)
  | .buildSlice t n ps => evBuildSlice P t n (ps.toList.map fun p => (p.1, fr.ev p.2)) st
  | .load t x => (evLoad P t (fr.ev x) st).bind fun v => some (v, st)
  | .store t a x => (evStore P t (fr.ev a) (fr.ev x) st).bind fun s => some (.any, s)
  | .nilCheck x => match fr.ev x with
    | .ptr b o => some (.ptr b o, st)
    | .fn (.func f) a b => some (.fn (.func f) a b, st)
    | _ => none
  | .binOp op t x y _ => (evBin P op t (fr.ev x) (fr.ev y)).bind fun v => some (v, st)
  | .unOp op _ x => (evUn op (fr.ev x)).bind fun v => some (v, st)
  | .convert s d x => evConvert P s d (fr.ev x) st
  | .makeFunc f a b => some (.fn f (a.toList.map fr.ev) (b.toList.map fr.ev), st)
  | .makeSlice t l c => evMakeSlice P t (fr.ev l) (fr.ev c) st
  | .slice t x lo hi mx => (evSlice P t (fr.ev x) (lo.map fr.ev) (hi.map fr.ev) (mx.map fr.ev)).bind fun v => some (v, st)
  | .fieldAddr t x f => (evFieldAddr P t (fr.ev x) f).bind fun v => some (v, st)
  | .field t x f => (evField P t (fr.ev x) f).bind fun v => some (v, st)
  | .indexAddr t x i => (evIndexAddr P t (fr.ev x) (fr.ev i)).bind fun v => some (v, st)
  | .index t x i => (evIndex P t (fr.ev x) (fr.ev i)).bind fun v => some (v, st)
  | .extract t i => match fr.ev t with
    | .tup l => l[i]?.bind fun v => some (v, st)
    | _ => none
  | .call c => match c.callee with
    | .builtin b => evBuiltin P b c.argTypes.toList (c.args.toList.map fr.ev) st
    | .value g => evExt P (fr.ev g) (c.args.toList.map fr.ev) st
    | _ => none
  | .makeMap _ r => evMakeMap st (r.map fr.ev)
  | .lookup t m k ok => (evLookup P t (fr.ev m) (fr.ev k) ok st).bind fun v => some (v, st)
  | .mapUpdate t m k v => (evMapUpdate P t (fr.ev m) (fr.ev k) (fr.ev v) st).bind fun s => some (.any, s)
  | .insert t m k v => (evMapUpdate P t (fr.ev m) (fr.ev k) (fr.ev v) st).bind fun s => some (.any, s)
  | .range t x => evRange P t (fr.ev x) st
  | .next x true => evNextS (fr.ev x) st
  | .entry x => (evEntry (fr.ev x) st).bind fun v => some (v, st)
  | _ => none

def OpOk (P : Program) (N : Nat) (o : Oper) (fr : Fr) (st : St) (v : AV) (st' : St) : Prop :=
  ∀ (ρ : Loc.Map) (w : World) (a : Act), Rel ρ st w → FrameRel ρ N fr a.tmps → ∃ c w' ρ', ((execOp a.eval o).run P w = .ok (.value c) w' ∨ (c = undef ∧ (execOp a.eval o).run P w = .ok .skip w')) ∧ Rel ρ' st' w' ∧ RV ρ' v c ∧ Step st.n ρ st w ρ' st' w'

theorem RVs.map {ρ : Loc.Map} {fr : Fr} {f : Operand → Value} (h : ∀ x, RV ρ (fr.ev x) (f x)) : ∀ (l : List Operand), RVs ρ (l.map fr.ev) (l.map f)
  | [] => rfl
  | x :: l => ⟨_, _, rfl, h x, RVs.map h l⟩
theorem RPs.map {ρ : Loc.Map} {fr : Fr} {f : Operand → Value} (h : ∀ x, RV ρ (fr.ev x) (f x)) : ∀ (l : List (Nat × Operand)), RPs ρ (l.map fun p => (p.1, fr.ev p.2)) (l.map fun p => (p.1, f p.2))
  | [] => rfl
  | x :: l => ⟨_, _, rfl, h _, RPs.map h l⟩
theorem ROv.map {ρ : Loc.Map} {fr : Fr} {f : Operand → Value} (h : ∀ x, RV ρ (fr.ev x) (f x)) : ∀ (o : Option Operand), ROv ρ (o.map fr.ev) (o.map f)
  | none => rfl
  | some x => ⟨_, rfl, h x⟩

theorem run_v {P : Program} {s : Sem Value} {w w' : World} {c : Value} (h : s.run P w = .ok c w') : (do let x ← s; pure (Next.value x) : Sem Next).run P w = .ok (.value c) w' := by
  simp only [Sem.run_bind, h, Result.andThen_ok, Sem.run_pure]

theorem evBuiltin_ok {P : Program} {b : Builtin} {ts : Array TypeId} {xs : List AV} {st st' : St} {v : AV} (h : evBuiltin P b ts.toList xs st = some (v, st')) {ρ : Loc.Map} {w : World} {cs : List Value} (hr : Rel ρ st w) (hx : RVs ρ xs cs) (ty : TypeId) (consts : Array Bool) :
    ∃ c w' ρ', (builtin b ts ty consts ⟨cs⟩).run P w = .ok (.value c) w' ∧ Rel ρ' st' w' ∧ RV ρ' v c ∧ Step st.n ρ st w ρ' st' w' := by
  unfold evBuiltin at h
  split at h
  · rename_i t r x hts
    obtain ⟨c, _, rfl, hc, rfl⟩ := hx
    split at h
    · rename_i v' hv
      simp at h; obtain ⟨rfl, rfl⟩ := h
      obtain ⟨r, hrun, hrv⟩ := evLen_ok hv hc ts ty w (by rw [← Array.getElem?_toList, hts]; rfl)
      exact ⟨r, w, ρ, run_v hrun, hr, hrv, .refl ..⟩
    · simp only [Option.bind_eq_some_iff] at h
      obtain ⟨v', hv, h⟩ := h
      simp at h; obtain ⟨rfl, rfl⟩ := h
      obtain ⟨r, hrun, hrv⟩ := evLenM_ok hv hr hc ts ty (by rw [← Array.getElem?_toList, hts]; rfl)
      exact ⟨r, w, ρ, run_v hrun, hr, hrv, .refl ..⟩
  · rename_i t r x hts
    simp only [Option.bind_eq_some_iff] at h
    obtain ⟨v', hv, h⟩ := h
    simp at h; obtain ⟨rfl, rfl⟩ := h
    obtain ⟨c, _, rfl, hc, rfl⟩ := hx
    obtain ⟨r, hrun, hrv⟩ := evCap_ok hv hc ts ty w (by rw [← Array.getElem?_toList, hts]; rfl)
    exact ⟨r, w, ρ, run_v hrun, hr, hrv, .refl ..⟩
  · simp only [Option.bind_eq_some_iff] at h
    obtain ⟨v', hv, h⟩ := h
    simp at h; obtain ⟨rfl, rfl⟩ := h
    obtain ⟨r, hrun, hrv⟩ := evMin_ok hv hx ts ty w
    exact ⟨r, w, ρ, run_v hrun, hr, hrv, .refl ..⟩
  · simp only [Option.bind_eq_some_iff] at h
    obtain ⟨v', hv, h⟩ := h
    simp at h; obtain ⟨rfl, rfl⟩ := h
    obtain ⟨r, hrun, hrv⟩ := evMax_ok hv hx ts ty w
    exact ⟨r, w, ρ, run_v hrun, hr, hrv, .refl ..⟩
  · obtain ⟨c, _, rfl, hc, d, _, rfl, hd, rfl⟩ := hx
    obtain ⟨r, w', ρ', hrun, h1, h2, h3⟩ := evAppend_ok h hr hc hd ty
    exact ⟨r, w', ρ', run_v hrun, h1, h2, h3⟩
  · rename_i t r x hts
    obtain ⟨c, _, rfl, hc, rfl⟩ := hx
    obtain ⟨r, w', hrun, h1, h2, h3⟩ := evClear_ok h hr hc ts ty (by rw [← Array.getElem?_toList, hts]; rfl)
    exact ⟨r, w', ρ, run_v hrun, h1, h2, h3⟩
  · rename_i t r m k hts
    simp only [Option.bind_eq_some_iff] at h
    obtain ⟨s, hs, h⟩ := h
    simp at h; obtain ⟨rfl, rfl⟩ := h
    obtain ⟨c, _, rfl, hc, d, _, rfl, hd, rfl⟩ := hx
    obtain ⟨w', hrun, h1, h2⟩ := evDelete_ok hs hr hc hd ts ty (by rw [← Array.getElem?_toList, hts]; rfl)
    exact ⟨.tuple #[], w', ρ, run_v hrun, h1, ⟨[], rfl, rfl⟩, h2⟩
  · cases h

theorem evOp_ok {P : Program} {N : Nat} {o : Oper} {fr : Fr} {st st' : St} {v : AV} (h : evOp P o.op fr st = some (v, st')) : OpOk P N o fr st v st' := by
  intro ρ w a hr hf
  have he := fun x => hf.ev x
  unfold evOp at h
  split at h <;> rename_i hop
  case h_1 => simp at h; obtain ⟨rfl, rfl⟩ := h; exact ⟨_, w, ρ, .inl (by simp [execOp, hop]), hr, he _, .refl ..⟩
  case h_2 => simp at h; obtain ⟨rfl, rfl⟩ := h; exact ⟨_, w, ρ, .inl (by simp [execOp, hop]), hr, he _, .refl ..⟩
  case h_3 c x y =>
    split at h
    · rename_i t hc
      simp at h; obtain ⟨rfl, rfl⟩ := h
      have hcv := he c
      rw [hc] at hcv
      simp only [RV] at hcv
      exact ⟨_, w, ρ, .inl (by simp only [execOp, hop, hcv, asBool, Sem.run_bind, Sem.run_pure, Result.andThen_ok]), hr, RV.pick (he x) (he y), .refl ..⟩
    · cases h
  case h_4 e =>
    obtain ⟨c, w', ρ', hrun, h1, h2, h3⟩ := evAlloc_ok h hr
    exact ⟨c, w', ρ', .inl (by simp only [execOp, hop]; exact run_v hrun), h1, h2, h3⟩
  case h_5 e x =>
    obtain ⟨c, w', ρ', hrun, h1, h2, h3⟩ := evBox_ok (P := P) (e := e) h hr (he x)
    exact ⟨c, w', ρ', .inl (by simp only [execOp, hop]; exact run_v hrun), h1, h2, h3⟩
  case h_6 t ps =>
    simp only [Option.bind_eq_some_iff] at h
    obtain ⟨v', hv, h⟩ := h
    simp at h; obtain ⟨rfl, rfl⟩ := h
    have hp : RPs ρ (ps.toList.map fun p => (p.1, fr.ev p.2)) ((ps.map fun (i, x) => (i, a.eval x)).toList) := by
      rw [Array.toList_map]; exact RPs.map he _
    obtain ⟨c, hrun, hc⟩ := evBuild_ok hv hp w
    exact ⟨c, w, ρ, .inl (by simp only [execOp, hop]; exact run_v hrun), hr, hc, .refl ..⟩
  case h_7 t n ps =>
    have hp : RPs ρ (ps.toList.map fun p => (p.1, fr.ev p.2)) ((ps.map fun (i, x) => (i, a.eval x)).toList) := by
      rw [Array.toList_map]; exact RPs.map he _
    obtain ⟨c, w', ρ', hrun, h1, h2, h3⟩ := evBuildSlice_ok h hr hp
    exact ⟨c, w', ρ', .inl (by simp only [execOp, hop]; exact run_v hrun), h1, h2, h3⟩
  case h_8 t x =>
    simp only [Option.bind_eq_some_iff] at h
    obtain ⟨v', hv, h⟩ := h
    simp at h; obtain ⟨rfl, rfl⟩ := h
    obtain ⟨c, hrun, hc⟩ := evLoad_ok (P := P) hv hr (he x)
    exact ⟨c, w, ρ, .inl (by simp only [execOp, hop]; exact run_v hrun), hr, hc, .refl ..⟩
  case h_9 t p x =>
    simp only [Option.bind_eq_some_iff] at h
    obtain ⟨s, hs, h⟩ := h
    simp at h; obtain ⟨rfl, rfl⟩ := h
    obtain ⟨w', hrun, h1, h2⟩ := evStore_ok (P := P) hs hr (he p) (he x)
    exact ⟨undef, w', ρ, .inr ⟨rfl, by simp only [execOp, hop, Sem.run_bind, hrun, Result.andThen_ok, Sem.run_pure]⟩, h1, trivial, h2⟩
  case h_10 x =>
    split at h
    · rename_i b off hx
      simp at h; obtain ⟨rfl, rfl⟩ := h
      have hcv := he x
      rw [hx] at hcv
      have hcv' := hcv
      obtain ⟨l, hl, hcv⟩ := hcv
      exact ⟨a.eval x, w, ρ, .inl (by simp only [execOp, hop, hcv, Sem.run_pure]), hr, hcv', .refl ..⟩
    · rename_i f fi ca hx
      simp at h; obtain ⟨rfl, rfl⟩ := h
      have hcv := he x
      rw [hx] at hcv
      have hcv' := hcv
      obtain ⟨_, _, hcv, _⟩ := hcv
      exact ⟨a.eval x, w, ρ, .inl (by simp only [execOp, hop, hcv, Sem.run_pure]), hr, hcv', .refl ..⟩
    · cases h
  case h_11 op t x y yt =>
    simp only [Option.bind_eq_some_iff] at h
    obtain ⟨v', hv, h⟩ := h
    simp at h; obtain ⟨rfl, rfl⟩ := h
    obtain ⟨c, hrun, hc⟩ := evBin_ok (P := P) hv (he x) (he y) x y w
    exact ⟨c, w, ρ, .inl (by simp only [execOp, hop]; exact run_v hrun), hr, hc, .refl ..⟩
  case h_12 op t x =>
    simp only [Option.bind_eq_some_iff] at h
    obtain ⟨v', hv, h⟩ := h
    simp at h; obtain ⟨rfl, rfl⟩ := h
    obtain ⟨c, hrun, hc⟩ := evUn_ok (P := P) hv (he x) w
    exact ⟨c, w, ρ, .inl (by simp only [execOp, hop]; exact run_v hrun), hr, hc, .refl ..⟩
  case h_13 s d x =>
    obtain ⟨c, w', ρ', hrun, h1, h2, h3⟩ := evConvert_ok (P := P) h hr (he x)
    exact ⟨c, w', ρ', .inl (by simp only [execOp, hop]; exact run_v hrun), h1, h2, h3⟩
  case h_14 f x y =>
    simp at h; obtain ⟨rfl, rfl⟩ := h
    refine ⟨.func f (x.map a.eval) (y.map a.eval), w, ρ, .inl (by simp only [execOp, hop]; exact run_v rfl), hr, ⟨(x.map a.eval).toList, (y.map a.eval).toList, rfl, ?_, ?_⟩, .refl ..⟩
    · rw [Array.toList_map]; exact RVs.map he _
    · rw [Array.toList_map]; exact RVs.map he _
  case h_15 t l c =>
    obtain ⟨c, w', ρ', hrun, h1, h2, h3⟩ := evMakeSlice_ok (P := P) h hr (he l) (he c)
    exact ⟨c, w', ρ', .inl (by simp only [execOp, hop]; exact run_v hrun), h1, h2, h3⟩
  case h_16 t x lo hi mx =>
    simp only [Option.bind_eq_some_iff] at h
    obtain ⟨v', hv, h⟩ := h
    simp at h; obtain ⟨rfl, rfl⟩ := h
    obtain ⟨c, hrun, hc⟩ := evSlice_ok (P := P) hv (he x) (ROv.map he lo) (ROv.map he hi) (ROv.map he mx) w
    exact ⟨c, w, ρ, .inl (by simp only [execOp, hop]; exact run_v hrun), hr, hc, .refl ..⟩
  case h_17 t x f =>
    simp only [Option.bind_eq_some_iff] at h
    obtain ⟨v', hv, h⟩ := h
    simp at h; obtain ⟨rfl, rfl⟩ := h
    obtain ⟨c, hrun, hc⟩ := evFieldAddr_ok (P := P) hv (he x) w
    exact ⟨c, w, ρ, .inl (by simp only [execOp, hop]; exact run_v hrun), hr, hc, .refl ..⟩
  case h_18 t x f =>
    simp only [Option.bind_eq_some_iff] at h
    obtain ⟨v', hv, h⟩ := h
    simp at h; obtain ⟨rfl, rfl⟩ := h
    obtain ⟨c, hrun, hc⟩ := evField_ok (P := P) hv (he x) w
    exact ⟨c, w, ρ, .inl (by simp only [execOp, hop]; exact run_v hrun), hr, hc, .refl ..⟩
  case h_19 t x i =>
    simp only [Option.bind_eq_some_iff] at h
    obtain ⟨v', hv, h⟩ := h
    simp at h; obtain ⟨rfl, rfl⟩ := h
    obtain ⟨c, hrun, hc⟩ := evIndexAddr_ok (P := P) hv (he x) (he i) w
    exact ⟨c, w, ρ, .inl (by simp only [execOp, hop]; exact run_v hrun), hr, hc, .refl ..⟩
  case h_20 t x i =>
    simp only [Option.bind_eq_some_iff] at h
    obtain ⟨v', hv, h⟩ := h
    simp at h; obtain ⟨rfl, rfl⟩ := h
    obtain ⟨c, hrun, hc⟩ := evIndex_ok (P := P) hv (he x) (he i) w
    exact ⟨c, w, ρ, .inl (by simp only [execOp, hop]; exact run_v hrun), hr, hc, .refl ..⟩
  case h_21 t i =>
    split at h
    · rename_i l hx
      simp only [Option.bind_eq_some_iff] at h
      obtain ⟨v', hv, h⟩ := h
      simp at h; obtain ⟨rfl, rfl⟩ := h
      have hcv := he t
      rw [hx] at hcv
      obtain ⟨cs, hcv, hcs⟩ := hcv
      obtain ⟨c, hc, hrv⟩ := RVs.get hcs hv
      refine ⟨c, w, ρ, .inl ?_, hr, hrv, .refl ..⟩
      simp only [execOp, hop, hcv]
      refine run_v ?_
      simp [Instr.extract, hc]
    · cases h
  case h_22 c =>
    split at h
    · rename_i b hb
      have hx : RVs ρ (c.args.toList.map fr.ev) ((c.args.map a.eval).toList) := by rw [Array.toList_map]; exact RVs.map he _
      obtain ⟨r, w', ρ', hrun, h1, h2, h3⟩ := evBuiltin_ok (P := P) h hr hx o.type (c.args.map fun | .const _ => true | _ => false)
      exact ⟨r, w', ρ', .inl (by simp only [execOp, hop, resolve, hb, Sem.run_bind, Sem.run_pure, Result.andThen_ok, invoke]; exact hrun), h1, h2, h3⟩
    · rename_i g hb
      have hx : RVs ρ (c.args.toList.map fr.ev) ((c.args.map a.eval).toList) := by rw [Array.toList_map]; exact RVs.map he _
      obtain ⟨r, f, cap, hgv, hcap, hrun, rfl, hrv⟩ := evExt_ok (P := P) (w := w) h (he g) hx
      subst hcap
      refine ⟨r, w, ρ, .inl ?_, hr, hrv, .refl ..⟩
      simp only [execOp, hop, resolve, hb, hgv, Deferred.ofValue, Sem.run_bind, Sem.run_pure, Result.andThen_ok, invoke]
      have h2 := hrun
      rw [show (⟨(c.args.map a.eval).toList⟩ : Array Value) = c.args.map a.eval from rfl] at h2
      simpa using h2
    · cases h
  case h_23 t r =>
    obtain ⟨c, w', ρ', hrun, h1, h2, h3⟩ := evMakeMap_ok (P := P) h hr t (ROv.map he r)
    exact ⟨c, w', ρ', .inl (by simp only [execOp, hop]; exact run_v hrun), h1, h2, h3⟩
  case h_24 t m k ok =>
    simp only [Option.bind_eq_some_iff] at h
    obtain ⟨v', hv, h⟩ := h
    simp at h; obtain ⟨rfl, rfl⟩ := h
    obtain ⟨c, hrun, hc⟩ := evLookup_ok hv hr (he m) (he k)
    exact ⟨c, w, ρ, .inl (by simp only [execOp, hop]; exact run_v hrun), hr, hc, .refl ..⟩
  case h_25 t m k x =>
    simp only [Option.bind_eq_some_iff] at h
    obtain ⟨s, hs, h⟩ := h
    simp at h; obtain ⟨rfl, rfl⟩ := h
    obtain ⟨w', hrun, h1, h2⟩ := evMapUpdate_ok hs hr (he m) (he k) (he x)
    exact ⟨undef, w', ρ, .inr ⟨rfl, by simp only [execOp, hop, Sem.run_bind, hrun, Result.andThen_ok, Sem.run_pure]⟩, h1, trivial, h2⟩
  case h_26 t m k x =>
    simp only [Option.bind_eq_some_iff] at h
    obtain ⟨s, hs, h⟩ := h
    simp at h; obtain ⟨rfl, rfl⟩ := h
    obtain ⟨w', hrun, h1, h2⟩ := evMapUpdate_ok hs hr (he m) (he k) (he x)
    exact ⟨undef, w', ρ, .inr ⟨rfl, by simp only [execOp, hop, Sem.run_bind, hrun, Result.andThen_ok, Sem.run_pure]⟩, h1, trivial, h2⟩
  case h_27 t x =>
    obtain ⟨c, w', ρ', hrun, h1, h2, h3⟩ := evRange_ok h hr (he x)
    exact ⟨c, w', ρ', .inl (by simp only [execOp, hop]; exact run_v hrun), h1, h2, h3⟩
  case h_28 x =>
    obtain ⟨c, w', hrun, h1, h2, h3⟩ := evNextS_ok h hr (he x) o.type
    exact ⟨c, w', ρ, .inl (by simp only [execOp, hop]; exact run_v hrun), h1, h2, h3⟩
  case h_29 x =>
    simp only [Option.bind_eq_some_iff] at h
    obtain ⟨v', hv, h⟩ := h
    simp at h; obtain ⟨rfl, rfl⟩ := h
    obtain ⟨c, hrun, hc⟩ := evEntry_ok (P := P) hv hr (he x)
    exact ⟨c, w, ρ, .inl (by simp only [execOp, hop]; exact run_v hrun), hr, hc, .refl ..⟩
  case h_30 => cases h

/-! ### Regions -/
def wantedA (ops : List Oper) (fr : Fr) (o : Oper) : Option Bool := match o.guard with
  | none => some true
  | some (j, want) => (ops[j]?.bind (·.dst)).bind fun d => match Fr.get fr d with
    | .bool b => some (b == want)
    | .tup [] => some false
    | _ => none
theorem wantedA_ok {ops : Array Oper} {fr : Fr} {o : Oper} {q : Bool} (h : wantedA ops.toList fr o = some q) {ρ : Loc.Map} {N : Nat} {tmps : Array Value} (hf : FrameRel ρ N fr tmps) : Region.wanted o (yielded ops tmps) = q := by
  unfold wantedA at h
  split at h
  · rename_i hg; simp at h; subst h; simp [Region.wanted, hg]
  · rename_i j want hg
    simp only [Option.bind_eq_some_iff] at h
    obtain ⟨d, ⟨oj, hoj, hd⟩, h⟩ := h
    split at h
    · rename_i b hb
      simp at h; subst h
      have hv := hf.2 d
      rw [hb] at hv
      simp only [RV] at hv
      have hlt : d < tmps.size := by
        rcases Nat.lt_or_ge d tmps.size with h | h
        · exact h
        · simp [Array.getElem?_eq_none h, undef] at hv
      have hget : tmps[d]? = some (.bool b) := by simpa [hlt] using hv
      rw [Array.getElem?_toList] at hoj
      simp only [Region.wanted, hg, yielded, hoj, Option.bind_some, hd, hget]
      cases b <;> cases want <;> rfl
    · rename_i hb
      simp at h; subst h
      have hv := hf.2 d
      rw [hb] at hv
      obtain ⟨cs, hv, hcs⟩ := hv
      simp only [RVs] at hcs; subst hcs
      rw [Array.getElem?_toList] at hoj
      simp only [Region.wanted, hg, yielded, hoj, Option.bind_some, hd]
      rw [Array.getD_eq_getD_getElem?] at hv
      cases hget : tmps[d]? with
      | none => rfl
      | some x =>
        rw [hget] at hv
        simp only [Option.getD_some] at hv
        subst hv; rfl
    · cases h

def dstOk (N : Nat) : Option Nat → Bool
  | none => true
  | some d => decide (d < N)
theorem dstOk_spec {N : Nat} {d : Option Nat} (h : dstOk N d = true) : ∀ t, d = some t → t < N := fun t e => by
  subst e; simpa [dstOk] using h

noncomputable def evStep (P : Program) (N : Nat) (ops : List Oper) (o : Oper) (fr : Fr) (st : St) : Option (Fr × St) :=
  (wantedA ops fr o).bind fun q => if dstOk N o.dst then (if q then (evOp P o.op fr st).bind fun r => some (fr.put o.dst r.1, r.2) else some (fr.put o.dst (.tup []), st)) else none

noncomputable def evSeg (P : Program) (N : Nat) (ops : List Oper) : List Oper → Fr → St → List Oper × Fr × St
  | [], fr, st => ([], fr, st)
  | o :: r, fr, st => match evStep P N ops o fr st with
    | some p => evSeg P N ops r p.1 p.2
    | none => (o :: r, fr, st)
theorem evSeg_nil {P : Program} {N : Nat} {ops : List Oper} {fr : Fr} {st : St} : evSeg P N ops [] fr st = ([], fr, st) := rfl
theorem evSeg_cons {P : Program} {N : Nat} {ops : List Oper} {o : Oper} {r : List Oper} {fr : Fr} {st : St} : evSeg P N ops (o :: r) fr st = match evStep P N ops o fr st with
    | some p => evSeg P N ops r p.1 p.2
    | none => (o :: r, fr, st) := rfl

def AOps (P : Program) (N n0 : Nat) (ops : Array Oper) (l : List Oper) (Q : Post) (fr : Fr) (st : St) : Prop :=
  ∀ (ρ : Loc.Map) (w : World) (a : Act), n0 ≤ ρ.length → Rel ρ st w → FrameRel ρ N fr a.tmps → a.defers = [] → wpList P ops (CPost N n0 Q ρ st w) l a w

section
variable {P : Program} {N n0 : Nat} {Q : Post} {fr : Fr} {st : St} {ops : Array Oper}

theorem wpList_mono {l : List Oper} {Q Q' : Exit → Act → World → Prop} (hq : ∀ e a w, Q e a w → Q' e a w) : ∀ {a : Act} {w : World}, wpList P ops Q l a w → wpList P ops Q' l a w := by
  induction l with
  | nil => exact fun h => hq _ _ _ h
  | cons o l ih =>
    intro a w h
    unfold wpList at h ⊢
    split
    · rename_i hw
      rw [if_pos hw] at h
      rcases h with h | ⟨h1, a0, w0, h2⟩
      · refine .inl ?_
        unfold Oper.wp at *
        generalize (execOp a.eval o).run P w = r at *
        cases r with
        | ok n w' =>
          cases n <;> simp only [Oper.upon] at h ⊢ <;>
            first
              | exact ih h
              | exact Calls.mono h (fun e w'' he => by cases e <;> first | exact ih he | exact hq _ _ _ he | exact let ⟨a, w, hh⟩ := he; ⟨a, w, hq _ _ _ hh⟩)
              | exact Rows.mono h (fun _ _ he => ih he)
        | halt x w' => cases x <;> simp only [Oper.upon] at h ⊢ <;> first | exact h | exact hq _ _ _ h
      · exact .inr ⟨h1, a0, w0, hq _ _ _ h2⟩
    · rename_i hw
      rw [if_neg hw] at h
      exact ih h

theorem ACode.region {id : Nat} (h : AOps P N n0 ops ops.toList Q fr st) : ACode P N n0 (.region id ops false) Q fr st :=
  fun ρ w a hn hr hf hd => wp_region_list (h ρ w a hn hr hf hd)

theorem AOps.nil (h : Q .normal fr st) : AOps P N n0 ops [] Q fr st := fun ρ w a _ hr hf hd => ⟨fr, st, ρ, h, hr, hf, hd, .refl ..⟩

theorem Rel.n_le {ρ ρ' : Loc.Map} {st st' : St} {w w' : World} (h : Rel ρ st w) (h' : Rel ρ' st' w') (hs : Step st.n ρ st w ρ' st' w') : Sup ρ ρ' := by
  have := hs.ext
  rw [← h.len] at this
  exact this.sup

theorem AOps.one {o : Oper} {rest : List Oper} {p : Fr × St} (h : evStep P N ops.toList o fr st = some p) (k : AOps P N n0 ops rest Q p.1 p.2) : AOps P N n0 ops (o :: rest) Q fr st := by
  intro ρ w a hn hr hf hd
  unfold evStep at h
  simp only [Option.bind_eq_some_iff] at h
  obtain ⟨q, hq, h⟩ := h
  have hw := wantedA_ok hq hf
  split at h
  · rename_i hdst
    have hdst := dstOk_spec hdst
    unfold wpList
    rw [hw]
    cases q with
    | true =>
      simp only [if_true, Option.bind_eq_some_iff] at h
      obtain ⟨r, hr1, h⟩ := h
      simp at h; subst h
      obtain ⟨c, w', ρ', hrun, h1, h2, h3⟩ := evOp_ok (N := N) (o := o) hr1 ρ w a hr hf
      have hsup := hr.n_le h1 h3
      have h3' := h3.le (n1 := n0) (by have := hr.len; omega)
      have hf' := (hf.sup hsup).put hdst h2
      simp only [if_true]
      refine .inl ?_
      unfold Oper.wp
      rcases hrun with hrun | ⟨rfl, hrun⟩
      · rw [hrun, Oper.upon_value]
        exact wpList_mono (fun _ _ _ hq => CPost.step h3' hq) (k ρ' w' _ (h3'.ext.len hn) h1 hf' (by cases o.dst <;> exact hd))
      · rw [hrun, Oper.upon_skip]
        exact wpList_mono (fun _ _ _ hq => CPost.step h3' hq) (k ρ' w' _ (h3'.ext.len hn) h1 hf' (by cases o.dst <;> exact hd))
    | false =>
      simp only [Bool.false_eq_true, if_false, Option.some.injEq] at h ⊢
      subst h
      exact k ρ w _ hn hr (hf.put hdst ⟨[], rfl, rfl⟩) (by cases o.dst <;> exact hd)
  · cases h

theorem AOps.seg {l l' : List Oper} {fr' : Fr} {st' : St} (h : evSeg P N ops.toList l fr st = (l', fr', st')) (k : AOps P N n0 ops l' Q fr' st') : AOps P N n0 ops l Q fr st := by
  induction l generalizing fr st with
  | nil => simp [evSeg] at h; obtain ⟨rfl, rfl, rfl⟩ := h; exact k
  | cons o r ih =>
    rw [evSeg_cons] at h
    split at h
    · rename_i p hp
      exact AOps.one hp (ih h)
    · simp at h; obtain ⟨rfl, rfl, rfl⟩ := h; exact k
end
end Gab
