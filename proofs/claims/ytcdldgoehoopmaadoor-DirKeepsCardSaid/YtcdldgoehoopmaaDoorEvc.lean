/- The operations of the model over the abstract memory, continued: conversions, builtins. -/
import Derived.Test.YtcdldgoehoopmaaDoorEvb
set_option linter.unusedSimpArgs false
set_option linter.unusedVariables false
namespace Gab
open Go

/-- A new block, some of whose places behind its end may be marked. -/
theorem Rel.allocF {ρ : Loc.Map} {st : St} {w : World} (h : Rel ρ st w) {cs : List AV} {ds : Array Value} (hc : ∀ (i : Nat) (v : AV), cs[i]? = some v → ∃ x, ds[i]? = some x ∧ RV ρ v x) (e : TypeId) (fz : Nat × Nat) (hfz : ∀ j, j < ds.size → ¬ (fz.1 ≤ j ∧ j < fz.2)) {w' : World} (hw : w'.heap = w.heap.push (.cells ds e fz)) (ho : w'.os = w.os) (ht : w'.tape = w.tape) (hp : w'.output = w.output) (hd : w.drawn ≤ w'.drawn) :
    Rel (ρ ++ [⟨w.heap.size, 0, ds.size⟩]) (st.push (.blk cs true)) w' ∧ Step st.n ρ st w (ρ ++ [⟨w.heap.size, 0, ds.size⟩]) (st.push (.blk cs true)) w' ∧ (ρ ++ [(⟨w.heap.size, 0, ds.size⟩ : Loc)])[st.n]? = some ⟨w.heap.size, 0, ds.size⟩ := by
  have hold : ∀ k, k < w.heap.size → w'.heap[k]? = w.heap[k]? := fun k hk => by rw [hw, Array.getElem?_push, if_neg (by omega)]
  have hnew : w'.heap[w.heap.size]? = some (.cells ds e fz) := by rw [hw, Array.getElem?_push, if_pos rfl]
  have hloc : (ρ ++ [(⟨w.heap.size, 0, ds.size⟩ : Loc)])[st.n]? = some ⟨w.heap.size, 0, ds.size⟩ := by rw [← h.len]; simp
  have hof : ∀ b o, (st.push (.blk cs true)).get b = some o → (b = st.n ∧ o = .blk cs true) ∨ (b < st.n ∧ st.get b = some o) := fun b o hb => by
    rw [St.push_get] at hb
    split at hb
    · exact .inl ⟨‹_›, by simpa using hb.symm⟩
    · exact .inr ⟨h.lt hb, hb⟩
  have hobj : ∀ b o, (st.push (.blk cs true)).get b = some o → ∃ l, (ρ ++ [(⟨w.heap.size, 0, ds.size⟩ : Loc)])[b]? = some l ∧ ObjRel (ρ ++ [⟨w.heap.size, 0, ds.size⟩]) o l w' := by
    intro b o hb
    rcases hof b o hb with ⟨rfl, rfl⟩ | ⟨hlt, hb⟩
    · refine ⟨_, hloc, _, _, _, hnew, rfl, fun i v hi => ?_, fun _ j hj => hfz j hj⟩
      obtain ⟨x, hx, hr⟩ := hc i v hi
      exact ⟨x, by simpa using hx, RV.sup (Sup.append _ _) _ _ hr⟩
    · obtain ⟨l, hl, hr⟩ := h.obj b o hb
      exact ⟨l, Sup.append _ _ _ _ hl, (hr.world (hold _ hr.lt)).sup (Sup.append _ _)⟩
  have hloc' : ∀ b o l, b < st.n → st.get b = some o → (ρ ++ [(⟨w.heap.size, 0, ds.size⟩ : Loc)])[b]? = some l → ρ[b]? = some l ∧ l.blk < w.heap.size := fun b o l hlt hb hl => by
    rw [List.getElem?_append_left (by have := h.len; omega)] at hl
    obtain ⟨l', hl', hr⟩ := h.obj b o hb
    rw [hl] at hl'; simp at hl'; subst hl'
    exact ⟨hl, hr.lt⟩
  refine gi3 h ⟨⟨by simp [St.push_n, h.len], hobj, ?_⟩, ⟨Ext.append _ _ (by have := h.len; omega), ho, ht, hp, hd, by rw [hw]; simp, fun k hk _ => hold k hk, ?_⟩, hloc⟩
  · intro b b' l l' o o' hne hb hrw hb' hl hl'
    rcases hof b o hb with ⟨rfl, rfl⟩ | ⟨hlt, hb⟩ <;> rcases hof b' o' hb' with ⟨rfl, rfl⟩ | ⟨hlt', hb'⟩
    · exact absurd rfl hne
    · rw [hloc] at hl; simp at hl; subst hl
      have := (hloc' b' o' l' hlt' hb' hl').2
      show w.heap.size ≠ l'.blk; omega
    · rw [hloc] at hl'; simp at hl'; subst hl'
      have := (hloc' b o l hlt hb hl).2
      show l.blk ≠ w.heap.size; omega
    · exact h.sep b b' l l' o o' hne hb hrw hb' (hloc' b o l hlt hb hl).1 (hloc' b' o' l' hlt' hb' hl').1
  · intro b o l hb hrw hl hlt
    rcases hof b o hb with ⟨rfl, rfl⟩ | ⟨hlt', hb⟩
    · rw [hloc] at hl; simp at hl; subst hl; exact absurd hlt (by show ¬ w.heap.size < w.heap.size; omega)
    · exact ⟨b, o, l, hb, hrw, (hloc' b o l hlt' hb hl).1, rfl⟩

/-- A block is given up. -/
theorem Rel.kill {ρ : Loc.Map} {st : St} {w : World} (h : Rel ρ st w) (b : Nat) : Rel ρ (st.kill b) w ∧ Step st.n ρ st w ρ (st.kill b) w := by
  have hof : ∀ i o, (st.kill b).get i = some o → st.get i = some o := fun i o hi => by
    rw [St.kill_get] at hi
    split at hi
    · cases hi
    · exact hi
  exact gi2 h ⟨⟨h.len, fun i o hi => h.obj i o (hof i o hi), fun i i' l l' o o' hne hi hrw hi' => h.sep i i' l l' o o' hne (hof _ _ hi) hrw (hof _ _ hi')⟩,
    ⟨.refl _ _, rfl, rfl, rfl, Nat.le_refl _, Nat.le_refl _, fun _ _ _ => rfl, fun i o l hi hrw hl _ => ⟨i, o, l, hof _ _ hi, hrw, hl, rfl⟩⟩⟩

/-- A block that takes another one's place: where it begins and what it holds is new, whose memory it is is not. -/
theorem Rel.move {ρ : Loc.Map} {st : St} {w : World} (h : Rel ρ st w) {b : Nat} {o : AObj} (hb : st.get b = some o) (hrw : o.rw = true) {l : Loc} (hl : ρ[b]? = some l) (off : Nat) {cs : List AV} {w' : World} (hoth : ∀ k, k ≠ l.blk → w'.heap[k]? = w.heap[k]?) (hsz : w'.heap.size = w.heap.size)
    (hos : w'.os = w.os) (ht : w'.tape = w.tape) (hp : w'.output = w.output) (hd : w.drawn ≤ w'.drawn) (ho : ObjRel ρ (.blk cs true) ⟨l.blk, l.base + off, l.size⟩ w') :
    Rel (ρ ++ [⟨l.blk, l.base + off, l.size⟩]) ((st.kill b).push (.blk cs true)) w' ∧ Step st.n ρ st w (ρ ++ [⟨l.blk, l.base + off, l.size⟩]) ((st.kill b).push (.blk cs true)) w' ∧ (ρ ++ [(⟨l.blk, l.base + off, l.size⟩ : Loc)])[st.n]? = some ⟨l.blk, l.base + off, l.size⟩ := by
  have hloc : (ρ ++ [(⟨l.blk, l.base + off, l.size⟩ : Loc)])[st.n]? = some ⟨l.blk, l.base + off, l.size⟩ := by rw [← h.len]; simp
  have hof : ∀ i x, ((st.kill b).push (.blk cs true)).get i = some x → (i = st.n ∧ x = .blk cs true) ∨ (i < st.n ∧ i ≠ b ∧ st.get i = some x) := fun i x hi => by
    rw [St.push_get, St.kill_n, St.kill_get] at hi
    split at hi
    · exact .inl ⟨‹_›, by simpa using hi.symm⟩
    · split at hi
      · cases hi
      · exact .inr ⟨h.lt hi, ‹_›, hi⟩
  have hold : ∀ i x l', i < st.n → st.get i = some x → (ρ ++ [(⟨l.blk, l.base + off, l.size⟩ : Loc)])[i]? = some l' → ρ[i]? = some l' := fun i x l' hi hx hl' => by
    rw [List.getElem?_append_left (by have := h.len; omega)] at hl'
    exact hl'
  refine gi3 h ⟨⟨by simp [St.push_n, St.kill_n, h.len], fun i x hi => ?_, fun i i' l1 l2 x x' hne hi hx hi' h1 h2 => ?_⟩, ⟨Ext.append _ _ (by have := h.len; omega), hos, ht, hp, hd, by omega, fun k hk hno => hoth k (Ne.symm (hno b o l hb hrw hl)), fun i x l1 hi hx h1 hlt => ?_⟩, hloc⟩
  · rcases hof i x hi with ⟨rfl, rfl⟩ | ⟨hlt, hne, hi⟩
    · exact ⟨_, hloc, ho.sup (Sup.append _ _)⟩
    · obtain ⟨l', hl', hr⟩ := h.obj i x hi
      exact ⟨l', Sup.append _ _ _ _ hl', (hr.world (hoth _ (Ne.symm (h.sep b i l l' o x (Ne.symm hne) hb hrw hi hl hl')))).sup (Sup.append _ _)⟩
  · rcases hof i x hi with ⟨rfl, rfl⟩ | ⟨hlt, hne1, hi1⟩ <;> rcases hof i' x' hi' with ⟨e1, rfl⟩ | ⟨hlt', hne2, hi2⟩
    · exact absurd e1.symm hne
    · rw [hloc] at h1; simp at h1; subst h1
      exact h.sep b i' l l2 o x' (Ne.symm hne2) hb hrw hi2 hl (hold i' x' l2 hlt' hi2 h2)
    · subst e1
      rw [hloc] at h2; simp at h2; subst h2
      exact fun e => h.sep b i l l1 o x (Ne.symm hne1) hb hrw hi1 hl (hold i x l1 hlt hi1 h1) e.symm
    · exact h.sep i i' l1 l2 x x' hne hi1 hx hi2 (hold i x l1 hlt hi1 h1) (hold i' x' l2 hlt' hi2 h2)
  · rcases hof i x hi with ⟨rfl, rfl⟩ | ⟨hlt', hne, hi⟩
    · rw [hloc] at h1; simp at h1; subst h1
      exact ⟨b, o, l, hb, hrw, hl, rfl⟩
    · exact ⟨i, x, l1, hi, hx, hold i x l1 hlt' hi h1, rfl⟩

/-! ### Conversions -/
def byteCells (l : List UInt8) : List AV := l.map fun b => .int .u8 b.toNat
def cellsBytes : List AV → Option (List UInt8)
  | [] => some []
  | .int .u8 n :: r => (cellsBytes r).bind fun l => some (UInt8.ofNat n.toNat :: l)
  | _ :: _ => none
theorem cellsBytes_byteCells : ∀ l, cellsBytes (byteCells l) = some l
  | [] => rfl
  | b :: l => by
    have := cellsBytes_byteCells l
    simp only [byteCells, List.map_cons, cellsBytes] at this ⊢
    simp [this]

def evConvert (P : Program) (src dst : TypeId) (x : AV) (st : St) : Option (AV × St) := (tinfo P src).bind fun si => (tinfo P dst).bind fun di => match di.k, x with
  | .int k, .int _ n => some (.int k (k.wrap n), st)
  | .str, .int _ n => some (.str (Utf8.encode n).data.toList, st)
  | .str, .str l => some (.str l, st)
  | .sl e, .str l => (tinfo P e).bind fun ei => match ei.k with
    | .int .u8 => some (.sl 1 st.n 0 l.length l.length false, st.push (.blk (byteCells l) true))
    | _ => none
  | .str, .sl sz b off len _ nl => match si.k with
    | .sl e => (tinfo P e).bind fun ei => match ei.k with
      | .int .u8 => if nl then some (.str [], st) else if len = 0 then some (.str [], st) else (rdBlk st b).bind fun cs => need (off + len ≤ cs.length) ((cellsBytes ((cs.drop off).take len)).bind fun l => some (.str l, st))
      | _ => none
    | _ => none
  | _, _ => none

theorem bytes_fold {ρ : Loc.Map} {P : Program} {w : World} {f : Value → ByteArray → Sem (ForInStep ByteArray)} (hf : ∀ n s, f (.int .u8 n) s = pure (.yield (s.push (UInt8.ofNat n.toNat)))) :
    ∀ {cs : List AV} {ds : List Value} {l : List UInt8} {s : ByteArray}, RVs ρ cs ds → cellsBytes cs = some l → (forIn (m := Sem) ds s f).run P w = .ok ⟨(s.data.toList ++ l).toArray⟩ w
  | [], ds, l, s, h, hl => by
    simp [RVs] at h; subst h
    simp [cellsBytes] at hl; subst hl
    simp
  | v :: cs, ds, l, s, h, hl => by
    obtain ⟨c, r, rfl, hv, hr⟩ := h
    unfold cellsBytes at hl
    split at hl
    · rename_i e; cases e
    · rename_i n r' e
      obtain ⟨rfl, rfl⟩ := List.cons.inj e
      simp only [Option.bind_eq_some_iff] at hl
      obtain ⟨l', hl', hl⟩ := hl
      simp at hl; subst hl
      simp only [RV] at hv; subst hv
      have ih := bytes_fold (P := P) (w := w) hf (s := s.push (UInt8.ofNat n.toNat)) hr hl'
      simp only [List.forIn_cons, hf, Sem.run_bind, Sem.run_pure, Result.andThen_ok]
      refine Eq.trans ih ?_
      congr 2
      apply Array.ext'
      show ((s.push (UInt8.ofNat n.toNat)).data.toList ++ l') = _
      have : (s.push (UInt8.ofNat n.toNat)).data = s.data.push (UInt8.ofNat n.toNat) := rfl
      rw [this]
      simp
    · cases hl

theorem evConvert_ok {P : Program} {src dst : TypeId} {x v : AV} {st st' : St} (h : evConvert P src dst x st = some (v, st')) {ρ : Loc.Map} {w : World} {c : Value} (hr : Rel ρ st w) (hx : RV ρ x c) :
    ∃ r w' ρ', (convert src dst c).run P w = .ok r w' ∧ Rel ρ' st' w' ∧ RV ρ' v r ∧ Step st.n ρ st w ρ' st' w' := by
  unfold evConvert at h
  simp only [Option.bind_eq_some_iff] at h
  obtain ⟨si, hsi, di, hdi, h⟩ := h
  obtain ⟨_, sd, _, hsd, hsk, _⟩ := tinfo_spec hsi
  obtain ⟨_, dd, _, hdd, hdk, _⟩ := tinfo_spec hdi
  split at h
  · rename_i k _ n hk
    have hd' := kd_int (hdk.trans hk); subst hd'
    simp at h; obtain ⟨rfl, rfl⟩ := h
    simp only [RV] at hx; subst hx
    refine ⟨_, w, ρ, ?_, hr, rfl, .refl ..⟩
    simp only [convert, Sem.run_bind, run_underlying hsd, run_underlying hdd, Result.andThen_ok]
    cases sd <;> rfl
  · rename_i _ n hk
    have hd' := kd_str (hdk.trans hk); subst hd'
    simp at h; obtain ⟨rfl, rfl⟩ := h
    simp only [RV] at hx; subst hx
    refine ⟨.string (Utf8.encode n), w, ρ, ?_, hr, ?_, .refl ..⟩
    · simp only [convert, Sem.run_bind, run_underlying hsd, run_underlying hdd, Result.andThen_ok]
      cases sd <;> rfl
    · rfl
  · rename_i l hk
    have hd' := kd_str (hdk.trans hk); subst hd'
    simp at h; obtain ⟨rfl, rfl⟩ := h
    simp only [RV] at hx; subst hx
    refine ⟨_, w, ρ, ?_, hr, rfl, .refl ..⟩
    simp only [convert, Sem.run_bind, run_underlying hsd, run_underlying hdd, Result.andThen_ok]
    cases sd <;> rfl
  · rename_i e l hk
    have hd' := kd_sl (hdk.trans hk); subst hd'
    simp only [Option.bind_eq_some_iff] at h
    obtain ⟨ei, hei, h⟩ := h
    obtain ⟨_, ed, _, hed, hek, _⟩ := tinfo_spec hei
    split at h
    · rename_i hk8
      have he' := kd_int (hek.trans hk8); subst he'
      simp at h; obtain ⟨rfl, rfl⟩ := h
      simp only [RV] at hx; subst hx
      have hge := grownCap_ge w l.length 0 e
      let ds : Array Value := (ByteArray.mk l.toArray).data.map (fun b => Value.int .u8 b.toNat) ++ Array.replicate (grownCap w l.length 0 e - l.length) (.int .u8 0)
      have hds : ds.size = grownCap w l.length 0 e := by simp [ds]; omega
      have hcells : ∀ (i : Nat) (v : AV), (byteCells l)[i]? = some v → ∃ x, ds[i]? = some x ∧ RV ρ v x := fun i v hi => by
        simp only [byteCells, List.getElem?_map, Option.map_eq_some_iff] at hi
        obtain ⟨b, hb, rfl⟩ := hi
        have hlt := (List.getElem?_eq_some_iff.1 hb).1
        refine ⟨.int .u8 b.toNat, ?_, rfl⟩
        simp only [ds]
        rw [Array.getElem?_append_left (by simpa using hlt)]
        simp [hb]
      let w1 : World := (w.drew.alloc (.cells ds e)).freeze ⟨w.heap.size, ds.size, none⟩ 1
      have hw1 : w1.heap = w.heap.push (.cells ds e (ds.size, ds.size + 1)) := by
        simp only [w1, World.freeze, World.alloc, World.drew]
        rw [if_neg (by omega)]
        apply Array.ext_getElem?
        intro i
        rw [Array.getElem?_modify]
        by_cases hi : w.heap.size = i
        · subst hi
          simp
        · rw [if_neg hi, Array.getElem?_push, if_neg (Ne.symm hi), Array.getElem?_push, if_neg (Ne.symm hi)]
      obtain ⟨h1, h2, h3⟩ := hr.allocF hcells e (ds.size, ds.size + 1) (fun j hj => by omega) (w' := w1) hw1 rfl rfl rfl (Nat.le_succ _)
      refine ⟨.slice (some ⟨w.heap.size, 0, none⟩) l.length (grownCap w l.length 0 e), w1, _, ?_, h1, ⟨_, _, rfl, hge, hge, by simp, fun _ => ⟨_, _, rfl, h3, .inr ⟨rfl, by show 0 + 0 + _ * 1 ≤ ds.size; omega⟩⟩⟩, h2⟩
      have hshape : (w.drew.alloc (.cells ds e)).shape? w.heap.size = some (e, ds.size) := by
        have : (w.drew.alloc (.cells ds e)).heap[w.heap.size]? = some (.cells ds e) := heap_alloc_new w.drew _
        unfold World.shape?; rw [this]
      have hconv : (Conv.stringToBytes e ⟨l.toArray⟩).run P w = .ok (.slice (some ⟨w.heap.size, 0, none⟩) l.length (grownCap w l.length 0 e)) w1 := by
        simp only [Conv.stringToBytes, Sem.run_bind, run_choose, mk_size, Question.forced, Bool.false_eq_true, if_false, Result.andThen_ok, newRow, run_newObj, Sem.run_pure, markStringish, run_shape]
        have hd : (({ w with drawn := w.drawn + 1 } : World)) = w.drew := rfl
        have hcap : (Question.appendCap l.length 0 e).cut (w.tape w.drawn (.appendCap l.length 0 e)) = grownCap w l.length 0 e := rfl
        rw [hcap]
        have ha : ({ w.drew with heap := w.drew.heap.push (.cells ds e) } : World) = w.drew.alloc (.cells ds e) := rfl
        show ((match (w.drew.alloc (.cells ds e)).shape? w.heap.size with | some (_, n) => freeze { block := w.heap.size, off := n } 1 | _ => pure ()).run P (w.drew.alloc (.cells ds e))).andThen _ = _
        rw [hshape]
        simp [w1]
      simp only [convert, Sem.run_bind, run_underlying hsd, run_underlying hdd, Result.andThen_ok]
      cases sd <;> simp only [Sem.run_bind, run_underlying hed, Result.andThen_ok, hconv]
    · cases h
  · rename_i sz b off len _ nl hk
    have hd' := kd_str (hdk.trans hk); subst hd'
    split at h
    · rename_i e hse
      have hs' := kd_sl (hsk.trans hse); subst hs'
      simp only [Option.bind_eq_some_iff] at h
      obtain ⟨ei, hei, h⟩ := h
      obtain ⟨_, ed, _, hed, hek, _⟩ := tinfo_spec hei
      split at h
      · rename_i hk8
        have he' := kd_int (hek.trans hk8); subst he'
        have hcv : ∀ A n k, (convert src dst (.slice A n k)).run P w = (Conv.bytesToString (.slice A n k)).run P w := fun A n k => by
          simp only [convert, Sem.run_bind, run_underlying hsd, run_underlying hdd, run_underlying hed, Result.andThen_ok]
        obtain ⟨a, cap, rfl, g1, g2, g3, g4⟩ := hx
        rw [hcv]
        have hempty : ∀ a, (Conv.bytesToString (.slice a 0 cap)).run P w = .ok (.string ⟨#[]⟩) w := fun a => by
          cases a with
          | none => rfl
          | some a => simp [Conv.bytesToString, loadCells, loadCellsFrom]; rfl
        split at h
        · rename_i hn
          obtain ⟨rfl, rfl⟩ := g3 hn
          simp at h; obtain ⟨rfl, rfl⟩ := h
          exact ⟨_, w, ρ, rfl, hr, rfl, .refl ..⟩
        · split at h
          · rename_i h0; subst h0
            simp at h; obtain ⟨rfl, rfl⟩ := h
            exact ⟨_, w, ρ, hempty a, hr, rfl, .refl ..⟩
          · rename_i hn h0
            simp only [Option.bind_eq_some_iff] at h
            obtain ⟨cs, hcs, h⟩ := h
            obtain ⟨hfit, h⟩ := need_some h
            simp only [Option.bind_eq_some_iff] at h
            obtain ⟨l, hl, h⟩ := h
            simp at h; obtain ⟨rfl, rfl⟩ := h
            obtain ⟨ad, lc, rfl, hlc, g5⟩ := g4 (by simpa using hn)
            rcases g5 with g5 | ⟨rfl, g6⟩
            · omega
            · have hload : loadN cs off len = some ((cs.drop off).take len) := by
                have : ∀ (n off : Nat), off + n ≤ cs.length → loadN cs off n = some ((cs.drop off).take n) := by
                  intro n
                  induction n with
                  | zero => intro off _; simp [loadN]
                  | succ n ih =>
                    intro off ho
                    rw [loadN, List.getElem?_eq_getElem (i := off) (by omega), Option.bind_some, ih (off + 1) (by omega), Option.bind_some, List.drop_eq_getElem_cons (i := off) (by omega), List.take_succ_cons]
                exact this len off hfit
              obtain ⟨ds, hrun, hds⟩ := load_cells (P := P) hr hcs hlc hload
              refine ⟨.string ⟨l.toArray⟩, w, ρ, ?_, hr, rfl, .refl ..⟩
              simp only [Conv.bytesToString, Sem.run_bind, hrun, Result.andThen_ok]
              rw [← Array.forIn_toList]
              refine Eq.trans (congrArg (fun r => Result.andThen r _) (bytes_fold (f := _) (fun _ _ => rfl) (s := ByteArray.empty) hds hl)) ?_
              rfl
      · cases h
    · cases h
  · cases h
end Gab
