/- Directories: the walk of grow, by hand. -/
import Derived.Test.YtcdldgoehoopmaaDoorTy
import Derived.Test.YtcdldgoehoopmaaDoorPl
import Derived.Test.YtcdldgoehoopmaaDoorHi
import Derived.Test.YtcdldgoehoopmaaDoorFpPre0
set_option linter.unusedSimpArgs false
set_option linter.unusedVariables false
set_option maxHeartbeats 4000000
set_option maxRecDepth 100000
namespace Gab
open Go Go.Proofs

def newMaps (H : Heap) (n : Nat) : Heap := {H with h26 := H.h26 ++ List.replicate n []}
def newNums (H : Heap) (n : Nat) : List Nat := (List.range n).map fun i => H.h26.length + 1 + i
theorem dir_buckets_eq (H : Heap) {n : Nat} (hn : n ≤ 1000000) : dir_buckets H (n : Int) = some (newMaps H n, newNums H n) := by
  unfold dir_buckets
  rw [ifS, if_pos ⟨by omega, by omega, by omega⟩]
  have key : ∀ (k : Nat) (s : Heap × (List Nat) × Int × Int), (∃ i, i + k = n ∧ s = (newMaps H i, newNums H i ++ List.replicate k 0, (n : Int), (i : Int))) →
      (∃ n' s', k = n' + 1 ∧ dir_buckets_l0 s.1 s.2.1 s.2.2.1 s.2.2.2 = some (.inl s') ∧ (∃ i, i + n' = n ∧ s' = (newMaps H i, newNums H i ++ List.replicate n' 0, (n : Int), (i : Int)))) ∨ ∃ e, dir_buckets_l0 s.1 s.2.1 s.2.2.1 s.2.2.2 = some (.inr e) ∧ e = (newMaps H n, newNums H n) := by
    rintro k _ ⟨i, hi, rfl⟩
    dsimp only
    unfold dir_buckets_l0
    cases k with
    | zero =>
      obtain rfl : i = n := by omega
      rw [if_neg (by omega)]
      exact .inr ⟨_, rfl, by simp⟩
    | succ k =>
      rw [if_pos (by omega)]
      refine .inl ⟨k, _, rfl, ?_, i + 1, by omega, rfl⟩
      have hl : (newNums H i).length = i := by simp [newNums]
      rw [rd_nat, List.getElem?_append_right (by omega), hl, Nat.sub_self]
      simp only [List.replicate_succ, List.getElem?_cons_zero, Option.bind_some]
      have e1 : wi64 ((i : Int) + 1) = ((i + 1 : Nat) : Int) := by rw [w64 (by omega) (by omega)]; rfl
      have e2 : (newNums H i ++ 0 :: List.replicate k 0).set (i : Int).toNat ((newMaps H i).h26.length + 1) = newNums H (i + 1) ++ List.replicate k 0 := by
        rw [Int.toNat_natCast, List.set_append_right _ _ (by omega), hl, Nat.sub_self, List.set_cons_zero]
        simp [newNums, newMaps, List.range_succ]; omega
      have e3 : ({newMaps H i with h26 := (newMaps H i).h26 ++ [[]]} : Heap) = newMaps H (i + 1) := by
        simp [newMaps, List.replicate_succ', List.append_assoc]
      rw [e1, e2, e3]
  obtain ⟨e, h1, h2⟩ := iter_of (step := fun (s : Heap × (List Nat) × Int × Int) => dir_buckets_l0 s.1 s.2.1 s.2.2.1 s.2.2.2) _ _ key (n := n) (d := n + 1) (s := (H, List.replicate n 0, (n : Int), 0)) ⟨0, by omega, by simp [newMaps, newNums]⟩ (by omega)
  simp only [Int.toNat_natCast, List.length_replicate, h1, h2, Option.bind_some]
theorem bucket_ro0 {B0 : Kn} {L : Own} {H : Heap} {Eh : Own} (hH : HR B0 H Eh) {a0 : Nat} {a1 : List UInt8} {v0_0 : AV} (g0_0 : HPt B0 66 v0_0 a0) {r : Nat} (h : dir_Dir_bucket H a0 a1 = some r) : ∀ st, Hp B0 (Eh ++ L) st → ASpec Tryd.prog 30 [v0_0, .str a1] st (CS B0 (Eh ++ L) fun v => ∃ w, v = w ∧ HMt B0 26 w r) := by
  unfold dir_Dir_bucket at h
  refine bodyA (A := []) (L := Eh ++ L) Tryd.func30 rfl (c := bodyOf Tryd.f30) rfl Tryd.ntmps30 (lb rfl) fun n0 => ?_
  have hB := KLe.refl B0
  have hH0 := hH
  refine WX.seq ?_
  refine WX.reg ?_
  refine WO.q (.as (v := .nilmap) rfl) rfl rfl ?_
  refine WO.nil ?_
  refine WX.seq ?_
  refine WX.drw (Plan.of [0, 1, 2, 3, 4, 7, 8, 9, 10, 11, 5, 6, 12, 13, 14, 15] .nil) _ mixed (by kernel_rfl) rfl (subE (pk_sub [])) ?_
  refine WP.q (i := 0) rfl (.mv (v := v0_0) rfl) rfl rfl rfl ?_
  obtain ⟨y1, hy1, h⟩ := Option.bind_eq_some_iff.1 h
  obtain ⟨b_y1, c_y1, e_y1, m_y1, r_y1, u_y1⟩ := hgetS (foc66 hH) g0_0 hy1
  subst e_y1
  obtain ⟨_, _, rfl, ⟨w2, rfl, hw2⟩, rfl⟩ := r_y1
  obtain ⟨_, _, _, _, _, rfl⟩ := hw2.isl
  refine WP.q (i := 1) rfl (.r fun _ => rfl) rfl rfl rfl ?_
  refine WP.q (i := 2) rfl (.fa (fa66_0 _ _)) rfl rfl rfl ?_
  refine WP.q (i := 3) rfl (.ldSm rfl (inM m_y1) rfl ti63 rfl) rfl rfl rfl ?_
  refine WP.q (i := 4) rfl (.mv (v := .str _) rfl) rfl rfl rfl ?_
  refine WP.q (i := 7) rfl (.mv (v := .ptr b_y1 0) rfl) rfl rfl rfl ?_
  refine WP.q (i := 8) rfl (.r fun _ => rfl) rfl rfl rfl ?_
  refine WP.q (i := 9) rfl (.fa (fa66_0 _ _)) rfl rfl rfl ?_
  refine WP.q (i := 10) rfl (.ldSm rfl (inM m_y1) rfl ti63 rfl) rfl rfl rfl ?_
  refine WP.q (i := 11) rfl (.len rfl rfl rfl (sl63.len hw2.isl)) (isQl rfl rfl ti63 rfl) rfl rfl ?_
  obtain ⟨y3, hy3, h⟩ := Option.bind_eq_some_iff.1 h
  refine WP.cS (i := 5) rfl rfl rfl (crc_Sum16_ok hy3) rfl rfl rfl ?_
  rintro _ rfl
  refine WP.q (i := 6) rfl (cvI ti27 ti3 rfl rfl) (isQc ti27 ti3 rfl) rfl rfl ?_
  obtain ⟨hk4, h⟩ := ifS_some h
  refine WP.q (i := 12) rfl (.bin (evrem hk4)) rfl rfl rfl ?_
  obtain ⟨y5, hy5, h⟩ := Option.bind_eq_some_iff.1 h
  obtain ⟨b_y5, o_y5, _, i_y5, p_y5, r_y5⟩ := hw2.at sl63 hy5 .i64
  obtain ⟨w6, rfl, hw6⟩ := r_y5
  refine WP.q (i := 13) rfl (.ia i_y5) rfl rfl rfl ?_
  refine WP.q (i := 14) rfl (.lp0 rfl p_y5 rfl ti26 rfl) rfl rfl rfl ?_
  refine WP.q (i := 15) rfl (.as (v := w6) rfl) rfl rfl rfl ?_
  refine WP.nil ?_
  obtain rfl := Option.some.inj h
  exact WX.ret (rs_ (rs_tmp rfl rs_nil)) fun st hp => ⟨(hp.pk [] (by decide)), _, rfl, hw6⟩
theorem bucket_ro {B0 : Kn} {L M : Own} {H : Heap} {E : Own} (hM : (E ++ L).Perm M) (hH : HR B0 H E) {a0 : Nat} {a1 : List UInt8} {v0_0 : AV} {r : Nat} (g0_0 : HPt B0 66 v0_0 a0) (h : dir_Dir_bucket H a0 a1 = some r) : ∀ st, Hp B0 M st → ASpec Tryd.prog 30 [v0_0, .str a1] st (CS B0 M fun v => HMt B0 26 v r) :=
  fun st hp => (bucket_ro0 hH g0_0 h st (hp.perm hM.symm)).mono fun v s ⟨h1, w, e, h2⟩ => ⟨h1.perm hM, e ▸ h2⟩
theorem perm_call' {A E L : Own} : (E ++ (A ++ L)).Perm (A ++ (E ++ L)) := by
  rw [← List.append_assoc, ← List.append_assoc]
  exact List.perm_append_comm.append_right _
theorem hobj_set {α : Type} {l : List α} {n : Nat} {x y : α} (h : hobj l n = some x) : hobj (hset l n y) n = some y := by
  obtain ⟨i, rfl, hi⟩ := hobj_some h
  simp [hobj, hset, (List.getElem?_eq_some_iff.1 hi).1]
theorem hobj_i {α : Type} {l : List α} {i : Nat} : hobj l (i + 1) = l[i]? := by simp [hobj]
theorem mapM_at {α β : Type} {f : α → Option β} : ∀ {l : List α} {r : List β}, l.mapM f = some r → r.length = l.length ∧ ∀ (i : Nat) (x : α), l[i]? = some x → ∃ y, r[i]? = some y ∧ f x = some y
  | [], r, h => by simp at h; subst h; exact ⟨rfl, by simp⟩
  | a :: l, r, h => by
    simp only [List.mapM_cons, Option.bind_eq_bind, Option.bind_eq_some_iff, Option.pure_def] at h
    obtain ⟨y, hy, ys, hys, h⟩ := h
    simp at h; subst h
    obtain ⟨h1, h2⟩ := mapM_at hys
    refine ⟨by simp [h1], fun i x hi => ?_⟩
    cases i with
    | zero => simp at hi; subst hi; exact ⟨y, rfl, hy⟩
    | succ i => simpa using h2 i x (by simpa using hi)
theorem hashN_lt {n : Nat} (hn : 0 < n) {k : List UInt8} (h0 : 0 ≤ hashN n k) : (hashN n k).toNat < n := by
  have : hashN n k < n := Int.tmod_lt_of_pos _ (by omega)
  omega
theorem grown_mid {H : Heap} {a0 : Nat} {d : List Nat × Int} {es : List (List UInt8 × Int)} {i : Nat} (hi : i < 2 * d.1.length) : hobj (grown H a0 d es).h26 (H.h26.length + 1 + i) = some (es.filter fun e => decide (hashN (2 * d.1.length) e.1 = (i : Int))) := by
  rw [show H.h26.length + 1 + i = (H.h26.length + i) + 1 by omega, hobj_i]
  show (H.h26 ++ _)[_]? = _
  rw [List.getElem?_append_right (by omega), show H.h26.length + i - H.h26.length = i by omega]
  simp [hi]
theorem grown_old {H : Heap} {a0 : Nat} {d : List Nat × Int} {es x : List (List UInt8 × Int)} {m : Nat} (h : hobj H.h26 m = some x) : hobj (grown H a0 d es).h26 m = some x := by
  obtain ⟨i, rfl, hi⟩ := hobj_some h
  rw [hobj_i]
  show (H.h26 ++ _)[_]? = _
  rw [List.getElem?_append_left (List.getElem?_eq_some_iff.1 hi).1, hi]
theorem grown_zero {H : Heap} {a0 : Nat} {d : List Nat × Int} : grown H a0 d [] = {newMaps H (2 * d.1.length) with h66 := hset H.h66 a0 (newNums H (2 * d.1.length), d.2)} := by
  unfold grown newMaps newNums
  congr 1
  congr 1
  simp [List.map_const']
theorem bucket_grown {H : Heap} {a0 : Nat} {d : List Nat × Int} {es : List (List UInt8 × Int)} {k : List UInt8} (hd : hobj H.h66 a0 = some d) (hn : 1 ≤ d.1.length) (hc : (crc_Sum16 k).isSome = true) (h0 : 0 ≤ hashN (2 * d.1.length) k) :
    dir_Dir_bucket (grown H a0 d es) a0 k = some (H.h26.length + 1 + (hashN (2 * d.1.length) k).toNat) := by
  have hlt := hashN_lt (n := 2 * d.1.length) (by omega) h0
  obtain ⟨c, hc⟩ := Option.isSome_iff_exists.1 hc
  unfold dir_Dir_bucket
  have e1 : hobj (grown H a0 d es).h66 a0 = some ((List.range (2 * d.1.length)).map (fun i => H.h26.length + 1 + i), d.2) := hobj_set hd
  rw [e1, Option.bind_some, hc, Option.bind_some, ifS, if_pos (by rw [List.length_map, List.length_range]; omega)]
  have e2 : Int.tmod (wi64 c) ((List.map (fun i => H.h26.length + 1 + i) (List.range (2 * d.1.length))).length : Int) = hashN (2 * d.1.length) k := by unfold hashN; rw [hc, Option.getD_some]; simp
  simp only [e2]
  obtain ⟨m, hm⟩ := Int.eq_ofNat_of_zero_le h0
  rw [hm] at hlt ⊢
  simp only [Int.ofNat_eq_natCast, Int.toNat_natCast] at hlt ⊢
  rw [rd_nat, List.getElem?_map, List.getElem?_range hlt]
  rfl
theorem mput_new {x : List (List UInt8 × Int)} {k : List UInt8} {v : Int} (h : ∀ e ∈ x, e.1 ≠ k) : mput x k v = x ++ [(k, v)] := by
  induction x with
  | nil => rfl
  | cons a x ih =>
    unfold mput
    rw [if_neg (h a List.mem_cons_self), ih fun e he => h e (List.mem_cons_of_mem _ he)]; rfl
theorem grown_put {H : Heap} {a0 : Nat} {d : List Nat × Int} {es : List (List UInt8 × Int)} {p : List UInt8 × Int} (hn : 1 ≤ d.1.length) (h0 : 0 ≤ hashN (2 * d.1.length) p.1) (hk : ∀ e ∈ es, e.1 ≠ p.1) :
    ({grown H a0 d es with h26 := hset (grown H a0 d es).h26 (H.h26.length + 1 + (hashN (2 * d.1.length) p.1).toNat) (mput (es.filter fun e => decide (hashN (2 * d.1.length) e.1 = ((hashN (2 * d.1.length) p.1).toNat : Int))) p.1 p.2)} : Heap) = grown H a0 d (es ++ [p]) := by
  have hlt := hashN_lt (n := 2 * d.1.length) (by omega) h0
  obtain ⟨m, hm⟩ := Int.eq_ofNat_of_zero_le h0
  rw [mput_new fun e he => hk e (List.mem_filter.1 he).1]
  unfold grown hset
  rw [hm] at hlt ⊢
  simp only [Int.toNat_natCast, Int.ofNat_eq_natCast] at hlt ⊢
  congr 1
  rw [List.set_append_right _ _ (by omega), show H.h26.length + 1 + m - 1 - H.h26.length = m by omega]
  congr 1
  apply List.ext_getElem (by simp)
  intro i h1 h2
  simp at h1
  rw [List.getElem_set]
  by_cases hi : m = i
  · subst hi
    simp [hm]
  · rw [if_neg hi]
    simp [hm]
    omega
theorem HR.grown {B : Kn} {H : Heap} {a0 : Nat} {d : List Nat × Int} {es es' : List (List UInt8 × Int)} {E : Own} (h : HR B (grown H a0 d es) E) (hp : es.Perm es') : HR B (grown H a0 d es') E := by
  obtain ⟨F1, F2, rfl, s1, s2⟩ := h
  refine ⟨F1, F2, rfl, ⟨?_, ?_, fun i x hi => ?_⟩, s2⟩
  · rw [s1.len]; simp [Gab.grown]
  · rw [s1.ad]; simp [Gab.grown]
  · have hi' : (H.h26 ++ (List.range (2 * d.1.length)).map fun (i : Nat) => es'.filter fun e => decide (hashN (2 * d.1.length) e.1 = (i : Int)))[i]? = some x := hi
    rcases Nat.lt_or_ge i H.h26.length with hlt | hge
    · rw [List.getElem?_append_left hlt] at hi'
      exact s1.at_ i x (by show (H.h26 ++ _)[i]? = _; rw [List.getElem?_append_left hlt]; exact hi')
    · rw [List.getElem?_append_right hge, List.getElem?_map] at hi'
      obtain ⟨k, hk, rfl⟩ := Option.map_eq_some_iff.1 hi'
      obtain ⟨b, u, h1, h2, c, cc, h3, h4⟩ := s1.at_ i (es.filter fun e => decide (hashN (2 * d.1.length) e.1 = (k : Int))) (by show (H.h26 ++ _)[i]? = _; rw [List.getElem?_append_right hge, List.getElem?_map, hk]; rfl)
      exact ⟨b, u, h1, h2, c, cc, h3, h4.perm (hp.filter _)⟩
def dir_Dir_grow_P (B : Kn) (L : Own) (r : Heap) : AV → St → Prop := CH B L fun B' X E' v => v = .tup [] ∧ X = [] ∧ HR B' r E'
theorem dir_Dir_grow_ok {B0 : Kn} {L : Own} {H : Heap} {E : Own} (hH : HR B0 H E) {a0 : Nat} {v0_0 : AV} {r : Heap} (g0_0 : HPt B0 66 v0_0 a0) (h : dir_Dir_grow H a0 = some r) : ∀ st, Hp B0 (E ++ L) st → ASpec Tryd.prog 29 [v0_0] st (dir_Dir_grow_P B0 L r) := by
  unfold dir_Dir_grow at h
  obtain ⟨d, hd, h⟩ := Option.bind_eq_some_iff.1 h
  obtain ⟨ms, hms, h⟩ := Option.bind_eq_some_iff.1 h
  obtain ⟨hnd, h⟩ := ifS_some h
  obtain ⟨⟨hn1, hn2⟩, h⟩ := ifS_some h
  obtain ⟨hcrc, h⟩ := ifS_some h
  obtain rfl := Option.some.inj h
  obtain ⟨hmsl, hmsa⟩ := mapM_at hms
  refine bodyA (A := []) (L := E ++ L) Tryd.func29 rfl (c := bodyOf Tryd.f29) rfl Tryd.ntmps29 (lb rfl) fun n0 => ?_
  have hB := KLw.refl B0
  refine WX.seq ?_
  refine WX.reg ?_
  refine WO.q (.mv (v := v0_0) rfl) rfl rfl ?_
  obtain ⟨b_y1, c_y1, e_y1, m_y1, r_y1, u_y1⟩ := hgetS (foc66 hH) g0_0 hd
  subst e_y1
  obtain ⟨_, _, rfl, ⟨w2, rfl, hw2⟩, rfl⟩ := r_y1
  obtain ⟨_, _, _, _, _, rfl⟩ := hw2.isl
  refine WO.q (.r fun _ => rfl) rfl rfl ?_
  refine WO.q (.fa (fa66_0 _ _)) rfl rfl ?_
  refine WO.ql (.ldSm rfl (inE m_y1) rfl ti63 rfl) rfl rfl ?_
  refine WO.q (.as (v := .sl _ _ _ _ _ _) rfl) rfl rfl ?_
  refine WO.nil ?_
  refine WX.seq ?_
  refine WX.reg ?_
  refine WO.q (.mv (v := .ptr b_y1 0) rfl) rfl rfl ?_
  refine WO.q (.mv (v := .sl _ _ _ _ _ _) rfl) rfl rfl ?_
  refine WO.q (.len rfl rfl rfl (sl63.len hw2.isl)) rfl rfl ?_
  refine WO.q (.r fun _ => rfl) rfl rfl ?_
  have e2 : wi64 (2 * (d.1.length : Int)) = ((2 * d.1.length : Nat) : Int) := by rw [w64 (by omega) (by omega)]; omega
  have hbk := dir_buckets_eq H (n := 2 * d.1.length) (by omega)
  rw [← e2] at hbk
  refine WO.ch rfl rfl (dir_buckets_ok hH hbk) rfl rfl rfl ?_
  rintro _ B _ E hK ⟨w0, b0, nn0, c0, rfl, rfl, hH, h3⟩
  obtain ⟨_, _, _, _, _, rfl⟩ := h3.isl
  replace g0_0 := g0_0.upw hK
  replace hw2 := hw2.upw hK
  replace hB := hB.trans hK
  refine WO.q (.r fun _ => rfl) rfl rfl ?_
  refine WO.q (.fa (fa66_0 _ _)) rfl rfl ?_
  refine WO.fz (j := 0) h3 rfl ?_
  intro B hK g11
  replace hH := hH.up hK
  replace g0_0 := g0_0.up hK
  replace hw2 := hw2.up hK
  replace hB := hB.trans hK.w
  obtain ⟨c_y2, m_y2, r_y2, u_y2⟩ := hgetP (foc66 hH) g0_0 hd
  obtain ⟨_, _, rfl, ⟨w4, rfl, hw4⟩, rfl⟩ := r_y2
  obtain ⟨_, _, _, _, _, rfl⟩ := hw4.isl
  obtain ⟨_, z_1, k_1⟩ := u_y2 _ (newNums H (2 * d.1.length), d.2) (Rp (Rl g11) Ri)
  refine WO.en (MOpE.st rfl (cL rfl) z_1 ti63 rfl rfl (lb rfl) rfl) rfl ?_
  rintro _ B _ E ⟨rfl, rfl, rfl⟩
  replace hH := (k_1 : HR _ _ _)
  refine WO.nil ?_
  replace hH : HR B (grown H a0 d []) E := by rw [grown_zero]; exact hH
  refine WX.seq ?_
  refine WX.reg ?_
  refine WO.q (.mv (v := .sl _ _ _ _ _ _) rfl) rfl rfl ?_
  refine WO.q (.len rfl rfl rfl (sl63.len hw2.isl)) rfl rfl ?_
  refine WO.q (.mv (v := .int _ _) rfl) rfl rfl ?_
  refine WO.nil ?_
  refine WX.block ?_
  refine WX.loop ?_
  refine WX.keep [0, 18, 19, 20] (WX.pk [] (by decide) ?_) rfl
  refine WX.loopN (I := fun n fr B A E => ∃ (i : Nat) (done : List (List UInt8 × Int)) (v : AV), n + i = d.1.length ∧ KLw B0 B ∧ HR B (grown H a0 d done) E ∧ HPt B 66 (.ptr b_y1 0) a0 ∧ RSl (Ty.hm 26) B v d.1 ∧ (done ++ (ms.drop i).flatten).Perm ms.flatten ∧ fr = [(0, .ptr b_y1 0), (18, v), (19, .int .i64 (d.1.length : Int)), (20, .int .i64 (i : Int))] ∧ A = []) ?_ d.1.length _ _ _ _ ⟨0, [], _, by omega, hB, hH, g0_0, hw2, by simp, rfl, rfl⟩
  rintro n _ B _ E ⟨i, done, v, hn, hB, hH, hp, hs, hperm, rfl, rfl⟩ ih
  obtain ⟨_, _, _, _, _, rfl⟩ := hs.isl
  refine WX.seq ?_
  refine WX.reg ?_
  refine WO.q (.r fun _ => rfl) rfl rfl ?_
  refine WO.nil ?_
  refine WX.seq ?_
  rcases bsp (decide ((i : Int) < (d.1.length : Int))) with k6 | k6
  · have q_k6 := of_decide_eq_true k6
    refine WX.condT rfl k6 ?_
    refine WX.skip ?_
    refine WX.seq ?_
    refine WX.block ?_
    refine WX.seq ?_
    refine WX.reg ?_
    obtain ⟨m, hm⟩ : ∃ m, d.1[i]? = some m := ⟨_, List.getElem?_eq_getElem (by omega)⟩
    obtain ⟨y, hy, hym⟩ := hmsa i m hm
    obtain ⟨b_7, o_7, _, i_7, p_7, r_7⟩ := hs.at sl63 (rd_ok hm) .i64
    obtain ⟨w8, rfl, hw8⟩ := r_7
    refine WO.q (.ia i_7) rfl rfl ?_
    refine WO.q (.lp0 rfl p_7 rfl ti26 rfl) rfl rfl ?_
    refine WO.q (.as (v := w8) rfl) rfl rfl ?_
    refine WO.nil ?_
    -- the map's own entry
    obtain ⟨j, rfl, hj⟩ := hobj_some hym
    rcases hw8 with ⟨e, _⟩ | ⟨bm, j', hj', hbm, rfl⟩
    · omega
    obtain rfl : j = j' := by omega
    obtain ⟨u, y', hy', hmem, ⟨es, c, rfl, hr⟩, _⟩ := (foc26 hH).get hbm
    have hyy : y' = y := by
      have := grown_old (a0 := a0) (d := d) (es := done) hym
      rw [hobj_i, hy'] at this
      exact Option.some.inj this
    subst hyy
    obtain ⟨⟨ps, hps, hlen, hrel⟩, hnk, hnb, hlb⟩ := hr
    have hrel' : ∀ (i : Nat) (e : AV × AV × Nat), es[i]? = some e → ∃ p : List UInt8 × Int, ps[i]? = some p ∧ e.1 = .str p.1 ∧ e.2.1 = .int .i64 p.2 := fun i e he => by
      obtain ⟨p, h1, h2, h3⟩ := hrel i e.1 e.2.1 e.2.2 he
      have h2 : [e.1] = [AV.str p.1] := h2
      have h3 : [e.2.1] = [AV.int .i64 p.2] := h3
      simp at h2 h3
      exact ⟨p, h1, h2, h3⟩
    refine WX.seq ?_
    refine WX.reg ?_
    refine WO.q (.mv (v := .map bm) rfl) rfl rfl ?_
    refine WO.md (MOp.range mt26 (inE hmem) rfl) rfl rfl ?_
    rintro _ _ ⟨bi, rfl, rfl⟩
    refine WO.nil ?_
    refine WX.block ?_
    refine WX.loop ?_
    refine WX.keep [0, 18, 19, 20, 25] (WX.pk [0] (by decide) ?_) rfl
    have hrest : ms.drop i = y' :: ms.drop (i + 1) := by
      obtain ⟨h1, h2⟩ := List.getElem?_eq_some_iff.1 hy
      rw [List.drop_eq_getElem_cons h1, h2]
    refine WX.loopN (I := fun n fr B A E => ∃ (done : List (List UInt8 × Int)) (seen : List Nat) (v : AV), n = (Lft es ps seen).length ∧ KLw B0 B ∧ HR B (grown H a0 d done) E ∧ HPt B 66 (.ptr b_y1 0) a0 ∧ RSl (Ty.hm 26) B v d.1 ∧ (B.ad 26)[j]? = some bm ∧ (bm, some (OV.m es c)) ∈ E ∧ (done ++ (Lft es ps seen ++ (ms.drop (i + 1)).flatten)).Perm ms.flatten ∧ fr = [(0, .ptr b_y1 0), (18, v), (19, .int .i64 (d.1.length : Int)), (20, .int .i64 (i : Int)), (25, .ptr bi 0)] ∧ A = [(bi, some (OV.i (some bm) c seen c))]) ?_ (Lft es ps []).length _ _ _ _ ⟨done, [], _, rfl, hB, hH, hp, hs, hbm, hmem, ?_, rfl, rfl⟩
    · clear hH hp hs hbm hmem hperm hB
      rintro k _ B _ E ⟨done, seen, v, hk, hB, hH, hp, hs, hbm, hmem, hperm, rfl, rfl⟩ ih2
      obtain ⟨_, _, _, _, _, rfl⟩ := hs.isl
      refine WX.seq ?_
      refine WX.reg ?_
      refine WO.next (inE (A := []) hmem) rfl hlb (Nat.le_refl _) rfl rfl (fun hall => ?_) (fun e he hse => ?_)
      · refine WO.q (.r fun _ => rfl) rfl rfl ?_
        refine WO.nil ?_
        refine WX.seq ?_
        refine WX.condF rfl rfl ?_
        refine WX.exit rfl ?_
        refine WX.reg ?_
        refine WO.q (.r fun _ => rfl) rfl rfl ?_
        refine WO.q (.mv (v := .int _ _) rfl) rfl rfl ?_
        refine WO.nil ?_
        refine WX.keepL [0, 18, 19, 20] (WX.pk [] (by decide) ?_) rfl
        refine ih (n - 1) _ _ _ _ (by omega) ⟨i + 1, done, _, by omega, hB, hH, hp, hs, ?_, ?_, rfl⟩
        · rw [Lft.none hall] at hperm; exact hperm
        · have e1 : wi64 ((i : Int) + 1) = ((i + 1 : Nat) : Int) := by rw [w64 (by omega) (by omega)]; omega
          exact congrArg (fun z : Int => ([(0, AV.ptr b_y1 0), (18, _), (19, _), (20, AV.int .i64 z)] : Fr)) e1
      · obtain ⟨q, hq⟩ := List.mem_iff_getElem?.1 he
        obtain ⟨p, hp1, hp2, hp3⟩ := hrel' q e hq
        have hpick := Lft.pick (p := p) hnb hq hp1 hse
        obtain ⟨ek, ev, eb⟩ := e
        dsimp only at hp2 hp3 hpick hse
        subst hp2; subst hp3
        refine WO.q (.r fun _ => rfl) rfl rfl ?_
        refine WO.nil ?_
        refine WX.seq ?_
        refine WX.condT rfl rfl ?_
        refine WX.skip ?_
        refine WX.block ?_
        refine WX.seq ?_
        refine WX.reg ?_
        refine WO.ql (QOp.entry rfl (List.mem_cons_self) (List.mem_cons_of_mem _ (inE (A := []) hmem)) hnb he) rfl rfl ?_
        refine WO.q (.r fun _ => rfl) rfl rfl ?_
        refine WO.q (.r fun _ => rfl) rfl rfl ?_
        refine WO.q (.as (v := .str _) rfl) rfl rfl ?_
        refine WO.q (.as (v := .int _ _) rfl) rfl rfl ?_
        refine WO.nil ?_
        refine WX.reg ?_
        refine WO.q (.mv (v := .ptr b_y1 0) rfl) rfl rfl ?_
        refine WO.q (.mv (v := .str _) rfl) rfl rfl ?_
        have hin : p ∈ ms.flatten := hperm.subset (List.mem_append_right _ (List.mem_append_left _ (hpick.symm.subset List.mem_cons_self)))
        obtain ⟨hc1, hc2⟩ := hcrc p hin
        refine WO.cS rfl rfl (bucket_ro (E := E) (L := _ ++ L) perm_call' hH hp (bucket_grown hd hn1 hc1 hc2)) rfl rfl rfl ?_
        intro v9 h9
        refine WO.q (.mv (v := .str _) rfl) rfl rfl ?_
        refine WO.q (.mv (v := .int _ _) rfl) rfl rfl ?_
        have hhl := hashN_lt (n := 2 * d.1.length) (by omega) hc2
        have hperm' : ((done ++ [p]) ++ (Lft es ps (seen ++ [eb]) ++ (ms.drop (i + 1)).flatten)).Perm ms.flatten := by
          refine List.Perm.trans ?_ hperm
          rw [List.append_assoc]
          exact List.Perm.append_left _ ((hpick.append_right _).symm)
        have hkn : ∀ e ∈ done, e.1 ≠ p.1 := fun e he hee => by
          have h1 := (hperm'.map (·.1)).nodup_iff.2 hnd
          rw [List.map_append, List.map_append, List.append_assoc] at h1
          exact (List.nodup_append.1 h1).2.2 e.1 (List.mem_map.2 ⟨e, he, rfl⟩) p.1 (by simp) hee
        refine WO.en (MOpE.putF mt26 (foc26 hH) h9 (grown_mid hhl) Rs Ri rfl rfl rfl) rfl ?_
        rintro _ B' _ E' ⟨rfl, rfl, hH', hst⟩
        have hmem' := hst j bm _ (by have := (List.getElem?_eq_some_iff.1 hj).1; omega) hbm hmem
        replace hH' := (hH' : HR _ _ _)
        rw [grown_put hn1 hc2 hkn] at hH'
        refine WO.nil ?_
        refine WX.keepL [0, 18, 19, 20, 25] (WX.pk [0] (by decide) ?_) rfl
        refine ih2 (k - 1) _ _ _ _ (by have := hpick.length_eq; rw [List.length_cons] at this; omega) ⟨done ++ [p], seen ++ [eb], _, by have := hpick.length_eq; rw [List.length_cons] at this; omega, hB, hH', hp, hs, hbm, hmem', hperm', rfl, rfl⟩
    · rw [Lft.zero hlen]
      refine List.Perm.trans ?_ hperm
      rw [hrest, List.flatten_cons]
      exact List.Perm.append_left _ (hps.append_right _)
  · have q_k6 := of_decide_eq_false k6
    refine WX.condF rfl k6 ?_
    refine WX.exit rfl ?_
    have hin : i = d.1.length := by omega
    rw [List.drop_of_length_le (by omega), List.flatten_nil, List.append_nil] at hperm
    have hfin : HR B (grown H a0 d ms.flatten) E := hH.grown hperm
    exact WX.fin (rs_ rs_nil) fun st hp => ⟨_, _, _, hB, (hp.pk [] (by decide)), rfl, rfl, hfin⟩
end Gab
