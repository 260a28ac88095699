/- The types of the program, as the printed proofs use them. Written by a program (gp.py). -/
import Derived.Test.YtcdldgoehoopmaaDoorFd
import Derived.Test.YtcdldgoehoopmaaDoorTypes
set_option linter.unusedSimpArgs false
set_option linter.unusedVariables false
set_option maxHeartbeats 4000000
set_option maxRecDepth 100000
namespace Gab
open Go Go.Proofs
theorem mixed : Tryd.prog.follows .mixedOrders = true := by kernel_rfl
abbrev ELM26 : Ty (List Nat) := .slice (Ty.hm 26)
abbrev EPLM26Ii64Q : Ty ((List Nat) × Int) := .pair ELM26 (Ty.int .i64)
abbrev EPStIi64Q : Ty ((List UInt8) × Int) := .pair Ty.str (Ty.int .i64)
abbrev EPIi64Ii64StQ : Ty (Int × Int × (List UInt8)) := .pair (Ty.int .i64) (.pair (Ty.int .i64) Ty.str)
theorem sl22 : SlT Tryd.prog 22 (Ty.int .u16) [.int .u16 0] 2 := ⟨_, _, _, ti22, rfl, ti27, rfl, rfl, rfl, rfl⟩
theorem sl23 : SlT Tryd.prog 23 Ty.bool [.bool false] 1 := ⟨_, _, _, ti23, rfl, ti4, rfl, rfl, rfl, rfl⟩
theorem sl32 : SlT Tryd.prog 32 (Ty.int .i64) [.int .i64 0] 8 := ⟨_, _, _, ti32, rfl, ti3, rfl, rfl, rfl, rfl⟩
theorem sl38 : SlT Tryd.prog 38 EPStIi64Q [.str [], .int .i64 0] 24 := ⟨_, _, _, ti38, rfl, ti42, rfl, rfl, rfl, rfl⟩
theorem sl44 : SlT Tryd.prog 44 EPIi64Ii64StQ [.int .i64 0, .int .i64 0, .str []] 32 := ⟨_, _, _, ti44, rfl, ti49, rfl, rfl, rfl, rfl⟩
theorem sl45 : SlT Tryd.prog 45 EPStIi64Q [.str [], .int .i64 0] 24 := ⟨_, _, _, ti45, rfl, ti54, rfl, rfl, rfl, rfl⟩
theorem sl59 : SlT Tryd.prog 59 Ty.str [.str []] 16 := ⟨_, _, _, ti59, rfl, ti9, rfl, rfl, rfl, rfl⟩
theorem sl63 : SlT Tryd.prog 63 (Ty.hm 26) [.nilmap] 8 := ⟨_, _, _, ti63, rfl, ti26, rfl, rfl, rfl, rfl⟩
theorem sl85 : SlT Tryd.prog 85 (Ty.int .u8) [.int .u8 0] 1 := ⟨_, _, _, ti85, rfl, ti5, rfl, rfl, rfl, rfl⟩
def HR (B : Kn) (H : Heap) (E : Own) : Prop := ∃ F26 F66, E = F26 ++ F66 ∧ Seg B 26 (MR Ty.str (Ty.int .i64) B) H.h26 F26 ∧ Seg B 66 (SR EPLM26Ii64Q B) H.h66 F66
theorem HR.nil {k : Nat → Option AObj} : HR ⟨k, fun _ => []⟩ ⟨[], []⟩ [] := ⟨[], [], rfl, Seg.nil rfl, Seg.nil rfl⟩
theorem HR.up {B B' : Kn} {H : Heap} {E : Own} (hk : KLe B B') (h : HR B H E) : HR B' H E := by
  obtain ⟨F26, F66, e, s26, s66⟩ := h
  exact ⟨F26, F66, e, s26.up (by rw [hk.a]) (fun u x h => MR.mono hk.w h), s66.up (by rw [hk.a]) (fun u x h => SR.mono hk.w h)⟩
theorem foc26 {B : Kn} {H : Heap} {E : Own} (h : HR B H E) : Foc B 26 (MR Ty.str (Ty.int .i64)) H.h26 E (fun B' l' E' => HR B' {H with h26 := l'} E') := by
  obtain ⟨F26, F66, e, s26, s66⟩ := h
  refine ⟨([] : Own), F26, (F66), by rw [e]; simp only [List.append_assoc, List.nil_append, List.append_nil], s26, fun B' l' F' hk hn hs => ⟨F', F66, by simp only [List.append_assoc, List.nil_append, List.append_nil], hs, s66.up (hn 66 (by decide)) (fun u x h => SR.mono hk h)⟩⟩
theorem mt26 : MapT Tryd.prog 26 Ty.str (Ty.int .i64) 0 := ⟨⟨_, _, _, _, _, ti26, rfl, ti9, keyT_str, (by kernel_rfl : zinfo Tryd.prog 3 = some (.int .i64 0)), fun B => Ri⟩, rfl⟩
theorem foc66 {B : Kn} {H : Heap} {E : Own} (h : HR B H E) : Foc B 66 (SR EPLM26Ii64Q) H.h66 E (fun B' l' E' => HR B' {H with h66 := l'} E') := by
  obtain ⟨F26, F66, e, s26, s66⟩ := h
  refine ⟨(F26), F66, ([] : Own), by rw [e]; simp only [List.append_assoc, List.nil_append, List.append_nil], s66, fun B' l' F' hk hn hs => ⟨F26, F', by simp only [List.append_assoc, List.nil_append, List.append_nil], s26.up (hn 26 (by decide)) (fun u x h => MR.mono hk h), hs⟩⟩
theorem fa42_0 (b o : Nat) : evFieldAddr Tryd.prog 42 (.ptr b o) 0 = some (.ptr b (o + 0)) := by simp only [evFieldAddr, ti42, ti9, Option.bind_some, List.getElem?_cons_zero, List.getElem?_cons_succ]; rfl
theorem fa42_1 (b o : Nat) : evFieldAddr Tryd.prog 42 (.ptr b o) 1 = some (.ptr b (o + 1)) := by simp only [evFieldAddr, ti42, ti3, Option.bind_some, List.getElem?_cons_zero, List.getElem?_cons_succ]; rfl
theorem fa47_0 (b o : Nat) : evFieldAddr Tryd.prog 47 (.ptr b o) 0 = some (.ptr b (o + 0)) := by simp only [evFieldAddr, ti47, ti45, Option.bind_some, List.getElem?_cons_zero, List.getElem?_cons_succ]; rfl
theorem fa47_1 (b o : Nat) : evFieldAddr Tryd.prog 47 (.ptr b o) 1 = some (.ptr b (o + 1)) := by simp only [evFieldAddr, ti47, ti3, Option.bind_some, List.getElem?_cons_zero, List.getElem?_cons_succ]; rfl
theorem fa49_0 (b o : Nat) : evFieldAddr Tryd.prog 49 (.ptr b o) 0 = some (.ptr b (o + 0)) := by simp only [evFieldAddr, ti49, ti3, Option.bind_some, List.getElem?_cons_zero, List.getElem?_cons_succ]; rfl
theorem fa49_1 (b o : Nat) : evFieldAddr Tryd.prog 49 (.ptr b o) 1 = some (.ptr b (o + 1)) := by simp only [evFieldAddr, ti49, ti3, Option.bind_some, List.getElem?_cons_zero, List.getElem?_cons_succ]; rfl
theorem fa49_2 (b o : Nat) : evFieldAddr Tryd.prog 49 (.ptr b o) 2 = some (.ptr b (o + 2)) := by simp only [evFieldAddr, ti49, ti9, Option.bind_some, List.getElem?_cons_zero, List.getElem?_cons_succ]; rfl
theorem fa54_0 (b o : Nat) : evFieldAddr Tryd.prog 54 (.ptr b o) 0 = some (.ptr b (o + 0)) := by simp only [evFieldAddr, ti54, ti9, Option.bind_some, List.getElem?_cons_zero, List.getElem?_cons_succ]; rfl
theorem fa54_1 (b o : Nat) : evFieldAddr Tryd.prog 54 (.ptr b o) 1 = some (.ptr b (o + 1)) := by simp only [evFieldAddr, ti54, ti3, Option.bind_some, List.getElem?_cons_zero, List.getElem?_cons_succ]; rfl
theorem fa66_0 (b o : Nat) : evFieldAddr Tryd.prog 66 (.ptr b o) 0 = some (.ptr b (o + 0)) := by simp only [evFieldAddr, ti66, ti63, Option.bind_some, List.getElem?_cons_zero, List.getElem?_cons_succ]; rfl
theorem fa66_1 (b o : Nat) : evFieldAddr Tryd.prog 66 (.ptr b o) 1 = some (.ptr b (o + 1)) := by simp only [evFieldAddr, ti66, ti3, Option.bind_some, List.getElem?_cons_zero, List.getElem?_cons_succ]; rfl
theorem bd42_n : evBuild Tryd.prog 42 [] = some (.agg [.str [], .int .i64 0]) := by
  simp only [evBuild, placesA, fillA, ti42, ti9, ti3, Option.bind_some, List.length_cons, List.length_nil, Nat.reduceAdd] <;> rfl
theorem bd42_0_1 {a0 : AV} {a1 : AV} {x0_0 x1_0 : AV} (h0 : a0.cells = some [x0_0]) (h1 : a1.cells = some [x1_0]) : evBuild Tryd.prog 42 [(0, a0), (1, a1)] = some (.agg [x0_0, x1_0]) := by
  simp only [evBuild, placesA, fillA, ti42, ti9, ti3, Option.bind_some, h0, h1, List.length_cons, List.length_nil, Nat.reduceAdd] <;> rfl
theorem bd47_1 {a1 : AV} {x1_0 : AV} (h1 : a1.cells = some [x1_0]) : evBuild Tryd.prog 47 [(1, a1)] = some (.agg [.sl 0 0 0 0 0 true, x1_0]) := by
  simp only [evBuild, placesA, fillA, ti47, ti45, ti3, Option.bind_some, h1, List.length_cons, List.length_nil, Nat.reduceAdd] <;> rfl
theorem bd54_0_1 {a0 : AV} {a1 : AV} {x0_0 x1_0 : AV} (h0 : a0.cells = some [x0_0]) (h1 : a1.cells = some [x1_0]) : evBuild Tryd.prog 54 [(0, a0), (1, a1)] = some (.agg [x0_0, x1_0]) := by
  simp only [evBuild, placesA, fillA, ti54, ti9, ti3, Option.bind_some, h0, h1, List.length_cons, List.length_nil, Nat.reduceAdd] <;> rfl
theorem bd66_0 {a0 : AV} {x0_0 : AV} (h0 : a0.cells = some [x0_0]) : evBuild Tryd.prog 66 [(0, a0)] = some (.agg [x0_0, .int .i64 0]) := by
  simp only [evBuild, placesA, fillA, ti66, ti63, ti3, Option.bind_some, h0, List.length_cons, List.length_nil, Nat.reduceAdd] <;> rfl
theorem bd66_1 {a1 : AV} {x1_0 : AV} (h1 : a1.cells = some [x1_0]) : evBuild Tryd.prog 66 [(1, a1)] = some (.agg [.sl 0 0 0 0 0 true, x1_0]) := by
  simp only [evBuild, placesA, fillA, ti66, ti63, ti3, Option.bind_some, h1, List.length_cons, List.length_nil, Nat.reduceAdd] <;> rfl
theorem fsq42 : flatStruct Tryd.prog 42 = true := by kernel_rfl
theorem eql42 (a0 : List UInt8) (a1 : Int) (b0 : List UInt8) (b1 : Int) : evBin Tryd.prog .eql 42 (.agg [.str a0, .int .i64 a1]) (.agg [.str b0, .int .i64 b1]) = some (.bool (decide (a0 = b0) && (decide (a1 = b1) && true))) := by
  simp only [evBin, evEq, fsq42, ti42, eqFields, ti9, ti3, if_true, Option.bind_some, List.getElem?_cons_zero, List.getElem?_cons_succ]
  try rfl
theorem neq42 (a0 : List UInt8) (a1 : Int) (b0 : List UInt8) (b1 : Int) : evBin Tryd.prog .neq 42 (.agg [.str a0, .int .i64 a1]) (.agg [.str b0, .int .i64 b1]) = some (.bool (!(decide (a0 = b0) && (decide (a1 = b1) && true)))) := by
  simp only [evBin, evEq, fsq42, ti42, eqFields, ti9, ti3, if_true, Option.bind_some, List.getElem?_cons_zero, List.getElem?_cons_succ]
  try rfl
end Gab
