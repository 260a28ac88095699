/- The types of the program, as the printed proofs use them. Written by a program (gp.py). -/
import Derived.Test.YtdkldojcpncnhaaHt
import Derived.Test.YtdkldojcpncnhaaTypes
set_option linter.unusedSimpArgs false
set_option linter.unusedVariables false
set_option maxHeartbeats 4000000
set_option maxRecDepth 100000
namespace Gab
open Go Go.Proofs
theorem mixed : Try.prog.follows .mixedOrders = true := by kernel_rfl
abbrev EPIi64Ii64Q : Ty (Int × Int) := .pair (Ty.int .i64) (Ty.int .i64)
abbrev ELPIi64Ii64Q : Ty (List (Int × Int)) := .slice EPIi64Ii64Q
abbrev EPIi64Ii64Ii64Q : Ty (Int × Int × Int) := .pair (Ty.int .i64) (.pair (Ty.int .i64) (Ty.int .i64))
abbrev EPIu8Ii64Ii64LPIi64Ii64QStQ : Ty (Int × Int × Int × (List (Int × Int)) × (List UInt8)) := .pair (Ty.int .u8) (.pair (Ty.int .i64) (.pair (Ty.int .i64) (.pair ELPIi64Ii64Q Ty.str)))
theorem sl22 : SlT Try.prog 22 (Ty.int .i64) [.int .i64 0] 8 := ⟨_, _, _, ti22, rfl, ti3, rfl, rfl, rfl, rfl⟩
theorem sl23 : SlT Try.prog 23 EPIi64Ii64Q [.int .i64 0, .int .i64 0] 16 := ⟨_, _, _, ti23, rfl, ti35, rfl, rfl, rfl, rfl⟩
theorem sl32 : SlT Try.prog 32 (Ty.int .u8) [.int .u8 0] 1 := ⟨_, _, _, ti32, rfl, ti5, rfl, rfl, rfl, rfl⟩
theorem sl40 : SlT Try.prog 40 EPIi64Ii64Q [.int .i64 0, .int .i64 0] 16 := ⟨_, _, _, ti40, rfl, ti41, rfl, rfl, rfl, rfl⟩
theorem sl43 : SlT Try.prog 43 ELPIi64Ii64Q [.sl 0 0 0 0 0 true] 24 := ⟨_, _, _, ti43, rfl, ti40, rfl, rfl, rfl, rfl⟩
theorem sl44 : SlT Try.prog 44 EPIi64Ii64Q [.int .i64 0, .int .i64 0] 16 := ⟨_, _, _, ti44, rfl, ti35, rfl, rfl, rfl, rfl⟩
theorem sl65 : SlT Try.prog 65 EPIi64Ii64Ii64Q [.int .i64 0, .int .i64 0, .int .i64 0] 24 := ⟨_, _, _, ti65, rfl, ti69, rfl, rfl, rfl, rfl⟩
theorem sl66 : SlT Try.prog 66 Ty.bool [.bool false] 1 := ⟨_, _, _, ti66, rfl, ti4, rfl, rfl, rfl, rfl⟩
theorem sl83 : SlT Try.prog 83 EPIu8Ii64Ii64LPIi64Ii64QStQ [.int .u8 0, .int .i64 0, .int .i64 0, .sl 0 0 0 0 0 true, .str []] 64 := ⟨_, _, _, ti83, rfl, ti81, rfl, rfl, rfl, rfl⟩
theorem sl122 : SlT Try.prog 122 ELPIi64Ii64Q [.sl 0 0 0 0 0 true] 24 := ⟨_, _, _, ti122, rfl, ti23, rfl, rfl, rfl, rfl⟩
theorem sl124 : SlT Try.prog 124 ELPIi64Ii64Q [.sl 0 0 0 0 0 true] 24 := ⟨_, _, _, ti124, rfl, ti44, rfl, rfl, rfl, rfl⟩
theorem fa25_0 (b o : Nat) : evFieldAddr Try.prog 25 (.ptr b o) 0 = some (.ptr b (o + 0)) := by simp only [evFieldAddr, ti25, ti3, Option.bind_some, List.getElem?_cons_zero, List.getElem?_cons_succ]; rfl
theorem fa25_1 (b o : Nat) : evFieldAddr Try.prog 25 (.ptr b o) 1 = some (.ptr b (o + 1)) := by simp only [evFieldAddr, ti25, ti23, Option.bind_some, List.getElem?_cons_zero, List.getElem?_cons_succ]; rfl
theorem fa35_0 (b o : Nat) : evFieldAddr Try.prog 35 (.ptr b o) 0 = some (.ptr b (o + 0)) := by simp only [evFieldAddr, ti35, ti3, Option.bind_some, List.getElem?_cons_zero, List.getElem?_cons_succ]; rfl
theorem fa35_1 (b o : Nat) : evFieldAddr Try.prog 35 (.ptr b o) 1 = some (.ptr b (o + 1)) := by simp only [evFieldAddr, ti35, ti3, Option.bind_some, List.getElem?_cons_zero, List.getElem?_cons_succ]; rfl
theorem fa69_0 (b o : Nat) : evFieldAddr Try.prog 69 (.ptr b o) 0 = some (.ptr b (o + 0)) := by simp only [evFieldAddr, ti69, ti3, Option.bind_some, List.getElem?_cons_zero, List.getElem?_cons_succ]; rfl
theorem fa69_1 (b o : Nat) : evFieldAddr Try.prog 69 (.ptr b o) 1 = some (.ptr b (o + 1)) := by simp only [evFieldAddr, ti69, ti3, Option.bind_some, List.getElem?_cons_zero, List.getElem?_cons_succ]; rfl
theorem fa69_2 (b o : Nat) : evFieldAddr Try.prog 69 (.ptr b o) 2 = some (.ptr b (o + 2)) := by simp only [evFieldAddr, ti69, ti3, Option.bind_some, List.getElem?_cons_zero, List.getElem?_cons_succ]; rfl
theorem fa81_0 (b o : Nat) : evFieldAddr Try.prog 81 (.ptr b o) 0 = some (.ptr b (o + 0)) := by simp only [evFieldAddr, ti81, ti5, Option.bind_some, List.getElem?_cons_zero, List.getElem?_cons_succ]; rfl
theorem fa81_1 (b o : Nat) : evFieldAddr Try.prog 81 (.ptr b o) 1 = some (.ptr b (o + 1)) := by simp only [evFieldAddr, ti81, ti3, Option.bind_some, List.getElem?_cons_zero, List.getElem?_cons_succ]; rfl
theorem fa81_2 (b o : Nat) : evFieldAddr Try.prog 81 (.ptr b o) 2 = some (.ptr b (o + 2)) := by simp only [evFieldAddr, ti81, ti3, Option.bind_some, List.getElem?_cons_zero, List.getElem?_cons_succ]; rfl
theorem fa81_3 (b o : Nat) : evFieldAddr Try.prog 81 (.ptr b o) 3 = some (.ptr b (o + 3)) := by simp only [evFieldAddr, ti81, ti40, Option.bind_some, List.getElem?_cons_zero, List.getElem?_cons_succ]; rfl
theorem fa81_4 (b o : Nat) : evFieldAddr Try.prog 81 (.ptr b o) 4 = some (.ptr b (o + 4)) := by simp only [evFieldAddr, ti81, ti9, Option.bind_some, List.getElem?_cons_zero, List.getElem?_cons_succ]; rfl
theorem fa86_0 (b o : Nat) : evFieldAddr Try.prog 86 (.ptr b o) 0 = some (.ptr b (o + 0)) := by simp only [evFieldAddr, ti86, ti84, Option.bind_some, List.getElem?_cons_zero, List.getElem?_cons_succ]; rfl
theorem fa86_1 (b o : Nat) : evFieldAddr Try.prog 86 (.ptr b o) 1 = some (.ptr b (o + 1)) := by simp only [evFieldAddr, ti86, ti3, Option.bind_some, List.getElem?_cons_zero, List.getElem?_cons_succ]; rfl
theorem fa86_2 (b o : Nat) : evFieldAddr Try.prog 86 (.ptr b o) 2 = some (.ptr b (o + 2)) := by simp only [evFieldAddr, ti86, ti3, Option.bind_some, List.getElem?_cons_zero, List.getElem?_cons_succ]; rfl
theorem fa86_3 (b o : Nat) : evFieldAddr Try.prog 86 (.ptr b o) 3 = some (.ptr b (o + 3)) := by simp only [evFieldAddr, ti86, ti44, Option.bind_some, List.getElem?_cons_zero, List.getElem?_cons_succ]; rfl
theorem fa86_4 (b o : Nat) : evFieldAddr Try.prog 86 (.ptr b o) 4 = some (.ptr b (o + 4)) := by simp only [evFieldAddr, ti86, ti9, Option.bind_some, List.getElem?_cons_zero, List.getElem?_cons_succ]; rfl
theorem fa88_0 (b o : Nat) : evFieldAddr Try.prog 88 (.ptr b o) 0 = some (.ptr b (o + 0)) := by simp only [evFieldAddr, ti88, ti5, Option.bind_some, List.getElem?_cons_zero, List.getElem?_cons_succ]; rfl
theorem fa88_1 (b o : Nat) : evFieldAddr Try.prog 88 (.ptr b o) 1 = some (.ptr b (o + 1)) := by simp only [evFieldAddr, ti88, ti3, Option.bind_some, List.getElem?_cons_zero, List.getElem?_cons_succ]; rfl
theorem fa88_2 (b o : Nat) : evFieldAddr Try.prog 88 (.ptr b o) 2 = some (.ptr b (o + 2)) := by simp only [evFieldAddr, ti88, ti3, Option.bind_some, List.getElem?_cons_zero, List.getElem?_cons_succ]; rfl
theorem fa88_3 (b o : Nat) : evFieldAddr Try.prog 88 (.ptr b o) 3 = some (.ptr b (o + 3)) := by simp only [evFieldAddr, ti88, ti40, Option.bind_some, List.getElem?_cons_zero, List.getElem?_cons_succ]; rfl
theorem fa88_4 (b o : Nat) : evFieldAddr Try.prog 88 (.ptr b o) 4 = some (.ptr b (o + 4)) := by simp only [evFieldAddr, ti88, ti9, Option.bind_some, List.getElem?_cons_zero, List.getElem?_cons_succ]; rfl
theorem ia41_0 (b o : Nat) : evIndexAddr Try.prog 41 (.ptr b o) (.int .i64 0) = some (.ptr b (o + 0)) := by simp only [evIndexAddr, ti41, ti3, Option.bind_some]; rfl
theorem ia41_1 (b o : Nat) : evIndexAddr Try.prog 41 (.ptr b o) (.int .i64 1) = some (.ptr b (o + 1)) := by simp only [evIndexAddr, ti41, ti3, Option.bind_some]; rfl
theorem bd25_n : evBuild Try.prog 25 [] = some (.agg [.int .i64 0, .sl 0 0 0 0 0 true]) := by
  simp only [evBuild, placesA, fillA, ti25, ti3, ti23, Option.bind_some, List.length_cons, List.length_nil, Nat.reduceAdd] <;> rfl
theorem bd25_0 {a0 : AV} {x0_0 : AV} (h0 : a0.cells = some [x0_0]) : evBuild Try.prog 25 [(0, a0)] = some (.agg [x0_0, .sl 0 0 0 0 0 true]) := by
  simp only [evBuild, placesA, fillA, ti25, ti3, ti23, Option.bind_some, h0, List.length_cons, List.length_nil, Nat.reduceAdd] <;> rfl
theorem bd25_0_1 {a0 : AV} {a1 : AV} {x0_0 x1_0 : AV} (h0 : a0.cells = some [x0_0]) (h1 : a1.cells = some [x1_0]) : evBuild Try.prog 25 [(0, a0), (1, a1)] = some (.agg [x0_0, x1_0]) := by
  simp only [evBuild, placesA, fillA, ti25, ti3, ti23, Option.bind_some, h0, h1, List.length_cons, List.length_nil, Nat.reduceAdd] <;> rfl
theorem bd35_0_1 {a0 : AV} {a1 : AV} {x0_0 x1_0 : AV} (h0 : a0.cells = some [x0_0]) (h1 : a1.cells = some [x1_0]) : evBuild Try.prog 35 [(0, a0), (1, a1)] = some (.agg [x0_0, x1_0]) := by
  simp only [evBuild, placesA, fillA, ti35, ti3, Option.bind_some, h0, h1, List.length_cons, List.length_nil, Nat.reduceAdd] <;> rfl
theorem bd41_0_1 {a0 : AV} {a1 : AV} {x0_0 x1_0 : AV} (h0 : a0.cells = some [x0_0]) (h1 : a1.cells = some [x1_0]) : evBuild Try.prog 41 [(0, a0), (1, a1)] = some (.agg [x0_0, x1_0]) := by
  simp only [evBuild, placesA, fillA, ti41, ti3, Option.bind_some, h0, h1, List.length_cons, List.length_nil, Nat.reduceAdd] <;> rfl
theorem bd81_0_1 {a0 : AV} {a1 : AV} {x0_0 x1_0 : AV} (h0 : a0.cells = some [x0_0]) (h1 : a1.cells = some [x1_0]) : evBuild Try.prog 81 [(0, a0), (1, a1)] = some (.agg [x0_0, x1_0, .int .i64 0, .sl 0 0 0 0 0 true, .str []]) := by
  simp only [evBuild, placesA, fillA, ti81, ti5, ti3, ti40, ti9, Option.bind_some, h0, h1, List.length_cons, List.length_nil, Nat.reduceAdd] <;> rfl
theorem bd86_n : evBuild Try.prog 86 [] = some (.agg [.int .u8 0, .int .i64 0, .int .i64 0, .sl 0 0 0 0 0 true, .str []]) := by
  simp only [evBuild, placesA, fillA, ti86, ti84, ti3, ti44, ti9, Option.bind_some, List.length_cons, List.length_nil, Nat.reduceAdd] <;> rfl
theorem bd86_0_1 {a0 : AV} {a1 : AV} {x0_0 x1_0 : AV} (h0 : a0.cells = some [x0_0]) (h1 : a1.cells = some [x1_0]) : evBuild Try.prog 86 [(0, a0), (1, a1)] = some (.agg [x0_0, x1_0, .int .i64 0, .sl 0 0 0 0 0 true, .str []]) := by
  simp only [evBuild, placesA, fillA, ti86, ti84, ti3, ti44, ti9, Option.bind_some, h0, h1, List.length_cons, List.length_nil, Nat.reduceAdd] <;> rfl
theorem bd86_0_1_2 {a0 : AV} {a1 : AV} {a2 : AV} {x0_0 x1_0 x2_0 : AV} (h0 : a0.cells = some [x0_0]) (h1 : a1.cells = some [x1_0]) (h2 : a2.cells = some [x2_0]) : evBuild Try.prog 86 [(0, a0), (1, a1), (2, a2)] = some (.agg [x0_0, x1_0, x2_0, .sl 0 0 0 0 0 true, .str []]) := by
  simp only [evBuild, placesA, fillA, ti86, ti84, ti3, ti44, ti9, Option.bind_some, h0, h1, h2, List.length_cons, List.length_nil, Nat.reduceAdd] <;> rfl
theorem bd86_0_1_2_4 {a0 : AV} {a1 : AV} {a2 : AV} {a4 : AV} {x0_0 x1_0 x2_0 x4_0 : AV} (h0 : a0.cells = some [x0_0]) (h1 : a1.cells = some [x1_0]) (h2 : a2.cells = some [x2_0]) (h4 : a4.cells = some [x4_0]) : evBuild Try.prog 86 [(0, a0), (1, a1), (2, a2), (4, a4)] = some (.agg [x0_0, x1_0, x2_0, .sl 0 0 0 0 0 true, x4_0]) := by
  simp only [evBuild, placesA, fillA, ti86, ti84, ti3, ti44, ti9, Option.bind_some, h0, h1, h2, h4, List.length_cons, List.length_nil, Nat.reduceAdd] <;> rfl
theorem bd86_0_2_3 {a0 : AV} {a2 : AV} {a3 : AV} {x0_0 x2_0 x3_0 : AV} (h0 : a0.cells = some [x0_0]) (h2 : a2.cells = some [x2_0]) (h3 : a3.cells = some [x3_0]) : evBuild Try.prog 86 [(0, a0), (2, a2), (3, a3)] = some (.agg [x0_0, .int .i64 0, x2_0, x3_0, .str []]) := by
  simp only [evBuild, placesA, fillA, ti86, ti84, ti3, ti44, ti9, Option.bind_some, h0, h2, h3, List.length_cons, List.length_nil, Nat.reduceAdd] <;> rfl
theorem fsq35 : flatStruct Try.prog 35 = true := by kernel_rfl
theorem eql35 (a0 : Int) (a1 : Int) (b0 : Int) (b1 : Int) : evBin Try.prog .eql 35 (.agg [.int .i64 a0, .int .i64 a1]) (.agg [.int .i64 b0, .int .i64 b1]) = some (.bool (decide (a0 = b0) && (decide (a1 = b1) && true))) := by
  simp only [evBin, evEq, fsq35, ti35, eqFields, ti3, if_true, Option.bind_some, List.getElem?_cons_zero, List.getElem?_cons_succ]
  try rfl
theorem neq35 (a0 : Int) (a1 : Int) (b0 : Int) (b1 : Int) : evBin Try.prog .neq 35 (.agg [.int .i64 a0, .int .i64 a1]) (.agg [.int .i64 b0, .int .i64 b1]) = some (.bool (!(decide (a0 = b0) && (decide (a1 = b1) && true)))) := by
  simp only [evBin, evEq, fsq35, ti35, eqFields, ti3, if_true, Option.bind_some, List.getElem?_cons_zero, List.getElem?_cons_succ]
  try rfl
theorem fsa41 : flatArr Try.prog 41 = true := by kernel_rfl
theorem fsq41 : flatStruct Try.prog 41 = false := by kernel_rfl
theorem eql41 (a0 : Int) (a1 : Int) (b0 : Int) (b1 : Int) : evBin Try.prog .eql 41 (.agg [.int .i64 a0, .int .i64 a1]) (.agg [.int .i64 b0, .int .i64 b1]) = some (.bool (decide (a0 = b0) && (decide (a1 = b1) && true))) := by
  simp only [evBin, evEq, fsq41, fsa41, Bool.false_eq_true, if_false, if_true, ti41, ti3, Option.bind_some]; rw [show arrFields 3 1 (List.range 2) = [(0, 3), (1, 3)] from rfl]; simp only [eqFields, ti3, if_true, Option.bind_some, List.getElem?_cons_zero, List.getElem?_cons_succ]
  try rfl
theorem neq41 (a0 : Int) (a1 : Int) (b0 : Int) (b1 : Int) : evBin Try.prog .neq 41 (.agg [.int .i64 a0, .int .i64 a1]) (.agg [.int .i64 b0, .int .i64 b1]) = some (.bool (!(decide (a0 = b0) && (decide (a1 = b1) && true)))) := by
  simp only [evBin, evEq, fsq41, fsa41, Bool.false_eq_true, if_false, if_true, ti41, ti3, Option.bind_some]; rw [show arrFields 3 1 (List.range 2) = [(0, 3), (1, 3)] from rfl]; simp only [eqFields, ti3, if_true, Option.bind_some, List.getElem?_cons_zero, List.getElem?_cons_succ]
  try rfl
end Gab
