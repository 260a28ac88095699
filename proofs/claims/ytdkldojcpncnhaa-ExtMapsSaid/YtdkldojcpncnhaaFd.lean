/- The Go functions as Lean functions over numbers and lists. Written by a program (gp.py). -/
import Derived.Test.YtdkldojcpncnhaaPu
set_option linter.unusedSimpArgs false
set_option linter.unusedVariables false
set_option maxHeartbeats 4000000
set_option maxRecDepth 100000
namespace Gab
open Go
def alloc_New_j1 (x0 : Int) (x10 : Bool) (zb2 : Int × (List (Int × Int))) : Option ((Int × (List (Int × Int))) × Int) :=
  (if x10 = true then some ((0, []), 2) else (if 0 < x0 then some ((x0, [(0, x0)]), 0) else some ((x0, []), 0)))
def alloc_New (a0 : Int) : Option ((Int × (List (Int × Int))) × Int) :=
  (if a0 < 0 then alloc_New_j1 a0 true (0, []) else alloc_New_j1 a0 (decide (65536 < a0)) (0, []))
def alloc_Set_Free_l0 (x7 : List (Int × Int)) (x3 : Int) (x9 : Int) : Option ((Int × Int) ⊕ Int) :=
  (if x9 < (x7.length : Int) then ((rd x7 x9).bind fun y4 => some (.inl ((wi64 (x3 + y4.2)), (wi64 (x9 + 1))))) else some (.inr x3))
def alloc_Set_Free (a0 : Int × (List (Int × Int))) : Option Int :=
  ((iter (fun (s : Int × Int) => alloc_Set_Free_l0 a0.2 s.1 s.2) (a0.2.length + 1) (0, 0)).bind fun e6 => some e6)
def alloc_Set_Size (a0 : Int × (List (Int × Int))) : Option Int :=
  some a0.1
def alloc_Extent_end (a0 : Int × Int) : Option Int :=
  some (wi64 (a0.1 + a0.2))
def alloc_Set_Has_1 (a0 : Int × Int) (q0 : Int) : Option Bool :=
  (if a0.1 ≤ q0 then ((alloc_Extent_end a0).bind fun y3 => some (decide (q0 < y3))) else some false)
def slices_IndexFunc_alloc_Extent_l0 (a1 : (Int × Int) → Option Bool) (x0 : List (Int × Int)) (x8 : Int) : Option (Int ⊕ (Int ⊕ Unit)) :=
  (if x8 < (x0.length : Int) then ((rd x0 x8).bind fun y3 => ((a1 y3).bind fun y4 => (if y4 = true then some (.inr (.inl x8)) else some (.inl (wi64 (x8 + 1)))))) else some (.inr (.inr ())))
def slices_IndexFunc_alloc_Extent (a0 : List (Int × Int)) (a1 : (Int × Int) → Option Bool) : Option Int :=
  ((iter (fun (s : Int) => slices_IndexFunc_alloc_Extent_l0 a1 a0 s) (a0.length + 1) 0).bind fun e6 => on e6 (fun x7 => some x7) (fun x9 => some (-1)))
def slices_ContainsFunc_alloc_Extent (a0 : List (Int × Int)) (a1 : (Int × Int) → Option Bool) : Option Bool :=
  ((slices_IndexFunc_alloc_Extent a0 a1).bind fun y1 => some (decide (0 ≤ y1)))
def alloc_Set_Has (a0 : Int × (List (Int × Int))) (a1 : Int) : Option Bool :=
  ((slices_ContainsFunc_alloc_Extent a0.2 (fun x0_ => alloc_Set_Has_1 x0_ a1)).bind fun y3 => some y3)
def alloc_Set_may (a0 : Int × (List (Int × Int))) (a1 : Int × Int) : Option Bool :=
  (if 0 ≤ a1.1 then (if 1 ≤ a1.2 then (if a1.2 ≤ a0.1 then some (decide (a1.1 ≤ (wi64 (a0.1 - a1.2)))) else some false) else some false) else some false)
def alloc_Set_Use_1 (a0 : Int × Int) (q0 : Int × Int) : Option Bool :=
  (if a0.1 ≤ q0.1 then ((alloc_Extent_end q0).bind fun y3 => ((alloc_Extent_end a0).bind fun y4 => some (decide (y3 ≤ y4)))) else some false)
def slices_Grow_alloc_Extent (a1 : Int) : Option (List (Int × Int)) := ifS (0 ≤ a1 ∧ a1 ≤ 8796093022208) (some [])
def slices_Concat_alloc_Extent_l0 (x0 : List (List (Int × Int))) (x9 : List (List (Int × Int))) (x3 : Int) (x11 : Int) : Option ((Int × Int) ⊕ Int) :=
  (if x11 < (x9.length : Int) then ((rd x9 x11).bind fun y4 => (if (wi64 (x3 + (y4.length : Int))) < 0 then none else some (.inl ((wi64 (x3 + (y4.length : Int))), (wi64 (x11 + 1)))))) else some (.inr x3))
def slices_Concat_alloc_Extent_l1 (x25 : List (List (Int × Int))) (x6 : List (Int × Int)) (x27 : Int) : Option (((List (Int × Int)) × Int) ⊕ (List (Int × Int))) :=
  (if x27 < (x25.length : Int) then ((rd x25 x27).bind fun y19 => ((appL 8796093022208 x6 y19).bind fun y21 => some (.inl (y21, (wi64 (x27 + 1)))))) else some (.inr x6))
def slices_Concat_alloc_Extent (a0 : List (List (Int × Int))) : Option (List (Int × Int)) :=
  ((iter (fun (s : Int × Int) => slices_Concat_alloc_Extent_l0 a0 a0 s.1 s.2) (a0.length + 1) (0, 0)).bind fun e8 => ((slices_Grow_alloc_Extent e8).bind fun y10 => ((iter (fun (s : (List (Int × Int)) × Int) => slices_Concat_alloc_Extent_l1 a0 s.1 s.2) (a0.length + 1) (y10, 0)).bind fun e28 => some e28)))
def alloc_Set_Use_j13 (x6 : Int) (x8 : List (Int × Int)) (x44 : List (Int × Int)) (x46 : Int) (zb2 : Int × (List (Int × Int))) (zb4 : Int × (List (Int × Int))) : Option (((List (Int × Int)) × Int) ⊕ (List (Int × Int))) :=
  some (.inl (x8, (wi64 (x46 + 1))))
def alloc_Set_Use_l0 (x6 : Int) (x44 : List (Int × Int)) (zb2 : Int × (List (Int × Int))) (zb4 : Int × (List (Int × Int))) (x8 : List (Int × Int)) (x46 : Int) : Option (((List (Int × Int)) × Int) ⊕ (List (Int × Int))) :=
  (if x46 < (x44.length : Int) then ((rd x44 x46).bind fun y24 => (if 0 < y24.2 then ((appL 8796093022208 x8 ([y24])).bind fun y31 => alloc_Set_Use_j13 x6 y31 x44 x46 zb2 zb4) else alloc_Set_Use_j13 x6 x8 x44 x46 zb2 zb4)) else some (.inr x8))
def alloc_Set_Use (a0 : Int × (List (Int × Int))) (a1 : Int × Int) : Option ((Int × (List (Int × Int))) × Int) :=
  ((alloc_Set_may a0 a1).bind fun y4 => (if y4 = true then ((slices_IndexFunc_alloc_Extent a0.2 (fun x0_ => alloc_Set_Use_1 x0_ a1)).bind fun y6 => (if y6 < 0 then some ((0, []), 8) else ((rd a0.2 y6).bind fun y8 => ((alloc_Extent_end a1).bind fun y10 => ((alloc_Extent_end y8).bind fun y11 => ((alloc_Extent_end a1).bind fun y12 => ((iter (fun (s : (List (Int × Int)) × Int) => alloc_Set_Use_l0 y6 ([(y8.1, (wi64 (a1.1 - y8.1))), (y10, (wi64 (y11 - y12)))]) a0 (0, []) s.1 s.2) (([(y8.1, (wi64 (a1.1 - y8.1))), (y10, (wi64 (y11 - y12)))]).length + 1) ([], 0)).bind fun e47 => ((cutL a0.2 0 y6).bind fun y53 => ((cutL a0.2 (wi64 (y6 + 1)) (a0.2.length : Int)).bind fun y54 => ((slices_Concat_alloc_Extent ([y53, e47, y54])).bind fun y61 => some ((a0.1, y61), 0))))))))))) else some ((0, []), 2)))
def alloc_Set_pieces_1 (a0 : Int × Int) (q0 : Int) : Option Bool :=
  some (decide (q0 ≤ a0.2))
def alloc_Set_pieces_l0 (x26 : List (Int × Int)) (x6 : List (Int × Int)) (x28 : Int) (zb3 : Int) : Option (((List (Int × Int)) × Int × Int) ⊕ (List (Int × Int))) :=
  (if x28 < (x26.length : Int) then ((rd x26 x28).bind fun y14 => (if zb3 = 0 then some (.inr x6) else ((appL 8796093022208 x6 ([(y14.1, (mn zb3 y14.2))])).bind fun y22 => some (.inl (y22, (wi64 (x28 + 1)), (wi64 (zb3 - (mn zb3 y14.2)))))))) else some (.inr x6))
def alloc_Set_pieces (a0 : Int × (List (Int × Int))) (a1 : Int) : Option (List (Int × Int)) :=
  ((slices_IndexFunc_alloc_Extent a0.2 (fun x0_ => alloc_Set_pieces_1 x0_ a1)).bind fun y3 => (if 0 ≤ y3 then ((rd a0.2 y3).bind fun y5 => some ([(y5.1, a1)])) else ((iter (fun (s : (List (Int × Int)) × Int × Int) => alloc_Set_pieces_l0 a0.2 s.1 s.2.1 s.2.2) (a0.2.length + 1) ([], 0, a1)).bind fun e28 => some e28)))
def alloc_Set_Take_l0 (x7 : List (Int × Int)) (x23 : List (Int × Int)) (zb4 : Int × (List (Int × Int))) (x25 : Int) (zb2 : Int × (List (Int × Int))) : Option ((Int × (Int × (List (Int × Int)))) ⊕ (Int × (List (Int × Int)))) :=
  (if x25 < (x23.length : Int) then ((rd x23 x25).bind fun y20 => ((alloc_Set_Use zb2 y20).bind fun y22 => some (.inl ((wi64 (x25 + 1)), y22.1)))) else some (.inr zb2))
def alloc_Set_Take (a0 : Int × (List (Int × Int))) (a1 : Int) : Option ((Int × (List (Int × Int))) × (List (Int × Int)) × Int) :=
  (if a1 < 1 then some ((0, []), [], 2) else ((alloc_Set_Free a0).bind fun y4 => (if y4 < a1 then some ((0, []), [], 12) else ((alloc_Set_pieces a0 a1).bind fun y6 => ((iter (fun (s : Int × (Int × (List (Int × Int)))) => alloc_Set_Take_l0 y6 y6 (0, []) s.1 s.2) (y6.length + 1) (0, a0)).bind fun e34 => some (e34, y6, 0))))))
def gabionlaw14_wakes : Option Bool :=
  ((alloc_New 10).bind fun y1 => ((alloc_Set_Use y1.1 (3, 2)).bind fun y9 => ((alloc_Set_Take y9.1 4).bind fun y17 => ((alloc_Set_Take y9.1 6).bind fun y23 => (if y1.2 = 0 then (if y9.2 = 0 then (if y17.2.2 = 0 then (if y23.2.2 = 0 then (if (y17.2.1.length : Int) = 1 then ((rd y17.2.1 0).bind fun y34 => (if (decide (y34.1 = 5) && (decide (y34.2 = 4) && true)) = true then (if (y23.2.1.length : Int) = 2 then ((rd y23.2.1 1).bind fun y37 => (if (decide (y37.1 = 5) && (decide (y37.2 = 3) && true)) = true then ((alloc_Set_Free y1.1).bind fun y39 => some (decide (y39 = 10))) else some false)) else some false) else some false)) else some false) else some false) else some false) else some false) else some false)))))
def gabionlaw14_AllocMakes_j7 (x12 : List Int) (x14 : Int) (x60 : Bool) : Option (Int ⊕ (Bool ⊕ Unit)) :=
  (if x60 = true then some (.inr (.inl false)) else some (.inl (wi64 (x14 + 1))))
def gabionlaw14_AllocMakes_j6 (x4 : Int) (x6 : Int) (x7 : Bool) (x12 : List Int) (x14 : Int) (zb5 : Int × (List (Int × Int))) : Option (Int ⊕ (Bool ⊕ Unit)) :=
  (if x7 = (decide (x6 = 0)) then (if x7 = true then ((alloc_Set_Free zb5).bind fun y21 => (if y21 ≠ x4 then gabionlaw14_AllocMakes_j7 x12 x14 true else ((alloc_Set_Size zb5).bind fun y27 => (if y27 ≠ x4 then gabionlaw14_AllocMakes_j7 x12 x14 true else ((alloc_Set_Has zb5 x4).bind fun y31 => gabionlaw14_AllocMakes_j7 x12 x14 y31))))) else (if x6 ≠ 2 then gabionlaw14_AllocMakes_j7 x12 x14 true else gabionlaw14_AllocMakes_j7 x12 x14 false)) else gabionlaw14_AllocMakes_j7 x12 x14 true)
def gabionlaw14_AllocMakes_l0 (x12 : List Int) (x14 : Int) : Option (Int ⊕ (Bool ⊕ Unit)) :=
  (if x14 < (x12.length : Int) then ((rd x12 x14).bind fun y7 => ((alloc_New y7).bind fun y8 => (if 0 ≤ y7 then gabionlaw14_AllocMakes_j6 y7 y8.2 (decide (y7 ≤ 65536)) x12 x14 y8.1 else gabionlaw14_AllocMakes_j6 y7 y8.2 false x12 x14 y8.1))) else some (.inr (.inr ())))
def gabionlaw14_AllocMakes (a0 : Int) : Option Bool :=
  ((iter (fun (s : Int) => gabionlaw14_AllocMakes_l0 ([a0, (Int.tmod (mx 0 a0) 70000)]) s) (([a0, (Int.tmod (mx 0 a0) 70000)]).length + 1) 0).bind fun e35 => on e35 (fun x36 => some x36) (fun x38 => ((gabionlaw14_wakes).bind fun y39 => some y39)))
def slices_Clone_alloc_Extent (a0 : List (Int × Int)) : Option (List (Int × Int)) := appL 8796093022208 [] a0
def alloc_Set_List (a0 : Int × (List (Int × Int))) : Option (List (Int × Int)) :=
  ((slices_Clone_alloc_Extent a0.2).bind fun y2 => some y2)
def gabionlaw14_AllocAll_j10 (x32 : List Int) (x34 : Int) (zb3 : Int × (List (Int × Int))) : Option ((Int × (Int × (List (Int × Int)))) ⊕ (Int × (List (Int × Int)))) :=
  some (.inl ((wi64 (x34 + 1)), zb3))
def gabionlaw14_AllocAll_l0 (x32 : List Int) (x34 : Int) (zb3 : Int × (List (Int × Int))) : Option ((Int × (Int × (List (Int × Int)))) ⊕ (Int × (List (Int × Int)))) :=
  (if x34 < (x32.length : Int) then ((rd x32 x34).bind fun y20 => ((alloc_Set_Use zb3 ((wi64 (Int.tmod y20 60)), 1)).bind fun y21 => (if y21.2 = 0 then gabionlaw14_AllocAll_j10 x32 x34 y21.1 else gabionlaw14_AllocAll_j10 x32 x34 zb3))) else some (.inr zb3))
def gabionlaw14_AllocAll_l1 (x10 : List (Int × Int)) (x15 : List (Int × Int)) (x97 : Int) : Option (Int ⊕ (Bool ⊕ Unit)) :=
  (if x97 < (x10.length : Int) then ((rd x15 x97).bind fun y70 => ((rd x10 x97).bind fun y71 => (if (decide (y70.1 = y71.1) && (decide (y70.2 = y71.2) && true)) = true then some (.inl (wi64 (x97 + 1))) else some (.inr (.inl false))))) else some (.inr (.inr ())))
def gabionlaw14_AllocAll_j20 (x10 : List (Int × Int)) (x15 : List (Int × Int)) (x94 : Bool) : Option Bool :=
  (if x94 = true then some false else ((iter (fun (s : Int) => gabionlaw14_AllocAll_l1 x10 x15 s) (x10.length + 1) 0).bind fun e73 => on e73 (fun x74 => some x74) (fun x76 => some true)))
def gabionlaw14_AllocAll_j15 (x9 : Int) (x10 : List (Int × Int)) (x69 : Bool) (zb3 : Int × (List (Int × Int))) : Option Bool :=
  (if x69 = true then some false else ((alloc_Set_Take zb3 x9).bind fun y56 => (if x9 = 0 then some (decide (y56.2.2 = 2)) else (if y56.2.2 ≠ 0 then gabionlaw14_AllocAll_j20 x10 y56.2.1 true else ((alloc_Set_Free y56.1).bind fun y77 => (if y77 ≠ 0 then gabionlaw14_AllocAll_j20 x10 y56.2.1 true else gabionlaw14_AllocAll_j20 x10 y56.2.1 (decide ((y56.2.1.length : Int) ≠ (x10.length : Int)))))))))
def gabionlaw14_AllocAll_j2 (x0 : List Int) (x27 : Bool) (zb3 : Int × (List (Int × Int))) : Option Bool :=
  (if x27 = true then some false else ((cutL x0 0 (mn (x0.length : Int) 59)).bind fun y14 => ((iter (fun (s : Int × (Int × (List (Int × Int)))) => gabionlaw14_AllocAll_l0 y14 s.1 s.2) (y14.length + 1) (0, zb3)).bind fun e35 => ((alloc_Set_Free e35).bind fun y38 => ((alloc_Set_List e35).bind fun y39 => ((alloc_Set_Take e35 (wi64 (y38 + 1))).bind fun y45 => (if y45.2.2 ≠ 12 then gabionlaw14_AllocAll_j15 y38 y39 true e35 else gabionlaw14_AllocAll_j15 y38 y39 (decide ((y45.2.1.length : Int) ≠ 0)) e35)))))))
def gabionlaw14_AllocAll (a0 : List Int) : Option Bool :=
  ((alloc_New 60).bind fun y1 => ((gabionlaw14_wakes).bind fun y8 => (if y8 = true then gabionlaw14_AllocAll_j2 a0 (decide (y1.2 ≠ 0)) y1.1 else gabionlaw14_AllocAll_j2 a0 true y1.1)))
def gabionref15_joins_j1 (x12 : Bool) (zb2 : Int × Int) (zb3 : Int × Int) : Option Bool :=
  (if x12 = true then (if zb2.1 = (-1) then some (decide (zb3.1 = (-1))) else some false) else some (decide ((wi64 (zb2.1 + zb2.2)) = zb3.1)))
def gabionref15_joins (a0 : Int × Int) (a1 : Int × Int) : Option Bool :=
  (if a0.1 = (-1) then gabionref15_joins_j1 true a0 a1 else gabionref15_joins_j1 (decide (a1.1 = (-1))) a0 a1)
def gabionref15_Runs_j10 (x0 : List Int) (x3 : List (Int × Int)) (x4 : Int) : Option (((List (Int × Int)) × Int) ⊕ (List (Int × Int))) :=
  some (.inl (x3, (wi64 (x4 + 1))))
def gabionref15_Runs_j11 (x0 : List Int) (x3 : List (Int × Int)) (x4 : Int) : Option (((List (Int × Int)) × Int) ⊕ (List (Int × Int))) :=
  ((rd x0 x4).bind fun y17 => ((appL 8796093022208 x3 ([(y17, 1)])).bind fun y22 => gabionref15_Runs_j10 x0 y22 x4))
def gabionref15_Runs_l0 (x0 : List Int) (x3 : List (Int × Int)) (x4 : Int) : Option (((List (Int × Int)) × Int) ⊕ (List (Int × Int))) :=
  (if x4 < (x0.length : Int) then (if 0 < (x3.length : Int) then ((rd x3 (wi64 ((x3.length : Int) - 1))).bind fun y5 => ((rd x0 x4).bind fun y6 => ((gabionref15_joins y5 (y6, 1)).bind fun y7 => (if y7 = true then ((rd x3 (wi64 ((x3.length : Int) - 1))).bind fun y9 => ((rd x3 (wi64 ((x3.length : Int) - 1))).bind fun y10 => gabionref15_Runs_j10 x0 (x3.set ((wi64 ((x3.length : Int) - 1)).toNat) (y10.1, (wi64 (y9.2 + 1)))) x4)) else gabionref15_Runs_j11 x0 x3 x4)))) else gabionref15_Runs_j11 x0 x3 x4) else some (.inr x3))
def gabionref15_Runs (a0 : List Int) : Option (List (Int × Int)) :=
  ((iter (fun (s : (List (Int × Int)) × Int) => gabionref15_Runs_l0 a0 s.1 s.2) (100000) ([], 0)).bind fun e28 => some e28)
def gabionlaw15_tame_j12 (x3 : List Int) (x6 : Int) (x13 : List (Int × Int)) (x15 : Int) (x28 : Int) (x29 : Int) : Option (((List Int) × Int × Int) ⊕ ((List Int) × Int)) :=
  some (.inl (x3, x15, (wi64 (x29 + 1))))
def gabionlaw15_tame_l1 (x6 : Int) (x13 : List (Int × Int)) (x28 : Int) (x3 : List Int) (x15 : Int) (x29 : Int) : Option (((List Int) × Int × Int) ⊕ ((List Int) × Int)) :=
  (if x29 < x28 then (if x6 < 0 then ((appL 17592186044416 x3 ([(-1)])).bind fun y15 => gabionlaw15_tame_j12 y15 x6 x13 x15 x28 x29) else ((appL 17592186044416 x3 ([(wi64 (x6 + x29))])).bind fun y26 => gabionlaw15_tame_j12 y26 x6 x13 x15 x28 x29)) else some (.inr (x3, x15)))
def gabionlaw15_tame_l0 (x13 : List (Int × Int)) (x3 : List Int) (x15 : Int) : Option (((List Int) × Int) ⊕ (List Int)) :=
  (if x15 < (x13.length : Int) then ((rd x13 x15).bind fun y5 => ((iter (fun (s : (List Int) × Int × Int) => gabionlaw15_tame_l1 (Int.tmod (mx (-1) y5.1) 200) x13 (wi64 (1 + (Int.tmod (mx 0 y5.2) 9))) s.1 s.2.1 s.2.2) ((wi64 (1 + (Int.tmod (mx 0 y5.2) 9))).toNat + 1) (x3, x15, 0)).bind fun e33 => some (.inl (e33.1, (wi64 (e33.2 + 1)))))) else some (.inr x3))
def gabionlaw15_tame (a0 : List (Int × Int)) : Option (List (Int × Int)) :=
  ((cutL a0 0 (mn (a0.length : Int) 20)).bind fun y1 => ((iter (fun (s : (List Int) × Int) => gabionlaw15_tame_l0 y1 s.1 s.2) (y1.length + 1) ([], 0)).bind fun e38 => ((gabionref15_Runs e38).bind fun y41 => some y41)))
def gabionlaw15_list_l0 (x0 : List (Int × Int)) (x12 : List (Int × Int)) (x4 : List (Int × Int)) (x14 : Int) : Option (((List (Int × Int)) × Int) ⊕ (List (Int × Int))) :=
  (if x14 < (x12.length : Int) then ((rd x12 x14).bind fun y6 => ((appL 8796093022208 x4 ([y6])).bind fun y12 => some (.inl (y12, (wi64 (x14 + 1)))))) else some (.inr x4))
def gabionlaw15_list (a0 : List (Int × Int)) : Option ((List (Int × Int)) × (List (Int × Int))) :=
  ((cutL a0 0 (mn (a0.length : Int) 70)).bind fun y1 => ((iter (fun (s : (List (Int × Int)) × Int) => gabionlaw15_list_l0 y1 y1 s.1 s.2) (y1.length + 1) ([], 0)).bind fun e19 => some (e19, y1)))
def gabionref15_Right_j12 (x0 : List (Int × Int)) (x3 : Int) (x4 : Int) : Option ((Int × Int) ⊕ (Bool ⊕ Int)) :=
  ((rd x0 x4).bind fun y14 => some (.inl ((wi64 (x3 + y14.2)), (wi64 (x4 + 1)))))
def gabionref15_Right_j7 (x0 : List (Int × Int)) (x3 : Int) (x4 : Int) (x44 : Bool) : Option ((Int × Int) ⊕ (Bool ⊕ Int)) :=
  (if x44 = true then some (.inr (.inl false)) else (if 0 < x4 then ((rd x0 (wi64 (x4 - 1))).bind fun y9 => ((rd x0 x4).bind fun y10 => ((gabionref15_joins y9 y10).bind fun y11 => (if y11 = true then some (.inr (.inl false)) else gabionref15_Right_j12 x0 x3 x4)))) else gabionref15_Right_j12 x0 x3 x4))
def gabionref15_Right_l0 (x0 : List (Int × Int)) (x3 : Int) (x4 : Int) : Option ((Int × Int) ⊕ (Bool ⊕ Int)) :=
  (if x4 < (x0.length : Int) then ((rd x0 x4).bind fun y4 => (if y4.1 < (-1) then gabionref15_Right_j7 x0 x3 x4 true else ((rd x0 x4).bind fun y15 => (if 65536 < y15.1 then gabionref15_Right_j7 x0 x3 x4 true else ((rd x0 x4).bind fun y17 => (if y17.2 < 1 then gabionref15_Right_j7 x0 x3 x4 true else ((rd x0 x4).bind fun y19 => gabionref15_Right_j7 x0 x3 x4 (decide (65536 < y19.2))))))))) else some (.inr (.inr x3)))
def gabionref15_Right (a0 : List (Int × Int)) : Option Bool :=
  (if 64 < (a0.length : Int) then some false else ((iter (fun (s : Int × Int) => gabionref15_Right_l0 a0 s.1 s.2) (100000) (0, 0)).bind fun e20 => on e20 (fun x21 => some x21) (fun x23 => some (decide (x23 ≤ 65536)))))
def ext_List_Blocks_l0 (x6 : List (Int × Int)) (x3 : Int) (x8 : Int) : Option ((Int × Int) ⊕ Int) :=
  (if x8 < (x6.length : Int) then ((rd x6 x8).bind fun y3 => some (.inl ((wi64 (x3 + y3.2)), (wi64 (x8 + 1))))) else some (.inr x3))
def ext_List_Blocks (a0 : List (Int × Int)) : Option Int :=
  ((iter (fun (s : Int × Int) => ext_List_Blocks_l0 a0 s.1 s.2) (a0.length + 1) (0, 0)).bind fun e5 => some e5)
def ext_joins_j1 (x12 : Bool) (zb2 : Int × Int) (zb3 : Int × Int) : Option Bool :=
  (if x12 = true then some (decide (zb2.1 = zb3.1)) else some (decide ((wi64 (zb2.1 + zb2.2)) = zb3.1)))
def ext_joins (a0 : Int × Int) (a1 : Int × Int) : Option Bool :=
  (if a0.1 = (-1) then ext_joins_j1 true a0 a1 else ext_joins_j1 (decide (a1.1 = (-1))) a0 a1)
def ext_List_Right_j6 (x0 : List (Int × Int)) (x3 : Int) (x6 : List (Int × Int)) (x8 : Int) (x43 : Bool) (zb5 : Int × Int) : Option ((Int × Int) ⊕ (Bool ⊕ Int)) :=
  (if x43 = true then some (.inr (.inl false)) else some (.inl ((wi64 (x3 + zb5.2)), (wi64 (x8 + 1)))))
def ext_List_Right_l0 (x0 : List (Int × Int)) (x6 : List (Int × Int)) (x3 : Int) (x8 : Int) : Option ((Int × Int) ⊕ (Bool ⊕ Int)) :=
  (if x8 < (x6.length : Int) then ((rd x6 x8).bind fun y4 => (if y4.2 < 1 then ext_List_Right_j6 x0 x3 x6 x8 true y4 else (if 65536 < y4.2 then ext_List_Right_j6 x0 x3 x6 x8 true y4 else (if y4.1 < (-1) then ext_List_Right_j6 x0 x3 x6 x8 true y4 else (if 65536 < y4.1 then ext_List_Right_j6 x0 x3 x6 x8 true y4 else (if 0 < x8 then ((rd x0 (wi64 (x8 - 1))).bind fun y15 => ((ext_joins y15 y4).bind fun y16 => ext_List_Right_j6 x0 x3 x6 x8 y16 y4)) else ext_List_Right_j6 x0 x3 x6 x8 false y4)))))) else some (.inr (.inr x3)))
def ext_List_Right (a0 : List (Int × Int)) : Option Bool :=
  ((iter (fun (s : Int × Int) => ext_List_Right_l0 a0 a0 s.1 s.2) (a0.length + 1) (0, 0)).bind fun e18 => on e18 (fun x19 => some x19) (fun x21 => (if (a0.length : Int) ≤ 64 then some (decide (x21 ≤ 65536)) else some false)))
def ext_together_j12 (x3 : List (Int × Int)) (x9 : List (List (Int × Int))) (x11 : Int) (x15 : List (Int × Int)) (x17 : Int) : Option (((List (Int × Int)) × Int × Int) ⊕ ((List (Int × Int)) × Int)) :=
  some (.inl (x3, x11, (wi64 (x17 + 1))))
def ext_together_j11 (x3 : List (Int × Int)) (x8 : Int) (x9 : List (List (Int × Int))) (x11 : Int) (x15 : List (Int × Int)) (x17 : Int) (x33 : Bool) (zb7 : Int × Int) : Option (((List (Int × Int)) × Int × Int) ⊕ ((List (Int × Int)) × Int)) :=
  (if x33 = true then ((rd x3 x8).bind fun y20 => ((rd x3 x8).bind fun y21 => ext_together_j12 (x3.set x8.toNat (y21.1, (wi64 (y20.2 + zb7.2)))) x9 x11 x15 x17)) else ((appL 8796093022208 x3 ([zb7])).bind fun y31 => ext_together_j12 y31 x9 x11 x15 x17))
def ext_together_l1 (x9 : List (List (Int × Int))) (x15 : List (Int × Int)) (x3 : List (Int × Int)) (x11 : Int) (x17 : Int) : Option (((List (Int × Int)) × Int × Int) ⊕ ((List (Int × Int)) × Int)) :=
  (if x17 < (x15.length : Int) then ((rd x15 x17).bind fun y10 => (if 0 ≤ (wi64 ((x3.length : Int) - 1)) then ((rd x3 (wi64 ((x3.length : Int) - 1))).bind fun y13 => ((ext_joins y13 y10).bind fun y14 => ext_together_j11 x3 (wi64 ((x3.length : Int) - 1)) x9 x11 x15 x17 y14 y10)) else ext_together_j11 x3 (wi64 ((x3.length : Int) - 1)) x9 x11 x15 x17 false y10)) else some (.inr (x3, x11)))
def ext_together_l0 (x9 : List (List (Int × Int))) (x3 : List (Int × Int)) (x11 : Int) : Option (((List (Int × Int)) × Int) ⊕ (List (Int × Int))) :=
  (if x11 < (x9.length : Int) then ((rd x9 x11).bind fun y4 => ((iter (fun (s : (List (Int × Int)) × Int × Int) => ext_together_l1 x9 y4 s.1 s.2.1 s.2.2) (y4.length + 1) (x3, x11, 0)).bind fun e38 => some (.inl (e38.1, (wi64 (e38.2 + 1)))))) else some (.inr x3))
def ext_together (a0 : List (List (Int × Int))) : Option (List (Int × Int)) :=
  ((iter (fun (s : (List (Int × Int)) × Int) => ext_together_l0 a0 s.1 s.2) (a0.length + 1) ([], 0)).bind fun e43 => some e43)
def ext_checked (a0 : List (Int × Int)) : Option ((List (Int × Int)) × Int) :=
  ((ext_List_Right a0).bind fun y1 => (if y1 = true then some (a0, 0) else some ([], 7)))
def ext_List_Append (a0 : List (Int × Int)) (a1 : Int × Int) : Option ((List (Int × Int)) × Int) :=
  ((ext_List_Right a0).bind fun y2 => (if y2 = true then ((ext_List_Right ([a1])).bind fun y8 => (if y8 = true then ((ext_together ([a0, [a1]])).bind fun y22 => ((ext_checked y22).bind fun y29 => some (y29.1, y29.2))) else some ([], 7))) else some ([], 2)))
def gabionref15_Blocks_j9 (x0 : List (Int × Int)) (x3 : List Int) (x4 : Int) (x5 : Int) : Option (((List Int) × Int × Int) ⊕ ((List Int) × Int)) :=
  some (.inl (x3, x4, (wi64 (x5 + 1))))
def gabionref15_Blocks_l1 (x0 : List (Int × Int)) (x3 : List Int) (x4 : Int) (x5 : Int) : Option (((List Int) × Int × Int) ⊕ ((List Int) × Int)) :=
  ((rd x0 x4).bind fun y6 => (if x5 < y6.2 then ((rd x0 x4).bind fun y8 => (if y8.1 = (-1) then ((appL 17592186044416 x3 ([(-1)])).bind fun y14 => gabionref15_Blocks_j9 x0 y14 x4 x5) else ((rd x0 x4).bind fun y21 => ((appL 17592186044416 x3 ([(wi64 (y21.1 + x5))])).bind fun y26 => gabionref15_Blocks_j9 x0 y26 x4 x5)))) else some (.inr (x3, x4))))
def gabionref15_Blocks_l0 (x0 : List (Int × Int)) (x3 : List Int) (x4 : Int) : Option (((List Int) × Int) ⊕ (List Int)) :=
  (if x4 < (x0.length : Int) then ((iter (fun (s : (List Int) × Int × Int) => gabionref15_Blocks_l1 x0 s.1 s.2.1 s.2.2) (100000) (x3, x4, 0)).bind fun e33 => some (.inl (e33.1, (wi64 (e33.2 + 1))))) else some (.inr x3))
def gabionref15_Blocks (a0 : List (Int × Int)) : Option (List Int) :=
  ((iter (fun (s : (List Int) × Int) => gabionref15_Blocks_l0 a0 s.1 s.2) (100000) ([], 0)).bind fun e38 => some e38)
def gabionref15_Append (a0 : List (Int × Int)) (a1 : Int) (a2 : Int) : Option ((List (Int × Int)) × Int) :=
  ((gabionref15_Right a0).bind fun y1 => (if y1 = true then ((gabionref15_Right ([(a1, a2)])).bind fun y7 => (if y7 = true then ((gabionref15_Blocks a0).bind fun y11 => ((gabionref15_Blocks ([(a1, a2)])).bind fun y22 => ((appL 17592186044416 y11 y22).bind fun y28 => ((gabionref15_Runs y28).bind fun y34 => ((gabionref15_Right y34).bind fun y40 => (if y40 = true then some (y34, 0) else some ([], 7))))))) else some ([], 7))) else some ([], 2)))
def gabionlaw15_same_j7 (x1 : List (Int × Int)) (x12 : List (Int × Int)) (x14 : Int) (x36 : Bool) : Option (Int ⊕ (Bool ⊕ Unit)) :=
  (if x36 = true then some (.inr (.inl false)) else some (.inl (wi64 (x14 + 1))))
def gabionlaw15_same_l0 (x1 : List (Int × Int)) (x12 : List (Int × Int)) (x14 : Int) : Option (Int ⊕ (Bool ⊕ Unit)) :=
  (if x14 < (x12.length : Int) then ((rd x12 x14).bind fun y5 => ((rd x1 x14).bind fun y7 => (if y5.1 ≠ y7.1 then gabionlaw15_same_j7 x1 x12 x14 true else ((rd x1 x14).bind fun y12 => gabionlaw15_same_j7 x1 x12 x14 (decide (y5.2 ≠ y12.2)))))) else some (.inr (.inr ())))
def gabionlaw15_same (a0 : List (Int × Int)) (a1 : List (Int × Int)) : Option Bool :=
  (if (a0.length : Int) ≠ (a1.length : Int) then some false else ((iter (fun (s : Int) => gabionlaw15_same_l0 a1 a0 s) (a0.length + 1) 0).bind fun e13 => on e13 (fun x14 => some x14) (fun x16 => some true)))
def slices_Clone_ext_List_alloc_Extent (a0 : List (Int × Int)) : Option (List (Int × Int)) := appL 8796093022208 [] a0
def ext_part_j2 (x1 : Int) (zb2 : Int × Int) (zb4 : Int × Int) : Option (Int × Int) :=
  some (zb2.1, (wi64 (zb2.2 - x1)))
def ext_part (a0 : Int × Int) (a1 : Int) : Option (Int × Int) :=
  (if a0.1 ≠ (-1) then ext_part_j2 a1 ((wi64 (a0.1 + a1)), a0.2) (0, 0) else ext_part_j2 a1 a0 (0, 0))
def ext_List_split_l0 (x0 : List (Int × Int)) (x10 : List (Int × Int)) (x1 : Int) (x12 : Int) : Option ((Int × Int) ⊕ (((List (Int × Int)) × (List (Int × Int))) ⊕ Unit)) :=
  (if x12 < (x10.length : Int) then ((rd x10 x12).bind fun y4 => (if y4.2 ≤ x1 then some (.inl ((wi64 (x1 - y4.2)), (wi64 (x12 + 1)))) else ((cutL x0 0 x12).bind fun y7 => ((cutL x0 x12 (x0.length : Int)).bind fun y8 => ((slices_Clone_ext_List_alloc_Extent y7).bind fun y9 => ((slices_Clone_ext_List_alloc_Extent y8).bind fun y15 => (if 0 < x1 then ((appL 8796093022208 y9 ([(y4.1, x1)])).bind fun y26 => ((ext_part y4 x1).bind fun y31 => ((rd y15 0).bind fun y32 => some (.inr (.inl (y26, (y15.set ((0 : Int).toNat) y31))))))) else some (.inr (.inl (y9, y15)))))))))) else some (.inr (.inr ())))
def ext_List_split (a0 : List (Int × Int)) (a1 : Int) : Option ((List (Int × Int)) × (List (Int × Int))) :=
  ((iter (fun (s : Int × Int) => ext_List_split_l0 a0 a0 s.1 s.2) (a0.length + 1) (a1, 0)).bind fun e36 => on e36 (fun x37 => some x37) (fun x39 => ((slices_Clone_ext_List_alloc_Extent a0).bind fun y41 => some (y41, []))))
def ext_List_Held_j7 (x3 : Int) (x6 : List (Int × Int)) (x8 : Int) : Option ((Int × Int) ⊕ Int) :=
  some (.inl (x3, (wi64 (x8 + 1))))
def ext_List_Held_l0 (x6 : List (Int × Int)) (x3 : Int) (x8 : Int) : Option ((Int × Int) ⊕ Int) :=
  (if x8 < (x6.length : Int) then ((rd x6 x8).bind fun y3 => (if y3.1 ≠ (-1) then ext_List_Held_j7 (wi64 (x3 + y3.2)) x6 x8 else ext_List_Held_j7 x3 x6 x8)) else some (.inr x3))
def ext_List_Held (a0 : List (Int × Int)) : Option Int :=
  ((iter (fun (s : Int × Int) => ext_List_Held_l0 a0 s.1 s.2) (a0.length + 1) (0, 0)).bind fun e7 => some e7)
def ext_List_Fill_j1 (x0 : List (Int × Int)) (x1 : Int) (x44 : Bool) (zb5 : Int × Int) : Option ((List (Int × Int)) × Int) :=
  (if x44 = true then some ([], 2) else ((ext_List_split x0 x1).bind fun y8 => ((ext_List_split y8.2 zb5.2).bind fun y20 => ((ext_List_Held y20.1).bind fun y31 => (if 0 < y31 then some ([], 2) else ((ext_together ([y8.1, [zb5], y20.2])).bind fun y47 => ((ext_checked y47).bind fun y54 => some (y54.1, y54.2))))))))
def ext_List_Fill (a0 : List (Int × Int)) (a1 : Int) (a2 : Int × Int) : Option ((List (Int × Int)) × Int) :=
  ((ext_List_Right a0).bind fun y2 => (if y2 = true then (if a2.1 < 0 then ext_List_Fill_j1 a0 a1 true a2 else (if a2.2 < 1 then ext_List_Fill_j1 a0 a1 true a2 else (if a1 < 0 then ext_List_Fill_j1 a0 a1 true a2 else ((ext_List_Blocks a0).bind fun y59 => (if y59 < a2.2 then ext_List_Fill_j1 a0 a1 true a2 else ((ext_List_Blocks a0).bind fun y61 => ext_List_Fill_j1 a0 a1 (decide ((wi64 (y61 - a2.2)) < a1)) a2)))))) else ext_List_Fill_j1 a0 a1 true a2))
def gabionref15_Fill_l0 (x1 : Int) (x2 : Int) (x3 : Int) (x11 : List Int) (x12 : List Int) (x13 : Int) : Option (((List Int) × Int) ⊕ (((List (Int × Int)) × Int) ⊕ (List Int))) :=
  (if x13 < x3 then ((rd x11 (wi64 (x1 + x13))).bind fun y24 => (if y24 ≠ (-1) then some (.inr (.inl ([], 2))) else ((rd x12 (wi64 (x1 + x13))).bind fun y26 => some (.inl ((x12.set ((wi64 (x1 + x13)).toNat) (wi64 (x2 + x13))), (wi64 (x13 + 1))))))) else some (.inr (.inr x12)))
def gabionref15_Fill_j5 (x1 : Int) (x2 : Int) (x3 : Int) (x11 : List Int) (x44 : Bool) : Option ((List (Int × Int)) × Int) :=
  (if x44 = true then some ([], 2) else ((appL 17592186044416 ([] : List Int) x11).bind fun y16 => ((iter (fun (s : (List Int) × Int) => gabionref15_Fill_l0 x1 x2 x3 x11 s.1 s.2) (100000) (y16, 0)).bind fun e30 => on e30 (fun x31 => some x31) (fun x33 => ((gabionref15_Runs x33).bind fun y36 => ((gabionref15_Right y36).bind fun y42 => (if y42 = true then some (y36, 0) else some ([], 7))))))))
def gabionref15_Fill_j2 (x0 : List (Int × Int)) (x1 : Int) (x2 : Int) (x3 : Int) (x30 : Bool) : Option ((List (Int × Int)) × Int) :=
  (if x30 = true then some ([], 2) else ((gabionref15_Blocks x0).bind fun y6 => (if (y6.length : Int) < x3 then gabionref15_Fill_j5 x1 x2 x3 y6 true else gabionref15_Fill_j5 x1 x2 x3 y6 (decide ((wi64 ((y6.length : Int) - x3)) < x1)))))
def gabionref15_Fill (a0 : List (Int × Int)) (a1 : Int) (a2 : Int) (a3 : Int) : Option ((List (Int × Int)) × Int) :=
  ((gabionref15_Right a0).bind fun y1 => (if y1 = true then (if a2 < 0 then gabionref15_Fill_j2 a0 a1 a2 a3 true else (if a3 < 1 then gabionref15_Fill_j2 a0 a1 a2 a3 true else gabionref15_Fill_j2 a0 a1 a2 a3 (decide (a1 < 0)))) else gabionref15_Fill_j2 a0 a1 a2 a3 true))
def slices_IndexFunc_ext_List_alloc_Extent_l0 (a1 : (Int × Int) → Option Bool) (x0 : List (Int × Int)) (x8 : Int) : Option (Int ⊕ (Int ⊕ Unit)) :=
  (if x8 < (x0.length : Int) then ((rd x0 x8).bind fun y3 => ((a1 y3).bind fun y4 => (if y4 = true then some (.inr (.inl x8)) else some (.inl (wi64 (x8 + 1)))))) else some (.inr (.inr ())))
def slices_IndexFunc_ext_List_alloc_Extent (a0 : List (Int × Int)) (a1 : (Int × Int) → Option Bool) : Option Int :=
  ((iter (fun (s : Int) => slices_IndexFunc_ext_List_alloc_Extent_l0 a1 a0 s) (a0.length + 1) 0).bind fun e6 => on e6 (fun x7 => some x7) (fun x9 => some (-1)))
def slices_DeleteFunc_ext_List_alloc_Extent_j10 (a1 : (Int × Int) → Option Bool) (x0 : List (Int × Int)) (x5 : Int) (x6 : Int) : Option (((List (Int × Int)) × Int × Int) ⊕ ((List (Int × Int)) × Int)) :=
  some (.inl (x0, x5, (wi64 (x6 + 1))))
def slices_DeleteFunc_ext_List_alloc_Extent_l0 (a1 : (Int × Int) → Option Bool) (x0 : List (Int × Int)) (x5 : Int) (x6 : Int) : Option (((List (Int × Int)) × Int × Int) ⊕ ((List (Int × Int)) × Int)) :=
  (if x6 < (x0.length : Int) then ((rd x0 x6).bind fun y8 => ((a1 y8).bind fun y10 => (if y10 = true then slices_DeleteFunc_ext_List_alloc_Extent_j10 a1 x0 x5 x6 else ((rd x0 x5).bind fun y13 => slices_DeleteFunc_ext_List_alloc_Extent_j10 a1 (x0.set x5.toNat y8) (wi64 (x5 + 1)) x6)))) else some (.inr (x0, x5)))
def slices_DeleteFunc_ext_List_alloc_Extent (a0 : List (Int × Int)) (a1 : (Int × Int) → Option Bool) : Option (List (Int × Int)) :=
  ((slices_IndexFunc_ext_List_alloc_Extent a0 a1).bind fun y1 => (if y1 = (-1) then some a0 else ((iter (fun (s : (List (Int × Int)) × Int × Int) => slices_DeleteFunc_ext_List_alloc_Extent_l0 a1 s.1 s.2.1 s.2.2) (100000) (a0, y1, (wi64 (y1 + 1)))).bind fun e17 => ((cutL e17.1 e17.2 (e17.1.length : Int)).bind fun y19 => ((cutL (e17.1.take e17.2.toNat ++ List.replicate y19.length (0, 0)) 0 e17.2).bind fun y23 => some y23)))))
def ext_List_Cut_1 (a0 : Int × Int) : Option Bool :=
  some (decide (a0.1 = (-1)))
def ext_List_Cut_j1 (x0 : List (Int × Int)) (x1 : Int) (x22 : Bool) : Option ((List (Int × Int)) × (List (Int × Int)) × Int) :=
  (if x22 = true then some ([], [], 2) else ((ext_List_split x0 x1).bind fun y6 => ((slices_DeleteFunc_ext_List_alloc_Extent y6.2 (fun x0_ => ext_List_Cut_1 x0_)).bind fun y17 => some (y6.1, y17, 0))))
def ext_List_Cut (a0 : List (Int × Int)) (a1 : Int) : Option ((List (Int × Int)) × (List (Int × Int)) × Int) :=
  ((ext_List_Right a0).bind fun y1 => (if y1 = true then (if a1 < 0 then ext_List_Cut_j1 a0 a1 true else ((ext_List_Blocks a0).bind fun y20 => ext_List_Cut_j1 a0 a1 (decide (y20 < a1)))) else ext_List_Cut_j1 a0 a1 true))
def gabionref15_Cut_j14 (x9 : List (Int × Int)) (x10 : List (Int × Int)) (x11 : List (Int × Int)) (x12 : Int) : Option (((List (Int × Int)) × Int) ⊕ (List (Int × Int))) :=
  some (.inl (x11, (wi64 (x12 + 1))))
def gabionref15_Cut_l0 (x9 : List (Int × Int)) (x10 : List (Int × Int)) (x11 : List (Int × Int)) (x12 : Int) : Option (((List (Int × Int)) × Int) ⊕ (List (Int × Int))) :=
  (if x12 < (x10.length : Int) then ((rd x10 x12).bind fun y31 => (if y31.1 ≠ (-1) then ((rd x10 x12).bind fun y33 => ((appL 8796093022208 x11 ([y33])).bind fun y38 => gabionref15_Cut_j14 x9 x10 y38 x12)) else gabionref15_Cut_j14 x9 x10 x11 x12)) else some (.inr x11))
def gabionref15_Cut_j5 (x1 : Int) (x8 : List Int) (x26 : Bool) : Option ((List (Int × Int)) × (List (Int × Int)) × Int) :=
  (if x26 = true then some ([], [], 2) else ((cutL x8 0 x1).bind fun y13 => ((gabionref15_Runs y13).bind fun y14 => ((cutL x8 x1 (x8.length : Int)).bind fun y20 => ((gabionref15_Runs y20).bind fun y21 => ((iter (fun (s : (List (Int × Int)) × Int) => gabionref15_Cut_l0 y14 y21 s.1 s.2) (100000) ([], 0)).bind fun e48 => some (y14, e48, 0)))))))
def gabionref15_Cut (a0 : List (Int × Int)) (a1 : Int) : Option ((List (Int × Int)) × (List (Int × Int)) × Int) :=
  ((gabionref15_Right a0).bind fun y1 => (if y1 = true then ((gabionref15_Blocks a0).bind fun y3 => (if a1 < 0 then gabionref15_Cut_j5 a1 y3 true else gabionref15_Cut_j5 a1 y3 (decide ((y3.length : Int) < a1)))) else some ([], [], 2)))
def ext_List_Map_l0 (x10 : List (Int × Int)) (x1 : Int) (x12 : Int) : Option ((Int × Int) ⊕ ((Int × Bool) ⊕ Unit)) :=
  (if x12 < (x10.length : Int) then ((rd x10 x12).bind fun y4 => (if y4.2 ≤ x1 then some (.inl ((wi64 (x1 - y4.2)), (wi64 (x12 + 1)))) else (if y4.1 = (-1) then some (.inr (.inl ((-1), true))) else some (.inr (.inl ((wi64 (y4.1 + x1)), true)))))) else some (.inr (.inr ())))
def ext_List_Map (a0 : List (Int × Int)) (a1 : Int) : Option (Int × Bool) :=
  (if a1 < 0 then some (0, false) else ((iter (fun (s : Int × Int) => ext_List_Map_l0 a0 s.1 s.2) (a0.length + 1) (a1, 0)).bind fun e8 => on e8 (fun x9 => some x9) (fun x11 => some (0, false))))
def gabionlaw15_wakes : Option Bool :=
  ((ext_List_Append ([]) ((-1), 3)).bind fun y6 => ((ext_List_Fill y6.1 1 (7, 1)).bind fun y9 => ((ext_List_Map y9.1 1).bind fun y12 => (if y6.2 = 0 then (if y9.2 = 0 then (if y12.2 = true then (if y12.1 = 7 then (if (y9.1.length : Int) = 3 then ((ext_List_Blocks y9.1).bind fun y18 => (if y18 = 3 then ((ext_List_Held y9.1).bind fun y20 => (if y20 = 1 then ((ext_List_Held y6.1).bind fun y22 => some (decide (y22 = 0))) else some false)) else some false)) else some false) else some false) else some false) else some false) else some false))))
def gabionlaw15_ExtGrows_j7 (x2 : Int) (x31 : List (List (Int × Int))) (x33 : Int) (zb4 : Int × Int) : Option (Int ⊕ (Bool ⊕ Unit)) :=
  some (.inl (wi64 (x33 + 1)))
def gabionlaw15_ExtGrows_j14 (x2 : Int) (x9 : List (Int × Int)) (x10 : List (Int × Int)) (x31 : List (List (Int × Int))) (x33 : Int) (x60 : List (Int × Int)) (x62 : Int) (zb4 : Int × Int) : Option ((Int × Int) ⊕ (Bool ⊕ Int)) :=
  some (.inl (x33, (wi64 (x62 + 1))))
def gabionlaw15_ExtGrows_j27 (x2 : Int) (x9 : List (Int × Int)) (x10 : List (Int × Int)) (x31 : List (List (Int × Int))) (x33 : Int) (x60 : List (Int × Int)) (x62 : Int) (x107 : List Int) (x109 : Int) (x138 : Bool) (zb4 : Int × Int) (zb12 : Int × Int) (zb13 : Int × Int) : Option ((Int × Int × Int) ⊕ (Bool ⊕ (Int × Int))) :=
  (if x138 = true then some (.inr (.inl false)) else some (.inl (x33, x62, (wi64 (x109 + 1)))))
def gabionlaw15_ExtGrows_l2 (x2 : Int) (x9 : List (Int × Int)) (x10 : List (Int × Int)) (x31 : List (List (Int × Int))) (x60 : List (Int × Int)) (x107 : List Int) (zb4 : Int × Int) (zb12 : Int × Int) (zb13 : Int × Int) (x33 : Int) (x62 : Int) (x109 : Int) : Option ((Int × Int × Int) ⊕ (Bool ⊕ (Int × Int))) :=
  (if x109 < (x107.length : Int) then ((rd x107 x109).bind fun y97 => ((ext_List_Fill x9 y97 zb13).bind fun y98 => ((gabionref15_Fill x10 y97 zb12.1 zb12.2).bind fun y101 => (if y98.2 ≠ y101.2 then gabionlaw15_ExtGrows_j27 x2 x9 x10 x31 x33 x60 x62 x107 x109 true zb4 zb12 zb13 else ((gabionlaw15_same y98.1 y101.1).bind fun y117 => gabionlaw15_ExtGrows_j27 x2 x9 x10 x31 x33 x60 x62 x107 x109 (!y117) zb4 zb12 zb13))))) else some (.inr (.inr (x33, x62))))
def gabionlaw15_ExtGrows_j19 (x2 : Int) (x9 : List (Int × Int)) (x10 : List (Int × Int)) (x31 : List (List (Int × Int))) (x33 : Int) (x60 : List (Int × Int)) (x62 : Int) (x102 : Bool) (zb4 : Int × Int) (zb12 : Int × Int) (zb13 : Int × Int) : Option ((Int × Int) ⊕ (Bool ⊕ Int)) :=
  (if x102 = true then some (.inr (.inl false)) else ((iter (fun (s : Int × Int × Int) => gabionlaw15_ExtGrows_l2 x2 x9 x10 x31 x60 ([x2, (Int.tmod (mx 0 x2) 40)]) zb4 zb12 zb13 s.1 s.2.1 s.2.2) (([x2, (Int.tmod (mx 0 x2) 40)]).length + 1) (x33, x62, 0)).bind fun e125 => on e125 (fun x126 => some (.inr (.inl x126))) (fun x128 => gabionlaw15_ExtGrows_j14 x2 x9 x10 x31 x128.1 x60 x128.2 zb4)))
def gabionlaw15_ExtGrows_j13 (x2 : Int) (x9 : List (Int × Int)) (x10 : List (Int × Int)) (x31 : List (List (Int × Int))) (x33 : Int) (x60 : List (Int × Int)) (x62 : Int) (x73 : Bool) (zb4 : Int × Int) (zb12 : Int × Int) : Option ((Int × Int) ⊕ (Bool ⊕ Int)) :=
  (if x73 = true then gabionlaw15_ExtGrows_j14 x2 x9 x10 x31 x33 x60 x62 zb4 else ((ext_List_Append x9 zb12).bind fun y66 => ((gabionref15_Append x10 zb12.1 zb12.2).bind fun y69 => (if y66.2 ≠ y69.2 then gabionlaw15_ExtGrows_j19 x2 x9 x10 x31 x33 x60 x62 true zb4 zb12 zb12 else ((gabionlaw15_same y66.1 y69.1).bind fun y134 => gabionlaw15_ExtGrows_j19 x2 x9 x10 x31 x33 x60 x62 (!y134) zb4 zb12 zb12)))))
def gabionlaw15_ExtGrows_l1 (x2 : Int) (x9 : List (Int × Int)) (x10 : List (Int × Int)) (x31 : List (List (Int × Int))) (x60 : List (Int × Int)) (zb4 : Int × Int) (x33 : Int) (x62 : Int) : Option ((Int × Int) ⊕ (Bool ⊕ Int)) :=
  (if x62 < (x60.length : Int) then ((rd x60 x62).bind fun y50 => (if 3000 < y50.2 then gabionlaw15_ExtGrows_j13 x2 x9 x10 x31 x33 x60 x62 (decide (y50.2 ≤ 65536)) zb4 y50 else gabionlaw15_ExtGrows_j13 x2 x9 x10 x31 x33 x60 x62 false zb4 y50)) else some (.inr (.inr x33)))
def gabionlaw15_ExtGrows_j36 (x2 : Int) (x9 : List (Int × Int)) (x10 : List (Int × Int)) (x31 : List (List (Int × Int))) (x33 : Int) (x145 : List Int) (x147 : Int) (x179 : Bool) (zb4 : Int × Int) : Option ((Int × Int) ⊕ (Bool ⊕ Int)) :=
  (if x179 = true then some (.inr (.inl false)) else some (.inl (x33, (wi64 (x147 + 1)))))
def gabionlaw15_ExtGrows_l3 (x2 : Int) (x9 : List (Int × Int)) (x10 : List (Int × Int)) (x31 : List (List (Int × Int))) (x145 : List Int) (zb4 : Int × Int) (x33 : Int) (x147 : Int) : Option ((Int × Int) ⊕ (Bool ⊕ Int)) :=
  (if x147 < (x145.length : Int) then ((rd x145 x147).bind fun y159 => ((ext_List_Cut x9 y159).bind fun y160 => ((gabionref15_Cut x10 y159).bind fun y168 => (if y160.2.2 ≠ y168.2.2 then gabionlaw15_ExtGrows_j36 x2 x9 x10 x31 x33 x145 x147 true zb4 else ((gabionlaw15_same y160.1 y168.1).bind fun y186 => (if y186 = true then ((gabionlaw15_same y160.2.1 y168.2.1).bind fun y192 => gabionlaw15_ExtGrows_j36 x2 x9 x10 x31 x33 x145 x147 (!y192) zb4) else gabionlaw15_ExtGrows_j36 x2 x9 x10 x31 x33 x145 x147 true zb4)))))) else some (.inr (.inr x33)))
def gabionlaw15_ExtGrows_j6 (x2 : Int) (x9 : List (Int × Int)) (x10 : List (Int × Int)) (x31 : List (List (Int × Int))) (x33 : Int) (x48 : Bool) (zb4 : Int × Int) : Option (Int ⊕ (Bool ⊕ Unit)) :=
  (if x48 = true then gabionlaw15_ExtGrows_j7 x2 x31 x33 zb4 else ((iter (fun (s : Int × Int) => gabionlaw15_ExtGrows_l1 x2 x9 x10 x31 ([zb4, ((Int.tmod (mx (-1) zb4.1) 300), (wi64 (1 + (Int.tmod (mx 0 zb4.2) 5))))]) zb4 s.1 s.2) (([zb4, ((Int.tmod (mx (-1) zb4.1) 300), (wi64 (1 + (Int.tmod (mx 0 zb4.2) 5))))]).length + 1) (x33, 0)).bind fun e141 => on e141 (fun x142 => some (.inr (.inl x142))) (fun x144 => ((iter (fun (s : Int × Int) => gabionlaw15_ExtGrows_l3 x2 x9 x10 x31 ([x2, (Int.tmod (mx 0 x2) 60)]) zb4 s.1 s.2) (([x2, (Int.tmod (mx 0 x2) 60)]).length + 1) (x144, 0)).bind fun e199 => on e199 (fun x200 => some (.inr (.inl x200))) (fun x202 => ((gabionlaw15_same x9 x10).bind fun y207 => (if y207 = true then gabionlaw15_ExtGrows_j7 x2 x31 x202 zb4 else some (.inr (.inl false)))))))))
def gabionlaw15_ExtGrows_l0 (x2 : Int) (x31 : List (List (Int × Int))) (zb4 : Int × Int) (x33 : Int) : Option (Int ⊕ (Bool ⊕ Unit)) :=
  (if x33 < (x31.length : Int) then ((rd x31 x33).bind fun y17 => ((gabionlaw15_list y17).bind fun y19 => ((gabionref15_Right y19.2).bind fun y27 => (if y27 = true then ((ext_List_Blocks y19.1).bind fun y29 => gabionlaw15_ExtGrows_j6 x2 y19.1 y19.2 x31 x33 (decide (2000 < y29)) zb4) else gabionlaw15_ExtGrows_j6 x2 y19.1 y19.2 x31 x33 false zb4)))) else some (.inr (.inr ())))
def gabionlaw15_ExtGrows (a0 : List (Int × Int)) (a1 : Int × Int) (a2 : Int) : Option Bool :=
  ((gabionlaw15_tame a0).bind fun y2 => ((iter (fun (s : Int) => gabionlaw15_ExtGrows_l0 a2 ([a0, y2]) a1 s) (([a0, y2]).length + 1) 0).bind fun e209 => on e209 (fun x210 => some x210) (fun x212 => ((gabionlaw15_wakes).bind fun y213 => some y213))))
def gabionlaw15_ExtBack_l0 (x2 : Int) (x7 : List (Int × Int)) (x9 : Int) (x10 : List (Int × Int)) (x71 : List (Int × Int)) (x13 : Int) (x73 : Int) : Option ((Int × Int) ⊕ Int) :=
  (if x73 < (x71.length : Int) then ((rd x71 x73).bind fun y40 => some (.inl ((wi64 (x13 + y40.2)), (wi64 (x73 + 1))))) else some (.inr x13))
def gabionlaw15_ExtBack_l1 (x2 : Int) (x7 : List (Int × Int)) (x10 : List (Int × Int)) (x89 : Int) (x90 : Int) : Option (Int ⊕ (Bool ⊕ Unit)) :=
  (if x90 < x89 then ((ext_List_Map x10 x90).bind fun y55 => ((ext_List_Map x7 x90).bind fun y58 => (if y55.1 ≠ y58.1 then some (.inr (.inl false)) else some (.inl (wi64 (x90 + 1)))))) else some (.inr (.inr ())))
def gabionlaw15_ExtBack_j37 (x2 : Int) (x7 : List (Int × Int)) (x150 : Int) (x151 : Int) : Option (Int ⊕ (Bool ⊕ Unit)) :=
  some (.inl (wi64 (x151 + 1)))
def gabionlaw15_ExtBack_j45 (x2 : Int) (x7 : List (Int × Int)) (x25 : Int) (x28 : List (Int × Int)) (x150 : Int) (x151 : Int) (x179 : Int) (x180 : Int) (x214 : Bool) : Option ((Int × Int × Int) ⊕ (Bool ⊕ Int)) :=
  (if x214 = true then some (.inr (.inl false)) else some (.inl (x25, x151, (wi64 (x180 + 1)))))
def gabionlaw15_ExtBack_l3 (x2 : Int) (x7 : List (Int × Int)) (x28 : List (Int × Int)) (x150 : Int) (x179 : Int) (x25 : Int) (x151 : Int) (x180 : Int) : Option ((Int × Int × Int) ⊕ (Bool ⊕ Int)) :=
  (if x180 < x179 then ((ext_List_Map x7 x180).bind fun y98 => ((ext_List_Map x28 x180).bind fun y99 => (if x180 = x25 then (if y99.1 ≠ (wi64 (2000 + (wi64 x2))) then gabionlaw15_ExtBack_j45 x2 x7 x25 x28 x150 x151 x179 x180 true else (if x180 ≠ x25 then gabionlaw15_ExtBack_j45 x2 x7 x25 x28 x150 x151 x179 x180 (decide (y99.1 ≠ y98.1)) else gabionlaw15_ExtBack_j45 x2 x7 x25 x28 x150 x151 x179 x180 false)) else (if x180 ≠ x25 then gabionlaw15_ExtBack_j45 x2 x7 x25 x28 x150 x151 x179 x180 (decide (y99.1 ≠ y98.1)) else gabionlaw15_ExtBack_j45 x2 x7 x25 x28 x150 x151 x179 x180 false)))) else some (.inr (.inr x151)))
def gabionlaw15_ExtBack_l2 (x2 : Int) (x7 : List (Int × Int)) (x150 : Int) (x151 : Int) : Option (Int ⊕ (Bool ⊕ Unit)) :=
  (if x151 < x150 then ((ext_List_Map x7 x151).bind fun y86 => ((ext_List_Fill x7 x151 ((wi64 (2000 + (wi64 x2))), 1)).bind fun y87 => (if y86.1 ≠ (-1) then (if y87.2 ≠ 2 then some (.inr (.inl false)) else gabionlaw15_ExtBack_j37 x2 x7 x150 x151) else (if y87.2 = 0 then ((ext_List_Blocks x7).bind fun y94 => ((iter (fun (s : Int × Int × Int) => gabionlaw15_ExtBack_l3 x2 x7 y87.1 x150 y94 s.1 s.2.1 s.2.2) (y94.toNat + 1) (x151, x151, 0)).bind fun e108 => on e108 (fun x109 => some (.inr (.inl x109))) (fun x111 => gabionlaw15_ExtBack_j37 x2 x7 x150 x111))) else (if y87.2 ≠ 7 then some (.inr (.inl false)) else gabionlaw15_ExtBack_j37 x2 x7 x150 x151))))) else some (.inr (.inr ())))
def gabionlaw15_ExtBack_j28 (x2 : Int) (x7 : List (Int × Int)) : Option Bool :=
  ((ext_List_Blocks x7).bind fun y83 => ((iter (fun (s : Int) => gabionlaw15_ExtBack_l2 x2 x7 y83 s) (y83.toNat + 1) 0).bind fun e114 => on e114 (fun x115 => some x115) (fun x117 => some true)))
def gabionlaw15_ExtBack_j27 (x2 : Int) (x7 : List (Int × Int)) (x148 : Bool) : Option Bool :=
  (if x148 = true then some false else gabionlaw15_ExtBack_j28 x2 x7)
def gabionlaw15_ExtBack_j4 (x2 : Int) (x7 : List (Int × Int)) (x9 : Int) (x10 : List (Int × Int)) (x11 : List (Int × Int)) (x70 : Bool) : Option Bool :=
  (if x70 = true then some false else ((iter (fun (s : Int × Int) => gabionlaw15_ExtBack_l0 x2 x7 x9 x10 x11 s.1 s.2) (x11.length + 1) (0, 0)).bind fun e44 => ((ext_List_Held x10).bind fun y47 => ((ext_List_Held x7).bind fun y50 => (if (wi64 (y47 + e44)) ≠ y50 then some false else ((iter (fun (s : Int) => gabionlaw15_ExtBack_l1 x2 x7 x10 x9 s) (x9.toNat + 1) 0).bind fun e61 => on e61 (fun x62 => some x62) (fun x64 => ((ext_List_Append x7 ((wi64 (1000 + (wi64 x2))), 2)).bind fun y66 => (if y66.2 = 0 then ((ext_List_Blocks x7).bind fun y70 => ((ext_List_Cut y66.1 y70).bind fun y71 => (if y71.2.2 ≠ 0 then gabionlaw15_ExtBack_j27 x2 x7 true else ((ext_List_Blocks y71.1).bind fun y118 => ((ext_List_Blocks x7).bind fun y121 => (if y118 ≠ y121 then gabionlaw15_ExtBack_j27 x2 x7 true else (if (y71.2.1.length : Int) ≠ 1 then gabionlaw15_ExtBack_j27 x2 x7 true else ((rd y71.2.1 0).bind fun y124 => gabionlaw15_ExtBack_j27 x2 x7 (decide (y124.2 ≠ 2)))))))))) else gabionlaw15_ExtBack_j28 x2 x7)))))))))
def gabionlaw15_ExtBack (a0 : List (Int × Int)) (a1 : Int) (a2 : Int) : Option Bool :=
  ((gabionlaw15_tame a0).bind fun y1 => ((gabionlaw15_list y1).bind fun y8 => ((ext_List_Blocks y8.1).bind fun y16 => (ifS ((wi64 (y16 + 1)) ≠ 0) ((ext_List_Cut y8.1 (Int.tmod (wi64 a1) (wi64 (y16 + 1)))).bind fun y21 => ((gabionlaw15_wakes).bind fun y29 => (if y29 = true then (if y21.2.2 ≠ 0 then gabionlaw15_ExtBack_j4 a2 y8.1 (Int.tmod (wi64 a1) (wi64 (y16 + 1))) y21.1 y21.2.1 true else ((ext_List_Blocks y21.1).bind fun y126 => (if y126 ≠ (Int.tmod (wi64 a1) (wi64 (y16 + 1))) then gabionlaw15_ExtBack_j4 a2 y8.1 (Int.tmod (wi64 a1) (wi64 (y16 + 1))) y21.1 y21.2.1 true else ((ext_List_Right y21.1).bind fun y130 => gabionlaw15_ExtBack_j4 a2 y8.1 (Int.tmod (wi64 a1) (wi64 (y16 + 1))) y21.1 y21.2.1 (!y130))))) else gabionlaw15_ExtBack_j4 a2 y8.1 (Int.tmod (wi64 a1) (wi64 (y16 + 1))) y21.1 y21.2.1 true)))))))
def slices_BinarySearchFunc_alloc_Extent_int_l0 (a2 : (Int × Int) → Int → Option Int) (x0 : List (Int × Int)) (x1 : Int) (x9 : Int) (x10 : Int) : Option ((Int × Int) ⊕ Int) :=
  (if x9 < x10 then ((rd x0 (wi64 (shrK .u64 (wu64 (wi64 (x9 + x10))) 1))).bind fun y3 => ((a2 y3 x1).bind fun y4 => (if y4 < 0 then some (.inl ((wi64 ((wi64 (shrK .u64 (wu64 (wi64 (x9 + x10))) 1)) + 1)), x10)) else some (.inl (x9, (wi64 (shrK .u64 (wu64 (wi64 (x9 + x10))) 1))))))) else some (.inr x9))
def slices_BinarySearchFunc_alloc_Extent_int (a0 : List (Int × Int)) (a1 : Int) (a2 : (Int × Int) → Int → Option Int) : Option (Int × Bool) :=
  ((iter (fun (s : Int × Int) => slices_BinarySearchFunc_alloc_Extent_int_l0 a2 a0 a1 s.1 s.2) (100000) (0, (a0.length : Int))).bind fun e7 => (if e7 < (a0.length : Int) then ((rd a0 e7).bind fun y10 => ((a2 y10 a1).bind fun y11 => some (e7, decide (y11 = 0)))) else some (e7, false)))
def alloc_Set_Give_1 (a0 : Int × Int) (a1 : Int) : Option Int :=
  some (wi64 (a0.1 - a1))
def alloc_Set_Give_j10 (x8 : List (Int × Int)) (x9 : List (Int × Int)) (zb2 : Int × (List (Int × Int))) (zb3 : Int × Int) (zb4 : Int × (List (Int × Int))) : Option ((Int × (List (Int × Int))) × Int) :=
  ((slices_Concat_alloc_Extent ([x8, [zb3], x9])).bind fun y72 => some ((zb2.1, y72), 0))
def alloc_Set_Give_j9 (x8 : List (Int × Int)) (x9 : List (Int × Int)) (x103 : Bool) (zb2 : Int × (List (Int × Int))) (zb3 : Int × Int) (zb4 : Int × (List (Int × Int))) : Option ((Int × (List (Int × Int))) × Int) :=
  (if x103 = true then ((rd x9 0).bind fun y53 => ((cutL x9 1 (x9.length : Int)).bind fun y54 => alloc_Set_Give_j10 x8 y54 zb2 (zb3.1, (wi64 (zb3.2 + y53.2))) zb4)) else alloc_Set_Give_j10 x8 x9 zb2 zb3 zb4)
def alloc_Set_Give_j8 (x8 : List (Int × Int)) (x9 : List (Int × Int)) (zb2 : Int × (List (Int × Int))) (zb3 : Int × Int) (zb4 : Int × (List (Int × Int))) : Option ((Int × (List (Int × Int))) × Int) :=
  (if 0 < (x9.length : Int) then ((rd x9 0).bind fun y43 => ((alloc_Extent_end zb3).bind fun y44 => alloc_Set_Give_j9 x8 x9 (decide (y43.1 = y44)) zb2 zb3 zb4)) else alloc_Set_Give_j9 x8 x9 false zb2 zb3 zb4)
def alloc_Set_Give_j7 (x6 : Int) (x8 : List (Int × Int)) (x9 : List (Int × Int)) (x71 : Bool) (zb2 : Int × (List (Int × Int))) (zb3 : Int × Int) (zb4 : Int × (List (Int × Int))) : Option ((Int × (List (Int × Int))) × Int) :=
  (if x71 = true then ((rd x8 (wi64 (x6 - 1))).bind fun y32 => ((rd x8 (wi64 (x6 - 1))).bind fun y33 => ((cutL x8 0 (wi64 (x6 - 1))).bind fun y34 => alloc_Set_Give_j8 y34 x9 zb2 (y32.1, (wi64 (y33.2 + zb3.2))) zb4))) else alloc_Set_Give_j8 x8 x9 zb2 zb3 zb4)
def alloc_Set_Give_j5 (x6 : Int) (x8 : List (Int × Int)) (x9 : List (Int × Int)) (x57 : Bool) (zb2 : Int × (List (Int × Int))) (zb3 : Int × Int) (zb4 : Int × (List (Int × Int))) : Option ((Int × (List (Int × Int))) × Int) :=
  (if x57 = true then some ((0, []), 8) else (if 0 < x6 then ((rd x8 (wi64 (x6 - 1))).bind fun y22 => ((alloc_Extent_end y22).bind fun y23 => alloc_Set_Give_j7 x6 x8 x9 (decide (y23 = zb3.1)) zb2 zb3 zb4)) else alloc_Set_Give_j7 x6 x8 x9 false zb2 zb3 zb4))
def alloc_Set_Give (a0 : Int × (List (Int × Int))) (a1 : Int × Int) : Option ((Int × (List (Int × Int))) × Int) :=
  ((alloc_Set_may a0 a1).bind fun y4 => (if y4 = true then ((slices_BinarySearchFunc_alloc_Extent_int a0.2 a1.1 (fun x0_ x1_ => alloc_Set_Give_1 x0_ x1_)).bind fun y6 => ((cutL a0.2 0 y6.1).bind fun y7 => ((cutL a0.2 y6.1 (a0.2.length : Int)).bind fun y8 => (if 0 < y6.1 then ((rd y7 (wi64 (y6.1 - 1))).bind fun y10 => ((alloc_Extent_end y10).bind fun y11 => (if a1.1 < y11 then alloc_Set_Give_j5 y6.1 y7 y8 true a0 a1 (0, []) else (if 0 < (y8.length : Int) then ((rd y8 0).bind fun y79 => ((alloc_Extent_end a1).bind fun y80 => alloc_Set_Give_j5 y6.1 y7 y8 (decide (y79.1 < y80)) a0 a1 (0, []))) else alloc_Set_Give_j5 y6.1 y7 y8 false a0 a1 (0, []))))) else (if 0 < (y8.length : Int) then ((rd y8 0).bind fun y82 => ((alloc_Extent_end a1).bind fun y83 => alloc_Set_Give_j5 y6.1 y7 y8 (decide (y82.1 < y83)) a0 a1 (0, []))) else alloc_Set_Give_j5 y6.1 y7 y8 false a0 a1 (0, [])))))) else some ((0, []), 2)))
def gabionlaw14_AllocBack_j10 (x1 : Int) (x38 : List Int) (x40 : Int) (zb5 : Int × (List (Int × Int))) : Option ((Int × (Int × (List (Int × Int)))) ⊕ (Int × (List (Int × Int)))) :=
  some (.inl ((wi64 (x40 + 1)), zb5))
def gabionlaw14_AllocBack_l0 (x1 : Int) (x38 : List Int) (x40 : Int) (zb5 : Int × (List (Int × Int))) : Option ((Int × (Int × (List (Int × Int)))) ⊕ (Int × (List (Int × Int)))) :=
  (if x40 < (x38.length : Int) then ((rd x38 x40).bind fun y20 => ((alloc_Set_Use zb5 ((wi64 (Int.tmod y20 40)), 1)).bind fun y21 => (if y21.2 = 0 then gabionlaw14_AllocBack_j10 x1 x38 x40 y21.1 else gabionlaw14_AllocBack_j10 x1 x38 x40 zb5))) else some (.inr zb5))
def gabionlaw14_AllocBack_j27 (x11 : Int) (x13 : List (Int × Int)) (x15 : Int) (x18 : Int) (x90 : List (Int × Int)) (x92 : Int) (x123 : Bool) (zb5 : Int × (List (Int × Int))) (zb12 : Int × (List (Int × Int))) (zb17 : Int × Int) : Option ((Int × Int) ⊕ (Bool ⊕ Int)) :=
  (if x123 = true then some (.inr (.inl false)) else some (.inl ((wi64 (x18 + 1)), x92)))
def gabionlaw14_AllocBack_j25 (x11 : Int) (x13 : List (Int × Int)) (x15 : Int) (x18 : Int) (x90 : List (Int × Int)) (x92 : Int) (x112 : Bool) (zb5 : Int × (List (Int × Int))) (zb12 : Int × (List (Int × Int))) (zb17 : Int × Int) : Option ((Int × Int) ⊕ (Bool ⊕ Int)) :=
  (if x112 = true then ((alloc_Set_Has zb5 x18).bind fun y76 => (if y76 = true then ((alloc_Set_Has zb12 x18).bind fun y78 => gabionlaw14_AllocBack_j27 x11 x13 x15 x18 x90 x92 y78 zb5 zb12 zb17) else gabionlaw14_AllocBack_j27 x11 x13 x15 x18 x90 x92 true zb5 zb12 zb17)) else some (.inr (.inr x92)))
def gabionlaw14_AllocBack_l2 (x11 : Int) (x13 : List (Int × Int)) (x15 : Int) (x90 : List (Int × Int)) (zb5 : Int × (List (Int × Int))) (zb12 : Int × (List (Int × Int))) (zb17 : Int × Int) (x18 : Int) (x92 : Int) : Option ((Int × Int) ⊕ (Bool ⊕ Int)) :=
  (if x18 < (wi64 (zb17.1 + zb17.2)) then gabionlaw14_AllocBack_j25 x11 x13 x15 x18 x90 x92 (decide (x18 < 40)) zb5 zb12 zb17 else gabionlaw14_AllocBack_j25 x11 x13 x15 x18 x90 x92 false zb5 zb12 zb17)
def gabionlaw14_AllocBack_l1 (x11 : Int) (x13 : List (Int × Int)) (x90 : List (Int × Int)) (zb5 : Int × (List (Int × Int))) (zb12 : Int × (List (Int × Int))) (x15 : Int) (x92 : Int) : Option ((Int × Int) ⊕ (Bool ⊕ Int)) :=
  (if x92 < (x90.length : Int) then ((rd x90 x92).bind fun y58 => ((iter (fun (s : Int × Int) => gabionlaw14_AllocBack_l2 x11 x13 (wi64 (x15 + y58.2)) x90 zb5 zb12 y58 s.1 s.2) (100000) (y58.1, x92)).bind fun e93 => on e93 (fun x94 => some (.inr (.inl x94))) (fun x96 => some (.inl ((wi64 (x15 + y58.2)), (wi64 (x96 + 1))))))) else some (.inr (.inr x15)))
def gabionlaw14_AllocBack_l3 (x11 : Int) (x15 : Int) (x125 : List (Int × Int)) (zb5 : Int × (List (Int × Int))) (x127 : Int) (zb12 : Int × (List (Int × Int))) : Option ((Int × (Int × (List (Int × Int)))) ⊕ (Bool ⊕ (Int × (Int × (List (Int × Int)))))) :=
  (if x127 < (x125.length : Int) then ((rd x125 x127).bind fun y123 => ((alloc_Set_Give zb12 y123).bind fun y125 => (if y125.2 ≠ 0 then some (.inr (.inl false)) else some (.inl ((wi64 (x127 + 1)), y125.1))))) else some (.inr (.inr (x15, zb12))))
def gabionlaw14_AllocBack_l4 (x21 : List (Int × Int)) (x22 : List (Int × Int)) (x156 : Int) : Option (Int ⊕ (Bool ⊕ Unit)) :=
  (if x156 < (x21.length : Int) then ((rd x21 x156).bind fun y164 => ((rd x22 x156).bind fun y165 => (if (decide (y164.1 = y165.1) && (decide (y164.2 = y165.2) && true)) = true then some (.inl (wi64 (x156 + 1))) else some (.inr (.inl false))))) else some (.inr (.inr ())))
def gabionlaw14_AllocBack_j40 (x21 : List (Int × Int)) (x22 : List (Int × Int)) (x153 : Bool) : Option Bool :=
  (if x153 = true then some false else ((iter (fun (s : Int) => gabionlaw14_AllocBack_l4 x21 x22 s) (x21.length + 1) 0).bind fun e167 => on e167 (fun x168 => some x168) (fun x170 => some true)))
def gabionlaw14_AllocBack_j2 (x0 : List Int) (x1 : Int) (x33 : Bool) (zb5 : Int × (List (Int × Int))) : Option Bool :=
  (if x33 = true then some false else ((cutL x0 0 (mn (x0.length : Int) 30)).bind fun y14 => ((iter (fun (s : Int × (Int × (List (Int × Int)))) => gabionlaw14_AllocBack_l0 x1 y14 s.1 s.2) (y14.length + 1) (0, zb5)).bind fun e35 => ((alloc_Set_Take e35 (wi64 (1 + (wi64 (Int.tmod x1 40))))).bind fun y38 => (if y38.2.2 ≠ 0 then (if y38.2.2 = 12 then ((alloc_Set_Free e35).bind fun y46 => (if y46 < (wi64 (1 + (wi64 (Int.tmod x1 40)))) then some (decide ((y38.2.1.length : Int) = 0)) else some false)) else some false) else ((alloc_Set_Free y38.1).bind fun y48 => ((alloc_Set_Free e35).bind fun y49 => (if y48 ≠ (wi64 (y49 - (wi64 (1 + (wi64 (Int.tmod x1 40)))))) then some false else ((iter (fun (s : Int × Int) => gabionlaw14_AllocBack_l1 (wi64 (1 + (wi64 (Int.tmod x1 40)))) y38.2.1 y38.2.1 e35 y38.1 s.1 s.2) (y38.2.1.length + 1) (0, 0)).bind fun e108 => on e108 (fun x109 => some x109) (fun x111 => ((iter (fun (s : Int × (Int × (List (Int × Int)))) => gabionlaw14_AllocBack_l3 (wi64 (1 + (wi64 (Int.tmod x1 40)))) x111 y38.2.1 e35 s.1 s.2) (y38.2.1.length + 1) (0, y38.1)).bind fun e137 => on e137 (fun x138 => some x138) (fun x140 => ((alloc_Set_List e35).bind fun y145 => ((alloc_Set_List x140.2).bind fun y151 => (if x140.1 ≠ (wi64 (1 + (wi64 (Int.tmod x1 40)))) then gabionlaw14_AllocBack_j40 y145 y151 true else gabionlaw14_AllocBack_j40 y145 y151 (decide ((y145.length : Int) ≠ (y151.length : Int))))))))))))))))))
def gabionlaw14_AllocBack (a0 : List Int) (a1 : Int) : Option Bool :=
  ((alloc_New 40).bind fun y1 => ((gabionlaw14_wakes).bind fun y8 => (if y8 = true then gabionlaw14_AllocBack_j2 a0 a1 (decide (y1.2 ≠ 0)) y1.1 else gabionlaw14_AllocBack_j2 a0 a1 true y1.1)))
def gabionref14_Extents_j6 (x0 : List Bool) (x3 : List (Int × Int)) (x4 : Int) : Option (((List (Int × Int)) × Int) ⊕ (List (Int × Int))) :=
  some (.inl (x3, (wi64 (x4 + 1))))
def gabionref14_Extents_j8 (x0 : List Bool) (x3 : List (Int × Int)) (x4 : Int) (x24 : Bool) : Option (((List (Int × Int)) × Int) ⊕ (List (Int × Int))) :=
  (if x24 = true then ((rd x3 (wi64 ((x3.length : Int) - 1))).bind fun y11 => ((rd x3 (wi64 ((x3.length : Int) - 1))).bind fun y12 => gabionref14_Extents_j6 x0 (x3.set ((wi64 ((x3.length : Int) - 1)).toNat) (y12.1, (wi64 (y11.2 + 1)))) x4)) else ((appL 8796093022208 x3 ([(x4, 1)])).bind fun y21 => gabionref14_Extents_j6 x0 y21 x4))
def gabionref14_Extents_l0 (x0 : List Bool) (x3 : List (Int × Int)) (x4 : Int) : Option (((List (Int × Int)) × Int) ⊕ (List (Int × Int))) :=
  (if x4 < (x0.length : Int) then ((rd x0 x4).bind fun y4 => (if y4 = true then (if 0 < x4 then ((rd x0 (wi64 (x4 - 1))).bind fun y7 => gabionref14_Extents_j8 x0 x3 x4 y7) else gabionref14_Extents_j8 x0 x3 x4 false) else gabionref14_Extents_j6 x0 x3 x4)) else some (.inr x3))
def gabionref14_Extents (a0 : List Bool) : Option (List (Int × Int)) :=
  ((iter (fun (s : (List (Int × Int)) × Int) => gabionref14_Extents_l0 a0 s.1 s.2) (100000) ([], 0)).bind fun e27 => some e27)
def gabionlaw14_same_j10 (x1 : List Bool) (x5 : List (Int × Int)) (x7 : Int) (x28 : List (Int × Int)) (x30 : Int) (x52 : Bool) (zb2 : Int × (List (Int × Int))) (zb9 : Int × Int) : Option ((Int × Int) ⊕ (Bool ⊕ Int)) :=
  (if x52 = true then some (.inr (.inl false)) else some (.inl ((wi64 (x7 + zb9.2)), (wi64 (x30 + 1)))))
def gabionlaw14_same_l0 (x1 : List Bool) (x5 : List (Int × Int)) (x28 : List (Int × Int)) (zb2 : Int × (List (Int × Int))) (x7 : Int) (x30 : Int) : Option ((Int × Int) ⊕ (Bool ⊕ Int)) :=
  (if x30 < (x28.length : Int) then ((rd x28 x30).bind fun y27 => ((rd x5 x30).bind fun y29 => (if y27.1 ≠ y29.1 then gabionlaw14_same_j10 x1 x5 x7 x28 x30 true zb2 y27 else ((rd x5 x30).bind fun y38 => gabionlaw14_same_j10 x1 x5 x7 x28 x30 (decide (y27.2 ≠ y38.2)) zb2 y27)))) else some (.inr (.inr x7)))
def gabionlaw14_same_l1 (x1 : List Bool) (x7 : Int) (x58 : List Bool) (zb2 : Int × (List (Int × Int))) (x60 : Int) : Option (Int ⊕ (Bool ⊕ Int)) :=
  (if x60 < (x58.length : Int) then ((rd x58 x60).bind fun y54 => ((alloc_Set_Has zb2 x60).bind fun y55 => (if y55 = y54 then some (.inl (wi64 (x60 + 1))) else some (.inr (.inl false))))) else some (.inr (.inr x7)))
def gabionlaw14_same_j4 (x1 : List Bool) (x5 : List (Int × Int)) (x6 : List (Int × Int)) (x27 : Bool) (zb2 : Int × (List (Int × Int))) : Option Bool :=
  (if x27 = true then some false else ((iter (fun (s : Int × Int) => gabionlaw14_same_l0 x1 x5 x6 zb2 s.1 s.2) (x6.length + 1) (0, 0)).bind fun e42 => on e42 (fun x43 => some x43) (fun x45 => ((iter (fun (s : Int) => gabionlaw14_same_l1 x1 x45 x1 zb2 s) (x1.length + 1) 0).bind fun e60 => on e60 (fun x61 => some x61) (fun x63 => ((alloc_Set_Free zb2).bind fun y67 => (if y67 = x63 then ((alloc_Set_Has zb2 (-1)).bind fun y69 => (if y69 = true then some false else ((alloc_Set_Has zb2 (x1.length : Int)).bind fun y71 => some (!y71)))) else some false)))))))
def gabionlaw14_same (a0 : Int × (List (Int × Int))) (a1 : List Bool) : Option Bool :=
  ((gabionref14_Extents a1).bind fun y2 => ((alloc_Set_List a0).bind fun y8 => (if (y8.length : Int) ≠ (y2.length : Int) then gabionlaw14_same_j4 a1 y2 y8 true a0 else ((alloc_Set_Size a0).bind fun y72 => gabionlaw14_same_j4 a1 y2 y8 (decide (y72 ≠ (a1.length : Int))) a0))))
def gabionref14_Set_l0 (x0 : List Bool) (x1 : Int) (x2 : Int) (x3 : Bool) (x10 : List Bool) (x11 : Int) : Option (((List Bool) × Int) ⊕ (((List Bool) × Int) ⊕ (List Bool))) :=
  (if x11 < (wi64 (x1 + x2)) then ((rd x0 x11).bind fun y14 => (if y14 = x3 then some (.inr (.inl ([], 8))) else ((rd x10 x11).bind fun y16 => some (.inl ((x10.set x11.toNat x3), (wi64 (x11 + 1))))))) else some (.inr (.inr x10)))
def gabionref14_Set_j1 (x0 : List Bool) (x1 : Int) (x2 : Int) (x3 : Bool) (x31 : Bool) : Option ((List Bool) × Int) :=
  (if x31 = true then some ([], 2) else ((appL 140737488355328 ([] : List Bool) x0).bind fun y5 => ((iter (fun (s : (List Bool) × Int) => gabionref14_Set_l0 x0 x1 x2 x3 s.1 s.2) (100000) (y5, x1)).bind fun e20 => on e20 (fun x21 => some x21) (fun x23 => some (x23, 0)))))
def gabionref14_Set (a0 : List Bool) (a1 : Int) (a2 : Int) (a3 : Bool) : Option ((List Bool) × Int) :=
  (if a1 < 0 then gabionref14_Set_j1 a0 a1 a2 a3 true else (if a2 < 1 then gabionref14_Set_j1 a0 a1 a2 a3 true else (if (a0.length : Int) < a2 then gabionref14_Set_j1 a0 a1 a2 a3 true else gabionref14_Set_j1 a0 a1 a2 a3 (decide ((wi64 ((a0.length : Int) - a2)) < a1)))))
def gabionref14_Take_j11 (x0 : List Bool) (x1 : Int) (x7 : List (Int × Int)) (x8 : Int) (x9 : Int) (x10 : Int) : Option ((Int × Int × Int) ⊕ (Int × Int)) :=
  some (.inl (x8, x9, (wi64 (x10 + 1))))
def gabionref14_Take_j10 (x0 : List Bool) (x1 : Int) (x7 : List (Int × Int)) (x8 : Int) (x9 : Int) (x10 : Int) (x43 : Bool) : Option ((Int × Int × Int) ⊕ (Int × Int)) :=
  (if x43 = true then gabionref14_Take_j11 x0 x1 x7 x8 x10 x10 else gabionref14_Take_j11 x0 x1 x7 x8 x9 x10)
def gabionref14_Take_l0 (x0 : List Bool) (x1 : Int) (x7 : List (Int × Int)) (x8 : Int) (x9 : Int) (x10 : Int) : Option ((Int × Int × Int) ⊕ (Int × Int)) :=
  (if x10 < (x7.length : Int) then ((rd x7 x10).bind fun y11 => (if x9 < 0 then ((rd x7 x10).bind fun y13 => gabionref14_Take_j10 x0 x1 x7 (wi64 (x8 + y11.2)) x9 x10 (decide (x1 ≤ y13.2))) else gabionref14_Take_j10 x0 x1 x7 (wi64 (x8 + y11.2)) x9 x10 false)) else some (.inr (x8, x9)))
def gabionref14_Take_l1 (x11 : List (Int × Int)) (x0 : List Bool) (x15 : Int) : Option (((List Bool) × Int) ⊕ (List Bool)) :=
  (if x15 < (x11.length : Int) then ((rd x11 x15).bind fun y42 => ((rd x11 x15).bind fun y43 => ((gabionref14_Set x0 y42.1 y43.2 false).bind fun y44 => some (.inl (y44.1, (wi64 (x15 + 1))))))) else some (.inr x0))
def gabionref14_Take_j17 (x0 : List Bool) (x11 : List (Int × Int)) : Option ((List Bool) × (List (Int × Int)) × Int) :=
  ((iter (fun (s : (List Bool) × Int) => gabionref14_Take_l1 x11 s.1 s.2) (100000) (x0, 0)).bind fun e53 => some (e53, x11, 0))
def gabionref14_Take_j28 (x0 : List Bool) (x7 : List (Int × Int)) (x11 : List (Int × Int)) (x12 : Int) (x13 : Int) (x14 : Int) : Option (((List (Int × Int)) × Int × Int) ⊕ (List (Int × Int))) :=
  ((rd x7 x13).bind fun y70 => ((appL 8796093022208 x11 ([(y70.1, x14)])).bind fun y75 => some (.inl (y75, (wi64 (x12 - x14)), (wi64 (x13 + 1))))))
def gabionref14_Take_j24 (x0 : List Bool) (x7 : List (Int × Int)) (x11 : List (Int × Int)) (x12 : Int) (x13 : Int) (x68 : Bool) : Option (((List (Int × Int)) × Int × Int) ⊕ (List (Int × Int))) :=
  (if x68 = true then ((rd x7 x13).bind fun y65 => (if x12 < y65.2 then gabionref14_Take_j28 x0 x7 x11 x12 x13 x12 else gabionref14_Take_j28 x0 x7 x11 x12 x13 y65.2)) else some (.inr x11))
def gabionref14_Take_l2 (x0 : List Bool) (x7 : List (Int × Int)) (x11 : List (Int × Int)) (x12 : Int) (x13 : Int) : Option (((List (Int × Int)) × Int × Int) ⊕ (List (Int × Int))) :=
  (if x13 < (x7.length : Int) then gabionref14_Take_j24 x0 x7 x11 x12 x13 (decide (0 < x12)) else gabionref14_Take_j24 x0 x7 x11 x12 x13 false)
def gabionref14_Take (a0 : List Bool) (a1 : Int) : Option ((List Bool) × (List (Int × Int)) × Int) :=
  (if a1 < 1 then some ([], [], 2) else ((gabionref14_Extents a0).bind fun y2 => ((iter (fun (s : Int × Int × Int) => gabionref14_Take_l0 a0 a1 y2 s.1 s.2.1 s.2.2) (100000) (0, (-1), 0)).bind fun e21 => (if e21.1 < a1 then some ([], [], 12) else (if 0 ≤ e21.2 then ((rd y2 e21.2).bind fun y26 => ((appL 8796093022208 ([] : List (Int × Int)) ([(y26.1, a1)])).bind fun y32 => gabionref14_Take_j17 a0 y32)) else ((iter (fun (s : (List (Int × Int)) × Int × Int) => gabionref14_Take_l2 a0 y2 s.1 s.2.1 s.2.2) (100000) ([], a1, 0)).bind fun e82 => gabionref14_Take_j17 a0 e82))))))
def gabionlaw14_AllocPlays_l0 (x1 : List (Int × Int × Int)) (x6 : Int) (zb5 : Int × (List (Int × Int))) (x7 : List Bool) (x30 : Int) (x31 : Int) : Option (((List Bool) × Int × Int) ⊕ (List Bool)) :=
  (if x31 < x30 then ((rd x7 x31).bind fun y17 => some (.inl ((x7.set x31.toNat true), x30, (wi64 (x31 + 1))))) else some (.inr x7))
def gabionlaw14_AllocPlays_j28 (x7 : List Bool) (x54 : List (Int × Int × Int)) (x56 : Int) (zb5 : Int × (List (Int × Int))) : Option (((List Bool) × Int × (Int × (List (Int × Int)))) ⊕ (Bool ⊕ Unit)) :=
  some (.inl (x7, (wi64 (x56 + 1)), zb5))
def gabionlaw14_AllocPlays_j25 (x7 : List Bool) (x14 : List Bool) (x15 : Int) (x54 : List (Int × Int × Int)) (x56 : Int) (x188 : Bool) (zb5 : Int × (List (Int × Int))) (zb12 : Int × (List (Int × Int))) : Option (((List Bool) × Int × (Int × (List (Int × Int)))) ⊕ (Bool ⊕ Unit)) :=
  (if x188 = true then some (.inr (.inl false)) else (if x15 = 0 then gabionlaw14_AllocPlays_j28 x14 x54 x56 zb12 else gabionlaw14_AllocPlays_j28 x7 x54 x56 zb5))
def gabionlaw14_AllocPlays_j24 (x7 : List Bool) (x13 : Int) (x14 : List Bool) (x15 : Int) (x54 : List (Int × Int × Int)) (x56 : Int) (zb5 : Int × (List (Int × Int))) (zb12 : Int × (List (Int × Int))) : Option (((List Bool) × Int × (Int × (List (Int × Int)))) ⊕ (Bool ⊕ Unit)) :=
  (if x13 ≠ x15 then gabionlaw14_AllocPlays_j25 x7 x14 x15 x54 x56 true zb5 zb12 else ((gabionlaw14_same zb5 x7).bind fun y85 => (if y85 = true then (if x15 = 0 then ((gabionlaw14_same zb12 x14).bind fun y88 => (if y88 = true then (if x15 ≠ 0 then ((alloc_Set_Size zb12).bind fun y91 => (if y91 ≠ 0 then gabionlaw14_AllocPlays_j25 x7 x14 x15 x54 x56 true zb5 zb12 else ((alloc_Set_Free zb12).bind fun y93 => gabionlaw14_AllocPlays_j25 x7 x14 x15 x54 x56 (decide (y93 ≠ 0)) zb5 zb12))) else gabionlaw14_AllocPlays_j25 x7 x14 x15 x54 x56 false zb5 zb12) else gabionlaw14_AllocPlays_j25 x7 x14 x15 x54 x56 true zb5 zb12)) else (if x15 ≠ 0 then ((alloc_Set_Size zb12).bind fun y95 => (if y95 ≠ 0 then gabionlaw14_AllocPlays_j25 x7 x14 x15 x54 x56 true zb5 zb12 else ((alloc_Set_Free zb12).bind fun y97 => gabionlaw14_AllocPlays_j25 x7 x14 x15 x54 x56 (decide (y97 ≠ 0)) zb5 zb12))) else gabionlaw14_AllocPlays_j25 x7 x14 x15 x54 x56 false zb5 zb12)) else gabionlaw14_AllocPlays_j25 x7 x14 x15 x54 x56 true zb5 zb12)))
def gabionlaw14_AllocPlays_j42 (x7 : List Bool) (x13 : Int) (x14 : List Bool) (x15 : Int) (x16 : List (Int × Int)) (x17 : List (Int × Int)) (x54 : List (Int × Int × Int)) (x56 : Int) (x128 : Int) (x154 : Bool) (zb5 : Int × (List (Int × Int))) (zb12 : Int × (List (Int × Int))) : Option ((Int × Int) ⊕ (Bool ⊕ Int)) :=
  (if x154 = true then some (.inr (.inl false)) else some (.inl (x56, (wi64 (x128 + 1)))))
def gabionlaw14_AllocPlays_l2 (x7 : List Bool) (x13 : Int) (x14 : List Bool) (x15 : Int) (x16 : List (Int × Int)) (x17 : List (Int × Int)) (x54 : List (Int × Int × Int)) (zb5 : Int × (List (Int × Int))) (zb12 : Int × (List (Int × Int))) (x56 : Int) (x128 : Int) : Option ((Int × Int) ⊕ (Bool ⊕ Int)) :=
  (if x128 < (x16.length : Int) then ((rd x16 x128).bind fun y138 => ((rd x17 x128).bind fun y139 => (if y138.1 ≠ y139.1 then gabionlaw14_AllocPlays_j42 x7 x13 x14 x15 x16 x17 x54 x56 x128 true zb5 zb12 else ((rd x16 x128).bind fun y151 => ((rd x17 x128).bind fun y152 => gabionlaw14_AllocPlays_j42 x7 x13 x14 x15 x16 x17 x54 x56 x128 (decide (y151.2 ≠ y152.2)) zb5 zb12))))) else some (.inr (.inr x56)))
def gabionlaw14_AllocPlays_l1 (x54 : List (Int × Int × Int)) (x7 : List Bool) (x56 : Int) (zb5 : Int × (List (Int × Int))) : Option (((List Bool) × Int × (Int × (List (Int × Int)))) ⊕ (Bool ⊕ Unit)) :=
  (if x56 < (x54.length : Int) then ((rd x54 x56).bind fun y45 => (if (Int.tmod (mx 0 y45.1) 3) = 0 then ((alloc_Set_Use zb5 y45.2).bind fun y50 => ((gabionref14_Set x7 y45.2.1 y45.2.2 false).bind fun y56 => gabionlaw14_AllocPlays_j24 x7 y50.2 y56.1 y56.2 x54 x56 zb5 y50.1)) else (if (Int.tmod (mx 0 y45.1) 3) = 1 then ((alloc_Set_Give zb5 y45.2).bind fun y99 => ((gabionref14_Set x7 y45.2.1 y45.2.2 true).bind fun y105 => gabionlaw14_AllocPlays_j24 x7 y99.2 y105.1 y105.2 x54 x56 zb5 y99.1)) else (if (Int.tmod (mx 0 y45.1) 3) = 2 then ((alloc_Set_Take zb5 y45.2.2).bind fun y114 => ((gabionref14_Take x7 y45.2.2).bind fun y119 => (if (y114.2.1.length : Int) ≠ (y119.2.1.length : Int) then some (.inr (.inl false)) else ((iter (fun (s : Int × Int) => gabionlaw14_AllocPlays_l2 x7 y114.2.2 y119.1 y119.2.2 y114.2.1 y119.2.1 x54 zb5 y114.1 s.1 s.2) (y114.2.1.length + 1) (x56, 0)).bind fun e160 => on e160 (fun x161 => some (.inr (.inl x161))) (fun x163 => gabionlaw14_AllocPlays_j24 x7 y114.2.2 y119.1 y119.2.2 x54 x163 zb5 y114.1))))) else gabionlaw14_AllocPlays_j24 x7 0 ([]) 0 x54 x56 zb5 (0, []))))) else some (.inr (.inr ())))
def gabionlaw14_AllocPlays_j10 (x1 : List (Int × Int × Int)) (x7 : List Bool) (x49 : Bool) (zb5 : Int × (List (Int × Int))) : Option Bool :=
  (if x49 = true then some false else ((cutL x1 0 (mn (x1.length : Int) 50)).bind fun y37 => ((iter (fun (s : (List Bool) × Int × (Int × (List (Int × Int)))) => gabionlaw14_AllocPlays_l1 y37 s.1 s.2.1 s.2.2) (y37.length + 1) (x7, 0, zb5)).bind fun e171 => on e171 (fun x172 => some x172) (fun x174 => some true))))
def gabionlaw14_AllocPlays (a0 : Int) (a1 : List (Int × Int × Int)) : Option Bool :=
  ((alloc_New (Int.tmod (mx 0 a0) 40)).bind fun y1 => (ifS (0 ≤ (Int.tmod (mx 0 a0) 40) ∧ (Int.tmod (mx 0 a0) 40) ≤ 9223372036854775807 ∧ (1 : Nat) * (Int.tmod (mx 0 a0) 40) ≤ 281474976710656) ((iter (fun (s : (List Bool) × Int × Int) => gabionlaw14_AllocPlays_l0 a1 y1.2 y1.1 s.1 s.2.1 s.2.2) ((List.replicate ((Int.tmod (mx 0 a0) 40).toNat) false).length + 1) ((List.replicate ((Int.tmod (mx 0 a0) 40).toNat) false), ((List.replicate ((Int.tmod (mx 0 a0) 40).toNat) false).length : Int), 0)).bind fun e24 => ((gabionlaw14_wakes).bind fun y29 => (if y29 = true then (if y1.2 ≠ 0 then gabionlaw14_AllocPlays_j10 a1 e24 true y1.1 else ((gabionlaw14_same y1.1 e24).bind fun y175 => gabionlaw14_AllocPlays_j10 a1 e24 (!y175) y1.1)) else gabionlaw14_AllocPlays_j10 a1 e24 true y1.1)))))
def le_Put_l0 (x8 : Int) (x0 : Int) (x5 : List Int) (x9 : Int) : Option ((Int × (List Int) × Int) ⊕ (List Int)) :=
  (if x9 < x8 then ((appL 140737488355328 x5 ([(wu8 x0)])).bind fun y7 => some (.inl ((shrK .u64 x0 8), y7, (wi64 (x9 + 1))))) else some (.inr x5))
def le_Put (a0 : Int) (a1 : Int) : Option (List UInt8) :=
  ((iter (fun (s : Int × (List Int) × Int) => le_Put_l0 (mn (mx a1 0) 8) s.1 s.2.1 s.2.2) ((mn (mx a1 0) 8).toNat + 1) (a0, [], 0)).bind fun e13 => some (bytesOf e13))
def ext_List_Text_l0 (x9 : List (Int × Int)) (x3 : List UInt8) (x11 : Int) : Option (((List UInt8) × Int) ⊕ (List UInt8)) :=
  (if x11 < (x9.length : Int) then ((rd x9 x11).bind fun y5 => ((le_Put (wu64 (wi64 (y5.1 + 1))) 4).bind fun y7 => ((le_Put (wu64 y5.2) 4).bind fun y8 => ((catS y7 y8).bind fun y9 => ((catS x3 y9).bind fun y10 => some (.inl (y10, (wi64 (x11 + 1))))))))) else some (.inr x3))
def ext_List_Text (a0 : List (Int × Int)) : Option (List UInt8) :=
  ((ext_List_Right a0).bind fun y1 => (if y1 = true then ((iter (fun (s : (List UInt8) × Int) => ext_List_Text_l0 a0 s.1 s.2) (a0.length + 1) (([] : List UInt8), 0)).bind fun e11 => some e11) else some ([] : List UInt8)))
def gabionref01_Put_j3 (x0 : Int) (x1 : Int) (x5 : List Int) (x6 : Int) (x13 : Bool) : Option ((Int × (List Int) × Int) ⊕ (List Int)) :=
  (if x13 = true then ((appL 140737488355328 x5 ([(wu8 (Int.tmod x0 256))])).bind fun y9 => some (.inl ((wu64 (Int.tdiv x0 256)), y9, (wi64 (x6 + 1))))) else some (.inr x5))
def gabionref01_Put_l0 (x1 : Int) (x0 : Int) (x5 : List Int) (x6 : Int) : Option ((Int × (List Int) × Int) ⊕ (List Int)) :=
  (if x6 < x1 then gabionref01_Put_j3 x0 x1 x5 x6 (decide (x6 < 8)) else gabionref01_Put_j3 x0 x1 x5 x6 false)
def gabionref01_Put (a0 : Int) (a1 : Int) : Option (List UInt8) :=
  ((iter (fun (s : Int × (List Int) × Int) => gabionref01_Put_l0 a1 s.1 s.2.1 s.2.2) (100000) (a0, [], 0)).bind fun e15 => some (bytesOf e15))
def gabionref15_Text_j4 (x0 : List (Int × Int)) (x3 : Bool) (x4 : List UInt8) (x5 : Int) (x16 : Bool) : Option (((List UInt8) × Int) ⊕ (List UInt8)) :=
  (if x16 = true then ((rd x0 x5).bind fun y6 => ((gabionref01_Put (wu64 (wi64 (y6.1 + 1))) 4).bind fun y7 => ((rd x0 x5).bind fun y8 => ((gabionref01_Put (wu64 y8.2) 4).bind fun y9 => ((catS x4 y7).bind fun y10 => ((catS y10 y9).bind fun y11 => some (.inl (y11, (wi64 (x5 + 1)))))))))) else some (.inr x4))
def gabionref15_Text_l0 (x0 : List (Int × Int)) (x3 : Bool) (x4 : List UInt8) (x5 : Int) : Option (((List UInt8) × Int) ⊕ (List UInt8)) :=
  (if x5 < (x0.length : Int) then gabionref15_Text_j4 x0 x3 x4 x5 x3 else gabionref15_Text_j4 x0 x3 x4 x5 false)
def gabionref15_Text (a0 : List (Int × Int)) : Option (List UInt8) :=
  ((gabionref15_Right a0).bind fun y1 => ((iter (fun (s : (List UInt8) × Int) => gabionref15_Text_l0 a0 y1 s.1 s.2) (100000) (([] : List UInt8), 0)).bind fun e12 => some e12))
def le_Get_l0 (x0 : List UInt8) (x3 : Int) (x4 : Int) : Option ((Int × Int) ⊕ Int) :=
  (if 0 ≤ x4 then ((rd x0 x4).bind fun y2 => some (.inl ((bitsA .or .u64 (shlK .u64 x3 8) (wu64 (y2.toNat : Int))), (wi64 (x4 - 1))))) else some (.inr x3))
def le_Get (a0 : List UInt8) : Option Int :=
  ((iter (fun (s : Int × Int) => le_Get_l0 a0 s.1 s.2) (100000) (0, (wi64 ((mn (a0.length : Int) 8) - 1)))).bind fun e3 => some e3)
def ext_Parse_l0 (x0 : List UInt8) (x4 : List (Int × Int)) (x5 : Int) : Option (((List (Int × Int)) × Int) ⊕ (List (Int × Int))) :=
  (if (wi64 (x5 + 8)) ≤ (x0.length : Int) then ((cutL x0 x5 (wi64 (x5 + 4))).bind fun y3 => ((cutL x0 (wi64 (x5 + 4)) (wi64 (x5 + 8))).bind fun y4 => ((le_Get y3).bind fun y5 => ((le_Get y4).bind fun y6 => ((appL 8796093022208 x4 ([((wi64 ((wi64 y5) - 1)), (wi64 y6))])).bind fun y11 => some (.inl (y11, (wi64 (x5 + 8))))))))) else some (.inr x4))
def ext_Parse_j7 (x4 : List (Int × Int)) (x41 : Bool) : Option ((List (Int × Int)) × Int) :=
  (if x41 = true then some ([], 4) else some (x4, 0))
def ext_Parse (a0 : List UInt8) : Option ((List (Int × Int)) × Int) :=
  ((iter (fun (s : (List (Int × Int)) × Int) => ext_Parse_l0 a0 s.1 s.2) (100000) ([], 0)).bind fun e17 => (if (Int.tmod (a0.length : Int) 8) ≠ 0 then ext_Parse_j7 e17 true else ((ext_List_Right e17).bind fun y22 => ext_Parse_j7 e17 (!y22))))
def gabionlaw15_ExtMaps_j9 (x1 : Int) (x2 : List UInt8) (x30 : List (List (Int × Int))) (x32 : Int) : Option (Int ⊕ (Bool ⊕ Unit)) :=
  some (.inl (wi64 (x32 + 1)))
def gabionlaw15_ExtMaps_j21 (x1 : Int) (x2 : List UInt8) (x9 : List (Int × Int)) (x10 : List (Int × Int)) (x11 : List Int) (x12 : Int) (x30 : List (List (Int × Int))) (x32 : Int) (x63 : List Int) (x65 : Int) : Option ((Int × Int × Int) ⊕ (Bool ⊕ (Int × Int))) :=
  some (.inl (x12, x32, (wi64 (x65 + 1))))
def gabionlaw15_ExtMaps_j18 (x1 : Int) (x2 : List UInt8) (x9 : List (Int × Int)) (x10 : List (Int × Int)) (x11 : List Int) (x12 : Int) (x14 : Int) (x30 : List (List (Int × Int))) (x32 : Int) (x63 : List Int) (x65 : Int) (x82 : Bool) : Option ((Int × Int × Int) ⊕ (Bool ⊕ (Int × Int))) :=
  (if x82 = true then some (.inr (.inl false)) else (if 0 ≤ x14 then gabionlaw15_ExtMaps_j21 x1 x2 x9 x10 x11 (wi64 (x12 + 1)) x30 x32 x63 x65 else gabionlaw15_ExtMaps_j21 x1 x2 x9 x10 x11 x12 x30 x32 x63 x65))
def gabionlaw15_ExtMaps_l1 (x1 : Int) (x2 : List UInt8) (x9 : List (Int × Int)) (x10 : List (Int × Int)) (x11 : List Int) (x30 : List (List (Int × Int))) (x63 : List Int) (x12 : Int) (x32 : Int) (x65 : Int) : Option ((Int × Int × Int) ⊕ (Bool ⊕ (Int × Int))) :=
  (if x65 < (x63.length : Int) then ((rd x63 x65).bind fun y61 => ((ext_List_Map x9 x65).bind fun y62 => (if y62.2 = true then gabionlaw15_ExtMaps_j18 x1 x2 x9 x10 x11 x12 y61 x30 x32 x63 x65 (decide (y62.1 ≠ y61)) else gabionlaw15_ExtMaps_j18 x1 x2 x9 x10 x11 x12 y61 x30 x32 x63 x65 true))) else some (.inr (.inr (x12, x32))))
def gabionlaw15_ExtMaps_j27 (x1 : Int) (x2 : List UInt8) (x30 : List (List (Int × Int))) (x32 : Int) (x161 : Bool) : Option (Int ⊕ (Bool ⊕ Unit)) :=
  (if x161 = true then some (.inr (.inl false)) else gabionlaw15_ExtMaps_j9 x1 x2 x30 x32)
def gabionlaw15_ExtMaps_j8 (x1 : Int) (x2 : List UInt8) (x9 : List (Int × Int)) (x10 : List (Int × Int)) (x30 : List (List (Int × Int))) (x32 : Int) (x60 : Bool) : Option (Int ⊕ (Bool ⊕ Unit)) :=
  (if x60 = true then gabionlaw15_ExtMaps_j9 x1 x2 x30 x32 else ((gabionref15_Blocks x10).bind fun y48 => ((iter (fun (s : Int × Int × Int) => gabionlaw15_ExtMaps_l1 x1 x2 x9 x10 y48 x30 y48 s.1 s.2.1 s.2.2) (y48.length + 1) (0, x32, 0)).bind fun e82 => on e82 (fun x83 => some (.inr (.inl x83))) (fun x85 => ((ext_List_Map x9 (y48.length : Int)).bind fun y90 => ((ext_List_Map x9 (-1)).bind fun y93 => ((ext_List_Map x9 x1).bind fun y96 => ((ext_List_Text x9).bind fun y99 => ((ext_Parse y99).bind fun y102 => (if y90.2 = true then gabionlaw15_ExtMaps_j27 x1 x2 x30 x85.2 true else (if y93.2 = true then gabionlaw15_ExtMaps_j27 x1 x2 x30 x85.2 true else (if 0 ≤ x1 then (if y96.2 = (decide (x1 < (y48.length : Int))) then (if y96.2 = true then ((rd y48 x1).bind fun y115 => (if y96.1 ≠ y115 then gabionlaw15_ExtMaps_j27 x1 x2 x30 x85.2 true else ((ext_List_Blocks x9).bind fun y117 => (if y117 ≠ (y48.length : Int) then gabionlaw15_ExtMaps_j27 x1 x2 x30 x85.2 true else ((ext_List_Held x9).bind fun y121 => (if y121 ≠ x85.1 then gabionlaw15_ExtMaps_j27 x1 x2 x30 x85.2 true else (if y102.2 ≠ 0 then gabionlaw15_ExtMaps_j27 x1 x2 x30 x85.2 true else ((gabionlaw15_same y102.1 x10).bind fun y126 => gabionlaw15_ExtMaps_j27 x1 x2 x30 x85.2 (!y126))))))))) else ((ext_List_Blocks x9).bind fun y129 => (if y129 ≠ (y48.length : Int) then gabionlaw15_ExtMaps_j27 x1 x2 x30 x85.2 true else ((ext_List_Held x9).bind fun y133 => (if y133 ≠ x85.1 then gabionlaw15_ExtMaps_j27 x1 x2 x30 x85.2 true else (if y102.2 ≠ 0 then gabionlaw15_ExtMaps_j27 x1 x2 x30 x85.2 true else ((gabionlaw15_same y102.1 x10).bind fun y138 => gabionlaw15_ExtMaps_j27 x1 x2 x30 x85.2 (!y138)))))))) else gabionlaw15_ExtMaps_j27 x1 x2 x30 x85.2 true) else (if y96.2 = false then (if y96.2 = true then ((rd y48 x1).bind fun y143 => (if y96.1 ≠ y143 then gabionlaw15_ExtMaps_j27 x1 x2 x30 x85.2 true else ((ext_List_Blocks x9).bind fun y145 => (if y145 ≠ (y48.length : Int) then gabionlaw15_ExtMaps_j27 x1 x2 x30 x85.2 true else ((ext_List_Held x9).bind fun y149 => (if y149 ≠ x85.1 then gabionlaw15_ExtMaps_j27 x1 x2 x30 x85.2 true else (if y102.2 ≠ 0 then gabionlaw15_ExtMaps_j27 x1 x2 x30 x85.2 true else ((gabionlaw15_same y102.1 x10).bind fun y154 => gabionlaw15_ExtMaps_j27 x1 x2 x30 x85.2 (!y154))))))))) else ((ext_List_Blocks x9).bind fun y157 => (if y157 ≠ (y48.length : Int) then gabionlaw15_ExtMaps_j27 x1 x2 x30 x85.2 true else ((ext_List_Held x9).bind fun y161 => (if y161 ≠ x85.1 then gabionlaw15_ExtMaps_j27 x1 x2 x30 x85.2 true else (if y102.2 ≠ 0 then gabionlaw15_ExtMaps_j27 x1 x2 x30 x85.2 true else ((gabionlaw15_same y102.1 x10).bind fun y166 => gabionlaw15_ExtMaps_j27 x1 x2 x30 x85.2 (!y166)))))))) else gabionlaw15_ExtMaps_j27 x1 x2 x30 x85.2 true)))))))))))))
def gabionlaw15_ExtMaps_j6 (x1 : Int) (x2 : List UInt8) (x9 : List (Int × Int)) (x10 : List (Int × Int)) (x30 : List (List (Int × Int))) (x32 : Int) (x52 : Bool) : Option (Int ⊕ (Bool ⊕ Unit)) :=
  (if x52 = true then some (.inr (.inl false)) else ((gabionref15_Right x10).bind fun y38 => (if y38 = true then ((ext_List_Blocks x9).bind fun y40 => gabionlaw15_ExtMaps_j8 x1 x2 x9 x10 x30 x32 (decide (2000 < y40))) else gabionlaw15_ExtMaps_j8 x1 x2 x9 x10 x30 x32 true)))
def gabionlaw15_ExtMaps_l0 (x1 : Int) (x2 : List UInt8) (x30 : List (List (Int × Int))) (x32 : Int) : Option (Int ⊕ (Bool ⊕ Unit)) :=
  (if x32 < (x30.length : Int) then ((rd x30 x32).bind fun y15 => ((gabionlaw15_list y15).bind fun y17 => ((ext_List_Right y17.1).bind fun y25 => ((gabionref15_Right y17.2).bind fun y28 => (if y25 = y28 then ((ext_List_Text y17.1).bind fun y30 => ((gabionref15_Text y17.2).bind fun y33 => gabionlaw15_ExtMaps_j6 x1 x2 y17.1 y17.2 x30 x32 (!(decide (y30 = y33))))) else gabionlaw15_ExtMaps_j6 x1 x2 y17.1 y17.2 x30 x32 true))))) else some (.inr (.inr ())))
def gabionlaw15_ExtMaps (a0 : List (Int × Int)) (a1 : Int) (a2 : List UInt8) : Option Bool :=
  ((gabionlaw15_tame a0).bind fun y1 => ((iter (fun (s : Int) => gabionlaw15_ExtMaps_l0 a1 a2 ([a0, y1]) s) (([a0, y1]).length + 1) 0).bind fun e169 => on e169 (fun x170 => some x170) (fun x172 => ((cutL a2 0 (mn (a2.length : Int) 600)).bind fun y173 => ((ext_Parse y173).bind fun y174 => ((gabionlaw15_wakes).bind fun y180 => (if y180 = true then (if y174.2 = 0 then ((ext_List_Text y174.1).bind fun y183 => (if y183 = y173 then ((ext_List_Right y174.1).bind fun y187 => (if y187 = true then some true else (if y174.2 = 4 then some (decide ((y174.1.length : Int) = 0)) else some false))) else (if y174.2 = 4 then some (decide ((y174.1.length : Int) = 0)) else some false))) else (if y174.2 = 4 then some (decide ((y174.1.length : Int) = 0)) else some false)) else some false)))))))
def gabionlaw15_ExtParts_j17 (x3 : List (Int × Int)) (x4 : List (Int × Int)) (x5 : List (Int × Int)) (x11 : Int) (x18 : List (Int × Int)) (x20 : Int) (x45 : Int) (x46 : Int) (zb7 : Int × Int) : Option (((List (Int × Int)) × Int × Int) ⊕ (Bool ⊕ ((List (Int × Int)) × Int))) :=
  ((ext_List_Append x5 (x11, 1)).bind fun y32 => (if y32.2 ≠ 0 then some (.inr (.inl false)) else some (.inl (y32.1, x20, (wi64 (x46 + 1))))))
def gabionlaw15_ExtParts_l1 (x3 : List (Int × Int)) (x4 : List (Int × Int)) (x18 : List (Int × Int)) (x45 : Int) (zb7 : Int × Int) (x5 : List (Int × Int)) (x20 : Int) (x46 : Int) : Option (((List (Int × Int)) × Int × Int) ⊕ (Bool ⊕ ((List (Int × Int)) × Int))) :=
  (if x46 < x45 then (if zb7.1 = (-1) then gabionlaw15_ExtParts_j17 x3 x4 x5 (-1) x18 x20 x45 x46 zb7 else gabionlaw15_ExtParts_j17 x3 x4 x5 (wi64 (zb7.1 + x46)) x18 x20 x45 x46 zb7) else some (.inr (.inr (x5, x20))))
def gabionlaw15_ExtParts_l0 (x3 : List (Int × Int)) (x18 : List (Int × Int)) (x4 : List (Int × Int)) (x5 : List (Int × Int)) (x20 : Int) : Option (((List (Int × Int)) × (List (Int × Int)) × Int) ⊕ (Bool ⊕ ((List (Int × Int)) × (List (Int × Int))))) :=
  (if x20 < (x18.length : Int) then ((rd x18 x20).bind fun y13 => ((ext_List_Append x4 y13).bind fun y15 => (if y15.2 ≠ 0 then (if y15.2 = 7 then some (.inr (.inl (decide ((x4.length : Int) = 64)))) else some (.inr (.inl false))) else ((iter (fun (s : (List (Int × Int)) × Int × Int) => gabionlaw15_ExtParts_l1 x3 y15.1 x18 y13.2 y13 s.1 s.2.1 s.2.2) (y13.2.toNat + 1) (x5, x20, 0)).bind fun e40 => on e40 (fun x41 => some (.inr (.inl x41))) (fun x43 => some (.inl (y15.1, x43.1, (wi64 (x43.2 + 1))))))))) else some (.inr (.inr (x4, x5))))
def gabionlaw15_ExtParts (a0 : List (Int × Int)) : Option Bool :=
  ((gabionlaw15_tame a0).bind fun y1 => ((iter (fun (s : (List (Int × Int)) × (List (Int × Int)) × Int) => gabionlaw15_ExtParts_l0 y1 y1 s.1 s.2.1 s.2.2) (y1.length + 1) ([], [], 0)).bind fun e51 => on e51 (fun x52 => some x52) (fun x54 => ((ext_List_Text x54.1).bind fun y58 => ((ext_Parse y58).bind fun y59 => ((gabionlaw15_wakes).bind fun y65 => (if y65 = true then ((gabionlaw15_same x54.1 y1).bind fun y67 => (if y67 = true then ((gabionlaw15_same x54.2 y1).bind fun y69 => (if y69 = true then (if y59.2 = 0 then ((gabionlaw15_same y59.1 y1).bind fun y72 => some y72) else some false) else some false)) else some false)) else some false)))))))
def gabionlaw16_cut (a0 : Int × Int × Int × (List (Int × Int)) × (List UInt8)) : Option (Int × Int × Int × (List (Int × Int)) × (List UInt8)) :=
  ((cutL a0.2.2.2.1 0 (mn (a0.2.2.2.1.length : Int) 70)).bind fun y3 => ((cutL a0.2.2.2.2 0 (mn (a0.2.2.2.2.length : Int) 300)).bind fun y4 => some (a0.1, a0.2.1, a0.2.2.1, y3, y4)))
def gabionlaw16_of_l0 (x16 : List (Int × Int)) (zb2 : Int × Int × Int × (List (Int × Int)) × (List UInt8)) (x18 : Int) (zb3 : Int × Int × Int × (List (Int × Int)) × (List UInt8)) : Option ((Int × (Int × Int × Int × (List (Int × Int)) × (List UInt8))) ⊕ (Int × Int × Int × (List (Int × Int)) × (List UInt8))) :=
  (if x18 < (x16.length : Int) then ((rd x16 x18).bind fun y10 => ((appL 8796093022208 zb3.2.2.2.1 ([y10])).bind fun y16 => some (.inl ((wi64 (x18 + 1)), (zb3.1, zb3.2.1, zb3.2.2.1, y16, zb3.2.2.2.2))))) else some (.inr zb3))
def gabionlaw16_of (a0 : Int × Int × Int × (List (Int × Int)) × (List UInt8)) : Option (Int × Int × Int × (List (Int × Int)) × (List UInt8)) :=
  ((iter (fun (s : Int × (Int × Int × Int × (List (Int × Int)) × (List UInt8))) => gabionlaw16_of_l0 a0.2.2.2.1 (0, 0, 0, [], ([] : List UInt8)) s.1 s.2) (a0.2.2.2.1.length + 1) (0, (a0.1, a0.2.1, a0.2.2.1, [], a0.2.2.2.2))).bind fun e25 => some e25)
def inode_Need (a0 : Int) : Option Int :=
  (if a0 < 1 then some 0 else some (wi64 ((wi64 (Int.tdiv (wi64 (a0 - 1)) 64)) + 1)))
def inode_Inode_file (a0 : Int × Int × Int × (List (Int × Int)) × (List UInt8)) : Option Bool :=
  (if 0 ≤ a0.2.2.1 then (if a0.2.2.1 ≤ 4194304 then ((ext_List_Right a0.2.2.2.1).bind fun y4 => (if y4 = true then ((ext_List_Blocks a0.2.2.2.1).bind fun y6 => ((inode_Need a0.2.2.1).bind fun y7 => (if y6 = y7 then some (decide (a0.2.2.2.2 = ([] : List UInt8))) else some false))) else some false)) else some false) else some false)
def bytealg_Cutover (a0 : Int) : Option Int :=
  some (wi64 (Int.tdiv (wi64 (a0 + 16)) 8))
def bytealg_hashStr_string_l0 (x0 : List UInt8) (x4 : Int) (x5 : Int) : Option ((Int × Int) ⊕ Int) :=
  (if x5 < (x0.length : Int) then ((rd x0 x5).bind fun y2 => some (.inl ((wu32 ((wu32 (x4 * 16777619)) + (wu32 (y2.toNat : Int)))), (wi64 (x5 + 1))))) else some (.inr x4))
def bytealg_hashStr_string_j12 (x4 : Int) (x6 : Int) (x7 : Int) (x8 : Int) : Option ((Int × Int × Int × Int) ⊕ (Int × Int)) :=
  some (.inl (x4, x6, (wu32 (x7 * x7)), (shrK .i64 x8 1)))
def bytealg_hashStr_string_l1 (x4 : Int) (x6 : Int) (x7 : Int) (x8 : Int) : Option ((Int × Int × Int × Int) ⊕ (Int × Int)) :=
  (if 0 < x8 then (if (bitsA .and .i64 x8 1) ≠ 0 then bytealg_hashStr_string_j12 x4 (wu32 (x6 * x7)) x7 x8 else bytealg_hashStr_string_j12 x4 x6 x7 x8) else some (.inr (x4, x6)))
def bytealg_hashStr_string (a0 : List UInt8) : Option (Int × Int) :=
  ((iter (fun (s : Int × Int) => bytealg_hashStr_string_l0 a0 s.1 s.2) (100000) (0, 0)).bind fun e3 => ((iter (fun (s : Int × Int × Int × Int) => bytealg_hashStr_string_l1 s.1 s.2.1 s.2.2.1 s.2.2.2) (100000) (e3, 1, 16777619, (a0.length : Int))).bind fun e6 => some (e6.1, e6.2)))
def bytealg_IndexRabinKarp_string_l0 (x0 : List UInt8) (x1 : List UInt8) (x5 : Int) (x6 : Int) (x8 : Int) (x9 : Int) : Option ((Int × Int) ⊕ Int) :=
  (if x9 < (x1.length : Int) then ((rd x0 x9).bind fun y3 => some (.inl ((wu32 ((wu32 (x8 * 16777619)) + (wu32 (y3.toNat : Int)))), (wi64 (x9 + 1))))) else some (.inr x8))
def bytealg_IndexRabinKarp_string_j18 (x0 : List UInt8) (x1 : List UInt8) (x5 : Int) (x6 : Int) (x8 : Int) (x10 : Int) (x77 : Bool) : Option ((Int × Int) ⊕ (Int ⊕ Unit)) :=
  (if x77 = true then some (.inr (.inl (wi64 (x10 - (x1.length : Int))))) else some (.inl (x8, x10)))
def bytealg_IndexRabinKarp_string_l1 (x0 : List UInt8) (x1 : List UInt8) (x5 : Int) (x6 : Int) (x8 : Int) (x10 : Int) : Option ((Int × Int) ⊕ (Int ⊕ Unit)) :=
  (if x10 < (x0.length : Int) then ((rd x0 x10).bind fun y9 => ((rd x0 (wi64 (x10 - (x1.length : Int)))).bind fun y10 => (if (wu32 ((wu32 ((wu32 (x8 * 16777619)) + (wu32 (y9.toNat : Int)))) - (wu32 (x6 * (wu32 (y10.toNat : Int)))))) = x5 then ((cutL x0 (wi64 ((wi64 (x10 + 1)) - (x1.length : Int))) (wi64 (x10 + 1))).bind fun y12 => bytealg_IndexRabinKarp_string_j18 x0 x1 x5 x6 (wu32 ((wu32 ((wu32 (x8 * 16777619)) + (wu32 (y9.toNat : Int)))) - (wu32 (x6 * (wu32 (y10.toNat : Int)))))) (wi64 (x10 + 1)) (decide (y12 = x1))) else bytealg_IndexRabinKarp_string_j18 x0 x1 x5 x6 (wu32 ((wu32 ((wu32 (x8 * 16777619)) + (wu32 (y9.toNat : Int)))) - (wu32 (x6 * (wu32 (y10.toNat : Int)))))) (wi64 (x10 + 1)) false))) else some (.inr (.inr ())))
def bytealg_IndexRabinKarp_string_j9 (x0 : List UInt8) (x1 : List UInt8) (x5 : Int) (x6 : Int) (x8 : Int) (x39 : Bool) : Option Int :=
  (if x39 = true then some 0 else ((iter (fun (s : Int × Int) => bytealg_IndexRabinKarp_string_l1 x0 x1 x5 x6 s.1 s.2) (100000) (x8, (x1.length : Int))).bind fun e14 => on e14 (fun x15 => some x15) (fun x17 => some (-1))))
def bytealg_IndexRabinKarp_string (a0 : List UInt8) (a1 : List UInt8) : Option Int :=
  ((bytealg_hashStr_string a1).bind fun y1 => ((iter (fun (s : Int × Int) => bytealg_IndexRabinKarp_string_l0 a0 a1 y1.1 y1.2 s.1 s.2) (100000) (0, 0)).bind fun e4 => (if e4 = y1.1 then ((cutL a0 0 (a1.length : Int)).bind fun y6 => bytealg_IndexRabinKarp_string_j9 a0 a1 y1.1 y1.2 e4 (decide (y6 = a1))) else bytealg_IndexRabinKarp_string_j9 a0 a1 y1.1 y1.2 e4 false)))
def gabionref16_Need (a0 : Int) : Option Int :=
  (if a0 < 1 then some 0 else (if 0 < (Int.tmod a0 64) then some (wi64 ((wi64 (Int.tdiv a0 64)) + 1)) else some (wi64 (Int.tdiv a0 64))))
def gabionref16_Right_l0 (zb1 : Int × Int × Int × (List (Int × Int)) × (List UInt8)) (x4 : Int) (x5 : Int) : Option ((Int × Int) ⊕ Int) :=
  (if x5 < (zb1.2.2.2.1.length : Int) then ((rd zb1.2.2.2.1 x5).bind fun y16 => some (.inl ((wi64 (x4 + y16.2)), (wi64 (x5 + 1))))) else some (.inr x4))
def gabionref16_Right_j6 (x39 : Bool) (zb1 : Int × Int × Int × (List (Int × Int)) × (List UInt8)) : Option Bool :=
  (if x39 = true then some false else ((iter (fun (s : Int × Int) => gabionref16_Right_l0 zb1 s.1 s.2) (100000) (0, 0)).bind fun e19 => ((gabionref16_Need zb1.2.2.1).bind fun y22 => some (decide (e19 = y22)))))
def gabionref16_Right_l1 (zb1 : Int × Int × Int × (List (Int × Int)) × (List UInt8)) (x7 : Int) : Option (Int ⊕ (Bool ⊕ Unit)) :=
  (if x7 < (zb1.2.2.2.2.length : Int) then ((rd zb1.2.2.2.2 x7).bind fun y32 => (if (y32.toNat : Int) = 0 then some (.inr (.inl false)) else some (.inl (wi64 (x7 + 1))))) else some (.inr (.inr ())))
def gabionref16_Right_j1 (x15 : Bool) (zb1 : Int × Int × Int × (List (Int × Int)) × (List UInt8)) : Option Bool :=
  (if x15 = true then some false else (if zb1.1 = 1 then ((gabionref15_Right zb1.2.2.2.1).bind fun y7 => (if y7 = true then (if zb1.2.2.1 < 0 then gabionref16_Right_j6 true zb1 else (if 4194304 < zb1.2.2.1 then gabionref16_Right_j6 true zb1 else gabionref16_Right_j6 (!(decide (zb1.2.2.2.2 = ([] : List UInt8)))) zb1)) else gabionref16_Right_j6 true zb1)) else (if zb1.1 = 2 then (if zb1.2.2.1 = 0 then (if (zb1.2.2.2.1.length : Int) = 0 then some (decide (zb1.2.2.2.2 = ([] : List UInt8))) else some false) else some false) else (if zb1.1 = 3 then ((iter (fun (s : Int) => gabionref16_Right_l1 zb1 s) (100000) 0).bind fun e36 => on e36 (fun x37 => some x37) (fun x39 => (if 1 ≤ (zb1.2.2.2.2.length : Int) then (if (zb1.2.2.2.2.length : Int) ≤ 256 then (if zb1.2.2.1 = (zb1.2.2.2.2.length : Int) then some (decide ((zb1.2.2.2.1.length : Int) = 0)) else some false) else some false) else some false))) else some false))))
def gabionref16_Right (a0 : Int × Int × Int × (List (Int × Int)) × (List UInt8)) : Option Bool :=
  (if a0.2.1 < 0 then gabionref16_Right_j1 true a0 else gabionref16_Right_j1 (decide (1000 < a0.2.1)) a0)
def gabionref16_Text_j2 (x1 : Int) (x21 : Bool) (zb2 : Int × Int × Int × (List (Int × Int)) × (List UInt8)) : Option (List UInt8) :=
  (if x21 = true then some ([] : List UInt8) else ((gabionref01_Put (wu64 x1) 2).bind fun y8 => ((gabionref01_Put (wu64 zb2.2.1) 2).bind fun y9 => ((gabionref01_Put (wu64 zb2.2.2.1) 4).bind fun y10 => ((gabionref15_Text zb2.2.2.2.1).bind fun y11 => ((catS y8 (bytesOf ([zb2.1]))).bind fun y16 => ((catS y16 y9).bind fun y17 => ((catS y17 y10).bind fun y18 => ((catS y18 y11).bind fun y19 => ((catS y19 zb2.2.2.2.2).bind fun y20 => some y20))))))))))
def gabionref16_Text (a0 : Int × Int × Int × (List (Int × Int)) × (List UInt8)) (a1 : Int) : Option (List UInt8) :=
  ((gabionref16_Right a0).bind fun y2 => (if y2 = true then (if a1 < 0 then gabionref16_Text_j2 a1 true a0 else gabionref16_Text_j2 a1 (decide (65535 < a1)) a0) else gabionref16_Text_j2 a1 true a0))
def slices_Equal_ext_List_alloc_Extent_l0 (x0 : List (Int × Int)) (x1 : List (Int × Int)) (x13 : Int) : Option (Int ⊕ (Bool ⊕ Unit)) :=
  (if x13 < (x0.length : Int) then ((rd x0 x13).bind fun y5 => ((rd x1 x13).bind fun y6 => (if (decide (y5.1 = y6.1) && (decide (y5.2 = y6.2) && true)) = true then some (.inl (wi64 (x13 + 1))) else some (.inr (.inl false))))) else some (.inr (.inr ())))
def slices_Equal_ext_List_alloc_Extent (a0 : List (Int × Int)) (a1 : List (Int × Int)) : Option Bool :=
  (if (a0.length : Int) ≠ (a1.length : Int) then some false else ((iter (fun (s : Int) => slices_Equal_ext_List_alloc_Extent_l0 a0 a1 s) (a0.length + 1) 0).bind fun e8 => on e8 (fun x9 => some x9) (fun x11 => some true)))
def inode_Equal (a0 : Int × Int × Int × (List (Int × Int)) × (List UInt8)) (a1 : Int × Int × Int × (List (Int × Int)) × (List UInt8)) : Option Bool :=
  (if a0.1 = a1.1 then (if a0.2.1 = a1.2.1 then (if a0.2.2.1 = a1.2.2.1 then ((slices_Equal_ext_List_alloc_Extent a0.2.2.2.1 a1.2.2.2.1).bind fun y6 => (if y6 = true then some (decide (a0.2.2.2.2 = a1.2.2.2.2)) else some false)) else some false) else some false) else some false)
end Gab
