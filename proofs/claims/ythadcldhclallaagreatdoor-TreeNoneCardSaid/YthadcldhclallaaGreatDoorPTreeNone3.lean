/- Joined out of Fd Types Ty FpPre0 Pl Ha Ps Hq Hl Hx Hy Hg Hz Rf Sq by a program. -/
import Derived.Test.YthadcldhclallaaGreatDoorPTreeNone2
import Derived.Test.YthadcldhclallaaGreatDoorProg
import Derived.Test.YthadcldhclallaaGreatDoorPTreeNone1
import Derived.KernelRfl
import Derived.Sort.Walk0
import Derived.Shelf.SlSortCmp.NoneTotal
import Derived.Ground.SlsfProg
import Derived.Scope
import Derived.Sort.Grow
import Derived.Deep.Draws
import Derived.Shelf.Strings.IndexAnyAll
section
set_option linter.unusedSimpArgs false
set_option linter.unusedVariables false
set_option maxHeartbeats 4000000
set_option maxRecDepth 100000
namespace Gab
open Go
structure Heap where
  h122 : List (List (Int × Nat))
  h123 : List (List ((Int × (List UInt8)) × Bool))
  h124 : List (List (Int × Bool))
  h126 : List (Nat × Nat × Nat)
  h131 : List ((Int × Int × Int × (List (Int × Int)) × (List UInt8)) × Nat × Int × Int)
  h153 : List (Nat × Int × (List (List UInt8)) × Bool × Int)
  h210 : List ((List Nat) × Int)
  h222 : List (List ((List UInt8) × Int))
def tree_Tree_get (H : Heap) (a0 : Nat) (a1 : Int) : Option (Nat × Int) :=
  (if a0 = 0 then some (0, 1) else ((hobj H.h126 a0).bind fun y2 => ((hmap H.h122 y2.1).bind fun y6 => (if ((mget y6 a1).isSome) = true then some (((mget y6 a1).getD 0), 0) else some (0, 13)))))
def slices_Clone_ext_List_alloc_Extent (a0 : List (Int × Int)) : Option (List (Int × Int)) := appL 8796093022208 [] a0
def tree_Tree_Inode (H : Heap) (a0 : Nat) (a1 : Int) : Option ((Int × Int × Int × (List (Int × Int)) × (List UInt8)) × Int) :=
  ((tree_Tree_get H a0 a1).bind fun y2 => (if y2.2 ≠ 0 then some (((0, 0, 0, [], ([] : List UInt8)) : Int × Int × Int × (List (Int × Int)) × (List UInt8)), y2.2) else ((hobj H.h131 y2.1).bind fun y6 => ((slices_Clone_ext_List_alloc_Extent y6.1.2.2.2.1).bind fun y10 => some ((y6.1.1, y6.1.2.1, y6.1.2.2.1, y10, y6.1.2.2.2.2), 0)))))
def tree_Tree_dir_j2 (H : Heap) (x6 : Nat) (x7 : Int) (x23 : Bool) : Option (Nat × Int) :=
  (if x23 = true then some (0, 16) else some (x6, x7))
def tree_Tree_dir (H : Heap) (a0 : Nat) (a1 : Int) : Option (Nat × Int) :=
  ((tree_Tree_get H a0 a1).bind fun y1 => (if y1.2 = 0 then ((hobj H.h131 y1.1).bind fun y5 => tree_Tree_dir_j2 H y1.1 y1.2 (decide (y5.1.1 ≠ 2))) else tree_Tree_dir_j2 H y1.1 y1.2 false))
def cmp_isNaN_string (a0 : List UInt8) : Option Bool :=
  some (!(decide (a0 = a0)))
def cmp_Compare_string (a0 : List UInt8) (a1 : List UInt8) : Option Int :=
  ((cmp_isNaN_string a0).bind fun y1 => ((cmp_isNaN_string a1).bind fun y2 => (if y1 = true then (if y2 = true then some 0 else some (-1)) else (if y2 = true then some 1 else (if (Op.bytesLess a0 a1) = true then some (-1) else (if ((Op.bytesLess a0 a1) || decide (a0 = a1)) = true then some 0 else some 1))))))
def dir_Dir_List_1 (a0 : (List UInt8) × Int) (a1 : (List UInt8) × Int) : Option Int :=
  ((cmp_Compare_string a0.1 a1.1).bind fun y3 => some y3)
def dir_Dir_List (H : Heap) (a0 : Nat) : Option (List (List UInt8 × Int)) := if a0 = 0 then some [] else (hobj H.h210 a0).bind fun d => (d.1.mapM fun m => hobj H.h222 m).bind fun ms => ifS ((ms.flatten.map (·.1)).Nodup) (ifS (ms.flatten.length ≤ 1000000 ∧ d.1.length ≤ 1000000) (some (sortE ms.flatten)))
def tree_Tree_Names (H : Heap) (a0 : Nat) (a1 : Int) : Option ((List ((List UInt8) × Int)) × Int) :=
  ((tree_Tree_dir H a0 a1).bind fun y1 => (if y1.2 ≠ 0 then some ([], y1.2) else ((hobj H.h131 y1.1).bind fun y5 => ((dir_Dir_List H y5.2.1).bind fun y8 => some (y8, 0)))))
def crc_Sum16_j13 (x0 : List UInt8) (x3 : Int) (x8 : Int) (x18 : Int) : Option ((Int × Int × Int) ⊕ (Int × Int)) :=
  some (.inl (x3, x8, (wi64 (x18 + 1))))
def crc_Sum16_l1 (x0 : List UInt8) (x3 : Int) (x8 : Int) (x18 : Int) : Option ((Int × Int × Int) ⊕ (Int × Int)) :=
  (if x18 < 8 then (if (bitsA .and .u16 x3 32768) ≠ 0 then crc_Sum16_j13 x0 (bitsA .xor .u16 (shlK .u16 x3 1) 4129) x8 x18 else crc_Sum16_j13 x0 (shlK .u16 x3 1) x8 x18) else some (.inr (x3, x8)))
def crc_Sum16_l0 (x0 : List UInt8) (x3 : Int) (x8 : Int) : Option ((Int × Int) ⊕ Int) :=
  (if x8 < (x0.length : Int) then ((rd x0 x8).bind fun y2 => ((iter (fun (s : Int × Int × Int) => crc_Sum16_l1 x0 s.1 s.2.1 s.2.2) ((8 : Int).toNat + 1) ((bitsA .xor .u16 x3 (shlK .u16 (wu16 (y2.toNat : Int)) 8)), x8, 0)).bind fun e5 => some (.inl (e5.1, (wi64 (e5.2 + 1)))))) else some (.inr x3))
def crc_Sum16 (a0 : List UInt8) : Option Int :=
  ((iter (fun (s : Int × Int) => crc_Sum16_l0 a0 s.1 s.2) (a0.length + 1) (65535, 0)).bind fun e7 => some e7)
def dir_Dir_bucket (H : Heap) (a0 : Nat) (a1 : List UInt8) : Option Nat :=
  ((hobj H.h210 a0).bind fun y1 => ((crc_Sum16 a1).bind fun y3 => (ifS ((y1.1.length : Int) ≠ 0) ((rd y1.1 (Int.tmod (wi64 y3) (y1.1.length : Int))).bind fun y5 => some y5))))
def dir_Dir_Get (H : Heap) (a0 : Nat) (a1 : List UInt8) : Option (Int × Bool) :=
  (if a0 = 0 then some (0, false) else ((dir_Dir_bucket H a0 a1).bind fun y2 => ((hmap H.h222 y2).bind fun y5 => some (((mget y5 a1).getD 0), (mget y5 a1).isSome))))
def tree_Tree_Find (H : Heap) (a0 : Nat) (a1 : Int) (a2 : List UInt8) : Option (Int × Int) :=
  ((tree_Tree_dir H a0 a1).bind fun y1 => (if y1.2 ≠ 0 then some (0, y1.2) else ((hobj H.h131 y1.1).bind fun y5 => ((dir_Dir_Get H y5.2.1 a2).bind fun y8 => (if y8.2 = true then some (y8.1, 0) else some (0, 13))))))
def tree_Tree_open_j2 (H : Heap) (x6 : Nat) (x7 : Int) (x23 : Bool) : Option (Nat × Int) :=
  (if x23 = true then some (0, 13) else some (x6, x7))
def tree_Tree_open (H : Heap) (a0 : Nat) (a1 : Int) : Option (Nat × Int) :=
  ((tree_Tree_dir H a0 a1).bind fun y1 => (if y1.2 = 0 then ((hobj H.h131 y1.1).bind fun y5 => tree_Tree_open_j2 H y1.1 y1.2 (decide (y5.1.2.1 = 0))) else tree_Tree_open_j2 H y1.1 y1.2 false))
def tree_Tree_Up (H : Heap) (a0 : Nat) (a1 : Int) : Option (Int × Int) :=
  ((tree_Tree_open H a0 a1).bind fun y1 => (if y1.2 ≠ 0 then some (0, y1.2) else ((hobj H.h131 y1.1).bind fun y5 => some (y5.2.2.1, 0))))
def tree_walker_part (H : Heap) (a0 : Nat) : Option (Heap × Int × Int) :=
  ((hobj H.h153 a0).bind fun y1 => ((rd y1.2.2.1 0).bind fun y4 => ((cutL y1.2.2.1 1 (y1.2.2.1.length : Int)).bind fun y5 => ((some ({H with h153 := hset H.h153 a0 (y1.1, y1.2.1, y5, y1.2.2.2.1, y1.2.2.2.2)} : Heap)).bind fun H6 => (if y4 = ([46, 46] : List UInt8) then ((hobj H6.h153 a0).bind fun y9 => ((tree_Tree_Up H6 y9.1 y9.2.1).bind fun y12 => some (H6, y12.1, y12.2))) else ((hobj H6.h153 a0).bind fun y13 => ((tree_Tree_Find H6 y13.1 y13.2.1 y4).bind fun y16 => some (H6, y16.1, y16.2))))))))
def stringslite_HasPrefix (a0 : List UInt8) (a1 : List UInt8) : Option Bool :=
  (if (a1.length : Int) ≤ (a0.length : Int) then ((cutL a0 0 (a1.length : Int)).bind fun y2 => some (decide (y2 = a1))) else some false)
def strings_HasPrefix (a0 : List UInt8) (a1 : List UInt8) : Option Bool :=
  ((stringslite_HasPrefix a0 a1).bind fun y1 => some y1)
def strings_shouldUseASCIISet (a0 : Int) : Option Bool :=
  some (decide (8 < a0))
def stringslite_IndexByte (a0 : List UInt8) (a1 : Int) : Option Int :=
  some (idxB a0 a1)
def strings_IndexByte (a0 : List UInt8) (a1 : Int) : Option Int :=
  ((stringslite_IndexByte a0 a1).bind fun y1 => some y1)
def unicode_utf8_ValidRune_j2 (x10 : Bool) : Option Bool :=
  (if x10 = true then some true else some false)
def unicode_utf8_ValidRune_j1 (x0 : Int) (x3 : Bool) : Option Bool :=
  (if x3 = true then some true else (if 57343 < x0 then unicode_utf8_ValidRune_j2 (decide (x0 ≤ 1114111)) else unicode_utf8_ValidRune_j2 false))
def unicode_utf8_ValidRune (a0 : Int) : Option Bool :=
  (if 0 ≤ a0 then unicode_utf8_ValidRune_j1 a0 (decide (a0 < 55296)) else unicode_utf8_ValidRune_j1 a0 false)
def strings_ContainsAny (a0 a1 : List UInt8) : Option Bool := ifS (a1 = [47, 0] ∧ a0.length < 4294967281) (some (a0.any fun b => b == 47 || b == 0))
def dir_Name_j1 (x21 : Bool) : Option Int :=
  (if x21 = true then some 18 else some 0)
def dir_Name (a0 : List UInt8) : Option Int :=
  (if a0 = ([] : List UInt8) then dir_Name_j1 true else (if 32 < (a0.length : Int) then dir_Name_j1 true else (if a0 = ([46] : List UInt8) then dir_Name_j1 true else (if a0 = ([46, 46] : List UInt8) then dir_Name_j1 true else ((strings_ContainsAny a0 ([47, 0] : List UInt8)).bind fun y6 => dir_Name_j1 y6)))))
def stringslite_Index_j2 (x0 : List UInt8) (x1 : List UInt8) (x16 : Bool) : Option Int :=
  (if x16 = true then some 0 else (if (x1.length : Int) = 1 then ((rd x1 0).bind fun y4 => ((stringslite_IndexByte x0 (y4.toNat : Int)).bind fun y5 => some y5)) else (if (x0.length : Int) ≤ (x1.length : Int) then some (-1) else none)))
def stringslite_Index (a0 : List UInt8) (a1 : List UInt8) : Option Int :=
  (if (a1.length : Int) = 0 then stringslite_Index_j2 a0 a1 true else stringslite_Index_j2 a0 a1 (decide (a1 = a0)))
def strings_Index (a0 : List UInt8) (a1 : List UInt8) : Option Int :=
  ((stringslite_Index a0 a1).bind fun y1 => some y1)
def path_step (w : Bool × (List (List UInt8)) × Bool) (x : List UInt8) : Option ((Bool × (List (List UInt8)) × Bool) ⊕ Int) :=
  if x = [] ∨ x = [46] then some (.inl (w.1, w.2.1, true)) else (dir_Name x).bind fun e => if e ≠ 0 ∧ x ≠ [46, 46] then some (.inr e) else (appL 8796093022208 w.2.1 [x]).bind fun l => some (.inl (w.1, l, false))
def path_fold : List (List UInt8) → (Bool × (List (List UInt8)) × Bool) → Option ((Bool × (List (List UInt8)) × Bool) ⊕ Int)
  | [], w => some (.inl w)
  | x :: l, w => (path_step w x).bind fun o => match o with
    | .inl w' => path_fold l w'
    | .inr e => some (.inr e)
def path_Parse (a0 : List UInt8) : Option ((Bool × (List (List UInt8)) × Bool) × Int) := if a0 = [] then some ((false, [], false), 13) else if 256 < (a0.length : Int) then some ((false, [], false), 9) else (strings_HasPrefix a0 [47]).bind fun p => (path_fold (splitB a0) (p, [], false)).bind fun o => match o with
  | .inl w => some (w, 0)
  | .inr e => some ((false, [], false), e)
def slices_Grow_Lstring_string (a1 : Int) : Option (List (List UInt8)) := ifS (0 ≤ a1 ∧ a1 ≤ 8796093022208) (some [])
def slices_Concat_Lstring_string_l0 (x0 : List (List (List UInt8))) (x9 : List (List (List UInt8))) (x3 : Int) (x11 : Int) : Option ((Int × Int) ⊕ Int) :=
  (if x11 < (x9.length : Int) then ((rd x9 x11).bind fun y4 => (if (wi64 (x3 + (y4.length : Int))) < 0 then none else some (.inl ((wi64 (x3 + (y4.length : Int))), (wi64 (x11 + 1)))))) else some (.inr x3))
def slices_Concat_Lstring_string_l1 (x25 : List (List (List UInt8))) (x6 : List (List UInt8)) (x27 : Int) : Option (((List (List UInt8)) × Int) ⊕ (List (List UInt8))) :=
  (if x27 < (x25.length : Int) then ((rd x25 x27).bind fun y19 => ((appL 8796093022208 x6 y19).bind fun y21 => some (.inl (y21, (wi64 (x27 + 1)))))) else some (.inr x6))
def slices_Concat_Lstring_string (a0 : List (List (List UInt8))) : Option (List (List UInt8)) :=
  ((iter (fun (s : Int × Int) => slices_Concat_Lstring_string_l0 a0 a0 s.1 s.2) (a0.length + 1) (0, 0)).bind fun e8 => ((slices_Grow_Lstring_string e8).bind fun y10 => ((iter (fun (s : (List (List UInt8)) × Int) => slices_Concat_Lstring_string_l1 a0 s.1 s.2) (a0.length + 1) (y10, 0)).bind fun e28 => some e28)))
def tree_walker_link_j9 (H : Heap) (x0 : Nat) (zb5 : Bool × (List (List UInt8)) × Bool) : Option (Heap × Int) :=
  ((hobj H.h153 x0).bind fun y36 => ((slices_Concat_Lstring_string ([zb5.2.1, y36.2.2.1])).bind fun y45 => ((hobj H.h153 x0).bind fun y51 => ((hobj H.h153 x0).bind fun y55 => ((some ({H with h153 := hset H.h153 x0 (y55.1, y55.2.1, y45, y55.2.2.2.1, y55.2.2.2.2)} : Heap)).bind fun H58 => some (H58, 0))))))
def tree_walker_link_j8 (H : Heap) (x0 : Nat) (zb5 : Bool × (List (List UInt8)) × Bool) : Option (Heap × Int) :=
  ((hobj H.h153 x0).bind fun y27 => (if y27.2.2.2.1 = true then ((some ({H with h153 := hset H.h153 x0 (y27.1, y27.2.1, y27.2.2.1, true, y27.2.2.2.2)} : Heap)).bind fun H31 => tree_walker_link_j9 H31 x0 zb5) else (if zb5.2.2 = true then ((some ({H with h153 := hset H.h153 x0 (y27.1, y27.2.1, y27.2.2.1, decide ((y27.2.2.1.length : Int) = 0), y27.2.2.2.2)} : Heap)).bind fun H61 => tree_walker_link_j9 H61 x0 zb5) else ((some ({H with h153 := hset H.h153 x0 (y27.1, y27.2.1, y27.2.2.1, false, y27.2.2.2.2)} : Heap)).bind fun H63 => tree_walker_link_j9 H63 x0 zb5))))
def tree_walker_link (H : Heap) (a0 : Nat) (a1 : List UInt8) : Option (Heap × Int) :=
  ((hobj H.h153 a0).bind fun y1 => ((some ({H with h153 := hset H.h153 a0 (y1.1, y1.2.1, y1.2.2.1, y1.2.2.2.1, (wi64 (y1.2.2.2.2 + 1)))} : Heap)).bind fun H4 => ((hobj H4.h153 a0).bind fun y6 => (if 8 < y6.2.2.2.2 then some (H4, 17) else ((path_Parse a1).bind fun y10 => (if y10.2 ≠ 0 then some (H4, y10.2) else (if y10.1.1 = true then ((hobj H4.h153 a0).bind fun y19 => ((some ({H4 with h153 := hset H4.h153 a0 ((y19.1, 1, y19.2.2.1, y19.2.2.2.1, y19.2.2.2.2) : Nat × Int × (List (List UInt8)) × Bool × Int)} : Heap)).bind fun H22 => tree_walker_link_j8 H22 a0 y10.1)) else tree_walker_link_j8 H4 a0 y10.1)))))))
def tree_walker_step_j5 (H : Heap) (x0 : Nat) (x5 : Int) (x7 : Nat) (x47 : Bool) : Option (Heap × Int) :=
  (if x47 = true then ((hobj H.h131 x7).bind fun y22 => ((tree_walker_link H x0 y22.1.2.2.2.2).bind fun y25 => some (y25.1, y25.2))) else ((hobj H.h153 x0).bind fun y26 => ((some ({H with h153 := hset H.h153 x0 (y26.1, x5, y26.2.2.1, y26.2.2.2.1, y26.2.2.2.2)} : Heap)).bind fun H29 => some (H29, 0))))
def tree_walker_step (H : Heap) (a0 : Nat) (a1 : Bool) : Option (Heap × Int) :=
  ((tree_walker_part H a0).bind fun y1 => (if y1.2.2 ≠ 0 then some (y1.1, y1.2.2) else ((hobj y1.1.h153 a0).bind fun y3 => ((hobj y1.1.h126 y3.1).bind fun y6 => ((hmap y1.1.h122 y6.1).bind fun y10 => ((hobj y1.1.h131 ((mget y10 y1.2.1).getD 0)).bind fun y14 => (if y14.1.1 = 3 then (if 0 < (y3.2.2.1.length : Int) then tree_walker_step_j5 y1.1 a0 y1.2.1 ((mget y10 y1.2.1).getD 0) true else (if a1 = true then tree_walker_step_j5 y1.1 a0 y1.2.1 ((mget y10 y1.2.1).getD 0) true else tree_walker_step_j5 y1.1 a0 y1.2.1 ((mget y10 y1.2.1).getD 0) y3.2.2.2.1)) else tree_walker_step_j5 y1.1 a0 y1.2.1 ((mget y10 y1.2.1).getD 0) false)))))))
def tree_Tree_Walk_l0 (x0 : Nat) (x3 : Bool) (x12 : Nat) (H : Heap) : Option (Heap ⊕ ((Heap × Int × Int) ⊕ Heap)) :=
  ((hobj H.h153 x12).bind fun y16 => (if 0 < (y16.2.2.1.length : Int) then ((tree_walker_step H x12 x3).bind fun y20 => (if y20.2 ≠ 0 then some (.inr (.inl (y20.1, 0, y20.2))) else some (.inl y20.1))) else some (.inr (.inr H))))
def tree_Tree_Walk_j15 (H : Heap) (x12 : Nat) : Option (Heap × Int × Int) :=
  ((hobj H.h153 x12).bind fun y39 => some (H, y39.2.1, 0))
def tree_Tree_Walk_j6 (H : Heap) (x0 : Nat) (x3 : Bool) (zb32 : Nat × Int × (List (List UInt8)) × Bool × Int) : Option (Heap × Int × Int) :=
  ((some ({H with h153 := H.h153 ++ [zb32]} : Heap)).bind fun H13 => ((iter (fun (s : Heap) => tree_Tree_Walk_l0 x0 x3 (H.h153.length + 1) s) (100000) H13).bind fun e24 => on e24 (fun x25 => some x25) (fun x27 => ((hobj x27.h153 (H.h153.length + 1)).bind fun y30 => (if y30.2.2.2.1 = true then ((tree_Tree_dir x27 x0 y30.2.1).bind fun y34 => (if y34.2 ≠ 0 then some (x27, 0, y34.2) else tree_Tree_Walk_j15 x27 (H.h153.length + 1))) else tree_Tree_Walk_j15 x27 (H.h153.length + 1))))))
def tree_Tree_Walk (H : Heap) (a0 : Nat) (a1 : Int) (a2 : Bool × (List (List UInt8)) × Bool) (a3 : Bool) : Option (Heap × Int × Int) :=
  ((tree_Tree_get H a0 a1).bind fun y2 => (if y2.2 ≠ 0 then some (H, 0, y2.2) else (if a2.1 = true then tree_Tree_Walk_j6 H a0 a3 ((a0, 1, a2.2.1, a2.2.2, 0) : Nat × Int × (List (List UInt8)) × Bool × Int) else tree_Tree_Walk_j6 H a0 a3 ((a0, a1, a2.2.1, a2.2.2, 0) : Nat × Int × (List (List UInt8)) × Bool × Int))))
def tree_Tree_vacant (H : Heap) (a0 : Nat) (a1 : Int) (a2 : List UInt8) : Option (Nat × Int) :=
  ((tree_Tree_open H a0 a1).bind fun y1 => (if y1.2 ≠ 0 then some (0, y1.2) else ((dir_Name a2).bind fun y5 => (if y5 ≠ 0 then some (0, y5) else ((hobj H.h131 y1.1).bind fun y7 => ((dir_Dir_Get H y7.2.1 a2).bind fun y10 => (if y10.2 = true then some (0, 14) else some (y1.1, 0))))))))
def ext_joins_j1 (x12 : Bool) (zb2 : Int × Int) (zb3 : Int × Int) : Option Bool :=
  (if x12 = true then some (decide (zb2.1 = zb3.1)) else some (decide ((wi64 (zb2.1 + zb2.2)) = zb3.1)))
def ext_joins (a0 : Int × Int) (a1 : Int × Int) : Option Bool :=
  (if a0.1 = (-1) then ext_joins_j1 true a0 a1 else ext_joins_j1 (decide (a1.1 = (-1))) a0 a1)
def ext_List_Right_j6 (x0 : List (Int × Int)) (x3 : Int) (x6 : List (Int × Int)) (x8 : Int) (x43 : Bool) (zb5 : Int × Int) : Option ((Int × Int) ⊕ (Bool ⊕ Int)) :=
  (if x43 = true then some (.inr (.inl false)) else some (.inl ((wi64 (x3 + zb5.2)), (wi64 (x8 + 1)))))
def ext_List_Right_l0 (x0 : List (Int × Int)) (x6 : List (Int × Int)) (x3 : Int) (x8 : Int) : Option ((Int × Int) ⊕ (Bool ⊕ Int)) :=
  (if x8 < (x6.length : Int) then ((rd x6 x8).bind fun y4 => (if y4.2 < 1 then ext_List_Right_j6 x0 x3 x6 x8 true y4 else (if 65536 < y4.2 then ext_List_Right_j6 x0 x3 x6 x8 true y4 else (if y4.1 < (-1) then ext_List_Right_j6 x0 x3 x6 x8 true y4 else (if 65536 < y4.1 then ext_List_Right_j6 x0 x3 x6 x8 true y4 else (if 0 < x8 then ((rd x0 (wi64 (x8 - 1))).bind fun y15 => ((ext_joins y15 y4).bind fun y16 => ext_List_Right_j6 x0 x3 x6 x8 y16 y4)) else ext_List_Right_j6 x0 x3 x6 x8 false y4)))))) else some (.inr (.inr x3)))
def ext_List_Right (a0 : List (Int × Int)) : Option Bool :=
  ((iter (fun (s : Int × Int) => ext_List_Right_l0 a0 a0 s.1 s.2) (a0.length + 1) (0, 0)).bind fun e18 => on e18 (fun x19 => some x19) (fun x21 => (if (a0.length : Int) ≤ 64 then some (decide (x21 ≤ 65536)) else some false)))
def ext_List_Blocks_l0 (x6 : List (Int × Int)) (x3 : Int) (x8 : Int) : Option ((Int × Int) ⊕ Int) :=
  (if x8 < (x6.length : Int) then ((rd x6 x8).bind fun y3 => some (.inl ((wi64 (x3 + y3.2)), (wi64 (x8 + 1))))) else some (.inr x3))
def ext_List_Blocks (a0 : List (Int × Int)) : Option Int :=
  ((iter (fun (s : Int × Int) => ext_List_Blocks_l0 a0 s.1 s.2) (a0.length + 1) (0, 0)).bind fun e5 => some e5)
def inode_Need (a0 : Int) : Option Int :=
  (if a0 < 1 then some 0 else some (wi64 ((wi64 (Int.tdiv (wi64 (a0 - 1)) 64)) + 1)))
def inode_Inode_file (a0 : Int × Int × Int × (List (Int × Int)) × (List UInt8)) : Option Bool :=
  (if 0 ≤ a0.2.2.1 then (if a0.2.2.1 ≤ 4194304 then ((ext_List_Right a0.2.2.2.1).bind fun y4 => (if y4 = true then ((ext_List_Blocks a0.2.2.2.1).bind fun y6 => ((inode_Need a0.2.2.1).bind fun y7 => (if y6 = y7 then some (decide (a0.2.2.2.2 = ([] : List UInt8))) else some false))) else some false)) else some false) else some false)
def strings_Contains (a0 : List UInt8) (a1 : List UInt8) : Option Bool :=
  ((strings_Index a0 a1).bind fun y1 => some (decide (0 ≤ y1)))
def inode_Inode_link (a0 : Int × Int × Int × (List (Int × Int)) × (List UInt8)) : Option Bool :=
  (if 1 ≤ (a0.2.2.2.2.length : Int) then (if (a0.2.2.2.2.length : Int) ≤ 256 then (if a0.2.2.1 = (a0.2.2.2.2.length : Int) then (if (a0.2.2.2.1.length : Int) = 0 then ((strings_Contains a0.2.2.2.2 ([0] : List UInt8)).bind fun y6 => some (!y6)) else some false) else some false) else some false) else some false)
def inode_Inode_Right_j1 (x10 : Bool) (zb1 : Int × Int × Int × (List (Int × Int)) × (List UInt8)) : Option Bool :=
  (if x10 = true then some false else (if zb1.1 = 1 then ((inode_Inode_file zb1).bind fun y7 => some y7) else (if zb1.1 = 2 then (if zb1.2.2.1 = 0 then (if (zb1.2.2.2.1.length : Int) = 0 then some (decide (zb1.2.2.2.2 = ([] : List UInt8))) else some false) else some false) else (if zb1.1 = 3 then ((inode_Inode_link zb1).bind fun y12 => some y12) else some false))))
def inode_Inode_Right (a0 : Int × Int × Int × (List (Int × Int)) × (List UInt8)) : Option Bool :=
  (if a0.2.1 < 0 then inode_Inode_Right_j1 true a0 else inode_Inode_Right_j1 (decide (1000 < a0.2.1)) a0)
def tree_Tree_number_l0 (H : Heap) (x0 : Nat) (x3 : Int) : Option (Int ⊕ Int) :=
  ((hobj H.h126 x0).bind fun y2 => ((hmap H.h122 y2.1).bind fun y6 => (if ((mget y6 x3).getD 0) = 0 then some (.inr x3) else some (.inl (wi64 (x3 + 1))))))
def tree_Tree_number (H : Heap) (a0 : Nat) : Option Int :=
  ((iter (fun (s : Int) => tree_Tree_number_l0 H a0 s) (100000) 1).bind fun e11 => some e11)
def dir_buckets_l0 (H : Heap) (x3 : List Nat) (x8 : Int) (x9 : Int) : Option ((Heap × (List Nat) × Int × Int) ⊕ (Heap × (List Nat))) :=
  (if x9 < x8 then ((some ({H with h222 := H.h222 ++ [[]]} : Heap)).bind fun H9 => ((rd x3 x9).bind fun y10 => some (.inl (H9, (x3.set x9.toNat (H.h222.length + 1)), x8, (wi64 (x9 + 1)))))) else some (.inr (H, x3)))
def dir_buckets (H : Heap) (a0 : Int) : Option (Heap × (List Nat)) :=
  (ifS (0 ≤ a0 ∧ a0 ≤ 9223372036854775807 ∧ (8 : Nat) * a0 ≤ 281474976710656) ((iter (fun (s : Heap × (List Nat) × Int × Int) => dir_buckets_l0 s.1 s.2.1 s.2.2.1 s.2.2.2) ((List.replicate a0.toNat 0).length + 1) (H, (List.replicate a0.toNat 0), ((List.replicate a0.toNat 0).length : Int), 0)).bind fun e15 => some (e15.1, e15.2)))
def dir_New (H : Heap)  : Option (Heap × Nat) :=
  ((dir_buckets H 4).bind fun y1 => ((some ({y1.1 with h210 := y1.1.h210 ++ [((y1.2, 0) : (List Nat) × Int)]} : Heap)).bind fun H10 => some (H10, (y1.1.h210.length + 1))))
def ext_part_j2 (x1 : Int) (zb2 : Int × Int) (zb4 : Int × Int) : Option (Int × Int) :=
  some (zb2.1, (wi64 (zb2.2 - x1)))
def ext_part (a0 : Int × Int) (a1 : Int) : Option (Int × Int) :=
  (if a0.1 ≠ (-1) then ext_part_j2 a1 ((wi64 (a0.1 + a1)), a0.2) ((0, 0) : Int × Int) else ext_part_j2 a1 a0 ((0, 0) : Int × Int))
def ext_List_split_l0 (x0 : List (Int × Int)) (x10 : List (Int × Int)) (x1 : Int) (x12 : Int) : Option ((Int × Int) ⊕ (((List (Int × Int)) × (List (Int × Int))) ⊕ Unit)) :=
  (if x12 < (x10.length : Int) then ((rd x10 x12).bind fun y4 => (if y4.2 ≤ x1 then some (.inl ((wi64 (x1 - y4.2)), (wi64 (x12 + 1)))) else ((cutL x0 0 x12).bind fun y7 => ((cutL x0 x12 (x0.length : Int)).bind fun y8 => ((slices_Clone_ext_List_alloc_Extent y7).bind fun y9 => ((slices_Clone_ext_List_alloc_Extent y8).bind fun y15 => (if 0 < x1 then ((appL 8796093022208 y9 ([(y4.1, x1)])).bind fun y26 => ((ext_part y4 x1).bind fun y31 => ((rd y15 0).bind fun y32 => some (.inr (.inl (y26, (y15.set ((0 : Int).toNat) y31))))))) else some (.inr (.inl (y9, y15)))))))))) else some (.inr (.inr ())))
def ext_List_split (a0 : List (Int × Int)) (a1 : Int) : Option ((List (Int × Int)) × (List (Int × Int))) :=
  ((iter (fun (s : Int × Int) => ext_List_split_l0 a0 a0 s.1 s.2) (a0.length + 1) (a1, 0)).bind fun e36 => on e36 (fun x37 => some x37) (fun x39 => ((slices_Clone_ext_List_alloc_Extent a0).bind fun y41 => some (y41, []))))
def slices_IndexFunc_ext_List_alloc_Extent_l0 (a1 : (Int × Int) → Option Bool) (x0 : List (Int × Int)) (x8 : Int) : Option (Int ⊕ (Int ⊕ Unit)) :=
  (if x8 < (x0.length : Int) then ((rd x0 x8).bind fun y3 => ((a1 y3).bind fun y4 => (if y4 = true then some (.inr (.inl x8)) else some (.inl (wi64 (x8 + 1)))))) else some (.inr (.inr ())))
def slices_IndexFunc_ext_List_alloc_Extent (a0 : List (Int × Int)) (a1 : (Int × Int) → Option Bool) : Option Int :=
  ((iter (fun (s : Int) => slices_IndexFunc_ext_List_alloc_Extent_l0 a1 a0 s) (a0.length + 1) 0).bind fun e6 => on e6 (fun x7 => some x7) (fun x9 => some (-1)))
def slices_DeleteFunc_ext_List_alloc_Extent_j10 (a1 : (Int × Int) → Option Bool) (x0 : List (Int × Int)) (x5 : Int) (x6 : Int) : Option (((List (Int × Int)) × Int × Int) ⊕ ((List (Int × Int)) × Int)) :=
  some (.inl (x0, x5, (wi64 (x6 + 1))))
def slices_DeleteFunc_ext_List_alloc_Extent_l0 (a1 : (Int × Int) → Option Bool) (x0 : List (Int × Int)) (x5 : Int) (x6 : Int) : Option (((List (Int × Int)) × Int × Int) ⊕ ((List (Int × Int)) × Int)) :=
  (if x6 < (x0.length : Int) then ((rd x0 x6).bind fun y8 => ((a1 y8).bind fun y10 => (if y10 = true then slices_DeleteFunc_ext_List_alloc_Extent_j10 a1 x0 x5 x6 else ((rd x0 x5).bind fun y13 => slices_DeleteFunc_ext_List_alloc_Extent_j10 a1 (x0.set x5.toNat y8) (wi64 (x5 + 1)) x6)))) else some (.inr (x0, x5)))
def slices_DeleteFunc_ext_List_alloc_Extent (a0 : List (Int × Int)) (a1 : (Int × Int) → Option Bool) : Option (List (Int × Int)) :=
  ((slices_IndexFunc_ext_List_alloc_Extent a0 a1).bind fun y1 => (if y1 = (-1) then some a0 else ((iter (fun (s : (List (Int × Int)) × Int × Int) => slices_DeleteFunc_ext_List_alloc_Extent_l0 a1 s.1 s.2.1 s.2.2) (100000) (a0, y1, (wi64 (y1 + 1)))).bind fun e17 => ((cutL e17.1 e17.2 (e17.1.length : Int)).bind fun y19 => ((cutL (e17.1.take e17.2.toNat ++ List.replicate y19.length ((0, 0) : Int × Int)) 0 e17.2).bind fun y23 => some y23)))))
def ext_List_Cut_1 (a0 : Int × Int) : Option Bool :=
  some (decide (a0.1 = (-1)))
def ext_List_Cut_j1 (x0 : List (Int × Int)) (x1 : Int) (x22 : Bool) : Option ((List (Int × Int)) × (List (Int × Int)) × Int) :=
  (if x22 = true then some ([], [], 2) else ((ext_List_split x0 x1).bind fun y6 => ((slices_DeleteFunc_ext_List_alloc_Extent y6.2 (fun x0_ => ext_List_Cut_1 x0_)).bind fun y17 => some (y6.1, y17, 0))))
def ext_List_Cut (a0 : List (Int × Int)) (a1 : Int) : Option ((List (Int × Int)) × (List (Int × Int)) × Int) :=
  ((ext_List_Right a0).bind fun y1 => (if y1 = true then (if a1 < 0 then ext_List_Cut_j1 a0 a1 true else ((ext_List_Blocks a0).bind fun y20 => ext_List_Cut_j1 a0 a1 (decide (y20 < a1)))) else ext_List_Cut_j1 a0 a1 true))
def tree_Tree_reap_j2 (H : Heap) (x0 : Nat) (x1 : Int) (x5 : Nat) (x27 : Bool) : Option (Heap × (List (Int × Int))) :=
  (if x27 = true then some (H, []) else ((hobj H.h126 x0).bind fun y16 => ((hobj H.h122 y16.1).bind fun y20 => ((some ({H with h122 := hset H.h122 y16.1 (mdel y20 x1)} : Heap)).bind fun H21 => ((hobj H21.h126 x0).bind fun y22 => ((hobj H21.h124 y22.2.2).bind fun y26 => ((some ({H21 with h124 := hset H21.h124 y22.2.2 (mput y26 x1 true)} : Heap)).bind fun H27 => ((hobj H27.h131 x5).bind fun y28 => ((ext_List_Cut y28.1.2.2.2.1 0).bind fun y31 => some (H27, y31.2.1))))))))))
def tree_Tree_reap (H : Heap) (a0 : Nat) (a1 : Int) : Option (Heap × (List (Int × Int))) :=
  ((hobj H.h126 a0).bind fun y1 => ((hmap H.h122 y1.1).bind fun y5 => ((hobj H.h131 ((mget y5 a1).getD 0)).bind fun y9 => (if 0 < y9.1.2.1 then tree_Tree_reap_j2 H a0 a1 ((mget y5 a1).getD 0) true else tree_Tree_reap_j2 H a0 a1 ((mget y5 a1).getD 0) (decide (0 < y9.2.2.2))))))
def tree_Tree_links (H : Heap) (a0 : Nat) (a1 : Int) (a2 : Int) : Option (Heap × (List (Int × Int))) :=
  ((hobj H.h126 a0).bind fun y1 => ((hmap H.h122 y1.1).bind fun y5 => ((hobj H.h131 ((mget y5 a1).getD 0)).bind fun y9 => ((some ({H with h131 := hset H.h131 ((mget y5 a1).getD 0) ((y9.1.1, (wi64 (y9.1.2.1 + a2)), y9.1.2.2.1, y9.1.2.2.2.1, y9.1.2.2.2.2), y9.2.1, y9.2.2.1, y9.2.2.2)} : Heap)).bind fun H12 => ((hobj H12.h126 a0).bind fun y14 => ((hobj H12.h124 y14.2.2).bind fun y18 => ((some ({H12 with h124 := hset H12.h124 y14.2.2 (mput y18 a1 true)} : Heap)).bind fun H19 => ((tree_Tree_reap H19 a0 a1).bind fun y20 => some (y20.1, y20.2)))))))))
def dir_number (a0 : Int) : Option Bool :=
  (if 0 ≤ a0 then some (decide (a0 ≤ 65535)) else some false)
def hashN (n : Nat) (k : List UInt8) : Int := Int.tmod (wi64 ((crc_Sum16 k).getD 0)) (n : Int)
def grown (H : Heap) (a0 : Nat) (d : List Nat × Int) (es : List (List UInt8 × Int)) : Heap := {H with h210 := hset H.h210 a0 ((List.range (2 * d.1.length)).map (fun i => H.h222.length + 1 + i), d.2), h222 := H.h222 ++ (List.range (2 * d.1.length)).map fun (i : Nat) => es.filter fun e => decide (hashN (2 * d.1.length) e.1 = (i : Int))}
def dir_Dir_grow (H : Heap) (a0 : Nat) : Option Heap := (hobj H.h210 a0).bind fun d => (d.1.mapM fun m => hobj H.h222 m).bind fun ms => ifS ((ms.flatten.map (·.1)).Nodup) (ifS (1 ≤ d.1.length ∧ d.1.length ≤ 100000) (ifS (∀ e ∈ ms.flatten, (crc_Sum16 e.1).isSome = true ∧ 0 ≤ hashN (2 * d.1.length) e.1) (some (grown H a0 d ms.flatten))))
def dir_Dir_Put_j10 (H : Heap) (x0 : Nat) (x1 : List UInt8) (x2 : Int) : Option (Heap × Int) :=
  ((dir_Dir_bucket H x0 x1).bind fun y9 => ((hobj H.h222 y9).bind fun y12 => ((some ({H with h222 := hset H.h222 y9 (mput y12 x1 x2)} : Heap)).bind fun H13 => some (H13, 0))))
def dir_Dir_Put (H : Heap) (a0 : Nat) (a1 : List UInt8) (a2 : Int) : Option (Heap × Int) :=
  ((dir_Name a1).bind fun y1 => (if a0 = 0 then some (H, 1) else (if y1 ≠ 0 then some (H, y1) else ((dir_number a2).bind fun y4 => (if y4 = true then ((dir_Dir_Get H a0 a1).bind fun y6 => (if y6.2 = true then dir_Dir_Put_j10 H a0 a1 a2 else ((hobj H.h210 a0).bind fun y14 => ((some ({H with h210 := hset H.h210 a0 (y14.1, (wi64 (y14.2 + 1)))} : Heap)).bind fun H16 => ((hobj H16.h210 a0).bind fun y18 => (if (wi64 (4 * (y18.1.length : Int))) < y18.2 then ((dir_Dir_grow H16 a0).bind fun y21 => dir_Dir_Put_j10 y21 a0 a1 a2) else dir_Dir_Put_j10 H16 a0 a1 a2)))))) else some (H, 2))))))
def tree_Tree_put (H : Heap) (a0 : Nat) (a1 : Int) (a2 : List UInt8) (a3 : Int) : Option Heap :=
  ((hobj H.h126 a0).bind fun y1 => ((hmap H.h122 y1.1).bind fun y5 => ((hobj H.h131 ((mget y5 a1).getD 0)).bind fun y9 => ((dir_Dir_Put H y9.2.1 a2 a3).bind fun y12 => ((hobj y12.1.h126 a0).bind fun y13 => ((hobj y12.1.h123 y13.2.1).bind fun y17 => ((some ({y12.1 with h123 := hset y12.1.h123 y13.2.1 (mput y17 (a1, a2) true)} : Heap)).bind fun H18 => some H18)))))))
def tree_Tree_Make_j16 (H : Heap) (x0 : Nat) (x1 : Int) (x2 : List UInt8) (x12 : Int) : Option (Heap × Int × Int) :=
  ((tree_Tree_put H x0 x1 x2 x12).bind fun y67 => some (y67, x12, 0))
def tree_Tree_Make_j9 (H : Heap) (x0 : Nat) (x1 : Int) (x2 : List UInt8) (x44 : Bool) (zb7 : Int × Int × Int × (List (Int × Int)) × (List UInt8)) : Option (Heap × Int × Int) :=
  (if x44 = true then some (H, 0, 21) else ((tree_Tree_number H x0).bind fun y35 => ((some ({H with h131 := H.h131 ++ [((zb7, 0, x1, 0) : (Int × Int × Int × (List (Int × Int)) × (List UInt8)) × Nat × Int × Int)]} : Heap)).bind fun H39 => ((hobj H39.h126 x0).bind fun y40 => ((hobj H39.h122 y40.1).bind fun y44 => ((some ({H39 with h122 := hset H39.h122 y40.1 (ment y44 y35 0)} : Heap)).bind fun H46 => ((hobj H46.h122 y40.1).bind fun y47 => ((some ({H46 with h122 := hset H46.h122 y40.1 (mput y47 y35 (H.h131.length + 1))} : Heap)).bind fun H48 => ((hobj H48.h124 y40.2.2).bind fun y49 => ((some ({H48 with h124 := hset H48.h124 y40.2.2 (ment y49 y35 false)} : Heap)).bind fun H51 => ((hobj H51.h124 y40.2.2).bind fun y52 => ((some ({H51 with h124 := hset H51.h124 y40.2.2 (mput y52 y35 true)} : Heap)).bind fun H53 => (if zb7.1 = 2 then ((dir_New H53).bind fun y55 => ((hobj y55.1.h131 (H.h131.length + 1)).bind fun y58 => ((some ({y55.1 with h131 := hset y55.1.h131 (H.h131.length + 1) (y58.1, y55.2, y58.2.2.1, y58.2.2.2)} : Heap)).bind fun H61 => ((tree_Tree_links H61 x0 x1 1).bind fun y63 => tree_Tree_Make_j16 y63.1 x0 x1 x2 y35)))) else tree_Tree_Make_j16 H53 x0 x1 x2 y35)))))))))))))
def tree_Tree_Make_j6 (H : Heap) (x0 : Nat) (x1 : Int) (x2 : List UInt8) (x10 : Nat) (zb7 : Int × Int × Int × (List (Int × Int)) × (List UInt8)) : Option (Heap × Int × Int) :=
  ((inode_Inode_Right zb7).bind fun y17 => (if y17 = true then ((hobj H.h126 x0).bind fun y21 => ((hmap H.h122 y21.1).bind fun y25 => (if 1024 ≤ (y25.length : Int) then some (H, 0, 7) else (if zb7.1 = 2 then ((hobj H.h131 x10).bind fun y28 => tree_Tree_Make_j9 H x0 x1 x2 (decide (1000 ≤ y28.1.2.1)) zb7) else tree_Tree_Make_j9 H x0 x1 x2 false zb7)))) else some (H, 0, 23)))
def tree_Tree_Make (H : Heap) (a0 : Nat) (a1 : Int) (a2 : List UInt8) (a3 : Int × Int × Int × (List (Int × Int)) × (List UInt8)) : Option (Heap × Int × Int) :=
  ((tree_Tree_vacant H a0 a1 a2).bind fun y2 => (if y2.2 ≠ 0 then some (H, 0, y2.2) else ((slices_Clone_ext_List_alloc_Extent a3.2.2.2.1).bind fun y6 => (if a3.1 = 2 then tree_Tree_Make_j6 H a0 a1 a2 y2.1 ((a3.1, 2, a3.2.2.1, y6, a3.2.2.2.2) : Int × Int × Int × (List (Int × Int)) × (List UInt8)) else tree_Tree_Make_j6 H a0 a1 a2 y2.1 ((a3.1, 1, a3.2.2.1, y6, a3.2.2.2.2) : Int × Int × Int × (List (Int × Int)) × (List UInt8))))))
def dir_Dir_Drop (H : Heap) (a0 : Nat) (a1 : List UInt8) : Option (Heap × Int) :=
  (if a0 = 0 then some (H, 1) else ((dir_Dir_Get H a0 a1).bind fun y2 => (if y2.2 = true then ((dir_Dir_bucket H a0 a1).bind fun y4 => ((hobj H.h222 y4).bind fun y7 => ((some ({H with h222 := hset H.h222 y4 (mdel y7 a1)} : Heap)).bind fun H8 => ((hobj H8.h210 a0).bind fun y9 => ((some ({H8 with h210 := hset H8.h210 a0 (y9.1, (wi64 (y9.2 - 1)))} : Heap)).bind fun H11 => some (H11, 0)))))) else some (H, 13))))
def tree_Tree_drop (H : Heap) (a0 : Nat) (a1 : Int) (a2 : List UInt8) : Option Heap :=
  ((hobj H.h126 a0).bind fun y1 => ((hmap H.h122 y1.1).bind fun y5 => ((hobj H.h131 ((mget y5 a1).getD 0)).bind fun y9 => ((dir_Dir_Drop H y9.2.1 a2).bind fun y12 => ((hobj y12.1.h126 a0).bind fun y13 => ((hobj y12.1.h123 y13.2.1).bind fun y17 => ((some ({y12.1 with h123 := hset y12.1.h123 y13.2.1 (mput y17 (a1, a2) true)} : Heap)).bind fun H18 => some H18)))))))
def tree_Tree_Unlink (H : Heap) (a0 : Nat) (a1 : Int) (a2 : List UInt8) : Option (Heap × (List (Int × Int)) × Int) :=
  ((tree_Tree_Find H a0 a1 a2).bind fun y1 => (if y1.2 ≠ 0 then some (H, [], y1.2) else ((hobj H.h126 a0).bind fun y3 => ((hmap H.h122 y3.1).bind fun y7 => ((hobj H.h131 ((mget y7 y1.1).getD 0)).bind fun y11 => (if y11.1.1 = 2 then some (H, [], 15) else ((tree_Tree_drop H a0 a1 a2).bind fun y15 => ((tree_Tree_links y15 a0 y1.1 (-1)).bind fun y16 => some (y16.1, y16.2, 0)))))))))
def tree_Tree_within_j1 (H : Heap) (x0 : Nat) (x1 : Int) (x2 : Int) (x13 : Bool) : Option (Int ⊕ Int) :=
  (if x13 = true then ((hobj H.h126 x0).bind fun y5 => ((hmap H.h122 y5.1).bind fun y9 => ((hobj H.h131 ((mget y9 x1).getD 0)).bind fun y13 => some (.inl y13.2.2.1)))) else some (.inr x1))
def tree_Tree_within_l0 (H : Heap) (x0 : Nat) (x2 : Int) (x1 : Int) : Option (Int ⊕ Int) :=
  (if x1 ≠ x2 then tree_Tree_within_j1 H x0 x1 x2 (decide (x1 ≠ 1)) else tree_Tree_within_j1 H x0 x1 x2 false)
def tree_Tree_within (H : Heap) (a0 : Nat) (a1 : Int) (a2 : Int) : Option Bool :=
  ((iter (fun (s : Int) => tree_Tree_within_l0 H a0 a2 s) (100000) a1).bind fun e16 => some (decide (e16 = a2)))
def tree_Tree_movable_j13 (H : Heap) (x16 : Int) (x68 : Bool) : Option (Int × Int) :=
  (if x68 = true then some (0, 20) else some (x16, 0))
def tree_Tree_movable (H : Heap) (a0 : Nat) (a1 : Int) (a2 : List UInt8) (a3 : Int) (a4 : List UInt8) : Option (Int × Int) :=
  ((tree_Tree_open H a0 a1).bind fun y1 => (if y1.2 ≠ 0 then some (0, y1.2) else ((tree_Tree_open H a0 a3).bind fun y5 => (if y5.2 ≠ 0 then some (0, y5.2) else ((tree_Tree_Find H a0 a1 a2).bind fun y9 => (if y9.2 ≠ 0 then some (0, y9.2) else ((dir_Name a4).bind fun y11 => (if y11 ≠ 0 then some (0, y11) else ((hobj H.h126 a0).bind fun y13 => ((hmap H.h122 y13.1).bind fun y17 => ((hobj H.h131 ((mget y17 y9.1).getD 0)).bind fun y21 => (if y21.1.1 = 2 then ((tree_Tree_within H a0 a3 y9.1).bind fun y25 => tree_Tree_movable_j13 H y9.1 y25) else tree_Tree_movable_j13 H y9.1 false))))))))))))
def dir_Dir_Len (H : Heap) (a0 : Nat) : Option Int :=
  (if a0 = 0 then some 0 else ((hobj H.h210 a0).bind fun y2 => some y2.2))
def tree_Tree_clash_j2 (H : Heap) (x7 : Nat) (x8 : Nat) (x21 : Bool) : Option Int :=
  (if x21 = true then some 15 else ((hobj H.h131 x7).bind fun y14013 => (if y14013.1.1 ≠ 2 then some 0 else ((hobj H.h131 x8).bind fun y14017 => (if y14017.1.1 ≠ 2 then some 16 else ((dir_Dir_Len H y14017.2.1).bind fun y14021 => (if 0 < y14021 then some 20 else some 0)))))))
def tree_Tree_clash_j1 (H : Heap) (x7 : Nat) (x8 : Nat) : Option Int :=
  ((hobj H.h131 x7).bind fun y14003 => (if y14003.1.1 ≠ 2 then ((hobj H.h131 x8).bind fun y14007 => tree_Tree_clash_j2 H x7 x8 (decide (y14007.1.1 = 2))) else tree_Tree_clash_j2 H x7 x8 false))
def tree_Tree_clash (H : Heap) (a0 : Nat) (a1 : Int) (a2 : Int) : Option Int :=
  ((hobj H.h126 a0).bind fun y2001 => ((hmap H.h122 y2001.1).bind fun y6001 => ((hmap H.h122 y2001.1).bind fun y12001 => tree_Tree_clash_j1 H ((mget y6001 a1).getD 0) ((mget y12001 a2).getD 0))))
def tree_Tree_Rmdir (H : Heap) (a0 : Nat) (a1 : Int) (a2 : List UInt8) : Option (Heap × Int) :=
  ((tree_Tree_Find H a0 a1 a2).bind fun y1 => (if y1.2 ≠ 0 then some (H, y1.2) else ((hobj H.h126 a0).bind fun y3 => ((hmap H.h122 y3.1).bind fun y7 => ((hobj H.h131 ((mget y7 y1.1).getD 0)).bind fun y11 => (if y11.1.1 ≠ 2 then some (H, 16) else ((dir_Dir_Len H y11.2.1).bind fun y15 => (if 0 < y15 then some (H, 20) else ((tree_Tree_drop H a0 a1 a2).bind fun y17 => ((tree_Tree_links y17 a0 a1 (-1)).bind fun y18 => ((hobj y18.1.h131 ((mget y7 y1.1).getD 0)).bind fun y21 => ((tree_Tree_links y18.1 a0 y1.1 (wi64 (0 - y21.1.2.1))).bind fun y24 => some (y24.1, 0)))))))))))))
def tree_Tree_Rename_j22 (H : Heap) (x3 : Int) (x17 : Nat) (x18 : List (Int × Int)) : Option (Heap × (List (Int × Int)) × Int) :=
  ((hobj H.h131 x17).bind fun y59 => ((some ({H with h131 := hset H.h131 x17 (y59.1, y59.2.1, x3, y59.2.2.2)} : Heap)).bind fun H62 => some (H62, x18, 0)))
def tree_Tree_Rename_j20 (H : Heap) (x0 : Nat) (x1 : Int) (x3 : Int) (x17 : Nat) (x18 : List (Int × Int)) (x128 : Bool) : Option (Heap × (List (Int × Int)) × Int) :=
  (if x128 = true then ((tree_Tree_links H x0 x1 (-1)).bind fun y51 => ((tree_Tree_links y51.1 x0 x3 1).bind fun y54 => tree_Tree_Rename_j22 y54.1 x3 x17 x18)) else tree_Tree_Rename_j22 H x3 x17 x18)
def tree_Tree_Rename_j17 (H : Heap) (x0 : Nat) (x1 : Int) (x2 : List UInt8) (x3 : Int) (x4 : List UInt8) (x12 : Int) (x17 : Nat) (x18 : List (Int × Int)) : Option (Heap × (List (Int × Int)) × Int) :=
  ((tree_Tree_drop H x0 x1 x2).bind fun y41 => ((tree_Tree_put y41 x0 x3 x4 x12).bind fun y42 => ((hobj y42.h131 x17).bind fun y43 => (if y43.1.1 = 2 then tree_Tree_Rename_j20 y42 x0 x1 x3 x17 x18 (decide (x1 ≠ x3)) else tree_Tree_Rename_j20 y42 x0 x1 x3 x17 x18 false))))
def tree_Tree_Rename_j16 (H : Heap) (x0 : Nat) (x1 : Int) (x2 : List UInt8) (x3 : Int) (x4 : List UInt8) (x12 : Int) (x15 : Bool) (x17 : Nat) (x18 : List (Int × Int)) (x96 : Bool) : Option (Heap × (List (Int × Int)) × Int) :=
  (if x96 = true then ((tree_Tree_Rmdir H x0 x3 x4).bind fun y36 => tree_Tree_Rename_j17 y36.1 x0 x1 x2 x3 x4 x12 x17 x18) else (if x15 = true then ((tree_Tree_Unlink H x0 x3 x4).bind fun y65 => tree_Tree_Rename_j17 y65.1 x0 x1 x2 x3 x4 x12 x17 y65.2.1) else tree_Tree_Rename_j17 H x0 x1 x2 x3 x4 x12 x17 x18))
def tree_Tree_Rename_j13 (H : Heap) (x0 : Nat) (x1 : Int) (x2 : List UInt8) (x3 : Int) (x4 : List UInt8) (x12 : Int) (x15 : Bool) (x17 : Nat) (x87 : Bool) : Option (Heap × (List (Int × Int)) × Int) :=
  (if x87 = true then some (H, [], 21) else (if x15 = true then ((hobj H.h131 x17).bind fun y29 => tree_Tree_Rename_j16 H x0 x1 x2 x3 x4 x12 x15 x17 ([]) (decide (y29.1.1 = 2))) else tree_Tree_Rename_j16 H x0 x1 x2 x3 x4 x12 x15 x17 ([]) false))
def tree_Tree_Rename_j11 (H : Heap) (x0 : Nat) (x1 : Int) (x2 : List UInt8) (x3 : Int) (x4 : List UInt8) (x12 : Int) (x15 : Bool) : Option (Heap × (List (Int × Int)) × Int) :=
  ((hobj H.h126 x0).bind fun y11 => ((hmap H.h122 y11.1).bind fun y15 => ((hobj H.h131 ((mget y15 x12).getD 0)).bind fun y19 => (if y19.1.1 = 2 then (if x1 ≠ x3 then (if x15 = true then tree_Tree_Rename_j13 H x0 x1 x2 x3 x4 x12 x15 ((mget y15 x12).getD 0) false else ((hmap H.h122 y11.1).bind fun y69 => ((hobj H.h131 ((mget y69 x3).getD 0)).bind fun y73 => tree_Tree_Rename_j13 H x0 x1 x2 x3 x4 x12 x15 ((mget y15 x12).getD 0) (decide (1000 ≤ y73.1.2.1))))) else tree_Tree_Rename_j13 H x0 x1 x2 x3 x4 x12 x15 ((mget y15 x12).getD 0) false) else tree_Tree_Rename_j13 H x0 x1 x2 x3 x4 x12 x15 ((mget y15 x12).getD 0) false))))
def tree_Tree_Rename_j6 (H : Heap) (x0 : Nat) (x1 : Int) (x2 : List UInt8) (x3 : Int) (x4 : List UInt8) (x12 : Int) (x14 : Int) (x15 : Bool) (x45 : Bool) : Option (Heap × (List (Int × Int)) × Int) :=
  (if x45 = true then some (H, [], 0) else (if x15 = true then ((tree_Tree_clash H x0 x12 x14).bind fun y8 => (if y8 ≠ 0 then some (H, [], y8) else tree_Tree_Rename_j11 H x0 x1 x2 x3 x4 x12 x15)) else tree_Tree_Rename_j11 H x0 x1 x2 x3 x4 x12 x15))
def tree_Tree_Rename (H : Heap) (a0 : Nat) (a1 : Int) (a2 : List UInt8) (a3 : Int) (a4 : List UInt8) : Option (Heap × (List (Int × Int)) × Int) :=
  ((tree_Tree_movable H a0 a1 a2 a3 a4).bind fun y1 => (if y1.2 ≠ 0 then some (H, [], y1.2) else ((tree_Tree_Find H a0 a3 a4).bind fun y3 => (if y3.2 = 0 then tree_Tree_Rename_j6 H a0 a1 a2 a3 a4 y1.1 y3.1 (decide (y3.2 = 0)) (decide (y3.1 = y1.1)) else tree_Tree_Rename_j6 H a0 a1 a2 a3 a4 y1.1 y3.1 (decide (y3.2 = 0)) false))))
def tree_Tree_Unpin (H : Heap) (a0 : Nat) (a1 : Int) : Option (Heap × (List (Int × Int)) × Int) :=
  ((tree_Tree_get H a0 a1).bind fun y1 => (if y1.2 ≠ 0 then some (H, [], y1.2) else ((hobj H.h131 y1.1).bind fun y5 => (if y5.2.2.2 = 0 then some (H, [], 8) else ((some ({H with h131 := hset H.h131 y1.1 (y5.1, y5.2.1, y5.2.2.1, (wi64 (y5.2.2.2 - 1)))} : Heap)).bind fun H9 => ((tree_Tree_reap H9 a0 a1).bind fun y11 => some (y11.1, y11.2, 0)))))))
def tree_Tree_Link (H : Heap) (a0 : Nat) (a1 : Int) (a2 : Int) (a3 : List UInt8) : Option (Heap × Int) :=
  ((tree_Tree_get H a0 a1).bind fun y1 => (if y1.2 ≠ 0 then some (H, y1.2) else ((hobj H.h131 y1.1).bind fun y5 => (if y5.1.2.1 = 0 then some (H, 13) else (if y5.1.1 = 2 then some (H, 15) else ((tree_Tree_vacant H a0 a2 a3).bind fun y10 => (if y10.2 ≠ 0 then some (H, y10.2) else ((hobj H.h131 y1.1).bind fun y14 => (if 1000 ≤ y14.1.2.1 then some (H, 21) else ((tree_Tree_links H a0 a1 1).bind fun y18 => ((tree_Tree_put y18.1 a0 a2 a3 a1).bind fun y21 => some (y21, 0))))))))))))
def tree_Tree_Set_j7 (H : Heap) (x0 : Nat) (x1 : Int) (x9 : Nat) (x37 : Bool) (zb11 : Int × Int × Int × (List (Int × Int)) × (List UInt8)) : Option (Heap × Int) :=
  (if x37 = true then some (H, 23) else ((hobj H.h126 x0).bind fun y25 => ((hobj H.h131 x9).bind fun y29 => ((hobj H.h131 x9).bind fun y33 => ((some ({H with h131 := hset H.h131 x9 (zb11, y33.2.1, y33.2.2.1, y33.2.2.2)} : Heap)).bind fun H36 => ((hobj H36.h124 y25.2.2).bind fun y38 => ((some ({H36 with h124 := hset H36.h124 y25.2.2 (ment y38 x1 false)} : Heap)).bind fun H40 => ((hobj H40.h124 y25.2.2).bind fun y41 => ((some ({H40 with h124 := hset H40.h124 y25.2.2 (mput y41 x1 true)} : Heap)).bind fun H42 => some (H42, 0))))))))))
def tree_Tree_Set (H : Heap) (a0 : Nat) (a1 : Int) (a2 : Int) (a3 : List (Int × Int)) : Option (Heap × Int) :=
  ((tree_Tree_get H a0 a1).bind fun y1 => (if y1.2 ≠ 0 then some (H, y1.2) else ((hobj H.h131 y1.1).bind fun y5 => ((slices_Clone_ext_List_alloc_Extent a3).bind fun y9 => ((hobj H.h131 y1.1).bind fun y15 => (if y15.1.1 = 2 then some (H, 15) else (if y15.1.1 ≠ 1 then tree_Tree_Set_j7 H a0 a1 y1.1 true (y5.1.1, y5.1.2.1, a2, y9, y5.1.2.2.2.2) else ((inode_Inode_Right (y5.1.1, y5.1.2.1, a2, y9, y5.1.2.2.2.2)).bind fun y43 => tree_Tree_Set_j7 H a0 a1 y1.1 (!y43) (y5.1.1, y5.1.2.1, a2, y9, y5.1.2.2.2.2)))))))))
def tree_Tree_Pin (H : Heap) (a0 : Nat) (a1 : Int) : Option (Heap × Int) :=
  ((tree_Tree_get H a0 a1).bind fun y1 => (if y1.2 = 0 then ((hobj H.h131 y1.1).bind fun y5 => ((some ({H with h131 := hset H.h131 y1.1 (y5.1, y5.2.1, y5.2.2.1, (wi64 (y5.2.2.2 + 1)))} : Heap)).bind fun H8 => some (H8, y1.2))) else some (H, y1.2)))
def tree_New (H : Heap)  : Option (Heap × Nat) :=
  ((some ({H with h122 := H.h122 ++ [[]]} : Heap)).bind fun H3 => ((some ({H3 with h123 := H3.h123 ++ [[]]} : Heap)).bind fun H6 => ((some ({H6 with h124 := H6.h124 ++ [[]]} : Heap)).bind fun H9 => ((dir_New H9).bind fun y11 => ((some ({y11.1 with h131 := y11.1.h131 ++ [((((2, 2, 0, [], ([] : List UInt8)) : Int × Int × Int × (List (Int × Int)) × (List UInt8)), y11.2, 1, 0) : (Int × Int × Int × (List (Int × Int)) × (List UInt8)) × Nat × Int × Int)]} : Heap)).bind fun H16 => ((hobj H16.h122 (H.h122.length + 1)).bind fun y17 => ((some ({H16 with h122 := hset H16.h122 (H.h122.length + 1) (mput y17 1 (y11.1.h131.length + 1))} : Heap)).bind fun H18 => ((some ({H18 with h126 := H18.h126 ++ [((H.h122.length + 1), (H3.h123.length + 1), (H6.h124.length + 1))]} : Heap)).bind fun H20 => some (H20, (H18.h126.length + 1))))))))))
def tree_Tree_Len (H : Heap) (a0 : Nat) : Option Int :=
  (if a0 = 0 then some 0 else ((hobj H.h126 a0).bind fun y2 => ((hmap H.h122 y2.1).bind fun y6 => some (y6.length : Int))))
def cmp_isNaN_int (a0 : Int) : Option Bool :=
  some (decide (a0 ≠ a0))
def cmp_Compare_int (a0 : Int) (a1 : Int) : Option Int :=
  ((cmp_isNaN_int a0).bind fun y1 => ((cmp_isNaN_int a1).bind fun y2 => (if y1 = true then (if y2 = true then some 0 else some (-1)) else (if y2 = true then some 1 else (if a0 < a1 then some (-1) else (if a1 < a0 then some 1 else some 0))))))
def cmp_Or_int_l0 (x6 : List Int) (x8 : Int) : Option (Int ⊕ (Int ⊕ Unit)) :=
  (if x8 < (x6.length : Int) then ((rd x6 x8).bind fun y3 => (if y3 ≠ 0 then some (.inr (.inl y3)) else some (.inl (wi64 (x8 + 1))))) else some (.inr (.inr ())))
def cmp_Or_int (a0 : List Int) : Option Int :=
  ((iter (fun (s : Int) => cmp_Or_int_l0 a0 s) (a0.length + 1) 0).bind fun e5 => on e5 (fun x6 => some x6) (fun x8 => some 0))
def tree_Tree_Deeds_1 (a0 : Int × (List UInt8)) (a1 : Int × (List UInt8)) : Option Int :=
  ((cmp_Compare_int a0.1 a1.1).bind fun y3 => ((cmp_Compare_string a0.2 a1.2).bind fun y4 => ((cmp_Or_int ([y3, y4])).bind fun y9 => some y9)))
def tree_Tree_name (H : Heap) (a0 : Nat) (a1 : Int × (List UInt8)) : Option (Int × Int × (List UInt8)) :=
  ((tree_Tree_Find H a0 a1.1 a1.2).bind fun y3 => (if y3.2 ≠ 0 then some ((4, a1.1, a1.2) : Int × Int × (List UInt8)) else some ((3, a1.1, a1.2) : Int × Int × (List UInt8))))
def tree_Tree_Deeds_l0 (H : Heap) (x0 : Nat) (x17 : List (Int × (List UInt8))) (x3 : List (Int × Int × (List UInt8))) (x19 : Int) : Option (((List (Int × Int × (List UInt8))) × Int) ⊕ (List (Int × Int × (List UInt8)))) :=
  (if x19 < (x17.length : Int) then ((rd x17 x19).bind fun y18 => ((tree_Tree_name H x0 y18).bind fun y20 => ((appL 4398046511104 x3 ([y20])).bind fun y25 => some (.inl (y25, (wi64 (x19 + 1))))))) else some (.inr x3))
def tree_Tree_Deeds_j16 (H : Heap) (x0 : Nat) (x3 : List (Int × Int × (List UInt8))) (x35 : List Int) (x37 : Int) : Option (((List (Int × Int × (List UInt8))) × Int) ⊕ (List (Int × Int × (List UInt8)))) :=
  some (.inl (x3, (wi64 (x37 + 1))))
def tree_Tree_Deeds_l1 (H : Heap) (x0 : Nat) (x35 : List Int) (x3 : List (Int × Int × (List UInt8))) (x37 : Int) : Option (((List (Int × Int × (List UInt8))) × Int) ⊕ (List (Int × Int × (List UInt8)))) :=
  (if x37 < (x35.length : Int) then ((rd x35 x37).bind fun y51 => ((hobj H.h126 x0).bind fun y52 => ((hmap H.h122 y52.1).bind fun y56 => (if ((mget y56 y51).getD 0) = 0 then ((appL 4398046511104 x3 ([((2, y51, ([] : List UInt8)) : Int × Int × (List UInt8))])).bind fun y65 => tree_Tree_Deeds_j16 H x0 y65 x35 x37) else ((appL 4398046511104 x3 ([((1, y51, ([] : List UInt8)) : Int × Int × (List UInt8))])).bind fun y77 => tree_Tree_Deeds_j16 H x0 y77 x35 x37))))) else some (.inr x3))
def tree_Tree_Deeds (H : Heap) (a0 : Nat) : Option (Heap × (List (Int × Int × (List UInt8)))) :=
  (if a0 = 0 then some (H, []) else ((hobj H.h126 a0).bind fun y2 => ((hobj H.h123 y2.2.1).bind fun y7 => (ifS (y7.length ≤ 1000000) ((iter (fun (s : (List (Int × Int × (List UInt8))) × Int) => tree_Tree_Deeds_l0 H a0 (sortP (y7.map (·.1))) s.1 s.2) ((sortP (y7.map (·.1))).length + 1) ([], 0)).bind fun e32 => ((hobj H.h126 a0).bind fun y35 => ((hobj H.h124 y35.2.2).bind fun y40 => (ifS (y40.length ≤ 1000000) ((iter (fun (s : (List (Int × Int × (List UInt8))) × Int) => tree_Tree_Deeds_l1 H a0 (sortI (y40.map (·.1))) s.1 s.2) ((sortI (y40.map (·.1))).length + 1) (e32, 0)).bind fun e84 => ((hobj H.h126 a0).bind fun y87 => ((hobj H.h123 y87.2.1).bind fun y91 => ((some ({H with h123 := hset H.h123 y87.2.1 []} : Heap)).bind fun H92 => ((hobj H92.h126 a0).bind fun y93 => ((hobj H92.h124 y93.2.2).bind fun y97 => ((some ({H92 with h124 := hset H92.h124 y93.2.2 []} : Heap)).bind fun H98 => some (H98, e84))))))))))))))))
def gabionlaw19_wakes (H : Heap)  : Option (Heap × Bool) :=
  ((tree_New H).bind fun y1 => ((tree_Tree_Make y1.1 y1.2 1 ([97] : List UInt8) ((2, 0, 0, [], ([] : List UInt8)) : Int × Int × Int × (List (Int × Int)) × (List UInt8))).bind fun y4 => ((tree_Tree_Inode y4.1 y1.2 1).bind fun y5 => ((path_Parse ([47, 97, 47, 46, 46, 47, 97] : List UInt8)).bind fun y12 => ((tree_Tree_Walk y4.1 y1.2 1 y12.1 true).bind fun y20 => (if y4.2.2 = 0 then (if y4.2.1 = 2 then (if y5.2 = 0 then (if y5.1.2.1 = 3 then (if y20.2.2 = 0 then (if y20.2.1 = 2 then ((tree_Tree_Len y20.1 y1.2).bind fun y27 => (if y27 = 2 then ((tree_Tree_Deeds y20.1 y1.2).bind fun y29 => some (y29.1, decide ((y29.2.length : Int) = 3))) else some (y20.1, false))) else some (y20.1, false)) else some (y20.1, false)) else some (y20.1, false)) else some (y20.1, false)) else some (y20.1, false)) else some (y20.1, false)))))))
def tree_Tree_Copy (H : Heap) (a0 : Nat) (Z : (Heap × Nat) → Prop) : Prop :=
  (if a0 = 0 then Z (H, 0) else (∃ H4, (some ({H with h122 := H.h122 ++ [[]]} : Heap)) = some H4 ∧ (∃ H7, (some ({H4 with h123 := H4.h123 ++ [[]]} : Heap)) = some H7 ∧ (∃ H10, (some ({H7 with h124 := H7.h124 ++ [[]]} : Heap)) = some H10 ∧ (∃ y12, (hobj H10.h126 a0) = some y12 ∧ (∃ y16, (hobj H10.h122 y12.1) = some y16 ∧ False))))))
def tree_Tree_All (H : Heap) (a0 : Nat) : Option (List Int) :=
  (if a0 = 0 then some ([]) else ((hobj H.h126 a0).bind fun y2 => ((hobj H.h122 y2.1).bind fun y7 => (ifS (y7.length ≤ 1000000) (some (sortI (y7.map (·.1))))))))
def gabionlaw19_TreeNone_l0 (H : Heap) (x0 : Int) (x1 : List UInt8) (x5 : Nat) (x113 : List Int) (x115 : Int) : Option (Int ⊕ ((Heap × Bool) ⊕ Unit)) :=
  (if x115 < (x113.length : Int) then ((rd x113 x115).bind fun y38 => (if y38 ≠ 1 then some (.inr (.inl (H, false))) else some (.inl (wi64 (x115 + 1))))) else some (.inr (.inr ())))
def gabionlaw19_TreeNone_j20 (H : Heap) (x0 : Int) (x1 : List UInt8) (x5 : Nat) (x26 : Nat) (Z : (Heap × Bool) → Prop) : Prop :=
  (∃ y52, (tree_Tree_Inode H x26 x0) = some y52 ∧ (∃ y58, (tree_Tree_Names H x26 x0) = some y58 ∧ (∃ y64, (tree_Tree_Make H x26 x0 x1 ((2, 0, 0, [], ([] : List UInt8)) : Int × Int × Int × (List (Int × Int)) × (List UInt8))) = some y64 ∧ (∃ y65, (gabionlaw19_wakes y64.1) = some y65 ∧ (if y65.2 = true then (tree_Tree_Copy y65.1 x5 fun y67 => (if y67.2 = 0 then (∃ y71, (tree_Tree_Len y67.1 x5) = some y71 ∧ (∃ y72, (tree_Tree_All y67.1 x5) = some y72 ∧ (∃ y78, (tree_Tree_Deeds y67.1 x5) = some y78 ∧ (if (wi64 ((wi64 (y71 + (y72.length : Int))) + (y78.2.length : Int))) = 0 then (if y52.2 = 13 then (if y58.2 = 13 then (if y64.2.2 = 13 then (∃ y88, (tree_Tree_Set y78.1 x26 x0 0 ([])) = some y88 ∧ (if y88.2 = 13 then (∃ y90, (tree_Tree_Deeds y88.1 x26) = some y90 ∧ (if (y90.2.length : Int) = 0 then (∃ y97, (tree_Tree_Len y90.1 x26) = some y97 ∧ Z (y90.1, decide (y97 = 1))) else Z (y90.1, false))) else Z (y88.1, false))) else Z (y78.1, false)) else Z (y78.1, false)) else Z (y78.1, false)) else Z (y78.1, false))))) else Z (y67.1, false))) else Z (y65.1, false))))))
def gabionlaw19_TreeNone (H : Heap) (a0 : Int) (a1 : List UInt8) (Z : (Heap × Bool) → Prop) : Prop :=
  (∃ y1, (tree_Tree_Inode H 0 a0) = some y1 ∧ (∃ y8, (tree_Tree_Names H 0 a0) = some y8 ∧ (∃ y14, (tree_Tree_Find H 0 a0 a1) = some y14 ∧ (∃ y15, (tree_Tree_Walk H 0 a0 ((false, [], false) : Bool × (List (List UInt8)) × Bool) true) = some y15 ∧ (∃ y16, (tree_Tree_Make y15.1 0 a0 a1 ((0, 0, 0, [], ([] : List UInt8)) : Int × Int × Int × (List (Int × Int)) × (List UInt8))) = some y16 ∧ (∃ y17, (tree_Tree_Unlink y16.1 0 a0 a1) = some y17 ∧ (∃ y20, (tree_Tree_Rename y17.1 0 a0 a1 a0 a1) = some y20 ∧ (∃ y23, (tree_Tree_Unpin y20.1 0 a0) = some y23 ∧ (∃ y26, (tree_Tree_Up y23.1 0 a0) = some y26 ∧ (∃ y27, (tree_Tree_Link y23.1 0 a0 a0 a1) = some y27 ∧ (∃ y28, (tree_Tree_Rmdir y27.1 0 a0 a1) = some y28 ∧ (∃ y29, (tree_Tree_Set y28.1 0 a0 0 ([])) = some y29 ∧ (∃ y30, (tree_Tree_Pin y29.1 0 a0) = some y30 ∧ (∃ e41, (iter (fun (s : Int) => gabionlaw19_TreeNone_l0 y30.1 a0 a1 0 ([y1.2, y8.2, y14.2, y15.2.2, y16.2.2, y17.2.2, y20.2.2, y23.2.2, y26.2, y27.2, y28.2, y29.2, y30.2]) s) (([y1.2, y8.2, y14.2, y15.2.2, y16.2.2, y17.2.2, y20.2.2, y23.2.2, y26.2, y27.2, y28.2, y29.2, y30.2]).length + 1) 0) = some e41 ∧ on e41 (fun x42 => Z x42) (fun x44 => (∃ y46, (tree_New y30.1) = some y46 ∧ (if a0 = 1 then gabionlaw19_TreeNone_j20 y46.1 2 a1 0 y46.2 Z else gabionlaw19_TreeNone_j20 y46.1 a0 a1 0 y46.2 Z)))))))))))))))))
end Gab
end
section
namespace Gab
open Go Go.Proofs
theorem ti3 : tinfo Tryz.prog 3 = some ⟨.int .i64, 1, 8, some [.int .i64 0]⟩ := by kernel_rfl
theorem ti4 : tinfo Tryz.prog 4 = some ⟨.bool, 1, 1, some [.bool false]⟩ := by kernel_rfl
theorem ti5 : tinfo Tryz.prog 5 = some ⟨.int .u8, 1, 1, some [.int .u8 0]⟩ := by kernel_rfl
theorem ti9 : tinfo Tryz.prog 9 = some ⟨.str, 1, 16, some [.str []]⟩ := by kernel_rfl
theorem ti21 : tinfo Tryz.prog 21 = some ⟨.int .i32, 1, 4, some [.int .i32 0]⟩ := by kernel_rfl
theorem ti23 : tinfo Tryz.prog 23 = some ⟨.ptr 126, 1, 8, some [.nilptr]⟩ := by kernel_rfl
theorem ti31 : tinfo Tryz.prog 31 = some ⟨.sl 9, 1, 24, some [.sl 0 0 0 0 0 true]⟩ := by kernel_rfl
theorem ti33 : tinfo Tryz.prog 33 = some ⟨.struct [(0, 4), (1, 31), (2, 4)], 3, 40, some [.bool false, .sl 0 0 0 0 0 true, .bool false]⟩ := by kernel_rfl
theorem ti34 : tinfo Tryz.prog 34 = some ⟨.int .i64, 1, 8, some [.int .i64 0]⟩ := by kernel_rfl
theorem ti40 : tinfo Tryz.prog 40 = some ⟨.sl 3, 1, 24, some [.sl 0 0 0 0 0 true]⟩ := by kernel_rfl
theorem ti49 : tinfo Tryz.prog 49 = some ⟨.int .u8, 1, 1, some [.int .u8 0]⟩ := by kernel_rfl
theorem ti51 : tinfo Tryz.prog 51 = some ⟨.sl 163, 1, 24, some [.sl 0 0 0 0 0 true]⟩ := by kernel_rfl
theorem ti53 : tinfo Tryz.prog 53 = some ⟨.struct [(0, 49), (1, 3), (2, 3), (3, 51), (4, 9)], 5, 64, some [.int .u8 0, .int .i64 0, .int .i64 0, .sl 0 0 0 0 0 true, .str []]⟩ := by kernel_rfl
theorem ti56 : tinfo Tryz.prog 56 = some ⟨.sl 60, 1, 24, some [.sl 0 0 0 0 0 true]⟩ := by kernel_rfl
theorem ti60 : tinfo Tryz.prog 60 = some ⟨.struct [(0, 9), (1, 3)], 2, 24, some [.str [], .int .i64 0]⟩ := by kernel_rfl
theorem ti63 : tinfo Tryz.prog 63 = some ⟨.sl 72, 1, 24, some [.sl 0 0 0 0 0 true]⟩ := by kernel_rfl
theorem ti72 : tinfo Tryz.prog 72 = some ⟨.struct [(0, 3), (1, 3), (2, 9)], 3, 32, some [.int .i64 0, .int .i64 0, .str []]⟩ := by kernel_rfl
theorem ti81 : tinfo Tryz.prog 81 = some ⟨.sl 34, 1, 24, some [.sl 0 0 0 0 0 true]⟩ := by kernel_rfl
theorem ti122 : tinfo Tryz.prog 122 = some ⟨.map 3 127, 1, 8, some [.nilmap]⟩ := by kernel_rfl
theorem ti123 : tinfo Tryz.prog 123 = some ⟨.map 166 4, 1, 8, some [.nilmap]⟩ := by kernel_rfl
theorem ti124 : tinfo Tryz.prog 124 = some ⟨.map 3 4, 1, 8, some [.nilmap]⟩ := by kernel_rfl
theorem ti126 : tinfo Tryz.prog 126 = some ⟨.struct [(0, 122), (1, 123), (2, 124)], 3, 24, some [.nilmap, .nilmap, .nilmap]⟩ := by kernel_rfl
theorem ti127 : tinfo Tryz.prog 127 = some ⟨.ptr 131, 1, 8, some [.nilptr]⟩ := by kernel_rfl
theorem ti128 : tinfo Tryz.prog 128 = some ⟨.ptr 210, 1, 8, some [.nilptr]⟩ := by kernel_rfl
theorem ti131 : tinfo Tryz.prog 131 = some ⟨.struct [(0, 53), (5, 128), (6, 3), (7, 3)], 8, 88, some [.int .u8 0, .int .i64 0, .int .i64 0, .sl 0 0 0 0 0 true, .str [], .nilptr, .int .i64 0, .int .i64 0]⟩ := by kernel_rfl
theorem ti153 : tinfo Tryz.prog 153 = some ⟨.struct [(0, 23), (1, 3), (2, 31), (3, 4), (4, 3)], 5, 56, some [.nilptr, .int .i64 0, .sl 0 0 0 0 0 true, .bool false, .int .i64 0]⟩ := by kernel_rfl
theorem ti163 : tinfo Tryz.prog 163 = some ⟨.struct [(0, 3), (1, 3)], 2, 16, some [.int .i64 0, .int .i64 0]⟩ := by kernel_rfl
theorem ti166 : tinfo Tryz.prog 166 = some ⟨.struct [(0, 3), (1, 9)], 2, 24, some [.int .i64 0, .str []]⟩ := by kernel_rfl
theorem ti171 : tinfo Tryz.prog 171 = some ⟨.sl 166, 1, 24, some [.sl 0 0 0 0 0 true]⟩ := by kernel_rfl
theorem ti207 : tinfo Tryz.prog 207 = some ⟨.sl 222, 1, 24, some [.sl 0 0 0 0 0 true]⟩ := by kernel_rfl
theorem ti210 : tinfo Tryz.prog 210 = some ⟨.struct [(0, 207), (1, 3)], 2, 32, some [.sl 0 0 0 0 0 true, .int .i64 0]⟩ := by kernel_rfl
theorem ti222 : tinfo Tryz.prog 222 = some ⟨.map 9 3, 1, 8, some [.nilmap]⟩ := by kernel_rfl
theorem ti249 : tinfo Tryz.prog 249 = some ⟨.int .u16, 1, 2, some [.int .u16 0]⟩ := by kernel_rfl
theorem ti260 : tinfo Tryz.prog 260 = some ⟨.sl 31, 1, 24, some [.sl 0 0 0 0 0 true]⟩ := by kernel_rfl
end Gab
end
section
set_option linter.unusedSimpArgs false
set_option linter.unusedVariables false
set_option maxHeartbeats 4000000
set_option maxRecDepth 100000
namespace Gab
open Go Go.Proofs
theorem mixed : Tryz.prog.follows .mixedOrders = true := by kernel_rfl
abbrev EPIi64Ii64Q : Ty (Int × Int) := .pair (Ty.int .i64) (Ty.int .i64)
abbrev EPStIi64Q : Ty ((List UInt8) × Int) := .pair Ty.str (Ty.int .i64)
abbrev ELM222 : Ty (List Nat) := .slice (Ty.hm 222)
abbrev EPLM222Ii64Q : Ty ((List Nat) × Int) := .pair ELM222 (Ty.int .i64)
abbrev ELSt : Ty (List (List UInt8)) := .slice Ty.str
abbrev EPIi64Ii64StQ : Ty (Int × Int × (List UInt8)) := .pair (Ty.int .i64) (.pair (Ty.int .i64) Ty.str)
abbrev EPIi64StQ : Ty (Int × (List UInt8)) := .pair (Ty.int .i64) Ty.str
abbrev EPM122M123M124Q : Ty (Nat × Nat × Nat) := .pair (Ty.hm 122) (.pair (Ty.hm 123) (Ty.hm 124))
abbrev ELPIi64Ii64Q : Ty (List (Int × Int)) := .slice EPIi64Ii64Q
abbrev EPIu8Ii64Ii64LPIi64Ii64QStQ : Ty (Int × Int × Int × (List (Int × Int)) × (List UInt8)) := .pair (Ty.int .u8) (.pair (Ty.int .i64) (.pair (Ty.int .i64) (.pair ELPIi64Ii64Q Ty.str)))
abbrev EPPIu8Ii64Ii64LPIi64Ii64QStQH210Ii64Ii64Q : Ty ((Int × Int × Int × (List (Int × Int)) × (List UInt8)) × Nat × Int × Int) := .pair EPIu8Ii64Ii64LPIi64Ii64QStQ (.pair (Ty.hp 210) (.pair (Ty.int .i64) (Ty.int .i64)))
abbrev EPH126Ii64LStBoIi64Q : Ty (Nat × Int × (List (List UInt8)) × Bool × Int) := .pair (Ty.hp 126) (.pair (Ty.int .i64) (.pair ELSt (.pair Ty.bool (Ty.int .i64))))
theorem sl31 : SlT Tryz.prog 31 Ty.str [.str []] 16 := ⟨_, _, _, ti31, rfl, ti9, rfl, rfl, rfl, rfl⟩
theorem sl40 : SlT Tryz.prog 40 (Ty.int .i64) [.int .i64 0] 8 := ⟨_, _, _, ti40, rfl, ti3, rfl, rfl, rfl, rfl⟩
theorem sl51 : SlT Tryz.prog 51 EPIi64Ii64Q [.int .i64 0, .int .i64 0] 16 := ⟨_, _, _, ti51, rfl, ti163, rfl, rfl, rfl, rfl⟩
theorem sl56 : SlT Tryz.prog 56 EPStIi64Q [.str [], .int .i64 0] 24 := ⟨_, _, _, ti56, rfl, ti60, rfl, rfl, rfl, rfl⟩
theorem sl63 : SlT Tryz.prog 63 EPIi64Ii64StQ [.int .i64 0, .int .i64 0, .str []] 32 := ⟨_, _, _, ti63, rfl, ti72, rfl, rfl, rfl, rfl⟩
theorem sl81 : SlT Tryz.prog 81 (Ty.int .i64) [.int .i64 0] 8 := ⟨_, _, _, ti81, rfl, ti34, rfl, rfl, rfl, rfl⟩
theorem sl171 : SlT Tryz.prog 171 EPIi64StQ [.int .i64 0, .str []] 24 := ⟨_, _, _, ti171, rfl, ti166, rfl, rfl, rfl, rfl⟩
theorem sl207 : SlT Tryz.prog 207 (Ty.hm 222) [.nilmap] 8 := ⟨_, _, _, ti207, rfl, ti222, rfl, rfl, rfl, rfl⟩
theorem sl260 : SlT Tryz.prog 260 ELSt [.sl 0 0 0 0 0 true] 24 := ⟨_, _, _, ti260, rfl, ti31, rfl, rfl, rfl, rfl⟩
def HR (B : Kn) (H : Heap) (E : Own) : Prop := ∃ F122 F123 F124 F126 F131 F153 F210 F222, E = F122 ++ (F123 ++ (F124 ++ (F126 ++ (F131 ++ (F153 ++ (F210 ++ F222)))))) ∧ Seg B 122 (MR (KTy.int .i64) (KTy.hp 131) B) H.h122 F122 ∧ Seg B 123 (MR (KTy.g EPIi64StQ) KTy.bool B) H.h123 F123 ∧ Seg B 124 (MR (KTy.int .i64) KTy.bool B) H.h124 F124 ∧ Seg B 126 (SR EPM122M123M124Q B) H.h126 F126 ∧ Seg B 131 (SR EPPIu8Ii64Ii64LPIi64Ii64QStQH210Ii64Ii64Q B) H.h131 F131 ∧ Seg B 153 (SR EPH126Ii64LStBoIi64Q B) H.h153 F153 ∧ Seg B 210 (SR EPLM222Ii64Q B) H.h210 F210 ∧ Seg B 222 (MR KTy.str (KTy.int .i64) B) H.h222 F222
theorem HR.nil {k : Nat → Option AObj} : HR ⟨k, fun _ => []⟩ ⟨[], [], [], [], [], [], [], []⟩ [] := ⟨[], [], [], [], [], [], [], [], rfl, Seg.nil rfl, Seg.nil rfl, Seg.nil rfl, Seg.nil rfl, Seg.nil rfl, Seg.nil rfl, Seg.nil rfl, Seg.nil rfl⟩
theorem HRe {B : Kn} {X Y : Heap} {E : Own} (e : some X = some Y) (h : HR B X E) : HR B Y E := Option.some.inj e ▸ h
theorem HR.up {B B' : Kn} {H : Heap} {E : Own} (hk : KLe B B') (h : HR B H E) : HR B' H E := by
  obtain ⟨F122, F123, F124, F126, F131, F153, F210, F222, e, s122, s123, s124, s126, s131, s153, s210, s222⟩ := h
  exact ⟨F122, F123, F124, F126, F131, F153, F210, F222, e, s122.up (by rw [hk.a]) (fun u x h => MR.mono hk.w h), s123.up (by rw [hk.a]) (fun u x h => MR.mono hk.w h), s124.up (by rw [hk.a]) (fun u x h => MR.mono hk.w h), s126.up (by rw [hk.a]) (fun u x h => SR.mono hk.w h), s131.up (by rw [hk.a]) (fun u x h => SR.mono hk.w h), s153.up (by rw [hk.a]) (fun u x h => SR.mono hk.w h), s210.up (by rw [hk.a]) (fun u x h => SR.mono hk.w h), s222.up (by rw [hk.a]) (fun u x h => MR.mono hk.w h)⟩
theorem foc122 {B : Kn} {H : Heap} {E : Own} (h : HR B H E) : Foc B 122 (MR (KTy.int .i64) (KTy.hp 131)) H.h122 E (fun B' l' E' => HR B' {H with h122 := l'} E') := by
  obtain ⟨F122, F123, F124, F126, F131, F153, F210, F222, e, s122, s123, s124, s126, s131, s153, s210, s222⟩ := h
  refine ⟨([] : Own), F122, (F123 ++ (F124 ++ (F126 ++ (F131 ++ (F153 ++ (F210 ++ F222)))))), by rw [e]; try simp only [List.append_assoc, List.nil_append, List.append_nil], s122, fun B' l' F' hk hn hs => ⟨F', F123, F124, F126, F131, F153, F210, F222, by simp only [List.append_assoc, List.nil_append, List.append_nil], hs, s123.up (hn 123 (by decide)) (fun u x h => MR.mono hk h), s124.up (hn 124 (by decide)) (fun u x h => MR.mono hk h), s126.up (hn 126 (by decide)) (fun u x h => SR.mono hk h), s131.up (hn 131 (by decide)) (fun u x h => SR.mono hk h), s153.up (hn 153 (by decide)) (fun u x h => SR.mono hk h), s210.up (hn 210 (by decide)) (fun u x h => SR.mono hk h), s222.up (hn 222 (by decide)) (fun u x h => MR.mono hk h)⟩⟩
theorem mt122 : MapT Tryz.prog 122 (KTy.int .i64) (KTy.hp 131) 0 := ⟨⟨_, _, _, _, _, ti122, rfl, ti3, (keyT_int _), (by kernel_rfl : zinfo Tryz.prog 127 = some (.nilptr)), fun B => (kHp HPt.nil)⟩⟩
theorem foc123 {B : Kn} {H : Heap} {E : Own} (h : HR B H E) : Foc B 123 (MR (KTy.g EPIi64StQ) KTy.bool) H.h123 E (fun B' l' E' => HR B' {H with h123 := l'} E') := by
  obtain ⟨F122, F123, F124, F126, F131, F153, F210, F222, e, s122, s123, s124, s126, s131, s153, s210, s222⟩ := h
  refine ⟨(F122), F123, (F124 ++ (F126 ++ (F131 ++ (F153 ++ (F210 ++ F222))))), by rw [e]; try simp only [List.append_assoc, List.nil_append, List.append_nil], s123, fun B' l' F' hk hn hs => ⟨F122, F', F124, F126, F131, F153, F210, F222, by simp only [List.append_assoc, List.nil_append, List.append_nil], s122.up (hn 122 (by decide)) (fun u x h => MR.mono hk h), hs, s124.up (hn 124 (by decide)) (fun u x h => MR.mono hk h), s126.up (hn 126 (by decide)) (fun u x h => SR.mono hk h), s131.up (hn 131 (by decide)) (fun u x h => SR.mono hk h), s153.up (hn 153 (by decide)) (fun u x h => SR.mono hk h), s210.up (hn 210 (by decide)) (fun u x h => SR.mono hk h), s222.up (hn 222 (by decide)) (fun u x h => MR.mono hk h)⟩⟩
theorem fsk166 : flatStruct Tryz.prog 166 = true := by kernel_rfl
theorem kt166 : KeyT Tryz.prog 166 (KTy.g EPIi64StQ) (.struct [(0, 3), (1, 9)]) := ⟨fun B k x h => by
  obtain ⟨_, rfl, h⟩ := h
  obtain ⟨_, _, rfl, rfl, rfl⟩ := h
  simp only [keyKP, keyF, fsk166, ti3, ti9, keyK, decide_true, Bool.and_self, Bool.true_and, List.cons_append, List.nil_append, Nat.reduceAdd]
  try rfl, fun B B' k k' x x' h h' => by
  obtain ⟨_, rfl, h⟩ := h
  obtain ⟨_, _, rfl, rfl, rfl⟩ := h
  obtain ⟨_, rfl, h'⟩ := h'
  obtain ⟨_, _, rfl, rfl, rfl⟩ := h'
  simp only [List.cons_append, List.nil_append, keyEq, eqCs, keyEq0, if_true, Option.bind_some, Bool.and_true]
  congr 1
  rw [Bool.eq_iff_iff]
  simp [Prod.ext_iff]⟩
theorem mt123 : MapT Tryz.prog 123 (KTy.g EPIi64StQ) KTy.bool false := ⟨⟨_, _, _, _, _, ti123, rfl, ti166, kt166, (by kernel_rfl : zinfo Tryz.prog 4 = some (.bool false)), fun B => kB⟩⟩
theorem foc124 {B : Kn} {H : Heap} {E : Own} (h : HR B H E) : Foc B 124 (MR (KTy.int .i64) KTy.bool) H.h124 E (fun B' l' E' => HR B' {H with h124 := l'} E') := by
  obtain ⟨F122, F123, F124, F126, F131, F153, F210, F222, e, s122, s123, s124, s126, s131, s153, s210, s222⟩ := h
  refine ⟨(F122 ++ F123), F124, (F126 ++ (F131 ++ (F153 ++ (F210 ++ F222)))), by rw [e]; try simp only [List.append_assoc, List.nil_append, List.append_nil], s124, fun B' l' F' hk hn hs => ⟨F122, F123, F', F126, F131, F153, F210, F222, by simp only [List.append_assoc, List.nil_append, List.append_nil], s122.up (hn 122 (by decide)) (fun u x h => MR.mono hk h), s123.up (hn 123 (by decide)) (fun u x h => MR.mono hk h), hs, s126.up (hn 126 (by decide)) (fun u x h => SR.mono hk h), s131.up (hn 131 (by decide)) (fun u x h => SR.mono hk h), s153.up (hn 153 (by decide)) (fun u x h => SR.mono hk h), s210.up (hn 210 (by decide)) (fun u x h => SR.mono hk h), s222.up (hn 222 (by decide)) (fun u x h => MR.mono hk h)⟩⟩
theorem mt124 : MapT Tryz.prog 124 (KTy.int .i64) KTy.bool false := ⟨⟨_, _, _, _, _, ti124, rfl, ti3, (keyT_int _), (by kernel_rfl : zinfo Tryz.prog 4 = some (.bool false)), fun B => kB⟩⟩
theorem foc126 {B : Kn} {H : Heap} {E : Own} (h : HR B H E) : Foc B 126 (SR EPM122M123M124Q) H.h126 E (fun B' l' E' => HR B' {H with h126 := l'} E') := by
  obtain ⟨F122, F123, F124, F126, F131, F153, F210, F222, e, s122, s123, s124, s126, s131, s153, s210, s222⟩ := h
  refine ⟨(F122 ++ (F123 ++ F124)), F126, (F131 ++ (F153 ++ (F210 ++ F222))), by rw [e]; try simp only [List.append_assoc, List.nil_append, List.append_nil], s126, fun B' l' F' hk hn hs => ⟨F122, F123, F124, F', F131, F153, F210, F222, by simp only [List.append_assoc, List.nil_append, List.append_nil], s122.up (hn 122 (by decide)) (fun u x h => MR.mono hk h), s123.up (hn 123 (by decide)) (fun u x h => MR.mono hk h), s124.up (hn 124 (by decide)) (fun u x h => MR.mono hk h), hs, s131.up (hn 131 (by decide)) (fun u x h => SR.mono hk h), s153.up (hn 153 (by decide)) (fun u x h => SR.mono hk h), s210.up (hn 210 (by decide)) (fun u x h => SR.mono hk h), s222.up (hn 222 (by decide)) (fun u x h => MR.mono hk h)⟩⟩
theorem foc131 {B : Kn} {H : Heap} {E : Own} (h : HR B H E) : Foc B 131 (SR EPPIu8Ii64Ii64LPIi64Ii64QStQH210Ii64Ii64Q) H.h131 E (fun B' l' E' => HR B' {H with h131 := l'} E') := by
  obtain ⟨F122, F123, F124, F126, F131, F153, F210, F222, e, s122, s123, s124, s126, s131, s153, s210, s222⟩ := h
  refine ⟨(F122 ++ (F123 ++ (F124 ++ F126))), F131, (F153 ++ (F210 ++ F222)), by rw [e]; try simp only [List.append_assoc, List.nil_append, List.append_nil], s131, fun B' l' F' hk hn hs => ⟨F122, F123, F124, F126, F', F153, F210, F222, by simp only [List.append_assoc, List.nil_append, List.append_nil], s122.up (hn 122 (by decide)) (fun u x h => MR.mono hk h), s123.up (hn 123 (by decide)) (fun u x h => MR.mono hk h), s124.up (hn 124 (by decide)) (fun u x h => MR.mono hk h), s126.up (hn 126 (by decide)) (fun u x h => SR.mono hk h), hs, s153.up (hn 153 (by decide)) (fun u x h => SR.mono hk h), s210.up (hn 210 (by decide)) (fun u x h => SR.mono hk h), s222.up (hn 222 (by decide)) (fun u x h => MR.mono hk h)⟩⟩
theorem foc153 {B : Kn} {H : Heap} {E : Own} (h : HR B H E) : Foc B 153 (SR EPH126Ii64LStBoIi64Q) H.h153 E (fun B' l' E' => HR B' {H with h153 := l'} E') := by
  obtain ⟨F122, F123, F124, F126, F131, F153, F210, F222, e, s122, s123, s124, s126, s131, s153, s210, s222⟩ := h
  refine ⟨(F122 ++ (F123 ++ (F124 ++ (F126 ++ F131)))), F153, (F210 ++ F222), by rw [e]; try simp only [List.append_assoc, List.nil_append, List.append_nil], s153, fun B' l' F' hk hn hs => ⟨F122, F123, F124, F126, F131, F', F210, F222, by simp only [List.append_assoc, List.nil_append, List.append_nil], s122.up (hn 122 (by decide)) (fun u x h => MR.mono hk h), s123.up (hn 123 (by decide)) (fun u x h => MR.mono hk h), s124.up (hn 124 (by decide)) (fun u x h => MR.mono hk h), s126.up (hn 126 (by decide)) (fun u x h => SR.mono hk h), s131.up (hn 131 (by decide)) (fun u x h => SR.mono hk h), hs, s210.up (hn 210 (by decide)) (fun u x h => SR.mono hk h), s222.up (hn 222 (by decide)) (fun u x h => MR.mono hk h)⟩⟩
theorem foc210 {B : Kn} {H : Heap} {E : Own} (h : HR B H E) : Foc B 210 (SR EPLM222Ii64Q) H.h210 E (fun B' l' E' => HR B' {H with h210 := l'} E') := by
  obtain ⟨F122, F123, F124, F126, F131, F153, F210, F222, e, s122, s123, s124, s126, s131, s153, s210, s222⟩ := h
  refine ⟨(F122 ++ (F123 ++ (F124 ++ (F126 ++ (F131 ++ F153))))), F210, (F222), by rw [e]; try simp only [List.append_assoc, List.nil_append, List.append_nil], s210, fun B' l' F' hk hn hs => ⟨F122, F123, F124, F126, F131, F153, F', F222, by simp only [List.append_assoc, List.nil_append, List.append_nil], s122.up (hn 122 (by decide)) (fun u x h => MR.mono hk h), s123.up (hn 123 (by decide)) (fun u x h => MR.mono hk h), s124.up (hn 124 (by decide)) (fun u x h => MR.mono hk h), s126.up (hn 126 (by decide)) (fun u x h => SR.mono hk h), s131.up (hn 131 (by decide)) (fun u x h => SR.mono hk h), s153.up (hn 153 (by decide)) (fun u x h => SR.mono hk h), hs, s222.up (hn 222 (by decide)) (fun u x h => MR.mono hk h)⟩⟩
theorem foc222 {B : Kn} {H : Heap} {E : Own} (h : HR B H E) : Foc B 222 (MR KTy.str (KTy.int .i64)) H.h222 E (fun B' l' E' => HR B' {H with h222 := l'} E') := by
  obtain ⟨F122, F123, F124, F126, F131, F153, F210, F222, e, s122, s123, s124, s126, s131, s153, s210, s222⟩ := h
  refine ⟨(F122 ++ (F123 ++ (F124 ++ (F126 ++ (F131 ++ (F153 ++ F210)))))), F222, ([] : Own), by rw [e]; try simp only [List.append_assoc, List.nil_append, List.append_nil], s222, fun B' l' F' hk hn hs => ⟨F122, F123, F124, F126, F131, F153, F210, F', by simp only [List.append_assoc, List.nil_append, List.append_nil], s122.up (hn 122 (by decide)) (fun u x h => MR.mono hk h), s123.up (hn 123 (by decide)) (fun u x h => MR.mono hk h), s124.up (hn 124 (by decide)) (fun u x h => MR.mono hk h), s126.up (hn 126 (by decide)) (fun u x h => SR.mono hk h), s131.up (hn 131 (by decide)) (fun u x h => SR.mono hk h), s153.up (hn 153 (by decide)) (fun u x h => SR.mono hk h), s210.up (hn 210 (by decide)) (fun u x h => SR.mono hk h), hs⟩⟩
theorem mt222 : MapT Tryz.prog 222 KTy.str (KTy.int .i64) 0 := ⟨⟨_, _, _, _, _, ti222, rfl, ti9, keyT_str, (by kernel_rfl : zinfo Tryz.prog 3 = some (.int .i64 0)), fun B => kI⟩⟩
theorem fa33_0 (b o : Nat) : evFieldAddr Tryz.prog 33 (.ptr b o) 0 = some (.ptr b (o + 0)) := by simp only [evFieldAddr, ti33, ti4, Option.bind_some, List.getElem?_cons_zero, List.getElem?_cons_succ]; rfl
theorem fa33_1 (b o : Nat) : evFieldAddr Tryz.prog 33 (.ptr b o) 1 = some (.ptr b (o + 1)) := by simp only [evFieldAddr, ti33, ti31, Option.bind_some, List.getElem?_cons_zero, List.getElem?_cons_succ]; rfl
theorem fa33_2 (b o : Nat) : evFieldAddr Tryz.prog 33 (.ptr b o) 2 = some (.ptr b (o + 2)) := by simp only [evFieldAddr, ti33, ti4, Option.bind_some, List.getElem?_cons_zero, List.getElem?_cons_succ]; rfl
theorem fa53_0 (b o : Nat) : evFieldAddr Tryz.prog 53 (.ptr b o) 0 = some (.ptr b (o + 0)) := by simp only [evFieldAddr, ti53, ti49, Option.bind_some, List.getElem?_cons_zero, List.getElem?_cons_succ]; rfl
theorem fa53_1 (b o : Nat) : evFieldAddr Tryz.prog 53 (.ptr b o) 1 = some (.ptr b (o + 1)) := by simp only [evFieldAddr, ti53, ti3, Option.bind_some, List.getElem?_cons_zero, List.getElem?_cons_succ]; rfl
theorem fa53_2 (b o : Nat) : evFieldAddr Tryz.prog 53 (.ptr b o) 2 = some (.ptr b (o + 2)) := by simp only [evFieldAddr, ti53, ti3, Option.bind_some, List.getElem?_cons_zero, List.getElem?_cons_succ]; rfl
theorem fa53_3 (b o : Nat) : evFieldAddr Tryz.prog 53 (.ptr b o) 3 = some (.ptr b (o + 3)) := by simp only [evFieldAddr, ti53, ti51, Option.bind_some, List.getElem?_cons_zero, List.getElem?_cons_succ]; rfl
theorem fa53_4 (b o : Nat) : evFieldAddr Tryz.prog 53 (.ptr b o) 4 = some (.ptr b (o + 4)) := by simp only [evFieldAddr, ti53, ti9, Option.bind_some, List.getElem?_cons_zero, List.getElem?_cons_succ]; rfl
theorem fa60_0 (b o : Nat) : evFieldAddr Tryz.prog 60 (.ptr b o) 0 = some (.ptr b (o + 0)) := by simp only [evFieldAddr, ti60, ti9, Option.bind_some, List.getElem?_cons_zero, List.getElem?_cons_succ]; rfl
theorem fa126_0 (b o : Nat) : evFieldAddr Tryz.prog 126 (.ptr b o) 0 = some (.ptr b (o + 0)) := by simp only [evFieldAddr, ti126, ti122, Option.bind_some, List.getElem?_cons_zero, List.getElem?_cons_succ]; rfl
theorem fa126_1 (b o : Nat) : evFieldAddr Tryz.prog 126 (.ptr b o) 1 = some (.ptr b (o + 1)) := by simp only [evFieldAddr, ti126, ti123, Option.bind_some, List.getElem?_cons_zero, List.getElem?_cons_succ]; rfl
theorem fa126_2 (b o : Nat) : evFieldAddr Tryz.prog 126 (.ptr b o) 2 = some (.ptr b (o + 2)) := by simp only [evFieldAddr, ti126, ti124, Option.bind_some, List.getElem?_cons_zero, List.getElem?_cons_succ]; rfl
theorem fa131_0 (b o : Nat) : evFieldAddr Tryz.prog 131 (.ptr b o) 0 = some (.ptr b (o + 0)) := by simp only [evFieldAddr, ti131, ti53, Option.bind_some, List.getElem?_cons_zero, List.getElem?_cons_succ]; rfl
theorem fa131_1 (b o : Nat) : evFieldAddr Tryz.prog 131 (.ptr b o) 1 = some (.ptr b (o + 5)) := by simp only [evFieldAddr, ti131, ti128, Option.bind_some, List.getElem?_cons_zero, List.getElem?_cons_succ]; rfl
theorem fa131_2 (b o : Nat) : evFieldAddr Tryz.prog 131 (.ptr b o) 2 = some (.ptr b (o + 6)) := by simp only [evFieldAddr, ti131, ti3, Option.bind_some, List.getElem?_cons_zero, List.getElem?_cons_succ]; rfl
theorem fa131_3 (b o : Nat) : evFieldAddr Tryz.prog 131 (.ptr b o) 3 = some (.ptr b (o + 7)) := by simp only [evFieldAddr, ti131, ti3, Option.bind_some, List.getElem?_cons_zero, List.getElem?_cons_succ]; rfl
theorem fa153_0 (b o : Nat) : evFieldAddr Tryz.prog 153 (.ptr b o) 0 = some (.ptr b (o + 0)) := by simp only [evFieldAddr, ti153, ti23, Option.bind_some, List.getElem?_cons_zero, List.getElem?_cons_succ]; rfl
theorem fa153_1 (b o : Nat) : evFieldAddr Tryz.prog 153 (.ptr b o) 1 = some (.ptr b (o + 1)) := by simp only [evFieldAddr, ti153, ti3, Option.bind_some, List.getElem?_cons_zero, List.getElem?_cons_succ]; rfl
theorem fa153_2 (b o : Nat) : evFieldAddr Tryz.prog 153 (.ptr b o) 2 = some (.ptr b (o + 2)) := by simp only [evFieldAddr, ti153, ti31, Option.bind_some, List.getElem?_cons_zero, List.getElem?_cons_succ]; rfl
theorem fa153_3 (b o : Nat) : evFieldAddr Tryz.prog 153 (.ptr b o) 3 = some (.ptr b (o + 3)) := by simp only [evFieldAddr, ti153, ti4, Option.bind_some, List.getElem?_cons_zero, List.getElem?_cons_succ]; rfl
theorem fa153_4 (b o : Nat) : evFieldAddr Tryz.prog 153 (.ptr b o) 4 = some (.ptr b (o + 4)) := by simp only [evFieldAddr, ti153, ti3, Option.bind_some, List.getElem?_cons_zero, List.getElem?_cons_succ]; rfl
theorem fa163_0 (b o : Nat) : evFieldAddr Tryz.prog 163 (.ptr b o) 0 = some (.ptr b (o + 0)) := by simp only [evFieldAddr, ti163, ti3, Option.bind_some, List.getElem?_cons_zero, List.getElem?_cons_succ]; rfl
theorem fa163_1 (b o : Nat) : evFieldAddr Tryz.prog 163 (.ptr b o) 1 = some (.ptr b (o + 1)) := by simp only [evFieldAddr, ti163, ti3, Option.bind_some, List.getElem?_cons_zero, List.getElem?_cons_succ]; rfl
theorem fa166_0 (b o : Nat) : evFieldAddr Tryz.prog 166 (.ptr b o) 0 = some (.ptr b (o + 0)) := by simp only [evFieldAddr, ti166, ti3, Option.bind_some, List.getElem?_cons_zero, List.getElem?_cons_succ]; rfl
theorem fa166_1 (b o : Nat) : evFieldAddr Tryz.prog 166 (.ptr b o) 1 = some (.ptr b (o + 1)) := by simp only [evFieldAddr, ti166, ti9, Option.bind_some, List.getElem?_cons_zero, List.getElem?_cons_succ]; rfl
theorem fa210_0 (b o : Nat) : evFieldAddr Tryz.prog 210 (.ptr b o) 0 = some (.ptr b (o + 0)) := by simp only [evFieldAddr, ti210, ti207, Option.bind_some, List.getElem?_cons_zero, List.getElem?_cons_succ]; rfl
theorem fa210_1 (b o : Nat) : evFieldAddr Tryz.prog 210 (.ptr b o) 1 = some (.ptr b (o + 1)) := by simp only [evFieldAddr, ti210, ti3, Option.bind_some, List.getElem?_cons_zero, List.getElem?_cons_succ]; rfl
theorem bd33_n : evBuild Tryz.prog 33 [] = some (.agg [.bool false, .sl 0 0 0 0 0 true, .bool false]) := by
  simp only [evBuild, placesA, fillA, ti33, ti4, ti31, Option.bind_some, List.length_cons, List.length_nil, Nat.reduceAdd] <;> rfl
theorem bd33_0 {a0 : AV} {x0_0 : AV} (h0 : a0.cells = some [x0_0]) : evBuild Tryz.prog 33 [(0, a0)] = some (.agg [x0_0, .sl 0 0 0 0 0 true, .bool false]) := by
  simp only [evBuild, placesA, fillA, ti33, ti4, ti31, Option.bind_some, h0, List.length_cons, List.length_nil, Nat.reduceAdd] <;> rfl
theorem bd53_n : evBuild Tryz.prog 53 [] = some (.agg [.int .u8 0, .int .i64 0, .int .i64 0, .sl 0 0 0 0 0 true, .str []]) := by
  simp only [evBuild, placesA, fillA, ti53, ti49, ti3, ti51, ti9, Option.bind_some, List.length_cons, List.length_nil, Nat.reduceAdd] <;> rfl
theorem bd53_0 {a0 : AV} {x0_0 : AV} (h0 : a0.cells = some [x0_0]) : evBuild Tryz.prog 53 [(0, a0)] = some (.agg [x0_0, .int .i64 0, .int .i64 0, .sl 0 0 0 0 0 true, .str []]) := by
  simp only [evBuild, placesA, fillA, ti53, ti49, ti3, ti51, ti9, Option.bind_some, h0, List.length_cons, List.length_nil, Nat.reduceAdd] <;> rfl
theorem bd53_0_1 {a0 : AV} {a1 : AV} {x0_0 x1_0 : AV} (h0 : a0.cells = some [x0_0]) (h1 : a1.cells = some [x1_0]) : evBuild Tryz.prog 53 [(0, a0), (1, a1)] = some (.agg [x0_0, x1_0, .int .i64 0, .sl 0 0 0 0 0 true, .str []]) := by
  simp only [evBuild, placesA, fillA, ti53, ti49, ti3, ti51, ti9, Option.bind_some, h0, h1, List.length_cons, List.length_nil, Nat.reduceAdd] <;> rfl
theorem bd60_0_1 {a0 : AV} {a1 : AV} {x0_0 x1_0 : AV} (h0 : a0.cells = some [x0_0]) (h1 : a1.cells = some [x1_0]) : evBuild Tryz.prog 60 [(0, a0), (1, a1)] = some (.agg [x0_0, x1_0]) := by
  simp only [evBuild, placesA, fillA, ti60, ti9, ti3, Option.bind_some, h0, h1, List.length_cons, List.length_nil, Nat.reduceAdd] <;> rfl
theorem bd72_0_1 {a0 : AV} {a1 : AV} {x0_0 x1_0 : AV} (h0 : a0.cells = some [x0_0]) (h1 : a1.cells = some [x1_0]) : evBuild Tryz.prog 72 [(0, a0), (1, a1)] = some (.agg [x0_0, x1_0, .str []]) := by
  simp only [evBuild, placesA, fillA, ti72, ti3, ti9, Option.bind_some, h0, h1, List.length_cons, List.length_nil, Nat.reduceAdd] <;> rfl
theorem bd72_0_1_2 {a0 : AV} {a1 : AV} {a2 : AV} {x0_0 x1_0 x2_0 : AV} (h0 : a0.cells = some [x0_0]) (h1 : a1.cells = some [x1_0]) (h2 : a2.cells = some [x2_0]) : evBuild Tryz.prog 72 [(0, a0), (1, a1), (2, a2)] = some (.agg [x0_0, x1_0, x2_0]) := by
  simp only [evBuild, placesA, fillA, ti72, ti3, ti9, Option.bind_some, h0, h1, h2, List.length_cons, List.length_nil, Nat.reduceAdd] <;> rfl
theorem bd126_0_1_2 {a0 : AV} {a1 : AV} {a2 : AV} {x0_0 x1_0 x2_0 : AV} (h0 : a0.cells = some [x0_0]) (h1 : a1.cells = some [x1_0]) (h2 : a2.cells = some [x2_0]) : evBuild Tryz.prog 126 [(0, a0), (1, a1), (2, a2)] = some (.agg [x0_0, x1_0, x2_0]) := by
  simp only [evBuild, placesA, fillA, ti126, ti122, ti123, ti124, Option.bind_some, h0, h1, h2, List.length_cons, List.length_nil, Nat.reduceAdd] <;> rfl
theorem bd131_0_1_2 {a0 : AV} {a1 : AV} {a2 : AV} {x0_0 x0_1 x0_2 x0_3 x0_4 x1_0 x2_0 : AV} (h0 : a0.cells = some [x0_0, x0_1, x0_2, x0_3, x0_4]) (h1 : a1.cells = some [x1_0]) (h2 : a2.cells = some [x2_0]) : evBuild Tryz.prog 131 [(0, a0), (1, a1), (2, a2)] = some (.agg [x0_0, x0_1, x0_2, x0_3, x0_4, x1_0, x2_0, .int .i64 0]) := by
  simp only [evBuild, placesA, fillA, ti131, ti53, ti128, ti3, Option.bind_some, h0, h1, h2, List.length_cons, List.length_nil, Nat.reduceAdd] <;> rfl
theorem bd131_0_2 {a0 : AV} {a2 : AV} {x0_0 x0_1 x0_2 x0_3 x0_4 x2_0 : AV} (h0 : a0.cells = some [x0_0, x0_1, x0_2, x0_3, x0_4]) (h2 : a2.cells = some [x2_0]) : evBuild Tryz.prog 131 [(0, a0), (2, a2)] = some (.agg [x0_0, x0_1, x0_2, x0_3, x0_4, .nilptr, x2_0, .int .i64 0]) := by
  simp only [evBuild, placesA, fillA, ti131, ti53, ti128, ti3, Option.bind_some, h0, h2, List.length_cons, List.length_nil, Nat.reduceAdd] <;> rfl
theorem bd153_0_1_2_3 {a0 : AV} {a1 : AV} {a2 : AV} {a3 : AV} {x0_0 x1_0 x2_0 x3_0 : AV} (h0 : a0.cells = some [x0_0]) (h1 : a1.cells = some [x1_0]) (h2 : a2.cells = some [x2_0]) (h3 : a3.cells = some [x3_0]) : evBuild Tryz.prog 153 [(0, a0), (1, a1), (2, a2), (3, a3)] = some (.agg [x0_0, x1_0, x2_0, x3_0, .int .i64 0]) := by
  simp only [evBuild, placesA, fillA, ti153, ti23, ti3, ti31, ti4, Option.bind_some, h0, h1, h2, h3, List.length_cons, List.length_nil, Nat.reduceAdd] <;> rfl
theorem bd163_0_1 {a0 : AV} {a1 : AV} {x0_0 x1_0 : AV} (h0 : a0.cells = some [x0_0]) (h1 : a1.cells = some [x1_0]) : evBuild Tryz.prog 163 [(0, a0), (1, a1)] = some (.agg [x0_0, x1_0]) := by
  simp only [evBuild, placesA, fillA, ti163, ti3, Option.bind_some, h0, h1, List.length_cons, List.length_nil, Nat.reduceAdd] <;> rfl
theorem bd166_0_1 {a0 : AV} {a1 : AV} {x0_0 x1_0 : AV} (h0 : a0.cells = some [x0_0]) (h1 : a1.cells = some [x1_0]) : evBuild Tryz.prog 166 [(0, a0), (1, a1)] = some (.agg [x0_0, x1_0]) := by
  simp only [evBuild, placesA, fillA, ti166, ti3, ti9, Option.bind_some, h0, h1, List.length_cons, List.length_nil, Nat.reduceAdd] <;> rfl
theorem bd210_0 {a0 : AV} {x0_0 : AV} (h0 : a0.cells = some [x0_0]) : evBuild Tryz.prog 210 [(0, a0)] = some (.agg [x0_0, .int .i64 0]) := by
  simp only [evBuild, placesA, fillA, ti210, ti207, ti3, Option.bind_some, h0, List.length_cons, List.length_nil, Nat.reduceAdd] <;> rfl
end Gab
end
section
set_option linter.unusedSimpArgs false
set_option linter.unusedVariables false
set_option maxHeartbeats 4000000
set_option maxRecDepth 100000
namespace Gab
open Go Go.Proofs
def cmp_isNaN_string_P (B : Kn) (L : Own) (r : Bool) : AV → St → Prop := CS B L fun v => v = .bool r
theorem cmp_isNaN_string_ok {B0 : Kn} {L : Own} {a0 : List UInt8} {r : Bool} (h : cmp_isNaN_string a0 = some r) : ∀ st, Hp B0 L st → ASpec Tryz.prog 133 [.str a0] st (cmp_isNaN_string_P B0 L r) := by
  unfold cmp_isNaN_string at h
  refine bodyA (A := []) Tryz.func133 rfl (c := bodyOf Tryz.f133) rfl Tryz.ntmps133 (lb rfl) fun n0 => ?_
  have hB := KLe.refl B0
  refine WX.seq ?_
  refine WX.reg ?_
  refine WO.q (.as (v := .bool _) rfl) rfl rfl ?_
  refine WO.nil ?_
  refine WX.seq ?_
  refine WX.reg ?_
  refine WO.q (.mv (v := .str _) rfl) rfl rfl ?_
  refine WO.q (.mv (v := .str _) rfl) rfl rfl ?_
  refine WO.q (.r fun _ => rfl) rfl rfl ?_
  refine WO.q (.as (v := .bool _) rfl) rfl rfl ?_
  refine WO.nil ?_
  obtain rfl := Option.some.inj h
  exact WX.ret (rs_ (rs_tmp rfl rs_nil)) fun st hp => ⟨(hp.pk [] (by decide)).le hB, rfl⟩
def cmp_Compare_string_P (B : Kn) (L : Own) (r : Int) : AV → St → Prop := CS B L fun v => v = .int .i64 r
theorem cmp_Compare_string_ok {B0 : Kn} {L : Own} {a0 : List UInt8} {a1 : List UInt8} {r : Int} (h : cmp_Compare_string a0 a1 = some r) : ∀ st, Hp B0 L st → ASpec Tryz.prog 78 [.str a0, .str a1] st (cmp_Compare_string_P B0 L r) := by
  unfold cmp_Compare_string at h
  refine bodyA (A := []) Tryz.func78 rfl (c := bodyOf Tryz.f78) rfl Tryz.ntmps78 (lb rfl) fun n0 => ?_
  have hB := KLe.refl B0
  refine WX.seq ?_
  refine WX.reg ?_
  refine WO.q (.as (v := .int _ _) rfl) rfl rfl ?_
  refine WO.nil ?_
  refine WX.seq ?_
  refine WX.reg ?_
  refine WO.q (.mv (v := .str _) rfl) rfl rfl ?_
  obtain ⟨y1, hy1, h⟩ := Option.bind_eq_some_iff.1 h
  refine WO.cS rfl rfl (cmp_isNaN_string_ok hy1) rfl rfl rfl ?_
  rintro _ rfl
  refine WO.q (.as (v := .bool _) rfl) rfl rfl ?_
  refine WO.nil ?_
  refine WX.seq ?_
  refine WX.reg ?_
  refine WO.q (.mv (v := .str _) rfl) rfl rfl ?_
  obtain ⟨y2, hy2, h⟩ := Option.bind_eq_some_iff.1 h
  refine WO.cS rfl rfl (cmp_isNaN_string_ok hy2) rfl rfl rfl ?_
  rintro _ rfl
  refine WO.q (.as (v := .bool _) rfl) rfl rfl ?_
  refine WO.nil ?_
  refine WX.seq ?_
  refine WX.seq ?_
  refine WX.reg ?_
  refine WO.q (.mv (v := .bool _) rfl) rfl rfl ?_
  refine WO.nil ?_
  rcases bsp y1 with k3 | k3
  replace h := (if_pos k3).symm.trans h
  refine WX.condT rfl k3 ?_
  refine WX.seq ?_
  refine WX.seq ?_
  refine WX.reg ?_
  refine WO.q (.mv (v := .bool _) rfl) rfl rfl ?_
  refine WO.nil ?_
  rcases bsp y2 with k4 | k4
  replace h := (if_pos k4).symm.trans h
  refine WX.condT rfl k4 ?_
  refine WX.seq ?_
  refine WX.reg ?_
  refine WO.q (.as (v := .int _ _) rfl) rfl rfl ?_
  refine WO.nil ?_
  obtain rfl := Option.some.inj h
  exact WX.ret (rs_ (rs_tmp rfl rs_nil)) fun st hp => ⟨(hp.pk [] (by decide)).le hB, rfl⟩
  replace h := (if_neg (bnt k4)).symm.trans h
  refine WX.condF rfl k4 ?_
  refine WX.skip ?_
  refine WX.seq ?_
  refine WX.reg ?_
  refine WO.q (.as (v := .int _ _) rfl) rfl rfl ?_
  refine WO.nil ?_
  obtain rfl := Option.some.inj h
  exact WX.ret (rs_ (rs_tmp rfl rs_nil)) fun st hp => ⟨(hp.pk [] (by decide)).le hB, rfl⟩
  replace h := (if_neg (bnt k3)).symm.trans h
  refine WX.condF rfl k3 ?_
  refine WX.skip ?_
  refine WX.seq ?_
  refine WX.seq ?_
  refine WX.reg ?_
  refine WO.q (.mv (v := .bool _) rfl) rfl rfl ?_
  refine WO.nil ?_
  rcases bsp y2 with k5 | k5
  replace h := (if_pos k5).symm.trans h
  refine WX.condT rfl k5 ?_
  refine WX.seq ?_
  refine WX.reg ?_
  refine WO.q (.as (v := .int _ _) rfl) rfl rfl ?_
  refine WO.nil ?_
  obtain rfl := Option.some.inj h
  exact WX.ret (rs_ (rs_tmp rfl rs_nil)) fun st hp => ⟨(hp.pk [] (by decide)).le hB, rfl⟩
  replace h := (if_neg (bnt k5)).symm.trans h
  refine WX.condF rfl k5 ?_
  refine WX.skip ?_
  refine WX.seq ?_
  refine WX.seq ?_
  refine WX.reg ?_
  refine WO.q (.mv (v := .str _) rfl) rfl rfl ?_
  refine WO.q (.mv (v := .str _) rfl) rfl rfl ?_
  refine WO.q (.r fun _ => rfl) rfl rfl ?_
  refine WO.nil ?_
  rcases bsp (Op.bytesLess a0 a1) with k6 | k6
  replace h := (if_pos k6).symm.trans h
  refine WX.condT rfl k6 ?_
  refine WX.seq ?_
  refine WX.reg ?_
  refine WO.q (.as (v := .int _ _) rfl) rfl rfl ?_
  refine WO.nil ?_
  obtain rfl := Option.some.inj h
  exact WX.ret (rs_ (rs_tmp rfl rs_nil)) fun st hp => ⟨(hp.pk [] (by decide)).le hB, rfl⟩
  replace h := (if_neg (bnt k6)).symm.trans h
  refine WX.condF rfl k6 ?_
  refine WX.skip ?_
  refine WX.seq ?_
  refine WX.seq ?_
  refine WX.reg ?_
  refine WO.q (.mv (v := .str _) rfl) rfl rfl ?_
  refine WO.q (.mv (v := .str _) rfl) rfl rfl ?_
  refine WO.q (.r fun _ => rfl) rfl rfl ?_
  refine WO.nil ?_
  rcases bsp ((Op.bytesLess a0 a1) || decide (a0 = a1)) with k7 | k7
  replace h := (if_pos k7).symm.trans h
  refine WX.condF rfl (f_not k7) ?_
  refine WX.skip ?_
  refine WX.seq ?_
  refine WX.reg ?_
  refine WO.q (.as (v := .int _ _) rfl) rfl rfl ?_
  refine WO.nil ?_
  obtain rfl := Option.some.inj h
  exact WX.ret (rs_ (rs_tmp rfl rs_nil)) fun st hp => ⟨(hp.pk [] (by decide)).le hB, rfl⟩
  replace h := (if_neg (bnt k7)).symm.trans h
  refine WX.condT rfl (t_not k7) ?_
  refine WX.seq ?_
  refine WX.reg ?_
  refine WO.q (.as (v := .int _ _) rfl) rfl rfl ?_
  refine WO.nil ?_
  obtain rfl := Option.some.inj h
  exact WX.ret (rs_ (rs_tmp rfl rs_nil)) fun st hp => ⟨(hp.pk [] (by decide)).le hB, rfl⟩
def dir_Dir_List_1_P (B : Kn) (L : Own) (r : Int) : AV → St → Prop := CS B L fun v => v = .int .i64 r
theorem dir_Dir_List_1_ok {B0 : Kn} {L : Own} {a0 : (List UInt8) × Int} {a1 : (List UInt8) × Int} {r : Int} (h : dir_Dir_List_1 a0 a1 = some r) : ∀ st, Hp B0 L st → ASpec Tryz.prog 129 [.agg [.str a0.1, .int .i64 a0.2], .agg [.str a1.1, .int .i64 a1.2]] st (dir_Dir_List_1_P B0 L r) := by
  unfold dir_Dir_List_1 at h
  refine bodyA (A := []) Tryz.func129 rfl (c := bodyOf Tryz.f129) rfl Tryz.ntmps129 (lb rfl) fun n0 => ?_
  have hB := KLe.refl B0
  refine WX.seq ?_
  refine WX.reg ?_
  refine WO.md (MOp.box (cA rfl)) rfl rfl ?_
  rintro _ _ ⟨b1, rfl, rfl⟩
  refine WO.md (MOp.box (cA rfl)) rfl rfl ?_
  rintro _ _ ⟨b2, rfl, rfl⟩
  refine WO.q (.as (v := .int _ _) rfl) rfl rfl ?_
  refine WO.nil ?_
  refine WX.seq ?_
  refine WX.reg ?_
  refine WO.q (.fa (fa60_0 _ _)) rfl rfl ?_
  refine WO.q (.ldS (i := 1) rfl rfl rfl ti9 rfl) rfl rfl ?_
  refine WO.q (.fa (fa60_0 _ _)) rfl rfl ?_
  refine WO.q (.ldS (i := 0) rfl rfl rfl ti9 rfl) rfl rfl ?_
  obtain ⟨y3, hy3, h⟩ := Option.bind_eq_some_iff.1 h
  refine WO.cS rfl rfl (cmp_Compare_string_ok hy3) rfl rfl rfl ?_
  rintro _ rfl
  refine WO.q (.as (v := .int _ _) rfl) rfl rfl ?_
  refine WO.nil ?_
  obtain rfl := Option.some.inj h
  exact WX.ret (rs_ (rs_tmp rfl rs_nil)) fun st hp => ⟨(hp.pk [] (by decide)).le hB, rfl⟩
def crc_Sum16_P (B : Kn) (L : Own) (r : Int) : AV → St → Prop := CS B L fun v => v = .int .u16 r
def crc_Sum16_j13_I (B0 : Kn) (x0 : List UInt8) (x3 : Int) (x8 : Int) (x18 : Int) : Fr → Kn → Own → Prop := fun fr B A => KLe B0 B ∧ fr = [(0, .str x0), (3, .int .u16 x3), (7, .int .i64 (x0.length : Int)), (8, .int .i64 x8), (18, .int .i64 x18)] ∧ A = []
def crc_Sum16_l1_I (B0 : Kn) (x0 : List UInt8) (x3 : Int) (x8 : Int) (x18 : Int) : Fr → Kn → Own → Prop := fun fr B A => KLe B0 B ∧ fr = [(0, .str x0), (3, .int .u16 x3), (7, .int .i64 (x0.length : Int)), (8, .int .i64 x8), (18, .int .i64 x18)] ∧ A = []
def crc_Sum16_l1_X0 (B0 : Kn) (x0 : List UInt8) (x3 : Int) (x8 : Int) : Fr → Kn → Own → Prop := fun fr B A => KLe B0 B ∧ fr = [(0, .str x0), (3, .int .u16 x3), (7, .int .i64 (x0.length : Int)), (8, .int .i64 x8)] ∧ A = []
def crc_Sum16_l0_I (B0 : Kn) (x0 : List UInt8) (x3 : Int) (x8 : Int) : Fr → Kn → Own → Prop := fun fr B A => KLe B0 B ∧ fr = [(0, .str x0), (3, .int .u16 x3), (7, .int .i64 (x0.length : Int)), (8, .int .i64 x8)] ∧ A = []
def crc_Sum16_l0_X0 (B0 : Kn) (x3 : Int) : Fr → Kn → Own → Prop := fun fr B A => KLe B0 B ∧ fr = [(3, .int .u16 x3)] ∧ A = []
theorem crc_Sum16_j13_ok {B0 : Kn} {L : Own} {n0 : Nat} {x0 : List UInt8} {x3 : Int} {x8 : Int} {x18 : Int} {Q : AV → St → Prop} {E : (Int × Int × Int) ⊕ (Int × Int) → Prop} {o : (Int × Int × Int) ⊕ (Int × Int)} (h : crc_Sum16_j13 x0 x3 x8 x18 = some o) (hn : ∀ s, E (.inl s) → WXI Tryz.prog 31 n0 (Fin Tryz.prog Tryz.f163.results.toList n0 Q) [.lp (ct [1, 1, 0, 1, 0, 0, 1, 1, 0, 0, 1, 1, 1, 0, 0] (bodyOf Tryz.f163)), .blk 2, .blk 1, .code (ct [1, 1, 0, 1, 0, 0, 1, 1, 1] (bodyOf Tryz.f163)), .lp (ct [1, 1, 0, 1, 0, 0] (bodyOf Tryz.f163)), .blk 0, .code (ct [1, 1, 1] (bodyOf Tryz.f163))] (crc_Sum16_l1_I B0 x0 s.1 s.2.1 s.2.2) L) (hx0 : ∀ s, E (.inr s) → WXI Tryz.prog 31 n0 (Fin Tryz.prog Tryz.f163.results.toList n0 Q) [.code (ct [1, 1, 0, 1, 0, 0, 1, 1, 1] (bodyOf Tryz.f163)), .lp (ct [1, 1, 0, 1, 0, 0] (bodyOf Tryz.f163)), .blk 0, .code (ct [1, 1, 1] (bodyOf Tryz.f163))] (crc_Sum16_l1_X0 B0 x0 s.1 s.2) L) (hE : E o) : WXI Tryz.prog 31 n0 (Fin Tryz.prog Tryz.f163.results.toList n0 Q) [.code (ct [1, 1, 0, 1, 0, 0, 1, 1, 0, 0, 1, 1, 1, 0, 0, 1, 1, 1] (bodyOf Tryz.f163)), .lp (ct [1, 1, 0, 1, 0, 0, 1, 1, 0, 0, 1, 1, 1, 0, 0] (bodyOf Tryz.f163)), .blk 2, .blk 1, .code (ct [1, 1, 0, 1, 0, 0, 1, 1, 1] (bodyOf Tryz.f163)), .lp (ct [1, 1, 0, 1, 0, 0] (bodyOf Tryz.f163)), .blk 0, .code (ct [1, 1, 1] (bodyOf Tryz.f163))] (crc_Sum16_j13_I B0 x0 x3 x8 x18) L := by
  unfold crc_Sum16_j13 at h
  rintro _ B _ ⟨hB, rfl, rfl⟩
  refine WX.reg ?_
  refine WO.q (.r fun _ => rfl) rfl rfl ?_
  refine WO.q (.mv (v := .int _ _) rfl) rfl rfl ?_
  refine WO.nil ?_
  refine WX.keepL [0, 3, 7, 8, 18] (WX.pk [] (by decide) ?_) rfl
  obtain rfl := Option.some.inj h
  exact hn _ hE _ _ _ ⟨hB, rfl, rfl⟩
theorem crc_Sum16_l1_s {B0 : Kn} {L : Own} {n0 : Nat} {x0 : List UInt8} {x3 : Int} {x8 : Int} {x18 : Int} {Q : AV → St → Prop} {E : (Int × Int × Int) ⊕ (Int × Int) → Prop} {o : (Int × Int × Int) ⊕ (Int × Int)} (h : crc_Sum16_l1 x0 x3 x8 x18 = some o) (hn : ∀ s, E (.inl s) → WXI Tryz.prog 31 n0 (Fin Tryz.prog Tryz.f163.results.toList n0 Q) [.lp (ct [1, 1, 0, 1, 0, 0, 1, 1, 0, 0, 1, 1, 1, 0, 0] (bodyOf Tryz.f163)), .blk 2, .blk 1, .code (ct [1, 1, 0, 1, 0, 0, 1, 1, 1] (bodyOf Tryz.f163)), .lp (ct [1, 1, 0, 1, 0, 0] (bodyOf Tryz.f163)), .blk 0, .code (ct [1, 1, 1] (bodyOf Tryz.f163))] (crc_Sum16_l1_I B0 x0 s.1 s.2.1 s.2.2) L) (hx0 : ∀ s, E (.inr s) → WXI Tryz.prog 31 n0 (Fin Tryz.prog Tryz.f163.results.toList n0 Q) [.code (ct [1, 1, 0, 1, 0, 0, 1, 1, 1] (bodyOf Tryz.f163)), .lp (ct [1, 1, 0, 1, 0, 0] (bodyOf Tryz.f163)), .blk 0, .code (ct [1, 1, 1] (bodyOf Tryz.f163))] (crc_Sum16_l1_X0 B0 x0 s.1 s.2) L) (hE : E o) : WXI Tryz.prog 31 n0 (Fin Tryz.prog Tryz.f163.results.toList n0 Q) [.code (ct [1, 1, 0, 1, 0, 0, 1, 1, 0, 0, 1, 1, 1, 0, 0] (bodyOf Tryz.f163)), .lp (ct [1, 1, 0, 1, 0, 0, 1, 1, 0, 0, 1, 1, 1, 0, 0] (bodyOf Tryz.f163)), .blk 2, .blk 1, .code (ct [1, 1, 0, 1, 0, 0, 1, 1, 1] (bodyOf Tryz.f163)), .lp (ct [1, 1, 0, 1, 0, 0] (bodyOf Tryz.f163)), .blk 0, .code (ct [1, 1, 1] (bodyOf Tryz.f163))] (crc_Sum16_l1_I B0 x0 x3 x8 x18) L := by
  unfold crc_Sum16_l1 at h
  rintro _ B _ ⟨hB, rfl, rfl⟩
  refine WX.seq ?_
  refine WX.reg ?_
  refine WO.q (.r fun _ => rfl) rfl rfl ?_
  refine WO.nil ?_
  refine WX.seq ?_
  rcases bsp (decide (x18 < 8)) with k3 | k3
  have q_k3 := of_decide_eq_true k3
  replace h := (if_pos q_k3).symm.trans h
  refine WX.condT rfl k3 ?_
  refine WX.skip ?_
  refine WX.seq ?_
  refine WX.block ?_
  refine WX.seq ?_
  refine WX.reg ?_
  refine WO.q (.mv (v := .int _ _) rfl) rfl rfl ?_
  refine WO.q (.r fun _ => rfl) rfl rfl ?_
  refine WO.q (.as (v := .int _ _) rfl) rfl rfl ?_
  refine WO.nil ?_
  refine WX.seq ?_
  refine WX.reg ?_
  refine WO.q (.mv (v := .int _ _) rfl) rfl rfl ?_
  refine WO.q (.r fun _ => rfl) rfl rfl ?_
  refine WO.q (.as (v := .int _ _) rfl) rfl rfl ?_
  refine WO.nil ?_
  refine WX.seq ?_
  refine WX.reg ?_
  refine WO.q (.mv (v := .int _ _) rfl) rfl rfl ?_
  refine WO.q (.r fun _ => rfl) rfl rfl ?_
  refine WO.nil ?_
  rcases bsp (decide ((bitsA .and .u16 x3 32768) ≠ 0)) with k4 | k4
  have q_k4 := of_decide_eq_true k4
  replace h := (if_pos q_k4).symm.trans h
  refine WX.condT rfl k4 ?_
  refine WX.reg ?_
  refine WO.q (.mv (v := .int _ _) rfl) rfl rfl ?_
  refine WO.q (.r fun _ => rfl) rfl rfl ?_
  refine WO.q (.as (v := .int _ _) rfl) rfl rfl ?_
  refine WO.nil ?_
  refine WX.pop ?_
  refine WX.keep [0, 3, 7, 8, 18] (WX.pk [] (by decide) ?_) rfl
  exact crc_Sum16_j13_ok h hn hx0 hE _ _ _ ⟨hB, rfl, rfl⟩
  have q_k4 := of_decide_eq_false k4
  replace h := (if_neg q_k4).symm.trans h
  refine WX.condF rfl k4 ?_
  refine WX.skip ?_
  refine WX.pop ?_
  refine WX.keep [0, 3, 7, 8, 18] (WX.pk [] (by decide) ?_) rfl
  exact crc_Sum16_j13_ok h hn hx0 hE _ _ _ ⟨hB, rfl, rfl⟩
  have q_k3 := of_decide_eq_false k3
  replace h := (if_neg q_k3).symm.trans h
  refine WX.condF rfl k3 ?_
  refine WX.exit rfl ?_
  refine WX.pop ?_
  refine WX.keep [0, 3, 7, 8] (WX.pk [] (by decide) ?_) rfl
  obtain rfl := Option.some.inj h
  exact hx0 _ hE _ _ _ ⟨hB, rfl, rfl⟩
theorem crc_Sum16_l1_ok {B0 : Kn} {L : Own} {n0 : Nat} {x0 : List UInt8} {x3 : Int} {x8 : Int} {x18 : Int} {Q : AV → St → Prop} {d : Nat} {e : (Int × Int)} (h : iter (fun (s : Int × Int × Int) => crc_Sum16_l1 x0 s.1 s.2.1 s.2.2) d (x3, x8, x18) = some e) (g0 : ∀ s, e = s → WXI Tryz.prog 31 n0 (Fin Tryz.prog Tryz.f163.results.toList n0 Q) [.code (ct [1, 1, 0, 1, 0, 0, 1, 1, 1] (bodyOf Tryz.f163)), .lp (ct [1, 1, 0, 1, 0, 0] (bodyOf Tryz.f163)), .blk 0, .code (ct [1, 1, 1] (bodyOf Tryz.f163))] (crc_Sum16_l1_X0 B0 x0 s.1 s.2) L) : WXI Tryz.prog 31 n0 (Fin Tryz.prog Tryz.f163.results.toList n0 Q) [.code (ct [1, 1, 0, 1, 0, 0, 1, 1, 0, 0, 1, 1, 1, 0, 0] (bodyOf Tryz.f163)), .lp (ct [1, 1, 0, 1, 0, 0, 1, 1, 0, 0, 1, 1, 1, 0, 0] (bodyOf Tryz.f163)), .blk 2, .blk 1, .code (ct [1, 1, 0, 1, 0, 0, 1, 1, 1] (bodyOf Tryz.f163)), .lp (ct [1, 1, 0, 1, 0, 0] (bodyOf Tryz.f163)), .blk 0, .code (ct [1, 1, 1] (bodyOf Tryz.f163))] (crc_Sum16_l1_I B0 x0 x3 x8 x18) L :=
  iter_ok (I := fun s => crc_Sum16_l1_I B0 x0 s.1 s.2.1 s.2.2) (D := fun e => (∀ s, e = s → WXI Tryz.prog 31 n0 (Fin Tryz.prog Tryz.f163.results.toList n0 Q) [.code (ct [1, 1, 0, 1, 0, 0, 1, 1, 1] (bodyOf Tryz.f163)), .lp (ct [1, 1, 0, 1, 0, 0] (bodyOf Tryz.f163)), .blk 0, .code (ct [1, 1, 1] (bodyOf Tryz.f163))] (crc_Sum16_l1_X0 B0 x0 s.1 s.2) L)) (fun E hn hx s o ho hE => crc_Sum16_l1_s (x3 := s.1) (x8 := s.2.1) (x18 := s.2.2) ho hn (fun s hs => (hx _ hs) _ rfl)  hE) h g0
theorem crc_Sum16_l0_s {B0 : Kn} {L : Own} {n0 : Nat} {x0 : List UInt8} {x3 : Int} {x8 : Int} {Q : AV → St → Prop} {E : (Int × Int) ⊕ Int → Prop} {o : (Int × Int) ⊕ Int} (h : crc_Sum16_l0 x0 x3 x8 = some o) (hn : ∀ s, E (.inl s) → WXI Tryz.prog 31 n0 (Fin Tryz.prog Tryz.f163.results.toList n0 Q) [.lp (ct [1, 1, 0, 1, 0, 0] (bodyOf Tryz.f163)), .blk 0, .code (ct [1, 1, 1] (bodyOf Tryz.f163))] (crc_Sum16_l0_I B0 x0 s.1 s.2) L) (hx0 : ∀ s, E (.inr s) → WXI Tryz.prog 31 n0 (Fin Tryz.prog Tryz.f163.results.toList n0 Q) [.code (ct [1, 1, 1] (bodyOf Tryz.f163))] (crc_Sum16_l0_X0 B0 s) L) (hE : E o) : WXI Tryz.prog 31 n0 (Fin Tryz.prog Tryz.f163.results.toList n0 Q) [.code (ct [1, 1, 0, 1, 0, 0] (bodyOf Tryz.f163)), .lp (ct [1, 1, 0, 1, 0, 0] (bodyOf Tryz.f163)), .blk 0, .code (ct [1, 1, 1] (bodyOf Tryz.f163))] (crc_Sum16_l0_I B0 x0 x3 x8) L := by
  unfold crc_Sum16_l0 at h
  rintro _ B _ ⟨hB, rfl, rfl⟩
  refine WX.seq ?_
  refine WX.reg ?_
  refine WO.q (.r fun _ => rfl) rfl rfl ?_
  refine WO.nil ?_
  refine WX.seq ?_
  rcases bsp (decide (x8 < (x0.length : Int))) with k1 | k1
  have q_k1 := of_decide_eq_true k1
  replace h := (if_pos q_k1).symm.trans h
  refine WX.condT rfl k1 ?_
  refine WX.skip ?_
  refine WX.seq ?_
  refine WX.block ?_
  refine WX.seq ?_
  refine WX.reg ?_
  refine WO.q (.mv (v := .int _ _) rfl) rfl rfl ?_
  refine WO.q (.as (v := .int _ _) rfl) rfl rfl ?_
  refine WO.nil ?_
  refine WX.seq ?_
  refine WX.reg ?_
  refine WO.q (.mv (v := .int _ _) rfl) rfl rfl ?_
  refine WO.q (.mv (v := .str _) rfl) rfl rfl ?_
  refine WO.q (.mv (v := .int _ _) rfl) rfl rfl ?_
  obtain ⟨y2, hy2, h⟩ := Option.bind_eq_some_iff.1 h
  refine WO.q (.ix (evsix ti9 rfl hy2 _)) rfl rfl ?_
  refine WO.q (cvI ti5 ti249 rfl rfl) rfl rfl ?_
  refine WO.q (.r fun _ => rfl) rfl rfl ?_
  refine WO.q (.r fun _ => rfl) rfl rfl ?_
  refine WO.q (.as (v := .int _ _) rfl) rfl rfl ?_
  refine WO.nil ?_
  refine WX.seq ?_
  refine WX.reg ?_
  refine WO.q (.mv (v := .int _ _) rfl) rfl rfl ?_
  refine WO.nil ?_
  refine WX.block ?_
  refine WX.loop ?_
  obtain ⟨e5, he5, h⟩ := Option.bind_eq_some_iff.1 h
  refine WX.keep [0, 3, 7, 8, 18] (WX.pk [] (by decide) ?_) rfl
  refine crc_Sum16_l1_ok he5 ?_ _ _ _ ⟨hB, rfl, rfl⟩
  intro s6 he_
  subst he_
  replace h := h
  rintro _ B _ ⟨hB, rfl, rfl⟩
  refine WX.reg ?_
  refine WO.q (.r fun _ => rfl) rfl rfl ?_
  refine WO.q (.mv (v := .int _ _) rfl) rfl rfl ?_
  refine WO.nil ?_
  refine WX.keepL [0, 3, 7, 8] (WX.pk [] (by decide) ?_) rfl
  obtain rfl := Option.some.inj h
  exact hn _ hE _ _ _ ⟨hB, rfl, rfl⟩
  have q_k1 := of_decide_eq_false k1
  replace h := (if_neg q_k1).symm.trans h
  refine WX.condF rfl k1 ?_
  refine WX.exit rfl ?_
  refine WX.keep [3] (WX.pk [] (by decide) ?_) rfl
  obtain rfl := Option.some.inj h
  exact hx0 _ hE _ _ _ ⟨hB, rfl, rfl⟩
theorem crc_Sum16_l0_ok {B0 : Kn} {L : Own} {n0 : Nat} {x0 : List UInt8} {x3 : Int} {x8 : Int} {Q : AV → St → Prop} {d : Nat} {e : Int} (h : iter (fun (s : Int × Int) => crc_Sum16_l0 x0 s.1 s.2) d (x3, x8) = some e) (g0 : ∀ s, e = s → WXI Tryz.prog 31 n0 (Fin Tryz.prog Tryz.f163.results.toList n0 Q) [.code (ct [1, 1, 1] (bodyOf Tryz.f163))] (crc_Sum16_l0_X0 B0 s) L) : WXI Tryz.prog 31 n0 (Fin Tryz.prog Tryz.f163.results.toList n0 Q) [.code (ct [1, 1, 0, 1, 0, 0] (bodyOf Tryz.f163)), .lp (ct [1, 1, 0, 1, 0, 0] (bodyOf Tryz.f163)), .blk 0, .code (ct [1, 1, 1] (bodyOf Tryz.f163))] (crc_Sum16_l0_I B0 x0 x3 x8) L :=
  iter_ok (I := fun s => crc_Sum16_l0_I B0 x0 s.1 s.2) (D := fun e => (∀ s, e = s → WXI Tryz.prog 31 n0 (Fin Tryz.prog Tryz.f163.results.toList n0 Q) [.code (ct [1, 1, 1] (bodyOf Tryz.f163))] (crc_Sum16_l0_X0 B0 s) L)) (fun E hn hx s o ho hE => crc_Sum16_l0_s (x3 := s.1) (x8 := s.2) ho hn (fun s hs => (hx _ hs) _ rfl)  hE) h g0
theorem crc_Sum16_ok {B0 : Kn} {L : Own} {a0 : List UInt8} {r : Int} (h : crc_Sum16 a0 = some r) : ∀ st, Hp B0 L st → ASpec Tryz.prog 163 [.str a0] st (crc_Sum16_P B0 L r) := by
  unfold crc_Sum16 at h
  refine bodyA (A := []) Tryz.func163 rfl (c := bodyOf Tryz.f163) rfl Tryz.ntmps163 (lb rfl) fun n0 => ?_
  have hB := KLe.refl B0
  refine WX.seq ?_
  refine WX.reg ?_
  refine WO.q (.as (v := .int _ _) rfl) rfl rfl ?_
  refine WO.nil ?_
  refine WX.seq ?_
  refine WX.reg ?_
  refine WO.q (.as (v := .int _ _) rfl) rfl rfl ?_
  refine WO.nil ?_
  refine WX.seq ?_
  refine WX.seq ?_
  refine WX.reg ?_
  refine WO.q (.mv (v := .str _) rfl) rfl rfl ?_
  refine WO.q (.len rfl rfl rfl (evslen ti9 rfl _)) rfl rfl ?_
  refine WO.q (.mv (v := .int _ _) rfl) rfl rfl ?_
  refine WO.nil ?_
  refine WX.block ?_
  refine WX.loop ?_
  obtain ⟨e7, he7, h⟩ := Option.bind_eq_some_iff.1 h
  refine WX.keep [0, 3, 7, 8] (WX.pk [] (by decide) ?_) rfl
  refine crc_Sum16_l0_ok he7 ?_ _ _ _ ⟨hB, rfl, rfl⟩
  intro s8 he_
  subst he_
  replace h := h
  rintro _ B _ ⟨hB, rfl, rfl⟩
  refine WX.seq ?_
  refine WX.reg ?_
  refine WO.q (.mv (v := .int _ _) rfl) rfl rfl ?_
  refine WO.q (.as (v := .int _ _) rfl) rfl rfl ?_
  refine WO.nil ?_
  obtain rfl := Option.some.inj h
  exact WX.ret (rs_ (rs_tmp rfl rs_nil)) fun st hp => ⟨(hp.pk [] (by decide)).le hB, rfl⟩
def dir_Dir_bucket_P (B : Kn) (L : Own) (r : Nat) : AV → St → Prop := C0 B L fun B' v => ∃ wp0, v = wp0 ∧ HMt B' 222 wp0 r
theorem dir_Dir_bucket_ok {B0 : Kn} {L : Own} {H : Heap} {Eh : Own} (hH : HR B0 H Eh) {a0 : Nat} {a1 : List UInt8} {v0_0 : AV} (g0_0 : HPt B0 210 v0_0 a0) {r : Nat} (h : dir_Dir_bucket H a0 a1 = some r) : ∀ st, Hp B0 (Eh ++ L) st → ASpec Tryz.prog 140 [v0_0, .str a1] st (dir_Dir_bucket_P B0 (Eh ++ L) r) := by
  unfold dir_Dir_bucket at h
  refine bodyA (A := []) (L := Eh ++ L) Tryz.func140 rfl (c := bodyOf Tryz.f140) rfl Tryz.ntmps140 (lb rfl) fun n0 => ?_
  have hB := KLe.refl B0
  have hH0 := hH
  refine WX.seq ?_
  refine WX.reg ?_
  refine WO.q (.as (v := .nilmap) rfl) rfl rfl ?_
  refine WO.nil ?_
  refine WX.seq ?_
  refine WX.drw (Plan.of [0, 1, 2, 3, 4, 7, 8, 9, 10, 11, 5, 6, 12, 13, 14, 15] .nil) _ mixed (by kernel_rfl) rfl (subE (pk_sub [])) ?_
  refine WP.q (i := 0) rfl (.mv (v := v0_0) rfl) rfl rfl rfl ?_
  obtain ⟨y1, hy1, h⟩ := Option.bind_eq_some_iff.1 h
  obtain ⟨b_y1, c_y1, e_y1, m_y1, r_y1, u_y1⟩ := hgetS (foc210 hH) g0_0 hy1
  subst e_y1
  obtain ⟨_, _, rfl, ⟨w2, rfl, hw2⟩, rfl⟩ := r_y1
  obtain ⟨_, _, _, _, _, rfl⟩ := hw2.isl
  refine WP.q (i := 1) rfl (.r fun _ => rfl) rfl rfl rfl ?_
  refine WP.q (i := 2) rfl (.fa (fa210_0 _ _)) rfl rfl rfl ?_
  refine WP.q (i := 3) rfl (.ldSm rfl (inM m_y1) rfl ti207 rfl) rfl rfl rfl ?_
  refine WP.q (i := 4) rfl (.mv (v := .str _) rfl) rfl rfl rfl ?_
  refine WP.q (i := 7) rfl (.mv (v := .ptr b_y1 0) rfl) rfl rfl rfl ?_
  refine WP.q (i := 8) rfl (.r fun _ => rfl) rfl rfl rfl ?_
  refine WP.q (i := 9) rfl (.fa (fa210_0 _ _)) rfl rfl rfl ?_
  refine WP.q (i := 10) rfl (.ldSm rfl (inM m_y1) rfl ti207 rfl) rfl rfl rfl ?_
  refine WP.q (i := 11) rfl (.len rfl rfl rfl (sl207.len hw2.isl)) (isQl rfl rfl ti207 rfl) rfl rfl ?_
  obtain ⟨y3, hy3, h⟩ := Option.bind_eq_some_iff.1 h
  refine WP.cS (i := 5) rfl rfl rfl (crc_Sum16_ok hy3) rfl rfl rfl ?_
  rintro _ rfl
  refine WP.q (i := 6) rfl (cvI ti249 ti3 rfl rfl) (isQc ti249 ti3 rfl) rfl rfl ?_
  obtain ⟨hk4, h⟩ := ifS_some h
  refine WP.q (i := 12) rfl (.bin (evrem hk4)) rfl rfl rfl ?_
  obtain ⟨y5, hy5, h⟩ := Option.bind_eq_some_iff.1 h
  obtain ⟨b_y5, o_y5, _, i_y5, p_y5, r_y5⟩ := hw2.at sl207 hy5 .i64
  obtain ⟨w6, rfl, hw6⟩ := r_y5
  refine WP.q (i := 13) rfl (.ia i_y5) rfl rfl rfl ?_
  refine WP.q (i := 14) rfl (.lp0 rfl p_y5 rfl ti222 rfl) rfl rfl rfl ?_
  refine WP.q (i := 15) rfl (.as (v := w6) rfl) rfl rfl rfl ?_
  refine WP.nil ?_
  obtain rfl := Option.some.inj h
  exact WX.ret (rs_ (rs_tmp rfl rs_nil)) fun st hp => ⟨_, hB, (hp.pk [] (by decide)), _, rfl, hw6⟩
def strings_shouldUseASCIISet_P (B : Kn) (L : Own) (r : Bool) : AV → St → Prop := CS B L fun v => v = .bool r
theorem strings_shouldUseASCIISet_ok {B0 : Kn} {L : Own} {a0 : Int} {r : Bool} (h : strings_shouldUseASCIISet a0 = some r) : ∀ st, Hp B0 L st → ASpec Tryz.prog 169 [.int .i64 a0] st (strings_shouldUseASCIISet_P B0 L r) := by
  unfold strings_shouldUseASCIISet at h
  refine bodyA (A := []) Tryz.func169 rfl (c := bodyOf Tryz.f169) rfl Tryz.ntmps169 (lb rfl) fun n0 => ?_
  have hB := KLe.refl B0
  refine WX.seq ?_
  refine WX.reg ?_
  refine WO.q (.as (v := .bool _) rfl) rfl rfl ?_
  refine WO.nil ?_
  refine WX.seq ?_
  refine WX.reg ?_
  refine WO.q (.mv (v := .int _ _) rfl) rfl rfl ?_
  refine WO.q (.r fun _ => rfl) rfl rfl ?_
  refine WO.q (.as (v := .bool _) rfl) rfl rfl ?_
  refine WO.nil ?_
  obtain rfl := Option.some.inj h
  exact WX.ret (rs_ (rs_tmp rfl rs_nil)) fun st hp => ⟨(hp.pk [] (by decide)).le hB, rfl⟩
def stringslite_IndexByte_P (B : Kn) (L : Own) (r : Int) : AV → St → Prop := CS B L fun v => v = .int .i64 r
theorem stringslite_IndexByte_ok {B0 : Kn} {L : Own} {a0 : List UInt8} {a1 : Int} {r : Int} (h : stringslite_IndexByte a0 a1 = some r) : ∀ st, Hp B0 L st → ASpec Tryz.prog 202 [.str a0, .int .u8 a1] st (stringslite_IndexByte_P B0 L r) := by
  unfold stringslite_IndexByte at h
  refine bodyA (A := []) Tryz.func202 rfl (c := bodyOf Tryz.f202) rfl Tryz.ntmps202 (lb rfl) fun n0 => ?_
  have hB := KLe.refl B0
  refine WX.seq ?_
  refine WX.reg ?_
  refine WO.q (.as (v := .int _ _) rfl) rfl rfl ?_
  refine WO.nil ?_
  refine WX.seq ?_
  refine WX.reg ?_
  refine WO.q (.mv (v := .str _) rfl) rfl rfl ?_
  refine WO.q (.mv (v := .int _ _) rfl) rfl rfl ?_
  refine WO.q (.idxB rfl rfl rfl Tryz.func219 rfl rfl rfl rfl) rfl rfl ?_
  refine WO.q (.as (v := .int _ _) rfl) rfl rfl ?_
  refine WO.nil ?_
  obtain rfl := Option.some.inj h
  exact WX.ret (rs_ (rs_tmp rfl rs_nil)) fun st hp => ⟨(hp.pk [] (by decide)).le hB, rfl⟩
def strings_IndexByte_P (B : Kn) (L : Own) (r : Int) : AV → St → Prop := CS B L fun v => v = .int .i64 r
theorem strings_IndexByte_ok {B0 : Kn} {L : Own} {a0 : List UInt8} {a1 : Int} {r : Int} (h : strings_IndexByte a0 a1 = some r) : ∀ st, Hp B0 L st → ASpec Tryz.prog 206 [.str a0, .int .u8 a1] st (strings_IndexByte_P B0 L r) := by
  unfold strings_IndexByte at h
  refine bodyA (A := []) Tryz.func206 rfl (c := bodyOf Tryz.f206) rfl Tryz.ntmps206 (lb rfl) fun n0 => ?_
  have hB := KLe.refl B0
  refine WX.seq ?_
  refine WX.reg ?_
  refine WO.q (.as (v := .int _ _) rfl) rfl rfl ?_
  refine WO.nil ?_
  refine WX.seq ?_
  refine WX.reg ?_
  refine WO.q (.mv (v := .str _) rfl) rfl rfl ?_
  refine WO.q (.mv (v := .int _ _) rfl) rfl rfl ?_
  obtain ⟨y1, hy1, h⟩ := Option.bind_eq_some_iff.1 h
  refine WO.cS rfl rfl (stringslite_IndexByte_ok hy1) rfl rfl rfl ?_
  rintro _ rfl
  refine WO.q (.as (v := .int _ _) rfl) rfl rfl ?_
  refine WO.nil ?_
  obtain rfl := Option.some.inj h
  exact WX.ret (rs_ (rs_tmp rfl rs_nil)) fun st hp => ⟨(hp.pk [] (by decide)).le hB, rfl⟩
def unicode_utf8_ValidRune_P (B : Kn) (L : Own) (r : Bool) : AV → St → Prop := CS B L fun v => v = .bool r
def unicode_utf8_ValidRune_j2_I (B0 : Kn) (x10 : Bool) : Fr → Kn → Own → Prop := fun fr B A => KLe B0 B ∧ fr = [(10, .bool x10)] ∧ A = []
def unicode_utf8_ValidRune_j1_I (B0 : Kn) (x0 : Int) (x3 : Bool) : Fr → Kn → Own → Prop := fun fr B A => KLe B0 B ∧ fr = [(0, .int .i32 x0), (3, .bool x3)] ∧ A = []
theorem unicode_utf8_ValidRune_j2_ok {B0 : Kn} {L : Own} {n0 : Nat} {x10 : Bool} {r : Bool} (h : unicode_utf8_ValidRune_j2 x10 = some r) : WXI Tryz.prog 17 n0 (Fin Tryz.prog Tryz.f207.results.toList n0 (unicode_utf8_ValidRune_P B0 L r)) [.code (ct [1, 0, 0, 1, 1, 1] (bodyOf Tryz.f207)), .blk 0, .code (ct [1, 1] (bodyOf Tryz.f207))] (unicode_utf8_ValidRune_j2_I B0 x10) L := by
  unfold unicode_utf8_ValidRune_j2 at h
  rintro _ B _ ⟨hB, rfl, rfl⟩
  rcases bsp x10 with k4 | k4
  replace h := (if_pos k4).symm.trans h
  refine WX.condT rfl k4 ?_
  refine WX.seq ?_
  refine WX.reg ?_
  refine WO.q (.as (v := .bool _) rfl) rfl rfl ?_
  refine WO.nil ?_
  obtain rfl := Option.some.inj h
  exact WX.ret (rs_ (rs_tmp rfl rs_nil)) fun st hp => ⟨(hp.pk [] (by decide)).le hB, rfl⟩
  replace h := (if_neg (bnt k4)).symm.trans h
  refine WX.condF rfl k4 ?_
  refine WX.skip ?_
  refine WX.pop ?_
  refine WX.seq ?_
  refine WX.reg ?_
  refine WO.q (.as (v := .bool _) rfl) rfl rfl ?_
  refine WO.nil ?_
  obtain rfl := Option.some.inj h
  exact WX.ret (rs_ (rs_tmp rfl rs_nil)) fun st hp => ⟨(hp.pk [] (by decide)).le hB, rfl⟩
theorem unicode_utf8_ValidRune_j1_ok {B0 : Kn} {L : Own} {n0 : Nat} {x0 : Int} {x3 : Bool} {r : Bool} (h : unicode_utf8_ValidRune_j1 x0 x3 = some r) : WXI Tryz.prog 17 n0 (Fin Tryz.prog Tryz.f207.results.toList n0 (unicode_utf8_ValidRune_P B0 L r)) [.code (ct [1, 0, 0, 1] (bodyOf Tryz.f207)), .blk 0, .code (ct [1, 1] (bodyOf Tryz.f207))] (unicode_utf8_ValidRune_j1_I B0 x0 x3) L := by
  unfold unicode_utf8_ValidRune_j1 at h
  rintro _ B _ ⟨hB, rfl, rfl⟩
  rcases bsp x3 with k2 | k2
  replace h := (if_pos k2).symm.trans h
  refine WX.condT rfl k2 ?_
  refine WX.seq ?_
  refine WX.reg ?_
  refine WO.q (.as (v := .bool _) rfl) rfl rfl ?_
  refine WO.nil ?_
  obtain rfl := Option.some.inj h
  exact WX.ret (rs_ (rs_tmp rfl rs_nil)) fun st hp => ⟨(hp.pk [] (by decide)).le hB, rfl⟩
  replace h := (if_neg (bnt k2)).symm.trans h
  refine WX.condF rfl k2 ?_
  refine WX.seq ?_
  refine WX.reg ?_
  refine WO.q (.mv (v := .int _ _) rfl) rfl rfl ?_
  refine WO.q (.r fun _ => rfl) rfl rfl ?_
  refine WO.q (.mv (v := .bool _) rfl) rfl rfl ?_
  rcases bsp (decide (57343 < x0)) with k3 | k3
  have q_k3 := of_decide_eq_true k3
  replace h := (if_pos q_k3).symm.trans h
  refine WO.q (.mv (v := .int _ _) rfl) (wg rfl rfl (gt k3)) rfl ?_
  refine WO.q (.r fun _ => rfl) (wg rfl rfl (gt k3)) rfl ?_
  refine WO.q (.ptv (v := .bool _) rfl k3 rfl) rfl rfl ?_
  refine WO.q (.as (v := .bool _) rfl) rfl rfl ?_
  refine WO.nil ?_
  refine WX.keep [10] (WX.pk [] (by decide) ?_) rfl
  exact unicode_utf8_ValidRune_j2_ok h _ _ _ ⟨hB, rfl, rfl⟩
  have q_k3 := of_decide_eq_false k3
  replace h := (if_neg q_k3).symm.trans h
  refine WO.sd (wg rfl rfl (gtn k3)) rfl ?_
  refine WO.sd (wg rfl rfl (gtn k3)) rfl ?_
  refine WO.q (.pfv (v := .bool _) rfl k3 rfl) rfl rfl ?_
  refine WO.q (.as (v := .bool _) rfl) rfl rfl ?_
  refine WO.nil ?_
  refine WX.keep [10] (WX.pk [] (by decide) ?_) rfl
  exact unicode_utf8_ValidRune_j2_ok h _ _ _ ⟨hB, rfl, rfl⟩
theorem unicode_utf8_ValidRune_ok {B0 : Kn} {L : Own} {a0 : Int} {r : Bool} (h : unicode_utf8_ValidRune a0 = some r) : ∀ st, Hp B0 L st → ASpec Tryz.prog 207 [.int .i32 a0] st (unicode_utf8_ValidRune_P B0 L r) := by
  unfold unicode_utf8_ValidRune at h
  refine bodyA (A := []) Tryz.func207 rfl (c := bodyOf Tryz.f207) rfl Tryz.ntmps207 (lb rfl) fun n0 => ?_
  have hB := KLe.refl B0
  refine WX.seq ?_
  refine WX.reg ?_
  refine WO.q (.as (v := .bool _) rfl) rfl rfl ?_
  refine WO.nil ?_
  refine WX.seq ?_
  refine WX.block ?_
  refine WX.seq ?_
  refine WX.reg ?_
  refine WO.q (.mv (v := .int _ _) rfl) rfl rfl ?_
  refine WO.q (.r fun _ => rfl) rfl rfl ?_
  refine WO.q (.mv (v := .bool _) rfl) rfl rfl ?_
  rcases bsp (decide (0 ≤ a0)) with k1 | k1
  have q_k1 := of_decide_eq_true k1
  replace h := (if_pos q_k1).symm.trans h
  refine WO.q (.mv (v := .int _ _) rfl) (wg rfl rfl (gt k1)) rfl ?_
  refine WO.q (.r fun _ => rfl) (wg rfl rfl (gt k1)) rfl ?_
  refine WO.q (.ptv (v := .bool _) rfl k1 rfl) rfl rfl ?_
  refine WO.q (.as (v := .bool _) rfl) rfl rfl ?_
  refine WO.nil ?_
  refine WX.keep [0, 3] (WX.pk [] (by decide) ?_) rfl
  exact unicode_utf8_ValidRune_j1_ok h _ _ _ ⟨hB, rfl, rfl⟩
  have q_k1 := of_decide_eq_false k1
  replace h := (if_neg q_k1).symm.trans h
  refine WO.sd (wg rfl rfl (gtn k1)) rfl ?_
  refine WO.sd (wg rfl rfl (gtn k1)) rfl ?_
  refine WO.q (.pfv (v := .bool _) rfl k1 rfl) rfl rfl ?_
  refine WO.q (.as (v := .bool _) rfl) rfl rfl ?_
  refine WO.nil ?_
  refine WX.keep [0, 3] (WX.pk [] (by decide) ?_) rfl
  exact unicode_utf8_ValidRune_j1_ok h _ _ _ ⟨hB, rfl, rfl⟩
def dir_buckets_P (B : Kn) (L : Own) (r : Heap × (List Nat)) : AV → St → Prop := CH B L fun B' X E' v => ∃ w0 b0 n0 c0, v = w0 ∧ X = [oe b0 n0 c0] ∧ HR B' r.1 E' ∧ OSl (Ty.hm 222) B' w0 b0 n0 c0 r.2
def dir_buckets_l0_I (B0 : Kn) (H : Heap) (x3 : List Nat) (x8 : Int) (x9 : Int) : Fr → Kn → Own → Own → Prop := fun fr B A E => KLw B0 B ∧ HR B H E ∧ ∃ v5 b5 n5 c5, OSl (Ty.hm 222) B v5 b5 n5 c5 x3 ∧ fr = [(3, v5), (8, .int .i64 x8), (9, .int .i64 x9)] ∧ A = [oe b5 n5 c5]
def dir_buckets_l0_X0 (B0 : Kn) (H : Heap) (x3 : List Nat) : Fr → Kn → Own → Own → Prop := fun fr B A E => KLw B0 B ∧ HR B H E ∧ ∃ v18 b18 n18 c18, OSl (Ty.hm 222) B v18 b18 n18 c18 x3 ∧ fr = [(3, v18)] ∧ A = [oe b18 n18 c18]
theorem dir_buckets_l0_s {B0 : Kn} {L : Own} {n0 : Nat} {H : Heap} {x3 : List Nat} {x8 : Int} {x9 : Int} {Q : AV → St → Prop} {E : (Heap × (List Nat) × Int × Int) ⊕ (Heap × (List Nat)) → Prop} {o : (Heap × (List Nat) × Int × Int) ⊕ (Heap × (List Nat))} (h : dir_buckets_l0 H x3 x8 x9 = some o) (hn : ∀ s, E (.inl s) → WXH Tryz.prog 18 n0 (Fin Tryz.prog Tryz.f109.results.toList n0 Q) [.lp (ct [1, 1, 0, 1, 0, 0] (bodyOf Tryz.f109)), .blk 0, .code (ct [1, 1, 1] (bodyOf Tryz.f109))] (dir_buckets_l0_I B0 s.1 s.2.1 s.2.2.1 s.2.2.2) L) (hx0 : ∀ s, E (.inr s) → WXH Tryz.prog 18 n0 (Fin Tryz.prog Tryz.f109.results.toList n0 Q) [.code (ct [1, 1, 1] (bodyOf Tryz.f109))] (dir_buckets_l0_X0 B0 s.1 s.2) L) (hE : E o) : WXH Tryz.prog 18 n0 (Fin Tryz.prog Tryz.f109.results.toList n0 Q) [.code (ct [1, 1, 0, 1, 0, 0] (bodyOf Tryz.f109)), .lp (ct [1, 1, 0, 1, 0, 0] (bodyOf Tryz.f109)), .blk 0, .code (ct [1, 1, 1] (bodyOf Tryz.f109))] (dir_buckets_l0_I B0 H x3 x8 x9) L := by
  unfold dir_buckets_l0 at h
  rintro _ B _ E ⟨hB, hH, v5, b5, n5, c5, h5, rfl, rfl⟩
  obtain ⟨_, _, _, _, _, rfl⟩ := h5.isl
  refine WX.seq ?_
  refine WX.reg ?_
  refine WO.q (.r fun _ => rfl) rfl rfl ?_
  refine WO.nil ?_
  refine WX.seq ?_
  rcases bsp (decide (x9 < x8)) with k6 | k6
  have q_k6 := of_decide_eq_true k6
  replace h := (if_pos q_k6).symm.trans h
  refine WX.condT rfl k6 ?_
  refine WX.skip ?_
  refine WX.seq ?_
  refine WX.block ?_
  refine WX.seq ?_
  refine WX.reg ?_
  refine WO.q (.mv (v := .int _ _) rfl) rfl rfl ?_
  refine WO.q (.as (v := .int _ _) rfl) rfl rfl ?_
  refine WO.nil ?_
  refine WX.reg ?_
  refine WO.q (.mv (v := .sl _ _ _ _ _ _) rfl) rfl rfl ?_
  refine WO.q (.mv (v := .int _ _) rfl) rfl rfl ?_
  obtain ⟨H9, e_H9, h⟩ := Option.bind_eq_some_iff.1 h
  refine WO.ed (MOpE.mk (t := 222) (foc222 hH)) rfl rfl ?_
  rintro v7 B _ E ⟨hK, rfl, h8, hH⟩
  replace hH := HRe e_H9 hH
  replace h5 := h5.upw hK
  replace hB := hB.trans hK
  obtain ⟨y10, hy10, h⟩ := Option.bind_eq_some_iff.1 h
  obtain rfl := h5.nonnil hy10
  obtain ⟨_, i_y10, l_y10, r_y10⟩ := h5.at sl207 hy10 .i64
  obtain ⟨w11, rfl, hw11⟩ := r_y10
  refine WO.q (.ia i_y10) rfl rfl ?_
  refine WO.mn (MOp.ostW (x' := (H.h222.length + 1)) rfl (cHm rfl h8) (fun _ => .h) ti222 rfl h5 hy10 (Rhm h8)) rfl ?_
  rintro _ _ ⟨c13, o12, rfl⟩
  refine WO.nil ?_
  refine WX.pop ?_
  refine WX.reg ?_
  refine WO.q (.r fun _ => rfl) rfl rfl ?_
  refine WO.q (.mv (v := .int _ _) rfl) rfl rfl ?_
  refine WO.nil ?_
  refine WX.keepL [3, 8, 9] (WX.pk [0] (by decide) ?_) rfl
  obtain rfl := Option.some.inj h
  exact hn _ hE _ _ _ _ ⟨hB, hH, _, _, false, _, o12, rfl, rfl⟩
  have q_k6 := of_decide_eq_false k6
  replace h := (if_neg q_k6).symm.trans h
  refine WX.condF rfl k6 ?_
  refine WX.exit rfl ?_
  refine WX.keep [3] (WX.pk [0] (by decide) ?_) rfl
  obtain rfl := Option.some.inj h
  exact hx0 _ hE _ _ _ _ ⟨hB, hH, _, _, n5, _, h5, rfl, rfl⟩
theorem dir_buckets_l0_ok {B0 : Kn} {L : Own} {n0 : Nat} {H : Heap} {x3 : List Nat} {x8 : Int} {x9 : Int} {Q : AV → St → Prop} {d : Nat} {e : (Heap × (List Nat))} (h : iter (fun (s : Heap × (List Nat) × Int × Int) => dir_buckets_l0 s.1 s.2.1 s.2.2.1 s.2.2.2) d (H, x3, x8, x9) = some e) (g0 : ∀ s, e = s → WXH Tryz.prog 18 n0 (Fin Tryz.prog Tryz.f109.results.toList n0 Q) [.code (ct [1, 1, 1] (bodyOf Tryz.f109))] (dir_buckets_l0_X0 B0 s.1 s.2) L) : WXH Tryz.prog 18 n0 (Fin Tryz.prog Tryz.f109.results.toList n0 Q) [.code (ct [1, 1, 0, 1, 0, 0] (bodyOf Tryz.f109)), .lp (ct [1, 1, 0, 1, 0, 0] (bodyOf Tryz.f109)), .blk 0, .code (ct [1, 1, 1] (bodyOf Tryz.f109))] (dir_buckets_l0_I B0 H x3 x8 x9) L :=
  iter_okH (I := fun s => dir_buckets_l0_I B0 s.1 s.2.1 s.2.2.1 s.2.2.2) (D := fun e => (∀ s, e = s → WXH Tryz.prog 18 n0 (Fin Tryz.prog Tryz.f109.results.toList n0 Q) [.code (ct [1, 1, 1] (bodyOf Tryz.f109))] (dir_buckets_l0_X0 B0 s.1 s.2) L)) (fun E hn hx s o ho hE => dir_buckets_l0_s (H := s.1) (x3 := s.2.1) (x8 := s.2.2.1) (x9 := s.2.2.2) ho hn (fun s hs => (hx _ hs) _ rfl)  hE) h g0
theorem dir_buckets_ok {B0 : Kn} {L : Own} {H : Heap} {E : Own} (hH : HR B0 H E) {a0 : Int} {r : Heap × (List Nat)} (h : dir_buckets H a0 = some r) : ∀ st, Hp B0 (E ++ L) st → ASpec Tryz.prog 109 [.int .i64 a0] st (dir_buckets_P B0 L r) := by
  unfold dir_buckets at h
  refine bodyA (A := []) (L := E ++ L) Tryz.func109 rfl (c := bodyOf Tryz.f109) rfl Tryz.ntmps109 (lb rfl) fun n0 => ?_
  have hB := KLw.refl B0
  refine WX.seq ?_
  refine WX.reg ?_
  refine WO.q (.as (v := .sl _ _ _ _ _ _) rfl) rfl rfl ?_
  refine WO.nil ?_
  refine WX.seq ?_
  refine WX.reg ?_
  refine WO.q (.mv (v := .int _ _) rfl) rfl rfl ?_
  obtain ⟨hk4, h⟩ := ifS_some h
  refine WO.md (MOp.mk sl207 rfl rfl hk4.1 hk4.2.1 hk4.2.2 (Rhm HMt.nil)) rfl rfl ?_
  rintro v3 _ ⟨b1, o2, rfl⟩
  obtain ⟨_, _, _, _, _, rfl⟩ := o2.isl
  refine WO.q (.as (v := .sl _ _ _ _ _ _) rfl) rfl rfl ?_
  refine WO.nil ?_
  refine WX.seq ?_
  refine WX.seq ?_
  refine WX.reg ?_
  refine WO.q (.mv (v := .sl _ _ _ _ _ _) rfl) rfl rfl ?_
  refine WO.q (.len rfl rfl rfl (sl207.len o2.isl)) rfl rfl ?_
  refine WO.q (.mv (v := .int _ _) rfl) rfl rfl ?_
  refine WO.nil ?_
  refine WX.block ?_
  refine WX.loop ?_
  obtain ⟨e15, he15, h⟩ := Option.bind_eq_some_iff.1 h
  refine WX.keep [3, 8, 9] (WX.pk [0] (by decide) ?_) rfl
  refine dir_buckets_l0_ok he15 ?_ _ _ _ _ ⟨hB, hH, _, _, false, _, o2, rfl, rfl⟩
  intro s17 he_
  subst he_
  replace h := h
  rintro _ B _ E ⟨hB, hH, v16, b16, n16, c16, h16, rfl, rfl⟩
  obtain ⟨_, _, _, _, _, rfl⟩ := h16.isl
  refine WX.seq ?_
  refine WX.reg ?_
  refine WO.q (.mv (v := .sl _ _ _ _ _ _) rfl) rfl rfl ?_
  refine WO.q (.as (v := .sl _ _ _ _ _ _) rfl) rfl rfl ?_
  refine WO.nil ?_
  obtain rfl := Option.some.inj h
  exact WX.ret (rs_ (rs_tmp rfl rs_nil)) fun st hp => ⟨_, _, _, hB, (hp.pk [0] (by decide)), _, _, n16, _, rfl, rfl, hH, h16⟩
def cmp_isNaN_int_P (B : Kn) (L : Own) (r : Bool) : AV → St → Prop := CS B L fun v => v = .bool r
theorem cmp_isNaN_int_ok {B0 : Kn} {L : Own} {a0 : Int} {r : Bool} (h : cmp_isNaN_int a0 = some r) : ∀ st, Hp B0 L st → ASpec Tryz.prog 132 [.int .i64 a0] st (cmp_isNaN_int_P B0 L r) := by
  unfold cmp_isNaN_int at h
  refine bodyA (A := []) Tryz.func132 rfl (c := bodyOf Tryz.f132) rfl Tryz.ntmps132 (lb rfl) fun n0 => ?_
  have hB := KLe.refl B0
  refine WX.seq ?_
  refine WX.reg ?_
  refine WO.q (.as (v := .bool _) rfl) rfl rfl ?_
  refine WO.nil ?_
  refine WX.seq ?_
  refine WX.reg ?_
  refine WO.q (.mv (v := .int _ _) rfl) rfl rfl ?_
  refine WO.q (.mv (v := .int _ _) rfl) rfl rfl ?_
  refine WO.q (.r fun _ => rfl) rfl rfl ?_
  refine WO.q (.as (v := .bool _) rfl) rfl rfl ?_
  refine WO.nil ?_
  obtain rfl := Option.some.inj h
  exact WX.ret (rs_ (rs_tmp rfl rs_nil)) fun st hp => ⟨(hp.pk [] (by decide)).le hB, rfl⟩
def cmp_Compare_int_P (B : Kn) (L : Own) (r : Int) : AV → St → Prop := CS B L fun v => v = .int .i64 r
theorem cmp_Compare_int_ok {B0 : Kn} {L : Own} {a0 : Int} {a1 : Int} {r : Int} (h : cmp_Compare_int a0 a1 = some r) : ∀ st, Hp B0 L st → ASpec Tryz.prog 77 [.int .i64 a0, .int .i64 a1] st (cmp_Compare_int_P B0 L r) := by
  unfold cmp_Compare_int at h
  refine bodyA (A := []) Tryz.func77 rfl (c := bodyOf Tryz.f77) rfl Tryz.ntmps77 (lb rfl) fun n0 => ?_
  have hB := KLe.refl B0
  refine WX.seq ?_
  refine WX.reg ?_
  refine WO.q (.as (v := .int _ _) rfl) rfl rfl ?_
  refine WO.nil ?_
  refine WX.seq ?_
  refine WX.reg ?_
  refine WO.q (.mv (v := .int _ _) rfl) rfl rfl ?_
  obtain ⟨y1, hy1, h⟩ := Option.bind_eq_some_iff.1 h
  refine WO.cS rfl rfl (cmp_isNaN_int_ok hy1) rfl rfl rfl ?_
  rintro _ rfl
  refine WO.q (.as (v := .bool _) rfl) rfl rfl ?_
  refine WO.nil ?_
  refine WX.seq ?_
  refine WX.reg ?_
  refine WO.q (.mv (v := .int _ _) rfl) rfl rfl ?_
  obtain ⟨y2, hy2, h⟩ := Option.bind_eq_some_iff.1 h
  refine WO.cS rfl rfl (cmp_isNaN_int_ok hy2) rfl rfl rfl ?_
  rintro _ rfl
  refine WO.q (.as (v := .bool _) rfl) rfl rfl ?_
  refine WO.nil ?_
  refine WX.seq ?_
  refine WX.seq ?_
  refine WX.reg ?_
  refine WO.q (.mv (v := .bool _) rfl) rfl rfl ?_
  refine WO.nil ?_
  rcases bsp y1 with k3 | k3
  replace h := (if_pos k3).symm.trans h
  refine WX.condT rfl k3 ?_
  refine WX.seq ?_
  refine WX.seq ?_
  refine WX.reg ?_
  refine WO.q (.mv (v := .bool _) rfl) rfl rfl ?_
  refine WO.nil ?_
  rcases bsp y2 with k4 | k4
  replace h := (if_pos k4).symm.trans h
  refine WX.condT rfl k4 ?_
  refine WX.seq ?_
  refine WX.reg ?_
  refine WO.q (.as (v := .int _ _) rfl) rfl rfl ?_
  refine WO.nil ?_
  obtain rfl := Option.some.inj h
  exact WX.ret (rs_ (rs_tmp rfl rs_nil)) fun st hp => ⟨(hp.pk [] (by decide)).le hB, rfl⟩
  replace h := (if_neg (bnt k4)).symm.trans h
  refine WX.condF rfl k4 ?_
  refine WX.skip ?_
  refine WX.seq ?_
  refine WX.reg ?_
  refine WO.q (.as (v := .int _ _) rfl) rfl rfl ?_
  refine WO.nil ?_
  obtain rfl := Option.some.inj h
  exact WX.ret (rs_ (rs_tmp rfl rs_nil)) fun st hp => ⟨(hp.pk [] (by decide)).le hB, rfl⟩
  replace h := (if_neg (bnt k3)).symm.trans h
  refine WX.condF rfl k3 ?_
  refine WX.skip ?_
  refine WX.seq ?_
  refine WX.seq ?_
  refine WX.reg ?_
  refine WO.q (.mv (v := .bool _) rfl) rfl rfl ?_
  refine WO.nil ?_
  rcases bsp y2 with k5 | k5
  replace h := (if_pos k5).symm.trans h
  refine WX.condT rfl k5 ?_
  refine WX.seq ?_
  refine WX.reg ?_
  refine WO.q (.as (v := .int _ _) rfl) rfl rfl ?_
  refine WO.nil ?_
  obtain rfl := Option.some.inj h
  exact WX.ret (rs_ (rs_tmp rfl rs_nil)) fun st hp => ⟨(hp.pk [] (by decide)).le hB, rfl⟩
  replace h := (if_neg (bnt k5)).symm.trans h
  refine WX.condF rfl k5 ?_
  refine WX.skip ?_
  refine WX.seq ?_
  refine WX.seq ?_
  refine WX.reg ?_
  refine WO.q (.mv (v := .int _ _) rfl) rfl rfl ?_
  refine WO.q (.mv (v := .int _ _) rfl) rfl rfl ?_
  refine WO.q (.r fun _ => rfl) rfl rfl ?_
  refine WO.nil ?_
  rcases bsp (decide (a0 < a1)) with k6 | k6
  have q_k6 := of_decide_eq_true k6
  replace h := (if_pos q_k6).symm.trans h
  refine WX.condT rfl k6 ?_
  refine WX.seq ?_
  refine WX.reg ?_
  refine WO.q (.as (v := .int _ _) rfl) rfl rfl ?_
  refine WO.nil ?_
  obtain rfl := Option.some.inj h
  exact WX.ret (rs_ (rs_tmp rfl rs_nil)) fun st hp => ⟨(hp.pk [] (by decide)).le hB, rfl⟩
  have q_k6 := of_decide_eq_false k6
  replace h := (if_neg q_k6).symm.trans h
  refine WX.condF rfl k6 ?_
  refine WX.skip ?_
  refine WX.seq ?_
  refine WX.seq ?_
  refine WX.reg ?_
  refine WO.q (.mv (v := .int _ _) rfl) rfl rfl ?_
  refine WO.q (.mv (v := .int _ _) rfl) rfl rfl ?_
  refine WO.q (.r fun _ => rfl) rfl rfl ?_
  refine WO.nil ?_
  rcases bsp (decide (a1 < a0)) with k7 | k7
  have q_k7 := of_decide_eq_true k7
  replace h := (if_pos q_k7).symm.trans h
  refine WX.condT rfl k7 ?_
  refine WX.seq ?_
  refine WX.reg ?_
  refine WO.q (.as (v := .int _ _) rfl) rfl rfl ?_
  refine WO.nil ?_
  obtain rfl := Option.some.inj h
  exact WX.ret (rs_ (rs_tmp rfl rs_nil)) fun st hp => ⟨(hp.pk [] (by decide)).le hB, rfl⟩
  have q_k7 := of_decide_eq_false k7
  replace h := (if_neg q_k7).symm.trans h
  refine WX.condF rfl k7 ?_
  refine WX.skip ?_
  refine WX.seq ?_
  refine WX.reg ?_
  refine WO.q (.as (v := .int _ _) rfl) rfl rfl ?_
  refine WO.nil ?_
  obtain rfl := Option.some.inj h
  exact WX.ret (rs_ (rs_tmp rfl rs_nil)) fun st hp => ⟨(hp.pk [] (by decide)).le hB, rfl⟩
def cmp_Or_int_P (B : Kn) (L : Own) (r : Int) : AV → St → Prop := CS B L fun v => v = .int .i64 r
def cmp_Or_int_l0_I (B0 : Kn) (x6 : List Int) (x8 : Int) : Fr → Kn → Own → Prop := fun fr B A => KLe B0 B ∧ ∃ v1, RSl (Ty.int .i64) B v1 x6 ∧ fr = [(3, .int .i64 0), (6, v1), (7, .int .i64 (x6.length : Int)), (8, .int .i64 x8)] ∧ A = []
def cmp_Or_int_l0_X0 (B0 : Kn) : Fr → Kn → Own → Prop := fun fr B A => KLe B0 B ∧ fr = [(3, .int .i64 0)] ∧ A = []
theorem cmp_Or_int_l0_s {B0 : Kn} {L : Own} {n0 : Nat} {x6 : List Int} {x8 : Int} {Q : AV → St → Prop} {E : Int ⊕ (Int ⊕ Unit) → Prop} {o : Int ⊕ (Int ⊕ Unit)} (h : cmp_Or_int_l0 x6 x8 = some o) (hn : ∀ s, E (.inl s) → WXI Tryz.prog 18 n0 (Fin Tryz.prog Tryz.f76.results.toList n0 Q) [.lp (ct [1, 1, 0, 1, 0, 0] (bodyOf Tryz.f76)), .blk 0, .code (ct [1, 1, 1] (bodyOf Tryz.f76))] (cmp_Or_int_l0_I B0 x6 s) L) (hx0 : ∀ s, E (.inr (.inr s)) → WXI Tryz.prog 18 n0 (Fin Tryz.prog Tryz.f76.results.toList n0 Q) [.code (ct [1, 1, 1] (bodyOf Tryz.f76))] (cmp_Or_int_l0_X0 B0) L) (hr : ∀ r, E (.inr (.inl r)) → ∀ v st, cmp_Or_int_P B0 L r v st → Q v st) (hE : E o) : WXI Tryz.prog 18 n0 (Fin Tryz.prog Tryz.f76.results.toList n0 Q) [.code (ct [1, 1, 0, 1, 0, 0] (bodyOf Tryz.f76)), .lp (ct [1, 1, 0, 1, 0, 0] (bodyOf Tryz.f76)), .blk 0, .code (ct [1, 1, 1] (bodyOf Tryz.f76))] (cmp_Or_int_l0_I B0 x6 x8) L := by
  unfold cmp_Or_int_l0 at h
  rintro _ B _ ⟨hB, v1, h1, rfl, rfl⟩
  obtain ⟨_, _, _, _, _, rfl⟩ := h1.isl
  refine WX.seq ?_
  refine WX.reg ?_
  refine WO.q (.r fun _ => rfl) rfl rfl ?_
  refine WO.nil ?_
  refine WX.seq ?_
  rcases bsp (decide (x8 < (x6.length : Int))) with k2 | k2
  have q_k2 := of_decide_eq_true k2
  replace h := (if_pos q_k2).symm.trans h
  refine WX.condT rfl k2 ?_
  refine WX.skip ?_
  refine WX.seq ?_
  refine WX.block ?_
  refine WX.seq ?_
  refine WX.reg ?_
  obtain ⟨y3, hy3, h⟩ := Option.bind_eq_some_iff.1 h
  obtain ⟨b_y3, o_y3, _, i_y3, p_y3, r_y3⟩ := h1.at sl40 hy3 .i64
  obtain rfl := r_y3
  refine WO.q (.ia i_y3) rfl rfl ?_
  refine WO.q (.lp0 rfl p_y3 rfl ti3 rfl) rfl rfl ?_
  refine WO.q (.as (v := .int _ _) rfl) rfl rfl ?_
  refine WO.nil ?_
  refine WX.seq ?_
  refine WX.reg ?_
  refine WO.q (.mv (v := .int _ _) rfl) rfl rfl ?_
  refine WO.q (.mv (v := .int _ _) rfl) rfl rfl ?_
  refine WO.q (.r fun _ => rfl) rfl rfl ?_
  refine WO.nil ?_
  rcases bsp (decide (y3 ≠ 0)) with k4 | k4
  have q_k4 := of_decide_eq_true k4
  replace h := (if_pos q_k4).symm.trans h
  refine WX.condT rfl k4 ?_
  refine WX.seq ?_
  refine WX.reg ?_
  refine WO.q (.mv (v := .int _ _) rfl) rfl rfl ?_
  refine WO.q (.as (v := .int _ _) rfl) rfl rfl ?_
  refine WO.nil ?_
  obtain rfl := Option.some.inj h
  exact WX.ret (rs_ (rs_tmp rfl rs_nil)) fun st hp => hr _ hE _ _ ⟨(hp.pk [] (by decide)).le hB, rfl⟩
  have q_k4 := of_decide_eq_false k4
  replace h := (if_neg q_k4).symm.trans h
  refine WX.condF rfl k4 ?_
  refine WX.skip ?_
  refine WX.pop ?_
  refine WX.reg ?_
  refine WO.q (.r fun _ => rfl) rfl rfl ?_
  refine WO.q (.mv (v := .int _ _) rfl) rfl rfl ?_
  refine WO.nil ?_
  refine WX.keepL [3, 6, 7, 8] (WX.pk [] (by decide) ?_) rfl
  obtain rfl := Option.some.inj h
  exact hn _ hE _ _ _ ⟨hB, _, h1, rfl, rfl⟩
  have q_k2 := of_decide_eq_false k2
  replace h := (if_neg q_k2).symm.trans h
  refine WX.condF rfl k2 ?_
  refine WX.exit rfl ?_
  refine WX.keep [3] (WX.pk [] (by decide) ?_) rfl
  obtain rfl := Option.some.inj h
  exact hx0 _ hE _ _ _ ⟨hB, rfl, rfl⟩
theorem cmp_Or_int_l0_ok {B0 : Kn} {L : Own} {n0 : Nat} {x6 : List Int} {x8 : Int} {Q : AV → St → Prop} {d : Nat} {e : Int ⊕ Unit} (h : iter (fun (s : Int) => cmp_Or_int_l0 x6 s) d x8 = some e) (g0 : ∀ r, e = (.inl r) → ∀ v st, cmp_Or_int_P B0 L r v st → Q v st) (g1 : ∀ s, e = (.inr s) → WXI Tryz.prog 18 n0 (Fin Tryz.prog Tryz.f76.results.toList n0 Q) [.code (ct [1, 1, 1] (bodyOf Tryz.f76))] (cmp_Or_int_l0_X0 B0) L) : WXI Tryz.prog 18 n0 (Fin Tryz.prog Tryz.f76.results.toList n0 Q) [.code (ct [1, 1, 0, 1, 0, 0] (bodyOf Tryz.f76)), .lp (ct [1, 1, 0, 1, 0, 0] (bodyOf Tryz.f76)), .blk 0, .code (ct [1, 1, 1] (bodyOf Tryz.f76))] (cmp_Or_int_l0_I B0 x6 x8) L :=
  iter_ok (I := fun s => cmp_Or_int_l0_I B0 x6 s) (D := fun e => (∀ r, e = (.inl r) → ∀ v st, cmp_Or_int_P B0 L r v st → Q v st) ∧ (∀ s, e = (.inr s) → WXI Tryz.prog 18 n0 (Fin Tryz.prog Tryz.f76.results.toList n0 Q) [.code (ct [1, 1, 1] (bodyOf Tryz.f76))] (cmp_Or_int_l0_X0 B0) L)) (fun E hn hx s o ho hE => cmp_Or_int_l0_s (x8 := s) ho hn (fun s hs => (hx _ hs).2 _ rfl) (fun r hs => (hx _ hs).1 _ rfl) hE) h ⟨g0, g1⟩
theorem cmp_Or_int_ok {B0 : Kn} {L : Own} {a0 : List Int} {v0_0 : AV} (g0_0 : RSl (Ty.int .i64) B0 v0_0 a0) {r : Int} (h : cmp_Or_int a0 = some r) : ∀ st, Hp B0 L st → ASpec Tryz.prog 76 [v0_0] st (cmp_Or_int_P B0 L r) := by
  unfold cmp_Or_int at h
  refine bodyA (A := []) Tryz.func76 rfl (c := bodyOf Tryz.f76) rfl Tryz.ntmps76 (lb rfl) fun n0 => ?_
  have hB := KLe.refl B0
  obtain ⟨_, _, _, _, _, rfl⟩ := g0_0.isl
  refine WX.seq ?_
  refine WX.reg ?_
  refine WO.q (.as (v := .int _ _) rfl) rfl rfl ?_
  refine WO.nil ?_
  refine WX.seq ?_
  refine WX.reg ?_
  refine WO.q (.as (v := .int _ _) rfl) rfl rfl ?_
  refine WO.nil ?_
  refine WX.seq ?_
  refine WX.seq ?_
  refine WX.reg ?_
  refine WO.q (.mv (v := .sl _ _ _ _ _ _) rfl) rfl rfl ?_
  refine WO.q (.len rfl rfl rfl (sl40.len g0_0.isl)) rfl rfl ?_
  refine WO.q (.mv (v := .int _ _) rfl) rfl rfl ?_
  refine WO.nil ?_
  refine WX.block ?_
  refine WX.loop ?_
  obtain ⟨e5, he5, h⟩ := Option.bind_eq_some_iff.1 h
  refine WX.keep [3, 6, 7, 8] (WX.pk [] (by decide) ?_) rfl
  refine cmp_Or_int_l0_ok he5 ?_ ?_ _ _ _ ⟨hB, _, g0_0, rfl, rfl⟩
  intro r7 he_
  subst he_
  replace h := (on_l h)
  obtain rfl := Option.some.inj h
  exact fun v st hp => hp
  intro x8 he_
  subst he_
  replace h := (on_r h)
  rintro _ B _ ⟨hB, rfl, rfl⟩
  refine WX.seq ?_
  refine WX.reg ?_
  refine WO.q (.mv (v := .int _ _) rfl) rfl rfl ?_
  refine WO.q (.as (v := .int _ _) rfl) rfl rfl ?_
  refine WO.nil ?_
  obtain rfl := Option.some.inj h
  exact WX.ret (rs_ (rs_tmp rfl rs_nil)) fun st hp => ⟨(hp.pk [] (by decide)).le hB, rfl⟩
def tree_Tree_Deeds_1_P (B : Kn) (L : Own) (r : Int) : AV → St → Prop := CS B L fun v => v = .int .i64 r
theorem tree_Tree_Deeds_1_ok {B0 : Kn} {L : Own} {a0 : Int × (List UInt8)} {a1 : Int × (List UInt8)} {r : Int} (h : tree_Tree_Deeds_1 a0 a1 = some r) : ∀ st, Hp B0 L st → ASpec Tryz.prog 75 [.agg [.int .i64 a0.1, .str a0.2], .agg [.int .i64 a1.1, .str a1.2]] st (tree_Tree_Deeds_1_P B0 L r) := by
  unfold tree_Tree_Deeds_1 at h
  refine bodyA (A := []) Tryz.func75 rfl (c := bodyOf Tryz.f75) rfl Tryz.ntmps75 (lb rfl) fun n0 => ?_
  have hB := KLe.refl B0
  refine WX.seq ?_
  refine WX.reg ?_
  refine WO.md (MOp.box (cA rfl)) rfl rfl ?_
  rintro _ _ ⟨b1, rfl, rfl⟩
  refine WO.md (MOp.box (cA rfl)) rfl rfl ?_
  rintro _ _ ⟨b2, rfl, rfl⟩
  refine WO.q (.as (v := .int _ _) rfl) rfl rfl ?_
  refine WO.nil ?_
  refine WX.seq ?_
  refine WX.drw (Plan.of [0, 1, 2, 3, 5, 6, 7, 8, 4, 9, 10, 11, 12] .nil) _ mixed (by kernel_rfl) rfl (subL (pk_sub [0, 1])) ?_
  refine WP.q (i := 0) rfl (.fa (fa166_0 _ _)) rfl rfl rfl ?_
  refine WP.q (i := 1) rfl (.ldS (i := 1) rfl rfl rfl ti3 rfl) rfl rfl rfl ?_
  refine WP.q (i := 2) rfl (.fa (fa166_0 _ _)) rfl rfl rfl ?_
  refine WP.q (i := 3) rfl (.ldS (i := 0) rfl rfl rfl ti3 rfl) rfl rfl rfl ?_
  refine WP.q (i := 5) rfl (.fa (fa166_1 _ _)) rfl rfl rfl ?_
  refine WP.q (i := 6) rfl (.ldS (i := 1) rfl rfl rfl ti9 rfl) rfl rfl rfl ?_
  refine WP.q (i := 7) rfl (.fa (fa166_1 _ _)) rfl rfl rfl ?_
  refine WP.q (i := 8) rfl (.ldS (i := 0) rfl rfl rfl ti9 rfl) rfl rfl rfl ?_
  obtain ⟨y3, hy3, h⟩ := Option.bind_eq_some_iff.1 h
  refine WP.cS (i := 4) rfl rfl rfl (cmp_Compare_int_ok hy3) rfl rfl rfl ?_
  rintro _ rfl
  obtain ⟨y4, hy4, h⟩ := Option.bind_eq_some_iff.1 h
  refine WP.cS (i := 9) rfl rfl rfl (cmp_Compare_string_ok hy4) rfl rfl rfl ?_
  rintro _ rfl
  refine WP.md (i := 10) rfl (MOp.bs (l := ([y3, y4] : List Int)) sl40 (RL.cons Ri (RL.cons Ri RL.nil)) (lb rfl) rfl rfl) rfl rfl rfl ?_
  rintro v7 _ ⟨b5, o6, rfl⟩
  obtain ⟨_, _, _, _, _, rfl⟩ := o6.isl
  refine ⟨pkL (jx := [1, 2]) rfl, ?_⟩
  obtain ⟨y9, hy9, h⟩ := Option.bind_eq_some_iff.1 h
  refine WP.cS (i := 11) rfl rfl rfl (lendC (j := 0) o6 rfl fun _ K11 g10 => cmp_Or_int_ok g10 hy9) rfl rfl rfl ?_
  rintro _ rfl
  refine WP.q (i := 12) rfl (.as (v := .int _ _) rfl) rfl rfl rfl ?_
  refine WP.nil ?_
  obtain rfl := Option.some.inj h
  exact WX.ret (rs_ (rs_tmp rfl rs_nil)) fun st hp => ⟨(hp.pk [] (by decide)).le hB, rfl⟩
end Gab
end
section
set_option linter.unusedVariables false
set_option linter.unusedSimpArgs false
namespace Gab
open Go
theorem w64 {n : Int} (h1 : -9223372036854775808 ≤ n) (h2 : n ≤ 9223372036854775807) : wi64 n = n := wrap64 h1 h2
theorem iter_inl {σ ε : Type} {step : σ → Option (σ ⊕ ε)} {d : Nat} {s s' : σ} (h : step s = some (.inl s')) : iter step (d + 1) s = iter step d s' := by simp only [iter, h, Option.bind_some]
theorem iter_inr {σ ε : Type} {step : σ → Option (σ ⊕ ε)} {d : Nat} {s : σ} {e : ε} (h : step s = some (.inr e)) : iter step (d + 1) s = some e := by simp only [iter, h, Option.bind_some]
theorem iter_of {σ ε : Type} {step : σ → Option (σ ⊕ ε)} (I : Nat → σ → Prop) (Q : ε → Prop) (h : ∀ n s, I n s → (∃ n' s', n = n' + 1 ∧ step s = some (.inl s') ∧ I n' s') ∨ ∃ e, step s = some (.inr e) ∧ Q e) :
    ∀ {n d : Nat} {s : σ}, I n s → n < d → ∃ e, iter step d s = some e ∧ Q e
  | n, 0, s, _, hd => by omega
  | n, d + 1, s, hi, hd => by
    rcases h n s hi with ⟨n', s', rfl, hs, hi'⟩ | ⟨e, hs, he⟩
    · obtain ⟨e, h1, h2⟩ := iter_of I Q h hi' (d := d) (by omega)
      exact ⟨e, by rw [iter_inl hs]; exact h1, h2⟩
    · exact ⟨e, iter_inr hs, he⟩
theorem rd_nat {α : Type} {l : List α} {i : Nat} : rd l (i : Int) = l[i]? := by simp [rd]
theorem rd_ok {α : Type} {l : List α} {i : Nat} {x : α} (h : l[i]? = some x) : rd l (i : Int) = some x := by rw [rd_nat]; exact h
theorem appL_ok {α : Type} {n : Nat} {l m : List α} (h : l.length + m.length ≤ n) : appL n l m = some (l ++ m) := if_pos h
theorem cutL_ok {α : Type} {l : List α} {a b : Int} (h1 : 0 ≤ a) (h2 : a ≤ b) (h3 : b ≤ l.length) : cutL l a b = some ((l.take b.toNat).drop a.toNat) := if_pos ⟨h1, h2, h3⟩
theorem iter_fold {α σ ε : Type} {step : σ → Option (σ ⊕ ε)} {l : List α} (S : Nat → List α → σ) (e : ε) (h : ∀ (i : Nat) (x : α), l[i]? = some x → step (S i (l.take i)) = some (.inl (S (i + 1) (l.take (i + 1))))) (he : step (S l.length l) = some (.inr e)) :
    ∀ {d : Nat}, l.length < d → iter step d (S 0 []) = some e := by
  have key : ∀ (k i d : Nat), i + k = l.length → k < d → iter step d (S i (l.take i)) = some e := by
    intro k
    induction k with
    | zero =>
      intro i d hi hd
      obtain ⟨d, rfl⟩ : ∃ m, d = m + 1 := ⟨d - 1, by omega⟩
      have : i = l.length := by omega
      subst this
      rw [List.take_length]; exact iter_inr he
    | succ k ih =>
      intro i d hi hd
      obtain ⟨d, rfl⟩ : ∃ m, d = m + 1 := ⟨d - 1, by omega⟩
      rw [iter_inl (h i (l[i]'(by omega)) (List.getElem?_eq_getElem (by omega)))]
      exact ih (i + 1) d (by omega) (by omega)
  intro d hd
  simpa using key l.length 0 d (by omega) hd
end Gab
end
section
set_option linter.unusedSimpArgs false
set_option linter.unusedVariables false
set_option maxHeartbeats 4000000
set_option maxRecDepth 100000
namespace Gab
open Go Go.Proofs
def newMaps (H : Heap) (n : Nat) : Heap := {H with h222 := H.h222 ++ List.replicate n []}
def newNums (H : Heap) (n : Nat) : List Nat := (List.range n).map fun i => H.h222.length + 1 + i
theorem dir_buckets_eq (H : Heap) {n : Nat} (hn : n ≤ 1000000) : dir_buckets H (n : Int) = some (newMaps H n, newNums H n) := by
  unfold dir_buckets
  rw [ifS, if_pos ⟨by omega, by omega, by omega⟩]
  have key : ∀ (k : Nat) (s : Heap × (List Nat) × Int × Int), (∃ i, i + k = n ∧ s = (newMaps H i, newNums H i ++ List.replicate k 0, (n : Int), (i : Int))) →
      (∃ n' s', k = n' + 1 ∧ dir_buckets_l0 s.1 s.2.1 s.2.2.1 s.2.2.2 = some (.inl s') ∧ (∃ i, i + n' = n ∧ s' = (newMaps H i, newNums H i ++ List.replicate n' 0, (n : Int), (i : Int)))) ∨ ∃ e, dir_buckets_l0 s.1 s.2.1 s.2.2.1 s.2.2.2 = some (.inr e) ∧ e = (newMaps H n, newNums H n) := by
    rintro k _ ⟨i, hi, rfl⟩
    dsimp only
    unfold dir_buckets_l0
    cases k with
    | zero =>
      obtain rfl : i = n := by omega
      rw [if_neg (by omega)]
      exact .inr ⟨_, rfl, by simp⟩
    | succ k =>
      rw [if_pos (by omega)]
      refine .inl ⟨k, _, rfl, ?_, i + 1, by omega, rfl⟩
      have hl : (newNums H i).length = i := by simp [newNums]
      rw [rd_nat, List.getElem?_append_right (by omega), hl, Nat.sub_self]
      simp only [List.replicate_succ, List.getElem?_cons_zero, Option.bind_some]
      have e1 : wi64 ((i : Int) + 1) = ((i + 1 : Nat) : Int) := by rw [w64 (by omega) (by omega)]; rfl
      have e2 : (newNums H i ++ 0 :: List.replicate k 0).set (i : Int).toNat ((newMaps H i).h222.length + 1) = newNums H (i + 1) ++ List.replicate k 0 := by
        rw [Int.toNat_natCast, List.set_append_right _ _ (by omega), hl, Nat.sub_self, List.set_cons_zero]
        simp [newNums, newMaps, List.range_succ]; omega
      have e3 : ({newMaps H i with h222 := (newMaps H i).h222 ++ [[]]} : Heap) = newMaps H (i + 1) := by
        simp [newMaps, List.replicate_succ', List.append_assoc]
      rw [e1, e2, e3]
  obtain ⟨e, h1, h2⟩ := iter_of (step := fun (s : Heap × (List Nat) × Int × Int) => dir_buckets_l0 s.1 s.2.1 s.2.2.1 s.2.2.2) _ _ key (n := n) (d := n + 1) (s := (H, List.replicate n 0, (n : Int), 0)) ⟨0, by omega, by simp [newMaps, newNums]⟩ (by omega)
  simp only [Int.toNat_natCast, List.length_replicate, h1, h2, Option.bind_some]
theorem bucket_ro0 {B0 : Kn} {L : Own} {H : Heap} {Eh : Own} (hH : HR B0 H Eh) {a0 : Nat} {a1 : List UInt8} {v0_0 : AV} (g0_0 : HPt B0 210 v0_0 a0) {r : Nat} (h : dir_Dir_bucket H a0 a1 = some r) : ∀ st, Hp B0 (Eh ++ L) st → ASpec Tryz.prog 140 [v0_0, .str a1] st (CS B0 (Eh ++ L) fun v => ∃ w, v = w ∧ HMt B0 222 w r) := by
  unfold dir_Dir_bucket at h
  refine bodyA (A := []) (L := Eh ++ L) Tryz.func140 rfl (c := bodyOf Tryz.f140) rfl Tryz.ntmps140 (lb rfl) fun n0 => ?_
  have hB := KLe.refl B0
  have hH0 := hH
  refine WX.seq ?_
  refine WX.reg ?_
  refine WO.q (.as (v := .nilmap) rfl) rfl rfl ?_
  refine WO.nil ?_
  refine WX.seq ?_
  refine WX.drw (Plan.of [0, 1, 2, 3, 4, 7, 8, 9, 10, 11, 5, 6, 12, 13, 14, 15] .nil) _ mixed (by kernel_rfl) rfl (subE (pk_sub [])) ?_
  refine WP.q (i := 0) rfl (.mv (v := v0_0) rfl) rfl rfl rfl ?_
  obtain ⟨y1, hy1, h⟩ := Option.bind_eq_some_iff.1 h
  obtain ⟨b_y1, c_y1, e_y1, m_y1, r_y1, u_y1⟩ := hgetS (foc210 hH) g0_0 hy1
  subst e_y1
  obtain ⟨_, _, rfl, ⟨w2, rfl, hw2⟩, rfl⟩ := r_y1
  obtain ⟨_, _, _, _, _, rfl⟩ := hw2.isl
  refine WP.q (i := 1) rfl (.r fun _ => rfl) rfl rfl rfl ?_
  refine WP.q (i := 2) rfl (.fa (fa210_0 _ _)) rfl rfl rfl ?_
  refine WP.q (i := 3) rfl (.ldSm rfl (inM m_y1) rfl ti207 rfl) rfl rfl rfl ?_
  refine WP.q (i := 4) rfl (.mv (v := .str _) rfl) rfl rfl rfl ?_
  refine WP.q (i := 7) rfl (.mv (v := .ptr b_y1 0) rfl) rfl rfl rfl ?_
  refine WP.q (i := 8) rfl (.r fun _ => rfl) rfl rfl rfl ?_
  refine WP.q (i := 9) rfl (.fa (fa210_0 _ _)) rfl rfl rfl ?_
  refine WP.q (i := 10) rfl (.ldSm rfl (inM m_y1) rfl ti207 rfl) rfl rfl rfl ?_
  refine WP.q (i := 11) rfl (.len rfl rfl rfl (sl207.len hw2.isl)) (isQl rfl rfl ti207 rfl) rfl rfl ?_
  obtain ⟨y3, hy3, h⟩ := Option.bind_eq_some_iff.1 h
  refine WP.cS (i := 5) rfl rfl rfl (crc_Sum16_ok hy3) rfl rfl rfl ?_
  rintro _ rfl
  refine WP.q (i := 6) rfl (cvI ti249 ti3 rfl rfl) (isQc ti249 ti3 rfl) rfl rfl ?_
  obtain ⟨hk4, h⟩ := ifS_some h
  refine WP.q (i := 12) rfl (.bin (evrem hk4)) rfl rfl rfl ?_
  obtain ⟨y5, hy5, h⟩ := Option.bind_eq_some_iff.1 h
  obtain ⟨b_y5, o_y5, _, i_y5, p_y5, r_y5⟩ := hw2.at sl207 hy5 .i64
  obtain ⟨w6, rfl, hw6⟩ := r_y5
  refine WP.q (i := 13) rfl (.ia i_y5) rfl rfl rfl ?_
  refine WP.q (i := 14) rfl (.lp0 rfl p_y5 rfl ti222 rfl) rfl rfl rfl ?_
  refine WP.q (i := 15) rfl (.as (v := w6) rfl) rfl rfl rfl ?_
  refine WP.nil ?_
  obtain rfl := Option.some.inj h
  exact WX.ret (rs_ (rs_tmp rfl rs_nil)) fun st hp => ⟨(hp.pk [] (by decide)), _, rfl, hw6⟩
theorem bucket_ro {B0 : Kn} {L M : Own} {H : Heap} {E : Own} (hM : (E ++ L).Perm M) (hH : HR B0 H E) {a0 : Nat} {a1 : List UInt8} {v0_0 : AV} {r : Nat} (g0_0 : HPt B0 210 v0_0 a0) (h : dir_Dir_bucket H a0 a1 = some r) : ∀ st, Hp B0 M st → ASpec Tryz.prog 140 [v0_0, .str a1] st (CS B0 M fun v => HMt B0 222 v r) :=
  fun st hp => (bucket_ro0 hH g0_0 h st (hp.perm hM.symm)).mono fun v s ⟨h1, w, e, h2⟩ => ⟨h1.perm hM, e ▸ h2⟩
theorem perm_call' {A E L : Own} : (E ++ (A ++ L)).Perm (A ++ (E ++ L)) := by
  rw [← List.append_assoc, ← List.append_assoc]
  exact List.perm_append_comm.append_right _
theorem hobj_set {α : Type} {l : List α} {n : Nat} {x y : α} (h : hobj l n = some x) : hobj (hset l n y) n = some y := by
  obtain ⟨i, rfl, hi⟩ := hobj_some h
  simp [hobj, hset, (List.getElem?_eq_some_iff.1 hi).1]
theorem hobj_i {α : Type} {l : List α} {i : Nat} : hobj l (i + 1) = l[i]? := by simp [hobj]
theorem mapM_at {α β : Type} {f : α → Option β} : ∀ {l : List α} {r : List β}, l.mapM f = some r → r.length = l.length ∧ ∀ (i : Nat) (x : α), l[i]? = some x → ∃ y, r[i]? = some y ∧ f x = some y
  | [], r, h => by simp at h; subst h; exact ⟨rfl, by simp⟩
  | a :: l, r, h => by
    simp only [List.mapM_cons, Option.bind_eq_bind, Option.bind_eq_some_iff, Option.pure_def] at h
    obtain ⟨y, hy, ys, hys, h⟩ := h
    simp at h; subst h
    obtain ⟨h1, h2⟩ := mapM_at hys
    refine ⟨by simp [h1], fun i x hi => ?_⟩
    cases i with
    | zero => simp at hi; subst hi; exact ⟨y, rfl, hy⟩
    | succ i => simpa using h2 i x (by simpa using hi)
theorem hashN_lt {n : Nat} (hn : 0 < n) {k : List UInt8} (h0 : 0 ≤ hashN n k) : (hashN n k).toNat < n := by
  have : hashN n k < n := Int.tmod_lt_of_pos _ (by omega)
  omega
theorem grown_mid {H : Heap} {a0 : Nat} {d : List Nat × Int} {es : List (List UInt8 × Int)} {i : Nat} (hi : i < 2 * d.1.length) : hobj (grown H a0 d es).h222 (H.h222.length + 1 + i) = some (es.filter fun e => decide (hashN (2 * d.1.length) e.1 = (i : Int))) := by
  rw [show H.h222.length + 1 + i = (H.h222.length + i) + 1 by omega, hobj_i]
  show (H.h222 ++ _)[_]? = _
  rw [List.getElem?_append_right (by omega), show H.h222.length + i - H.h222.length = i by omega]
  simp [hi]
theorem grown_old {H : Heap} {a0 : Nat} {d : List Nat × Int} {es x : List (List UInt8 × Int)} {m : Nat} (h : hobj H.h222 m = some x) : hobj (grown H a0 d es).h222 m = some x := by
  obtain ⟨i, rfl, hi⟩ := hobj_some h
  rw [hobj_i]
  show (H.h222 ++ _)[_]? = _
  rw [List.getElem?_append_left (List.getElem?_eq_some_iff.1 hi).1, hi]
theorem grown_zero {H : Heap} {a0 : Nat} {d : List Nat × Int} : grown H a0 d [] = {newMaps H (2 * d.1.length) with h210 := hset H.h210 a0 (newNums H (2 * d.1.length), d.2)} := by
  unfold grown newMaps newNums
  congr 1
  congr 1
  simp [List.map_const']
theorem bucket_grown {H : Heap} {a0 : Nat} {d : List Nat × Int} {es : List (List UInt8 × Int)} {k : List UInt8} (hd : hobj H.h210 a0 = some d) (hn : 1 ≤ d.1.length) (hc : (crc_Sum16 k).isSome = true) (h0 : 0 ≤ hashN (2 * d.1.length) k) :
    dir_Dir_bucket (grown H a0 d es) a0 k = some (H.h222.length + 1 + (hashN (2 * d.1.length) k).toNat) := by
  have hlt := hashN_lt (n := 2 * d.1.length) (by omega) h0
  obtain ⟨c, hc⟩ := Option.isSome_iff_exists.1 hc
  unfold dir_Dir_bucket
  have e1 : hobj (grown H a0 d es).h210 a0 = some ((List.range (2 * d.1.length)).map (fun i => H.h222.length + 1 + i), d.2) := hobj_set hd
  rw [e1, Option.bind_some, hc, Option.bind_some, ifS, if_pos (by rw [List.length_map, List.length_range]; omega)]
  have e2 : Int.tmod (wi64 c) ((List.map (fun i => H.h222.length + 1 + i) (List.range (2 * d.1.length))).length : Int) = hashN (2 * d.1.length) k := by unfold hashN; rw [hc, Option.getD_some]; simp
  simp only [e2]
  obtain ⟨m, hm⟩ := Int.eq_ofNat_of_zero_le h0
  rw [hm] at hlt ⊢
  simp only [Int.ofNat_eq_natCast, Int.toNat_natCast] at hlt ⊢
  rw [rd_nat, List.getElem?_map, List.getElem?_range hlt]
  rfl
theorem mput_new {x : List (List UInt8 × Int)} {k : List UInt8} {v : Int} (h : ∀ e ∈ x, e.1 ≠ k) : mput x k v = x ++ [(k, v)] := by
  induction x with
  | nil => rfl
  | cons a x ih =>
    unfold mput
    rw [if_neg (h a List.mem_cons_self), ih fun e he => h e (List.mem_cons_of_mem _ he)]; rfl
theorem grown_put {H : Heap} {a0 : Nat} {d : List Nat × Int} {es : List (List UInt8 × Int)} {p : List UInt8 × Int} (hn : 1 ≤ d.1.length) (h0 : 0 ≤ hashN (2 * d.1.length) p.1) (hk : ∀ e ∈ es, e.1 ≠ p.1) :
    ({grown H a0 d es with h222 := hset (grown H a0 d es).h222 (H.h222.length + 1 + (hashN (2 * d.1.length) p.1).toNat) (mput (es.filter fun e => decide (hashN (2 * d.1.length) e.1 = ((hashN (2 * d.1.length) p.1).toNat : Int))) p.1 p.2)} : Heap) = grown H a0 d (es ++ [p]) := by
  have hlt := hashN_lt (n := 2 * d.1.length) (by omega) h0
  obtain ⟨m, hm⟩ := Int.eq_ofNat_of_zero_le h0
  rw [mput_new fun e he => hk e (List.mem_filter.1 he).1]
  unfold grown hset
  rw [hm] at hlt ⊢
  simp only [Int.toNat_natCast, Int.ofNat_eq_natCast] at hlt ⊢
  congr 1
  rw [List.set_append_right _ _ (by omega), show H.h222.length + 1 + m - 1 - H.h222.length = m by omega]
  congr 1
  apply List.ext_getElem (by simp)
  intro i h1 h2
  simp at h1
  rw [List.getElem_set]
  by_cases hi : m = i
  · subst hi
    simp [hm]
  · rw [if_neg hi]
    simp [hm]
    omega
theorem HR.grown {B : Kn} {H : Heap} {a0 : Nat} {d : List Nat × Int} {es es' : List (List UInt8 × Int)} {E : Own} (h : HR B (grown H a0 d es) E) (hp : es.Perm es') : HR B (grown H a0 d es') E := by
  obtain ⟨pre, F1, post, rfl, s1, hk⟩ := foc222 h
  refine hk B (Gab.grown H a0 d es').h222 F1 (KLw.refl _) (fun _ _ => rfl) ⟨?_, ?_, fun i x hi => ?_⟩
  · rw [s1.len]; simp [Gab.grown]
  · rw [s1.ad]; simp [Gab.grown]
  · have hi' : (H.h222 ++ (List.range (2 * d.1.length)).map fun (i : Nat) => es'.filter fun e => decide (hashN (2 * d.1.length) e.1 = (i : Int)))[i]? = some x := hi
    rcases Nat.lt_or_ge i H.h222.length with hlt | hge
    · rw [List.getElem?_append_left hlt] at hi'
      exact s1.at_ i x (by show (H.h222 ++ _)[i]? = _; rw [List.getElem?_append_left hlt]; exact hi')
    · rw [List.getElem?_append_right hge, List.getElem?_map] at hi'
      obtain ⟨k, hk, rfl⟩ := Option.map_eq_some_iff.1 hi'
      obtain ⟨b, u, h1, h2, c, cc, h3, h4⟩ := s1.at_ i (es.filter fun e => decide (hashN (2 * d.1.length) e.1 = (k : Int))) (by show (H.h222 ++ _)[i]? = _; rw [List.getElem?_append_right hge, List.getElem?_map, hk]; rfl)
      exact ⟨b, u, h1, h2, c, cc, h3, h4.perm (hp.filter _)⟩
def dir_Dir_grow_P (B : Kn) (L : Own) (r : Heap) : AV → St → Prop := CH B L fun B' X E' v => v = .tup [] ∧ X = [] ∧ HR B' r E'
theorem dir_Dir_grow_ok {B0 : Kn} {L : Own} {H : Heap} {E : Own} (hH : HR B0 H E) {a0 : Nat} {v0_0 : AV} {r : Heap} (g0_0 : HPt B0 210 v0_0 a0) (h : dir_Dir_grow H a0 = some r) : ∀ st, Hp B0 (E ++ L) st → ASpec Tryz.prog 162 [v0_0] st (dir_Dir_grow_P B0 L r) := by
  unfold dir_Dir_grow at h
  obtain ⟨d, hd, h⟩ := Option.bind_eq_some_iff.1 h
  obtain ⟨ms, hms, h⟩ := Option.bind_eq_some_iff.1 h
  obtain ⟨hnd, h⟩ := ifS_some h
  obtain ⟨⟨hn1, hn2⟩, h⟩ := ifS_some h
  obtain ⟨hcrc, h⟩ := ifS_some h
  obtain rfl := Option.some.inj h
  obtain ⟨hmsl, hmsa⟩ := mapM_at hms
  refine bodyA (A := []) (L := E ++ L) Tryz.func162 rfl (c := bodyOf Tryz.f162) rfl Tryz.ntmps162 (lb rfl) fun n0 => ?_
  have hB := KLw.refl B0
  refine WX.seq ?_
  refine WX.reg ?_
  refine WO.q (.mv (v := v0_0) rfl) rfl rfl ?_
  obtain ⟨b_y1, c_y1, e_y1, m_y1, r_y1, u_y1⟩ := hgetS (foc210 hH) g0_0 hd
  subst e_y1
  obtain ⟨_, _, rfl, ⟨w2, rfl, hw2⟩, rfl⟩ := r_y1
  obtain ⟨_, _, _, _, _, rfl⟩ := hw2.isl
  refine WO.q (.r fun _ => rfl) rfl rfl ?_
  refine WO.q (.fa (fa210_0 _ _)) rfl rfl ?_
  refine WO.ql (.ldSm rfl (inE m_y1) rfl ti207 rfl) rfl rfl ?_
  refine WO.q (.as (v := .sl _ _ _ _ _ _) rfl) rfl rfl ?_
  refine WO.nil ?_
  refine WX.seq ?_
  refine WX.reg ?_
  refine WO.q (.mv (v := .ptr b_y1 0) rfl) rfl rfl ?_
  refine WO.q (.mv (v := .sl _ _ _ _ _ _) rfl) rfl rfl ?_
  refine WO.q (.len rfl rfl rfl (sl207.len hw2.isl)) rfl rfl ?_
  refine WO.q (.r fun _ => rfl) rfl rfl ?_
  have e2 : wi64 (2 * (d.1.length : Int)) = ((2 * d.1.length : Nat) : Int) := by rw [w64 (by omega) (by omega)]; omega
  have hbk := dir_buckets_eq H (n := 2 * d.1.length) (by omega)
  rw [← e2] at hbk
  refine WO.ch rfl rfl (dir_buckets_ok hH hbk) rfl rfl rfl ?_
  rintro _ B _ E hK ⟨w0, b0, nn0, c0, rfl, rfl, hH, h3⟩
  obtain ⟨_, _, _, _, _, rfl⟩ := h3.isl
  replace g0_0 := g0_0.upw hK
  replace hw2 := hw2.upw hK
  replace hB := hB.trans hK
  refine WO.q (.r fun _ => rfl) rfl rfl ?_
  refine WO.q (.fa (fa210_0 _ _)) rfl rfl ?_
  refine WO.fz (j := 0) h3 rfl ?_
  intro B hK g11
  replace hH := hH.up hK
  replace g0_0 := g0_0.up hK
  replace hw2 := hw2.up hK
  replace hB := hB.trans hK.w
  obtain ⟨c_y2, m_y2, r_y2, u_y2⟩ := hgetP (foc210 hH) g0_0 hd
  obtain ⟨_, _, rfl, ⟨w4, rfl, hw4⟩, rfl⟩ := r_y2
  obtain ⟨_, _, _, _, _, rfl⟩ := hw4.isl
  obtain ⟨_, z_1, k_1⟩ := u_y2 _ (newNums H (2 * d.1.length), d.2) (Rp (Rl g11) Ri)
  refine WO.en (MOpE.st rfl (cL rfl) z_1 ti207 rfl rfl (lb rfl) rfl) rfl ?_
  rintro _ B _ E ⟨rfl, rfl, rfl⟩
  replace hH := (k_1 : HR _ _ _)
  refine WO.nil ?_
  replace hH : HR B (grown H a0 d []) E := by rw [grown_zero]; exact hH
  refine WX.seq ?_
  refine WX.reg ?_
  refine WO.q (.mv (v := .sl _ _ _ _ _ _) rfl) rfl rfl ?_
  refine WO.q (.len rfl rfl rfl (sl207.len hw2.isl)) rfl rfl ?_
  refine WO.q (.mv (v := .int _ _) rfl) rfl rfl ?_
  refine WO.nil ?_
  refine WX.block ?_
  refine WX.loop ?_
  refine WX.keep [0, 18, 19, 20] (WX.pk [] (by decide) ?_) rfl
  refine WX.loopN (I := fun n fr B A E => ∃ (i : Nat) (done : List (List UInt8 × Int)) (v : AV), n + i = d.1.length ∧ KLw B0 B ∧ HR B (grown H a0 d done) E ∧ HPt B 210 (.ptr b_y1 0) a0 ∧ RSl (Ty.hm 222) B v d.1 ∧ (done ++ (ms.drop i).flatten).Perm ms.flatten ∧ fr = [(0, .ptr b_y1 0), (18, v), (19, .int .i64 (d.1.length : Int)), (20, .int .i64 (i : Int))] ∧ A = []) ?_ d.1.length _ _ _ _ ⟨0, [], _, by omega, hB, hH, g0_0, hw2, by simp, rfl, rfl⟩
  rintro n _ B _ E ⟨i, done, v, hn, hB, hH, hp, hs, hperm, rfl, rfl⟩ ih
  obtain ⟨_, _, _, _, _, rfl⟩ := hs.isl
  refine WX.seq ?_
  refine WX.reg ?_
  refine WO.q (.r fun _ => rfl) rfl rfl ?_
  refine WO.nil ?_
  refine WX.seq ?_
  rcases bsp (decide ((i : Int) < (d.1.length : Int))) with k6 | k6
  · have q_k6 := of_decide_eq_true k6
    refine WX.condT rfl k6 ?_
    refine WX.skip ?_
    refine WX.seq ?_
    refine WX.block ?_
    refine WX.seq ?_
    refine WX.reg ?_
    obtain ⟨m, hm⟩ : ∃ m, d.1[i]? = some m := ⟨_, List.getElem?_eq_getElem (by omega)⟩
    obtain ⟨y, hy, hym⟩ := hmsa i m hm
    obtain ⟨b_7, o_7, _, i_7, p_7, r_7⟩ := hs.at sl207 (rd_ok hm) .i64
    obtain ⟨w8, rfl, hw8⟩ := r_7
    refine WO.q (.ia i_7) rfl rfl ?_
    refine WO.q (.lp0 rfl p_7 rfl ti222 rfl) rfl rfl ?_
    refine WO.q (.as (v := w8) rfl) rfl rfl ?_
    refine WO.nil ?_
    obtain ⟨j, rfl, hj⟩ := hobj_some hym
    rcases hw8 with ⟨e, _⟩ | ⟨bm, j', hj', hbm, rfl⟩
    · omega
    obtain rfl : j = j' := by omega
    obtain ⟨u, y', hy', hmem, ⟨es, c, rfl, hr⟩, _⟩ := (foc222 hH).get hbm
    have hyy : y' = y := by
      have := grown_old (a0 := a0) (d := d) (es := done) hym
      rw [hobj_i, hy'] at this
      exact Option.some.inj this
    subst hyy
    obtain ⟨⟨ps, hps, hlen, hrel⟩, hnk, hnb, hlb⟩ := hr
    have hrel' : ∀ (i : Nat) (e : AV × AV × Nat), es[i]? = some e → ∃ p : List UInt8 × Int, ps[i]? = some p ∧ e.1 = .str p.1 ∧ e.2.1 = .int .i64 p.2 := fun i e he => by
      obtain ⟨p, h1, h2, h3⟩ := hrel i e.1 e.2.1 e.2.2 he
      exact ⟨p, h1, h2, h3⟩
    refine WX.seq ?_
    refine WX.reg ?_
    refine WO.q (.mv (v := .map bm) rfl) rfl rfl ?_
    refine WO.md (MOp.range mt222 (inE hmem) rfl) rfl rfl ?_
    rintro _ _ ⟨bi, rfl, rfl⟩
    refine WO.nil ?_
    refine WX.block ?_
    refine WX.loop ?_
    refine WX.keep [0, 18, 19, 20, 25] (WX.pk [0] (by decide) ?_) rfl
    have hrest : ms.drop i = y' :: ms.drop (i + 1) := by
      obtain ⟨h1, h2⟩ := List.getElem?_eq_some_iff.1 hy
      rw [List.drop_eq_getElem_cons h1, h2]
    refine WX.loopN (I := fun n fr B A E => ∃ (done : List (List UInt8 × Int)) (seen : List Nat) (v : AV), n = (Lft es ps seen).length ∧ KLw B0 B ∧ HR B (grown H a0 d done) E ∧ HPt B 210 (.ptr b_y1 0) a0 ∧ RSl (Ty.hm 222) B v d.1 ∧ (B.ad 222)[j]? = some bm ∧ (bm, some (OV.m es c)) ∈ E ∧ (done ++ (Lft es ps seen ++ (ms.drop (i + 1)).flatten)).Perm ms.flatten ∧ fr = [(0, .ptr b_y1 0), (18, v), (19, .int .i64 (d.1.length : Int)), (20, .int .i64 (i : Int)), (25, .ptr bi 0)] ∧ A = [(bi, some (OV.i (some bm) c seen c))]) ?_ (Lft es ps []).length _ _ _ _ ⟨done, [], _, rfl, hB, hH, hp, hs, hbm, hmem, ?_, rfl, rfl⟩
    · clear hH hp hs hbm hmem hperm hB
      rintro k _ B _ E ⟨done, seen, v, hk, hB, hH, hp, hs, hbm, hmem, hperm, rfl, rfl⟩ ih2
      obtain ⟨_, _, _, _, _, rfl⟩ := hs.isl
      refine WX.seq ?_
      refine WX.reg ?_
      refine WO.next (inE (A := []) hmem) rfl hlb (Nat.le_refl _) rfl rfl (fun hall => ?_) (fun e he hse => ?_)
      · refine WO.q (.r fun _ => rfl) rfl rfl ?_
        refine WO.nil ?_
        refine WX.seq ?_
        refine WX.condF rfl rfl ?_
        refine WX.exit rfl ?_
        refine WX.reg ?_
        refine WO.q (.r fun _ => rfl) rfl rfl ?_
        refine WO.q (.mv (v := .int _ _) rfl) rfl rfl ?_
        refine WO.nil ?_
        refine WX.keepL [0, 18, 19, 20] (WX.pk [] (by decide) ?_) rfl
        refine ih (n - 1) _ _ _ _ (by omega) ⟨i + 1, done, _, by omega, hB, hH, hp, hs, ?_, ?_, rfl⟩
        · rw [Lft.none hall] at hperm; exact hperm
        · have e1 : wi64 ((i : Int) + 1) = ((i + 1 : Nat) : Int) := by rw [w64 (by omega) (by omega)]; omega
          exact congrArg (fun z : Int => ([(0, AV.ptr b_y1 0), (18, _), (19, _), (20, AV.int .i64 z)] : Fr)) e1
      · obtain ⟨q, hq⟩ := List.mem_iff_getElem?.1 he
        obtain ⟨p, hp1, hp2, hp3⟩ := hrel' q e hq
        have hpick := Lft.pick (p := p) hnb hq hp1 hse
        obtain ⟨ek, ev, eb⟩ := e
        dsimp only at hp2 hp3 hpick hse
        subst hp2; subst hp3
        refine WO.q (.r fun _ => rfl) rfl rfl ?_
        refine WO.nil ?_
        refine WX.seq ?_
        refine WX.condT rfl rfl ?_
        refine WX.skip ?_
        refine WX.block ?_
        refine WX.seq ?_
        refine WX.reg ?_
        refine WO.ql (QOp.entry rfl (List.mem_cons_self) (List.mem_cons_of_mem _ (inE (A := []) hmem)) hnb he) rfl rfl ?_
        refine WO.q (.r fun _ => rfl) rfl rfl ?_
        refine WO.q (.r fun _ => rfl) rfl rfl ?_
        refine WO.q (.as (v := .str _) rfl) rfl rfl ?_
        refine WO.q (.as (v := .int _ _) rfl) rfl rfl ?_
        refine WO.nil ?_
        refine WX.reg ?_
        refine WO.q (.mv (v := .ptr b_y1 0) rfl) rfl rfl ?_
        refine WO.q (.mv (v := .str _) rfl) rfl rfl ?_
        have hin : p ∈ ms.flatten := hperm.subset (List.mem_append_right _ (List.mem_append_left _ (hpick.symm.subset List.mem_cons_self)))
        obtain ⟨hc1, hc2⟩ := hcrc p hin
        refine WO.cS rfl rfl (bucket_ro (E := E) (L := _ ++ L) perm_call' hH hp (bucket_grown hd hn1 hc1 hc2)) rfl rfl rfl ?_
        intro v9 h9
        refine WO.q (.mv (v := .str _) rfl) rfl rfl ?_
        refine WO.q (.mv (v := .int _ _) rfl) rfl rfl ?_
        have hhl := hashN_lt (n := 2 * d.1.length) (by omega) hc2
        have hperm' : ((done ++ [p]) ++ (Lft es ps (seen ++ [eb]) ++ (ms.drop (i + 1)).flatten)).Perm ms.flatten := by
          refine List.Perm.trans ?_ hperm
          rw [List.append_assoc]
          exact List.Perm.append_left _ ((hpick.append_right _).symm)
        have hkn : ∀ e ∈ done, e.1 ≠ p.1 := fun e he hee => by
          have h1 := (hperm'.map (·.1)).nodup_iff.2 hnd
          rw [List.map_append, List.map_append, List.append_assoc] at h1
          exact (List.nodup_append.1 h1).2.2 e.1 (List.mem_map.2 ⟨e, he, rfl⟩) p.1 (by simp) hee
        refine WO.en (MOpE.putF mt222 (foc222 hH) h9 (grown_mid hhl) kS kI rfl rfl rfl) rfl ?_
        rintro _ B' _ E' ⟨rfl, rfl, hH', hst⟩
        have hmem' := hst j bm _ (by have := (List.getElem?_eq_some_iff.1 hj).1; omega) hbm hmem
        replace hH' := (hH' : HR _ _ _)
        rw [grown_put hn1 hc2 hkn] at hH'
        refine WO.nil ?_
        refine WX.keepL [0, 18, 19, 20, 25] (WX.pk [0] (by decide) ?_) rfl
        refine ih2 (k - 1) _ _ _ _ (by have := hpick.length_eq; rw [List.length_cons] at this; omega) ⟨done ++ [p], seen ++ [eb], _, by have := hpick.length_eq; rw [List.length_cons] at this; omega, hB, hH', hp, hs, hbm, hmem', hperm', rfl, rfl⟩
    · rw [Lft.zero hlen]
      refine List.Perm.trans ?_ hperm
      rw [hrest, List.flatten_cons]
      exact List.Perm.append_left _ (hps.append_right _)
  · have q_k6 := of_decide_eq_false k6
    refine WX.condF rfl k6 ?_
    refine WX.exit rfl ?_
    have hin : i = d.1.length := by omega
    rw [List.drop_of_length_le (by omega), List.flatten_nil, List.append_nil] at hperm
    have hfin : HR B (grown H a0 d ms.flatten) E := hH.grown hperm
    exact WX.fin (rs_ rs_nil) fun st hp => ⟨_, _, _, hB, (hp.pk [] (by decide)), rfl, rfl, hfin⟩
end Gab
end
section
set_option linter.unusedVariables false
set_option linter.unusedSimpArgs false
namespace Gab
open Go Go.Proofs Go.Sort
theorem leB (a b : List UInt8) : (!Op.bytesLess b a) = decide (a ≤ b) := by
  rw [bytesLess_eq]
  by_cases h : b < a
  · have h' : ¬ a ≤ b := fun h2 => List.not_lt.2 h2 h
    simp [h, h']
  · have h' : a ≤ b := List.not_lt.1 h
    simp [h, h']
theorem sortE_eq (l : List (List UInt8 × Int)) : sortE l = l.mergeSort fun a b => decide (a.1 ≤ b.1) := by
  unfold sortE
  congr 1
  funext a b
  exact leB _ _
theorem sortE_sorted (l : List (List UInt8 × Int)) : (sortE l).Pairwise fun a b => a.1 ≤ b.1 := by
  rw [sortE_eq]
  have := List.pairwise_mergeSort (le := fun (a b : List UInt8 × Int) => decide (a.1 ≤ b.1)) (fun a b c h1 h2 => decide_eq_true (List.le_trans (of_decide_eq_true h1) (of_decide_eq_true h2))) (fun a b => by
    rcases List.le_total a.1 b.1 with h | h
    · simp [h]
    · simp [h]) l
  exact this.imp fun h => of_decide_eq_true h
theorem sortE_perm0 (l : List (List UInt8 × Int)) : (sortE l).Perm l := List.mergeSort_perm _ _
theorem key_inj {l : List (List UInt8 × Int)} (hn : (l.map (·.1)).Nodup) {a b : List UInt8 × Int} (ha : a ∈ l) (hb : b ∈ l) (h : a.1 = b.1) : a = b := by
  induction l with
  | nil => cases ha
  | cons x l ih =>
    rw [List.map_cons, List.nodup_cons] at hn
    rcases List.mem_cons.1 ha with e1 | ha' <;> rcases List.mem_cons.1 hb with e2 | hb'
    · rw [e1, e2]
    · exact absurd (List.mem_map.2 ⟨b, hb', by rw [← h, e1]⟩) hn.1
    · exact absurd (List.mem_map.2 ⟨a, ha', by rw [h, e2]⟩) hn.1
    · exact ih hn.2 ha' hb'
theorem sortE_unique {l r : List (List UInt8 × Int)} (h : r.Perm l) (hn : (l.map (·.1)).Nodup) (hs : r.Pairwise fun a b => a.1 ≤ b.1) : r = sortE l :=
  List.Perm.eq_of_pairwise (le := fun a b => a.1 ≤ b.1) (fun a b ha hb h1 h2 => key_inj hn (h.subset ha) ((sortE_perm0 l).subset hb) (List.le_antisymm h1 h2)) hs (sortE_sorted l) (h.trans (sortE_perm0 l).symm)
theorem sortE_perm {l l' : List (List UInt8 × Int)} (h : l.Perm l') (hn : (l.map (·.1)).Nodup) : sortE l = sortE l' :=
  sortE_unique ((sortE_perm0 l).trans h) ((h.map _).nodup_iff.1 hn) (sortE_sorted l)
end Gab
end
section
set_option linter.unusedSimpArgs false
set_option linter.unusedVariables false
set_option maxHeartbeats 4000000
set_option maxRecDepth 100000
namespace Go.Proofs
open Go.Shelf
def Tryz.sortL_ren : Go.Shelf.Ren := ⟨fun | 6 => 128 | 15 => 156 | 14 => 157 | 28 => 182 | 29 => 183 | 20 => 184 | 21 => 185 | 22 => 186 | 23 => 187 | 24 => 188 | 25 => 189 | 26 => 190 | 27 => 191 | 46 => 213 | 47 => 209 | 48 => 210 | 49 => 214 | 50 => 215 | 57 => 222 | n => n, fun | 22 => 56 | 24 => 60 | 25 => 224 | 3 => 3 | 39 => 244 | 0 => 0 | 53 => 270 | 55 => 272 | 4 => 4 | 46 => 264 | 45 => 263 | 50 => 183 | 5 => 5 | 9 => 9 | 66 => 292 | 70 => 296 | 76 => 304 | 77 => 44 | n => n, fun n => n⟩
theorem Tryz.sortL : Go.Proofs.SlLaysF0.n6 Tryz.prog Tryz.sortL_ren := {
  mixed := by kernel_rfl,
  f6 := ⟨Tryz.f128.name, by decide, Tryz.func128.trans (congrArg some (by kernel_rfl))⟩,
  f14 := ⟨Tryz.f157.name, by decide, Tryz.func157.trans (congrArg some (by kernel_rfl))⟩,
  f15 := Tryz.func156.trans (congrArg some (by kernel_rfl)),
  f20 := ⟨Tryz.f184.name, by decide, Tryz.func184.trans (congrArg some (by kernel_rfl))⟩,
  f21 := ⟨Tryz.f185.name, by decide, Tryz.func185.trans (congrArg some (by kernel_rfl))⟩,
  f22 := ⟨Tryz.f186.name, by decide, Tryz.func186.trans (congrArg some (by kernel_rfl))⟩,
  f23 := ⟨Tryz.f187.name, by decide, Tryz.func187.trans (congrArg some (by kernel_rfl))⟩,
  f24 := ⟨Tryz.f188.name, by decide, Tryz.func188.trans (congrArg some (by kernel_rfl))⟩,
  f25 := ⟨Tryz.f189.name, by decide, Tryz.func189.trans (congrArg some (by kernel_rfl))⟩,
  f26 := ⟨Tryz.f190.name, by decide, Tryz.func190.trans (congrArg some (by kernel_rfl))⟩,
  f27 := ⟨Tryz.f191.name, by decide, Tryz.func191.trans (congrArg some (by kernel_rfl))⟩,
  f28 := Tryz.func182.trans (congrArg some (by kernel_rfl)),
  f29 := Tryz.func183.trans (congrArg some (by kernel_rfl)),
  f46 := ⟨Tryz.f213.name, by decide, Tryz.func213.trans (congrArg some (by kernel_rfl))⟩,
  f47 := Tryz.func209.trans (congrArg some (by kernel_rfl)),
  f48 := Tryz.func210.trans (congrArg some (by kernel_rfl)),
  f49 := ⟨Tryz.f214.name, by decide, Tryz.func214.trans (congrArg some (by kernel_rfl))⟩,
  f50 := ⟨Tryz.f215.name, by decide, Tryz.func215.trans (congrArg some (by kernel_rfl))⟩,
  f57 := ⟨Tryz.f222.name, by decide, Tryz.func222.trans (congrArg some (by kernel_rfl))⟩,
  t0 := Tryz.underlying0,
  a0 := Tryz.isAgg0,
  z0 := Tryz.sizeOf0,
  v0 := Tryz.zeroValue0,
  t3 := Tryz.underlying3,
  a3 := Tryz.isAgg3,
  z3 := Tryz.sizeOf3,
  v3 := Tryz.zeroValue3,
  t4 := Tryz.underlying4,
  a4 := Tryz.isAgg4,
  z4 := Tryz.sizeOf4,
  v4 := Tryz.zeroValue4,
  t5 := Tryz.underlying5,
  a5 := Tryz.isAgg5,
  z5 := Tryz.sizeOf5,
  v5 := Tryz.zeroValue5,
  t9 := Tryz.underlying9,
  a9 := Tryz.isAgg9,
  z9 := Tryz.sizeOf9,
  v9 := Tryz.zeroValue9,
  t22 := Tryz.underlying56,
  a22 := Tryz.isAgg56,
  z22 := Tryz.sizeOf56,
  v22 := Tryz.zeroValue56,
  t25 := Tryz.underlying224,
  a25 := Tryz.isAgg224,
  z25 := Tryz.sizeOf224,
  v25 := Tryz.zeroValue224,
  t39 := Tryz.underlying244,
  a39 := Tryz.isAgg244,
  z39 := Tryz.sizeOf244,
  v39 := Tryz.zeroValue244,
  t45 := Tryz.underlying263,
  a45 := Tryz.isAgg263,
  z45 := Tryz.sizeOf263,
  v45 := Tryz.zeroValue263,
  t46 := Tryz.underlying264,
  a46 := Tryz.isAgg264,
  z46 := Tryz.sizeOf264,
  v46 := Tryz.zeroValue264,
  t50 := Tryz.underlying183,
  a50 := Tryz.isAgg183,
  z50 := Tryz.sizeOf183,
  v50 := Tryz.zeroValue183,
  t53 := Tryz.underlying270,
  a53 := Tryz.isAgg270,
  z53 := Tryz.sizeOf270,
  v53 := Tryz.zeroValue270,
  t55 := Tryz.underlying272,
  a55 := Tryz.isAgg272,
  z55 := Tryz.sizeOf272,
  v55 := Tryz.zeroValue272,
  t66 := Tryz.underlying292,
  a66 := Tryz.isAgg292,
  z66 := Tryz.sizeOf292,
  v66 := Tryz.zeroValue292,
  t70 := Tryz.underlying296,
  a70 := Tryz.isAgg296,
  z70 := Tryz.sizeOf296,
  v70 := Tryz.zeroValue296,
  t76 := Tryz.underlying304,
  a76 := Tryz.isAgg304,
  z76 := Tryz.sizeOf304,
  v76 := Tryz.zeroValue304,
  t77 := Tryz.underlying44,
  a77 := Tryz.isAgg44,
  z77 := Tryz.sizeOf44,
  v77 := Tryz.zeroValue44 }
end Go.Proofs
namespace Gab
open Go Go.Proofs Go.Sort Go.Shelf
def cfE (x y : List UInt8 × Int) : Int := if Op.bytesLess x.1 y.1 = true then -1 else if x.1 = y.1 then 0 else 1
theorem cfE_eq (x y : List UInt8 × Int) : dir_Dir_List_1 x y = some (cfE x y) := by
  unfold dir_Dir_List_1 cmp_Compare_string cmp_isNaN_string cfE
  by_cases h : Op.bytesLess x.1 y.1 = true
  · simp [h]
  · have h3 : Op.bytesLess y.1 y.1 = false := by rw [bytesLess_eq]; exact decide_eq_false (List.lt_irrefl _)
    by_cases h2 : x.1 = y.1 <;> simp [h, h2, h3]
theorem ltE (x y : List UInt8 × Int) : ltOf cfE x y = decide (x.1 < y.1) := by
  unfold ltOf cfE
  rw [bytesLess_eq]
  by_cases h : x.1 < y.1
  · simp [h]
  · have h3 := List.lt_irrefl y.1
    by_cases h2 : x.1 = y.1 <;> simp [h, h2, h3]
theorem swoE : SWO (ltOf cfE) where
  irrefl x := by rw [ltE]; exact decide_eq_false (List.lt_irrefl _)
  trans x y z h1 h2 := by rw [ltE] at *; exact decide_eq_true (List.lt_trans (of_decide_eq_true h1) (of_decide_eq_true h2))
  ntrans x y z h1 h2 := by
    rw [ltE] at *
    have h1 := List.not_lt.1 (of_decide_eq_false h1)
    have h2 := List.not_lt.1 (of_decide_eq_false h2)
    exact decide_eq_false (List.not_lt.2 (List.le_trans h2 h1))
theorem Rel.updG {ρ : Loc.Map} {st : St} {w w' : World} (h : Rel ρ st w) {b : Nat} {o o' : AObj} {l : Loc} (hb : st.get b = some o) (hrw : o.rw = true) (hl : ρ[b]? = some l)
    (hoth : ∀ k, k < w.heap.size → k ≠ l.blk → w'.heap[k]? = w.heap[k]?) (hsz : w.heap.size ≤ w'.heap.size) (hos : w'.os = w.os) (ht : w'.tape = w.tape) (hp : w'.output = w.output) (hd : w.drawn ≤ w'.drawn) (ho' : ObjRel ρ o' l w') :
    Rel ρ (st.set b o') w' ∧ Step st.n ρ st w ρ (st.set b o') w' := by
  have hof : ∀ i x, (st.set b o').get i = some x → (i = b ∧ x = o') ∨ (i ≠ b ∧ st.get i = some x) := fun i x hi => by
    rw [St.set_get] at hi
    split at hi
    · exact .inl ⟨‹_›, by simpa using hi.symm⟩
    · exact .inr ⟨‹_›, hi⟩
  refine gi2 h ⟨⟨h.len, fun i x hi => ?_, fun i i' l1 l2 x x' hne hi hx hi' h1 h2 => ?_⟩, ⟨.refl _ _, hos, ht, hp, hd, hsz, fun k hk hno => hoth k hk (Ne.symm (hno b o l hb hrw hl)), fun i x l1 hi hx h1 _ => ?_⟩⟩
  · rcases hof i x hi with ⟨rfl, rfl⟩ | ⟨hne, hi⟩
    · exact ⟨l, hl, ho'⟩
    · obtain ⟨l', hl', hr⟩ := h.obj i x hi
      exact ⟨l', hl', hr.world (hoth _ hr.lt (Ne.symm (h.sep b i l l' o x (Ne.symm hne) hb hrw hi hl hl')))⟩
  · rcases hof i x hi with ⟨e1, e2⟩ | ⟨_, hi1⟩ <;> rcases hof i' x' hi' with ⟨e3, e4⟩ | ⟨_, hi2⟩
    · exact absurd (e1.trans e3.symm) hne
    · subst e1; exact h.sep i i' l1 l2 o x' hne hb hrw hi2 h1 h2
    · subst e3; exact fun e => h.sep i' i l2 l1 o x (Ne.symm hne) hb hrw hi1 h2 h1 e.symm
    · exact h.sep i i' l1 l2 x x' hne hi1 hx hi2 h1 h2
  · rcases hof i x hi with ⟨rfl, rfl⟩ | ⟨hne, hi⟩
    · exact ⟨i, o, l1, hb, hrw, h1, rfl⟩
    · exact ⟨i, x, l1, hi, hx, h1, rfl⟩
def encE (x : List UInt8 × Int) : List Value := [.string ⟨x.1.toArray⟩, .int .i64 x.2]
theorem sortW_heap {w : World} {blk off m k : Nat} {d : Array (List UInt8 × Int)} {os : Array Obj} (hk : k < w.heap.size) (hne : k ≠ blk) : (sortWorldK encE 2 w blk off m d os).heap[k]? = w.heap[k]? := by
  show ((w.heap.modify blk _) ++ os)[k]? = _
  rw [Array.getElem?_append_left (by simpa using hk), Array.getElem?_modify, if_neg (Ne.symm hne)]
theorem sortW_blk {w : World} {blk off m : Nat} {d : Array (List UInt8 × Int)} {os : Array Obj} {c : Array Value} {e : TypeId} {fz : Nat × Nat} (hk : w.heap[blk]? = some (.cells c e fz)) : (sortWorldK encE 2 w blk off m d os).heap[blk]? = some (.cells (putCells id off (flatK encE 2 d) c) e fz) := by
  have hlt := (Array.getElem?_eq_some_iff.1 hk).1
  show ((w.heap.modify blk _) ++ os)[blk]? = _
  rw [Array.getElem?_append_left (by simpa using hlt), Array.getElem?_modify, if_pos rfl, hk]
  rfl
theorem step_grow {ρ' : Loc.Map} {st' : St} {W w' : World} (h : Step 0 [] ⟨0, fun _ => none⟩ W ρ' st' w') : ∃ q os', w' = Go.Sort.grow (W.drewN q) os' := by
  refine ⟨w'.drawn - W.drawn, w'.heap.extract W.heap.size w'.heap.size, ?_⟩
  have h1 := h.os; have h2 := h.tape; have h3 := h.output; have h4 := h.drawn; have h5 := h.size
  have h6 : w'.heap = W.heap ++ w'.heap.extract W.heap.size w'.heap.size := by
    apply Array.ext_getElem?
    intro k
    rcases Nat.lt_or_ge k W.heap.size with hk | hk
    · rw [Array.getElem?_append_left hk, h.keep k hk (fun b o l hb => by cases hb)]
    · rw [Array.getElem?_append_right hk]
      rcases Nat.lt_or_ge k w'.heap.size with hk2 | hk2
      · have e1 : (w'.heap.extract W.heap.size w'.heap.size)[k - W.heap.size]? = w'.heap[W.heap.size + (k - W.heap.size)]? := by
          rw [Array.getElem?_eq_getElem (by simp; omega), Array.getElem?_eq_getElem (by omega), Array.getElem_extract]
        rw [e1, show W.heap.size + (k - W.heap.size) = k by omega]
      · rw [Array.getElem?_eq_none (by omega), Array.getElem?_eq_none (by simp; omega)]
  cases w' with
  | mk a1 a2 a3 a4 a5 =>
    cases W with
    | mk b1 b2 b3 b4 b5 =>
      simp only at h1 h2 h3 h4 h6
      subst h1; subst h2; subst h3
      show (⟨_, _, _, _, _⟩ : World) = ⟨_, _, _, _, _⟩
      congr 1
      show a3 = b3 + (a3 - b3)
      omega
def avE (x : List UInt8 × Int) (r : Nat) : AV := if r = 0 then .str x.1 else .int .i64 x.2
def cellsE (l : List (List UInt8 × Int)) : List AV := (l.map fun x => [AV.str x.1, AV.int .i64 x.2]).flatten
theorem cellsE_len : ∀ l, (cellsE l).length = l.length * 2
  | [] => rfl
  | x :: l => by
    have := cellsE_len l
    unfold cellsE at this ⊢
    rw [List.map_cons, List.flatten_cons, List.length_append, this, List.length_cons]
    simp; omega
theorem cellsE_at : ∀ (l : List (List UInt8 × Int)) (j : Nat), j < l.length * 2 → (cellsE l)[j]? = some (avE l[j / 2]! (j % 2))
  | [], j, h => by simp at h
  | x :: l, 0, h => rfl
  | x :: l, 1, h => rfl
  | x :: l, j + 2, h => by
    have ih := cellsE_at l j (by simp at h; omega)
    have e1 : (j + 2) / 2 = j / 2 + 1 := by omega
    have e2 : (j + 2) % 2 = j % 2 := by omega
    rw [e1, e2]
    show (cellsE l)[j]? = _
    rw [ih]
    simp
theorem rl_cells {B : Kn} : ∀ {l : List (List UInt8 × Int)} {cs : List AV}, RL EPStIi64Q B cs l → cs = cellsE l
  | [], cs, h => h
  | x :: l, cs, h => by
    obtain ⟨c, r, rfl, ⟨c1, c2, rfl, h1, h2⟩, h3⟩ := h
    have h1 : c1 = [AV.str x.1] := h1
    have h2 : c2 = [AV.int .i64 x.2] := h2
    rw [rl_cells h3, h1, h2]
    rfl
theorem cells_rl {B : Kn} : ∀ (l : List (List UInt8 × Int)), RL EPStIi64Q B (cellsE l) l
  | [] => rfl
  | x :: l => ⟨[AV.str x.1, AV.int .i64 x.2], cellsE l, rfl, ⟨[AV.str x.1], [AV.int .i64 x.2], rfl, rfl, rfl⟩, cells_rl l⟩
theorem avE_enc {ρ : Loc.Map} {x : List UInt8 × Int} {r : Nat} {v : Value} (hr : r < 2) (h : RV ρ (avE x r) v) : v = (encE x)[r]! := by
  rcases (show r = 0 ∨ r = 1 by omega) with rfl | rfl
  · have h : v = .string ⟨x.1.toArray⟩ := h
    rw [h]; rfl
  · have h : v = .int .i64 x.2 := h
    rw [h]; rfl
theorem enc_avE {ρ : Loc.Map} {x : List UInt8 × Int} {r : Nat} (hr : r < 2) : RV ρ (avE x r) (encE x)[r]! := by
  rcases (show r = 0 ∨ r = 1 by omega) with rfl | rfl
  · rfl
  · rfl
theorem closure_E (x y : List UInt8 × Int) {W : World} (hg : ∀ (g : Nat) (cs : Array Value), globT g = some cs → ∃ e fz, W.heap[g]? = some (.cells cs e fz)) :
    Calls Tryz.prog 129 #[.agg (encE x).toArray, .agg (encE y).toArray] W fun e w' => e = .returned (.int .i64 (cfE x y)) ∧ ∃ q os', w' = Go.Sort.grow (W.drewN q) os' := by
  have h := dir_Dir_List_1_ok (B0 := ⟨fun _ => none, fun _ => []⟩) (L := []) (cfE_eq x y) ⟨0, fun _ => none⟩ ⟨⟨fun b o hb => (by cases hb), fun b o hb => (by cases hb)⟩, fun b o hb => (by cases hb), List.Pairwise.nil⟩
  refine (h.2 [] W [.agg (encE x).toArray, .agg (encE y).toArray] ⟨⟨rfl, fun b o hb => (by cases hb), fun b b' l l' o o' _ hb => (by cases hb)⟩, ⟨hg, fun b o l hb => (by cases hb)⟩⟩ ?_).mono ?_
  · exact ⟨_, _, rfl, ⟨_, rfl, _, _, rfl, rfl, _, _, rfl, rfl, rfl⟩, _, _, rfl, ⟨_, rfl, _, _, rfl, rfl, _, _, rfl, rfl, rfl⟩, rfl⟩
  · rintro e w' ⟨c, v, ρ', st', rfl, ⟨_, rfl⟩, hv, _, hs⟩
    have hv : c = .int .i64 (cfE x y) := hv
    exact ⟨by rw [hv], step_grow hs⟩
theorem sort_calls {w : World} {blk off cap : Nat} {l : List (List UInt8 × Int)} (hlen : l.length ≤ 1000000) (hH : HoldsK encE 2 w blk off l.toArray) (hblk : blk < w.heap.size)
    (hg : ∀ (g : Nat) (cs : Array Value), globT g = some cs → ∃ e fz, w.heap[g]? = some (.cells cs e fz)) (hgb : globT blk = none) :
    Calls Tryz.prog 128 #[.slice (some ⟨blk, off, none⟩) l.length cap, .func (.func 129) #[] #[]] w fun e w' =>
      e = .returned (.tuple #[]) ∧ ∃ d' n os, PermIn 0 l.length l.toArray d' ∧ SortedIn (ltOf cfE) 0 l.length d' ∧ w' = sortWorldK encE 2 w blk off n d' os := by
  have eg : ∀ args w, (callFunc 129 args).run Tryz.prog w = .ok (.enter 129 args) w := enters_of Tryz.func129 (by kernel_rfl) rfl
  have hcmp : CmpLays Tryz.prog 129 #[] encE 2 cfE blk off l.toArray.size w := fun m os dk hs x y => closure_E x y fun g cs hgc => by
    obtain ⟨e, fz, h⟩ := hg g cs hgc
    exact ⟨e, fz, by rw [sortW_heap (Array.getElem?_eq_some_iff.1 h).1 (fun e => by rw [e, hgb] at hgc; cases hgc)]; exact h⟩
  exact AnyQ.slices_SortFunc Tryz.sortL 2 Tryz.isAgg60 Tryz.sizeOf60 encE (fun _ => rfl) (fun x v hv => by simp [encE] at hv; rcases hv with rfl | rfl <;> rfl) cfE swoE 129 #[] blk off cap l.toArray w eg hcmp hH hblk (by simp; omega)
theorem sort_none (a : Option Addr) (cap : Nat) (w : World) : Calls Tryz.prog 128 #[.slice a 0 cap, .func (.func 129) #[] #[]] w fun e w' => e = .returned (.tuple #[]) ∧ w' = w :=
  AnyF.slices_SortFunc_none Tryz.sortL a cap _ w
theorem perm_list {l : List (List UInt8 × Int)} {d' : Array (List UInt8 × Int)} (h : PermIn 0 l.length l.toArray d') (hs : SortedIn (ltOf cfE) 0 l.length d') (hn : (l.map (·.1)).Nodup) : d' = (sortE l).toArray := by
  obtain ⟨h1, _, h3⟩ := h
  have hsz : d'.size = l.length := by simpa using h1
  have e1 : d'.extract 0 l.length = d' := by rw [← hsz]; exact Array.extract_size
  have e2 : l.toArray.extract 0 l.length = l.toArray := by
    have : l.length = l.toArray.size := by simp
    rw [this]; exact Array.extract_size
  rw [e1, e2] at h3
  apply Array.toList_inj.1
  refine sortE_unique h3 hn (List.pairwise_iff_getElem.2 fun i j hi hj hij => ?_)
  have hj' : j < l.length := by rw [← hsz]; simpa using hj
  have := hs i j (Nat.zero_le _) hij hj'
  rw [ltE] at this
  have := List.not_lt.1 (of_decide_eq_false this)
  rw [getElem!_pos d' i (by simpa using hi), getElem!_pos d' j (by simpa using hj)] at this
  simpa using this
theorem sort_ok {B0 : Kn} {L : Own} {v0 : AV} {b : Nat} {n : Bool} {cs : List AV} {l : List (List UInt8 × Int)} (g : OSl EPStIi64Q B0 v0 b n cs l) (hn : (l.map (·.1)).Nodup) (hl : l.length ≤ 1000000) :
    ∀ st, Hp B0 (oe b n cs :: L) st → ASpec Tryz.prog 128 [v0, .fn (.func 129) [] []] st (fun v s => v = .tup [] ∧ ∃ cs', OSl EPStIi64Q B0 v0 b n cs' (sortE l) ∧ Hp B0 (oe b n cs' :: L) s) := by
  intro st hp
  refine ⟨⟨_, Tryz.func128, rfl, rfl⟩, fun ρ w cargs hr ha => ?_⟩
  obtain ⟨⟨sz, mc, rfl, hle, hsz⟩, hnil, hrl⟩ := g
  obtain ⟨c1, _, rfl, ⟨a, cap, rfl, q1, q2, q3, q4⟩, c2, _, rfl, ⟨cf, cc, rfl, h5, h6⟩, h7⟩ := ha
  have h5 : cf = [] := h5
  have h6 : cc = [] := h6
  have h7 : _ = [] := h7
  subst h5; subst h6; subst h7
  by_cases hemp : l = []
  · subst hemp
    refine (sort_none a cap w).mono ?_
    rintro e w' ⟨rfl, rfl⟩
    exact ⟨_, .tup [], ρ, st, rfl, ⟨rfl, cs, by rw [show sortE [] = [] by simp [sortE]]; exact ⟨⟨sz, mc, rfl, hle, hsz⟩, fun _ => rfl, hrl⟩, hp⟩, ⟨[], rfl, rfl⟩, hr, .refl ..⟩
  · have hpos : 0 < l.length := List.length_pos_iff.2 hemp
    have hnf : n = false := by
      cases n with
      | false => rfl
      | true => exact absurd (hnil rfl) hemp
    subst hnf
    obtain ⟨ad, lc, rfl, hlc, q5⟩ := q4 rfl
    obtain ⟨rfl, q6⟩ : ad = ⟨lc.blk, lc.base + 0, none⟩ ∧ lc.base + 0 + cap * sz ≤ lc.size := by
      rcases q5 with q5 | q5
      · omega
      · exact q5
    have hcs := rl_cells hrl
    subst hcs
    have hb := hp.own b (OV.c (cellsE l)) List.mem_cons_self
    obtain ⟨lc', hlc', c, et, fz, hh, hcsz, hcells, hfz⟩ := hr.obj b _ hb
    rw [hlc] at hlc'; simp at hlc'; subst hlc'
    have hlt := (Array.getElem?_eq_some_iff.1 hh).1
    have hcell : ∀ j, j < l.length * 2 → c[lc.base + j]? = some (encE l[j / 2]!)[j % 2]! := fun j hj => by
      obtain ⟨x, hx, hv⟩ := hcells j _ (cellsE_at l j hj)
      rw [hx, avE_enc (by omega) hv]
    have hH : HoldsK encE 2 w lc.blk (lc.base + 0) l.toArray := fun j hj => by
      rw [size_flatK] at hj
      have hj' : j < l.length * 2 := by simpa using hj
      rw [get_flatK _ _ _ _ hj]
      have hcj := hcell j hj'
      refine ⟨?_, ?_⟩
      · simp only [World.cell?, hh, Nat.add_zero, Option.isSome_none, Bool.false_eq_true, if_false]
        rw [hcj]; simp
      · have hjc : lc.base + j < c.size := (Array.getElem?_eq_some_iff.1 hcj).1
        have := hfz rfl (lc.base + j) hjc
        simp only [World.frozen?, hh, Nat.add_zero]
        simpa using this
    have hgb := hr.gi.gsep b _ lc hb rfl hlc
    refine (sort_calls (cap := cap) hl hH hlt hr.gi.glb hgb).mono ?_
    rintro e w' ⟨rfl, d', m, os, hp1, hs1, rfl⟩
    obtain rfl := perm_list hp1 hs1 hn
    have hlen : (sortE l).length = l.length := (sortE_perm0 l).length_eq
    obtain ⟨hr', hst⟩ := hr.updG (o' := .blk (cellsE (sortE l)) true) hb rfl hlc (w' := sortWorldK encE 2 w lc.blk (lc.base + 0) m (sortE l).toArray os) (fun k hk hne => sortW_heap hk hne) (by show _ ≤ ((w.heap.modify _ _) ++ os).size; simp) rfl rfl rfl (by show w.drawn ≤ w.drawn + m; omega)
      ⟨_, et, fz, sortW_blk hh, by simp [putCells, hcsz], fun j v hj => by
        have hj2 : j < (sortE l).length * 2 := by rw [← cellsE_len]; exact (List.getElem?_eq_some_iff.1 hj).1
        rw [cellsE_at _ _ hj2] at hj
        simp at hj; subst hj
        have hjc : lc.base + j < c.size := (Array.getElem?_eq_some_iff.1 (hcell j (by omega))).1
        refine ⟨_, ?_, enc_avE (by omega)⟩
        simp only [putCells, Array.getElem?_mapIdx, Array.getElem?_eq_getElem hjc, Option.map_some, size_flatK]
        rw [if_pos ⟨by omega, by simp; omega⟩, show lc.base + j - (lc.base + 0) = j by omega, get_flatK _ _ _ _ (by simpa using hj2)]
        simp, fun h j hj => hfz rfl j (by simpa [putCells] using hj)⟩
    exact ⟨_, .tup [], ρ, _, rfl, ⟨rfl, cellsE (sortE l), ⟨⟨sz, mc, by rw [hlen], by rw [hlen]; exact hle, hsz⟩, fun h => (by cases h), cells_rl _⟩,
      Upd.hp (cs := OV.c (cellsE l)) (cs' := OV.c (cellsE (sortE l))) .h hp (fun i hi => set_get_old hi) (set_get_new rfl)⟩, ⟨[], rfl, rfl⟩, hr', hst⟩
section
variable {P : Program} {N n0 : Nat} {ops : Array Oper} {R : Post} {k : List It} {fr : Fr} {B : Kn} {A L : Own}
theorem WO.sort {c : Call} {ty : TypeId} {ps : String} {af : Array Edge} {g : Option (Nat × Bool)} {rest : List Oper} {gop : Operand} {f : FuncId} {first cap args : List AV} {α : Type} {t : Ty α} {v0 : AV} {b : Nat} {n : Bool} {cs : List AV} {l : List α} {d : Option Nat}
    (hc : c.callee = .value gop) (hg : fr.ev gop = .fn (.func f) first cap) (hs : ∀ st, Hp B (oe b n cs :: (A ++ L)) st → ASpec P f args st (fun v s => v = .tup [] ∧ ∃ cs', OSl t B v0 b n cs' l ∧ Hp B (oe b n cs' :: (A ++ L)) s)) (ha : first ++ c.args.toList.map fr.ev ++ cap = args) (hw : wantedA ops.toList fr ⟨d, .call c, ty, ps, af, g⟩ = some true) (hd : dstOk N d = true)
    (h : ∀ cs', OSl t B v0 b n cs' l → WO P N n0 ops rest R k (fr.put d (.tup [])) B (oe b n cs' :: A) L) : WO P N n0 ops (⟨d, .call c, ty, ps, af, g⟩ :: rest) R k fr B (oe b n cs :: A) L := fun st hl hp =>
  AOps.call rfl hc hw hg ha hd ((hs st hp).lw.mono fun v s ⟨⟨e, cs', h1, h2⟩, h3⟩ => by subst e; exact h cs' h1 s h3 h2)
end
end Gab
end
section
set_option linter.unusedSimpArgs false
set_option linter.unusedVariables false
set_option maxHeartbeats 4000000
set_option maxRecDepth 100000
namespace Gab
open Go Go.Proofs
def dir_Dir_List_P (B : Kn) (L : Own) (r : List (List UInt8 × Int)) : AV → St → Prop := C1 B L fun B' v e0 => ∃ w0 b0 n0 c0, v = w0 ∧ e0 = oe b0 n0 c0 ∧ OSl EPStIi64Q B' w0 b0 n0 c0 r
theorem dir_Dir_List_ok {B0 : Kn} {L : Own} {H : Heap} {E : Own} (hH : HR B0 H E) {a0 : Nat} {v0_0 : AV} {r : List (List UInt8 × Int)} (g0_0 : HPt B0 210 v0_0 a0) (h : dir_Dir_List H a0 = some r) : ∀ st, Hp B0 (E ++ L) st → ASpec Tryz.prog 70 [v0_0] st (dir_Dir_List_P B0 (E ++ L) r) := by
  unfold dir_Dir_List at h
  refine bodyA (A := []) (L := E ++ L) Tryz.func70 rfl (c := bodyOf Tryz.f70) rfl Tryz.ntmps70 (lb rfl) fun n0 => ?_
  have hB := KLe.refl B0
  refine WX.seq ?_
  refine WX.reg ?_
  refine WO.q (.as (v := .sl _ _ _ _ _ _) rfl) rfl rfl ?_
  refine WO.nil ?_
  refine WX.seq ?_
  refine WX.seq ?_
  refine WX.reg ?_
  refine WO.q (.mv (v := v0_0) rfl) rfl rfl ?_
  refine WO.q (.bin (eveqlnil g0_0 ti128 rfl)) rfl rfl ?_
  refine WO.nil ?_
  rcases bsp (decide (a0 = 0)) with k1 | k1
  · have q_k1 := of_decide_eq_true k1
    replace h := (if_pos q_k1).symm.trans h
    refine WX.condT rfl k1 ?_
    refine WX.seq ?_
    refine WX.reg ?_
    refine WO.q (.as (v := .sl _ _ _ _ _ _) rfl) rfl rfl ?_
    refine WO.nil ?_
    obtain rfl := Option.some.inj h
    exact WX.ret (rs_ (rs_tmp rfl rs_nil)) fun st hp => ⟨_, _, hB, ((hp.pk [] (by decide)).skip 0), _, 0, true, [], rfl, rfl, OSl.none _ _⟩
  · have q_k1 := of_decide_eq_false k1
    replace h := (if_neg q_k1).symm.trans h
    obtain ⟨d, hd, h⟩ := Option.bind_eq_some_iff.1 h
    obtain ⟨ms, hms, h⟩ := Option.bind_eq_some_iff.1 h
    obtain ⟨hnd, h⟩ := ifS_some h
    obtain ⟨⟨hbig, hbig2⟩, h⟩ := ifS_some h
    obtain rfl := Option.some.inj h
    obtain ⟨hmsl, hmsa⟩ := mapM_at hms
    refine WX.condF rfl k1 ?_
    refine WX.skip ?_
    refine WX.seq ?_
    refine WX.reg ?_
    refine WO.q (.as (v := .sl _ _ _ _ _ _) rfl) rfl rfl ?_
    refine WO.nil ?_
    refine WX.seq ?_
    refine WX.seq ?_
    refine WX.reg ?_
    refine WO.q (.mv (v := v0_0) rfl) rfl rfl ?_
    obtain ⟨b_y2, c_y2, e_y2, m_y2, r_y2, u_y2⟩ := hgetS (foc210 hH) g0_0 hd
    subst e_y2
    obtain ⟨_, _, rfl, ⟨w3, rfl, hw3⟩, rfl⟩ := r_y2
    obtain ⟨_, _, _, _, _, rfl⟩ := hw3.isl
    refine WO.q (.r fun _ => rfl) rfl rfl ?_
    refine WO.q (.fa (fa210_0 _ _)) rfl rfl ?_
    refine WO.ql (.ldSm rfl (inE m_y2) rfl ti207 rfl) rfl rfl ?_
    refine WO.q (.len rfl rfl rfl (sl207.len hw3.isl)) rfl rfl ?_
    refine WO.q (.mv (v := .int _ _) rfl) rfl rfl ?_
    refine WO.nil ?_
    refine WX.block ?_
    refine WX.loop ?_
    refine WX.keep [3, 13, 14, 15] (WX.pk [] (by decide) (WX.addn [0] ?_)) rfl
    refine WX.loopN (I := fun n fr B1 A E1 => B0 = B1 ∧ E = E1 ∧ ∃ (i : Nat) (acc : List (List UInt8 × Int)) (v4 : AV) (b4 : Nat) (n4 : Bool) (c4 : List AV) (v : AV), n + i = d.1.length ∧ OSl EPStIi64Q B0 v4 b4 n4 c4 acc ∧ RSl (Ty.hm 222) B0 v d.1 ∧ (acc ++ (ms.drop i).flatten).Perm ms.flatten ∧ fr = [(3, v4), (13, v), (14, .int .i64 (d.1.length : Int)), (15, .int .i64 (i : Int))] ∧ A = [oe b4 n4 c4]) ?_ d.1.length _ _ _ _ ⟨rfl, rfl, 0, [], _, 0, true, [], _, by omega, OSl.none _ _, hw3, by simp, rfl, rfl⟩
    rintro n _ _ _ _ ⟨rfl, rfl, i, acc, v4, b4, n4, c4, v, hn, ho, hs, hperm, rfl, rfl⟩ ih
    obtain ⟨_, _, _, _, _, rfl⟩ := ho.isl
    obtain ⟨_, _, _, _, _, rfl⟩ := hs.isl
    refine WX.seq ?_
    refine WX.reg ?_
    refine WO.q (.r fun _ => rfl) rfl rfl ?_
    refine WO.nil ?_
    refine WX.seq ?_
    rcases bsp (decide ((i : Int) < (d.1.length : Int))) with k6 | k6
    · have q_k6 := of_decide_eq_true k6
      refine WX.condT rfl k6 ?_
      refine WX.skip ?_
      refine WX.seq ?_
      refine WX.block ?_
      refine WX.seq ?_
      refine WX.reg ?_
      obtain ⟨m, hm⟩ : ∃ m, d.1[i]? = some m := ⟨_, List.getElem?_eq_getElem (by omega)⟩
      obtain ⟨y, hy, hym⟩ := hmsa i m hm
      obtain ⟨b_7, o_7, _, i_7, p_7, r_7⟩ := hs.at sl207 (rd_ok hm) .i64
      obtain ⟨w8, rfl, hw8⟩ := r_7
      refine WO.q (.ia i_7) rfl rfl ?_
      refine WO.q (.lp0 rfl p_7 rfl ti222 rfl) rfl rfl ?_
      refine WO.q (.as (v := w8) rfl) rfl rfl ?_
      refine WO.nil ?_
      obtain ⟨j, rfl, hj⟩ := hobj_some hym
      rcases hw8 with ⟨e, _⟩ | ⟨bm, j', hj', hbm, rfl⟩
      · omega
      obtain rfl : j = j' := by omega
      obtain ⟨u, y', hy', hmem, ⟨es, c, rfl, hr⟩, _⟩ := (foc222 hH).get hbm
      obtain rfl : y' = y := Option.some.inj (hy'.symm.trans hj)
      obtain ⟨⟨ps, hps, hlen, hrel⟩, hnk, hnb, hlb⟩ := hr
      have hrel' : ∀ (i : Nat) (e : AV × AV × Nat), es[i]? = some e → ∃ p : List UInt8 × Int, ps[i]? = some p ∧ e.1 = .str p.1 ∧ e.2.1 = .int .i64 p.2 := fun i e he => by
        obtain ⟨p, h1, h2, h3⟩ := hrel i e.1 e.2.1 e.2.2 he
        exact ⟨p, h1, h2, h3⟩
      refine WX.seq ?_
      refine WX.reg ?_
      refine WO.q (.mv (v := .map bm) rfl) rfl rfl ?_
      refine WO.md (MOp.range mt222 (inE hmem) rfl) rfl rfl ?_
      rintro _ _ ⟨bi, rfl, rfl⟩
      refine WO.nil ?_
      refine WX.block ?_
      refine WX.loop ?_
      refine WX.keep [3, 13, 14, 15, 20] (WX.pk [0, 1] (by decide) ?_) rfl
      have hrest : ms.drop i = y' :: ms.drop (i + 1) := by
        obtain ⟨h1, h2⟩ := List.getElem?_eq_some_iff.1 hy
        rw [List.drop_eq_getElem_cons h1, h2]
      refine WX.loopN (I := fun n fr B1 A E1 => B0 = B1 ∧ E = E1 ∧ ∃ (acc : List (List UInt8 × Int)) (seen : List Nat) (v4 : AV) (b4 : Nat) (n4 : Bool) (c4 : List AV), n = (Lft es ps seen).length ∧ OSl EPStIi64Q B0 v4 b4 n4 c4 acc ∧ (acc ++ (Lft es ps seen ++ (ms.drop (i + 1)).flatten)).Perm ms.flatten ∧ fr = [(3, v4), (13, .sl _ _ _ d.1.length _ _), (14, .int .i64 (d.1.length : Int)), (15, .int .i64 (i : Int)), (20, .ptr bi 0)] ∧ A = [(bi, some (OV.i (some bm) c seen c)), oe b4 n4 c4]) ?_ (Lft es ps []).length _ _ _ _ ⟨rfl, rfl, acc, [], _, _, _, _, rfl, ho, ?_, rfl, rfl⟩
      · clear ho hperm
        rintro k _ _ _ _ ⟨rfl, rfl, acc, seen, v4, b4, n4, c4, hk, ho, hperm, rfl, rfl⟩ ih2
        obtain ⟨_, _, _, _, _, rfl⟩ := ho.isl
        refine WX.seq ?_
        refine WX.reg ?_
        refine WO.next (inE (A := [_]) hmem) rfl hlb (Nat.le_refl _) rfl rfl (fun hall => ?_) (fun e he hse => ?_)
        · refine WO.q (.r fun _ => rfl) rfl rfl ?_
          refine WO.nil ?_
          refine WX.seq ?_
          refine WX.condF rfl rfl ?_
          refine WX.exit rfl ?_
          refine WX.reg ?_
          refine WO.q (.r fun _ => rfl) rfl rfl ?_
          refine WO.q (.mv (v := .int _ _) rfl) rfl rfl ?_
          refine WO.nil ?_
          refine WX.keepL [3, 13, 14, 15] (WX.pk [1] (by decide) ?_) rfl
          refine ih (n - 1) _ _ _ _ (by omega) ⟨rfl, rfl, i + 1, acc, _, _, _, _, _, by omega, ho, hs, ?_, ?_, rfl⟩
          · rw [Lft.none hall] at hperm; exact hperm
          · have e1 : wi64 ((i : Int) + 1) = ((i + 1 : Nat) : Int) := by rw [w64 (by omega) (by omega)]; omega
            exact congrArg (fun z : Int => ([(3, _), (13, _), (14, _), (15, AV.int .i64 z)] : Fr)) e1
        · obtain ⟨q, hq⟩ := List.mem_iff_getElem?.1 he
          obtain ⟨p, hp1, hp2, hp3⟩ := hrel' q e hq
          have hpick := Lft.pick (p := p) hnb hq hp1 hse
          obtain ⟨ek, ev, eb⟩ := e
          dsimp only at hp2 hp3 hpick hse
          subst hp2; subst hp3
          refine WO.q (.r fun _ => rfl) rfl rfl ?_
          refine WO.nil ?_
          refine WX.seq ?_
          refine WX.condT rfl rfl ?_
          refine WX.skip ?_
          refine WX.block ?_
          refine WX.seq ?_
          refine WX.reg ?_
          refine WO.ql (QOp.entry rfl (List.mem_cons_self) (inE (A := [_, _]) hmem) hnb he) rfl rfl ?_
          refine WO.q (.r fun _ => rfl) rfl rfl ?_
          refine WO.q (.r fun _ => rfl) rfl rfl ?_
          refine WO.q (.as (v := .str _) rfl) rfl rfl ?_
          refine WO.q (.as (v := .int _ _) rfl) rfl rfl ?_
          refine WO.nil ?_
          refine WX.reg ?_
          refine WO.q (.mv (v := .sl _ _ _ _ _ _) rfl) rfl rfl ?_
          refine WO.q (.mv (v := .str _) rfl) rfl rfl ?_
          refine WO.q (.mv (v := .int _ _) rfl) rfl rfl ?_
          refine WO.q (.bd (bd60_0_1 (cS rfl) (cI rfl))) rfl rfl ?_
          refine WO.md (MOp.bs (l := ([p] : List ((List UInt8) × Int))) sl56 (RL.cons (Rp Rs Ri) RL.nil) (lb rfl) rfl rfl) rfl rfl ?_
          rintro v12 _ ⟨b10, o11, rfl⟩
          obtain ⟨_, _, _, _, _, rfl⟩ := o11.isl
          have hperm' : ((acc ++ [p]) ++ (Lft es ps (seen ++ [eb]) ++ (ms.drop (i + 1)).flatten)).Perm ms.flatten := by
            refine List.Perm.trans ?_ hperm
            rw [List.append_assoc]
            exact List.Perm.append_left _ ((hpick.append_right _).symm)
          have happ : appL 5864062014805 acc [p] = some (acc ++ [p]) := appL_ok (by have := hperm'.length_eq; simp only [List.length_append, List.length_singleton] at this ⊢; omega)
          refine WO.md (MOp.app rfl rfl rfl sl56 ho (Src.o (i := 0) sl56 o11 rfl) happ rfl rfl (fun _ => (.t (.t .h)))) rfl rfl ?_
          rintro v18 _ ⟨b15, n16, o17, rfl⟩
          obtain ⟨_, _, _, _, _, rfl⟩ := o17.isl
          refine WO.q (.as (v := .sl _ _ _ _ _ _) rfl) rfl rfl ?_
          refine WO.nil ?_
          refine WX.keepL [3, 13, 14, 15, 20] (WX.pk [1, 2] (by decide) ?_) rfl
          exact ih2 (k - 1) _ _ _ _ (by have := hpick.length_eq; rw [List.length_cons] at this; omega) ⟨rfl, rfl, acc ++ [p], seen ++ [eb], _, _, _, _, by have := hpick.length_eq; rw [List.length_cons] at this; omega, o17, hperm', rfl, rfl⟩
      · rw [Lft.zero hlen]
        refine List.Perm.trans ?_ hperm
        rw [hrest, List.flatten_cons]
        exact List.Perm.append_left _ (hps.append_right _)
    · have q_k6 := of_decide_eq_false k6
      refine WX.condF rfl k6 ?_
      refine WX.exit rfl ?_
      rw [List.drop_of_length_le (by omega), List.flatten_nil, List.append_nil] at hperm
      refine WX.keep [3] (WX.pk [0] (by decide) ?_) rfl
      refine WX.seq ?_
      refine WX.reg ?_
      refine WO.q (.mv (v := .sl _ _ _ _ _ _) rfl) rfl rfl ?_
      have hacc : (acc.map (·.1)).Nodup := (hperm.map _).nodup_iff.2 hnd
      have hle : acc.length ≤ 1000000 := by rw [hperm.length_eq]; exact hbig
      refine WO.sort rfl rfl (sort_ok ho hacc hle) rfl rfl rfl ?_
      intro c5 ho5
      rw [sortE_perm hperm hacc] at ho5
      refine WO.nil ?_
      refine WX.seq ?_
      refine WX.reg ?_
      refine WO.q (.mv (v := .sl _ _ _ _ _ _) rfl) rfl rfl ?_
      refine WO.q (.as (v := .sl _ _ _ _ _ _) rfl) rfl rfl ?_
      refine WO.nil ?_
      exact WX.ret (rs_ (rs_tmp rfl rs_nil)) fun st hp => ⟨_, _, hB, (hp.pk [0] (by decide)), _, _, n4, _, rfl, rfl, ho5⟩
end Gab
end
section
set_option linter.unusedSimpArgs false
set_option linter.unusedVariables false
namespace Gab
open Go
section
variable {P : Program} {N n0 : Nat} {Q : Post} {fr : Fr} {st : St} {k : List It} {R : Post} {B : Kn} {A L : Own}
theorem AX_goto {l : Nat} : ∀ {k : List It} {fr : Fr} {st : St}, AX P N n0 R k (.goto l) fr st → R (.goto l) fr st
  | [], _, _, h => h
  | .code _ :: k, _, _, h => AX_goto (k := k) h
  | .lp _ :: k, _, _, h => AX_goto (k := k) h
  | .blk _ :: k, _, _, h => AX_goto (k := k) h
theorem WX.scope {rs : List ResultVar} {Q : AV → St → Prop} {c : Code} (h : WX P N n0 (Fin P rs n0 Q) (.code c :: k) fr B A L) : WX P N n0 (Fin P rs n0 Q) (.code (.scope c) :: k) fr B A L := fun st hl hp ro m hro ρ w a hn hr hf hd => by
  obtain rfl := hro rfl
  refine wpIn_wide.2 (wp_scope_straight (wp_mono (wpIn_wide.1 (h st hl hp none m (fun _ => rfl) ρ w a hn hr hf hd)) fun e a w he => by
    cases e with
    | goto l =>
      obtain ⟨fr', st', ρ', hq, _⟩ := he
      exact absurd (AX_goto hq) (by rintro ⟨h | h, _⟩ <;> cases h)
    | normal => exact he
    | exit i => exact he
    | ret => exact he
    | panic c => exact he
    | outgrown => exact he))
theorem MOp.rangeS {t : TypeId} {x : Operand} {ti : TI} {l : List UInt8} (ht : tinfo P t = some ti) (hk : ti.k = .str) (he : fr.ev x = .str l) :
    MOp P (.range t x) fr B A L fun v A' => ∃ bi, v = .ptr bi 0 ∧ A' = (bi, some (OV.s l 0)) :: A := fun st hl hh => by
  refine ⟨.ptr st.n 0, st.push (.siter l 0), (st.n, some (OV.s l 0)) :: A, ?_, lw_push hl _, hh.pushV hl (.s l 0), _, rfl, rfl⟩
  simp only [evOp, evRange, ht, Option.bind_some, hk, he]
theorem MOp.nextS {it : Operand} {bi pos : Nat} {l : List UInt8} (he : fr.ev it = .ptr bi 0) :
    MOp P (.next it true) fr B ((bi, some (OV.s l pos)) :: A) L fun v A' => (pos < l.length ∧ v = .tup [.bool true, .int .i64 pos, .int .i32 (Utf8.decode ⟨l.toArray⟩ pos).1] ∧ A' = (bi, some (OV.s l (pos + (Utf8.decode ⟨l.toArray⟩ pos).2))) :: A) ∨ (l.length ≤ pos ∧ v = .tup [.bool false] ∧ A' = (bi, some (OV.s l pos)) :: A) := fun st hl hh => by
  have hi := hh.own bi (OV.s l pos) List.mem_cons_self
  by_cases hlt : pos < l.length
  · refine ⟨_, st.set bi (.siter l (pos + (Utf8.decode ⟨l.toArray⟩ pos).2)), (bi, some (OV.s l (pos + (Utf8.decode ⟨l.toArray⟩ pos).2))) :: A, ?_, lw_set hl (o' := .siter l pos) (hh.lt hl (List.mem_cons_self)) _, Upd.hp (cs := OV.s l pos) (cs' := OV.s l (pos + (Utf8.decode ⟨l.toArray⟩ pos).2)) .h hh (fun i hi => set_get_old hi) (set_get_new rfl), .inl ⟨hlt, rfl, rfl⟩⟩
    simp only [evOp, he, evNextS, hi, OV.obj, if_pos hlt]
  · refine ⟨_, st, _, ?_, hl, hh, .inr ⟨by omega, rfl, rfl⟩⟩
    simp only [evOp, he, evNextS, hi, OV.obj, if_neg hlt]
end
theorem ba_get {l : List UInt8} {i : Nat} (h : i < l.length) : (⟨l.toArray⟩ : ByteArray).get! i = l[i] := by
  show l.toArray[i]! = _
  simp [h]
theorem dec_high {l : List UInt8} {pos : Nat} (h : pos < l.length) (hb : 128 ≤ (l[pos]).toNat) :
    128 ≤ (Utf8.decode ⟨l.toArray⟩ pos).1 ∧ 1 ≤ (Utf8.decode ⟨l.toArray⟩ pos).2 ∧ ∀ j b, pos ≤ j → j < pos + (Utf8.decode ⟨l.toArray⟩ pos).2 → l[j]? = some b → 128 ≤ b.toNat := by
  have h0 : ∀ b, l[pos]? = some b → 128 ≤ b.toNat := fun b he => by
    rw [List.getElem?_eq_getElem h] at he; simp at he; subst he; exact hb
  have hc : ∀ k, (decide (pos + k < (⟨l.toArray⟩ : ByteArray).size) && ((⟨l.toArray⟩ : ByteArray).get! (pos + k)).toNat / 64 == 2) = true → ∀ b, l[pos + k]? = some b → 128 ≤ b.toNat := fun k hk b he => by
    simp only [Bool.and_eq_true, decide_eq_true_eq, beq_iff_eq] at hk
    obtain ⟨h1, h2⟩ := List.getElem?_eq_some_iff.1 he
    rw [ba_get h1, h2] at hk
    omega
  have hone : ∀ j b, pos ≤ j → j < pos + 1 → l[j]? = some b → 128 ≤ b.toNat := fun j b h1 h2 he => by
    obtain rfl : j = pos := by omega
    exact h0 b he
  unfold Utf8.decode
  simp only [Nat.add_zero, ba_get h]
  rw [if_neg (by omega)]
  split
  · rename_i hx
    simp only [Bool.and_eq_true] at hx
    split
    · refine ⟨by omega, by omega, fun j b h1 h2 he => ?_⟩
      rcases (show j = pos ∨ j = pos + 1 by omega) with rfl | rfl
      · exact h0 b he
      · exact hc 1 (by simpa using hx.2) b he
    · exact ⟨by decide, by decide, hone⟩
  · split
    · rename_i hx
      simp only [Bool.and_eq_true] at hx
      split
      · rename_i hy
        simp only [Bool.and_eq_true, decide_eq_true_eq] at hy
        refine ⟨by omega, by omega, fun j b h1 h2 he => ?_⟩
        rcases (show j = pos ∨ j = pos + 1 ∨ j = pos + 2 by omega) with rfl | rfl | rfl
        · exact h0 b he
        · exact hc 1 (by simpa using hx.1.2) b he
        · exact hc 2 (by simpa using hx.2) b he
      · exact ⟨by decide, by decide, hone⟩
    · split
      · rename_i hx
        simp only [Bool.and_eq_true] at hx
        split
        · rename_i hy
          simp only [Bool.and_eq_true, decide_eq_true_eq] at hy
          refine ⟨by omega, by omega, fun j b h1 h2 he => ?_⟩
          rcases (show j = pos ∨ j = pos + 1 ∨ j = pos + 2 ∨ j = pos + 3 by omega) with rfl | rfl | rfl | rfl
          · exact h0 b he
          · exact hc 1 (by simpa using hx.1.1.2) b he
          · exact hc 2 (by simpa using hx.1.2) b he
          · exact hc 3 (by simpa using hx.2) b he
        · exact ⟨by decide, by decide, hone⟩
      · exact ⟨by decide, by decide, hone⟩
theorem dec_low {l : List UInt8} {pos : Nat} (h : pos < l.length) (hb : (l[pos]).toNat < 128) : Utf8.decode ⟨l.toArray⟩ pos = ((l[pos]).toNat, 1) := by
  unfold Utf8.decode
  simp only [Nat.add_zero, ba_get h]
  rw [if_pos (by omega)]
end Gab
end
section
set_option linter.unusedSimpArgs false
set_option linter.unusedVariables false
set_option maxHeartbeats 4000000
set_option maxRecDepth 100000
namespace Gab
open Go Go.Proofs
theorem cvRS {P : Program} {S D : TypeId} {si di : TI} {fr : Fr} {B : Kn} {A : Own} {x : Operand} {j : IntKind} {n : Int} (h1 : tinfo P S = some si) (h2 : tinfo P D = some di) (h3 : di.k = .str) (he : fr.ev x = .int j n) : QOp P (.convert S D x) fr B A (.str (Utf8.encode n).data.toList) := .r fun st => by
  simp only [evOp, evConvert, h1, h2, Option.bind_some, h3, he]
theorem enc_high {r : Int} (h : 128 ≤ r) : ∃ rs, (Utf8.encode r).data.toList = rs ∧ ((∃ a b, rs = [a, b] ∧ 128 ≤ b.toNat) ∨ (3 ≤ rs.length ∧ rs.length ≤ 4)) := by
  refine ⟨_, rfl, ?_⟩
  unfold Utf8.encode
  have hc : 128 ≤ (if Utf8.valid r = true then r.toNat else Utf8.runeError) := by
    split
    · omega
    · decide
  generalize (if Utf8.valid r = true then r.toNat else Utf8.runeError) = c at hc
  dsimp only
  rw [if_neg (by omega)]
  split
  · refine .inl ⟨_, _, rfl, ?_⟩
    simp
    omega
  · split
    · exact .inr ⟨by simp, by simp⟩
    · exact .inr ⟨by simp, by simp⟩
theorem wrap8 {n : Int} (h1 : 0 ≤ n) (h2 : n < 256) : IntKind.wrap .u8 n = n := by
  simp only [IntKind.wrap, IntKind.bits, IntKind.signed]
  simp
  omega
theorem idx_two {r : Int} (h0 : 0 ≤ r) (h1 : r < 128) : 0 ≤ idxB [47, 0] r ↔ r = 47 ∨ r = 0 := by
  obtain ⟨n, rfl⟩ := Int.eq_ofNat_of_zero_le h0
  have : ∀ n : _root_.Fin 128, decide (0 ≤ idxB [47, 0] (n.val : Int)) = decide ((n.val : Int) = 47 ∨ (n.val : Int) = 0) := by decide +kernel
  exact decide_eq_decide.1 (this ⟨n, by omega⟩)
theorem idx_nil {n : Int} : idxB [] n = -1 := rfl
theorem strings_IndexRune_ok {B0 : Kn} {L : Own} {r : Int} (h0 : 0 ≤ r) (hr : r ≤ 2147483647) : ∀ st, Hp B0 L st → ASpec Tryz.prog 168 [.str [47, 0], .int .i32 r] st (CS B0 L fun v => ∃ n, v = .int .i64 n ∧ (0 ≤ n ↔ r = 47 ∨ r = 0)) := by
  refine bodyA (A := []) Tryz.func168 rfl (c := bodyOf Tryz.f168) rfl Tryz.ntmps168 (lb rfl) fun n0 => ?_
  refine WX.seq ?_
  refine WX.reg ?_
  refine WO.q (.as (v := .int _ _) rfl) rfl rfl ?_
  refine WO.nil ?_
  refine WX.block ?_
  refine WX.seq ?_
  refine WX.reg ?_
  have k1 : decide ((0 : Int) ≤ r) = true := decide_eq_true h0
  refine WO.q (.mv (v := .int _ _) rfl) rfl rfl ?_
  refine WO.q (.r fun _ => rfl) rfl rfl ?_
  refine WO.q (.mv (v := .bool _) rfl) rfl rfl ?_
  refine WO.q (.mv (v := .int _ _) rfl) (wg rfl rfl (gt k1)) rfl ?_
  refine WO.q (.r fun _ => rfl) (wg rfl rfl (gt k1)) rfl ?_
  refine WO.q (.ptv (v := .bool _) rfl k1 rfl) rfl rfl ?_
  refine WO.q (.as (v := .bool _) rfl) rfl rfl ?_
  refine WO.nil ?_
  rcases bsp (decide (r < 128)) with k2 | k2
  · have q_k2 := of_decide_eq_true k2
    refine WX.condT rfl k2 ?_
    refine WX.seq ?_
    refine WX.reg ?_
    refine WO.q (.mv (v := .str _) rfl) rfl rfl ?_
    refine WO.q (.mv (v := .int _ _) rfl) rfl rfl ?_
    refine WO.q (cvI ti21 ti5 rfl rfl) rfl rfl ?_
    refine WO.cS rfl rfl (strings_IndexByte_ok rfl) rfl rfl rfl ?_
    rintro _ rfl
    refine WO.q (.as (v := .int _ _) rfl) rfl rfl ?_
    refine WO.nil ?_
    exact WX.ret (rs_ (rs_tmp rfl rs_nil)) fun st hp => ⟨(hp.pk [] (by decide)), _, rfl, by
      rw [show IntKind.wrap .u8 r = r from wrap8 h0 (by omega)]
      exact idx_two h0 q_k2⟩
  · have q_k2 := of_decide_eq_false k2
    have hno : ¬ (r = 47 ∨ r = 0) := by omega
    refine WX.condF rfl k2 ?_
    refine WX.seq ?_
    refine WX.reg ?_
    refine WO.q (.mv (v := .int _ _) rfl) rfl rfl ?_
    refine WO.q (.r fun _ => rfl) rfl rfl ?_
    refine WO.q (.as (v := .bool _) rfl) rfl rfl ?_
    refine WO.nil ?_
    rcases bsp (decide (r = 65533)) with k3 | k3
    · have q_k3 := of_decide_eq_true k3
      refine WX.condT rfl k3 ?_
      refine WX.seq ?_
      refine WX.seq ?_
      refine WX.reg ?_
      refine WO.q (.mv (v := .str _) rfl) rfl rfl ?_
      refine WO.md (MOp.rangeS ti9 rfl rfl) rfl rfl ?_
      rintro _ _ ⟨bi, rfl, rfl⟩
      refine WO.nil ?_
      refine WX.block ?_
      refine WX.loop ?_
      refine WX.keep [175] (WX.pk [0] (by decide) ?_) rfl
      refine WX.loopN (L := L) (I := fun n fr B1 A E1 => B0 = B1 ∧ E1 = [] ∧ ∃ pos, n + pos = 2 ∧ fr = [(175, .ptr bi 0)] ∧ A = [(bi, some (OV.s [47, 0] pos))]) ?_ 2 _ _ _ [] ⟨rfl, rfl, 0, rfl, rfl, rfl⟩
      rintro n _ _ _ _ ⟨rfl, rfl, pos, hn, rfl, rfl⟩ ih
      refine WX.seq ?_
      refine WX.reg ?_
      refine WO.md (MOp.nextS rfl) rfl rfl ?_
      rintro _ _ (⟨hlt, rfl, rfl⟩ | ⟨hge, rfl, rfl⟩)
      · have hlt : pos < 2 := hlt
        refine WO.q (.r fun _ => rfl) rfl rfl ?_
        refine WO.nil ?_
        refine WX.seq ?_
        refine WX.condT rfl rfl ?_
        refine WX.skip ?_
        refine WX.block ?_
        have hd : (Utf8.decode ⟨([47, 0] : List UInt8).toArray⟩ pos).2 = 1 ∧ ((Utf8.decode ⟨([47, 0] : List UInt8).toArray⟩ pos).1 : Int) ≠ 65533 := by
          have hb : (([47, 0] : List UInt8)[pos]'hlt).toNat < 128 := by
            rcases (show pos = 0 ∨ pos = 1 by omega) with rfl | rfl
            · show (47 : UInt8).toNat < 128; decide
            · show (0 : UInt8).toNat < 128; decide
          rw [dec_low (l := [47, 0]) hlt hb]
          exact ⟨rfl, by omega⟩
        generalize Utf8.decode ⟨([47, 0] : List UInt8).toArray⟩ pos = dd at hd
        obtain ⟨d1, d2⟩ := dd
        obtain ⟨rfl, hd2⟩ : d2 = 1 ∧ (d1 : Int) ≠ 65533 := hd
        refine WX.seq ?_
        refine WX.reg ?_
        refine WO.q (.r fun _ => rfl) rfl rfl ?_
        refine WO.q (.r fun _ => rfl) rfl rfl ?_
        refine WO.q (.as (v := .int _ _) rfl) rfl rfl ?_
        refine WO.q (.as (v := .int _ _) rfl) rfl rfl ?_
        refine WO.nil ?_
        refine WX.seq ?_
        refine WX.reg ?_
        refine WO.q (.mv (v := .int _ _) rfl) rfl rfl ?_
        refine WO.q (.r fun _ => rfl) rfl rfl ?_
        refine WO.nil ?_
        refine WX.condF rfl (decide_eq_false hd2) ?_
        refine WX.skip ?_
        refine WX.pop ?_
        refine WX.keepL [175] (WX.pk [0] (by decide) ?_) rfl
        exact ih (n - 1) _ _ _ [] (by omega) ⟨rfl, rfl, pos + 1, by omega, rfl, rfl⟩
      · refine WO.q (.r fun _ => rfl) rfl rfl ?_
        refine WO.nil ?_
        refine WX.seq ?_
        refine WX.condF rfl rfl ?_
        refine WX.exit rfl ?_
        refine WX.seq ?_
        refine WX.reg ?_
        refine WO.q (.as (v := .int _ _) rfl) rfl rfl ?_
        refine WO.nil ?_
        exact WX.ret (rs_ (rs_tmp rfl rs_nil)) fun st hp => ⟨(hp.pk [] (by decide)), _, rfl, by omega⟩
    · refine WX.condF rfl k3 ?_
      refine WX.seq ?_
      refine WX.reg ?_
      refine WO.q (.mv (v := .int _ _) rfl) rfl rfl ?_
      obtain ⟨y, hy⟩ : ∃ y, unicode_utf8_ValidRune r = some y := by
        unfold unicode_utf8_ValidRune unicode_utf8_ValidRune_j1 unicode_utf8_ValidRune_j2
        repeat' split
        all_goals exact ⟨_, rfl⟩
      refine WO.cS rfl rfl (unicode_utf8_ValidRune_ok hy) rfl rfl rfl ?_
      rintro _ rfl
      refine WO.q (.r fun _ => rfl) rfl rfl ?_
      refine WO.q (.as (v := .bool _) rfl) rfl rfl ?_
      refine WO.nil ?_
      rcases bsp y with k4 | k4
      · refine WX.condF rfl (f_not k4) ?_
        refine WX.scope ?_
        obtain ⟨rs, hrs, hc⟩ := enc_high (r := r) (by omega)
        refine WX.seq ?_
        refine WX.reg ?_
        refine WO.q (.mv (v := .int _ _) rfl) rfl rfl ?_
        refine WO.q (cvRS ti21 ti9 rfl rfl) rfl rfl ?_
        rw [hrs]
        refine WO.q (.as (v := .str _) rfl) rfl rfl ?_
        refine WO.nil ?_
        refine WX.seq ?_
        refine WX.reg ?_
        refine WO.q (.mv (v := .str _) rfl) rfl rfl ?_
        refine WO.q (.len rfl rfl rfl (evslen ti9 rfl _)) rfl rfl ?_
        refine WO.q (.r fun _ => rfl) rfl rfl ?_
        refine WO.q (.as (v := .int _ _) rfl) rfl rfl ?_
        refine WO.nil ?_
        refine WX.seq ?_
        refine WX.reg ?_
        refine WO.q (.mv (v := .int _ _) rfl) rfl rfl ?_
        refine WO.q (.as (v := .int _ _) rfl) rfl rfl ?_
        refine WO.nil ?_
        refine WX.seq ?_
        refine WX.reg ?_
        refine WO.q (.as (v := .int _ _) rfl) rfl rfl ?_
        refine WO.nil ?_
        refine WX.seq ?_
        refine WX.block ?_
        refine WX.loop ?_
        refine WX.seq ?_
        refine WX.seq ?_
        refine WX.reg ?_
        refine WO.q (.mv (v := .int _ _) rfl) rfl rfl ?_
        refine WO.q (.mv (v := .str _) rfl) rfl rfl ?_
        refine WO.q (.len rfl rfl rfl (evslen ti9 rfl _)) rfl rfl ?_
        refine WO.q (.r fun _ => rfl) rfl rfl ?_
        refine WO.nil ?_
        rcases hc with ⟨a, b, rfl, hb⟩ | ⟨hl, hl2⟩
        · refine WX.condT rfl rfl ?_
          refine WX.skip ?_
          refine WX.block ?_
          refine WX.scope ?_
          refine WX.seq ?_
          refine WX.seq ?_
          refine WX.drw (Plan.of [0, 1, 2, 3, 4, 5, 6] .nil) _ mixed (by kernel_rfl) rfl (pk_sub []) ?_
          refine WP.q (i := 0) rfl (.mv (v := .str _) rfl) rfl rfl rfl ?_
          refine WP.q (i := 1) rfl (.mv (v := .int _ _) rfl) rfl rfl rfl ?_
          refine WP.q (i := 2) rfl (.ix (evsix ti9 rfl (show rd [47, 0] 1 = some 0 from rfl) _)) rfl rfl rfl ?_
          refine WP.q (i := 3) rfl (.mv (v := .str _) rfl) rfl rfl rfl ?_
          refine WP.q (i := 4) rfl (.mv (v := .int _ _) rfl) rfl rfl rfl ?_
          refine WP.q (i := 5) rfl (.ix (evsix ti9 rfl (show rd [a, b] 1 = some b from rfl) _)) rfl rfl rfl ?_
          refine WP.q (i := 6) rfl (.r fun _ => rfl) rfl rfl rfl ?_
          refine WP.nil ?_
          have hb0 : ((0 : UInt8).toNat : Int) ≠ (b.toNat : Int) := by
            have : (0 : UInt8).toNat = 0 := rfl
            omega
          refine WX.condT rfl ?_ ?_
          · show (decide (_ ≠ _)) = true
            exact decide_eq_true hb0
          refine WX.seq ?_
          refine WX.drw (Plan.of [0, 1, 2, 3, 4, 5, 6, 7, 8] .nil) _ mixed (by kernel_rfl) rfl (pk_sub []) ?_
          refine WP.q (i := 0) rfl (.mv (v := .str _) rfl) rfl rfl rfl ?_
          refine WP.q (i := 1) rfl (.mv (v := .int _ _) rfl) rfl rfl rfl ?_
          refine WP.q (i := 2) rfl (.r fun _ => rfl) rfl rfl rfl ?_
          refine WP.q (i := 3) rfl (.sl (evscut ti9 rfl (show cutL [47, 0] 2 2 = some [] from rfl) rfl rfl)) rfl rfl rfl ?_
          refine WP.q (i := 4) rfl (.mv (v := .str _) rfl) rfl rfl rfl ?_
          refine WP.q (i := 5) rfl (.mv (v := .int _ _) rfl) rfl rfl rfl ?_
          refine WP.q (i := 6) rfl (.ix (evsix ti9 rfl (show rd [a, b] 1 = some b from rfl) _)) rfl rfl rfl ?_
          refine WP.cS (i := 7) rfl rfl rfl (strings_IndexByte_ok rfl) rfl rfl rfl ?_
          rintro _ rfl
          refine WP.q (i := 8) rfl (.as (v := .int _ _) rfl) rfl rfl rfl ?_
          refine WP.nil ?_
          refine WX.seq ?_
          refine WX.seq ?_
          refine WX.reg ?_
          refine WO.q (.mv (v := .int _ _) rfl) rfl rfl ?_
          refine WO.q (.r fun _ => rfl) rfl rfl ?_
          refine WO.nil ?_
          refine WX.condT rfl (decide_eq_true (by rw [idx_nil]; decide)) ?_
          refine WX.seq ?_
          refine WX.reg ?_
          refine WO.q (.as (v := .int _ _) rfl) rfl rfl ?_
          refine WO.nil ?_
          exact WX.ret (rs_ (rs_tmp rfl rs_nil)) fun st hp => ⟨(hp.pk [] (by decide)), _, rfl, by omega⟩
        · refine WX.condF rfl (decide_eq_false (by
            rw [show IntKind.wrap .i64 ((rs.length : Int) - 1) = (rs.length : Int) - 1 from w64 (by omega) (by omega)]
            show ¬ ((rs.length : Int) - 1 < 2)
            omega)) ?_
          refine WX.exit rfl ?_
          refine WX.seq ?_
          refine WX.seq ?_
          refine WX.reg ?_
          refine WO.q (.as (v := .int _ _) rfl) rfl rfl ?_
          refine WO.nil ?_
          exact WX.ret (rs_ (rs_tmp rfl rs_nil)) fun st hp => ⟨(hp.pk [] (by decide)), _, rfl, by omega⟩
      · refine WX.condT rfl (t_not k4) ?_
        refine WX.seq ?_
        refine WX.reg ?_
        refine WO.q (.as (v := .int _ _) rfl) rfl rfl ?_
        refine WO.nil ?_
        exact WX.ret (rs_ (rs_tmp rfl rs_nil)) fun st hp => ⟨(hp.pk [] (by decide)), _, rfl, by omega⟩
end Gab
end
section
set_option linter.unusedSimpArgs false
set_option linter.unusedVariables false
namespace Gab
open Go Go.Sort
theorem Rel.grow {ρ : Loc.Map} {st : St} {w : World} (h : Rel ρ st w) (k : Nat) (os : Array Obj) : Rel ρ st (Go.Sort.grow (w.drewN k) os) ∧ Step st.n ρ st w ρ st (Go.Sort.grow (w.drewN k) os) := by
  have hold : ∀ j, j < w.heap.size → (Go.Sort.grow (w.drewN k) os).heap[j]? = w.heap[j]? := fun j hj => by
    show (w.heap ++ os)[j]? = _
    rw [Array.getElem?_append_left hj]
  refine gi2 h ⟨⟨h.len, fun i x hi => ?_, h.sep⟩, ⟨.refl _ _, rfl, rfl, rfl, by show w.drawn ≤ w.drawn + k; omega, by show _ ≤ (w.heap ++ os).size; simp, fun j hj _ => hold j hj, fun b o l hb hrw hl _ => ⟨b, o, l, hb, hrw, hl, rfl⟩⟩⟩
  obtain ⟨l, hl, hr⟩ := h.obj i x hi
  exact ⟨l, hl, hr.world (hold _ hr.lt)⟩
end Gab
end
section
set_option linter.unusedSimpArgs false
set_option linter.unusedVariables false
set_option maxHeartbeats 4000000
set_option maxRecDepth 100000
namespace Go.Proofs
open Go.Shelf
def Tryz.indexAnyL_ren : Go.Shelf.Ren := ⟨fun | 153 => 152 | 152 => 168 | 226 => 169 | 227 => 170 | 228 => 171 | 137 => 206 | 119 => 207 | 224 => 204 | 225 => 203 | 217 => 202 | 266 => 219 | n => n, fun | 9 => 9 | 3 => 3 | 4 => 4 | 5 => 5 | 21 => 21 | 117 => 257 | 116 => 256 | 0 => 0 | 46 => 244 | 124 => 291 | n => n, fun n => n⟩
theorem Tryz.indexAnyL : Go.Proofs.Lays.n153 Tryz.prog Tryz.indexAnyL_ren := {
  mixed := by kernel_rfl,
  f119 := Tryz.func207.trans (congrArg some (by kernel_rfl)),
  f137 := Tryz.func206.trans (congrArg some (by kernel_rfl)),
  f152 := Tryz.func168.trans (congrArg some (by kernel_rfl)),
  f153 := Tryz.func152.trans (congrArg some (by kernel_rfl)),
  f217 := Tryz.func202.trans (congrArg some (by kernel_rfl)),
  f224 := Tryz.func204.trans (congrArg some (by kernel_rfl)),
  f225 := Tryz.func203.trans (congrArg some (by kernel_rfl)),
  f226 := Tryz.func169.trans (congrArg some (by kernel_rfl)),
  f227 := Tryz.func170.trans (congrArg some (by kernel_rfl)),
  f228 := Tryz.func171.trans (congrArg some (by kernel_rfl)),
  f266 := Tryz.func219.trans (congrArg some (by kernel_rfl)),
  t0 := Tryz.underlying0,
  a0 := Tryz.isAgg0,
  z0 := Tryz.sizeOf0,
  v0 := Tryz.zeroValue0,
  t3 := Tryz.underlying3,
  a3 := Tryz.isAgg3,
  z3 := Tryz.sizeOf3,
  v3 := Tryz.zeroValue3,
  t4 := Tryz.underlying4,
  a4 := Tryz.isAgg4,
  z4 := Tryz.sizeOf4,
  v4 := Tryz.zeroValue4,
  t5 := Tryz.underlying5,
  a5 := Tryz.isAgg5,
  z5 := Tryz.sizeOf5,
  v5 := Tryz.zeroValue5,
  t9 := Tryz.underlying9,
  a9 := Tryz.isAgg9,
  z9 := Tryz.sizeOf9,
  v9 := Tryz.zeroValue9,
  t21 := Tryz.underlying21,
  a21 := Tryz.isAgg21,
  z21 := Tryz.sizeOf21,
  v21 := Tryz.zeroValue21,
  t46 := Tryz.underlying244,
  a46 := Tryz.isAgg244,
  z46 := Tryz.sizeOf244,
  v46 := Tryz.zeroValue244,
  t116 := Tryz.underlying256,
  a116 := Tryz.isAgg256,
  z116 := Tryz.sizeOf256,
  t117 := Tryz.underlying257,
  a117 := Tryz.isAgg257,
  z117 := Tryz.sizeOf257,
  v117 := Tryz.zeroValue257,
  t124 := Tryz.underlying291,
  a124 := Tryz.isAgg291,
  z124 := Tryz.sizeOf291,
  v124 := Tryz.zeroValue291 }
end Go.Proofs
namespace Gab
open Go Go.Proofs Go.Sort Go.Shelf
def slz (b : UInt8) : Bool := b == 47 || b == 0
theorem slz_iff {b : UInt8} : slz b = true ↔ ((b.toNat : Int) = 47 ∨ (b.toNat : Int) = 0) := by
  unfold slz
  simp only [Bool.or_eq_true, beq_iff_eq]
  constructor
  · rintro (rfl | rfl)
    · exact .inl rfl
    · exact .inr rfl
  · rintro (h | h)
    · exact .inl (UInt8.toNat_inj.1 (by show b.toNat = 47; omega))
    · exact .inr (UInt8.toNat_inj.1 (by show b.toNat = 0; omega))
theorem indexAny_any : ∀ (s : List UInt8), 0 ≤ Lib.indexAny s [47, 0] ↔ s.any slz = true
  | [] => by simp [Lib.indexAny]
  | b :: s => by
    have ih := indexAny_any s
    have hge := Lib.indexAny_ge [47, 0] s
    rw [Lib.indexAny, List.any_cons]
    by_cases hb : ([47, 0] : List UInt8).contains b = true
    · have hs : slz b = true := by
        simp at hb
        unfold slz; simpa using hb
      rw [if_pos hb, hs]; simp
    · have hs : slz b = false := by
        simp at hb
        unfold slz; simpa using hb
      rw [if_neg hb, hs, Bool.false_or, ← ih]
      split
      · rename_i h
        have h : Lib.indexAny s [47, 0] = -1 := by simpa using h
        omega
      · rename_i h
        have h : Lib.indexAny s [47, 0] ≠ -1 := by simpa using h
        omega
theorem strings_IndexAny_ok {B0 : Kn} {L : Own} {a0 : List UInt8} (hl : a0.length < 4294967281) : ∀ st, Hp B0 L st → ASpec Tryz.prog 152 [.str a0, .str [47, 0]] st (CS B0 L fun v => ∃ n, v = .int .i64 n ∧ (0 ≤ n ↔ a0.any slz = true)) := by
  by_cases h8 : 8 < a0.length
  · intro st hp
    refine ⟨⟨_, Tryz.func152, rfl, rfl⟩, fun ρ w cargs hr ha => ?_⟩
    obtain ⟨c1, _, rfl, h1, c2, _, rfl, h2, h3⟩ := ha
    have h1 : c1 = .string ⟨a0.toArray⟩ := h1
    have h2 : c2 = .string ⟨#[47, 0]⟩ := h2
    have h3 : _ = [] := h3
    subst h1; subst h2; subst h3
    refine (Any.strings_IndexAny_long Tryz.indexAnyL Tryz.zeroValue256 (by kernel_rfl) ⟨a0.toArray⟩ ⟨#[47, 0]⟩ w (by decide) h8 hl (by decide) (fun j b hj => by
      have : b = 47 ∨ b = 0 := by
        have := List.mem_of_getElem? hj
        simpa using this
      rcases this with rfl | rfl <;> decide)).mono ?_
    rintro e w' ⟨rfl, rfl⟩
    rw [alloc_eq_grow, alloc_eq_grow, grow_grow]
    obtain ⟨g1, g2⟩ := hr.grow 0 (#[.cells (Lib.setCells [47, 0]) 256] ++ #[.cells (Lib.setCells [47, 0]) 256])
    exact ⟨_, .int .i64 (Lib.indexAny a0 [47, 0]), ρ, st, rfl, ⟨hp, _, rfl, indexAny_any a0⟩, rfl, g1, g2⟩
  · refine bodyA (A := []) Tryz.func152 rfl (c := bodyOf Tryz.f152) rfl Tryz.ntmps152 (lb rfl) fun n0 => ?_
    refine WX.seq ?_
    refine WX.reg ?_
    refine WO.q (.as (v := .int _ _) rfl) rfl rfl ?_
    refine WO.nil ?_
    refine WX.seq ?_
    refine WX.seq ?_
    refine WX.reg ?_
    refine WO.q (.mv (v := .str _) rfl) rfl rfl ?_
    refine WO.q (.r fun _ => rfl) rfl rfl ?_
    refine WO.nil ?_
    refine WX.condF rfl rfl ?_
    refine WX.skip ?_
    refine WX.seq ?_
    refine WX.seq ?_
    refine WX.reg ?_
    refine WO.q (.mv (v := .str _) rfl) rfl rfl ?_
    refine WO.q (.len rfl rfl rfl (evslen ti9 rfl _)) rfl rfl ?_
    refine WO.q (.r fun _ => rfl) rfl rfl ?_
    refine WO.nil ?_
    refine WX.condF rfl rfl ?_
    refine WX.skip ?_
    refine WX.seq ?_
    refine WX.seq ?_
    refine WX.reg ?_
    refine WO.q (.mv (v := .str _) rfl) rfl rfl ?_
    refine WO.q (.len rfl rfl rfl (evslen ti9 rfl _)) rfl rfl ?_
    refine WO.cS rfl rfl (strings_shouldUseASCIISet_ok rfl) rfl rfl rfl ?_
    rintro _ rfl
    refine WO.nil ?_
    refine WX.condF rfl (decide_eq_false (by omega)) ?_
    refine WX.skip ?_
    refine WX.seq ?_
    refine WX.seq ?_
    refine WX.reg ?_
    refine WO.q (.mv (v := .str _) rfl) rfl rfl ?_
    refine WO.md (MOp.rangeS ti9 rfl rfl) rfl rfl ?_
    rintro _ _ ⟨bi, rfl, rfl⟩
    refine WO.nil ?_
    refine WX.block ?_
    refine WX.loop ?_
    refine WX.keep [1, 45] (WX.pk [0] (by decide) ?_) rfl
    refine WX.loopN (L := L) (I := fun n fr B1 A E1 => B0 = B1 ∧ E1 = [] ∧ ∃ pos, n = a0.length - pos ∧ (∀ j b, j < pos → a0[j]? = some b → slz b = false) ∧ fr = [(1, .str [47, 0]), (45, .ptr bi 0)] ∧ A = [(bi, some (OV.s a0 pos))]) ?_ a0.length _ _ _ [] ⟨rfl, rfl, 0, rfl, by omega, rfl, rfl⟩
    rintro n _ _ _ _ ⟨rfl, rfl, pos, hn, hno, rfl, rfl⟩ ih
    refine WX.seq ?_
    refine WX.reg ?_
    refine WO.md (MOp.nextS rfl) rfl rfl ?_
    rintro _ _ (⟨hlt, rfl, rfl⟩ | ⟨hge, rfl, rfl⟩)
    · refine WO.q (.r fun _ => rfl) rfl rfl ?_
      refine WO.nil ?_
      refine WX.seq ?_
      refine WX.condT rfl rfl ?_
      refine WX.skip ?_
      refine WX.block ?_
      refine WX.seq ?_
      refine WX.reg ?_
      refine WO.q (.r fun _ => rfl) rfl rfl ?_
      refine WO.q (.r fun _ => rfl) rfl rfl ?_
      refine WO.q (.as (v := .int _ _) rfl) rfl rfl ?_
      refine WO.q (.as (v := .int _ _) rfl) rfl rfl ?_
      refine WO.nil ?_
      refine WX.seq ?_
      refine WX.reg ?_
      refine WO.q (.mv (v := .str _) rfl) rfl rfl ?_
      refine WO.q (.mv (v := .int _ _) rfl) rfl rfl ?_
      refine WO.cS rfl rfl (strings_IndexRune_ok (by omega) (by have := decode_le ⟨a0.toArray⟩ pos; omega)) rfl rfl rfl ?_
      rintro _ ⟨m, rfl, hm⟩
      refine WO.q (.r fun _ => rfl) rfl rfl ?_
      refine WO.nil ?_
      have hat : a0[pos]? = some a0[pos] := List.getElem?_eq_getElem hlt
      rcases bsp (decide ((0 : Int) ≤ m)) with k1 | k1
      · have hmm := hm.1 (of_decide_eq_true k1)
        refine WX.condT rfl k1 ?_
        refine WX.seq ?_
        refine WX.reg ?_
        refine WO.q (.mv (v := .int _ _) rfl) rfl rfl ?_
        refine WO.q (.as (v := .int _ _) rfl) rfl rfl ?_
        refine WO.nil ?_
        have hany : a0.any slz = true := by
          rcases Nat.lt_or_ge (a0[pos]).toNat 128 with hb | hb
          · rw [dec_low hlt hb] at hmm
            exact List.any_eq_true.2 ⟨a0[pos], List.getElem_mem hlt, slz_iff.2 hmm⟩
          · have := (dec_high hlt hb).1
            omega
        exact WX.ret (rs_ (rs_tmp rfl rs_nil)) fun st hp => ⟨(hp.pk [] (by decide)), _, rfl, by simp [hany]⟩
      · have hmm : ¬ _ := fun h => of_decide_eq_false k1 (hm.2 h)
        refine WX.condF rfl k1 ?_
        refine WX.skip ?_
        refine WX.pop ?_
        refine WX.keepL [1, 45] (WX.pk [0] (by decide) ?_) rfl
        rcases Nat.lt_or_ge (a0[pos]).toNat 128 with hb | hb
        · rw [dec_low hlt hb] at hmm ⊢
          refine ih (n - 1) _ _ _ [] (by omega) ⟨rfl, rfl, pos + 1, by omega, fun j b hj he => ?_, rfl, rfl⟩
          rcases (show j < pos ∨ j = pos by omega) with hj | rfl
          · exact hno j b hj he
          · rw [hat] at he; simp at he; subst he
            cases hs : slz a0[j] with
            | false => rfl
            | true => exact absurd (slz_iff.1 hs) hmm
        · obtain ⟨h1, h2, h3⟩ := dec_high hlt hb
          refine ih (a0.length - (pos + (Utf8.decode ⟨a0.toArray⟩ pos).2)) _ _ _ [] (by omega) ⟨rfl, rfl, pos + (Utf8.decode ⟨a0.toArray⟩ pos).2, rfl, fun j b hj he => ?_, rfl, rfl⟩
          rcases Nat.lt_or_ge j pos with hj2 | hj2
          · exact hno j b hj2 he
          · have h4 := h3 j b hj2 hj he
            cases hs : slz b with
            | false => rfl
            | true => have := slz_iff.1 hs; omega
    · refine WO.q (.r fun _ => rfl) rfl rfl ?_
      refine WO.nil ?_
      refine WX.seq ?_
      refine WX.condF rfl rfl ?_
      refine WX.exit rfl ?_
      refine WX.seq ?_
      refine WX.reg ?_
      refine WO.q (.as (v := .int _ _) rfl) rfl rfl ?_
      refine WO.nil ?_
      have hany : a0.any slz = false := by
        rw [List.any_eq_false]
        intro b hb
        obtain ⟨j, hj⟩ := List.mem_iff_getElem?.1 hb
        have := hno j b (by have := (List.getElem?_eq_some_iff.1 hj).1; omega) hj
        simp [this]
      exact WX.ret (rs_ (rs_tmp rfl rs_nil)) fun st hp => ⟨(hp.pk [] (by decide)), _, rfl, by simp [hany]⟩
def strings_ContainsAny_P (B : Kn) (L : Own) (r : Bool) : AV → St → Prop := CS B L fun v => v = .bool r
theorem strings_ContainsAny_ok {B0 : Kn} {L : Own} {a0 a1 : List UInt8} {r : Bool} (h : strings_ContainsAny a0 a1 = some r) : ∀ st, Hp B0 L st → ASpec Tryz.prog 122 [.str a0, .str a1] st (strings_ContainsAny_P B0 L r) := by
  obtain ⟨⟨e47, hl⟩, h2⟩ := ifS_some h
  obtain rfl := Option.some.inj h2
  subst e47
  refine bodyA (A := []) Tryz.func122 rfl (c := bodyOf Tryz.f122) rfl Tryz.ntmps122 (lb rfl) fun n0 => ?_
  refine WX.seq ?_
  refine WX.reg ?_
  refine WO.q (.as (v := .bool _) rfl) rfl rfl ?_
  refine WO.nil ?_
  refine WX.seq ?_
  refine WX.reg ?_
  refine WO.q (.mv (v := .str _) rfl) rfl rfl ?_
  refine WO.q (.mv (v := .str _) rfl) rfl rfl ?_
  refine WO.cS rfl rfl (strings_IndexAny_ok hl) rfl rfl rfl ?_
  rintro _ ⟨m, rfl, hm⟩
  refine WO.q (.r fun _ => rfl) rfl rfl ?_
  refine WO.q (.as (v := .bool _) rfl) rfl rfl ?_
  refine WO.nil ?_
  have he : decide ((0 : Int) ≤ m) = a0.any fun b => b == 47 || b == 0 := by
    rw [show (a0.any fun b => b == 47 || b == 0) = a0.any slz from rfl]
    by_cases h0 : (0 : Int) ≤ m
    · rw [decide_eq_true h0, hm.1 h0]
    · rw [decide_eq_false h0]
      cases hs : a0.any slz with
      | false => rfl
      | true => exact absurd (hm.2 hs) h0
  exact WX.ret (rs_ (rs_tmp rfl rs_nil)) fun st hp => ⟨(hp.pk [] (by decide)), congrArg AV.bool he⟩
end Gab
end
section
set_option linter.unusedSimpArgs false
set_option linter.unusedVariables false
namespace Gab
open Go
def mkL (fn : FuncId) (ps : Array Tmp) (assign body : Code) (D : Nat) (s : LoopState) (j : Option Code) : Array Value → Obj := fun tmps =>
  .loop { state := s, pending := j, fn := fn, tmps := tmps, params := ps, assign := assign, body := body, defers := D }
def jumpOf : Exit → Option (Option Code)
  | .normal => some none
  | .ret => some (some .ret)
  | .exit i => some (some (.exit i))
  | _ => none
def endSt (j : Option Code) : LoopState := if j.isNone then .ready else .done
def yieldV (l : Nat) : AV := .raw (.func (.yield l) #[] #[])
def putL : List Tmp → List AV → Fr → Fr
  | t :: ts, v :: vs, fr => putL ts vs ((t, v) :: fr)
  | _, _, fr => fr
theorem putL_rel {ρ : Loc.Map} {N : Nat} : ∀ {ts : List Tmp} {vs : List AV} {cs : List Value} {fr : Fr} {tmps : Array Value}, (∀ t ∈ ts, t < N) → RVs ρ vs cs → FrameRel ρ N fr tmps → FrameRel ρ N (putL ts vs fr) ((ts.zip cs).foldl (fun t (p, v) => t.setIfInBounds p v) tmps)
  | [], vs, cs, fr, tmps, _, _, h => by cases vs <;> exact h
  | t :: ts, [], cs, fr, tmps, _, hv, h => by
    have hv : cs = [] := hv
    subst hv; exact h
  | t :: ts, v :: vs, cs, fr, tmps, ht, hv, h => by
    obtain ⟨c, r, rfl, h1, h2⟩ := hv
    refine putL_rel (ts := ts) (vs := vs) (fr := (t, v) :: fr) (fun x hx => ht x (List.mem_cons_of_mem _ hx)) h2 ?_
    have := FrameRel.put (a := ⟨tmps, []⟩) (d := some t) h (fun x e => by cases e; exact ht t List.mem_cons_self) h1
    exact this
section
variable {P : Program} {N n0 : Nat} {Q : Post} {fr : Fr} {st : St} {ops : Array Oper}
theorem Rel.ext {ρ : Loc.Map} {st : St} {w : World} (h : Rel ρ st w) {b l N : Nat} {fr : Fr} {mk mk' : Array Value → Obj} (hb : st.get b = some (.ext l N fr mk)) :
    ∃ tmps, w.heap[l]? = some (mk tmps) ∧ FrameRel ρ N fr tmps ∧ Rel ρ (st.set b (.ext l N fr mk')) (w.putObj l (mk' tmps)) ∧ Step st.n ρ st w ρ (st.set b (.ext l N fr mk')) (w.putObj l (mk' tmps)) := by
  obtain ⟨lc, hl, hlk, tmps, hh, hf⟩ := h.obj b _ hb
  subst hlk
  have hlt := (Array.getElem?_eq_some_iff.1 hh).1
  obtain ⟨h1, h2⟩ := h.upd (o' := .ext lc.blk N fr mk') hb rfl hl (w' := w.putObj lc.blk (mk' tmps)) (fun k hk => World.putObj_heap_other hk) (by simp) rfl rfl rfl (Nat.le_refl _) ⟨rfl, tmps, World.putObj_heap_same hlt, hf⟩
  exact ⟨tmps, hh, hf, h1, h2⟩
def RB (b l N : Nat) (fr : Fr) (mk : LoopState → Option Code → Array Value → Obj) (K : Option Code → St → Prop) : Post := fun e f s =>
  s.get b = some (.ext l N fr (mk .busy none)) ∧ ∃ j, jumpOf e = some j ∧ K j (s.set b (.ext l N fr (mk (endSt j) j)))
def RA (P : Program) (n1 b l N : Nat) (fr : Fr) (mk : LoopState → Option Code → Array Value → Obj) (body : Code) (K : Option Code → St → Prop) : Post := fun e f s =>
  e = .normal ∧ s.get b = some (.ext l N fr (mk .ready none)) ∧ ACode P N n1 body (RB b l N fr mk K) f (s.set b (.ext l N fr (mk .busy none)))
theorem AOps.yield {o : Oper} {rest : List Oper} {c : Call} {g : Operand} {l b N' D : Nat} {fr' : Fr} {fn : FuncId} {ps : Array Tmp} {assign body : Code} {xs : List AV} (hop : o.op = .call c) (hc : c.callee = .value g)
    (hw : wantedA ops.toList fr o = some true) (hg : fr.ev g = yieldV l) (hargs : c.args.toList.map fr.ev = xs) (hps : ps.size = xs.length) (hpN : ∀ t ∈ ps.toList, t < N') (hd : dstOk N o.dst = true)
    (hb : st.get b = some (.ext l N' fr' (mkL fn ps assign body D .ready none))) (hna : nr assign = false) (hnb : nr body = false)
    (h : ACode P N' st.n assign (RA P st.n b l N' fr' (mkL fn ps assign body D) body fun j s => AOps P N n0 ops rest Q (fr.put o.dst (.bool j.isNone)) s) (putL ps.toList xs fr') st) : AOps P N n0 ops (o :: rest) Q fr st := by
  intro ro m ρ w a hn hr hf hdf
  have hgv := hf.ev g
  rw [hg] at hgv
  have hgv : a.eval g = .func (.yield l) #[] #[] := hgv
  have hcargs : RVs ρ xs (c.args.map a.eval).toList := by
    rw [← hargs, Array.toList_map]; exact RVs.map (fun x => hf.ev x) _
  have hlen := hcargs.length
  obtain ⟨tmps, hh, hft, _, _⟩ := hr.ext (mk' := mkL fn ps assign body D .ready none) hb
  unfold wpListIn
  rw [wantedA_ok hw hf, if_pos rfl]
  refine ⟨fun _ _ => trivial, ?_⟩
  rw [Oper.semAt_eq _ _ o fun c' e => by rw [hop] at e; cases e]
  have hrun : (execOp a.eval o).run P w = .ok (.round l fn (((ps.zip (c.args.map a.eval)).foldl (fun tmps (t, a) => tmps.setIfInBounds t a) tmps)) assign body) w := by
    have hres : (resolve a.eval c o.type).run P w = .ok { target := .fn (.yield l) #[], args := #[] ++ c.args.map a.eval } w := by
      simp only [resolve, hc, hgv, Deferred.ofValue, Sem.run_pure]
    have := run_yield (P := P) (args := c.args.map a.eval) hh (by simp at hlen ⊢; omega)
    simp only [execOp, hop, Sem.run_bind, hres, Result.andThen_ok, invoke]
    rw [show #[] ++ c.args.map a.eval = c.args.map a.eval by simp, this]
  rw [hrun, Oper.uponIn_round]
  refine ⟨fun e => by simp [FW, Fence.wide] at e, ?_⟩
  have hfr : FrameRel ρ N' (putL ps.toList xs fr') ((ps.zip (c.args.map a.eval)).foldl (fun tmps (t, a) => tmps.setIfInBounds t a) tmps) := by
    have := putL_rel hpN hcargs hft
    rw [← Array.foldl_toList, Array.toList_zip]
    exact this
  have hln : st.n ≤ ρ.length := by have := hr.len; omega
  refine roundIn_of_wpIn trivial (wpIn_mono (h (some l) w.heap.size (fun e => by rw [hna] at e; cases e) ρ w ⟨_, []⟩ hln hr hfr (Dk.nil _ _ _)) fun e a1 w1 hq => ?_)
  obtain ⟨f1, s1, ρ1, ⟨rfl, hb1, hbody⟩, r1, g1, d1, t1⟩ := hq
  obtain ⟨tm1, hh1, hft1, k1, k2⟩ := r1.ext (mk' := mkL fn ps assign body D .busy none) hb1
  have k2' := k2.le (n1 := st.n) (by have := r1.len; have := t1.ext.len hln; omega)
  refine ⟨_, run_beginRound hh1 rfl, wpIn_mono (hbody (some l) w.heap.size (fun e => by rw [hnb] at e; cases e) ρ1 _ a1 (t1.ext.len hln) k1 g1 (d1.next k2')) fun e a2 w2 hq => ?_⟩
  obtain ⟨f2, s2, ρ2, ⟨hb2, j, hj, hK⟩, r2, g2, d2, t2⟩ := hq
  obtain ⟨tm2, hh2, hft2, k3, k4⟩ := r2.ext (mk' := mkL fn ps assign body D (endSt j) j) hb2
  have hln2 := t2.ext.len (t1.ext.len hln)
  have k4' := k4.le (n1 := st.n) (by have := r2.len; omega)
  have hst : Step st.n ρ st w ρ2 _ _ := ((t1.trans k2').trans t2).trans k4'
  have hst' := hst.le (n1 := n0) (by have := hr.len; omega)
  have hsup : Sup ρ ρ2 := by
    have := hst.ext
    rw [← hr.len] at this
    exact this.sup
  have hfin := wpListIn_mono (fun _ _ _ hq => CPost.step hst' hq) (hK ro m ρ2 _ _ (hst'.ext.len hn) k3 ((hf.sup hsup).put (dstOk_spec hd) (show RV ρ2 (.bool j.isNone) (.bool j.isNone) from rfl)) ((hdf.next hst').put _ _))
  cases e <;> simp [jumpOf] at hj <;> subst hj <;> exact ⟨_, _, run_endRound _ hh2, hfin⟩
def RE (P : Program) (N n0 b l : Nat) (fr : Fr) (mk : LoopState → Option Code → Array Value → Obj) (Q : Post) (s : St) : Prop :=
  ∃ t j, s.get b = some (.ext l N fr (mk t j)) ∧ t ≠ .busy ∧ (match j with
    | none => Q .normal fr (s.set b (.ext l N fr (mk .exhausted j)))
    | some c => nr c = false ∧ ACode P N n0 c Q fr (s.set b (.ext l N fr (mk .exhausted j))))
theorem ACode.rangeFunc {g : Operand} {ps : Array Tmp} {assign body : Code} {gf : FuncId} {cap : List AV} (hg : fr.ev g = .fn (.func gf) [] cap)
    (h : ∀ fn l D, ASpec P gf (yieldV l :: cap) (st.push (.ext l N fr (mkL fn ps assign body D .ready none))) fun _ s => RE P N n0 st.n l fr (mkL fn ps assign body D) Q s) :
    ACode P N n0 (.rangeFunc g ps assign body) Q fr st := by
  intro ro m hro ρ w a hn hr hf hdf
  obtain rfl := hro rfl
  have hgv := hf.ev g
  rw [hg] at hgv
  obtain ⟨cf, cc, hgv, hcf, hcc⟩ := hgv
  have hcf : cf = [] := hcf
  subst hcf
  obtain ⟨⟨f0, hf0, hname, hbody⟩, _⟩ := h 0 0 0
  refine wpIn_rangeFunc fun fn _ => ?_
  have hsD : (w.alloc (.deferred (some []))).heap.size = w.heap.size + 1 := by simp
  have hold : ∀ k, k < w.heap.size → (w.alloc (.deferred (some []))).heap[k]? = w.heap[k]? := fun k hk => by
    show (w.heap.push _)[k]? = _
    rw [Array.getElem?_push, if_neg (by omega)]
  have hr1 : Rel ρ st (w.alloc (.deferred (some []))) := ⟨⟨hr.len, fun b o hb => by
    obtain ⟨l, hl, ho⟩ := hr.obj b o hb
    exact ⟨l, hl, ho.world (hold _ ho.lt)⟩, hr.sep⟩, ⟨fun g cs hg => by
    obtain ⟨et, fz, hh⟩ := hr.gi.glb g cs hg
    exact ⟨et, fz, (hold g (Array.getElem?_eq_some_iff.1 hh).1).trans hh⟩, hr.gi.gsep⟩⟩
  have hs1 : Step st.n ρ st w ρ st (w.alloc (.deferred (some []))) := ⟨.refl _ _, rfl, rfl, rfl, Nat.le_refl _, by rw [hsD]; omega, fun k hk _ => hold k hk, fun b o l h1 h2 h3 _ => ⟨b, o, l, h1, h2, h3, rfl⟩⟩
  have hD1 : (w.alloc (.deferred (some []))).heap[w.heap.size]? = some (.deferred (some [])) := World.alloc_heap_new w _
  have hdk : Dk m ρ st (w.alloc (.deferred (some []))) ({ target := .collected w.heap.size, args := #[] } :: a.defers) := by
    obtain ⟨m0, Ds, m1, m2, m3⟩ := hdf.next hs1
    have mw := hdf.1
    refine ⟨m0, w.heap.size :: Ds, List.nodup_cons.2 ⟨fun hD => ?_, m1⟩, by rw [m2]; rfl, fun D hD => ?_⟩
    · obtain ⟨_, Ds', q1, q2, q3⟩ := hdf
      have hinj : ∀ {A B : List Nat}, A.map (fun D => ({ target := .collected D, args := #[] } : Deferred)) = B.map (fun D => { target := .collected D, args := #[] }) → A = B := fun {A B} e => by
        induction A generalizing B with
        | nil => cases B with
          | nil => rfl
          | cons b B => simp at e
        | cons x A ih => cases B with
          | nil => simp at e
          | cons b B => simp at e; rw [e.1, ih (by simpa using e.2)]
      have e : Ds = Ds' := hinj (by rw [← m2, ← q2])
      rw [e] at hD
      have := (Array.getElem?_eq_some_iff.1 (q3 _ hD).2.1).1
      omega
    · rcases List.mem_cons.1 hD with rfl | hD
      · refine ⟨mw, hD1, fun b o l hb ho hl e => ?_⟩
        obtain ⟨l', hl', hob⟩ := hr.obj b o hb
        rw [hl] at hl'; simp at hl'; subst hl'
        have := hob.lt
        omega
      · exact m3 D hD
  obtain ⟨W, hW⟩ : ∃ W, w.alloc (.deferred (some [])) = W := ⟨_, rfl⟩
  have hen := run_enterLoop_outer (P := P) (w := w) fn a.tmps ps assign body
  rw [hW] at hr1 hs1 hdk hsD hen
  obtain ⟨k1, k2, k3⟩ := hr1.newObj (.ext W.heap.size N fr (mkL fn ps assign body w.heap.size .ready none)) (mkL fn ps assign body w.heap.size .ready none a.tmps)
    ⟨rfl, a.tmps, heap_new _ _, hf.sup (Sup.append _ _)⟩
  have hcall := (h fn W.heap.size w.heap.size).2 _ _ (.func (.yield W.heap.size) #[] #[] :: cc) k1 ⟨_, _, rfl, rfl, RVs.sup (Sup.append _ _) _ _ hcc⟩
  have hst2 := hs1.trans k2
  refine ⟨W.heap.size, [{ target := .collected w.heap.size, args := #[] }], W.alloc (mkL fn ps assign body w.heap.size .ready none a.tmps), { target := .fn (.func gf) ⟨cc⟩, args := #[.func (.yield W.heap.size) #[] #[]] }, W.alloc (mkL fn ps assign body w.heap.size .ready none a.tmps), gf, ⟨.func (.yield W.heap.size) #[] #[] :: cc⟩, W.alloc (mkL fn ps assign body w.heap.size .ready none a.tmps), ?_, ?_, fun _ _ => trivial, ?_, fun e => by simp [FW, Fence.wide] at e, callsW (hcall.mono ?_)⟩
  · rw [hsD]; exact hen
  · simp only [resolve, rangeCall, hgv, Deferred.ofValue, Sem.run_pure]; simp [Act.eval]
  · simp only [invoke, callFunc, Sem.run_bind, Sem.run_pure, Result.andThen_ok, run_program, hf0, hname, hbody, Bool.false_eq_true, if_false]
    congr 2
    apply Array.ext'
    simp
  · rintro e w3 ⟨cv, v, ρ', s, rfl, ⟨t, j, hb, ht, hj⟩, _, hr3, hs3⟩
    obtain ⟨tm, hh, hft, q1, q2⟩ := hr3.ext (mk' := mkL fn ps assign body w.heap.size .exhausted j) hb
    have hs3' := hs3.le (n1 := st.n) (by rw [St.push_n]; omega)
    have hlen3 : st.n ≤ ρ'.length := hs3'.ext.len (by simp [hr.len])
    have q2' := q2.le (n1 := st.n) (by have := hr3.len; omega)
    have hst := (hst2.trans hs3').trans q2'
    have hsup : Sup ρ ρ' := by
      have := hst.ext
      rw [← hr.len] at this
      exact this.sup
    have hst' := hst.le (n1 := n0) (by have := hr.len; omega)
    have hdk' : Dk m ρ' _ _ ({ target := .collected w.heap.size, args := #[] } :: a.defers) := hdk.next ((k2.trans hs3').trans q2')
    refine ⟨j, _, run_endLoop hh ht, ?_⟩
    cases j with
    | none => exact ⟨fr, _, ρ', hj, q1, hf.sup hsup, hdk', hst'⟩
    | some c =>
      refine wpIn_mono (hj.2 none m (fun _ => rfl) ρ' _ { a with defers := { target := .collected w.heap.size, args := #[] } :: a.defers } (hst'.ext.len hn) q1 (hf.sup hsup) hdk') fun _ _ _ hq => CPost.step hst' hq
end
section
variable {P : Program} {N n0 : Nat} {ops : Array Oper} {R : Post} {k : List It} {fr : Fr} {B : Kn} {A L : Own}
theorem Hp.tail {e : Nat × Option OV} {st : St} (h : Hp B (e :: L) st) : Hp B L st :=
  ⟨h.rd.sub fun _ he => List.mem_cons_of_mem _ he, fun b o hb => h.frz b o (List.mem_cons_of_mem _ hb), (List.pairwise_cons.1 h.sep).2⟩
theorem Hp.setx {b : Nat} {u u' : OV} {st : St} (h : Hp B ((b, some u) :: L) st) : Hp B ((b, some u') :: L) (st.set b u'.obj) :=
  Upd.hp (cs := u) (cs' := u') .h h (fun i hi => set_get_old hi) (set_get_new rfl)
def RBp (b l N : Nat) (fr : Fr) (mk : LoopState → Option Code → Array Value → Obj) (B : Kn) (L : Own) (C : Option Code → Kn → Own → Prop) : Post := fun e f s =>
  s.lw ∧ ∃ j, jumpOf e = some j ∧ ∃ B2 A2, KLe B B2 ∧ C j B2 A2 ∧ Hp B2 ((b, some (.ex l N fr (mk .busy none))) :: (A2 ++ L)) s
def RAp (P : Program) (n1 b l N : Nat) (fr : Fr) (mk : LoopState → Option Code → Array Value → Obj) (body : Code) (B : Kn) (L : Own) (C : Option Code → Kn → Own → Prop) : Post := fun e f s =>
  e = .normal ∧ s.lw ∧ ∃ B1 A1, KLe B B1 ∧ Hp B1 ((b, some (.ex l N fr (mk .ready none))) :: (A1 ++ L)) s ∧ WX P N n1 (RBp b l N fr mk B L C) [.code body] f B1 ((b, some (.ex l N fr (mk .busy none))) :: A1) L
def Rnd (P : Program) (b l N : Nat) (fr : Fr) (mk : LoopState → Option Code → Array Value → Obj) (ps : Array Tmp) (assign body : Code) (xs : List AV) (B : Kn) (A : Own) (L : Own) (C : Option Code → Kn → Own → Prop) : Prop :=
  ∀ n1, WX P N n1 (RAp P n1 b l N fr mk body B L C) [.code assign] (putL ps.toList xs fr) B ((b, some (.ex l N fr (mk .ready none))) :: A) L
theorem WX.body {n1 b l : Nat} {fr' : Fr} {mk : LoopState → Option Code → Array Value → Obj} {body : Code} {B0 : Kn} {C : Option Code → Kn → Own → Prop} (hB : KLe B0 B)
    (h : WX P N n1 (RBp b l N fr' mk B0 L C) [.code body] fr B ((b, some (.ex l N fr' (mk .busy none))) :: A) L) : WX P N n1 (RAp P n1 b l N fr' mk body B0 L C) [] fr B ((b, some (.ex l N fr' (mk .ready none))) :: A) L :=
  fun st hl hp => ⟨rfl, hl, B, A, hB, hp, h⟩
theorem WX.rnd {n1 b l : Nat} {fr' : Fr} {mk : LoopState → Option Code → Array Value → Obj} {B0 : Kn} {C : Option Code → Kn → Own → Prop} (hB : KLe B0 B) (h : C none B A) :
    WX P N n1 (RBp b l N fr' mk B0 L C) [] fr B ((b, some (.ex l N fr' (mk .busy none))) :: A) L := fun st hl hp => ⟨hl, none, rfl, B, A, hB, h, hp⟩
theorem WX.rndR {n1 b l : Nat} {fr' : Fr} {mk : LoopState → Option Code → Array Value → Obj} {B0 : Kn} {C : Option Code → Kn → Own → Prop} (hB : KLe B0 B) (h : C (some .ret) B A) :
    WX P N n1 (RBp b l N fr' mk B0 L C) (.code .ret :: k) fr B ((b, some (.ex l N fr' (mk .busy none))) :: A) L := fun st hl hp =>
  AX.ret (AX.retk ⟨hl, some .ret, rfl, B, A, hB, h, hp⟩)
theorem WO.yield {d : Option Nat} {c : Call} {ty : TypeId} {pp : String} {af : Array Edge} {gd : Option (Nat × Bool)} {rest : List Oper} {g : Operand} {l b N' D : Nat} {fr' : Fr} {fn : FuncId} {ps : Array Tmp} {assign body : Code} {xs : List AV} {AI : Own} {C : Option Code → Kn → Own → Prop}
    (hc : c.callee = .value g) (hg : fr.ev g = yieldV l) (hR : Rnd P b l N' fr' (mkL fn ps assign body D) ps assign body xs B AI (A ++ L) C) (hargs : c.args.toList.map fr.ev = xs) (hps : ps.size = xs.length) (hpN : ∀ t ∈ ps.toList, t < N')
    (hw : wantedA ops.toList fr ⟨d, .call c, ty, pp, af, gd⟩ = some true) (hd : dstOk N d = true) (hna : nr assign = false) (hnb : nr body = false)
    (h : ∀ j B' AI', KLe B B' → C j B' AI' → WO P N n0 ops rest R k (fr.put d (.bool j.isNone)) B' A (((b, some (.ex l N' fr' (mkL fn ps assign body D (endSt j) j))) :: AI') ++ L)) :
    WO P N n0 ops (⟨d, .call c, ty, pp, af, gd⟩ :: rest) R k fr B A (((b, some (.ex l N' fr' (mkL fn ps assign body D .ready none))) :: AI) ++ L) := fun st hl hp => by
  have hperm : ∀ (x : Nat × Option OV) (AI : Own), (A ++ ((x :: AI) ++ L)).Perm (x :: (AI ++ (A ++ L))) := fun x AI => by
    rw [List.cons_append]
    exact List.perm_middle.trans (List.Perm.cons x perm_call)
  have hp1 := hp.perm (hperm _ _)
  have hb := hp1.own b _ List.mem_cons_self
  refine AOps.yield rfl hc hw hg hargs hps hpN hd hb hna hnb ((hR st.n st hl hp1).mono fun e f s hq => ?_)
  obtain ⟨rfl, hl1, B1, A1, hB1, hp2, hbody⟩ := hq
  refine ⟨rfl, hp2.own b _ List.mem_cons_self, (hbody _ (lw_set hl1 (o' := .siter [] 0) (hp2.lt hl1 List.mem_cons_self) _) hp2.setx).mono fun e f s hq => ?_⟩
  obtain ⟨hl2, j, hj, B2, A2, hB2, hC, hp3⟩ := hq
  refine ⟨hp3.own b _ List.mem_cons_self, j, hj, h j B2 A2 hB2 hC _ (lw_set hl2 (o' := .siter [] 0) (hp3.lt hl2 List.mem_cons_self) _) ((hp3.setx (u' := .ex l N' fr' (mkL fn ps assign body D (endSt j) j))).perm (hperm _ _).symm)⟩
theorem WX.rangeFunc {g : Operand} {ps : Array Tmp} {assign body : Code} {gf : FuncId} {cap : List AV} {C : Option Code → Kn → Own → Prop} (hg : fr.ev g = .fn (.func gf) [] cap)
    (hs : ∀ fn l D b st, Hp B ((b, some (.ex l N fr (mkL fn ps assign body D .ready none))) :: (A ++ L)) st → ASpec P gf (yieldV l :: cap) st fun _ s => ∃ j t B' A', KLe B B' ∧ C j B' A' ∧ t ≠ .busy ∧ Hp B' ((b, some (.ex l N fr (mkL fn ps assign body D t j))) :: (A' ++ L)) s)
    (h : ∀ j B' A', KLe B B' → C j B' A' → match j with
      | none => WX P N n0 R k fr B' A' L
      | some c => nr c = false ∧ WX P N n0 R (.code c :: k) fr B' A' L) :
    WX P N n0 R (.code (.rangeFunc g ps assign body) :: k) fr B A L := fun st hl hp =>
  ACode.rangeFunc hg fun fn l D => ((hs fn l D st.n _ (hp.pushV hl (.ex l N fr (mkL fn ps assign body D .ready none)))).lw).mono fun v s ⟨⟨j, t, B', A', hB, hC, ht, hp'⟩, hls⟩ => by
    have hp2 : Hp B' (A' ++ L) (s.set st.n (.ext l N fr (mkL fn ps assign body D .exhausted j))) := (hp'.setx (u' := .ex l N fr (mkL fn ps assign body D .exhausted j))).tail
    have hl2 := lw_set hls (o' := .siter [] 0) (hp'.lt hls List.mem_cons_self) (.ext l N fr (mkL fn ps assign body D .exhausted j))
    refine ⟨t, j, hp'.own _ _ List.mem_cons_self, ht, ?_⟩
    have := h j B' A' hB hC
    cases j with
    | none => exact this _ hl2 hp2
    | some c => exact ⟨this.1, this.2 _ hl2 hp2⟩
def SeqC {α : Type} (P : Program) (g : FuncId) (cap : List AV) (enc : α → AV) (S : List α → Prop) (n : Nat) (B0 : Kn) (C0 L : Own) : Prop :=
  ∀ (b l N D : Nat) (fr : Fr) (fn : FuncId) (ps : Array Tmp) (assign body : Code) (I : List α → Kn → Own → Prop), ps.size = 1 → (∀ t ∈ ps.toList, t < N) → nr assign = false → nr body = false →
    (∀ pre x B AI L', KLe B0 B → I pre B AI → pre.length < n → Rnd P b l N fr (mkL fn ps assign body D) ps assign body [enc x] B AI L' fun j B' A' => j = none ∧ I (pre ++ [x]) B' A') →
    ∀ AI, I [] B0 AI → ∀ st, Hp B0 ((b, some (.ex l N fr (mkL fn ps assign body D .ready none))) :: (AI ++ (C0 ++ L))) st →
      ASpec P g (yieldV l :: cap) st fun _ s => ∃ B' A' xs, KLe B0 B' ∧ S xs ∧ I xs B' A' ∧ Hp B' ((b, some (.ex l N fr (mkL fn ps assign body D .ready none))) :: (A' ++ L)) s
def SeqD {α : Type} (P : Program) (g : FuncId) (cap : List AV) (enc : α → AV) (xs : List α) (B0 : Kn) (C0 L : Own) : Prop :=
  ∀ (b l N D : Nat) (fr : Fr) (fn : FuncId) (ps : Array Tmp) (assign body : Code) (I : List α → Kn → Own → Prop) (X : Code → Kn → Own → Prop), ps.size = 1 → (∀ t ∈ ps.toList, t < N) → nr assign = false → nr body = false →
    (∀ pre x post B AI L', KLe B0 B → I pre B AI → xs = pre ++ x :: post → Rnd P b l N fr (mkL fn ps assign body D) ps assign body [enc x] B AI L' fun j B' A' => match j with
      | none => I (pre ++ [x]) B' A'
      | some c => X c B' A') →
    ∀ AI, I [] B0 AI → ∀ st, Hp B0 ((b, some (.ex l N fr (mkL fn ps assign body D .ready none))) :: (AI ++ (C0 ++ L))) st →
      ASpec P g (yieldV l :: cap) st fun _ s => ∃ B' A' j, KLe B0 B' ∧ (match j with
        | none => I xs B' A'
        | some c => X c B' A') ∧ Hp B' ((b, some (.ex l N fr (mkL fn ps assign body D (endSt j) j))) :: (A' ++ L)) s
theorem inE2 {X E : Own} {e : Nat × Option OV} (h : e ∈ E) : e ∈ A ++ (X ++ E) := List.mem_append_right _ (List.mem_append_right _ h)
theorem WX.rangeOut {α : Type} {enc : α → AV} {S : List α → Prop} {n : Nat} {C0 : Own} (I : List α → Kn → Own → Prop) {g : Operand} {ps : Array Tmp} {assign body : Code} {gf : FuncId} {cap : List AV} (hg : fr.ev g = .fn (.func gf) [] cap) (hq : SeqC P gf cap enc S n B C0 L)
    (hps : ps.size = 1) (hpN : ∀ t ∈ ps.toList, t < N) (hna : nr assign = false) (hnb : nr body = false)
    (hR : ∀ fn l D b pre x B' AI L', KLe B B' → I pre B' AI → pre.length < n → Rnd P b l N fr (mkL fn ps assign body D) ps assign body [enc x] B' AI L' fun j B' A' => j = none ∧ I (pre ++ [x]) B' A')
    (h0 : I [] B A) (h : ∀ B' xs A', KLe B B' → S xs → I xs B' A' → WX P N n0 R k fr B' A' L) : WX P N n0 R (.code (.rangeFunc g ps assign body) :: k) fr B A (C0 ++ L) := fun st hl hp =>
  ACode.rangeFunc hg fun fn l D => ((hq _ _ _ _ _ _ _ _ _ I hps hpN hna hnb (hR fn l D st.n) A h0 _ (hp.pushV hl (.ex l N fr (mkL fn ps assign body D .ready none)))).lw).mono fun v s ⟨⟨B', A', xs, hB, hS, hI, hp'⟩, hls⟩ => by
    refine ⟨.ready, none, hp'.own _ _ List.mem_cons_self, by decide, ?_⟩
    exact h B' xs A' hB hS hI _ (lw_set hls (o' := .siter [] 0) (hp'.lt hls List.mem_cons_self) _) (hp'.setx (u' := .ex l N fr (mkL fn ps assign body D .exhausted none))).tail
theorem WO.cOut {d : Option Nat} {c : Call} {ty : TypeId} {pp : String} {af : Array Edge} {gd : Option (Nat × Bool)} {rest : List Oper} {gop : Operand} {f : FuncId} {first cap args : List AV} {Q : Kn → AV → Nat × Option OV → Prop} {C0 : Own} (hc : c.callee = .value gop) (hg : fr.ev gop = .fn (.func f) first cap) (hs : ∀ st, Hp B (C0 ++ L) st → ASpec P f args st (C1 B L Q))
    (ha : first ++ c.args.toList.map fr.ev ++ cap = args) (hw : wantedA ops.toList fr ⟨d, .call c, ty, pp, af, gd⟩ = some true) (hd : dstOk N d = true)
    (h : ∀ v B' e, KLe B B' → Q B' v e → WO P N n0 ops rest R k (fr.put d v) B' [e] L) : WO P N n0 ops (⟨d, .call c, ty, pp, af, gd⟩ :: rest) R k fr B [] (C0 ++ L) := fun st hl hp =>
  AOps.call rfl hc hw hg ha hd ((hs st hp).lw.mono fun v s ⟨⟨B', e, h0, h1, h2⟩, h3⟩ => h v B' e h0 h2 s h3 h1)
theorem WX.rangeOutD {α : Type} {enc : α → AV} {xs : List α} {C0 : Own} (I : List α → Kn → Own → Prop) (X : Code → Kn → Own → Prop) {g : Operand} {ps : Array Tmp} {assign body : Code} {gf : FuncId} {cap : List AV} (hg : fr.ev g = .fn (.func gf) [] cap) (hq : SeqD P gf cap enc xs B C0 L)
    (hps : ps.size = 1) (hpN : ∀ t ∈ ps.toList, t < N) (hna : nr assign = false) (hnb : nr body = false)
    (hR : ∀ fn l D b pre x post B' AI L', KLe B B' → I pre B' AI → xs = pre ++ x :: post → Rnd P b l N fr (mkL fn ps assign body D) ps assign body [enc x] B' AI L' fun j B' A' => match j with
      | none => I (pre ++ [x]) B' A'
      | some c => X c B' A')
    (h0 : I [] B A) (h : ∀ B' A', KLe B B' → I xs B' A' → WX P N n0 R k fr B' A' L) (hx : ∀ c B' A', KLe B B' → X c B' A' → nr c = false ∧ WX P N n0 R (.code c :: k) fr B' A' L) : WX P N n0 R (.code (.rangeFunc g ps assign body) :: k) fr B A (C0 ++ L) := fun st hl hp =>
  ACode.rangeFunc hg fun fn l D => ((hq _ _ _ _ _ _ _ _ _ I X hps hpN hna hnb (hR fn l D st.n) A h0 _ (hp.pushV hl (.ex l N fr (mkL fn ps assign body D .ready none)))).lw).mono fun v s ⟨⟨B', A', j, hB, hI, hp'⟩, hls⟩ => by
    refine ⟨endSt j, j, hp'.own _ _ List.mem_cons_self, by cases j <;> simp [endSt], ?_⟩
    have hp2 : Hp B' (A' ++ L) (s.set st.n (.ext l N fr (mkL fn ps assign body D .exhausted j))) := (hp'.setx (u' := .ex l N fr (mkL fn ps assign body D .exhausted j))).tail
    have hl2 := lw_set hls (o' := .siter [] 0) (hp'.lt hls List.mem_cons_self) (.ext l N fr (mkL fn ps assign body D .exhausted j))
    cases j with
    | none => exact h B' A' hB hI _ hl2 hp2
    | some c => exact ⟨(hx c B' A' hB hI).1, (hx c B' A' hB hI).2 _ hl2 hp2⟩
def CX (B : Kn) (L : Own) (Q : Kn → Own → AV → Prop) : AV → St → Prop := fun v s => ∃ B' X, KLe B B' ∧ Hp B' (X ++ L) s ∧ Q B' X v
theorem WO.cx {d : Option Nat} {c : Call} {ty : TypeId} {pp : String} {af : Array Edge} {gd : Option (Nat × Bool)} {rest : List Oper} {gop : Operand} {f : FuncId} {first cap args : List AV} {Q : Kn → Own → AV → Prop} (hc : c.callee = .value gop) (hg : fr.ev gop = .fn (.func f) first cap) (hs : ∀ st, Hp B (A ++ L) st → ASpec P f args st (CX B (A ++ L) Q))
    (ha : first ++ c.args.toList.map fr.ev ++ cap = args) (hw : wantedA ops.toList fr ⟨d, .call c, ty, pp, af, gd⟩ = some true) (hd : dstOk N d = true)
    (h : ∀ v B' X, KLe B B' → Q B' X v → WO P N n0 ops rest R k (fr.put d v) B' (X ++ A) L) : WO P N n0 ops (⟨d, .call c, ty, pp, af, gd⟩ :: rest) R k fr B A L := fun st hl hp =>
  AOps.call rfl hc hw hg ha hd ((hs st hp).lw.mono fun v s ⟨⟨B', X, h0, h1, h2⟩, h3⟩ => h v B' X h0 h2 s h3 (by rw [List.append_assoc]; exact h1))
theorem WX.beside {C0 A' : Own} (hA : A.Perm (A' ++ C0)) (h : WX P N n0 R k fr B A' (C0 ++ L)) : WX P N n0 R k fr B A L := fun st hl hp =>
  h st hl (hp.perm (by rw [← List.append_assoc]; exact hA.append_right L))
end
end Gab
end
section
set_option linter.unusedSimpArgs false
set_option linter.unusedVariables false
set_option maxHeartbeats 4000000
set_option maxRecDepth 100000
namespace Gab
open Go Go.Proofs
theorem keysG_nodes {B : Kn} {L : Own} {mv : AV} (hmv : mv.cells = some [mv]) : ∀ st, Hp B L st → ASpec Tryz.prog 68 [mv] st (C1 B L fun B' v e => ∃ bx, v = .fn (.func 127) [] [.ptr bx 0] ∧ e = (bx, some (OV.c [mv]))) := by
  refine bodyA (A := []) Tryz.func68 rfl (c := bodyOf Tryz.f68) rfl Tryz.ntmps68 (lb rfl) fun n0 => ?_
  repeat refine WX.seq ?_
  refine WX.reg ?_
  refine WO.md (MOp.box (cs := [mv]) hmv) rfl rfl ?_
  rintro _ _ ⟨bx, rfl, rfl⟩
  refine WO.q (.as (v := .nilfn) rfl) rfl rfl ?_
  refine WO.nil ?_
  repeat refine WX.seq ?_
  refine WX.reg ?_
  refine WO.q (.r fun _ => rfl) rfl rfl ?_
  refine WO.q (.as (v := .fn _ _ _) rfl) rfl rfl ?_
  refine WO.nil ?_
  exact WX.ret (rs_ (rs_tmp rfl rs_nil)) fun st hp => ⟨B, _, KLe.refl B, hp, bx, rfl, rfl⟩
theorem keysS_nodes {β : Type} {tv : KTy β} {Bm B0 : Kn} {L : Own} {bm bx c : Nat} {es : MEnts} {qs : List ((Int) × β)} (hm : MPs (KTy.int .i64) tv Bm es c qs) (hM : (bm, some (OV.m es c)) ∈ L) :
    SeqC Tryz.prog 127 [.ptr bx 0] (fun x : Int => (AV.int .i64 x)) (fun xs => xs.Perm (qs.map (·.1))) qs.length B0 [(bx, some (OV.c [.map bm]))] L := by
  intro b l N D fr fn ps assign body I hps hpN hna hnb hR AI h0
  have key : ∀ st, Hp B0 ([(bx, some (OV.c [.map bm]))] ++ (((b, some (.ex l N fr (mkL fn ps assign body D .ready none))) :: AI) ++ L)) st → ASpec Tryz.prog 127 (yieldV l :: [.ptr bx 0]) st fun _ s => ∃ B' A' xs, KLe B0 B' ∧ xs.Perm (qs.map (·.1)) ∧ I xs B' A' ∧ Hp B' ((b, some (.ex l N fr (mkL fn ps assign body D .ready none))) :: (A' ++ L)) s := by
    refine bodyA (A := [(bx, some (OV.c [.map bm]))]) Tryz.func127 rfl (c := bodyOf Tryz.f127) rfl Tryz.ntmps127 (lb rfl) fun n0 => ?_
    repeat refine WX.seq ?_
    refine WX.reg ?_
    refine WO.q (.ldS (i := 0) rfl rfl rfl ti122 rfl) rfl rfl ?_
    refine WO.md (MOp.range mt122 (inE2 hM) rfl) rfl rfl ?_
    rintro _ _ ⟨bi, rfl, rfl⟩
    refine WO.nil ?_
    refine WX.block ?_
    refine WX.loop ?_
    refine WX.keep [0, 5] (WX.pk [0] (by decide) ?_) rfl
    refine WX.loopN (I := fun n fr1 B1 A E1 => KLe B0 B1 ∧ ∃ (seen : List Nat) (xs : List (Int)) (AI' : Own), E1 = (b, some (OV.ex l N fr (mkL fn ps assign body D .ready none))) :: AI' ∧ I xs B1 AI' ∧ n = (Lft es qs seen).length ∧ (xs ++ (Lft es qs seen).map (·.1)).Perm (qs.map (·.1)) ∧ fr1 = [(0, yieldV l), (5, .ptr bi 0)] ∧ A = [(bi, some (OV.i (some bm) c seen c))]) ?_ (Lft es qs []).length _ _ _ _ ⟨KLe.refl _, [], [], AI, rfl, h0, rfl, by rw [Lft.zero hm.len]; exact List.Perm.refl _, rfl, rfl⟩
    rintro k _ B _ _ ⟨hB, seen, xs, AI', rfl, hI, hk, hperm, rfl, rfl⟩ ih
    repeat refine WX.seq ?_
    refine WX.reg ?_
    refine WO.next (A := []) (inE2 hM) rfl hm.lb (Nat.le_refl _) rfl rfl (fun hall => ?_) (fun e he hse => ?_)
    · refine WO.q (.r fun _ => rfl) rfl rfl ?_
      refine WO.nil ?_
      repeat refine WX.seq ?_
      refine WX.condF rfl rfl ?_
      refine WX.exit rfl ?_
      refine WX.fin (rs_ rs_nil) fun st hp => ?_
      rw [Lft.none hall, List.map_nil, List.append_nil] at hperm
      exact ⟨B, AI', xs, hB, hperm, hI, hp.tail⟩
    · obtain ⟨q, hq⟩ := List.mem_iff_getElem?.1 he
      obtain ⟨p, hp1, hp2, hp3⟩ := hm.rel q e hq
      have hpick := Lft.pick (p := p) hm.nb hq hp1 hse
      obtain ⟨ek, ev, eb⟩ := e
      dsimp only at hp2 hp3 hpick hse
      have hek : ek = (fun x : Int => (AV.int .i64 x)) p.1 := hp2
      subst hek
      have hpl := hpick.length_eq
      have hxl : xs.length + (Lft es qs seen).length = qs.length := by have := hperm.length_eq; simpa using this
      rw [List.length_cons] at hpl
      refine WO.q (.r fun _ => rfl) rfl rfl ?_
      refine WO.nil ?_
      repeat refine WX.seq ?_
      refine WX.condT rfl rfl ?_
      refine WX.skip ?_
      refine WX.block ?_
      repeat refine WX.seq ?_
      refine WX.reg ?_
      refine WO.ql (QOp.entry rfl List.mem_cons_self (inE2 hM) hm.nb he) rfl rfl ?_
      refine WO.q (.r fun _ => rfl) rfl rfl ?_
      refine WO.q (.as (v := .int _ _) rfl) rfl rfl ?_
      refine WO.nil ?_
      repeat refine WX.seq ?_
      refine WX.reg ?_
      refine WO.q (.mv (v := yieldV l) rfl) rfl rfl ?_
      refine WO.q (.mv (v := .int _ _) rfl) rfl rfl ?_
      refine WO.yield (b := b) (l := l) (AI := AI') rfl rfl (hR xs p.1 B AI' _ hB hI (by omega)) rfl hps hpN rfl rfl hna hnb ?_
      rintro j B2 AI2 hB2 ⟨rfl, hI2⟩
      refine WO.q (.r fun _ => rfl) rfl rfl ?_
      refine WO.nil ?_
      repeat refine WX.seq ?_
      refine WX.condF rfl rfl ?_
      refine WX.skip ?_
      refine WX.pop ?_
      refine WX.keepL [0, 5] (WX.pk [0] (by decide) ?_) rfl
      exact ih (k - 1) _ _ _ _ (by omega) ⟨hB.trans hB2, seen ++ [eb], xs ++ [p.1], AI2, rfl, hI2, by omega, by
        refine List.Perm.trans ?_ hperm
        rw [List.append_assoc]
        exact List.Perm.append_left _ (by have := (hpick.symm.map (·.1)); simpa using this), rfl, rfl⟩
  intro st hp
  exact key st (hp.perm (List.perm_middle (l₁ := (b, _) :: AI)))
theorem keysG_seen {B : Kn} {L : Own} {mv : AV} (hmv : mv.cells = some [mv]) : ∀ st, Hp B L st → ASpec Tryz.prog 82 [mv] st (C1 B L fun B' v e => ∃ bx, v = .fn (.func 137) [] [.ptr bx 0] ∧ e = (bx, some (OV.c [mv]))) := by
  refine bodyA (A := []) Tryz.func82 rfl (c := bodyOf Tryz.f82) rfl Tryz.ntmps82 (lb rfl) fun n0 => ?_
  repeat refine WX.seq ?_
  refine WX.reg ?_
  refine WO.md (MOp.box (cs := [mv]) hmv) rfl rfl ?_
  rintro _ _ ⟨bx, rfl, rfl⟩
  refine WO.q (.as (v := .nilfn) rfl) rfl rfl ?_
  refine WO.nil ?_
  repeat refine WX.seq ?_
  refine WX.reg ?_
  refine WO.q (.r fun _ => rfl) rfl rfl ?_
  refine WO.q (.as (v := .fn _ _ _) rfl) rfl rfl ?_
  refine WO.nil ?_
  exact WX.ret (rs_ (rs_tmp rfl rs_nil)) fun st hp => ⟨B, _, KLe.refl B, hp, bx, rfl, rfl⟩
theorem keysS_seen {β : Type} {tv : KTy β} {Bm B0 : Kn} {L : Own} {bm bx c : Nat} {es : MEnts} {qs : List ((Int) × β)} (hm : MPs (KTy.int .i64) tv Bm es c qs) (hM : (bm, some (OV.m es c)) ∈ L) :
    SeqC Tryz.prog 137 [.ptr bx 0] (fun x : Int => (AV.int .i64 x)) (fun xs => xs.Perm (qs.map (·.1))) qs.length B0 [(bx, some (OV.c [.map bm]))] L := by
  intro b l N D fr fn ps assign body I hps hpN hna hnb hR AI h0
  have key : ∀ st, Hp B0 ([(bx, some (OV.c [.map bm]))] ++ (((b, some (.ex l N fr (mkL fn ps assign body D .ready none))) :: AI) ++ L)) st → ASpec Tryz.prog 137 (yieldV l :: [.ptr bx 0]) st fun _ s => ∃ B' A' xs, KLe B0 B' ∧ xs.Perm (qs.map (·.1)) ∧ I xs B' A' ∧ Hp B' ((b, some (.ex l N fr (mkL fn ps assign body D .ready none))) :: (A' ++ L)) s := by
    refine bodyA (A := [(bx, some (OV.c [.map bm]))]) Tryz.func137 rfl (c := bodyOf Tryz.f137) rfl Tryz.ntmps137 (lb rfl) fun n0 => ?_
    repeat refine WX.seq ?_
    refine WX.reg ?_
    refine WO.q (.ldS (i := 0) rfl rfl rfl ti124 rfl) rfl rfl ?_
    refine WO.md (MOp.range mt124 (inE2 hM) rfl) rfl rfl ?_
    rintro _ _ ⟨bi, rfl, rfl⟩
    refine WO.nil ?_
    refine WX.block ?_
    refine WX.loop ?_
    refine WX.keep [0, 5] (WX.pk [0] (by decide) ?_) rfl
    refine WX.loopN (I := fun n fr1 B1 A E1 => KLe B0 B1 ∧ ∃ (seen : List Nat) (xs : List (Int)) (AI' : Own), E1 = (b, some (OV.ex l N fr (mkL fn ps assign body D .ready none))) :: AI' ∧ I xs B1 AI' ∧ n = (Lft es qs seen).length ∧ (xs ++ (Lft es qs seen).map (·.1)).Perm (qs.map (·.1)) ∧ fr1 = [(0, yieldV l), (5, .ptr bi 0)] ∧ A = [(bi, some (OV.i (some bm) c seen c))]) ?_ (Lft es qs []).length _ _ _ _ ⟨KLe.refl _, [], [], AI, rfl, h0, rfl, by rw [Lft.zero hm.len]; exact List.Perm.refl _, rfl, rfl⟩
    rintro k _ B _ _ ⟨hB, seen, xs, AI', rfl, hI, hk, hperm, rfl, rfl⟩ ih
    repeat refine WX.seq ?_
    refine WX.reg ?_
    refine WO.next (A := []) (inE2 hM) rfl hm.lb (Nat.le_refl _) rfl rfl (fun hall => ?_) (fun e he hse => ?_)
    · refine WO.q (.r fun _ => rfl) rfl rfl ?_
      refine WO.nil ?_
      repeat refine WX.seq ?_
      refine WX.condF rfl rfl ?_
      refine WX.exit rfl ?_
      refine WX.fin (rs_ rs_nil) fun st hp => ?_
      rw [Lft.none hall, List.map_nil, List.append_nil] at hperm
      exact ⟨B, AI', xs, hB, hperm, hI, hp.tail⟩
    · obtain ⟨q, hq⟩ := List.mem_iff_getElem?.1 he
      obtain ⟨p, hp1, hp2, hp3⟩ := hm.rel q e hq
      have hpick := Lft.pick (p := p) hm.nb hq hp1 hse
      obtain ⟨ek, ev, eb⟩ := e
      dsimp only at hp2 hp3 hpick hse
      have hek : ek = (fun x : Int => (AV.int .i64 x)) p.1 := hp2
      subst hek
      have hpl := hpick.length_eq
      have hxl : xs.length + (Lft es qs seen).length = qs.length := by have := hperm.length_eq; simpa using this
      rw [List.length_cons] at hpl
      refine WO.q (.r fun _ => rfl) rfl rfl ?_
      refine WO.nil ?_
      repeat refine WX.seq ?_
      refine WX.condT rfl rfl ?_
      refine WX.skip ?_
      refine WX.block ?_
      repeat refine WX.seq ?_
      refine WX.reg ?_
      refine WO.ql (QOp.entry rfl List.mem_cons_self (inE2 hM) hm.nb he) rfl rfl ?_
      refine WO.q (.r fun _ => rfl) rfl rfl ?_
      refine WO.q (.as (v := .int _ _) rfl) rfl rfl ?_
      refine WO.nil ?_
      repeat refine WX.seq ?_
      refine WX.reg ?_
      refine WO.q (.mv (v := yieldV l) rfl) rfl rfl ?_
      refine WO.q (.mv (v := .int _ _) rfl) rfl rfl ?_
      refine WO.yield (b := b) (l := l) (AI := AI') rfl rfl (hR xs p.1 B AI' _ hB hI (by omega)) rfl hps hpN rfl rfl hna hnb ?_
      rintro j B2 AI2 hB2 ⟨rfl, hI2⟩
      refine WO.q (.r fun _ => rfl) rfl rfl ?_
      refine WO.nil ?_
      repeat refine WX.seq ?_
      refine WX.condF rfl rfl ?_
      refine WX.skip ?_
      refine WX.pop ?_
      refine WX.keepL [0, 5] (WX.pk [0] (by decide) ?_) rfl
      exact ih (k - 1) _ _ _ _ (by omega) ⟨hB.trans hB2, seen ++ [eb], xs ++ [p.1], AI2, rfl, hI2, by omega, by
        refine List.Perm.trans ?_ hperm
        rw [List.append_assoc]
        exact List.Perm.append_left _ (by have := (hpick.symm.map (·.1)); simpa using this), rfl, rfl⟩
  intro st hp
  exact key st (hp.perm (List.perm_middle (l₁ := (b, _) :: AI)))
theorem keysG_names {B : Kn} {L : Own} {mv : AV} (hmv : mv.cells = some [mv]) : ∀ st, Hp B L st → ASpec Tryz.prog 80 [mv] st (C1 B L fun B' v e => ∃ bx, v = .fn (.func 136) [] [.ptr bx 0] ∧ e = (bx, some (OV.c [mv]))) := by
  refine bodyA (A := []) Tryz.func80 rfl (c := bodyOf Tryz.f80) rfl Tryz.ntmps80 (lb rfl) fun n0 => ?_
  repeat refine WX.seq ?_
  refine WX.reg ?_
  refine WO.md (MOp.box (cs := [mv]) hmv) rfl rfl ?_
  rintro _ _ ⟨bx, rfl, rfl⟩
  refine WO.q (.as (v := .nilfn) rfl) rfl rfl ?_
  refine WO.nil ?_
  repeat refine WX.seq ?_
  refine WX.reg ?_
  refine WO.q (.r fun _ => rfl) rfl rfl ?_
  refine WO.q (.as (v := .fn _ _ _) rfl) rfl rfl ?_
  refine WO.nil ?_
  exact WX.ret (rs_ (rs_tmp rfl rs_nil)) fun st hp => ⟨B, _, KLe.refl B, hp, bx, rfl, rfl⟩
theorem keysS_names {β : Type} {tv : KTy β} {Bm B0 : Kn} {L : Own} {bm bx c : Nat} {es : MEnts} {qs : List ((Int × List UInt8) × β)} (hm : MPs (KTy.g EPIi64StQ) tv Bm es c qs) (hM : (bm, some (OV.m es c)) ∈ L) :
    SeqC Tryz.prog 136 [.ptr bx 0] (fun x : Int × List UInt8 => (AV.agg [.int .i64 x.1, .str x.2])) (fun xs => xs.Perm (qs.map (·.1))) qs.length B0 [(bx, some (OV.c [.map bm]))] L := by
  intro b l N D fr fn ps assign body I hps hpN hna hnb hR AI h0
  have key : ∀ st, Hp B0 ([(bx, some (OV.c [.map bm]))] ++ (((b, some (.ex l N fr (mkL fn ps assign body D .ready none))) :: AI) ++ L)) st → ASpec Tryz.prog 136 (yieldV l :: [.ptr bx 0]) st fun _ s => ∃ B' A' xs, KLe B0 B' ∧ xs.Perm (qs.map (·.1)) ∧ I xs B' A' ∧ Hp B' ((b, some (.ex l N fr (mkL fn ps assign body D .ready none))) :: (A' ++ L)) s := by
    refine bodyA (A := [(bx, some (OV.c [.map bm]))]) Tryz.func136 rfl (c := bodyOf Tryz.f136) rfl Tryz.ntmps136 (lb rfl) fun n0 => ?_
    repeat refine WX.seq ?_
    refine WX.reg ?_
    refine WO.q (.ldS (i := 0) rfl rfl rfl ti123 rfl) rfl rfl ?_
    refine WO.md (MOp.range mt123 (inE2 hM) rfl) rfl rfl ?_
    rintro _ _ ⟨bi, rfl, rfl⟩
    refine WO.nil ?_
    refine WX.block ?_
    refine WX.loop ?_
    refine WX.keep [0, 5] (WX.pk [0] (by decide) ?_) rfl
    refine WX.loopN (I := fun n fr1 B1 A E1 => KLe B0 B1 ∧ ∃ (seen : List Nat) (xs : List (Int × List UInt8)) (AI' : Own), E1 = (b, some (OV.ex l N fr (mkL fn ps assign body D .ready none))) :: AI' ∧ I xs B1 AI' ∧ n = (Lft es qs seen).length ∧ (xs ++ (Lft es qs seen).map (·.1)).Perm (qs.map (·.1)) ∧ fr1 = [(0, yieldV l), (5, .ptr bi 0)] ∧ A = [(bi, some (OV.i (some bm) c seen c))]) ?_ (Lft es qs []).length _ _ _ _ ⟨KLe.refl _, [], [], AI, rfl, h0, rfl, by rw [Lft.zero hm.len]; exact List.Perm.refl _, rfl, rfl⟩
    rintro k _ B _ _ ⟨hB, seen, xs, AI', rfl, hI, hk, hperm, rfl, rfl⟩ ih
    repeat refine WX.seq ?_
    refine WX.reg ?_
    refine WO.next (A := []) (inE2 hM) rfl hm.lb (Nat.le_refl _) rfl rfl (fun hall => ?_) (fun e he hse => ?_)
    · refine WO.q (.r fun _ => rfl) rfl rfl ?_
      refine WO.nil ?_
      repeat refine WX.seq ?_
      refine WX.condF rfl rfl ?_
      refine WX.exit rfl ?_
      refine WX.fin (rs_ rs_nil) fun st hp => ?_
      rw [Lft.none hall, List.map_nil, List.append_nil] at hperm
      exact ⟨B, AI', xs, hB, hperm, hI, hp.tail⟩
    · obtain ⟨q, hq⟩ := List.mem_iff_getElem?.1 he
      obtain ⟨p, hp1, hp2, hp3⟩ := hm.rel q e hq
      have hpick := Lft.pick (p := p) hm.nb hq hp1 hse
      obtain ⟨ek, ev, eb⟩ := e
      dsimp only at hp2 hp3 hpick hse
      have hek : ek = (fun x : Int × List UInt8 => (AV.agg [.int .i64 x.1, .str x.2])) p.1 := by obtain ⟨_, rfl, _, _, rfl, rfl, rfl⟩ := hp2; rfl
      subst hek
      have hpl := hpick.length_eq
      have hxl : xs.length + (Lft es qs seen).length = qs.length := by have := hperm.length_eq; simpa using this
      rw [List.length_cons] at hpl
      refine WO.q (.r fun _ => rfl) rfl rfl ?_
      refine WO.nil ?_
      repeat refine WX.seq ?_
      refine WX.condT rfl rfl ?_
      refine WX.skip ?_
      refine WX.block ?_
      repeat refine WX.seq ?_
      refine WX.reg ?_
      refine WO.ql (QOp.entry rfl List.mem_cons_self (inE2 hM) hm.nb he) rfl rfl ?_
      refine WO.q (.r fun _ => rfl) rfl rfl ?_
      refine WO.md (MOp.alloc ti166 rfl) rfl rfl ?_
      rintro _ _ ⟨ba, rfl, rfl⟩
      refine WO.mn (MOp.storeW rfl (cA rfl) .h ti166 rfl rfl rfl) rfl ?_
      rintro _ _ rfl
      refine WO.nil ?_
      repeat refine WX.seq ?_
      refine WX.reg ?_
      refine WO.q (.mv (v := yieldV l) rfl) rfl rfl ?_
      refine WO.q (.ldA (i := 0) rfl rfl rfl ti166 rfl) rfl rfl ?_
      refine WO.yield (b := b) (l := l) (AI := AI') rfl rfl (hR xs p.1 B AI' _ hB hI (by omega)) rfl hps hpN rfl rfl hna hnb ?_
      rintro j B2 AI2 hB2 ⟨rfl, hI2⟩
      refine WO.q (.r fun _ => rfl) rfl rfl ?_
      refine WO.nil ?_
      repeat refine WX.seq ?_
      refine WX.condF rfl rfl ?_
      refine WX.skip ?_
      refine WX.pop ?_
      refine WX.keepL [0, 5] (WX.pk [1] (by decide) ?_) rfl
      exact ih (k - 1) _ _ _ _ (by omega) ⟨hB.trans hB2, seen ++ [eb], xs ++ [p.1], AI2, rfl, hI2, by omega, by
        refine List.Perm.trans ?_ hperm
        rw [List.append_assoc]
        exact List.Perm.append_left _ (by have := (hpick.symm.map (·.1)); simpa using this), rfl, rfl⟩
  intro st hp
  exact key st (hp.perm (List.perm_middle (l₁ := (b, _) :: AI)))
theorem appendSeq_int {g : FuncId} {cap : List AV} {S : List (Int) → Prop} {n : Nat} {B0 : Kn} {C0 L : Own} (hn : n ≤ 1000000) (hsl : ∀ xs, S xs → True) (hq : SeqC Tryz.prog g cap (fun x : Int => (AV.int .i64 x)) S n B0 C0 L) :
    ∀ st, Hp B0 (C0 ++ L) st → ASpec Tryz.prog 154 [.sl 0 0 0 0 0 true, .fn (.func g) [] cap] st (C1 B0 L fun B' v e => ∃ b nl cs xs, e = oe b nl cs ∧ S xs ∧ OSl (Ty.int .i64) B' v b nl cs xs) := by
  intro st0 hp0
  refine bodyA (A := []) (L := C0 ++ L) Tryz.func154 rfl (c := bodyOf Tryz.f154) rfl Tryz.ntmps154 (lb rfl) (fun n0 => ?_) st0 hp0
  repeat refine WX.seq ?_
  refine WX.reg ?_
  refine WO.md (MOp.box (cs := [.sl 0 0 0 0 0 true]) rfl) rfl rfl ?_
  rintro _ _ ⟨bs, rfl, rfl⟩
  refine WO.q (.as (v := .sl _ _ _ _ _ _) rfl) rfl rfl ?_
  refine WO.nil ?_
  repeat refine WX.seq ?_
  refine WX.reg ?_
  refine WO.q (.mv (v := .fn _ _ _) rfl) rfl rfl ?_
  refine WO.nil ?_
  refine WX.block ?_
  refine WX.keep [2, 6] (WX.pk [0] (by decide) (WX.addn [1] ?_)) rfl
  refine WX.rangeOut (fun xs B1 A => ∃ v b2 n2 c2, OSl (Ty.int .i64) B1 v b2 n2 c2 xs ∧ A = [(bs, some (OV.c [v])), oe b2 n2 c2]) rfl hq rfl (by decide) rfl rfl ?_ ⟨_, 0, true, [], OSl.none _ _, rfl⟩ ?_
  · rintro fn l D b pre x B AI L' hB ⟨v, b2, n2, c2, ho, rfl⟩ hlen n1
    obtain ⟨_, _, _, _, _, rfl⟩ := ho.isl
    refine WX.reg ?_
    refine WO.q (.as (v := .int _ _) rfl) rfl rfl ?_
    refine WO.nil ?_
    refine WX.body (KLe.refl _) ?_
    refine WX.block ?_
    refine WX.reg ?_
    refine WO.q (.ldS (i := 1) rfl rfl rfl ti40 rfl) rfl rfl ?_
    refine WO.q (.mv (v := .int _ _) rfl) rfl rfl ?_
    refine WO.md (MOp.bs (l := ([x] : List (Int))) sl40 (RL.cons Ri RL.nil) (lb rfl) rfl rfl) rfl rfl ?_
    rintro v12 _ ⟨b10, o11, rfl⟩
    obtain ⟨_, _, _, _, _, rfl⟩ := o11.isl
    refine WO.md (MOp.app rfl rfl rfl sl40 ho (Src.o (i := 0) sl40 o11 rfl) (appL_ok (n := 17592186044416) (l := pre) (m := [x]) (by simp only [List.length_singleton]; omega)) rfl rfl (fun _ => (.t (.t (.t .h))))) rfl rfl ?_
    rintro v18 _ ⟨b15, n16, o17, rfl⟩
    obtain ⟨_, _, _, _, _, rfl⟩ := o17.isl
    refine WO.mn (MOp.storeW rfl (cL rfl) (.t (.t .h)) ti40 rfl rfl rfl) rfl ?_
    rintro _ _ rfl
    refine WO.nil ?_
    refine WX.pop ?_
    refine WX.pk [1, 2, 3] (by decide) ?_
    exact WX.rnd (KLe.refl _) ⟨rfl, _, _, _, _, o17, rfl⟩
  · rintro B xs A hB hS ⟨v, b2, n2, c2, ho, rfl⟩
    obtain ⟨_, _, _, _, _, rfl⟩ := ho.isl
    refine WX.pop ?_
    repeat refine WX.seq ?_
    refine WX.reg ?_
    refine WO.q (.ldS (i := 0) rfl rfl rfl ti40 rfl) rfl rfl ?_
    refine WO.q (.as (v := .sl _ _ _ _ _ _) rfl) rfl rfl ?_
    refine WO.nil ?_
    exact WX.ret (rs_ (rs_tmp rfl rs_nil)) fun st hp => ⟨B, _, hB, hp.pk [1] (by decide), _, _, _, xs, rfl, hS, ho⟩
theorem collect_int {g : FuncId} {cap : List AV} {S : List (Int) → Prop} {n : Nat} {B0 : Kn} {C0 L : Own} (hn : n ≤ 1000000) (hq : SeqC Tryz.prog g cap (fun x : Int => (AV.int .i64 x)) S n B0 C0 L) :
    ∀ st, Hp B0 (C0 ++ L) st → ASpec Tryz.prog 125 [.fn (.func g) [] cap] st (C1 B0 L fun B' v e => ∃ b nl cs xs, e = oe b nl cs ∧ S xs ∧ OSl (Ty.int .i64) B' v b nl cs xs) := by
  intro st0 hp0
  refine bodyA (A := []) (L := C0 ++ L) Tryz.func125 rfl (c := bodyOf Tryz.f125) rfl Tryz.ntmps125 (lb rfl) (fun n0 => ?_) st0 hp0
  repeat refine WX.seq ?_
  refine WX.reg ?_
  refine WO.q (.as (v := .sl _ _ _ _ _ _) rfl) rfl rfl ?_
  refine WO.nil ?_
  repeat refine WX.seq ?_
  refine WX.reg ?_
  refine WO.q (.mv (v := .fn _ _ _) rfl) rfl rfl ?_
  refine WO.cOut rfl rfl (appendSeq_int hn (fun _ _ => trivial) hq) rfl rfl rfl ?_
  rintro _ B _ hB ⟨b, nl, cs, xs, rfl, hS, ho⟩
  obtain ⟨_, _, _, _, _, rfl⟩ := ho.isl
  refine WO.q (.as (v := .sl _ _ _ _ _ _) rfl) rfl rfl ?_
  refine WO.nil ?_
  exact WX.ret (rs_ (rs_tmp rfl rs_nil)) fun st hp => ⟨B, _, hB, hp.pk [0] (by decide), b, nl, cs, xs, rfl, hS, ho⟩
theorem appendSeq_spot {g : FuncId} {cap : List AV} {S : List (Int × List UInt8) → Prop} {n : Nat} {B0 : Kn} {C0 L : Own} (hn : n ≤ 1000000) (hsl : ∀ xs, S xs → True) (hq : SeqC Tryz.prog g cap (fun x : Int × List UInt8 => (AV.agg [.int .i64 x.1, .str x.2])) S n B0 C0 L) :
    ∀ st, Hp B0 (C0 ++ L) st → ASpec Tryz.prog 159 [.sl 0 0 0 0 0 true, .fn (.func g) [] cap] st (C1 B0 L fun B' v e => ∃ b nl cs xs, e = oe b nl cs ∧ S xs ∧ OSl EPIi64StQ B' v b nl cs xs) := by
  intro st0 hp0
  refine bodyA (A := []) (L := C0 ++ L) Tryz.func159 rfl (c := bodyOf Tryz.f159) rfl Tryz.ntmps159 (lb rfl) (fun n0 => ?_) st0 hp0
  repeat refine WX.seq ?_
  refine WX.reg ?_
  refine WO.md (MOp.box (cs := [.sl 0 0 0 0 0 true]) rfl) rfl rfl ?_
  rintro _ _ ⟨bs, rfl, rfl⟩
  refine WO.q (.as (v := .sl _ _ _ _ _ _) rfl) rfl rfl ?_
  refine WO.nil ?_
  repeat refine WX.seq ?_
  refine WX.reg ?_
  refine WO.q (.mv (v := .fn _ _ _) rfl) rfl rfl ?_
  refine WO.nil ?_
  refine WX.block ?_
  refine WX.keep [2, 6] (WX.pk [0] (by decide) (WX.addn [1] ?_)) rfl
  refine WX.rangeOut (fun xs B1 A => ∃ v b2 n2 c2, OSl EPIi64StQ B1 v b2 n2 c2 xs ∧ A = [(bs, some (OV.c [v])), oe b2 n2 c2]) rfl hq rfl (by decide) rfl rfl ?_ ⟨_, 0, true, [], OSl.none _ _, rfl⟩ ?_
  · rintro fn l D b pre x B AI L' hB ⟨v, b2, n2, c2, ho, rfl⟩ hlen n1
    obtain ⟨_, _, _, _, _, rfl⟩ := ho.isl
    refine WX.reg ?_
    refine WO.md (MOp.alloc ti166 rfl) rfl rfl ?_
    rintro _ _ ⟨ba, rfl, rfl⟩
    refine WO.mn (MOp.storeW rfl (cA rfl) .h ti166 rfl rfl rfl) rfl ?_
    rintro _ _ rfl
    refine WO.nil ?_
    refine WX.pk [1, 0, 2, 3] (by decide) ?_
    refine WX.body (KLe.refl _) ?_
    refine WX.block ?_
    refine WX.reg ?_
    refine WO.q (.ldS (i := 2) rfl rfl rfl ti171 rfl) rfl rfl ?_
    refine WO.q (.ldA (i := 1) rfl rfl rfl ti166 rfl) rfl rfl ?_
    refine WO.md (MOp.bs (l := ([x] : List (Int × List UInt8))) sl171 (RL.cons (Rp Ri Rs) RL.nil) (lb rfl) rfl rfl) rfl rfl ?_
    rintro v12 _ ⟨b10, o11, rfl⟩
    obtain ⟨_, _, _, _, _, rfl⟩ := o11.isl
    refine WO.md (MOp.app rfl rfl rfl sl171 ho (Src.o (i := 0) sl171 o11 rfl) (appL_ok (n := 5864062014805) (l := pre) (m := [x]) (by simp only [List.length_singleton]; omega)) rfl rfl (fun _ => (.t (.t (.t (.t .h)))))) rfl rfl ?_
    rintro v18 _ ⟨b15, n16, o17, rfl⟩
    obtain ⟨_, _, _, _, _, rfl⟩ := o17.isl
    refine WO.mn (MOp.storeW rfl (cL rfl) (.t (.t (.t .h))) ti171 rfl rfl rfl) rfl ?_
    rintro _ _ rfl
    refine WO.nil ?_
    refine WX.pop ?_
    refine WX.pk [1, 3, 4] (by decide) ?_
    exact WX.rnd (KLe.refl _) ⟨rfl, _, _, _, _, o17, rfl⟩
  · rintro B xs A hB hS ⟨v, b2, n2, c2, ho, rfl⟩
    obtain ⟨_, _, _, _, _, rfl⟩ := ho.isl
    refine WX.pop ?_
    repeat refine WX.seq ?_
    refine WX.reg ?_
    refine WO.q (.ldS (i := 0) rfl rfl rfl ti171 rfl) rfl rfl ?_
    refine WO.q (.as (v := .sl _ _ _ _ _ _) rfl) rfl rfl ?_
    refine WO.nil ?_
    exact WX.ret (rs_ (rs_tmp rfl rs_nil)) fun st hp => ⟨B, _, hB, hp.pk [1] (by decide), _, _, _, xs, rfl, hS, ho⟩
theorem collect_spot {g : FuncId} {cap : List AV} {S : List (Int × List UInt8) → Prop} {n : Nat} {B0 : Kn} {C0 L : Own} (hn : n ≤ 1000000) (hq : SeqC Tryz.prog g cap (fun x : Int × List UInt8 => (AV.agg [.int .i64 x.1, .str x.2])) S n B0 C0 L) :
    ∀ st, Hp B0 (C0 ++ L) st → ASpec Tryz.prog 134 [.fn (.func g) [] cap] st (C1 B0 L fun B' v e => ∃ b nl cs xs, e = oe b nl cs ∧ S xs ∧ OSl EPIi64StQ B' v b nl cs xs) := by
  intro st0 hp0
  refine bodyA (A := []) (L := C0 ++ L) Tryz.func134 rfl (c := bodyOf Tryz.f134) rfl Tryz.ntmps134 (lb rfl) (fun n0 => ?_) st0 hp0
  repeat refine WX.seq ?_
  refine WX.reg ?_
  refine WO.q (.as (v := .sl _ _ _ _ _ _) rfl) rfl rfl ?_
  refine WO.nil ?_
  repeat refine WX.seq ?_
  refine WX.reg ?_
  refine WO.q (.mv (v := .fn _ _ _) rfl) rfl rfl ?_
  refine WO.cOut rfl rfl (appendSeq_spot hn (fun _ _ => trivial) hq) rfl rfl rfl ?_
  rintro _ B _ hB ⟨b, nl, cs, xs, rfl, hS, ho⟩
  obtain ⟨_, _, _, _, _, rfl⟩ := ho.isl
  refine WO.q (.as (v := .sl _ _ _ _ _ _) rfl) rfl rfl ?_
  refine WO.nil ?_
  exact WX.ret (rs_ (rs_tmp rfl rs_nil)) fun st hp => ⟨B, _, hB, hp.pk [0] (by decide), b, nl, cs, xs, rfl, hS, ho⟩
end Gab
end
