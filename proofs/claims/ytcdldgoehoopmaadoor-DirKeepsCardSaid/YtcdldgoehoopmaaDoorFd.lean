/- The Go functions as Lean functions over numbers and lists. Written by a program (gp.py). -/
import Derived.Test.YtcdldgoehoopmaaDoorHn
set_option linter.unusedSimpArgs false
set_option linter.unusedVariables false
set_option maxHeartbeats 4000000
set_option maxRecDepth 100000
namespace Gab
open Go
/-- The objects of the heap, type by type. -/
structure Heap where
  h26 : List (List ((List UInt8) × Int))
  h66 : List ((List Nat) × Int)
def dir_buckets_l0 (H : Heap) (x3 : List Nat) (x8 : Int) (x9 : Int) : Option ((Heap × (List Nat) × Int × Int) ⊕ (Heap × (List Nat))) :=
  (if x9 < x8 then ((some ({H with h26 := H.h26 ++ [[]]} : Heap)).bind fun H9 => ((rd x3 x9).bind fun y10 => some (.inl (H9, (x3.set x9.toNat (H.h26.length + 1)), x8, (wi64 (x9 + 1)))))) else some (.inr (H, x3)))
def dir_buckets (H : Heap) (a0 : Int) : Option (Heap × (List Nat)) :=
  (ifS (0 ≤ a0 ∧ a0 ≤ 9223372036854775807 ∧ (8 : Nat) * a0 ≤ 281474976710656) ((iter (fun (s : Heap × (List Nat) × Int × Int) => dir_buckets_l0 s.1 s.2.1 s.2.2.1 s.2.2.2) ((List.replicate a0.toNat 0).length + 1) (H, (List.replicate a0.toNat 0), ((List.replicate a0.toNat 0).length : Int), 0)).bind fun e15 => some (e15.1, e15.2)))
def dir_New (H : Heap)  : Option (Heap × Nat) :=
  ((dir_buckets H 4).bind fun y1 => ((some ({y1.1 with h66 := y1.1.h66 ++ [((y1.2, 0) : (List Nat) × Int)]} : Heap)).bind fun H10 => some (H10, (y1.1.h66.length + 1))))
def strconv_Itoa (a0 : Int) : Option (List UInt8) := ifS (-9223372036854775808 ≤ a0 ∧ a0 ≤ 9223372036854775807) (some (itoaB a0))
def strings_shouldUseASCIISet (a0 : Int) : Option Bool :=
  some (decide (8 < a0))
def stringslite_IndexByte (a0 : List UInt8) (a1 : Int) : Option Int :=
  some (idxB a0 a1)
def strings_IndexByte (a0 : List UInt8) (a1 : Int) : Option Int :=
  ((stringslite_IndexByte a0 a1).bind fun y1 => some y1)
def unicode_utf8_ValidRune_j2 (x10 : Bool) : Option Bool :=
  (if x10 = true then some true else some false)
def unicode_utf8_ValidRune_j1 (x0 : Int) (x3 : Bool) : Option Bool :=
  (if x3 = true then some true else (if 57343 < x0 then unicode_utf8_ValidRune_j2 (decide (x0 ≤ 1114111)) else unicode_utf8_ValidRune_j2 false))
def unicode_utf8_ValidRune (a0 : Int) : Option Bool :=
  (if 0 ≤ a0 then unicode_utf8_ValidRune_j1 a0 (decide (a0 < 55296)) else unicode_utf8_ValidRune_j1 a0 false)
def strings_ContainsAny (a0 a1 : List UInt8) : Option Bool := ifS (a1 = [47, 0] ∧ a0.length < 4294967281) (some (a0.any fun b => b == 47 || b == 0))
def dir_Name_j1 (x21 : Bool) : Option Int :=
  (if x21 = true then some 18 else some 0)
def dir_Name (a0 : List UInt8) : Option Int :=
  (if a0 = ([] : List UInt8) then dir_Name_j1 true else (if 32 < (a0.length : Int) then dir_Name_j1 true else (if a0 = ([46] : List UInt8) then dir_Name_j1 true else (if a0 = ([46, 46] : List UInt8) then dir_Name_j1 true else ((strings_ContainsAny a0 ([47, 0] : List UInt8)).bind fun y6 => dir_Name_j1 y6)))))
def dir_number (a0 : Int) : Option Bool :=
  (if 0 ≤ a0 then some (decide (a0 ≤ 65535)) else some false)
def crc_Sum16_j13 (x0 : List UInt8) (x3 : Int) (x8 : Int) (x18 : Int) : Option ((Int × Int × Int) ⊕ (Int × Int)) :=
  some (.inl (x3, x8, (wi64 (x18 + 1))))
def crc_Sum16_l1 (x0 : List UInt8) (x3 : Int) (x8 : Int) (x18 : Int) : Option ((Int × Int × Int) ⊕ (Int × Int)) :=
  (if x18 < 8 then (if (bitsA .and .u16 x3 32768) ≠ 0 then crc_Sum16_j13 x0 (bitsA .xor .u16 (shlK .u16 x3 1) 4129) x8 x18 else crc_Sum16_j13 x0 (shlK .u16 x3 1) x8 x18) else some (.inr (x3, x8)))
def crc_Sum16_l0 (x0 : List UInt8) (x3 : Int) (x8 : Int) : Option ((Int × Int) ⊕ Int) :=
  (if x8 < (x0.length : Int) then ((rd x0 x8).bind fun y2 => ((iter (fun (s : Int × Int × Int) => crc_Sum16_l1 x0 s.1 s.2.1 s.2.2) ((8 : Int).toNat + 1) ((bitsA .xor .u16 x3 (shlK .u16 (wu16 (y2.toNat : Int)) 8)), x8, 0)).bind fun e5 => some (.inl (e5.1, (wi64 (e5.2 + 1)))))) else some (.inr x3))
def crc_Sum16 (a0 : List UInt8) : Option Int :=
  ((iter (fun (s : Int × Int) => crc_Sum16_l0 a0 s.1 s.2) (a0.length + 1) (65535, 0)).bind fun e7 => some e7)
def dir_Dir_bucket (H : Heap) (a0 : Nat) (a1 : List UInt8) : Option Nat :=
  ((hobj H.h66 a0).bind fun y1 => ((crc_Sum16 a1).bind fun y3 => (ifS ((y1.1.length : Int) ≠ 0) ((rd y1.1 (Int.tmod (wi64 y3) (y1.1.length : Int))).bind fun y5 => some y5))))
def dir_Dir_Get (H : Heap) (a0 : Nat) (a1 : List UInt8) : Option (Int × Bool) :=
  (if a0 = 0 then some (0, false) else ((dir_Dir_bucket H a0 a1).bind fun y2 => ((hmap H.h26 y2).bind fun y5 => some (((mget y5 a1).getD 0), (mget y5 a1).isSome))))
def hashN (n : Nat) (k : List UInt8) : Int := Int.tmod (wi64 ((crc_Sum16 k).getD 0)) (n : Int)
def grown (H : Heap) (a0 : Nat) (d : List Nat × Int) (es : List (List UInt8 × Int)) : Heap := {H with h66 := hset H.h66 a0 ((List.range (2 * d.1.length)).map (fun i => H.h26.length + 1 + i), d.2), h26 := H.h26 ++ (List.range (2 * d.1.length)).map fun (i : Nat) => es.filter fun e => decide (hashN (2 * d.1.length) e.1 = (i : Int))}
def dir_Dir_grow (H : Heap) (a0 : Nat) : Option Heap := (hobj H.h66 a0).bind fun d => (d.1.mapM fun m => hobj H.h26 m).bind fun ms => ifS ((ms.flatten.map (·.1)).Nodup) (ifS (1 ≤ d.1.length ∧ d.1.length ≤ 100000) (ifS (∀ e ∈ ms.flatten, (crc_Sum16 e.1).isSome = true ∧ 0 ≤ hashN (2 * d.1.length) e.1) (some (grown H a0 d ms.flatten))))
def dir_Dir_Put_j10 (H : Heap) (x0 : Nat) (x1 : List UInt8) (x2 : Int) : Option (Heap × Int) :=
  ((dir_Dir_bucket H x0 x1).bind fun y9 => ((hobj H.h26 y9).bind fun y12 => ((some ({H with h26 := hset H.h26 y9 (mput y12 x1 x2)} : Heap)).bind fun H13 => some (H13, 0))))
def dir_Dir_Put (H : Heap) (a0 : Nat) (a1 : List UInt8) (a2 : Int) : Option (Heap × Int) :=
  ((dir_Name a1).bind fun y1 => (if a0 = 0 then some (H, 1) else (if y1 ≠ 0 then some (H, y1) else ((dir_number a2).bind fun y4 => (if y4 = true then ((dir_Dir_Get H a0 a1).bind fun y6 => (if y6.2 = true then dir_Dir_Put_j10 H a0 a1 a2 else ((hobj H.h66 a0).bind fun y14 => ((some ({H with h66 := hset H.h66 a0 (y14.1, (wi64 (y14.2 + 1)))} : Heap)).bind fun H16 => ((hobj H16.h66 a0).bind fun y18 => (if (wi64 (4 * (y18.1.length : Int))) < y18.2 then ((dir_Dir_grow H16 a0).bind fun y21 => dir_Dir_Put_j10 y21 a0 a1 a2) else dir_Dir_Put_j10 H16 a0 a1 a2)))))) else some (H, 2))))))
def dir_Dir_Drop (H : Heap) (a0 : Nat) (a1 : List UInt8) : Option (Heap × Int) :=
  (if a0 = 0 then some (H, 1) else ((dir_Dir_Get H a0 a1).bind fun y2 => (if y2.2 = true then ((dir_Dir_bucket H a0 a1).bind fun y4 => ((hobj H.h26 y4).bind fun y7 => ((some ({H with h26 := hset H.h26 y4 (mdel y7 a1)} : Heap)).bind fun H8 => ((hobj H8.h66 a0).bind fun y9 => ((some ({H8 with h66 := hset H8.h66 a0 (y9.1, (wi64 (y9.2 - 1)))} : Heap)).bind fun H11 => some (H11, 0)))))) else some (H, 13))))
def dir_Dir_Buckets_l0 (H : Heap) (x11 : List Nat) (x3 : List Int) (x13 : Int) : Option (((List Int) × Int) ⊕ (List Int)) :=
  (if x13 < (x11.length : Int) then ((rd x11 x13).bind fun y7 => ((hmap H.h26 y7).bind fun y9 => ((appL 17592186044416 x3 ([(y9.length : Int)])).bind fun y14 => some (.inl (y14, (wi64 (x13 + 1))))))) else some (.inr x3))
def dir_Dir_Buckets (H : Heap) (a0 : Nat) : Option (List Int) :=
  (if a0 = 0 then some ([]) else ((hobj H.h66 a0).bind fun y2 => ((iter (fun (s : (List Int) × Int) => dir_Dir_Buckets_l0 H y2.1 s.1 s.2) (y2.1.length + 1) ([], 0)).bind fun e20 => some e20)))
def dir_Dir_Len (H : Heap) (a0 : Nat) : Option Int :=
  (if a0 = 0 then some 0 else ((hobj H.h66 a0).bind fun y2 => some y2.2))
def gabionlaw17_wakes_l0 (x1 : Nat) (H : Heap) (x6 : Int) : Option ((Heap × Int) ⊕ ((Heap × Bool) ⊕ Heap)) :=
  (if x6 < 17 then ((strconv_Itoa x6).bind fun y6 => ((catS ([110] : List UInt8) y6).bind fun y7 => ((dir_Dir_Put H x1 y7 x6).bind fun y8 => (if y8.2 ≠ 0 then some (.inr (.inl (y8.1, false))) else some (.inl (y8.1, (wi64 (x6 + 1)))))))) else some (.inr (.inr H)))
def gabionlaw17_wakes (H : Heap)  : Option (Heap × Bool) :=
  ((dir_New H).bind fun y1 => ((iter (fun (s : Heap × Int) => gabionlaw17_wakes_l0 y1.2 s.1 s.2) ((17 : Int).toNat + 1) (y1.1, 0)).bind fun e11 => on e11 (fun x12 => some x12) (fun x14 => ((dir_Dir_Get x14 y1.2 ([110, 53] : List UInt8)).bind fun y16 => (if y16.2 = true then (if y16.1 = 5 then ((dir_Dir_Len x14 y1.2).bind fun y19 => (if y19 = 17 then ((dir_Dir_Buckets x14 y1.2).bind fun y21 => (if (y21.length : Int) = 8 then ((dir_Dir_Drop x14 y1.2 ([120] : List UInt8)).bind fun y28 => (if y28.2 = 13 then ((dir_Dir_Put y28.1 y1.2 ([46, 46] : List UInt8) 1).bind fun y30 => some (y30.1, decide (y30.2 = 18))) else some (y28.1, false))) else some (x14, false))) else some (x14, false))) else some (x14, false)) else some (x14, false))))))
def cmp_isNaN_string (a0 : List UInt8) : Option Bool :=
  some (!(decide (a0 = a0)))
def cmp_Compare_string (a0 : List UInt8) (a1 : List UInt8) : Option Int :=
  ((cmp_isNaN_string a0).bind fun y1 => ((cmp_isNaN_string a1).bind fun y2 => (if y1 = true then (if y2 = true then some 0 else some (-1)) else (if y2 = true then some 1 else (if (Op.bytesLess a0 a1) = true then some (-1) else (if ((Op.bytesLess a0 a1) || decide (a0 = a1)) = true then some 0 else some 1))))))
def dir_Dir_List_1 (a0 : (List UInt8) × Int) (a1 : (List UInt8) × Int) : Option Int :=
  ((cmp_Compare_string a0.1 a1.1).bind fun y3 => some y3)
def dir_Dir_List (H : Heap) (a0 : Nat) : Option (List (List UInt8 × Int)) := if a0 = 0 then some [] else (hobj H.h66 a0).bind fun d => (d.1.mapM fun m => hobj H.h26 m).bind fun ms => ifS ((ms.flatten.map (·.1)).Nodup) (ifS (ms.flatten.length ≤ 1000000 ∧ d.1.length ≤ 1000000) (some (sortE ms.flatten)))
def gabionlaw17_DirKeeps_j14 (H : Heap) (x1 : List Bool) (x5 : Nat) (x6 : Nat) (x23 : List Int) (x25 : Int) : Option ((Heap × Int) ⊕ ((Heap × Bool) ⊕ Heap)) :=
  some (.inl (H, (wi64 (x25 + 1))))
def gabionlaw17_DirKeeps_j12 (H : Heap) (x1 : List Bool) (x5 : Nat) (x6 : Nat) (x9 : List UInt8) (x23 : List Int) (x25 : Int) (x62 : Bool) : Option ((Heap × Int) ⊕ ((Heap × Bool) ⊕ Heap)) :=
  (if x62 = true then some (.inr (.inl (H, false))) else ((hobj H.h26 x6).bind fun y34 => ((some ({H with h26 := hset H.h26 x6 (mdel y34 x9)} : Heap)).bind fun H35 => gabionlaw17_DirKeeps_j14 H35 x1 x5 x6 x23 x25)))
def gabionlaw17_DirKeeps_j11 (H : Heap) (x1 : List Bool) (x5 : Nat) (x6 : Nat) (x9 : List UInt8) (x23 : List Int) (x25 : Int) (x52 : Bool) : Option ((Heap × Int) ⊕ ((Heap × Bool) ⊕ Heap)) :=
  (if x52 = true then ((dir_Dir_Drop H x5 x9).bind fun y27 => (if y27.2 ≠ 0 then gabionlaw17_DirKeeps_j12 y27.1 x1 x5 x6 x9 x23 x25 true else ((dir_Dir_Drop y27.1 x5 x9).bind fun y40 => gabionlaw17_DirKeeps_j12 y40.1 x1 x5 x6 x9 x23 x25 (decide (y40.2 ≠ 13))))) else gabionlaw17_DirKeeps_j14 H x1 x5 x6 x23 x25)
def gabionlaw17_DirKeeps_l0 (x1 : List Bool) (x5 : Nat) (x6 : Nat) (x23 : List Int) (H : Heap) (x25 : Int) : Option ((Heap × Int) ⊕ ((Heap × Bool) ⊕ Heap)) :=
  (if x25 < (x23.length : Int) then ((rd x23 x25).bind fun y13 => ((strconv_Itoa (wi64 (Int.tmod y13 200))).bind fun y14 => ((catS ([102] : List UInt8) y14).bind fun y15 => ((dir_Dir_Put H x5 y15 x25).bind fun y16 => (if y16.2 ≠ 0 then some (.inr (.inl (y16.1, false))) else ((hobj y16.1.h26 x6).bind fun y18 => ((some ({y16.1 with h26 := hset y16.1.h26 x6 (mput y18 y15 x25)} : Heap)).bind fun H19 => (if x25 < (x1.length : Int) then ((rd x1 x25).bind fun y21 => gabionlaw17_DirKeeps_j11 H19 x1 x5 x6 y15 x23 x25 y21) else gabionlaw17_DirKeeps_j11 H19 x1 x5 x6 y15 x23 x25 false)))))))) else some (.inr (.inr H)))
def gabionlaw17_DirKeeps_l1 (H : Heap) (x5 : Nat) (x6 : Nat) (x67 : List Int) (x10 : Int) (x69 : Int) : Option ((Int × Int) ⊕ Int) :=
  (if x69 < (x67.length : Int) then ((rd x67 x69).bind fun y59 => some (.inl ((wi64 (x10 + y59)), (wi64 (x69 + 1))))) else some (.inr x10))
def gabionlaw17_DirKeeps_j25 (H : Heap) (x5 : Nat) (x6 : Nat) (x10 : Int) (x96 : Bool) : Option (Int ⊕ (Int ⊕ (Heap × Bool))) :=
  (if x96 = true then some (.inr (.inr (H, false))) else some (.inl x10))
def gabionlaw17_DirKeeps_l2 (H : Heap) (x5 : Nat) (x6 : Nat) (x10 : Int) (kv : (List UInt8) × Int) : Option (Int ⊕ (Int ⊕ (Heap × Bool))) :=
  ((dir_Dir_Get H x5 kv.1).bind fun y70 => (if y70.2 = true then gabionlaw17_DirKeeps_j25 H x5 x6 x10 (decide (y70.1 ≠ kv.2)) else gabionlaw17_DirKeeps_j25 H x5 x6 x10 true))
def gabionlaw17_DirKeeps_l2_e (H : Heap) (x5 : Nat) (x6 : Nat) (x10 : Int) : Option (Int ⊕ (Heap × Bool)) :=
  some (.inl x10)
def gabionlaw17_DirKeeps (H : Heap) (a0 : List Int) (a1 : List Bool) (Z : (Heap × Bool) → Prop) : Prop :=
  (∃ y1, (dir_New H) = some y1 ∧ (∃ H6, (some ({y1.1 with h26 := y1.1.h26 ++ [[]]} : Heap)) = some H6 ∧ (∃ y7, (cutL a0 0 (mn (a0.length : Int) 120)) = some y7 ∧ (∃ e43, (iter (fun (s : Heap × Int) => gabionlaw17_DirKeeps_l0 a1 y1.2 (y1.1.h26.length + 1) y7 s.1 s.2) (y7.length + 1) (H6, 0)) = some e43 ∧ on e43 (fun x44 => Z x44) (fun x46 => (∃ y49, (dir_Dir_Buckets x46 y1.2) = some y49 ∧ (∃ e62, (iter (fun (s : Int × Int) => gabionlaw17_DirKeeps_l1 x46 y1.2 (y1.1.h26.length + 1) y49 s.1 s.2) (y49.length + 1) (0, 0)) = some e62 ∧ (∃ y65, (hobj x46.h26 (y1.1.h26.length + 1)) = some y65 ∧ (RN (fun (s : Int) (kv : (List UInt8) × Int) => gabionlaw17_DirKeeps_l2 x46 y1.2 (y1.1.h26.length + 1) s kv) (fun (s : Int) => gabionlaw17_DirKeeps_l2_e x46 y1.2 (y1.1.h26.length + 1) s) y65 e62 fun e75 => on e75 (fun x76 => (∃ y79, (gabionlaw17_wakes x46) = some y79 ∧ (if y79.2 = true then (∃ y81, (dir_Dir_Len y79.1 y1.2) = some y81 ∧ (∃ y82, (hmap y79.1.h26 (y1.1.h26.length + 1)) = some y82 ∧ (if y81 = (y82.length : Int) then (∃ y84, (hmap y79.1.h26 (y1.1.h26.length + 1)) = some y84 ∧ (if x76 = (y84.length : Int) then (∃ y86, (dir_Dir_List y79.1 y1.2) = some y86 ∧ (∃ y92, (hmap y79.1.h26 (y1.1.h26.length + 1)) = some y92 ∧ Z (y79.1, decide ((y86.length : Int) = (y92.length : Int))))) else Z (y79.1, false))) else Z (y79.1, false)))) else Z (y79.1, false)))) (fun x93 => Z x93))))))))))
def gabionlaw17_DirOrder_j8 (H : Heap) (x0 : List Int) (x1 : Int) (x5 : Nat) (x6 : Nat) (x24 : Int) (x62 : Bool) : Option ((Heap × Int) ⊕ ((Heap × Bool) ⊕ Heap)) :=
  (if x62 = true then some (.inr (.inl (H, false))) else some (.inl (H, (wi64 (x24 + 1)))))
def gabionlaw17_DirOrder_l0 (x0 : List Int) (x1 : Int) (x5 : Nat) (x6 : Nat) (H : Heap) (x24 : Int) : Option ((Heap × Int) ⊕ ((Heap × Bool) ⊕ Heap)) :=
  (if x24 < (x0.length : Int) then (ifS ((x0.length : Int) ≠ 0) ((rd x0 (Int.tmod (wi64 (x24 + (wi64 x1))) (x0.length : Int))).bind fun y13 => ((rd x0 x24).bind fun y14 => ((rd x0 x24).bind fun y15 => ((strconv_Itoa (wi64 y14)).bind fun y16 => ((catS ([110] : List UInt8) y16).bind fun y17 => ((dir_Dir_Put H x5 y17 (wi64 y15)).bind fun y18 => (if y18.2 ≠ 0 then gabionlaw17_DirOrder_j8 y18.1 x0 x1 x5 x6 x24 true else ((strconv_Itoa (wi64 y13)).bind fun y24 => ((catS ([110] : List UInt8) y24).bind fun y25 => ((dir_Dir_Put y18.1 x6 y25 (wi64 y13)).bind fun y26 => gabionlaw17_DirOrder_j8 y26.1 x0 x1 x5 x6 x24 (decide (y26.2 ≠ 0))))))))))))) else some (.inr (.inr H)))
def gabionlaw17_DirOrder_l1 (H : Heap) (x9 : List ((List UInt8) × Int)) (x10 : List ((List UInt8) × Int)) (x11 : List Int) (x12 : List Int) (x90 : Int) : Option (Int ⊕ ((Heap × Bool) ⊕ Unit)) :=
  (if x90 < (x9.length : Int) then ((rd x9 x90).bind fun y72 => ((rd x10 x90).bind fun y73 => (if (decide (y72.1 = y73.1) && (decide (y72.2 = y73.2) && true)) = true then some (.inl (wi64 (x90 + 1))) else some (.inr (.inl (H, false)))))) else some (.inr (.inr ())))
def gabionlaw17_DirOrder_l2 (H : Heap) (x11 : List Int) (x12 : List Int) (x105 : Int) : Option (Int ⊕ ((Heap × Bool) ⊕ Unit)) :=
  (if x105 < (x11.length : Int) then ((rd x11 x105).bind fun y86 => ((rd x12 x105).bind fun y87 => (if y86 ≠ y87 then some (.inr (.inl (H, false))) else some (.inl (wi64 (x105 + 1)))))) else some (.inr (.inr ())))
def gabionlaw17_DirOrder_j13 (H : Heap) (x9 : List ((List UInt8) × Int)) (x10 : List ((List UInt8) × Int)) (x11 : List Int) (x12 : List Int) (x87 : Bool) : Option (Heap × Bool) :=
  (if x87 = true then some (H, false) else ((iter (fun (s : Int) => gabionlaw17_DirOrder_l1 H x9 x10 x11 x12 s) (x9.length + 1) 0).bind fun e77 => on e77 (fun x78 => some x78) (fun x80 => ((iter (fun (s : Int) => gabionlaw17_DirOrder_l2 H x11 x12 s) (x11.length + 1) 0).bind fun e89 => on e89 (fun x90 => some x90) (fun x92 => some (H, true))))))
def gabionlaw17_DirOrder (H : Heap) (a0 : List Int) (a1 : Int) : Option (Heap × Bool) :=
  ((cutL a0 0 (mn (a0.length : Int) 80)).bind fun y1 => ((dir_New H).bind fun y2 => ((dir_New y2.1).bind fun y5 => ((iter (fun (s : Heap × Int) => gabionlaw17_DirOrder_l0 y1 a1 y2.2 y5.2 s.1 s.2) (y1.length + 1) (y5.1, 0)).bind fun e29 => on e29 (fun x30 => some x30) (fun x32 => ((dir_Dir_List x32 y2.2).bind fun y35 => ((dir_Dir_List x32 y5.2).bind fun y41 => ((dir_Dir_Buckets x32 y2.2).bind fun y47 => ((dir_Dir_Buckets x32 y5.2).bind fun y53 => ((gabionlaw17_wakes x32).bind fun y59 => (if y59.2 = true then (if (y35.length : Int) ≠ (y41.length : Int) then gabionlaw17_DirOrder_j13 y59.1 y35 y41 y47 y53 true else gabionlaw17_DirOrder_j13 y59.1 y35 y41 y47 y53 (decide ((y47.length : Int) ≠ (y53.length : Int)))) else gabionlaw17_DirOrder_j13 y59.1 y35 y41 y47 y53 true)))))))))))
def gabionref17_Name_j6 (x0 : List UInt8) (x3 : Int) (x35 : Bool) : Option (Int ⊕ (Int ⊕ Unit)) :=
  (if x35 = true then some (.inr (.inl 18)) else some (.inl (wi64 (x3 + 1))))
def gabionref17_Name_l0 (x0 : List UInt8) (x3 : Int) : Option (Int ⊕ (Int ⊕ Unit)) :=
  (if x3 < (x0.length : Int) then ((rd x0 x3).bind fun y4 => (if (y4.toNat : Int) = 0 then gabionref17_Name_j6 x0 x3 true else ((rd x0 x3).bind fun y7 => gabionref17_Name_j6 x0 x3 (decide ((y7.toNat : Int) = 47))))) else some (.inr (.inr ())))
def gabionref17_Name_j1 (x0 : List UInt8) (x19 : Bool) : Option Int :=
  (if x19 = true then some 18 else ((iter (fun (s : Int) => gabionref17_Name_l0 x0 s) (100000) 0).bind fun e8 => on e8 (fun x9 => some x9) (fun x11 => some 0)))
def gabionref17_Name (a0 : List UInt8) : Option Int :=
  (if (a0.length : Int) < 1 then gabionref17_Name_j1 a0 true else (if 32 < (a0.length : Int) then gabionref17_Name_j1 a0 true else (if a0 = ([46] : List UInt8) then gabionref17_Name_j1 a0 true else gabionref17_Name_j1 a0 (decide (a0 = ([46, 46] : List UInt8))))))
def gabionref17_Put_j15 (x1 : List UInt8) (x2 : Int) (x10 : Bool) (x11 : Int) (zb3 : (List ((List UInt8) × Int)) × Int) (zb6 : (List ((List UInt8) × Int)) × Int) (zb9 : (List ((List UInt8) × Int)) × Int) : Option ((Bool × Int × ((List ((List UInt8) × Int)) × Int)) ⊕ (Bool × ((List ((List UInt8) × Int)) × Int))) :=
  some (.inl (x10, (wi64 (x11 + 1)), zb9))
def gabionref17_Put_j13 (x1 : List UInt8) (x2 : Int) (x10 : Bool) (x11 : Int) (zb3 : (List ((List UInt8) × Int)) × Int) (zb6 : (List ((List UInt8) × Int)) × Int) (zb9 : (List ((List UInt8) × Int)) × Int) : Option ((Bool × Int × ((List ((List UInt8) × Int)) × Int)) ⊕ (Bool × ((List ((List UInt8) × Int)) × Int))) :=
  ((rd zb3.1 x11).bind fun y42 => (if y42.1 = x1 then gabionref17_Put_j15 x1 x2 x10 x11 zb3 zb6 zb9 else ((rd zb3.1 x11).bind fun y50 => ((appL 5864062014805 zb9.1 ([y50])).bind fun y55 => gabionref17_Put_j15 x1 x2 x10 x11 zb3 zb6 (y55, zb9.2)))))
def gabionref17_Put_j11 (x1 : List UInt8) (x2 : Int) (x10 : Bool) (x11 : Int) (x46 : Bool) (zb3 : (List ((List UInt8) × Int)) × Int) (zb6 : (List ((List UInt8) × Int)) × Int) (zb9 : (List ((List UInt8) × Int)) × Int) : Option ((Bool × Int × ((List ((List UInt8) × Int)) × Int)) ⊕ (Bool × ((List ((List UInt8) × Int)) × Int))) :=
  (if x46 = true then ((appL 5864062014805 zb9.1 ([(x1, x2)])).bind fun y31 => gabionref17_Put_j13 x1 x2 true x11 zb3 zb6 (y31, zb9.2)) else gabionref17_Put_j13 x1 x2 x10 x11 zb3 zb6 zb9)
def gabionref17_Put_l0 (x1 : List UInt8) (x2 : Int) (zb3 : (List ((List UInt8) × Int)) × Int) (zb6 : (List ((List UInt8) × Int)) × Int) (x10 : Bool) (x11 : Int) (zb9 : (List ((List UInt8) × Int)) × Int) : Option ((Bool × Int × ((List ((List UInt8) × Int)) × Int)) ⊕ (Bool × ((List ((List UInt8) × Int)) × Int))) :=
  (if x11 < (zb3.1.length : Int) then (if x10 = true then gabionref17_Put_j11 x1 x2 x10 x11 false zb3 zb6 zb9 else ((rd zb3.1 x11).bind fun y60 => gabionref17_Put_j11 x1 x2 x10 x11 (!(Op.bytesLess y60.1 x1)) zb3 zb6 zb9)) else some (.inr (x10, zb9)))
def gabionref17_Put_j19 (x98 : Bool) (zb6 : (List ((List UInt8) × Int)) × Int) (zb9 : (List ((List UInt8) × Int)) × Int) : Option (((List ((List UInt8) × Int)) × Int) × Int) :=
  (if x98 = true then some ((zb9.1, (wi64 (2 * zb9.2))), 0) else some (zb9, 0))
def gabionref17_Put_j18 (zb3 : (List ((List UInt8) × Int)) × Int) (zb6 : (List ((List UInt8) × Int)) × Int) (zb9 : (List ((List UInt8) × Int)) × Int) : Option (((List ((List UInt8) × Int)) × Int) × Int) :=
  (if (zb3.1.length : Int) < (zb9.1.length : Int) then gabionref17_Put_j19 (decide ((wi64 (4 * zb9.2)) < (zb9.1.length : Int))) zb6 zb9 else gabionref17_Put_j19 false zb6 zb9)
def gabionref17_Put_j4 (x1 : List UInt8) (x2 : Int) (x23 : Bool) (zb3 : (List ((List UInt8) × Int)) × Int) (zb6 : (List ((List UInt8) × Int)) × Int) : Option (((List ((List UInt8) × Int)) × Int) × Int) :=
  (if x23 = true then some (zb3, 2) else ((iter (fun (s : Bool × Int × ((List ((List UInt8) × Int)) × Int)) => gabionref17_Put_l0 x1 x2 zb3 zb6 s.1 s.2.1 s.2.2) (100000) (false, 0, (([], zb3.2) : (List ((List UInt8) × Int)) × Int))).bind fun e67 => (if e67.1 = true then gabionref17_Put_j18 zb3 zb6 e67.2 else ((appL 5864062014805 e67.2.1 ([(x1, x2)])).bind fun y93 => gabionref17_Put_j18 zb3 zb6 (y93, e67.2.2)))))
def gabionref17_Put (a0 : (List ((List UInt8) × Int)) × Int) (a1 : List UInt8) (a2 : Int) : Option (((List ((List UInt8) × Int)) × Int) × Int) :=
  ((gabionref17_Name a1).bind fun y3 => (if y3 ≠ 0 then some (a0, y3) else (if a2 < 0 then gabionref17_Put_j4 a1 a2 true a0 (([], 0) : (List ((List UInt8) × Int)) × Int) else gabionref17_Put_j4 a1 a2 (decide (65535 < a2)) a0 (([], 0) : (List ((List UInt8) × Int)) × Int))))
def gabionref17_Find_l0 (x1 : List UInt8) (zb2 : (List ((List UInt8) × Int)) × Int) (x5 : Int) : Option (Int ⊕ (Int ⊕ Unit)) :=
  (if x5 < (zb2.1.length : Int) then ((rd zb2.1 x5).bind fun y5 => (if y5.1 = x1 then some (.inr (.inl x5)) else some (.inl (wi64 (x5 + 1))))) else some (.inr (.inr ())))
def gabionref17_Find (a0 : (List ((List UInt8) × Int)) × Int) (a1 : List UInt8) : Option Int :=
  ((iter (fun (s : Int) => gabionref17_Find_l0 a1 a0 s) (100000) 0).bind fun e7 => on e7 (fun x8 => some x8) (fun x10 => some (-1)))
def gabionref17_Drop_j9 (x6 : Int) (x8 : Int) (zb2 : (List ((List UInt8) × Int)) × Int) (zb4 : (List ((List UInt8) × Int)) × Int) (zb7 : (List ((List UInt8) × Int)) × Int) : Option ((Int × ((List ((List UInt8) × Int)) × Int)) ⊕ ((List ((List UInt8) × Int)) × Int)) :=
  some (.inl ((wi64 (x8 + 1)), zb7))
def gabionref17_Drop_l0 (x6 : Int) (zb2 : (List ((List UInt8) × Int)) × Int) (zb4 : (List ((List UInt8) × Int)) × Int) (x8 : Int) (zb7 : (List ((List UInt8) × Int)) × Int) : Option ((Int × ((List ((List UInt8) × Int)) × Int)) ⊕ ((List ((List UInt8) × Int)) × Int)) :=
  (if x8 < (zb2.1.length : Int) then (if x8 ≠ x6 then ((rd zb2.1 x8).bind fun y14 => ((appL 5864062014805 zb7.1 ([y14])).bind fun y19 => gabionref17_Drop_j9 x6 x8 zb2 zb4 (y19, zb7.2))) else gabionref17_Drop_j9 x6 x8 zb2 zb4 zb7) else some (.inr zb7))
def gabionref17_Drop (a0 : (List ((List UInt8) × Int)) × Int) (a1 : List UInt8) : Option (((List ((List UInt8) × Int)) × Int) × Int) :=
  ((gabionref17_Find a0 a1).bind fun y3 => (if y3 < 0 then some (a0, 13) else ((iter (fun (s : Int × ((List ((List UInt8) × Int)) × Int)) => gabionref17_Drop_l0 y3 a0 (([], 0) : (List ((List UInt8) × Int)) × Int) s.1 s.2) (100000) (0, (([], a0.2) : (List ((List UInt8) × Int)) × Int))).bind fun e34 => some (e34, 0))))
def maps_Clone_map_string_int_string_int (H : Heap) (a0 : Nat) : Option (Heap × Nat) := if a0 = 0 then some (H, 0) else (hobj H.h26 a0).bind fun x => some ({H with h26 := H.h26 ++ [x]}, H.h26.length + 1)
def dir_Dir_Copy_l0 (x17 : List Nat) (H : Heap) (x19 : Int) (zb13 : (List Nat) × Int) : Option ((Heap × Int × ((List Nat) × Int)) ⊕ (Heap × ((List Nat) × Int))) :=
  (if x19 < (x17.length : Int) then ((rd x17 x19).bind fun y9 => ((maps_Clone_map_string_int_string_int H y9).bind fun y11 => ((appL 17592186044416 zb13.1 ([y11.2])).bind fun y18 => some (.inl (y11.1, (wi64 (x19 + 1)), (y18, zb13.2)))))) else some (.inr (H, zb13)))
def dir_Dir_Copy (H : Heap) (a0 : Nat) : Option (Heap × Nat) :=
  (if a0 = 0 then some (H, 0) else ((hobj H.h66 a0).bind fun y2 => ((iter (fun (s : Heap × Int × ((List Nat) × Int)) => dir_Dir_Copy_l0 y2.1 s.1 s.2.1 s.2.2) (y2.1.length + 1) (H, 0, (([], y2.2) : (List Nat) × Int))).bind fun e25 => ((some ({e25.1 with h66 := e25.1.h66 ++ [e25.2]} : Heap)).bind fun H30 => some (H30, (e25.1.h66.length + 1))))))
def gabionref01_may (a0 : Int) (a1 : Int) : Option Bool :=
  (if 0 ≤ a0 then (if a0 < 64 then (if 1 ≤ a1 then some (decide (a1 ≤ (wi64 (64 - a0)))) else some false) else some false) else some false)
def gabionref01_bit_l0 (x1 : Int) (x0 : Int) (x5 : Int) : Option ((Int × Int) ⊕ Int) :=
  (if x5 < x1 then some (.inl ((wu64 (Int.tdiv x0 2)), (wi64 (x5 + 1)))) else some (.inr x0))
def gabionref01_bit (a0 : Int) (a1 : Int) : Option Int :=
  ((iter (fun (s : Int × Int) => gabionref01_bit_l0 a1 s.1 s.2) (100000) (a0, 0)).bind fun e2 => some (Int.tmod e2 2))
def gabionref01_Field_j4 (x0 : Int) (x1 : Int) (x2 : Int) (x7 : Bool) (x8 : Int) (x9 : Int) (x19 : Bool) : Option ((Int × Int) ⊕ Int) :=
  (if x19 = true then ((gabionref01_bit x0 (wi64 ((wi64 ((wi64 (x1 + x2)) - 1)) - x9))).bind fun y4 => some (.inl ((wu64 ((wu64 (2 * x8)) + y4)), (wi64 (x9 + 1))))) else some (.inr x8))
def gabionref01_Field_l0 (x0 : Int) (x1 : Int) (x2 : Int) (x7 : Bool) (x8 : Int) (x9 : Int) : Option ((Int × Int) ⊕ Int) :=
  (if x7 = true then gabionref01_Field_j4 x0 x1 x2 x7 x8 x9 (decide (x9 < x2)) else gabionref01_Field_j4 x0 x1 x2 x7 x8 x9 false)
def gabionref01_Field (a0 : Int) (a1 : Int) (a2 : Int) : Option Int :=
  ((gabionref01_may a1 a2).bind fun y1 => ((iter (fun (s : Int × Int) => gabionref01_Field_l0 a0 a1 a2 y1 s.1 s.2) (100000) (0, 0)).bind fun e5 => some e5))
def gabionref02_bits_j10 (x0 : List UInt8) (x1 : Bool) (x5 : List Int) (x6 : Int) (x7 : Int) (x8 : Int) : Option (((List Int) × Int × Int) ⊕ ((List Int) × Int)) :=
  ((rd x0 x6).bind fun y7 => ((gabionref01_Field (wu64 (y7.toNat : Int)) x8 1).bind fun y8 => ((appL 17592186044416 x5 ([(wi64 y8)])).bind fun y13 => some (.inl (y13, x6, (wi64 (x7 + 1)))))))
def gabionref02_bits_l1 (x0 : List UInt8) (x1 : Bool) (x5 : List Int) (x6 : Int) (x7 : Int) : Option (((List Int) × Int × Int) ⊕ ((List Int) × Int)) :=
  (if x7 < 8 then (if x1 = true then gabionref02_bits_j10 x0 x1 x5 x6 x7 x7 else gabionref02_bits_j10 x0 x1 x5 x6 x7 (wi64 (7 - x7))) else some (.inr (x5, x6)))
def gabionref02_bits_l0 (x0 : List UInt8) (x1 : Bool) (x5 : List Int) (x6 : Int) : Option (((List Int) × Int) ⊕ (List Int)) :=
  (if x6 < (x0.length : Int) then ((iter (fun (s : (List Int) × Int × Int) => gabionref02_bits_l1 x0 x1 s.1 s.2.1 s.2.2) (100000) (x5, x6, 0)).bind fun e19 => some (.inl (e19.1, (wi64 (e19.2 + 1))))) else some (.inr x5))
def gabionref02_bits (a0 : List UInt8) (a1 : Bool) : Option (List Int) :=
  ((iter (fun (s : (List Int) × Int) => gabionref02_bits_l0 a0 a1 s.1 s.2) (100000) ([], 0)).bind fun e23 => some e23)
def gabionref02_Sum_l0 (x0 : List Int) (x1 : List Int) (x5 : List Int) (x6 : Int) : Option (((List Int) × Int) ⊕ (List Int)) :=
  (if x6 < (x5.length : Int) then ((rd x5 x6).bind fun y9 => some (.inl ((x5.set x6.toNat 1), (wi64 (x6 + 1))))) else some (.inr x5))
def gabionref02_Sum_l2 (x0 : List Int) (x1 : List Int) (x7 : Int) (x8 : Int) (x5 : List Int) (x9 : Int) : Option (((List Int) × Int) ⊕ ((List Int) × Int)) :=
  (if (wi64 (x9 + 1)) < (x5.length : Int) then ((rd x5 (wi64 (x9 + 1))).bind fun y29 => ((rd x5 x9).bind fun y30 => some (.inl ((x5.set x9.toNat y29), (wi64 (x9 + 1)))))) else some (.inr (x5, x7)))
def gabionref02_Sum_j18 (x0 : List Int) (x1 : List Int) (x5 : List Int) (x7 : Int) (x8 : Int) (x10 : Int) (x65 : Bool) : Option (((List Int) × Int × Int) ⊕ ((List Int) × Int)) :=
  (if x65 = true then ((rd x5 x10).bind fun y51 => ((rd x1 x10).bind fun y52 => ((rd x5 x10).bind fun y53 => some (.inl ((x5.set x10.toNat (Int.tmod (wi64 (y51 + y52)) 2)), x7, (wi64 (x10 + 1))))))) else some (.inr (x5, x7)))
def gabionref02_Sum_l3 (x0 : List Int) (x1 : List Int) (x8 : Int) (x5 : List Int) (x7 : Int) (x10 : Int) : Option (((List Int) × Int × Int) ⊕ ((List Int) × Int)) :=
  (if x10 < (x5.length : Int) then gabionref02_Sum_j18 x0 x1 x5 x7 x8 x10 (decide (x8 = 1)) else gabionref02_Sum_j18 x0 x1 x5 x7 x8 x10 false)
def gabionref02_Sum_l1 (x0 : List Int) (x1 : List Int) (x5 : List Int) (x7 : Int) : Option (((List Int) × Int) ⊕ (List Int)) :=
  (if x7 < (x0.length : Int) then ((rd x5 0).bind fun y23 => ((rd x0 x7).bind fun y24 => ((iter (fun (s : (List Int) × Int) => gabionref02_Sum_l2 x0 x1 x7 (Int.tmod (wi64 (y23 + y24)) 2) s.1 s.2) (100000) (x5, 0)).bind fun e36 => ((rd e36.1 (wi64 ((e36.1.length : Int) - 1))).bind fun y40 => ((iter (fun (s : (List Int) × Int × Int) => gabionref02_Sum_l3 x0 x1 (Int.tmod (wi64 (y23 + y24)) 2) s.1 s.2.1 s.2.2) (100000) ((e36.1.set ((wi64 ((e36.1.length : Int) - 1)).toNat) 0), e36.2, 0)).bind fun e59 => some (.inl (e59.1, (wi64 (e59.2 + 1))))))))) else some (.inr x5))
def gabionref02_Sum (a0 : List Int) (a1 : List Int) : Option (List Int) :=
  (ifS (0 ≤ (a1.length : Int) ∧ (a1.length : Int) ≤ 9223372036854775807 ∧ (8 : Nat) * (a1.length : Int) ≤ 281474976710656) ((iter (fun (s : (List Int) × Int) => gabionref02_Sum_l0 a0 a1 s.1 s.2) (100000) ((List.replicate ((a1.length : Int).toNat) 0), 0)).bind fun e15 => ((iter (fun (s : (List Int) × Int) => gabionref02_Sum_l1 a0 a1 s.1 s.2) (100000) (e15, 0)).bind fun e66 => some e66)))
def gabionref02_number_l0 (x0 : List Int) (x3 : Int) (x4 : Int) : Option ((Int × Int) ⊕ Int) :=
  (if x4 < (x0.length : Int) then ((rd x0 x4).bind fun y3 => some (.inl ((wu64 ((wu64 (2 * x3)) + (wu64 y3))), (wi64 (x4 + 1))))) else some (.inr x3))
def gabionref02_number (a0 : List Int) : Option Int :=
  ((iter (fun (s : Int × Int) => gabionref02_number_l0 a0 s.1 s.2) (100000) (0, 0)).bind fun e4 => some e4)
def gabionref02_Sum16 (a0 : List UInt8) : Option Int :=
  ((gabionref02_bits a0 false).bind fun y5 => ((gabionref02_Sum y5 ([0, 0, 0, 1, 0, 0, 0, 0, 0, 0, 1, 0, 0, 0, 0, 1])).bind fun y13 => ((gabionref02_number y13).bind fun y19 => some y19)))
def gabionref17_Counts_l0 (zb1 : (List ((List UInt8) × Int)) × Int) (x3 : List Int) (x4 : Int) : Option (((List Int) × Int) ⊕ (List Int)) :=
  (if x4 < (zb1.1.length : Int) then ((rd zb1.1 x4).bind fun y10 => ((gabionref02_Sum16 y10.1).bind fun y11 => (ifS (zb1.2 ≠ 0) ((rd x3 (Int.tmod (wi64 y11) zb1.2)).bind fun y13 => ((rd x3 (Int.tmod (wi64 y11) zb1.2)).bind fun y14 => some (.inl ((x3.set ((Int.tmod (wi64 y11) zb1.2).toNat) (wi64 (y13 + 1))), (wi64 (x4 + 1))))))))) else some (.inr x3))
def gabionref17_Counts (a0 : (List ((List UInt8) × Int)) × Int) : Option (List Int) :=
  (ifS (0 ≤ a0.2 ∧ a0.2 ≤ 9223372036854775807 ∧ (8 : Nat) * a0.2 ≤ 281474976710656) ((iter (fun (s : (List Int) × Int) => gabionref17_Counts_l0 a0 s.1 s.2) (100000) ((List.replicate a0.2.toNat 0), 0)).bind fun e18 => some e18))
def gabionlaw17_same_j8 (H : Heap) (x6 : List Int) (x7 : List Int) (x38 : List ((List UInt8) × Int)) (x40 : Int) (x64 : Bool) (zb3 : (List ((List UInt8) × Int)) × Int) : Option (Int ⊕ (Bool ⊕ Unit)) :=
  (if x64 = true then some (.inr (.inl false)) else some (.inl (wi64 (x40 + 1))))
def gabionlaw17_same_l0 (H : Heap) (x6 : List Int) (x7 : List Int) (x38 : List ((List UInt8) × Int)) (zb3 : (List ((List UInt8) × Int)) × Int) (x40 : Int) : Option (Int ⊕ (Bool ⊕ Unit)) :=
  (if x40 < (x38.length : Int) then ((rd x38 x40).bind fun y33 => ((rd zb3.1 x40).bind fun y35 => (if y33.1 = y35.1 then ((rd zb3.1 x40).bind fun y37 => gabionlaw17_same_j8 H x6 x7 x38 x40 (decide (y33.2 ≠ y37.2)) zb3) else gabionlaw17_same_j8 H x6 x7 x38 x40 true zb3))) else some (.inr (.inr ())))
def gabionlaw17_same_l1 (H : Heap) (x6 : List Int) (x7 : List Int) (x68 : Int) : Option (Int ⊕ (Bool ⊕ Unit)) :=
  (if x68 < (x6.length : Int) then ((rd x6 x68).bind fun y55 => ((rd x7 x68).bind fun y56 => (if y55 ≠ y56 then some (.inr (.inl false)) else some (.inl (wi64 (x68 + 1)))))) else some (.inr (.inr ())))
def gabionlaw17_same_j2 (H : Heap) (x5 : List ((List UInt8) × Int)) (x6 : List Int) (x7 : List Int) (x37 : Bool) (zb3 : (List ((List UInt8) × Int)) × Int) : Option Bool :=
  (if x37 = true then some false else ((iter (fun (s : Int) => gabionlaw17_same_l0 H x6 x7 x5 zb3 s) (x5.length + 1) 0).bind fun e46 => on e46 (fun x47 => some x47) (fun x49 => ((iter (fun (s : Int) => gabionlaw17_same_l1 H x6 x7 s) (x6.length + 1) 0).bind fun e58 => on e58 (fun x59 => some x59) (fun x61 => some true)))))
def gabionlaw17_same (H : Heap) (a0 : Nat) (a1 : (List ((List UInt8) × Int)) × Int) : Option Bool :=
  ((dir_Dir_List H a0).bind fun y2 => ((dir_Dir_Buckets H a0).bind fun y8 => ((gabionref17_Counts a1).bind fun y14 => (if (y2.length : Int) ≠ (a1.1.length : Int) then gabionlaw17_same_j2 H y2 y8 y14 true a1 else ((dir_Dir_Len H a0).bind fun y62 => (if y62 ≠ (a1.1.length : Int) then gabionlaw17_same_j2 H y2 y8 y14 true a1 else gabionlaw17_same_j2 H y2 y8 y14 (decide ((y8.length : Int) ≠ (y14.length : Int))) a1))))))
def gabionlaw17_DirPlays_j18 (H : Heap) (x3 : Nat) (x32 : List (Int × Int × (List UInt8))) (x34 : Int) (x143 : Bool) (zb4 : (List ((List UInt8) × Int)) × Int) : Option ((Heap × Nat × Int × ((List ((List UInt8) × Int)) × Int)) ⊕ ((Heap × Bool) ⊕ Heap)) :=
  (if x143 = true then some (.inr (.inl (H, false))) else some (.inl (H, x3, (wi64 (x34 + 1)), zb4)))
def gabionlaw17_DirPlays_j17 (H : Heap) (x3 : Nat) (x10 : Bool) (x32 : List (Int × Int × (List UInt8))) (x34 : Int) (zb4 : (List ((List UInt8) × Int)) × Int) : Option ((Heap × Nat × Int × ((List ((List UInt8) × Int)) × Int)) ⊕ ((Heap × Bool) ⊕ Heap)) :=
  (if x10 = true then ((gabionlaw17_same H x3 zb4).bind fun y43 => gabionlaw17_DirPlays_j18 H x3 x32 x34 (!y43) zb4) else gabionlaw17_DirPlays_j18 H x3 x32 x34 true zb4)
def gabionlaw17_DirPlays_j14 (H : Heap) (x3 : Nat) (x7 : List UInt8) (x8 : Nat) (x10 : Bool) (x32 : List (Int × Int × (List UInt8))) (x34 : Int) (x50 : Int) (x51 : Bool) (zb4 : (List ((List UInt8) × Int)) × Int) (zb6 : Int × Int × (List UInt8)) (zb9 : (List ((List UInt8) × Int)) × Int) : Option ((Heap × Nat × Int × ((List ((List UInt8) × Int)) × Int)) ⊕ ((Heap × Bool) ⊕ Heap)) :=
  (if x51 = true then ((dir_Dir_Put H x3 x7 zb6.2.1).bind fun y33 => ((gabionref17_Put zb4 x7 zb6.2.1).bind fun y34 => gabionlaw17_DirPlays_j17 y33.1 x3 (decide (y33.2 = y34.2)) x32 x34 y34.1)) else (if x50 = 2 then ((dir_Dir_Drop H x3 x7).bind fun y50 => ((gabionref17_Drop zb4 x7).bind fun y51 => gabionlaw17_DirPlays_j17 y50.1 x3 (decide (y50.2 = y51.2)) x32 x34 y51.1)) else (if x50 = 3 then ((dir_Dir_Get H x3 x7).bind fun y56 => ((gabionref17_Find zb4 x7).bind fun y57 => (if y56.2 = (decide (0 ≤ y57)) then (if y56.2 = true then ((rd zb4.1 y57).bind fun y60 => gabionlaw17_DirPlays_j17 H x3 (decide (y56.1 = y60.2)) x32 x34 zb4) else (if y56.1 = 0 then gabionlaw17_DirPlays_j17 H x3 true x32 x34 zb4 else gabionlaw17_DirPlays_j17 H x3 false x32 x34 zb4)) else gabionlaw17_DirPlays_j17 H x3 false x32 x34 zb4))) else (if x50 = 4 then ((dir_Dir_Copy H x3).bind fun y63 => ((dir_Dir_Put y63.1 y63.2 ([99, 111, 112, 105, 101, 100] : List UInt8) 1).bind fun y66 => ((gabionlaw17_same y66.1 x8 zb9).bind fun y67 => ((gabionref17_Put zb4 ([99, 111, 112, 105, 101, 100] : List UInt8) 1).bind fun y68 => gabionlaw17_DirPlays_j17 y66.1 y63.2 y67 x32 x34 y68.1)))) else gabionlaw17_DirPlays_j17 H x3 x10 x32 x34 zb4))))
def gabionlaw17_DirPlays_l0 (x32 : List (Int × Int × (List UInt8))) (H : Heap) (x3 : Nat) (x34 : Int) (zb4 : (List ((List UInt8) × Int)) × Int) : Option ((Heap × Nat × Int × ((List ((List UInt8) × Int)) × Int)) ⊕ ((Heap × Bool) ⊕ Heap)) :=
  (if x34 < (x32.length : Int) then ((rd x32 x34).bind fun y19 => ((cutL y19.2.2 0 (mn (y19.2.2.length : Int) 40)).bind fun y21 => (if (Int.tmod (mx 0 y19.1) 5) = 0 then gabionlaw17_DirPlays_j14 H x3 y21 x3 true x32 x34 (Int.tmod (mx 0 y19.1) 5) (decide ((Int.tmod (mx 0 y19.1) 5) = 0)) zb4 y19 zb4 else gabionlaw17_DirPlays_j14 H x3 y21 x3 true x32 x34 (Int.tmod (mx 0 y19.1) 5) (decide ((Int.tmod (mx 0 y19.1) 5) = 1)) zb4 y19 zb4))) else some (.inr (.inr H)))
def gabionlaw17_DirPlays_j3 (H : Heap) (x0 : List (Int × Int × (List UInt8))) (x3 : Nat) (x27 : Bool) (zb4 : (List ((List UInt8) × Int)) × Int) : Option (Heap × Bool) :=
  (if x27 = true then some (H, false) else ((cutL x0 0 (mn (x0.length : Int) 60)).bind fun y12 => ((iter (fun (s : Heap × Nat × Int × ((List ((List UInt8) × Int)) × Int)) => gabionlaw17_DirPlays_l0 y12 s.1 s.2.1 s.2.2.1 s.2.2.2) (y12.length + 1) (H, x3, 0, zb4)).bind fun e71 => on e71 (fun x72 => some x72) (fun x74 => some (x74, true)))))
def gabionlaw17_DirPlays (H : Heap) (a0 : List (Int × Int × (List UInt8))) : Option (Heap × Bool) :=
  ((dir_New H).bind fun y1 => ((gabionlaw17_wakes y1.1).bind fun y5 => (if y5.2 = true then gabionlaw17_DirPlays_j3 y5.1 a0 y1.2 (decide (y1.2 = 0)) (([], 4) : (List ((List UInt8) × Int)) × Int) else gabionlaw17_DirPlays_j3 y5.1 a0 y1.2 true (([], 4) : (List ((List UInt8) × Int)) × Int))))
def le_Put_l0 (x8 : Int) (x0 : Int) (x5 : List Int) (x9 : Int) : Option ((Int × (List Int) × Int) ⊕ (List Int)) :=
  (if x9 < x8 then ((appL 140737488355328 x5 ([(wu8 x0)])).bind fun y7 => some (.inl ((shrK .u64 x0 8), y7, (wi64 (x9 + 1))))) else some (.inr x5))
def le_Put (a0 : Int) (a1 : Int) : Option (List UInt8) :=
  ((iter (fun (s : Int × (List Int) × Int) => le_Put_l0 (mn (mx a1 0) 8) s.1 s.2.1 s.2.2) ((mn (mx a1 0) 8).toNat + 1) (a0, [], 0)).bind fun e13 => some (bytesOf e13))
def dir_Entry_Text_j1 (x1 : Int) (x19 : Bool) (zb2 : (List UInt8) × Int) : Option (List UInt8) :=
  (if x19 = true then some ([] : List UInt8) else ((le_Put (wu64 x1) 2).bind fun y6 => ((le_Put (wu64 zb2.2) 2).bind fun y7 => ((catS y6 y7).bind fun y8 => ((catS y8 zb2.1).bind fun y9 => some y9)))))
def dir_Entry_Text (a0 : (List UInt8) × Int) (a1 : Int) : Option (List UInt8) :=
  ((dir_Name a0.1).bind fun y2 => (if y2 ≠ 0 then dir_Entry_Text_j1 a1 true a0 else ((dir_number a0.2).bind fun y10 => (if y10 = true then ((dir_number a1).bind fun y12 => dir_Entry_Text_j1 a1 (!y12) a0) else dir_Entry_Text_j1 a1 true a0))))
def gabionref01_Put_j3 (x0 : Int) (x1 : Int) (x5 : List Int) (x6 : Int) (x13 : Bool) : Option ((Int × (List Int) × Int) ⊕ (List Int)) :=
  (if x13 = true then ((appL 140737488355328 x5 ([(wu8 (Int.tmod x0 256))])).bind fun y9 => some (.inl ((wu64 (Int.tdiv x0 256)), y9, (wi64 (x6 + 1))))) else some (.inr x5))
def gabionref01_Put_l0 (x1 : Int) (x0 : Int) (x5 : List Int) (x6 : Int) : Option ((Int × (List Int) × Int) ⊕ (List Int)) :=
  (if x6 < x1 then gabionref01_Put_j3 x0 x1 x5 x6 (decide (x6 < 8)) else gabionref01_Put_j3 x0 x1 x5 x6 false)
def gabionref01_Put (a0 : Int) (a1 : Int) : Option (List UInt8) :=
  ((iter (fun (s : Int × (List Int) × Int) => gabionref01_Put_l0 a1 s.1 s.2.1 s.2.2) (100000) (a0, [], 0)).bind fun e15 => some (bytesOf e15))
def gabionref17_Text_j2 (x1 : Int) (x30 : Bool) (zb2 : (List UInt8) × Int) : Option (List UInt8) :=
  (if x30 = true then some ([] : List UInt8) else ((gabionref01_Put (wu64 x1) 2).bind fun y6 => ((gabionref01_Put (wu64 zb2.2) 2).bind fun y7 => ((catS y6 y7).bind fun y8 => ((catS y8 zb2.1).bind fun y9 => some y9)))))
def gabionref17_Text (a0 : (List UInt8) × Int) (a1 : Int) : Option (List UInt8) :=
  ((gabionref17_Name a0.1).bind fun y2 => (if y2 ≠ 0 then gabionref17_Text_j2 a1 true a0 else (if a0.2 < 0 then gabionref17_Text_j2 a1 true a0 else (if 65535 < a0.2 then gabionref17_Text_j2 a1 true a0 else (if a1 < 0 then gabionref17_Text_j2 a1 true a0 else gabionref17_Text_j2 a1 (decide (65535 < a1)) a0)))))
def le_Get_l0 (x0 : List UInt8) (x3 : Int) (x4 : Int) : Option ((Int × Int) ⊕ Int) :=
  (if 0 ≤ x4 then ((rd x0 x4).bind fun y2 => some (.inl ((bitsA .or .u64 (shlK .u64 x3 8) (wu64 (y2.toNat : Int))), (wi64 (x4 - 1))))) else some (.inr x3))
def le_Get (a0 : List UInt8) : Option Int :=
  ((iter (fun (s : Int × Int) => le_Get_l0 a0 s.1 s.2) (100000) (0, (wi64 ((mn (a0.length : Int) 8) - 1)))).bind fun e3 => some e3)
def dir_Parse_j1 (x0 : List UInt8) (x13 : Bool) (zb3 : (List UInt8) × Int) : Option (Int × ((List UInt8) × Int) × Int) :=
  (if x13 = true then some (0, ((([] : List UInt8), 0) : (List UInt8) × Int), 4) else ((cutL x0 0 2).bind fun y5 => ((cutL x0 4 (x0.length : Int)).bind fun y6 => ((cutL x0 2 4).bind fun y7 => ((le_Get y5).bind fun y8 => ((le_Get y7).bind fun y9 => some ((wi64 y8), (y6, (wi64 y9)), 0)))))))
def dir_Parse (a0 : List UInt8) : Option (Int × ((List UInt8) × Int) × Int) :=
  (if (a0.length : Int) < 4 then dir_Parse_j1 a0 true ((([] : List UInt8), 0) : (List UInt8) × Int) else ((cutL a0 4 (a0.length : Int)).bind fun y10 => ((dir_Name y10).bind fun y11 => dir_Parse_j1 a0 (decide (y11 ≠ 0)) ((([] : List UInt8), 0) : (List UInt8) × Int))))
def gabionlaw17_DirNames_j14 (H : Heap) (x88 : List (List UInt8)) (x90 : Int) : Option (Int ⊕ ((Heap × Bool) ⊕ Unit)) :=
  some (.inl (wi64 (x90 + 1)))
def gabionlaw17_DirNames_j13 (H : Heap) (x88 : List (List UInt8)) (x90 : Int) (x123 : Bool) : Option (Int ⊕ ((Heap × Bool) ⊕ Unit)) :=
  (if x123 = true then some (.inr (.inl (H, false))) else gabionlaw17_DirNames_j14 H x88 x90)
def gabionlaw17_DirNames_j15 (H : Heap) (x88 : List (List UInt8)) (x90 : Int) (x135 : Bool) : Option (Int ⊕ ((Heap × Bool) ⊕ Unit)) :=
  (if x135 = true then some (.inr (.inl (H, false))) else gabionlaw17_DirNames_j14 H x88 x90)
def gabionlaw17_DirNames_l0 (H : Heap) (x88 : List (List UInt8)) (x90 : Int) : Option (Int ⊕ ((Heap × Bool) ⊕ Unit)) :=
  (if x90 < (x88.length : Int) then ((rd x88 x90).bind fun y19 => ((dir_Parse y19).bind fun y20 => (if y20.2.2 ≠ 0 then (if y20.2.2 ≠ 4 then gabionlaw17_DirNames_j13 H x88 x90 true else (if 4 < (y19.length : Int) then ((cutL y19 4 (y19.length : Int)).bind fun y28 => ((gabionref17_Name y28).bind fun y29 => (if y29 = 0 then gabionlaw17_DirNames_j13 H x88 x90 true else (if (decide (y20.2.1.1 = ([] : List UInt8)) && (decide (y20.2.1.2 = 0) && true)) = true then gabionlaw17_DirNames_j13 H x88 x90 (decide (y20.1 ≠ 0)) else gabionlaw17_DirNames_j13 H x88 x90 true)))) else (if (decide (y20.2.1.1 = ([] : List UInt8)) && (decide (y20.2.1.2 = 0) && true)) = true then gabionlaw17_DirNames_j13 H x88 x90 (decide (y20.1 ≠ 0)) else gabionlaw17_DirNames_j13 H x88 x90 true))) else ((dir_Entry_Text y20.2.1 y20.1).bind fun y33 => (if y33 = y19 then ((gabionref17_Text y20.2.1 y20.1).bind fun y35 => gabionlaw17_DirNames_j15 H x88 x90 (!(decide (y35 = y19)))) else gabionlaw17_DirNames_j15 H x88 x90 true))))) else some (.inr (.inr ())))
def gabionlaw17_DirNames_j5 (H : Heap) (x0 : List UInt8) (x2 : Int) (x81 : Bool) (zb7 : (List UInt8) × Int) : Option (Heap × Bool) :=
  (if x81 = true then some (H, false) else ((dir_Entry_Text zb7 x2).bind fun y11 => ((catS ([1, 0, 2, 0] : List UInt8) x0).bind fun y12 => ((iter (fun (s : Int) => gabionlaw17_DirNames_l0 H ([x0, y11, y12]) s) (([x0, y11, y12]).length + 1) 0).bind fun e38 => on e38 (fun x39 => some x39) (fun x41 => some (H, true))))))
def gabionlaw17_DirNames (H : Heap) (a0 : List UInt8) (a1 : Int) (a2 : Int) : Option (Heap × Bool) :=
  ((cutL a0 0 (mn (a0.length : Int) 50)).bind fun y1 => ((dir_Dir_Get H 0 y1).bind fun y3 => ((gabionlaw17_wakes H).bind fun y4 => (if y4.2 = true then ((dir_Name y1).bind fun y6 => ((gabionref17_Name y1).bind fun y7 => (if y6 ≠ y7 then gabionlaw17_DirNames_j5 y4.1 y1 a2 true (y1, a1) else ((dir_Entry_Text (y1, a1) a2).bind fun y42 => ((gabionref17_Text (y1, a1) a2).bind fun y43 => (if y42 = y43 then (if y3.2 = true then gabionlaw17_DirNames_j5 y4.1 y1 a2 true (y1, a1) else ((dir_Dir_Put y4.1 0 y1 a1).bind fun y46 => (if y46.2 ≠ 1 then gabionlaw17_DirNames_j5 y46.1 y1 a2 true (y1, a1) else ((dir_Dir_Drop y46.1 0 y1).bind fun y48 => (if y48.2 ≠ 1 then gabionlaw17_DirNames_j5 y48.1 y1 a2 true (y1, a1) else ((dir_Dir_Copy y48.1 0).bind fun y50 => (if y50.2 = 0 then ((dir_Dir_Len y50.1 0).bind fun y54 => ((dir_Dir_List y50.1 0).bind fun y55 => ((dir_Dir_Buckets y50.1 0).bind fun y61 => gabionlaw17_DirNames_j5 y50.1 y1 a2 (decide ((wi64 ((wi64 (y54 + (y55.length : Int))) + (y61.length : Int))) ≠ 0)) (y1, a1)))) else gabionlaw17_DirNames_j5 y50.1 y1 a2 true (y1, a1)))))))) else gabionlaw17_DirNames_j5 y4.1 y1 a2 true (y1, a1))))))) else gabionlaw17_DirNames_j5 y4.1 y1 a2 true (y1, a1)))))
end Gab
