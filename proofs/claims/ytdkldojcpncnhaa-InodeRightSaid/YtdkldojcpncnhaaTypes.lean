/- What each type of the program is. Written by a program (gentypes.py). -/
import Derived.Test.YtdkldojcpncnhaaProg
import Derived.Test.YtdkldojcpncnhaaCall
import Derived.KernelRfl
namespace Gab
open Go Go.Proofs
theorem ti2 : tinfo Try.prog 2 = some ⟨.int .i64, 1, 8, some [.int .i64 0]⟩ := by kernel_rfl
theorem ti3 : tinfo Try.prog 3 = some ⟨.int .i64, 1, 8, some [.int .i64 0]⟩ := by kernel_rfl
theorem ti4 : tinfo Try.prog 4 = some ⟨.bool, 1, 1, some [.bool false]⟩ := by kernel_rfl
theorem ti5 : tinfo Try.prog 5 = some ⟨.int .u8, 1, 1, some [.int .u8 0]⟩ := by kernel_rfl
theorem ti6 : tinfo Try.prog 6 = some ⟨.int .u8, 1, 1, some [.int .u8 0]⟩ := by kernel_rfl
theorem ti7 : tinfo Try.prog 7 = some ⟨.struct [(0, 2), (1, 3), (2, 4), (3, 6)], 4, 24, some [.int .i64 0, .int .i64 0, .bool false, .int .u8 0]⟩ := by kernel_rfl
theorem ti8 : tinfo Try.prog 8 = some ⟨.struct [(0, 2), (1, 3), (2, 4), (3, 6)], 4, 24, some [.int .i64 0, .int .i64 0, .bool false, .int .u8 0]⟩ := by kernel_rfl
theorem ti9 : tinfo Try.prog 9 = some ⟨.str, 1, 16, some [.str []]⟩ := by kernel_rfl
theorem ti10 : tinfo Try.prog 10 = some ⟨.str, 1, 16, some [.str []]⟩ := by kernel_rfl
theorem ti11 : tinfo Try.prog 11 = some ⟨.str, 1, 16, some [.str []]⟩ := by kernel_rfl
theorem ti12 : tinfo Try.prog 12 = some ⟨.int .u64, 1, 8, some [.int .u64 0]⟩ := by kernel_rfl
theorem ti13 : tinfo Try.prog 13 = some ⟨.struct [(0, 9), (1, 12)], 2, 24, some [.str [], .int .u64 0]⟩ := by kernel_rfl
theorem ti14 : tinfo Try.prog 14 = some ⟨.struct [(0, 9), (1, 12)], 2, 24, some [.str [], .int .u64 0]⟩ := by kernel_rfl
theorem ti15 : tinfo Try.prog 15 = some ⟨.ptr 135, 1, 8, some [.nilptr]⟩ := by kernel_rfl
theorem ti16 : tinfo Try.prog 16 = some ⟨.ptr 138, 1, 8, some [.nilptr]⟩ := by kernel_rfl
theorem ti17 : tinfo Try.prog 17 = some ⟨.ptr 146, 1, 8, some [.nilptr]⟩ := by kernel_rfl
theorem ti18 : tinfo Try.prog 18 = some ⟨.struct [(0, 17)], 1, 8, some [.nilptr]⟩ := by kernel_rfl
theorem ti19 : tinfo Try.prog 19 = some ⟨.struct [(0, 17)], 1, 8, some [.nilptr]⟩ := by kernel_rfl
theorem ti21 : tinfo Try.prog 21 = some ⟨.int .i32, 1, 4, some [.int .i32 0]⟩ := by kernel_rfl
theorem ti22 : tinfo Try.prog 22 = some ⟨.sl 3, 1, 24, some [.sl 0 0 0 0 0 true]⟩ := by kernel_rfl
theorem ti23 : tinfo Try.prog 23 = some ⟨.sl 35, 1, 24, some [.sl 0 0 0 0 0 true]⟩ := by kernel_rfl
theorem ti24 : tinfo Try.prog 24 = some ⟨.struct [(0, 3), (1, 23)], 2, 32, some [.int .i64 0, .sl 0 0 0 0 0 true]⟩ := by kernel_rfl
theorem ti25 : tinfo Try.prog 25 = some ⟨.struct [(0, 3), (1, 23)], 2, 32, some [.int .i64 0, .sl 0 0 0 0 0 true]⟩ := by kernel_rfl
theorem fs25 : flatStruct Try.prog 25 = true := by kernel_rfl
theorem ti26 : tinfo Try.prog 26 = some ⟨.int .i64, 1, 8, some [.int .i64 0]⟩ := by kernel_rfl
theorem ti32 : tinfo Try.prog 32 = some ⟨.sl 5, 1, 24, some [.sl 0 0 0 0 0 true]⟩ := by kernel_rfl
theorem ti34 : tinfo Try.prog 34 = some ⟨.struct [(0, 3), (1, 3)], 2, 16, some [.int .i64 0, .int .i64 0]⟩ := by kernel_rfl
theorem ti35 : tinfo Try.prog 35 = some ⟨.struct [(0, 3), (1, 3)], 2, 16, some [.int .i64 0, .int .i64 0]⟩ := by kernel_rfl
theorem fs35 : flatStruct Try.prog 35 = true := by kernel_rfl
theorem ti40 : tinfo Try.prog 40 = some ⟨.sl 41, 1, 24, some [.sl 0 0 0 0 0 true]⟩ := by kernel_rfl
theorem ti41 : tinfo Try.prog 41 = some ⟨.arr 2 3, 2, 16, some [.int .i64 0, .int .i64 0]⟩ := by kernel_rfl
theorem ti43 : tinfo Try.prog 43 = some ⟨.sl 40, 1, 24, some [.sl 0 0 0 0 0 true]⟩ := by kernel_rfl
theorem ti44 : tinfo Try.prog 44 = some ⟨.sl 35, 1, 24, some [.sl 0 0 0 0 0 true]⟩ := by kernel_rfl
theorem ti60 : tinfo Try.prog 60 = some ⟨.int .u16, 1, 2, some [.int .u16 0]⟩ := by kernel_rfl
theorem ti65 : tinfo Try.prog 65 = some ⟨.sl 69, 1, 24, some [.sl 0 0 0 0 0 true]⟩ := by kernel_rfl
theorem ti66 : tinfo Try.prog 66 = some ⟨.sl 4, 1, 24, some [.sl 0 0 0 0 0 true]⟩ := by kernel_rfl
theorem ti68 : tinfo Try.prog 68 = some ⟨.struct [(0, 3), (1, 3), (2, 3)], 3, 24, some [.int .i64 0, .int .i64 0, .int .i64 0]⟩ := by kernel_rfl
theorem ti69 : tinfo Try.prog 69 = some ⟨.struct [(0, 3), (1, 3), (2, 3)], 3, 24, some [.int .i64 0, .int .i64 0, .int .i64 0]⟩ := by kernel_rfl
theorem fs69 : flatStruct Try.prog 69 = true := by kernel_rfl
theorem ti80 : tinfo Try.prog 80 = some ⟨.struct [(0, 5), (1, 3), (2, 3), (3, 40), (4, 9)], 5, 64, some [.int .u8 0, .int .i64 0, .int .i64 0, .sl 0 0 0 0 0 true, .str []]⟩ := by kernel_rfl
theorem ti81 : tinfo Try.prog 81 = some ⟨.struct [(0, 5), (1, 3), (2, 3), (3, 40), (4, 9)], 5, 64, some [.int .u8 0, .int .i64 0, .int .i64 0, .sl 0 0 0 0 0 true, .str []]⟩ := by kernel_rfl
theorem fs81 : flatStruct Try.prog 81 = true := by kernel_rfl
theorem ti83 : tinfo Try.prog 83 = some ⟨.sl 81, 1, 24, some [.sl 0 0 0 0 0 true]⟩ := by kernel_rfl
theorem ti84 : tinfo Try.prog 84 = some ⟨.int .u8, 1, 1, some [.int .u8 0]⟩ := by kernel_rfl
theorem ti85 : tinfo Try.prog 85 = some ⟨.struct [(0, 84), (1, 3), (2, 3), (3, 44), (4, 9)], 5, 64, some [.int .u8 0, .int .i64 0, .int .i64 0, .sl 0 0 0 0 0 true, .str []]⟩ := by kernel_rfl
theorem ti86 : tinfo Try.prog 86 = some ⟨.struct [(0, 84), (1, 3), (2, 3), (3, 44), (4, 9)], 5, 64, some [.int .u8 0, .int .i64 0, .int .i64 0, .sl 0 0 0 0 0 true, .str []]⟩ := by kernel_rfl
theorem fs86 : flatStruct Try.prog 86 = true := by kernel_rfl
theorem ti88 : tinfo Try.prog 88 = some ⟨.struct [(0, 5), (1, 3), (2, 3), (3, 40), (4, 9)], 5, 64, some [.int .u8 0, .int .i64 0, .int .i64 0, .sl 0 0 0 0 0 true, .str []]⟩ := by kernel_rfl
theorem fs88 : flatStruct Try.prog 88 = true := by kernel_rfl
theorem ti99 : tinfo Try.prog 99 = some ⟨.int .u32, 1, 4, some [.int .u32 0]⟩ := by kernel_rfl
theorem ti119 : tinfo Try.prog 119 = some ⟨.int .u64, 1, 8, some [.int .u64 0]⟩ := by kernel_rfl
theorem ti122 : tinfo Try.prog 122 = some ⟨.sl 23, 1, 24, some [.sl 0 0 0 0 0 true]⟩ := by kernel_rfl
theorem ti124 : tinfo Try.prog 124 = some ⟨.sl 44, 1, 24, some [.sl 0 0 0 0 0 true]⟩ := by kernel_rfl
theorem ti128 : tinfo Try.prog 128 = some ⟨.int .u64, 1, 8, some [.int .u64 0]⟩ := by kernel_rfl
theorem ti134 : tinfo Try.prog 134 = some ⟨.struct [(0, 17), (1, 17), (2, 17), (3, 9)], 4, 40, some [.nilptr, .nilptr, .nilptr, .str []]⟩ := by kernel_rfl
theorem ti135 : tinfo Try.prog 135 = some ⟨.struct [(0, 17), (1, 17), (2, 17), (3, 9)], 4, 40, some [.nilptr, .nilptr, .nilptr, .str []]⟩ := by kernel_rfl
theorem ti136 : tinfo Try.prog 136 = some ⟨.arr 0 16, 0, 0, some []⟩ := by kernel_rfl
theorem ti137 : tinfo Try.prog 137 = some ⟨.struct [(0, 136)], 0, 0, some []⟩ := by kernel_rfl
theorem ti138 : tinfo Try.prog 138 = some ⟨.struct [(0, 136)], 0, 0, some []⟩ := by kernel_rfl
theorem ti139 : tinfo Try.prog 139 = some ⟨.int .u8, 1, 1, some [.int .u8 0]⟩ := by kernel_rfl
theorem ti140 : tinfo Try.prog 140 = some ⟨.int .u8, 1, 1, some [.int .u8 0]⟩ := by kernel_rfl
theorem ti142 : tinfo Try.prog 142 = some ⟨.ptr 5, 1, 8, some [.nilptr]⟩ := by kernel_rfl
theorem ti143 : tinfo Try.prog 143 = some ⟨.int .i32, 1, 4, some [.int .i32 0]⟩ := by kernel_rfl
theorem ti144 : tinfo Try.prog 144 = some ⟨.int .i32, 1, 4, some [.int .i32 0]⟩ := by kernel_rfl
theorem ti145 : tinfo Try.prog 145 = some ⟨.struct [(0, 12), (1, 12), (2, 99), (3, 139), (4, 5), (5, 5), (6, 140), (7, 141), (8, 142), (9, 143), (10, 144)], 11, 48, some [.int .u64 0, .int .u64 0, .int .u32 0, .int .u8 0, .int .u8 0, .int .u8 0, .int .u8 0, .nilfn, .nilptr, .int .i32 0, .int .i32 0]⟩ := by kernel_rfl
theorem ti146 : tinfo Try.prog 146 = some ⟨.struct [(0, 12), (1, 12), (2, 99), (3, 139), (4, 5), (5, 5), (6, 140), (7, 141), (8, 142), (9, 143), (10, 144)], 11, 48, some [.int .u64 0, .int .u64 0, .int .u32 0, .int .u8 0, .int .u8 0, .int .u8 0, .int .u8 0, .nilfn, .nilptr, .int .i32 0, .int .i32 0]⟩ := by kernel_rfl
end Gab
