import Derived.Test.YtmggphnhfegffaaAxZc
import Derived.Test.YtmggphnhfegffaaProg
import Derived.KernelRfl
set_option linter.unusedVariables false
namespace Go.AX
open Go.Proofs
theorem ti2 : mkTI Try.prog 2 = ⟨TK.int .i64, 1, 8, [AV.d (D.int .i64 0)]⟩ := by kernel_rfl
theorem ti3 : mkTI Try.prog 3 = ⟨TK.int .i64, 1, 8, [AV.d (D.int .i64 0)]⟩ := by kernel_rfl
theorem ti4 : mkTI Try.prog 4 = ⟨TK.bool, 1, 1, [AV.d (D.bool false)]⟩ := by kernel_rfl
theorem ti5 : mkTI Try.prog 5 = ⟨TK.int .u8, 1, 1, [AV.d (D.int .u8 0)]⟩ := by kernel_rfl
theorem ti6 : mkTI Try.prog 6 = ⟨TK.int .u8, 1, 1, [AV.d (D.int .u8 0)]⟩ := by kernel_rfl
theorem ti7 : mkTI Try.prog 7 = ⟨TK.struct [(0, 2), (1, 3), (2, 4), (3, 6)], 4, 24, [AV.d (D.int .i64 0), AV.d (D.int .i64 0), AV.d (D.bool false), AV.d (D.int .u8 0)]⟩ := by kernel_rfl
theorem ti8 : mkTI Try.prog 8 = ⟨TK.struct [(0, 2), (1, 3), (2, 4), (3, 6)], 4, 24, [AV.d (D.int .i64 0), AV.d (D.int .i64 0), AV.d (D.bool false), AV.d (D.int .u8 0)]⟩ := by kernel_rfl
theorem ti9 : mkTI Try.prog 9 = ⟨TK.str, 1, 16, [AV.d (D.str [])]⟩ := by kernel_rfl
theorem ti10 : mkTI Try.prog 10 = ⟨TK.str, 1, 16, [AV.d (D.str [])]⟩ := by kernel_rfl
theorem ti11 : mkTI Try.prog 11 = ⟨TK.str, 1, 16, [AV.d (D.str [])]⟩ := by kernel_rfl
theorem ti12 : mkTI Try.prog 12 = ⟨TK.int .u64, 1, 8, [AV.d (D.int .u64 0)]⟩ := by kernel_rfl
theorem ti13 : mkTI Try.prog 13 = ⟨TK.struct [(0, 9), (1, 12)], 2, 24, [AV.d (D.str []), AV.d (D.int .u64 0)]⟩ := by kernel_rfl
theorem ti14 : mkTI Try.prog 14 = ⟨TK.struct [(0, 9), (1, 12)], 2, 24, [AV.d (D.str []), AV.d (D.int .u64 0)]⟩ := by kernel_rfl
theorem ti15 : mkTI Try.prog 15 = ⟨TK.ptr 125, 1, 8, [AV.nilp]⟩ := by kernel_rfl
theorem ti16 : mkTI Try.prog 16 = ⟨TK.ptr 128, 1, 8, [AV.nilp]⟩ := by kernel_rfl
theorem ti17 : mkTI Try.prog 17 = ⟨TK.ptr 137, 1, 8, [AV.nilp]⟩ := by kernel_rfl
theorem ti18 : mkTI Try.prog 18 = ⟨TK.struct [(0, 17)], 1, 8, [AV.nilp]⟩ := by kernel_rfl
theorem ti19 : mkTI Try.prog 19 = ⟨TK.struct [(0, 17)], 1, 8, [AV.nilp]⟩ := by kernel_rfl
theorem ti21 : mkTI Try.prog 21 = ⟨TK.int .i32, 1, 4, [AV.d (D.int .i32 0)]⟩ := by kernel_rfl
theorem ti22 : mkTI Try.prog 22 = ⟨TK.slice 3, 1, 24, [AV.nils]⟩ := by kernel_rfl
theorem ti23 : mkTI Try.prog 23 = ⟨TK.ptr 72, 1, 8, [AV.nilp]⟩ := by kernel_rfl
theorem ti25 : mkTI Try.prog 25 = ⟨TK.slice 32, 1, 24, [AV.nils]⟩ := by kernel_rfl
theorem ti26 : mkTI Try.prog 26 = ⟨TK.struct [(0, 22), (1, 25)], 2, 48, [AV.nils, AV.nils]⟩ := by kernel_rfl
theorem ti27 : mkTI Try.prog 27 = ⟨TK.struct [(0, 22), (1, 25)], 2, 48, [AV.nils, AV.nils]⟩ := by kernel_rfl
theorem ti31 : mkTI Try.prog 31 = ⟨TK.struct [(0, 22), (1, 3), (2, 3)], 3, 40, [AV.nils, AV.d (D.int .i64 0), AV.d (D.int .i64 0)]⟩ := by kernel_rfl
theorem ti32 : mkTI Try.prog 32 = ⟨TK.struct [(0, 22), (1, 3), (2, 3)], 3, 40, [AV.nils, AV.d (D.int .i64 0), AV.d (D.int .i64 0)]⟩ := by kernel_rfl
theorem ti41 : mkTI Try.prog 41 = ⟨TK.int .u64, 1, 8, [AV.d (D.int .u64 0)]⟩ := by kernel_rfl
theorem ti51 : mkTI Try.prog 51 = ⟨TK.slice 80, 1, 24, [AV.nils]⟩ := by kernel_rfl
theorem ti52 : mkTI Try.prog 52 = ⟨TK.slice 83, 1, 24, [AV.nils]⟩ := by kernel_rfl
theorem ti53 : mkTI Try.prog 53 = ⟨TK.struct [(0, 3), (1, 3), (2, 3), (3, 3), (4, 51), (5, 51), (6, 22), (7, 52), (8, 3)], 9, 136, [AV.d (D.int .i64 0), AV.d (D.int .i64 0), AV.d (D.int .i64 0), AV.d (D.int .i64 0), AV.nils, AV.nils, AV.nils, AV.nils, AV.d (D.int .i64 0)]⟩ := by kernel_rfl
theorem ti54 : mkTI Try.prog 54 = ⟨TK.struct [(0, 3), (1, 3), (2, 3), (3, 3), (4, 51), (5, 51), (6, 22), (7, 52), (8, 3)], 9, 136, [AV.d (D.int .i64 0), AV.d (D.int .i64 0), AV.d (D.int .i64 0), AV.d (D.int .i64 0), AV.nils, AV.nils, AV.nils, AV.nils, AV.d (D.int .i64 0)]⟩ := by kernel_rfl
theorem ti56 : mkTI Try.prog 56 = ⟨TK.int .i64, 1, 8, [AV.d (D.int .i64 0)]⟩ := by kernel_rfl
theorem ti58 : mkTI Try.prog 58 = ⟨TK.slice 62, 1, 24, [AV.nils]⟩ := by kernel_rfl
theorem ti60 : mkTI Try.prog 60 = ⟨TK.slice 68, 1, 24, [AV.nils]⟩ := by kernel_rfl
theorem ti61 : mkTI Try.prog 61 = ⟨TK.struct [(0, 3), (1, 3), (2, 9), (3, 60), (4, 22)], 5, 80, [AV.d (D.int .i64 0), AV.d (D.int .i64 0), AV.d (D.str []), AV.nils, AV.nils]⟩ := by kernel_rfl
theorem ti62 : mkTI Try.prog 62 = ⟨TK.struct [(0, 3), (1, 3), (2, 9), (3, 60), (4, 22)], 5, 80, [AV.d (D.int .i64 0), AV.d (D.int .i64 0), AV.d (D.str []), AV.nils, AV.nils]⟩ := by kernel_rfl
theorem ti67 : mkTI Try.prog 67 = ⟨TK.struct [(0, 3), (1, 3), (2, 3), (3, 3), (4, 3), (5, 3)], 6, 48, [AV.d (D.int .i64 0), AV.d (D.int .i64 0), AV.d (D.int .i64 0), AV.d (D.int .i64 0), AV.d (D.int .i64 0), AV.d (D.int .i64 0)]⟩ := by kernel_rfl
theorem ti68 : mkTI Try.prog 68 = ⟨TK.struct [(0, 3), (1, 3), (2, 3), (3, 3), (4, 3), (5, 3)], 6, 48, [AV.d (D.int .i64 0), AV.d (D.int .i64 0), AV.d (D.int .i64 0), AV.d (D.int .i64 0), AV.d (D.int .i64 0), AV.d (D.int .i64 0)]⟩ := by kernel_rfl
theorem ti71 : mkTI Try.prog 71 = ⟨TK.struct [(0, 22), (1, 3)], 2, 32, [AV.nils, AV.d (D.int .i64 0)]⟩ := by kernel_rfl
theorem ti72 : mkTI Try.prog 72 = ⟨TK.struct [(0, 22), (1, 3)], 2, 32, [AV.nils, AV.d (D.int .i64 0)]⟩ := by kernel_rfl
theorem ti79 : mkTI Try.prog 79 = ⟨TK.struct [(0, 3), (1, 3), (2, 3)], 3, 24, [AV.d (D.int .i64 0), AV.d (D.int .i64 0), AV.d (D.int .i64 0)]⟩ := by kernel_rfl
theorem ti80 : mkTI Try.prog 80 = ⟨TK.struct [(0, 3), (1, 3), (2, 3)], 3, 24, [AV.d (D.int .i64 0), AV.d (D.int .i64 0), AV.d (D.int .i64 0)]⟩ := by kernel_rfl
theorem ti81 : mkTI Try.prog 81 = ⟨TK.slice 85, 1, 24, [AV.nils]⟩ := by kernel_rfl
theorem ti82 : mkTI Try.prog 82 = ⟨TK.struct [(0, 3), (1, 81)], 2, 32, [AV.d (D.int .i64 0), AV.nils]⟩ := by kernel_rfl
theorem ti83 : mkTI Try.prog 83 = ⟨TK.struct [(0, 3), (1, 81)], 2, 32, [AV.d (D.int .i64 0), AV.nils]⟩ := by kernel_rfl
theorem ti84 : mkTI Try.prog 84 = ⟨TK.struct [(0, 3), (1, 3)], 2, 16, [AV.d (D.int .i64 0), AV.d (D.int .i64 0)]⟩ := by kernel_rfl
theorem ti85 : mkTI Try.prog 85 = ⟨TK.struct [(0, 3), (1, 3)], 2, 16, [AV.d (D.int .i64 0), AV.d (D.int .i64 0)]⟩ := by kernel_rfl
theorem ti89 : mkTI Try.prog 89 = ⟨TK.slice 9, 1, 24, [AV.nils]⟩ := by kernel_rfl
theorem ti93 : mkTI Try.prog 93 = ⟨TK.ptr 95, 1, 8, [AV.nilp]⟩ := by kernel_rfl
theorem ti94 : mkTI Try.prog 94 = ⟨TK.struct [(0, 58), (1, 25)], 2, 48, [AV.nils, AV.nils]⟩ := by kernel_rfl
theorem ti95 : mkTI Try.prog 95 = ⟨TK.struct [(0, 58), (1, 25)], 2, 48, [AV.nils, AV.nils]⟩ := by kernel_rfl
theorem ti110 : mkTI Try.prog 110 = ⟨TK.slice 5, 1, 24, [AV.nils]⟩ := by kernel_rfl
theorem ti124 : mkTI Try.prog 124 = ⟨TK.struct [(0, 17), (1, 17), (2, 17), (3, 9)], 4, 40, [AV.nilp, AV.nilp, AV.nilp, AV.d (D.str [])]⟩ := by kernel_rfl
theorem ti125 : mkTI Try.prog 125 = ⟨TK.struct [(0, 17), (1, 17), (2, 17), (3, 9)], 4, 40, [AV.nilp, AV.nilp, AV.nilp, AV.d (D.str [])]⟩ := by kernel_rfl
theorem ti126 : mkTI Try.prog 126 = ⟨TK.array 0 16, 0, 0, []⟩ := by kernel_rfl
theorem ti127 : mkTI Try.prog 127 = ⟨TK.struct [(0, 126)], 0, 0, []⟩ := by kernel_rfl
theorem ti128 : mkTI Try.prog 128 = ⟨TK.struct [(0, 126)], 0, 0, []⟩ := by kernel_rfl
theorem ti129 : mkTI Try.prog 129 = ⟨TK.int .u32, 1, 4, [AV.d (D.int .u32 0)]⟩ := by kernel_rfl
theorem ti130 : mkTI Try.prog 130 = ⟨TK.int .u8, 1, 1, [AV.d (D.int .u8 0)]⟩ := by kernel_rfl
theorem ti131 : mkTI Try.prog 131 = ⟨TK.int .u8, 1, 1, [AV.d (D.int .u8 0)]⟩ := by kernel_rfl
theorem ti133 : mkTI Try.prog 133 = ⟨TK.ptr 5, 1, 8, [AV.nilp]⟩ := by kernel_rfl
theorem ti134 : mkTI Try.prog 134 = ⟨TK.int .i32, 1, 4, [AV.d (D.int .i32 0)]⟩ := by kernel_rfl
theorem ti135 : mkTI Try.prog 135 = ⟨TK.int .i32, 1, 4, [AV.d (D.int .i32 0)]⟩ := by kernel_rfl
theorem ti136 : mkTI Try.prog 136 = ⟨TK.struct [(0, 12), (1, 12), (2, 129), (3, 130), (4, 5), (5, 5), (6, 131), (7, 132), (8, 133), (9, 134), (10, 135)], 11, 48, [AV.d (D.int .u64 0), AV.d (D.int .u64 0), AV.d (D.int .u32 0), AV.d (D.int .u8 0), AV.d (D.int .u8 0), AV.d (D.int .u8 0), AV.d (D.int .u8 0), AV.any, AV.nilp, AV.d (D.int .i32 0), AV.d (D.int .i32 0)]⟩ := by kernel_rfl
theorem ti137 : mkTI Try.prog 137 = ⟨TK.struct [(0, 12), (1, 12), (2, 129), (3, 130), (4, 5), (5, 5), (6, 131), (7, 132), (8, 133), (9, 134), (10, 135)], 11, 48, [AV.d (D.int .u64 0), AV.d (D.int .u64 0), AV.d (D.int .u32 0), AV.d (D.int .u8 0), AV.d (D.int .u8 0), AV.d (D.int .u8 0), AV.d (D.int .u8 0), AV.any, AV.nilp, AV.d (D.int .i32 0), AV.d (D.int .i32 0)]⟩ := by kernel_rfl
end Go.AX
