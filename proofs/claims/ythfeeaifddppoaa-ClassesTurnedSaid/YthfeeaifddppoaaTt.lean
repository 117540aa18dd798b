/-
  THE TABLE OF TYPES OF THIS TRANSLATION, as its dump has them, held against the program by the kernel.
-/
import Derived.Test.YthfeeaifddppoaaAm14
import Derived.Test.YthfeeaifddppoaaProg
import Derived.KernelRfl
namespace Go.Proofs.Ythfeeaifddppoaa
open Go Go.AM
def tt : TT := [
  none,
  some ⟨.fn, 1, 8, [.zv 1]⟩,
  some ⟨.int .i64, 1, 8, [.int .i64 0]⟩,
  some ⟨.int .i64, 1, 8, [.int .i64 0]⟩,
  some ⟨.bool, 1, 1, [.bool false]⟩,
  some ⟨.int .u8, 1, 1, [.int .u8 0]⟩,
  some ⟨.int .u8, 1, 1, [.int .u8 0]⟩,
  some ⟨.st [(0, 2), (1, 3), (2, 4), (3, 6)], 4, 24, [.int .i64 0, .int .i64 0, .bool false, .int .u8 0]⟩,
  some ⟨.st [(0, 2), (1, 3), (2, 4), (3, 6)], 4, 24, [.int .i64 0, .int .i64 0, .bool false, .int .u8 0]⟩,
  some ⟨.str, 1, 16, [.str []]⟩,
  some ⟨.str, 1, 16, [.str []]⟩,
  some ⟨.str, 1, 16, [.str []]⟩,
  some ⟨.int .u64, 1, 8, [.int .u64 0]⟩,
  some ⟨.st [(0, 9), (1, 12)], 2, 24, [.str [], .int .u64 0]⟩,
  some ⟨.st [(0, 9), (1, 12)], 2, 24, [.str [], .int .u64 0]⟩,
  some ⟨.pt 129, 1, 8, [.np]⟩,
  some ⟨.pt 132, 1, 8, [.np]⟩,
  some ⟨.pt 141, 1, 8, [.np]⟩,
  some ⟨.st [(0, 17)], 1, 8, [.np]⟩,
  some ⟨.st [(0, 17)], 1, 8, [.np]⟩,
  none,
  some ⟨.int .i32, 1, 4, [.int .i32 0]⟩,
  some ⟨.sl 3, 1, 24, [.nl]⟩,
  some ⟨.sl 144, 1, 24, [.nl]⟩,
  some ⟨.sl 66, 1, 24, [.nl]⟩,
  some ⟨.sl 50, 1, 24, [.nl]⟩,
  some ⟨.sl 150, 1, 24, [.nl]⟩,
  some ⟨.st [(0, 23), (1, 24), (2, 25), (3, 26)], 4, 96, [.nl, .nl, .nl, .nl]⟩,
  some ⟨.st [(0, 23), (1, 24), (2, 25), (3, 26)], 4, 96, [.nl, .nl, .nl, .nl]⟩,
  some ⟨.fn, 1, 8, [.zv 1]⟩,
  some ⟨.fn, 1, 8, [.zv 1]⟩,
  some ⟨.pt 86, 1, 8, [.np]⟩,
  some ⟨.int .i64, 1, 8, [.int .i64 0]⟩,
  some ⟨.st [(0, 32), (1, 3)], 2, 16, [.int .i64 0, .int .i64 0]⟩,
  some ⟨.st [(0, 32), (1, 3)], 2, 16, [.int .i64 0, .int .i64 0]⟩,
  none,
  some ⟨.fn, 1, 8, [.zv 1]⟩,
  some ⟨.fn, 1, 8, [.zv 1]⟩,
  some ⟨.fn, 1, 8, [.zv 1]⟩,
  some ⟨.fn, 1, 8, [.zv 1]⟩,
  some ⟨.sl 9, 1, 24, [.nl]⟩,
  none,
  some ⟨.fn, 1, 8, [.zv 1]⟩,
  some ⟨.fn, 1, 8, [.zv 1]⟩,
  none,
  some ⟨.fn, 1, 8, [.zv 1]⟩,
  none,
  some ⟨.fn, 1, 8, [.zv 1]⟩,
  some ⟨.sl 152, 1, 24, [.nl]⟩,
  some ⟨.st [(0, 9), (1, 3), (2, 9), (3, 40), (4, 48), (5, 26)], 6, 112, [.str [], .int .i64 0, .str [], .nl, .nl, .nl]⟩,
  some ⟨.st [(0, 9), (1, 3), (2, 9), (3, 40), (4, 48), (5, 26)], 6, 112, [.str [], .int .i64 0, .str [], .nl, .nl, .nl]⟩,
  some ⟨.fn, 1, 8, [.zv 1]⟩,
  some ⟨.fn, 1, 8, [.zv 1]⟩,
  some ⟨.fn, 1, 8, [.zv 1]⟩,
  some ⟨.fn, 1, 8, [.zv 1]⟩,
  some ⟨.fn, 1, 8, [.zv 1]⟩,
  some ⟨.fn, 1, 8, [.zv 1]⟩,
  some ⟨.fn, 1, 8, [.zv 1]⟩,
  some ⟨.fn, 1, 8, [.zv 1]⟩,
  some ⟨.fn, 1, 8, [.zv 1]⟩,
  some ⟨.fn, 1, 8, [.zv 1]⟩,
  some ⟨.sl 63, 1, 24, [.nl]⟩,
  some ⟨.st [(0, 61)], 1, 24, [.nl]⟩,
  some ⟨.st [(0, 61)], 1, 24, [.nl]⟩,
  some ⟨.sl 81, 1, 24, [.nl]⟩,
  some ⟨.st [(0, 9), (1, 3), (2, 9), (3, 63), (4, 40), (5, 64)], 6, 112, [.str [], .int .i64 0, .str [], .nl, .nl, .nl]⟩,
  some ⟨.st [(0, 9), (1, 3), (2, 9), (3, 63), (4, 40), (5, 64)], 6, 112, [.str [], .int .i64 0, .str [], .nl, .nl, .nl]⟩,
  none,
  some ⟨.fn, 1, 8, [.zv 1]⟩,
  some ⟨.fn, 1, 8, [.zv 1]⟩,
  none,
  some ⟨.fn, 1, 8, [.zv 1]⟩,
  some ⟨.fn, 1, 8, [.zv 1]⟩,
  some ⟨.fn, 1, 8, [.zv 1]⟩,
  some ⟨.fn, 1, 8, [.zv 1]⟩,
  some ⟨.sl 77, 1, 24, [.nl]⟩,
  some ⟨.st [(0, 3), (1, 3), (2, 9), (3, 75)], 4, 56, [.int .i64 0, .int .i64 0, .str [], .nl]⟩,
  some ⟨.st [(0, 3), (1, 3), (2, 9), (3, 75)], 4, 56, [.int .i64 0, .int .i64 0, .str [], .nl]⟩,
  some ⟨.st [(0, 40), (1, 61), (2, 48), (3, 77)], 7, 128, [.nl, .nl, .nl, .int .i64 0, .int .i64 0, .str [], .nl]⟩,
  some ⟨.st [(0, 40), (1, 61), (2, 48), (3, 77)], 7, 128, [.nl, .nl, .nl, .int .i64 0, .int .i64 0, .str [], .nl]⟩,
  some ⟨.st [(0, 9), (1, 3), (2, 79)], 9, 152, [.str [], .int .i64 0, .nl, .nl, .nl, .int .i64 0, .int .i64 0, .str [], .nl]⟩,
  some ⟨.st [(0, 9), (1, 3), (2, 79)], 9, 152, [.str [], .int .i64 0, .nl, .nl, .nl, .int .i64 0, .int .i64 0, .str [], .nl]⟩,
  some ⟨.mp 9 66, 1, 8, [.zv 0]⟩,
  some ⟨.mp 9 94, 1, 8, [.zv 0]⟩,
  some ⟨.fn, 1, 8, [.zv 1]⟩,
  some ⟨.st [(0, 82), (1, 83), (2, 25)], 3, 40, [.zv 0, .zv 0, .nl]⟩,
  some ⟨.st [(0, 82), (1, 83), (2, 25)], 3, 40, [.zv 0, .zv 0, .nl]⟩,
  some ⟨.fn, 1, 8, [.zv 1]⟩,
  some ⟨.fn, 1, 8, [.zv 1]⟩,
  some ⟨.fn, 1, 8, [.zv 1]⟩,
  some ⟨.fn, 1, 8, [.zv 1]⟩,
  some ⟨.fn, 1, 8, [.zv 1]⟩,
  some ⟨.fn, 1, 8, [.zv 1]⟩,
  some ⟨.st [(0, 9), (1, 3)], 2, 24, [.str [], .int .i64 0]⟩,
  some ⟨.st [(0, 9), (1, 3)], 2, 24, [.str [], .int .i64 0]⟩,
  some ⟨.sl 34, 1, 24, [.nl]⟩,
  some ⟨.fn, 1, 8, [.zv 1]⟩,
  some ⟨.fn, 1, 8, [.zv 1]⟩,
  some ⟨.fn, 1, 8, [.zv 1]⟩,
  some ⟨.fn, 1, 8, [.zv 1]⟩,
  some ⟨.st [(0, 9), (1, 22)], 2, 40, [.str [], .nl]⟩,
  some ⟨.st [(0, 9), (1, 22)], 2, 40, [.str [], .nl]⟩,
  some ⟨.fn, 1, 8, [.zv 1]⟩,
  some ⟨.fn, 1, 8, [.zv 1]⟩,
  some ⟨.fn, 1, 8, [.zv 1]⟩,
  some ⟨.fn, 1, 8, [.zv 1]⟩,
  some ⟨.fn, 1, 8, [.zv 1]⟩,
  some ⟨.fn, 1, 8, [.zv 1]⟩,
  some ⟨.fn, 1, 8, [.zv 1]⟩,
  some ⟨.fn, 1, 8, [.zv 1]⟩,
  none,
  some ⟨.fn, 1, 8, [.zv 1]⟩,
  some ⟨.fn, 1, 8, [.zv 1]⟩,
  some ⟨.fn, 1, 8, [.zv 1]⟩,
  some ⟨.fn, 1, 8, [.zv 1]⟩,
  some ⟨.fn, 1, 8, [.zv 1]⟩,
  some ⟨.mp 9 4, 1, 8, [.zv 0]⟩,
  some ⟨.sl 101, 1, 24, [.nl]⟩,
  some ⟨.st [(0, 117)], 1, 24, [.nl]⟩,
  some ⟨.st [(0, 117)], 1, 24, [.nl]⟩,
  some ⟨.fn, 1, 8, [.zv 1]⟩,
  none,
  some ⟨.fn, 1, 8, [.zv 1]⟩,
  some ⟨.fn, 1, 8, [.zv 1]⟩,
  some ⟨.fn, 1, 8, [.zv 1]⟩,
  some ⟨.fn, 1, 8, [.zv 1]⟩,
  some ⟨.pt 119, 1, 8, [.np]⟩,
  some ⟨.fn, 1, 8, [.zv 1]⟩,
  some ⟨.st [(0, 17), (1, 17), (2, 17), (3, 9)], 4, 40, [.np, .np, .np, .str []]⟩,
  some ⟨.st [(0, 17), (1, 17), (2, 17), (3, 9)], 4, 40, [.np, .np, .np, .str []]⟩,
  none,
  some ⟨.st [(0, 130)], 0, 0, []⟩,
  some ⟨.st [(0, 130)], 0, 0, []⟩,
  some ⟨.int .u32, 1, 4, [.int .u32 0]⟩,
  some ⟨.int .u8, 1, 1, [.int .u8 0]⟩,
  some ⟨.int .u8, 1, 1, [.int .u8 0]⟩,
  some ⟨.fn, 1, 8, [.zv 1]⟩,
  some ⟨.pt 5, 1, 8, [.np]⟩,
  some ⟨.int .i32, 1, 4, [.int .i32 0]⟩,
  some ⟨.int .i32, 1, 4, [.int .i32 0]⟩,
  some ⟨.st [(0, 12), (1, 12), (2, 133), (3, 134), (4, 5), (5, 5), (6, 135), (7, 136), (8, 137), (9, 138), (10, 139)], 11, 48, [.int .u64 0, .int .u64 0, .int .u32 0, .int .u8 0, .int .u8 0, .int .u8 0, .int .u8 0, .zv 1, .np, .int .i32 0, .int .i32 0]⟩,
  some ⟨.st [(0, 12), (1, 12), (2, 133), (3, 134), (4, 5), (5, 5), (6, 135), (7, 136), (8, 137), (9, 138), (10, 139)], 11, 48, [.int .u64 0, .int .u64 0, .int .u32 0, .int .u8 0, .int .u8 0, .int .u8 0, .int .u8 0, .zv 1, .np, .int .i32 0, .int .i32 0]⟩,
  some ⟨.sl 155, 1, 24, [.nl]⟩,
  some ⟨.st [(0, 9), (1, 3), (2, 40), (3, 61), (4, 142)], 5, 96, [.str [], .int .i64 0, .nl, .nl, .nl]⟩,
  some ⟨.st [(0, 9), (1, 3), (2, 40), (3, 61), (4, 142)], 5, 96, [.str [], .int .i64 0, .nl, .nl, .nl]⟩,
  some ⟨.sl 148, 1, 24, [.nl]⟩,
  some ⟨.sl 157, 1, 24, [.nl]⟩,
  some ⟨.st [(0, 3), (1, 3), (2, 3), (3, 9), (4, 145), (5, 146), (6, 26), (7, 79), (14, 75)], 15, 264, [.int .i64 0, .int .i64 0, .int .i64 0, .str [], .nl, .nl, .nl, .nl, .nl, .nl, .int .i64 0, .int .i64 0, .str [], .nl, .nl]⟩,
  some ⟨.st [(0, 3), (1, 3), (2, 3), (3, 9), (4, 145), (5, 146), (6, 26), (7, 79), (14, 75)], 15, 264, [.int .i64 0, .int .i64 0, .int .i64 0, .str [], .nl, .nl, .nl, .nl, .nl, .nl, .int .i64 0, .int .i64 0, .str [], .nl, .nl]⟩,
  some ⟨.st [(0, 9), (1, 3), (2, 4), (3, 79), (10, 148), (25, 79), (32, 3)], 33, 560, [.str [], .int .i64 0, .bool false, .nl, .nl, .nl, .int .i64 0, .int .i64 0, .str [], .nl, .int .i64 0, .int .i64 0, .int .i64 0, .str [], .nl, .nl, .nl, .nl, .nl, .nl, .int .i64 0, .int .i64 0, .str [], .nl, .nl, .nl, .nl, .nl, .int .i64 0, .int .i64 0, .str [], .nl, .int .i64 0]⟩,
  some ⟨.st [(0, 9), (1, 3), (2, 4), (3, 79), (10, 148), (25, 79), (32, 3)], 33, 560, [.str [], .int .i64 0, .bool false, .nl, .nl, .nl, .int .i64 0, .int .i64 0, .str [], .nl, .int .i64 0, .int .i64 0, .int .i64 0, .str [], .nl, .nl, .nl, .nl, .nl, .nl, .int .i64 0, .int .i64 0, .str [], .nl, .nl, .nl, .nl, .nl, .int .i64 0, .int .i64 0, .str [], .nl, .int .i64 0]⟩,
  some ⟨.st [(0, 9), (1, 77)], 5, 72, [.str [], .int .i64 0, .int .i64 0, .str [], .nl]⟩,
  some ⟨.st [(0, 9), (1, 77)], 5, 72, [.str [], .int .i64 0, .int .i64 0, .str [], .nl]⟩,
  none,
  some ⟨.st [(0, 9), (1, 3), (2, 75)], 3, 48, [.str [], .int .i64 0, .nl]⟩,
  some ⟨.st [(0, 9), (1, 3), (2, 75)], 3, 48, [.str [], .int .i64 0, .nl]⟩,
  some ⟨.st [(0, 3), (1, 3), (2, 3), (3, 9), (4, 146), (5, 77), (9, 75)], 10, 144, [.int .i64 0, .int .i64 0, .int .i64 0, .str [], .nl, .int .i64 0, .int .i64 0, .str [], .nl, .nl]⟩,
  some ⟨.st [(0, 3), (1, 3), (2, 3), (3, 9), (4, 146), (5, 77), (9, 75)], 10, 144, [.int .i64 0, .int .i64 0, .int .i64 0, .str [], .nl, .int .i64 0, .int .i64 0, .str [], .nl, .nl]⟩]
theorem tok : Tok Try.prog tt := by unfold Tok; kernel_rfl
set_option maxRecDepth 20000 in theorem t1 : tt[1]? = some (some ⟨.fn, 1, 8, [.zv 1]⟩) := rfl
set_option maxRecDepth 20000 in theorem t2 : tt[2]? = some (some ⟨.int .i64, 1, 8, [.int .i64 0]⟩) := rfl
set_option maxRecDepth 20000 in theorem t3 : tt[3]? = some (some ⟨.int .i64, 1, 8, [.int .i64 0]⟩) := rfl
set_option maxRecDepth 20000 in theorem t4 : tt[4]? = some (some ⟨.bool, 1, 1, [.bool false]⟩) := rfl
set_option maxRecDepth 20000 in theorem t5 : tt[5]? = some (some ⟨.int .u8, 1, 1, [.int .u8 0]⟩) := rfl
set_option maxRecDepth 20000 in theorem t6 : tt[6]? = some (some ⟨.int .u8, 1, 1, [.int .u8 0]⟩) := rfl
set_option maxRecDepth 20000 in theorem t7 : tt[7]? = some (some ⟨.st [(0, 2), (1, 3), (2, 4), (3, 6)], 4, 24, [.int .i64 0, .int .i64 0, .bool false, .int .u8 0]⟩) := rfl
set_option maxRecDepth 20000 in theorem p7 : placesT tt [(0, 2), (1, 3), (2, 4), (3, 6)] = some [(0, 1), (1, 1), (2, 1), (3, 1)] := rfl
set_option maxRecDepth 20000 in theorem t8 : tt[8]? = some (some ⟨.st [(0, 2), (1, 3), (2, 4), (3, 6)], 4, 24, [.int .i64 0, .int .i64 0, .bool false, .int .u8 0]⟩) := rfl
set_option maxRecDepth 20000 in theorem p8 : placesT tt [(0, 2), (1, 3), (2, 4), (3, 6)] = some [(0, 1), (1, 1), (2, 1), (3, 1)] := rfl
set_option maxRecDepth 20000 in theorem t9 : tt[9]? = some (some ⟨.str, 1, 16, [.str []]⟩) := rfl
set_option maxRecDepth 20000 in theorem t10 : tt[10]? = some (some ⟨.str, 1, 16, [.str []]⟩) := rfl
set_option maxRecDepth 20000 in theorem t11 : tt[11]? = some (some ⟨.str, 1, 16, [.str []]⟩) := rfl
set_option maxRecDepth 20000 in theorem t12 : tt[12]? = some (some ⟨.int .u64, 1, 8, [.int .u64 0]⟩) := rfl
set_option maxRecDepth 20000 in theorem t13 : tt[13]? = some (some ⟨.st [(0, 9), (1, 12)], 2, 24, [.str [], .int .u64 0]⟩) := rfl
set_option maxRecDepth 20000 in theorem p13 : placesT tt [(0, 9), (1, 12)] = some [(0, 1), (1, 1)] := rfl
set_option maxRecDepth 20000 in theorem t14 : tt[14]? = some (some ⟨.st [(0, 9), (1, 12)], 2, 24, [.str [], .int .u64 0]⟩) := rfl
set_option maxRecDepth 20000 in theorem p14 : placesT tt [(0, 9), (1, 12)] = some [(0, 1), (1, 1)] := rfl
set_option maxRecDepth 20000 in theorem t15 : tt[15]? = some (some ⟨.pt 129, 1, 8, [.np]⟩) := rfl
set_option maxRecDepth 20000 in theorem t16 : tt[16]? = some (some ⟨.pt 132, 1, 8, [.np]⟩) := rfl
set_option maxRecDepth 20000 in theorem t17 : tt[17]? = some (some ⟨.pt 141, 1, 8, [.np]⟩) := rfl
set_option maxRecDepth 20000 in theorem t18 : tt[18]? = some (some ⟨.st [(0, 17)], 1, 8, [.np]⟩) := rfl
set_option maxRecDepth 20000 in theorem p18 : placesT tt [(0, 17)] = some [(0, 1)] := rfl
set_option maxRecDepth 20000 in theorem t19 : tt[19]? = some (some ⟨.st [(0, 17)], 1, 8, [.np]⟩) := rfl
set_option maxRecDepth 20000 in theorem p19 : placesT tt [(0, 17)] = some [(0, 1)] := rfl
set_option maxRecDepth 20000 in theorem t21 : tt[21]? = some (some ⟨.int .i32, 1, 4, [.int .i32 0]⟩) := rfl
set_option maxRecDepth 20000 in theorem t22 : tt[22]? = some (some ⟨.sl 3, 1, 24, [.nl]⟩) := rfl
set_option maxRecDepth 20000 in theorem t23 : tt[23]? = some (some ⟨.sl 144, 1, 24, [.nl]⟩) := rfl
set_option maxRecDepth 20000 in theorem t24 : tt[24]? = some (some ⟨.sl 66, 1, 24, [.nl]⟩) := rfl
set_option maxRecDepth 20000 in theorem t25 : tt[25]? = some (some ⟨.sl 50, 1, 24, [.nl]⟩) := rfl
set_option maxRecDepth 20000 in theorem t26 : tt[26]? = some (some ⟨.sl 150, 1, 24, [.nl]⟩) := rfl
set_option maxRecDepth 20000 in theorem t27 : tt[27]? = some (some ⟨.st [(0, 23), (1, 24), (2, 25), (3, 26)], 4, 96, [.nl, .nl, .nl, .nl]⟩) := rfl
set_option maxRecDepth 20000 in theorem p27 : placesT tt [(0, 23), (1, 24), (2, 25), (3, 26)] = some [(0, 1), (1, 1), (2, 1), (3, 1)] := rfl
set_option maxRecDepth 20000 in theorem t28 : tt[28]? = some (some ⟨.st [(0, 23), (1, 24), (2, 25), (3, 26)], 4, 96, [.nl, .nl, .nl, .nl]⟩) := rfl
set_option maxRecDepth 20000 in theorem p28 : placesT tt [(0, 23), (1, 24), (2, 25), (3, 26)] = some [(0, 1), (1, 1), (2, 1), (3, 1)] := rfl
set_option maxRecDepth 20000 in theorem t29 : tt[29]? = some (some ⟨.fn, 1, 8, [.zv 1]⟩) := rfl
set_option maxRecDepth 20000 in theorem t30 : tt[30]? = some (some ⟨.fn, 1, 8, [.zv 1]⟩) := rfl
set_option maxRecDepth 20000 in theorem t31 : tt[31]? = some (some ⟨.pt 86, 1, 8, [.np]⟩) := rfl
set_option maxRecDepth 20000 in theorem t32 : tt[32]? = some (some ⟨.int .i64, 1, 8, [.int .i64 0]⟩) := rfl
set_option maxRecDepth 20000 in theorem t33 : tt[33]? = some (some ⟨.st [(0, 32), (1, 3)], 2, 16, [.int .i64 0, .int .i64 0]⟩) := rfl
set_option maxRecDepth 20000 in theorem p33 : placesT tt [(0, 32), (1, 3)] = some [(0, 1), (1, 1)] := rfl
set_option maxRecDepth 20000 in theorem t34 : tt[34]? = some (some ⟨.st [(0, 32), (1, 3)], 2, 16, [.int .i64 0, .int .i64 0]⟩) := rfl
set_option maxRecDepth 20000 in theorem p34 : placesT tt [(0, 32), (1, 3)] = some [(0, 1), (1, 1)] := rfl
set_option maxRecDepth 20000 in theorem t36 : tt[36]? = some (some ⟨.fn, 1, 8, [.zv 1]⟩) := rfl
set_option maxRecDepth 20000 in theorem t37 : tt[37]? = some (some ⟨.fn, 1, 8, [.zv 1]⟩) := rfl
set_option maxRecDepth 20000 in theorem t38 : tt[38]? = some (some ⟨.fn, 1, 8, [.zv 1]⟩) := rfl
set_option maxRecDepth 20000 in theorem t39 : tt[39]? = some (some ⟨.fn, 1, 8, [.zv 1]⟩) := rfl
set_option maxRecDepth 20000 in theorem t40 : tt[40]? = some (some ⟨.sl 9, 1, 24, [.nl]⟩) := rfl
set_option maxRecDepth 20000 in theorem t42 : tt[42]? = some (some ⟨.fn, 1, 8, [.zv 1]⟩) := rfl
set_option maxRecDepth 20000 in theorem t43 : tt[43]? = some (some ⟨.fn, 1, 8, [.zv 1]⟩) := rfl
set_option maxRecDepth 20000 in theorem t45 : tt[45]? = some (some ⟨.fn, 1, 8, [.zv 1]⟩) := rfl
set_option maxRecDepth 20000 in theorem t47 : tt[47]? = some (some ⟨.fn, 1, 8, [.zv 1]⟩) := rfl
set_option maxRecDepth 20000 in theorem t48 : tt[48]? = some (some ⟨.sl 152, 1, 24, [.nl]⟩) := rfl
set_option maxRecDepth 20000 in theorem t49 : tt[49]? = some (some ⟨.st [(0, 9), (1, 3), (2, 9), (3, 40), (4, 48), (5, 26)], 6, 112, [.str [], .int .i64 0, .str [], .nl, .nl, .nl]⟩) := rfl
set_option maxRecDepth 20000 in theorem p49 : placesT tt [(0, 9), (1, 3), (2, 9), (3, 40), (4, 48), (5, 26)] = some [(0, 1), (1, 1), (2, 1), (3, 1), (4, 1), (5, 1)] := rfl
set_option maxRecDepth 20000 in theorem t50 : tt[50]? = some (some ⟨.st [(0, 9), (1, 3), (2, 9), (3, 40), (4, 48), (5, 26)], 6, 112, [.str [], .int .i64 0, .str [], .nl, .nl, .nl]⟩) := rfl
set_option maxRecDepth 20000 in theorem p50 : placesT tt [(0, 9), (1, 3), (2, 9), (3, 40), (4, 48), (5, 26)] = some [(0, 1), (1, 1), (2, 1), (3, 1), (4, 1), (5, 1)] := rfl
set_option maxRecDepth 20000 in theorem t51 : tt[51]? = some (some ⟨.fn, 1, 8, [.zv 1]⟩) := rfl
set_option maxRecDepth 20000 in theorem t52 : tt[52]? = some (some ⟨.fn, 1, 8, [.zv 1]⟩) := rfl
set_option maxRecDepth 20000 in theorem t53 : tt[53]? = some (some ⟨.fn, 1, 8, [.zv 1]⟩) := rfl
set_option maxRecDepth 20000 in theorem t54 : tt[54]? = some (some ⟨.fn, 1, 8, [.zv 1]⟩) := rfl
set_option maxRecDepth 20000 in theorem t55 : tt[55]? = some (some ⟨.fn, 1, 8, [.zv 1]⟩) := rfl
set_option maxRecDepth 20000 in theorem t56 : tt[56]? = some (some ⟨.fn, 1, 8, [.zv 1]⟩) := rfl
set_option maxRecDepth 20000 in theorem t57 : tt[57]? = some (some ⟨.fn, 1, 8, [.zv 1]⟩) := rfl
set_option maxRecDepth 20000 in theorem t58 : tt[58]? = some (some ⟨.fn, 1, 8, [.zv 1]⟩) := rfl
set_option maxRecDepth 20000 in theorem t59 : tt[59]? = some (some ⟨.fn, 1, 8, [.zv 1]⟩) := rfl
set_option maxRecDepth 20000 in theorem t60 : tt[60]? = some (some ⟨.fn, 1, 8, [.zv 1]⟩) := rfl
set_option maxRecDepth 20000 in theorem t61 : tt[61]? = some (some ⟨.sl 63, 1, 24, [.nl]⟩) := rfl
set_option maxRecDepth 20000 in theorem t62 : tt[62]? = some (some ⟨.st [(0, 61)], 1, 24, [.nl]⟩) := rfl
set_option maxRecDepth 20000 in theorem p62 : placesT tt [(0, 61)] = some [(0, 1)] := rfl
set_option maxRecDepth 20000 in theorem t63 : tt[63]? = some (some ⟨.st [(0, 61)], 1, 24, [.nl]⟩) := rfl
set_option maxRecDepth 20000 in theorem p63 : placesT tt [(0, 61)] = some [(0, 1)] := rfl
set_option maxRecDepth 20000 in theorem t64 : tt[64]? = some (some ⟨.sl 81, 1, 24, [.nl]⟩) := rfl
set_option maxRecDepth 20000 in theorem t65 : tt[65]? = some (some ⟨.st [(0, 9), (1, 3), (2, 9), (3, 63), (4, 40), (5, 64)], 6, 112, [.str [], .int .i64 0, .str [], .nl, .nl, .nl]⟩) := rfl
set_option maxRecDepth 20000 in theorem p65 : placesT tt [(0, 9), (1, 3), (2, 9), (3, 63), (4, 40), (5, 64)] = some [(0, 1), (1, 1), (2, 1), (3, 1), (4, 1), (5, 1)] := rfl
set_option maxRecDepth 20000 in theorem t66 : tt[66]? = some (some ⟨.st [(0, 9), (1, 3), (2, 9), (3, 63), (4, 40), (5, 64)], 6, 112, [.str [], .int .i64 0, .str [], .nl, .nl, .nl]⟩) := rfl
set_option maxRecDepth 20000 in theorem p66 : placesT tt [(0, 9), (1, 3), (2, 9), (3, 63), (4, 40), (5, 64)] = some [(0, 1), (1, 1), (2, 1), (3, 1), (4, 1), (5, 1)] := rfl
set_option maxRecDepth 20000 in theorem t68 : tt[68]? = some (some ⟨.fn, 1, 8, [.zv 1]⟩) := rfl
set_option maxRecDepth 20000 in theorem t69 : tt[69]? = some (some ⟨.fn, 1, 8, [.zv 1]⟩) := rfl
set_option maxRecDepth 20000 in theorem t71 : tt[71]? = some (some ⟨.fn, 1, 8, [.zv 1]⟩) := rfl
set_option maxRecDepth 20000 in theorem t72 : tt[72]? = some (some ⟨.fn, 1, 8, [.zv 1]⟩) := rfl
set_option maxRecDepth 20000 in theorem t73 : tt[73]? = some (some ⟨.fn, 1, 8, [.zv 1]⟩) := rfl
set_option maxRecDepth 20000 in theorem t74 : tt[74]? = some (some ⟨.fn, 1, 8, [.zv 1]⟩) := rfl
set_option maxRecDepth 20000 in theorem t75 : tt[75]? = some (some ⟨.sl 77, 1, 24, [.nl]⟩) := rfl
set_option maxRecDepth 20000 in theorem t76 : tt[76]? = some (some ⟨.st [(0, 3), (1, 3), (2, 9), (3, 75)], 4, 56, [.int .i64 0, .int .i64 0, .str [], .nl]⟩) := rfl
set_option maxRecDepth 20000 in theorem p76 : placesT tt [(0, 3), (1, 3), (2, 9), (3, 75)] = some [(0, 1), (1, 1), (2, 1), (3, 1)] := rfl
set_option maxRecDepth 20000 in theorem t77 : tt[77]? = some (some ⟨.st [(0, 3), (1, 3), (2, 9), (3, 75)], 4, 56, [.int .i64 0, .int .i64 0, .str [], .nl]⟩) := rfl
set_option maxRecDepth 20000 in theorem p77 : placesT tt [(0, 3), (1, 3), (2, 9), (3, 75)] = some [(0, 1), (1, 1), (2, 1), (3, 1)] := rfl
set_option maxRecDepth 20000 in theorem t78 : tt[78]? = some (some ⟨.st [(0, 40), (1, 61), (2, 48), (3, 77)], 7, 128, [.nl, .nl, .nl, .int .i64 0, .int .i64 0, .str [], .nl]⟩) := rfl
set_option maxRecDepth 20000 in theorem p78 : placesT tt [(0, 40), (1, 61), (2, 48), (3, 77)] = some [(0, 1), (1, 1), (2, 1), (3, 4)] := rfl
set_option maxRecDepth 20000 in theorem t79 : tt[79]? = some (some ⟨.st [(0, 40), (1, 61), (2, 48), (3, 77)], 7, 128, [.nl, .nl, .nl, .int .i64 0, .int .i64 0, .str [], .nl]⟩) := rfl
set_option maxRecDepth 20000 in theorem p79 : placesT tt [(0, 40), (1, 61), (2, 48), (3, 77)] = some [(0, 1), (1, 1), (2, 1), (3, 4)] := rfl
set_option maxRecDepth 20000 in theorem t80 : tt[80]? = some (some ⟨.st [(0, 9), (1, 3), (2, 79)], 9, 152, [.str [], .int .i64 0, .nl, .nl, .nl, .int .i64 0, .int .i64 0, .str [], .nl]⟩) := rfl
set_option maxRecDepth 20000 in theorem p80 : placesT tt [(0, 9), (1, 3), (2, 79)] = some [(0, 1), (1, 1), (2, 7)] := rfl
set_option maxRecDepth 20000 in theorem t81 : tt[81]? = some (some ⟨.st [(0, 9), (1, 3), (2, 79)], 9, 152, [.str [], .int .i64 0, .nl, .nl, .nl, .int .i64 0, .int .i64 0, .str [], .nl]⟩) := rfl
set_option maxRecDepth 20000 in theorem p81 : placesT tt [(0, 9), (1, 3), (2, 79)] = some [(0, 1), (1, 1), (2, 7)] := rfl
set_option maxRecDepth 20000 in theorem t82 : tt[82]? = some (some ⟨.mp 9 66, 1, 8, [.zv 0]⟩) := rfl
set_option maxRecDepth 20000 in theorem t83 : tt[83]? = some (some ⟨.mp 9 94, 1, 8, [.zv 0]⟩) := rfl
set_option maxRecDepth 20000 in theorem t84 : tt[84]? = some (some ⟨.fn, 1, 8, [.zv 1]⟩) := rfl
set_option maxRecDepth 20000 in theorem t85 : tt[85]? = some (some ⟨.st [(0, 82), (1, 83), (2, 25)], 3, 40, [.zv 0, .zv 0, .nl]⟩) := rfl
set_option maxRecDepth 20000 in theorem p85 : placesT tt [(0, 82), (1, 83), (2, 25)] = some [(0, 1), (1, 1), (2, 1)] := rfl
set_option maxRecDepth 20000 in theorem t86 : tt[86]? = some (some ⟨.st [(0, 82), (1, 83), (2, 25)], 3, 40, [.zv 0, .zv 0, .nl]⟩) := rfl
set_option maxRecDepth 20000 in theorem p86 : placesT tt [(0, 82), (1, 83), (2, 25)] = some [(0, 1), (1, 1), (2, 1)] := rfl
set_option maxRecDepth 20000 in theorem t87 : tt[87]? = some (some ⟨.fn, 1, 8, [.zv 1]⟩) := rfl
set_option maxRecDepth 20000 in theorem t88 : tt[88]? = some (some ⟨.fn, 1, 8, [.zv 1]⟩) := rfl
set_option maxRecDepth 20000 in theorem t89 : tt[89]? = some (some ⟨.fn, 1, 8, [.zv 1]⟩) := rfl
set_option maxRecDepth 20000 in theorem t90 : tt[90]? = some (some ⟨.fn, 1, 8, [.zv 1]⟩) := rfl
set_option maxRecDepth 20000 in theorem t91 : tt[91]? = some (some ⟨.fn, 1, 8, [.zv 1]⟩) := rfl
set_option maxRecDepth 20000 in theorem t92 : tt[92]? = some (some ⟨.fn, 1, 8, [.zv 1]⟩) := rfl
set_option maxRecDepth 20000 in theorem t93 : tt[93]? = some (some ⟨.st [(0, 9), (1, 3)], 2, 24, [.str [], .int .i64 0]⟩) := rfl
set_option maxRecDepth 20000 in theorem p93 : placesT tt [(0, 9), (1, 3)] = some [(0, 1), (1, 1)] := rfl
set_option maxRecDepth 20000 in theorem t94 : tt[94]? = some (some ⟨.st [(0, 9), (1, 3)], 2, 24, [.str [], .int .i64 0]⟩) := rfl
set_option maxRecDepth 20000 in theorem p94 : placesT tt [(0, 9), (1, 3)] = some [(0, 1), (1, 1)] := rfl
set_option maxRecDepth 20000 in theorem t95 : tt[95]? = some (some ⟨.sl 34, 1, 24, [.nl]⟩) := rfl
set_option maxRecDepth 20000 in theorem t96 : tt[96]? = some (some ⟨.fn, 1, 8, [.zv 1]⟩) := rfl
set_option maxRecDepth 20000 in theorem t97 : tt[97]? = some (some ⟨.fn, 1, 8, [.zv 1]⟩) := rfl
set_option maxRecDepth 20000 in theorem t98 : tt[98]? = some (some ⟨.fn, 1, 8, [.zv 1]⟩) := rfl
set_option maxRecDepth 20000 in theorem t99 : tt[99]? = some (some ⟨.fn, 1, 8, [.zv 1]⟩) := rfl
set_option maxRecDepth 20000 in theorem t100 : tt[100]? = some (some ⟨.st [(0, 9), (1, 22)], 2, 40, [.str [], .nl]⟩) := rfl
set_option maxRecDepth 20000 in theorem p100 : placesT tt [(0, 9), (1, 22)] = some [(0, 1), (1, 1)] := rfl
set_option maxRecDepth 20000 in theorem t101 : tt[101]? = some (some ⟨.st [(0, 9), (1, 22)], 2, 40, [.str [], .nl]⟩) := rfl
set_option maxRecDepth 20000 in theorem p101 : placesT tt [(0, 9), (1, 22)] = some [(0, 1), (1, 1)] := rfl
set_option maxRecDepth 20000 in theorem t102 : tt[102]? = some (some ⟨.fn, 1, 8, [.zv 1]⟩) := rfl
set_option maxRecDepth 20000 in theorem t103 : tt[103]? = some (some ⟨.fn, 1, 8, [.zv 1]⟩) := rfl
set_option maxRecDepth 20000 in theorem t104 : tt[104]? = some (some ⟨.fn, 1, 8, [.zv 1]⟩) := rfl
set_option maxRecDepth 20000 in theorem t105 : tt[105]? = some (some ⟨.fn, 1, 8, [.zv 1]⟩) := rfl
set_option maxRecDepth 20000 in theorem t106 : tt[106]? = some (some ⟨.fn, 1, 8, [.zv 1]⟩) := rfl
set_option maxRecDepth 20000 in theorem t107 : tt[107]? = some (some ⟨.fn, 1, 8, [.zv 1]⟩) := rfl
set_option maxRecDepth 20000 in theorem t108 : tt[108]? = some (some ⟨.fn, 1, 8, [.zv 1]⟩) := rfl
set_option maxRecDepth 20000 in theorem t109 : tt[109]? = some (some ⟨.fn, 1, 8, [.zv 1]⟩) := rfl
set_option maxRecDepth 20000 in theorem t111 : tt[111]? = some (some ⟨.fn, 1, 8, [.zv 1]⟩) := rfl
set_option maxRecDepth 20000 in theorem t112 : tt[112]? = some (some ⟨.fn, 1, 8, [.zv 1]⟩) := rfl
set_option maxRecDepth 20000 in theorem t113 : tt[113]? = some (some ⟨.fn, 1, 8, [.zv 1]⟩) := rfl
set_option maxRecDepth 20000 in theorem t114 : tt[114]? = some (some ⟨.fn, 1, 8, [.zv 1]⟩) := rfl
set_option maxRecDepth 20000 in theorem t115 : tt[115]? = some (some ⟨.fn, 1, 8, [.zv 1]⟩) := rfl
set_option maxRecDepth 20000 in theorem t116 : tt[116]? = some (some ⟨.mp 9 4, 1, 8, [.zv 0]⟩) := rfl
set_option maxRecDepth 20000 in theorem t117 : tt[117]? = some (some ⟨.sl 101, 1, 24, [.nl]⟩) := rfl
set_option maxRecDepth 20000 in theorem t118 : tt[118]? = some (some ⟨.st [(0, 117)], 1, 24, [.nl]⟩) := rfl
set_option maxRecDepth 20000 in theorem p118 : placesT tt [(0, 117)] = some [(0, 1)] := rfl
set_option maxRecDepth 20000 in theorem t119 : tt[119]? = some (some ⟨.st [(0, 117)], 1, 24, [.nl]⟩) := rfl
set_option maxRecDepth 20000 in theorem p119 : placesT tt [(0, 117)] = some [(0, 1)] := rfl
set_option maxRecDepth 20000 in theorem t120 : tt[120]? = some (some ⟨.fn, 1, 8, [.zv 1]⟩) := rfl
set_option maxRecDepth 20000 in theorem t122 : tt[122]? = some (some ⟨.fn, 1, 8, [.zv 1]⟩) := rfl
set_option maxRecDepth 20000 in theorem t123 : tt[123]? = some (some ⟨.fn, 1, 8, [.zv 1]⟩) := rfl
set_option maxRecDepth 20000 in theorem t124 : tt[124]? = some (some ⟨.fn, 1, 8, [.zv 1]⟩) := rfl
set_option maxRecDepth 20000 in theorem t125 : tt[125]? = some (some ⟨.fn, 1, 8, [.zv 1]⟩) := rfl
set_option maxRecDepth 20000 in theorem t126 : tt[126]? = some (some ⟨.pt 119, 1, 8, [.np]⟩) := rfl
set_option maxRecDepth 20000 in theorem t127 : tt[127]? = some (some ⟨.fn, 1, 8, [.zv 1]⟩) := rfl
set_option maxRecDepth 20000 in theorem t128 : tt[128]? = some (some ⟨.st [(0, 17), (1, 17), (2, 17), (3, 9)], 4, 40, [.np, .np, .np, .str []]⟩) := rfl
set_option maxRecDepth 20000 in theorem p128 : placesT tt [(0, 17), (1, 17), (2, 17), (3, 9)] = some [(0, 1), (1, 1), (2, 1), (3, 1)] := rfl
set_option maxRecDepth 20000 in theorem t129 : tt[129]? = some (some ⟨.st [(0, 17), (1, 17), (2, 17), (3, 9)], 4, 40, [.np, .np, .np, .str []]⟩) := rfl
set_option maxRecDepth 20000 in theorem p129 : placesT tt [(0, 17), (1, 17), (2, 17), (3, 9)] = some [(0, 1), (1, 1), (2, 1), (3, 1)] := rfl
set_option maxRecDepth 20000 in theorem t131 : tt[131]? = some (some ⟨.st [(0, 130)], 0, 0, []⟩) := rfl
set_option maxRecDepth 20000 in theorem t132 : tt[132]? = some (some ⟨.st [(0, 130)], 0, 0, []⟩) := rfl
set_option maxRecDepth 20000 in theorem t133 : tt[133]? = some (some ⟨.int .u32, 1, 4, [.int .u32 0]⟩) := rfl
set_option maxRecDepth 20000 in theorem t134 : tt[134]? = some (some ⟨.int .u8, 1, 1, [.int .u8 0]⟩) := rfl
set_option maxRecDepth 20000 in theorem t135 : tt[135]? = some (some ⟨.int .u8, 1, 1, [.int .u8 0]⟩) := rfl
set_option maxRecDepth 20000 in theorem t136 : tt[136]? = some (some ⟨.fn, 1, 8, [.zv 1]⟩) := rfl
set_option maxRecDepth 20000 in theorem t137 : tt[137]? = some (some ⟨.pt 5, 1, 8, [.np]⟩) := rfl
set_option maxRecDepth 20000 in theorem t138 : tt[138]? = some (some ⟨.int .i32, 1, 4, [.int .i32 0]⟩) := rfl
set_option maxRecDepth 20000 in theorem t139 : tt[139]? = some (some ⟨.int .i32, 1, 4, [.int .i32 0]⟩) := rfl
set_option maxRecDepth 20000 in theorem t140 : tt[140]? = some (some ⟨.st [(0, 12), (1, 12), (2, 133), (3, 134), (4, 5), (5, 5), (6, 135), (7, 136), (8, 137), (9, 138), (10, 139)], 11, 48, [.int .u64 0, .int .u64 0, .int .u32 0, .int .u8 0, .int .u8 0, .int .u8 0, .int .u8 0, .zv 1, .np, .int .i32 0, .int .i32 0]⟩) := rfl
set_option maxRecDepth 20000 in theorem p140 : placesT tt [(0, 12), (1, 12), (2, 133), (3, 134), (4, 5), (5, 5), (6, 135), (7, 136), (8, 137), (9, 138), (10, 139)] = some [(0, 1), (1, 1), (2, 1), (3, 1), (4, 1), (5, 1), (6, 1), (7, 1), (8, 1), (9, 1), (10, 1)] := rfl
set_option maxRecDepth 20000 in theorem t141 : tt[141]? = some (some ⟨.st [(0, 12), (1, 12), (2, 133), (3, 134), (4, 5), (5, 5), (6, 135), (7, 136), (8, 137), (9, 138), (10, 139)], 11, 48, [.int .u64 0, .int .u64 0, .int .u32 0, .int .u8 0, .int .u8 0, .int .u8 0, .int .u8 0, .zv 1, .np, .int .i32 0, .int .i32 0]⟩) := rfl
set_option maxRecDepth 20000 in theorem p141 : placesT tt [(0, 12), (1, 12), (2, 133), (3, 134), (4, 5), (5, 5), (6, 135), (7, 136), (8, 137), (9, 138), (10, 139)] = some [(0, 1), (1, 1), (2, 1), (3, 1), (4, 1), (5, 1), (6, 1), (7, 1), (8, 1), (9, 1), (10, 1)] := rfl
set_option maxRecDepth 20000 in theorem t142 : tt[142]? = some (some ⟨.sl 155, 1, 24, [.nl]⟩) := rfl
set_option maxRecDepth 20000 in theorem t143 : tt[143]? = some (some ⟨.st [(0, 9), (1, 3), (2, 40), (3, 61), (4, 142)], 5, 96, [.str [], .int .i64 0, .nl, .nl, .nl]⟩) := rfl
set_option maxRecDepth 20000 in theorem p143 : placesT tt [(0, 9), (1, 3), (2, 40), (3, 61), (4, 142)] = some [(0, 1), (1, 1), (2, 1), (3, 1), (4, 1)] := rfl
set_option maxRecDepth 20000 in theorem t144 : tt[144]? = some (some ⟨.st [(0, 9), (1, 3), (2, 40), (3, 61), (4, 142)], 5, 96, [.str [], .int .i64 0, .nl, .nl, .nl]⟩) := rfl
set_option maxRecDepth 20000 in theorem p144 : placesT tt [(0, 9), (1, 3), (2, 40), (3, 61), (4, 142)] = some [(0, 1), (1, 1), (2, 1), (3, 1), (4, 1)] := rfl
set_option maxRecDepth 20000 in theorem t145 : tt[145]? = some (some ⟨.sl 148, 1, 24, [.nl]⟩) := rfl
set_option maxRecDepth 20000 in theorem t146 : tt[146]? = some (some ⟨.sl 157, 1, 24, [.nl]⟩) := rfl
set_option maxRecDepth 20000 in theorem t147 : tt[147]? = some (some ⟨.st [(0, 3), (1, 3), (2, 3), (3, 9), (4, 145), (5, 146), (6, 26), (7, 79), (14, 75)], 15, 264, [.int .i64 0, .int .i64 0, .int .i64 0, .str [], .nl, .nl, .nl, .nl, .nl, .nl, .int .i64 0, .int .i64 0, .str [], .nl, .nl]⟩) := rfl
set_option maxRecDepth 20000 in theorem p147 : placesT tt [(0, 3), (1, 3), (2, 3), (3, 9), (4, 145), (5, 146), (6, 26), (7, 79), (14, 75)] = some [(0, 1), (1, 1), (2, 1), (3, 1), (4, 1), (5, 1), (6, 1), (7, 7), (14, 1)] := rfl
set_option maxRecDepth 20000 in theorem t148 : tt[148]? = some (some ⟨.st [(0, 3), (1, 3), (2, 3), (3, 9), (4, 145), (5, 146), (6, 26), (7, 79), (14, 75)], 15, 264, [.int .i64 0, .int .i64 0, .int .i64 0, .str [], .nl, .nl, .nl, .nl, .nl, .nl, .int .i64 0, .int .i64 0, .str [], .nl, .nl]⟩) := rfl
set_option maxRecDepth 20000 in theorem p148 : placesT tt [(0, 3), (1, 3), (2, 3), (3, 9), (4, 145), (5, 146), (6, 26), (7, 79), (14, 75)] = some [(0, 1), (1, 1), (2, 1), (3, 1), (4, 1), (5, 1), (6, 1), (7, 7), (14, 1)] := rfl
set_option maxRecDepth 20000 in theorem t149 : tt[149]? = some (some ⟨.st [(0, 9), (1, 3), (2, 4), (3, 79), (10, 148), (25, 79), (32, 3)], 33, 560, [.str [], .int .i64 0, .bool false, .nl, .nl, .nl, .int .i64 0, .int .i64 0, .str [], .nl, .int .i64 0, .int .i64 0, .int .i64 0, .str [], .nl, .nl, .nl, .nl, .nl, .nl, .int .i64 0, .int .i64 0, .str [], .nl, .nl, .nl, .nl, .nl, .int .i64 0, .int .i64 0, .str [], .nl, .int .i64 0]⟩) := rfl
set_option maxRecDepth 20000 in theorem p149 : placesT tt [(0, 9), (1, 3), (2, 4), (3, 79), (10, 148), (25, 79), (32, 3)] = some [(0, 1), (1, 1), (2, 1), (3, 7), (10, 15), (25, 7), (32, 1)] := rfl
set_option maxRecDepth 20000 in theorem t150 : tt[150]? = some (some ⟨.st [(0, 9), (1, 3), (2, 4), (3, 79), (10, 148), (25, 79), (32, 3)], 33, 560, [.str [], .int .i64 0, .bool false, .nl, .nl, .nl, .int .i64 0, .int .i64 0, .str [], .nl, .int .i64 0, .int .i64 0, .int .i64 0, .str [], .nl, .nl, .nl, .nl, .nl, .nl, .int .i64 0, .int .i64 0, .str [], .nl, .nl, .nl, .nl, .nl, .int .i64 0, .int .i64 0, .str [], .nl, .int .i64 0]⟩) := rfl
set_option maxRecDepth 20000 in theorem p150 : placesT tt [(0, 9), (1, 3), (2, 4), (3, 79), (10, 148), (25, 79), (32, 3)] = some [(0, 1), (1, 1), (2, 1), (3, 7), (10, 15), (25, 7), (32, 1)] := rfl
set_option maxRecDepth 20000 in theorem t151 : tt[151]? = some (some ⟨.st [(0, 9), (1, 77)], 5, 72, [.str [], .int .i64 0, .int .i64 0, .str [], .nl]⟩) := rfl
set_option maxRecDepth 20000 in theorem p151 : placesT tt [(0, 9), (1, 77)] = some [(0, 1), (1, 4)] := rfl
set_option maxRecDepth 20000 in theorem t152 : tt[152]? = some (some ⟨.st [(0, 9), (1, 77)], 5, 72, [.str [], .int .i64 0, .int .i64 0, .str [], .nl]⟩) := rfl
set_option maxRecDepth 20000 in theorem p152 : placesT tt [(0, 9), (1, 77)] = some [(0, 1), (1, 4)] := rfl
set_option maxRecDepth 20000 in theorem t154 : tt[154]? = some (some ⟨.st [(0, 9), (1, 3), (2, 75)], 3, 48, [.str [], .int .i64 0, .nl]⟩) := rfl
set_option maxRecDepth 20000 in theorem p154 : placesT tt [(0, 9), (1, 3), (2, 75)] = some [(0, 1), (1, 1), (2, 1)] := rfl
set_option maxRecDepth 20000 in theorem t155 : tt[155]? = some (some ⟨.st [(0, 9), (1, 3), (2, 75)], 3, 48, [.str [], .int .i64 0, .nl]⟩) := rfl
set_option maxRecDepth 20000 in theorem p155 : placesT tt [(0, 9), (1, 3), (2, 75)] = some [(0, 1), (1, 1), (2, 1)] := rfl
set_option maxRecDepth 20000 in theorem t156 : tt[156]? = some (some ⟨.st [(0, 3), (1, 3), (2, 3), (3, 9), (4, 146), (5, 77), (9, 75)], 10, 144, [.int .i64 0, .int .i64 0, .int .i64 0, .str [], .nl, .int .i64 0, .int .i64 0, .str [], .nl, .nl]⟩) := rfl
set_option maxRecDepth 20000 in theorem p156 : placesT tt [(0, 3), (1, 3), (2, 3), (3, 9), (4, 146), (5, 77), (9, 75)] = some [(0, 1), (1, 1), (2, 1), (3, 1), (4, 1), (5, 4), (9, 1)] := rfl
set_option maxRecDepth 20000 in theorem t157 : tt[157]? = some (some ⟨.st [(0, 3), (1, 3), (2, 3), (3, 9), (4, 146), (5, 77), (9, 75)], 10, 144, [.int .i64 0, .int .i64 0, .int .i64 0, .str [], .nl, .int .i64 0, .int .i64 0, .str [], .nl, .nl]⟩) := rfl
set_option maxRecDepth 20000 in theorem p157 : placesT tt [(0, 3), (1, 3), (2, 3), (3, 9), (4, 146), (5, 77), (9, 75)] = some [(0, 1), (1, 1), (2, 1), (3, 1), (4, 1), (5, 4), (9, 1)] := rfl
theorem mixed : Try.prog.follows .mixedOrders = true := by kernel_rfl
end Go.Proofs.Ythfeeaifddppoaa
