/- The types of the program, as the engine takes them. Its conditions: none. -/
import Derived.Test.YtkgbngonbbajkaaE9
import Derived.Test.YtkgbngonbbajkaaProg
import Derived.KernelRfl
set_option linter.unusedSimpArgs false
set_option linter.unusedVariables false
namespace Go.Proofs.YtkgbngonbbajkaaE
open Go
theorem ty1 : ty Try.prog 1 = some ⟨.func, 1, 8, .nilf⟩ := by kernel_rfl
theorem ty2 : ty Try.prog 2 = some ⟨(.int .i64), 1, 8, (.int .i64 0)⟩ := by kernel_rfl
theorem ty3 : ty Try.prog 3 = some ⟨(.int .i64), 1, 8, (.int .i64 0)⟩ := by kernel_rfl
theorem ty4 : ty Try.prog 4 = some ⟨.bool, 1, 1, (.bool false)⟩ := by kernel_rfl
theorem ty5 : ty Try.prog 5 = some ⟨(.int .u8), 1, 1, (.int .u8 0)⟩ := by kernel_rfl
theorem ty6 : ty Try.prog 6 = some ⟨(.int .u8), 1, 1, (.int .u8 0)⟩ := by kernel_rfl
theorem ty7 : ty Try.prog 7 = some ⟨(.struct [(0, 1, 2), (1, 1, 3), (2, 1, 4), (3, 1, 6)]), 4, 24, (.agg ([(.int .i64 0), (.int .i64 0)] ++ [(.bool false)] ++ [(.int .u8 0)]))⟩ := by kernel_rfl
theorem ty8 : ty Try.prog 8 = some ⟨(.struct [(0, 1, 2), (1, 1, 3), (2, 1, 4), (3, 1, 6)]), 4, 24, (.agg ([(.int .i64 0), (.int .i64 0)] ++ [(.bool false)] ++ [(.int .u8 0)]))⟩ := by kernel_rfl
theorem ty9 : ty Try.prog 9 = some ⟨.str, 1, 16, (.str [])⟩ := by kernel_rfl
theorem ty10 : ty Try.prog 10 = some ⟨.str, 1, 16, (.str [])⟩ := by kernel_rfl
theorem ty11 : ty Try.prog 11 = some ⟨.str, 1, 16, (.str [])⟩ := by kernel_rfl
theorem ty12 : ty Try.prog 12 = some ⟨(.int .u64), 1, 8, (.int .u64 0)⟩ := by kernel_rfl
theorem ty13 : ty Try.prog 13 = some ⟨(.struct [(0, 1, 9), (1, 1, 12)]), 2, 24, (.agg ([(.str [])] ++ [(.int .u64 0)]))⟩ := by kernel_rfl
theorem ty14 : ty Try.prog 14 = some ⟨(.struct [(0, 1, 9), (1, 1, 12)]), 2, 24, (.agg ([(.str [])] ++ [(.int .u64 0)]))⟩ := by kernel_rfl
theorem ty15 : ty Try.prog 15 = some ⟨(.ptr 77), 1, 8, .nilp⟩ := by kernel_rfl
theorem ty16 : ty Try.prog 16 = some ⟨(.ptr 80), 1, 8, .nilp⟩ := by kernel_rfl
theorem ty17 : ty Try.prog 17 = some ⟨(.ptr 89), 1, 8, .nilp⟩ := by kernel_rfl
theorem ty18 : ty Try.prog 18 = some ⟨(.struct [(0, 1, 17)]), 1, 8, (.agg ([.nilp]))⟩ := by kernel_rfl
theorem ty19 : ty Try.prog 19 = some ⟨(.struct [(0, 1, 17)]), 1, 8, (.agg ([.nilp]))⟩ := by kernel_rfl
theorem ty20 : ty Try.prog 20 = some ⟨.iface, 1, 16, .nili⟩ := by kernel_rfl
theorem ty21 : ty Try.prog 21 = some ⟨(.int .i32), 1, 4, (.int .i32 0)⟩ := by kernel_rfl
theorem ty22 : ty Try.prog 22 = some ⟨(.slice 41 2), 1, 24, .nils⟩ := by kernel_rfl
theorem ty23 : ty Try.prog 23 = some ⟨.func, 1, 8, .nilf⟩ := by kernel_rfl
theorem ty24 : ty Try.prog 24 = some ⟨.func, 1, 8, .nilf⟩ := by kernel_rfl
theorem ty25 : ty Try.prog 25 = some ⟨.func, 1, 8, .nilf⟩ := by kernel_rfl
theorem ty26 : ty Try.prog 26 = some ⟨.func, 1, 8, .nilf⟩ := by kernel_rfl
theorem ty27 : ty Try.prog 27 = some ⟨.func, 1, 8, .nilf⟩ := by kernel_rfl
theorem ty28 : ty Try.prog 28 = some ⟨(.int .i64), 1, 8, (.int .i64 0)⟩ := by kernel_rfl
theorem ty30 : ty Try.prog 30 = some ⟨.func, 1, 8, .nilf⟩ := by kernel_rfl
theorem ty32 : ty Try.prog 32 = some ⟨.func, 1, 8, .nilf⟩ := by kernel_rfl
theorem ty34 : ty Try.prog 34 = some ⟨.func, 1, 8, .nilf⟩ := by kernel_rfl
theorem ty35 : ty Try.prog 35 = some ⟨.func, 1, 8, .nilf⟩ := by kernel_rfl
theorem ty37 : ty Try.prog 37 = some ⟨.func, 1, 8, .nilf⟩ := by kernel_rfl
theorem ty38 : ty Try.prog 38 = some ⟨.func, 1, 8, .nilf⟩ := by kernel_rfl
theorem ty39 : ty Try.prog 39 = some ⟨.func, 1, 8, .nilf⟩ := by kernel_rfl
theorem ty40 : ty Try.prog 40 = some ⟨(.struct [(0, 1, 9), (1, 1, 9)]), 2, 32, (.agg ([(.str []), (.str [])]))⟩ := by kernel_rfl
theorem ty41 : ty Try.prog 41 = some ⟨(.struct [(0, 1, 9), (1, 1, 9)]), 2, 32, (.agg ([(.str []), (.str [])]))⟩ := by kernel_rfl
theorem ty42 : ty Try.prog 42 = some ⟨.func, 1, 8, .nilf⟩ := by kernel_rfl
theorem ty44 : ty Try.prog 44 = some ⟨.func, 1, 8, .nilf⟩ := by kernel_rfl
theorem ty45 : ty Try.prog 45 = some ⟨.func, 1, 8, .nilf⟩ := by kernel_rfl
theorem ty46 : ty Try.prog 46 = some ⟨(.slice 5 1), 1, 24, .nils⟩ := by kernel_rfl
theorem ty47 : ty Try.prog 47 = some ⟨(.int .u64), 1, 8, (.int .u64 0)⟩ := by kernel_rfl
theorem ty49 : ty Try.prog 49 = some ⟨.func, 1, 8, .nilf⟩ := by kernel_rfl
theorem ty51 : ty Try.prog 51 = some ⟨.func, 1, 8, .nilf⟩ := by kernel_rfl
theorem ty52 : ty Try.prog 52 = some ⟨.func, 1, 8, .nilf⟩ := by kernel_rfl
theorem ty53 : ty Try.prog 53 = some ⟨(.ptr 55), 1, 8, .nilp⟩ := by kernel_rfl
theorem ty54 : ty Try.prog 54 = some ⟨(.struct [(0, 1, 53), (1, 1, 46)]), 2, 32, (.agg ([.nilp] ++ [.nils]))⟩ := by kernel_rfl
theorem ty55 : ty Try.prog 55 = some ⟨(.struct [(0, 1, 53), (1, 1, 46)]), 2, 32, (.agg ([.nilp] ++ [.nils]))⟩ := by kernel_rfl
theorem ty56 : ty Try.prog 56 = some ⟨.iface, 1, 16, .nili⟩ := by kernel_rfl
theorem ty57 : ty Try.prog 57 = some ⟨.iface, 1, 16, .nili⟩ := by kernel_rfl
theorem ty59 : ty Try.prog 59 = some ⟨.func, 1, 8, .nilf⟩ := by kernel_rfl
theorem ty60 : ty Try.prog 60 = some ⟨.func, 1, 8, .nilf⟩ := by kernel_rfl
theorem ty61 : ty Try.prog 61 = some ⟨.func, 1, 8, .nilf⟩ := by kernel_rfl
theorem ty62 : ty Try.prog 62 = some ⟨.func, 1, 8, .nilf⟩ := by kernel_rfl
theorem ty63 : ty Try.prog 63 = some ⟨.func, 1, 8, .nilf⟩ := by kernel_rfl
theorem ty64 : ty Try.prog 64 = some ⟨.func, 1, 8, .nilf⟩ := by kernel_rfl
theorem ty65 : ty Try.prog 65 = some ⟨.func, 1, 8, .nilf⟩ := by kernel_rfl
theorem ty66 : ty Try.prog 66 = some ⟨.func, 1, 8, .nilf⟩ := by kernel_rfl
theorem ty67 : ty Try.prog 67 = some ⟨.func, 1, 8, .nilf⟩ := by kernel_rfl
theorem ty68 : ty Try.prog 68 = some ⟨(.int .u64), 1, 8, (.int .u64 0)⟩ := by kernel_rfl
theorem ty69 : ty Try.prog 69 = some ⟨.func, 1, 8, .nilf⟩ := by kernel_rfl
theorem ty70 : ty Try.prog 70 = some ⟨.func, 1, 8, .nilf⟩ := by kernel_rfl
theorem ty71 : ty Try.prog 71 = some ⟨(.ptr 5), 1, 8, .nilp⟩ := by kernel_rfl
theorem ty72 : ty Try.prog 72 = some ⟨.func, 1, 8, .nilf⟩ := by kernel_rfl
theorem ty73 : ty Try.prog 73 = some ⟨.other, 1, 8, .nilp⟩ := by kernel_rfl
theorem ty74 : ty Try.prog 74 = some ⟨.func, 1, 8, .nilf⟩ := by kernel_rfl
theorem ty75 : ty Try.prog 75 = some ⟨.func, 1, 8, .nilf⟩ := by kernel_rfl
theorem ty76 : ty Try.prog 76 = some ⟨(.struct [(0, 1, 17), (1, 1, 17), (2, 1, 17), (3, 1, 9)]), 4, 40, (.agg ([.nilp, .nilp, .nilp] ++ [(.str [])]))⟩ := by kernel_rfl
theorem ty77 : ty Try.prog 77 = some ⟨(.struct [(0, 1, 17), (1, 1, 17), (2, 1, 17), (3, 1, 9)]), 4, 40, (.agg ([.nilp, .nilp, .nilp] ++ [(.str [])]))⟩ := by kernel_rfl
theorem ty78 : ty Try.prog 78 = some ⟨(.arr 0 16 1), 0, 0, (.agg ([]))⟩ := by kernel_rfl
theorem ty79 : ty Try.prog 79 = some ⟨.other, 0, 0, (.agg ([]))⟩ := by kernel_rfl
theorem ty80 : ty Try.prog 80 = some ⟨.other, 0, 0, (.agg ([]))⟩ := by kernel_rfl
theorem ty81 : ty Try.prog 81 = some ⟨.func, 1, 8, .nilf⟩ := by kernel_rfl
theorem ty82 : ty Try.prog 82 = some ⟨(.int .u32), 1, 4, (.int .u32 0)⟩ := by kernel_rfl
theorem ty83 : ty Try.prog 83 = some ⟨(.int .u8), 1, 1, (.int .u8 0)⟩ := by kernel_rfl
theorem ty84 : ty Try.prog 84 = some ⟨(.int .u8), 1, 1, (.int .u8 0)⟩ := by kernel_rfl
theorem ty85 : ty Try.prog 85 = some ⟨.func, 1, 8, .nilf⟩ := by kernel_rfl
theorem ty86 : ty Try.prog 86 = some ⟨(.int .i32), 1, 4, (.int .i32 0)⟩ := by kernel_rfl
theorem ty87 : ty Try.prog 87 = some ⟨(.int .i32), 1, 4, (.int .i32 0)⟩ := by kernel_rfl
theorem ty88 : ty Try.prog 88 = some ⟨(.struct [(0, 1, 12), (1, 1, 12), (2, 1, 82), (3, 1, 83), (4, 1, 5), (5, 1, 5), (6, 1, 84), (7, 1, 85), (8, 1, 71), (9, 1, 86), (10, 1, 87)]), 11, 48, (.agg ([(.int .u64 0), (.int .u64 0)] ++ [(.int .u32 0)] ++ List.replicate 4 (.int .u8 0) ++ [.nilf] ++ [.nilp] ++ [(.int .i32 0), (.int .i32 0)]))⟩ := by kernel_rfl
theorem ty89 : ty Try.prog 89 = some ⟨(.struct [(0, 1, 12), (1, 1, 12), (2, 1, 82), (3, 1, 83), (4, 1, 5), (5, 1, 5), (6, 1, 84), (7, 1, 85), (8, 1, 71), (9, 1, 86), (10, 1, 87)]), 11, 48, (.agg ([(.int .u64 0), (.int .u64 0)] ++ [(.int .u32 0)] ++ List.replicate 4 (.int .u8 0) ++ [.nilf] ++ [.nilp] ++ [(.int .i32 0), (.int .i32 0)]))⟩ := by kernel_rfl
attribute [go_sem] ty1 ty2 ty3 ty4 ty5 ty6 ty7 ty8 ty9 ty10 ty11 ty12 ty13 ty14 ty15 ty16 ty17 ty18 ty19 ty20 ty21 ty22 ty23 ty24 ty25 ty26 ty27 ty28 ty30 ty32 ty34 ty35 ty37 ty38 ty39 ty40 ty41 ty42 ty44 ty45 ty46 ty47 ty49 ty51 ty52 ty53 ty54 ty55 ty56 ty57 ty59 ty60 ty61 ty62 ty63 ty64 ty65 ty66 ty67 ty68 ty69 ty70 ty71 ty72 ty73 ty74 ty75 ty76 ty77 ty78 ty79 ty80 ty81 ty82 ty83 ty84 ty85 ty86 ty87 ty88 ty89 
end Go.Proofs.YtkgbngonbbajkaaE
