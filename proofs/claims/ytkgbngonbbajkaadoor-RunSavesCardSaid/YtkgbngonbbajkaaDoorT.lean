/- The types of the program, as the engine takes them. Its conditions: none. -/
import Derived.Test.YtkgbngonbbajkaaDoorE9
import Derived.Test.YtkgbngonbbajkaaDoorProg
import Derived.KernelRfl
set_option linter.unusedSimpArgs false
set_option linter.unusedVariables false
namespace Go.Proofs.YtkgbngonbbajkaaDoorE
open Go
theorem ty1 : ty Tryd.prog 1 = some ⟨.func, 1, 8, .nilf⟩ := by kernel_rfl
theorem ty2 : ty Tryd.prog 2 = some ⟨(.int .i64), 1, 8, (.int .i64 0)⟩ := by kernel_rfl
theorem ty3 : ty Tryd.prog 3 = some ⟨(.int .i64), 1, 8, (.int .i64 0)⟩ := by kernel_rfl
theorem ty4 : ty Tryd.prog 4 = some ⟨.bool, 1, 1, (.bool false)⟩ := by kernel_rfl
theorem ty5 : ty Tryd.prog 5 = some ⟨(.int .u8), 1, 1, (.int .u8 0)⟩ := by kernel_rfl
theorem ty6 : ty Tryd.prog 6 = some ⟨(.int .u8), 1, 1, (.int .u8 0)⟩ := by kernel_rfl
theorem ty7 : ty Tryd.prog 7 = some ⟨(.struct [(0, 1, 2), (1, 1, 3), (2, 1, 4), (3, 1, 6)]), 4, 24, (.agg ([(.int .i64 0), (.int .i64 0)] ++ [(.bool false)] ++ [(.int .u8 0)]))⟩ := by kernel_rfl
theorem ty8 : ty Tryd.prog 8 = some ⟨(.struct [(0, 1, 2), (1, 1, 3), (2, 1, 4), (3, 1, 6)]), 4, 24, (.agg ([(.int .i64 0), (.int .i64 0)] ++ [(.bool false)] ++ [(.int .u8 0)]))⟩ := by kernel_rfl
theorem ty9 : ty Tryd.prog 9 = some ⟨.str, 1, 16, (.str [])⟩ := by kernel_rfl
theorem ty10 : ty Tryd.prog 10 = some ⟨.str, 1, 16, (.str [])⟩ := by kernel_rfl
theorem ty11 : ty Tryd.prog 11 = some ⟨.str, 1, 16, (.str [])⟩ := by kernel_rfl
theorem ty12 : ty Tryd.prog 12 = some ⟨(.int .u64), 1, 8, (.int .u64 0)⟩ := by kernel_rfl
theorem ty13 : ty Tryd.prog 13 = some ⟨(.struct [(0, 1, 9), (1, 1, 12)]), 2, 24, (.agg ([(.str [])] ++ [(.int .u64 0)]))⟩ := by kernel_rfl
theorem ty14 : ty Tryd.prog 14 = some ⟨(.struct [(0, 1, 9), (1, 1, 12)]), 2, 24, (.agg ([(.str [])] ++ [(.int .u64 0)]))⟩ := by kernel_rfl
theorem ty15 : ty Tryd.prog 15 = some ⟨(.ptr 144), 1, 8, .nilp⟩ := by kernel_rfl
theorem ty16 : ty Tryd.prog 16 = some ⟨(.ptr 147), 1, 8, .nilp⟩ := by kernel_rfl
theorem ty17 : ty Tryd.prog 17 = some ⟨(.ptr 154), 1, 8, .nilp⟩ := by kernel_rfl
theorem ty18 : ty Tryd.prog 18 = some ⟨(.struct [(0, 1, 17)]), 1, 8, (.agg ([.nilp]))⟩ := by kernel_rfl
theorem ty19 : ty Tryd.prog 19 = some ⟨(.struct [(0, 1, 17)]), 1, 8, (.agg ([.nilp]))⟩ := by kernel_rfl
theorem ty20 : ty Tryd.prog 20 = some ⟨.iface, 1, 16, .nili⟩ := by kernel_rfl
theorem ty21 : ty Tryd.prog 21 = some ⟨(.int .i32), 1, 4, (.int .i32 0)⟩ := by kernel_rfl
theorem ty22 : ty Tryd.prog 22 = some ⟨(.slice 9 1), 1, 24, .nils⟩ := by kernel_rfl
theorem ty23 : ty Tryd.prog 23 = some ⟨.func, 1, 8, .nilf⟩ := by kernel_rfl
theorem ty24 : ty Tryd.prog 24 = some ⟨(.ptr 86), 1, 8, .nilp⟩ := by kernel_rfl
theorem ty25 : ty Tryd.prog 25 = some ⟨.func, 1, 8, .nilf⟩ := by kernel_rfl
theorem ty26 : ty Tryd.prog 26 = some ⟨(.slice 46 2), 1, 24, .nils⟩ := by kernel_rfl
theorem ty27 : ty Tryd.prog 27 = some ⟨(.int .i64), 1, 8, (.int .i64 0)⟩ := by kernel_rfl
theorem ty29 : ty Tryd.prog 29 = some ⟨.func, 1, 8, .nilf⟩ := by kernel_rfl
theorem ty30 : ty Tryd.prog 30 = some ⟨.func, 1, 8, .nilf⟩ := by kernel_rfl
theorem ty32 : ty Tryd.prog 32 = some ⟨.func, 1, 8, .nilf⟩ := by kernel_rfl
theorem ty33 : ty Tryd.prog 33 = some ⟨.func, 1, 8, .nilf⟩ := by kernel_rfl
theorem ty34 : ty Tryd.prog 34 = some ⟨.func, 1, 8, .nilf⟩ := by kernel_rfl
theorem ty35 : ty Tryd.prog 35 = some ⟨.func, 1, 8, .nilf⟩ := by kernel_rfl
theorem ty36 : ty Tryd.prog 36 = some ⟨.func, 1, 8, .nilf⟩ := by kernel_rfl
theorem ty37 : ty Tryd.prog 37 = some ⟨(.slice 3 1), 1, 24, .nils⟩ := by kernel_rfl
theorem ty39 : ty Tryd.prog 39 = some ⟨.func, 1, 8, .nilf⟩ := by kernel_rfl
theorem ty41 : ty Tryd.prog 41 = some ⟨.func, 1, 8, .nilf⟩ := by kernel_rfl
theorem ty42 : ty Tryd.prog 42 = some ⟨.func, 1, 8, .nilf⟩ := by kernel_rfl
theorem ty43 : ty Tryd.prog 43 = some ⟨.func, 1, 8, .nilf⟩ := by kernel_rfl
theorem ty44 : ty Tryd.prog 44 = some ⟨.func, 1, 8, .nilf⟩ := by kernel_rfl
theorem ty45 : ty Tryd.prog 45 = some ⟨(.struct [(0, 1, 9), (1, 1, 9)]), 2, 32, (.agg ([(.str []), (.str [])]))⟩ := by kernel_rfl
theorem ty46 : ty Tryd.prog 46 = some ⟨(.struct [(0, 1, 9), (1, 1, 9)]), 2, 32, (.agg ([(.str []), (.str [])]))⟩ := by kernel_rfl
theorem ty48 : ty Tryd.prog 48 = some ⟨.func, 1, 8, .nilf⟩ := by kernel_rfl
theorem ty49 : ty Tryd.prog 49 = some ⟨(.slice 5 1), 1, 24, .nils⟩ := by kernel_rfl
theorem ty50 : ty Tryd.prog 50 = some ⟨.func, 1, 8, .nilf⟩ := by kernel_rfl
theorem ty51 : ty Tryd.prog 51 = some ⟨.func, 1, 8, .nilf⟩ := by kernel_rfl
theorem ty52 : ty Tryd.prog 52 = some ⟨.func, 1, 8, .nilf⟩ := by kernel_rfl
theorem ty53 : ty Tryd.prog 53 = some ⟨(.ptr 55), 1, 8, .nilp⟩ := by kernel_rfl
theorem ty54 : ty Tryd.prog 54 = some ⟨(.struct [(0, 1, 53), (1, 1, 49)]), 2, 32, (.agg ([.nilp] ++ [.nils]))⟩ := by kernel_rfl
theorem ty55 : ty Tryd.prog 55 = some ⟨(.struct [(0, 1, 53), (1, 1, 49)]), 2, 32, (.agg ([.nilp] ++ [.nils]))⟩ := by kernel_rfl
theorem ty56 : ty Tryd.prog 56 = some ⟨.func, 1, 8, .nilf⟩ := by kernel_rfl
theorem ty57 : ty Tryd.prog 57 = some ⟨.func, 1, 8, .nilf⟩ := by kernel_rfl
theorem ty59 : ty Tryd.prog 59 = some ⟨.func, 1, 8, .nilf⟩ := by kernel_rfl
theorem ty60 : ty Tryd.prog 60 = some ⟨.func, 1, 8, .nilf⟩ := by kernel_rfl
theorem ty61 : ty Tryd.prog 61 = some ⟨.func, 1, 8, .nilf⟩ := by kernel_rfl
theorem ty62 : ty Tryd.prog 62 = some ⟨.iface, 1, 16, .nili⟩ := by kernel_rfl
theorem ty63 : ty Tryd.prog 63 = some ⟨.iface, 1, 16, .nili⟩ := by kernel_rfl
theorem ty65 : ty Tryd.prog 65 = some ⟨.func, 1, 8, .nilf⟩ := by kernel_rfl
theorem ty66 : ty Tryd.prog 66 = some ⟨.func, 1, 8, .nilf⟩ := by kernel_rfl
theorem ty67 : ty Tryd.prog 67 = some ⟨(.int .u64), 1, 8, (.int .u64 0)⟩ := by kernel_rfl
theorem ty69 : ty Tryd.prog 69 = some ⟨.func, 1, 8, .nilf⟩ := by kernel_rfl
theorem ty71 : ty Tryd.prog 71 = some ⟨.func, 1, 8, .nilf⟩ := by kernel_rfl
theorem ty72 : ty Tryd.prog 72 = some ⟨.func, 1, 8, .nilf⟩ := by kernel_rfl
theorem ty73 : ty Tryd.prog 73 = some ⟨.func, 1, 8, .nilf⟩ := by kernel_rfl
theorem ty74 : ty Tryd.prog 74 = some ⟨.func, 1, 8, .nilf⟩ := by kernel_rfl
theorem ty75 : ty Tryd.prog 75 = some ⟨.func, 1, 8, .nilf⟩ := by kernel_rfl
theorem ty76 : ty Tryd.prog 76 = some ⟨.func, 1, 8, .nilf⟩ := by kernel_rfl
theorem ty77 : ty Tryd.prog 77 = some ⟨.func, 1, 8, .nilf⟩ := by kernel_rfl
theorem ty78 : ty Tryd.prog 78 = some ⟨.func, 1, 8, .nilf⟩ := by kernel_rfl
theorem ty79 : ty Tryd.prog 79 = some ⟨.func, 1, 8, .nilf⟩ := by kernel_rfl
theorem ty80 : ty Tryd.prog 80 = some ⟨(.slice 83 256), 1, 24, .nils⟩ := by kernel_rfl
theorem ty81 : ty Tryd.prog 81 = some ⟨.func, 1, 8, .nilf⟩ := by kernel_rfl
theorem ty82 : ty Tryd.prog 82 = some ⟨(.arr 256 5 1), 256, 256, (.agg (List.replicate 256 (.int .u8 0)))⟩ := by kernel_rfl
theorem ty83 : ty Tryd.prog 83 = some ⟨(.arr 256 5 1), 256, 256, (.agg (List.replicate 256 (.int .u8 0)))⟩ := by kernel_rfl
theorem ty84 : ty Tryd.prog 84 = some ⟨(.slice 91 257), 1, 24, .nils⟩ := by kernel_rfl
theorem ty85 : ty Tryd.prog 85 = some ⟨(.struct [(0, 1, 80), (1, 1, 80), (2, 1, 84), (3, 1, 4), (4, 1, 4), (5, 1, 3)]), 6, 88, (.agg ([.nils, .nils, .nils] ++ [(.bool false), (.bool false)] ++ [(.int .i64 0)]))⟩ := by kernel_rfl
theorem ty86 : ty Tryd.prog 86 = some ⟨(.struct [(0, 1, 80), (1, 1, 80), (2, 1, 84), (3, 1, 4), (4, 1, 4), (5, 1, 3)]), 6, 88, (.agg ([.nils, .nils, .nils] ++ [(.bool false), (.bool false)] ++ [(.int .i64 0)]))⟩ := by kernel_rfl
theorem ty87 : ty Tryd.prog 87 = some ⟨.func, 1, 8, .nilf⟩ := by kernel_rfl
theorem ty88 : ty Tryd.prog 88 = some ⟨.func, 1, 8, .nilf⟩ := by kernel_rfl
theorem ty89 : ty Tryd.prog 89 = some ⟨.func, 1, 8, .nilf⟩ := by kernel_rfl
theorem ty90 : ty Tryd.prog 90 = some ⟨(.struct [(0, 1, 3), (1, 256, 83)]), 257, 264, (.agg ([(.int .i64 0)] ++ List.replicate 256 (.int .u8 0)))⟩ := by kernel_rfl
theorem ty91 : ty Tryd.prog 91 = some ⟨(.struct [(0, 1, 3), (1, 256, 83)]), 257, 264, (.agg ([(.int .i64 0)] ++ List.replicate 256 (.int .u8 0)))⟩ := by kernel_rfl
theorem ty92 : ty Tryd.prog 92 = some ⟨.func, 1, 8, .nilf⟩ := by kernel_rfl
theorem ty94 : ty Tryd.prog 94 = some ⟨.func, 1, 8, .nilf⟩ := by kernel_rfl
theorem ty95 : ty Tryd.prog 95 = some ⟨.func, 1, 8, .nilf⟩ := by kernel_rfl
theorem ty96 : ty Tryd.prog 96 = some ⟨(.ptr 5), 1, 8, .nilp⟩ := by kernel_rfl
theorem ty97 : ty Tryd.prog 97 = some ⟨(.int .u64), 1, 8, (.int .u64 0)⟩ := by kernel_rfl
theorem ty98 : ty Tryd.prog 98 = some ⟨.func, 1, 8, .nilf⟩ := by kernel_rfl
theorem ty99 : ty Tryd.prog 99 = some ⟨.func, 1, 8, .nilf⟩ := by kernel_rfl
theorem ty100 : ty Tryd.prog 100 = some ⟨.func, 1, 8, .nilf⟩ := by kernel_rfl
theorem ty101 : ty Tryd.prog 101 = some ⟨.func, 1, 8, .nilf⟩ := by kernel_rfl
theorem ty102 : ty Tryd.prog 102 = some ⟨.func, 1, 8, .nilf⟩ := by kernel_rfl
theorem ty103 : ty Tryd.prog 103 = some ⟨.func, 1, 8, .nilf⟩ := by kernel_rfl
theorem ty104 : ty Tryd.prog 104 = some ⟨.func, 1, 8, .nilf⟩ := by kernel_rfl
theorem ty105 : ty Tryd.prog 105 = some ⟨.func, 1, 8, .nilf⟩ := by kernel_rfl
theorem ty106 : ty Tryd.prog 106 = some ⟨.func, 1, 8, .nilf⟩ := by kernel_rfl
theorem ty107 : ty Tryd.prog 107 = some ⟨.func, 1, 8, .nilf⟩ := by kernel_rfl
theorem ty108 : ty Tryd.prog 108 = some ⟨.func, 1, 8, .nilf⟩ := by kernel_rfl
theorem ty109 : ty Tryd.prog 109 = some ⟨(.arr 256 4 1), 256, 256, (.agg (List.replicate 256 (.bool false)))⟩ := by kernel_rfl
theorem ty110 : ty Tryd.prog 110 = some ⟨(.arr 256 4 1), 256, 256, (.agg (List.replicate 256 (.bool false)))⟩ := by kernel_rfl
theorem ty112 : ty Tryd.prog 112 = some ⟨.func, 1, 8, .nilf⟩ := by kernel_rfl
theorem ty113 : ty Tryd.prog 113 = some ⟨.func, 1, 8, .nilf⟩ := by kernel_rfl
theorem ty114 : ty Tryd.prog 114 = some ⟨(.ptr 110), 1, 8, .nilp⟩ := by kernel_rfl
theorem ty115 : ty Tryd.prog 115 = some ⟨.func, 1, 8, .nilf⟩ := by kernel_rfl
theorem ty116 : ty Tryd.prog 116 = some ⟨.other, 1, 8, .nilp⟩ := by kernel_rfl
theorem ty117 : ty Tryd.prog 117 = some ⟨.func, 1, 8, .nilf⟩ := by kernel_rfl
theorem ty118 : ty Tryd.prog 118 = some ⟨.func, 1, 8, .nilf⟩ := by kernel_rfl
theorem ty120 : ty Tryd.prog 120 = some ⟨.func, 1, 8, .nilf⟩ := by kernel_rfl
theorem ty121 : ty Tryd.prog 121 = some ⟨.func, 1, 8, .nilf⟩ := by kernel_rfl
theorem ty122 : ty Tryd.prog 122 = some ⟨(.int .u32), 1, 4, (.int .u32 0)⟩ := by kernel_rfl
theorem ty123 : ty Tryd.prog 123 = some ⟨.func, 1, 8, .nilf⟩ := by kernel_rfl
theorem ty124 : ty Tryd.prog 124 = some ⟨(.slice 49 1), 1, 24, .nils⟩ := by kernel_rfl
theorem ty125 : ty Tryd.prog 125 = some ⟨.func, 1, 8, .nilf⟩ := by kernel_rfl
theorem ty126 : ty Tryd.prog 126 = some ⟨.func, 1, 8, .nilf⟩ := by kernel_rfl
theorem ty128 : ty Tryd.prog 128 = some ⟨.func, 1, 8, .nilf⟩ := by kernel_rfl
theorem ty129 : ty Tryd.prog 129 = some ⟨.func, 1, 8, .nilf⟩ := by kernel_rfl
theorem ty130 : ty Tryd.prog 130 = some ⟨.func, 1, 8, .nilf⟩ := by kernel_rfl
theorem ty132 : ty Tryd.prog 132 = some ⟨.func, 1, 8, .nilf⟩ := by kernel_rfl
theorem ty134 : ty Tryd.prog 134 = some ⟨.func, 1, 8, .nilf⟩ := by kernel_rfl
theorem ty135 : ty Tryd.prog 135 = some ⟨.func, 1, 8, .nilf⟩ := by kernel_rfl
theorem ty136 : ty Tryd.prog 136 = some ⟨.func, 1, 8, .nilf⟩ := by kernel_rfl
theorem ty137 : ty Tryd.prog 137 = some ⟨(.struct [(0, 1, 5), (1, 1, 5)]), 2, 2, (.agg ([(.int .u8 0), (.int .u8 0)]))⟩ := by kernel_rfl
theorem ty138 : ty Tryd.prog 138 = some ⟨(.struct [(0, 1, 5), (1, 1, 5)]), 2, 2, (.agg ([(.int .u8 0), (.int .u8 0)]))⟩ := by kernel_rfl
theorem ty139 : ty Tryd.prog 139 = some ⟨(.arr 16 138 2), 32, 32, (.agg (List.replicate 32 (.int .u8 0)))⟩ := by kernel_rfl
theorem ty140 : ty Tryd.prog 140 = some ⟨.func, 1, 8, .nilf⟩ := by kernel_rfl
theorem ty141 : ty Tryd.prog 141 = some ⟨.func, 1, 8, .nilf⟩ := by kernel_rfl
theorem ty142 : ty Tryd.prog 142 = some ⟨.func, 1, 8, .nilf⟩ := by kernel_rfl
theorem ty143 : ty Tryd.prog 143 = some ⟨(.struct [(0, 1, 17), (1, 1, 17), (2, 1, 17), (3, 1, 9)]), 4, 40, (.agg ([.nilp, .nilp, .nilp] ++ [(.str [])]))⟩ := by kernel_rfl
theorem ty144 : ty Tryd.prog 144 = some ⟨(.struct [(0, 1, 17), (1, 1, 17), (2, 1, 17), (3, 1, 9)]), 4, 40, (.agg ([.nilp, .nilp, .nilp] ++ [(.str [])]))⟩ := by kernel_rfl
theorem ty145 : ty Tryd.prog 145 = some ⟨(.arr 0 16 1), 0, 0, (.agg ([]))⟩ := by kernel_rfl
theorem ty146 : ty Tryd.prog 146 = some ⟨.other, 0, 0, (.agg ([]))⟩ := by kernel_rfl
theorem ty147 : ty Tryd.prog 147 = some ⟨.other, 0, 0, (.agg ([]))⟩ := by kernel_rfl
theorem ty148 : ty Tryd.prog 148 = some ⟨(.int .u8), 1, 1, (.int .u8 0)⟩ := by kernel_rfl
theorem ty149 : ty Tryd.prog 149 = some ⟨(.int .u8), 1, 1, (.int .u8 0)⟩ := by kernel_rfl
theorem ty150 : ty Tryd.prog 150 = some ⟨.func, 1, 8, .nilf⟩ := by kernel_rfl
theorem ty151 : ty Tryd.prog 151 = some ⟨(.int .i32), 1, 4, (.int .i32 0)⟩ := by kernel_rfl
theorem ty152 : ty Tryd.prog 152 = some ⟨(.int .i32), 1, 4, (.int .i32 0)⟩ := by kernel_rfl
theorem ty153 : ty Tryd.prog 153 = some ⟨(.struct [(0, 1, 12), (1, 1, 12), (2, 1, 122), (3, 1, 148), (4, 1, 5), (5, 1, 5), (6, 1, 149), (7, 1, 150), (8, 1, 96), (9, 1, 151), (10, 1, 152)]), 11, 48, (.agg ([(.int .u64 0), (.int .u64 0)] ++ [(.int .u32 0)] ++ List.replicate 4 (.int .u8 0) ++ [.nilf] ++ [.nilp] ++ [(.int .i32 0), (.int .i32 0)]))⟩ := by kernel_rfl
theorem ty154 : ty Tryd.prog 154 = some ⟨(.struct [(0, 1, 12), (1, 1, 12), (2, 1, 122), (3, 1, 148), (4, 1, 5), (5, 1, 5), (6, 1, 149), (7, 1, 150), (8, 1, 96), (9, 1, 151), (10, 1, 152)]), 11, 48, (.agg ([(.int .u64 0), (.int .u64 0)] ++ [(.int .u32 0)] ++ List.replicate 4 (.int .u8 0) ++ [.nilf] ++ [.nilp] ++ [(.int .i32 0), (.int .i32 0)]))⟩ := by kernel_rfl
attribute [go_sem] ty1 ty2 ty3 ty4 ty5 ty6 ty7 ty8 ty9 ty10 ty11 ty12 ty13 ty14 ty15 ty16 ty17 ty18 ty19 ty20 ty21 ty22 ty23 ty24 ty25 ty26 ty27 ty29 ty30 ty32 ty33 ty34 ty35 ty36 ty37 ty39 ty41 ty42 ty43 ty44 ty45 ty46 ty48 ty49 ty50 ty51 ty52 ty53 ty54 ty55 ty56 ty57 ty59 ty60 ty61 ty62 ty63 ty65 ty66 ty67 ty69 ty71 ty72 ty73 ty74 ty75 ty76 ty77 ty78 ty79 ty80 ty81 ty82 ty83 ty84 ty85 ty86 ty87 ty88 ty89 ty90 ty91 ty92 ty94 ty95 ty96 ty97 ty98 ty99 ty100 ty101 ty102 ty103 ty104 ty105 ty106 ty107 ty108 ty109 ty110 ty112 ty113 ty114 ty115 ty116 ty117 ty118 ty120 ty121 ty122 ty123 ty124 ty125 ty126 ty128 ty129 ty130 ty132 ty134 ty135 ty136 ty137 ty138 ty139 ty140 ty141 ty142 ty143 ty144 ty145 ty146 ty147 ty148 ty149 ty150 ty151 ty152 ty153 ty154 
end Go.Proofs.YtkgbngonbbajkaaDoorE
