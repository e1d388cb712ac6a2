/- The types of the program, as the engine takes them. Its conditions: none. -/
import Derived.Test.YtdbdnhphpbiaoaaDoorE9
import Derived.Test.YtdbdnhphpbiaoaaDoorProg
import Derived.KernelRfl
set_option linter.unusedSimpArgs false
set_option linter.unusedVariables false
namespace Go.Proofs.YtdbdnhphpbiaoaaDoorE
open Go
theorem ty1 : ty Tryd.prog 1 = some ⟨.func, 1, 8, .nilf⟩ := by kernel_rfl
theorem ty2 : ty Tryd.prog 2 = some ⟨(.int .i64), 1, 8, (.int .i64 0)⟩ := by kernel_rfl
theorem ty3 : ty Tryd.prog 3 = some ⟨(.int .i64), 1, 8, (.int .i64 0)⟩ := by kernel_rfl
theorem ty4 : ty Tryd.prog 4 = some ⟨.bool, 1, 1, (.bool false)⟩ := by kernel_rfl
theorem ty5 : ty Tryd.prog 5 = some ⟨(.int .u8), 1, 1, (.int .u8 0)⟩ := by kernel_rfl
theorem ty6 : ty Tryd.prog 6 = some ⟨(.int .u8), 1, 1, (.int .u8 0)⟩ := by kernel_rfl
theorem ty7 : ty Tryd.prog 7 = some ⟨(.struct [(0, 1, 2), (1, 1, 3), (2, 1, 4), (3, 1, 6)]), 4, 24, (.agg ([(.int .i64 0), (.int .i64 0)] ++ [(.bool false)] ++ [(.int .u8 0)]))⟩ := by kernel_rfl
theorem ty8 : ty Tryd.prog 8 = some ⟨(.struct [(0, 1, 2), (1, 1, 3), (2, 1, 4), (3, 1, 6)]), 4, 24, (.agg ([(.int .i64 0), (.int .i64 0)] ++ [(.bool false)] ++ [(.int .u8 0)]))⟩ := by kernel_rfl
theorem ty9 : ty Tryd.prog 9 = some ⟨.str, 1, 16, (.str [])⟩ := by kernel_rfl
theorem ty10 : ty Tryd.prog 10 = some ⟨.str, 1, 16, (.str [])⟩ := by kernel_rfl
theorem ty11 : ty Tryd.prog 11 = some ⟨.str, 1, 16, (.str [])⟩ := by kernel_rfl
theorem ty12 : ty Tryd.prog 12 = some ⟨(.int .u64), 1, 8, (.int .u64 0)⟩ := by kernel_rfl
theorem ty13 : ty Tryd.prog 13 = some ⟨(.struct [(0, 1, 9), (1, 1, 12)]), 2, 24, (.agg ([(.str [])] ++ [(.int .u64 0)]))⟩ := by kernel_rfl
theorem ty14 : ty Tryd.prog 14 = some ⟨(.struct [(0, 1, 9), (1, 1, 12)]), 2, 24, (.agg ([(.str [])] ++ [(.int .u64 0)]))⟩ := by kernel_rfl
theorem ty15 : ty Tryd.prog 15 = some ⟨(.ptr 184), 1, 8, .nilp⟩ := by kernel_rfl
theorem ty16 : ty Tryd.prog 16 = some ⟨(.ptr 187), 1, 8, .nilp⟩ := by kernel_rfl
theorem ty17 : ty Tryd.prog 17 = some ⟨(.ptr 195), 1, 8, .nilp⟩ := by kernel_rfl
theorem ty18 : ty Tryd.prog 18 = some ⟨(.struct [(0, 1, 17)]), 1, 8, (.agg ([.nilp]))⟩ := by kernel_rfl
theorem ty19 : ty Tryd.prog 19 = some ⟨(.struct [(0, 1, 17)]), 1, 8, (.agg ([.nilp]))⟩ := by kernel_rfl
theorem ty20 : ty Tryd.prog 20 = some ⟨.iface, 1, 16, .nili⟩ := by kernel_rfl
theorem ty21 : ty Tryd.prog 21 = some ⟨(.int .i32), 1, 4, (.int .i32 0)⟩ := by kernel_rfl
theorem ty22 : ty Tryd.prog 22 = some ⟨(.slice 24 2), 1, 24, .nils⟩ := by kernel_rfl
theorem ty23 : ty Tryd.prog 23 = some ⟨(.struct [(0, 1, 4), (1, 1, 22)]), 2, 32, (.agg ([(.bool false)] ++ [.nils]))⟩ := by kernel_rfl
theorem ty24 : ty Tryd.prog 24 = some ⟨(.struct [(0, 1, 4), (1, 1, 22)]), 2, 32, (.agg ([(.bool false)] ++ [.nils]))⟩ := by kernel_rfl
theorem ty25 : ty Tryd.prog 25 = some ⟨(.slice 27 2), 1, 24, .nils⟩ := by kernel_rfl
theorem ty26 : ty Tryd.prog 26 = some ⟨(.struct [(0, 1, 2), (1, 1, 25)]), 2, 32, (.agg ([(.int .i64 0)] ++ [.nils]))⟩ := by kernel_rfl
theorem ty27 : ty Tryd.prog 27 = some ⟨(.struct [(0, 1, 2), (1, 1, 25)]), 2, 32, (.agg ([(.int .i64 0)] ++ [.nils]))⟩ := by kernel_rfl
theorem ty28 : ty Tryd.prog 28 = some ⟨(.struct [(0, 2, 24), (2, 2, 27)]), 4, 64, (.agg ([(.bool false)] ++ [.nils] ++ [(.int .i64 0)] ++ [.nils]))⟩ := by kernel_rfl
theorem ty29 : ty Tryd.prog 29 = some ⟨(.struct [(0, 2, 24), (2, 2, 27)]), 4, 64, (.agg ([(.bool false)] ++ [.nils] ++ [(.int .i64 0)] ++ [.nils]))⟩ := by kernel_rfl
theorem ty30 : ty Tryd.prog 30 = some ⟨.func, 1, 8, .nilf⟩ := by kernel_rfl
theorem ty31 : ty Tryd.prog 31 = some ⟨(.int .i64), 1, 8, (.int .i64 0)⟩ := by kernel_rfl
theorem ty33 : ty Tryd.prog 33 = some ⟨.func, 1, 8, .nilf⟩ := by kernel_rfl
theorem ty34 : ty Tryd.prog 34 = some ⟨.func, 1, 8, .nilf⟩ := by kernel_rfl
theorem ty35 : ty Tryd.prog 35 = some ⟨.func, 1, 8, .nilf⟩ := by kernel_rfl
theorem ty37 : ty Tryd.prog 37 = some ⟨.func, 1, 8, .nilf⟩ := by kernel_rfl
theorem ty38 : ty Tryd.prog 38 = some ⟨.func, 1, 8, .nilf⟩ := by kernel_rfl
theorem ty39 : ty Tryd.prog 39 = some ⟨.func, 1, 8, .nilf⟩ := by kernel_rfl
theorem ty40 : ty Tryd.prog 40 = some ⟨.func, 1, 8, .nilf⟩ := by kernel_rfl
theorem ty41 : ty Tryd.prog 41 = some ⟨.func, 1, 8, .nilf⟩ := by kernel_rfl
theorem ty42 : ty Tryd.prog 42 = some ⟨(.slice 50 3), 1, 24, .nils⟩ := by kernel_rfl
theorem ty43 : ty Tryd.prog 43 = some ⟨(.ptr 47), 1, 8, .nilp⟩ := by kernel_rfl
theorem ty44 : ty Tryd.prog 44 = some ⟨(.slice 29 4), 1, 24, .nils⟩ := by kernel_rfl
theorem ty45 : ty Tryd.prog 45 = some ⟨(.slice 81 1), 1, 24, .nils⟩ := by kernel_rfl
theorem ty46 : ty Tryd.prog 46 = some ⟨(.struct [(0, 1, 44), (1, 1, 45), (2, 1, 3)]), 3, 56, (.agg ([.nils, .nils] ++ [(.int .i64 0)]))⟩ := by kernel_rfl
theorem ty47 : ty Tryd.prog 47 = some ⟨(.struct [(0, 1, 44), (1, 1, 45), (2, 1, 3)]), 3, 56, (.agg ([.nils, .nils] ++ [(.int .i64 0)]))⟩ := by kernel_rfl
theorem ty48 : ty Tryd.prog 48 = some ⟨.func, 1, 8, .nilf⟩ := by kernel_rfl
theorem ty49 : ty Tryd.prog 49 = some ⟨(.struct [(0, 1, 3), (1, 1, 3), (2, 1, 3)]), 3, 24, (.agg ([(.int .i64 0), (.int .i64 0), (.int .i64 0)]))⟩ := by kernel_rfl
theorem ty50 : ty Tryd.prog 50 = some ⟨(.struct [(0, 1, 3), (1, 1, 3), (2, 1, 3)]), 3, 24, (.agg ([(.int .i64 0), (.int .i64 0), (.int .i64 0)]))⟩ := by kernel_rfl
theorem ty51 : ty Tryd.prog 51 = some ⟨.func, 1, 8, .nilf⟩ := by kernel_rfl
theorem ty52 : ty Tryd.prog 52 = some ⟨.func, 1, 8, .nilf⟩ := by kernel_rfl
theorem ty54 : ty Tryd.prog 54 = some ⟨.func, 1, 8, .nilf⟩ := by kernel_rfl
theorem ty55 : ty Tryd.prog 55 = some ⟨.func, 1, 8, .nilf⟩ := by kernel_rfl
theorem ty56 : ty Tryd.prog 56 = some ⟨.func, 1, 8, .nilf⟩ := by kernel_rfl
theorem ty57 : ty Tryd.prog 57 = some ⟨.func, 1, 8, .nilf⟩ := by kernel_rfl
theorem ty58 : ty Tryd.prog 58 = some ⟨.func, 1, 8, .nilf⟩ := by kernel_rfl
theorem ty59 : ty Tryd.prog 59 = some ⟨(.arr 2 3 1), 2, 16, (.agg ([(.int .i64 0), (.int .i64 0)]))⟩ := by kernel_rfl
theorem ty60 : ty Tryd.prog 60 = some ⟨(.arr 2 3 1), 2, 16, (.agg ([(.int .i64 0), (.int .i64 0)]))⟩ := by kernel_rfl
theorem ty62 : ty Tryd.prog 62 = some ⟨.func, 1, 8, .nilf⟩ := by kernel_rfl
theorem ty64 : ty Tryd.prog 64 = some ⟨.func, 1, 8, .nilf⟩ := by kernel_rfl
theorem ty65 : ty Tryd.prog 65 = some ⟨.func, 1, 8, .nilf⟩ := by kernel_rfl
theorem ty66 : ty Tryd.prog 66 = some ⟨.func, 1, 8, .nilf⟩ := by kernel_rfl
theorem ty68 : ty Tryd.prog 68 = some ⟨.func, 1, 8, .nilf⟩ := by kernel_rfl
theorem ty70 : ty Tryd.prog 70 = some ⟨.func, 1, 8, .nilf⟩ := by kernel_rfl
theorem ty71 : ty Tryd.prog 71 = some ⟨.func, 1, 8, .nilf⟩ := by kernel_rfl
theorem ty73 : ty Tryd.prog 73 = some ⟨.func, 1, 8, .nilf⟩ := by kernel_rfl
theorem ty74 : ty Tryd.prog 74 = some ⟨.func, 1, 8, .nilf⟩ := by kernel_rfl
theorem ty75 : ty Tryd.prog 75 = some ⟨.func, 1, 8, .nilf⟩ := by kernel_rfl
theorem ty76 : ty Tryd.prog 76 = some ⟨.func, 1, 8, .nilf⟩ := by kernel_rfl
theorem ty77 : ty Tryd.prog 77 = some ⟨.func, 1, 8, .nilf⟩ := by kernel_rfl
theorem ty78 : ty Tryd.prog 78 = some ⟨.func, 1, 8, .nilf⟩ := by kernel_rfl
theorem ty79 : ty Tryd.prog 79 = some ⟨.func, 1, 8, .nilf⟩ := by kernel_rfl
theorem ty80 : ty Tryd.prog 80 = some ⟨.func, 1, 8, .nilf⟩ := by kernel_rfl
theorem ty81 : ty Tryd.prog 81 = some ⟨(.slice 4 1), 1, 24, .nils⟩ := by kernel_rfl
theorem ty82 : ty Tryd.prog 82 = some ⟨.func, 1, 8, .nilf⟩ := by kernel_rfl
theorem ty83 : ty Tryd.prog 83 = some ⟨(.int .u64), 1, 8, (.int .u64 0)⟩ := by kernel_rfl
theorem ty85 : ty Tryd.prog 85 = some ⟨.func, 1, 8, .nilf⟩ := by kernel_rfl
theorem ty86 : ty Tryd.prog 86 = some ⟨(.slice 5 1), 1, 24, .nils⟩ := by kernel_rfl
theorem ty87 : ty Tryd.prog 87 = some ⟨.func, 1, 8, .nilf⟩ := by kernel_rfl
theorem ty89 : ty Tryd.prog 89 = some ⟨.func, 1, 8, .nilf⟩ := by kernel_rfl
theorem ty91 : ty Tryd.prog 91 = some ⟨.func, 1, 8, .nilf⟩ := by kernel_rfl
theorem ty93 : ty Tryd.prog 93 = some ⟨.func, 1, 8, .nilf⟩ := by kernel_rfl
theorem ty94 : ty Tryd.prog 94 = some ⟨.func, 1, 8, .nilf⟩ := by kernel_rfl
theorem ty95 : ty Tryd.prog 95 = some ⟨.func, 1, 8, .nilf⟩ := by kernel_rfl
theorem ty96 : ty Tryd.prog 96 = some ⟨.func, 1, 8, .nilf⟩ := by kernel_rfl
theorem ty97 : ty Tryd.prog 97 = some ⟨.func, 1, 8, .nilf⟩ := by kernel_rfl
theorem ty99 : ty Tryd.prog 99 = some ⟨.func, 1, 8, .nilf⟩ := by kernel_rfl
theorem ty100 : ty Tryd.prog 100 = some ⟨.func, 1, 8, .nilf⟩ := by kernel_rfl
theorem ty101 : ty Tryd.prog 101 = some ⟨.func, 1, 8, .nilf⟩ := by kernel_rfl
theorem ty102 : ty Tryd.prog 102 = some ⟨.func, 1, 8, .nilf⟩ := by kernel_rfl
theorem ty103 : ty Tryd.prog 103 = some ⟨.func, 1, 8, .nilf⟩ := by kernel_rfl
theorem ty104 : ty Tryd.prog 104 = some ⟨(.slice 154 2), 1, 24, .nils⟩ := by kernel_rfl
theorem ty105 : ty Tryd.prog 105 = some ⟨.func, 1, 8, .nilf⟩ := by kernel_rfl
theorem ty107 : ty Tryd.prog 107 = some ⟨.func, 1, 8, .nilf⟩ := by kernel_rfl
theorem ty108 : ty Tryd.prog 108 = some ⟨.func, 1, 8, .nilf⟩ := by kernel_rfl
theorem ty109 : ty Tryd.prog 109 = some ⟨.func, 1, 8, .nilf⟩ := by kernel_rfl
theorem ty110 : ty Tryd.prog 110 = some ⟨.func, 1, 8, .nilf⟩ := by kernel_rfl
theorem ty111 : ty Tryd.prog 111 = some ⟨.func, 1, 8, .nilf⟩ := by kernel_rfl
theorem ty112 : ty Tryd.prog 112 = some ⟨.func, 1, 8, .nilf⟩ := by kernel_rfl
theorem ty114 : ty Tryd.prog 114 = some ⟨.func, 1, 8, .nilf⟩ := by kernel_rfl
theorem ty115 : ty Tryd.prog 115 = some ⟨(.slice 152 2), 1, 24, .nils⟩ := by kernel_rfl
theorem ty116 : ty Tryd.prog 116 = some ⟨.func, 1, 8, .nilf⟩ := by kernel_rfl
theorem ty117 : ty Tryd.prog 117 = some ⟨.func, 1, 8, .nilf⟩ := by kernel_rfl
theorem ty118 : ty Tryd.prog 118 = some ⟨.func, 1, 8, .nilf⟩ := by kernel_rfl
theorem ty120 : ty Tryd.prog 120 = some ⟨.func, 1, 8, .nilf⟩ := by kernel_rfl
theorem ty121 : ty Tryd.prog 121 = some ⟨.func, 1, 8, .nilf⟩ := by kernel_rfl
theorem ty122 : ty Tryd.prog 122 = some ⟨.func, 1, 8, .nilf⟩ := by kernel_rfl
theorem ty123 : ty Tryd.prog 123 = some ⟨.func, 1, 8, .nilf⟩ := by kernel_rfl
theorem ty124 : ty Tryd.prog 124 = some ⟨(.struct [(0, 1, 3), (1, 1, 2)]), 2, 16, (.agg ([(.int .i64 0), (.int .i64 0)]))⟩ := by kernel_rfl
theorem ty125 : ty Tryd.prog 125 = some ⟨(.struct [(0, 1, 3), (1, 1, 2)]), 2, 16, (.agg ([(.int .i64 0), (.int .i64 0)]))⟩ := by kernel_rfl
theorem ty126 : ty Tryd.prog 126 = some ⟨.func, 1, 8, .nilf⟩ := by kernel_rfl
theorem ty127 : ty Tryd.prog 127 = some ⟨.func, 1, 8, .nilf⟩ := by kernel_rfl
theorem ty128 : ty Tryd.prog 128 = some ⟨.func, 1, 8, .nilf⟩ := by kernel_rfl
theorem ty129 : ty Tryd.prog 129 = some ⟨(.int .u64), 1, 8, (.int .u64 0)⟩ := by kernel_rfl
theorem ty130 : ty Tryd.prog 130 = some ⟨.func, 1, 8, .nilf⟩ := by kernel_rfl
theorem ty132 : ty Tryd.prog 132 = some ⟨.func, 1, 8, .nilf⟩ := by kernel_rfl
theorem ty133 : ty Tryd.prog 133 = some ⟨.func, 1, 8, .nilf⟩ := by kernel_rfl
theorem ty134 : ty Tryd.prog 134 = some ⟨.func, 1, 8, .nilf⟩ := by kernel_rfl
theorem ty135 : ty Tryd.prog 135 = some ⟨.func, 1, 8, .nilf⟩ := by kernel_rfl
theorem ty136 : ty Tryd.prog 136 = some ⟨.func, 1, 8, .nilf⟩ := by kernel_rfl
theorem ty137 : ty Tryd.prog 137 = some ⟨.func, 1, 8, .nilf⟩ := by kernel_rfl
theorem ty138 : ty Tryd.prog 138 = some ⟨.func, 1, 8, .nilf⟩ := by kernel_rfl
theorem ty139 : ty Tryd.prog 139 = some ⟨.func, 1, 8, .nilf⟩ := by kernel_rfl
theorem ty140 : ty Tryd.prog 140 = some ⟨.func, 1, 8, .nilf⟩ := by kernel_rfl
theorem ty141 : ty Tryd.prog 141 = some ⟨.func, 1, 8, .nilf⟩ := by kernel_rfl
theorem ty142 : ty Tryd.prog 142 = some ⟨.func, 1, 8, .nilf⟩ := by kernel_rfl
theorem ty143 : ty Tryd.prog 143 = some ⟨.func, 1, 8, .nilf⟩ := by kernel_rfl
theorem ty144 : ty Tryd.prog 144 = some ⟨.func, 1, 8, .nilf⟩ := by kernel_rfl
theorem ty145 : ty Tryd.prog 145 = some ⟨.func, 1, 8, .nilf⟩ := by kernel_rfl
theorem ty146 : ty Tryd.prog 146 = some ⟨.func, 1, 8, .nilf⟩ := by kernel_rfl
theorem ty148 : ty Tryd.prog 148 = some ⟨.func, 1, 8, .nilf⟩ := by kernel_rfl
theorem ty149 : ty Tryd.prog 149 = some ⟨.func, 1, 8, .nilf⟩ := by kernel_rfl
theorem ty150 : ty Tryd.prog 150 = some ⟨.func, 1, 8, .nilf⟩ := by kernel_rfl
theorem ty151 : ty Tryd.prog 151 = some ⟨(.struct [(0, 1, 83), (1, 1, 83)]), 2, 16, (.agg ([(.int .u64 0), (.int .u64 0)]))⟩ := by kernel_rfl
theorem ty152 : ty Tryd.prog 152 = some ⟨(.struct [(0, 1, 83), (1, 1, 83)]), 2, 16, (.agg ([(.int .u64 0), (.int .u64 0)]))⟩ := by kernel_rfl
theorem ty153 : ty Tryd.prog 153 = some ⟨(.struct [(0, 1, 83), (1, 1, 2)]), 2, 16, (.agg ([(.int .u64 0)] ++ [(.int .i64 0)]))⟩ := by kernel_rfl
theorem ty154 : ty Tryd.prog 154 = some ⟨(.struct [(0, 1, 83), (1, 1, 2)]), 2, 16, (.agg ([(.int .u64 0)] ++ [(.int .i64 0)]))⟩ := by kernel_rfl
theorem ty155 : ty Tryd.prog 155 = some ⟨.func, 1, 8, .nilf⟩ := by kernel_rfl
theorem ty157 : ty Tryd.prog 157 = some ⟨.func, 1, 8, .nilf⟩ := by kernel_rfl
theorem ty158 : ty Tryd.prog 158 = some ⟨.func, 1, 8, .nilf⟩ := by kernel_rfl
theorem ty159 : ty Tryd.prog 159 = some ⟨(.struct [(0, 1, 86), (1, 1, 3)]), 2, 32, (.agg ([.nils] ++ [(.int .i64 0)]))⟩ := by kernel_rfl
theorem ty160 : ty Tryd.prog 160 = some ⟨(.struct [(0, 1, 86), (1, 1, 3)]), 2, 32, (.agg ([.nils] ++ [(.int .i64 0)]))⟩ := by kernel_rfl
theorem ty161 : ty Tryd.prog 161 = some ⟨.func, 1, 8, .nilf⟩ := by kernel_rfl
theorem ty162 : ty Tryd.prog 162 = some ⟨.func, 1, 8, .nilf⟩ := by kernel_rfl
theorem ty163 : ty Tryd.prog 163 = some ⟨(.ptr 160), 1, 8, .nilp⟩ := by kernel_rfl
theorem ty164 : ty Tryd.prog 164 = some ⟨.func, 1, 8, .nilf⟩ := by kernel_rfl
theorem ty165 : ty Tryd.prog 165 = some ⟨.func, 1, 8, .nilf⟩ := by kernel_rfl
theorem ty166 : ty Tryd.prog 166 = some ⟨.func, 1, 8, .nilf⟩ := by kernel_rfl
theorem ty167 : ty Tryd.prog 167 = some ⟨.func, 1, 8, .nilf⟩ := by kernel_rfl
theorem ty168 : ty Tryd.prog 168 = some ⟨(.arr 24 5 1), 24, 24, (.agg (List.replicate 24 (.int .u8 0)))⟩ := by kernel_rfl
theorem ty169 : ty Tryd.prog 169 = some ⟨.func, 1, 8, .nilf⟩ := by kernel_rfl
theorem ty171 : ty Tryd.prog 171 = some ⟨.func, 1, 8, .nilf⟩ := by kernel_rfl
theorem ty172 : ty Tryd.prog 172 = some ⟨.func, 1, 8, .nilf⟩ := by kernel_rfl
theorem ty173 : ty Tryd.prog 173 = some ⟨.func, 1, 8, .nilf⟩ := by kernel_rfl
theorem ty174 : ty Tryd.prog 174 = some ⟨.func, 1, 8, .nilf⟩ := by kernel_rfl
theorem ty175 : ty Tryd.prog 175 = some ⟨(.arr 20 83 1), 20, 160, (.agg (List.replicate 20 (.int .u64 0)))⟩ := by kernel_rfl
theorem ty176 : ty Tryd.prog 176 = some ⟨(.int .u32), 1, 4, (.int .u32 0)⟩ := by kernel_rfl
theorem ty177 : ty Tryd.prog 177 = some ⟨(.arr 65 5 1), 65, 65, (.agg (List.replicate 65 (.int .u8 0)))⟩ := by kernel_rfl
theorem ty178 : ty Tryd.prog 178 = some ⟨.func, 1, 8, .nilf⟩ := by kernel_rfl
theorem ty179 : ty Tryd.prog 179 = some ⟨.func, 1, 8, .nilf⟩ := by kernel_rfl
theorem ty180 : ty Tryd.prog 180 = some ⟨(.arr 32 5 1), 32, 32, (.agg (List.replicate 32 (.int .u8 0)))⟩ := by kernel_rfl
theorem ty181 : ty Tryd.prog 181 = some ⟨(.arr 64 5 1), 64, 64, (.agg (List.replicate 64 (.int .u8 0)))⟩ := by kernel_rfl
theorem ty182 : ty Tryd.prog 182 = some ⟨.func, 1, 8, .nilf⟩ := by kernel_rfl
theorem ty183 : ty Tryd.prog 183 = some ⟨(.struct [(0, 1, 17), (1, 1, 17), (2, 1, 17), (3, 1, 9)]), 4, 40, (.agg ([.nilp, .nilp, .nilp] ++ [(.str [])]))⟩ := by kernel_rfl
theorem ty184 : ty Tryd.prog 184 = some ⟨(.struct [(0, 1, 17), (1, 1, 17), (2, 1, 17), (3, 1, 9)]), 4, 40, (.agg ([.nilp, .nilp, .nilp] ++ [(.str [])]))⟩ := by kernel_rfl
theorem ty185 : ty Tryd.prog 185 = some ⟨(.arr 0 16 1), 0, 0, (.agg ([]))⟩ := by kernel_rfl
theorem ty186 : ty Tryd.prog 186 = some ⟨.other, 0, 0, (.agg ([]))⟩ := by kernel_rfl
theorem ty187 : ty Tryd.prog 187 = some ⟨.other, 0, 0, (.agg ([]))⟩ := by kernel_rfl
theorem ty188 : ty Tryd.prog 188 = some ⟨(.int .u8), 1, 1, (.int .u8 0)⟩ := by kernel_rfl
theorem ty189 : ty Tryd.prog 189 = some ⟨(.int .u8), 1, 1, (.int .u8 0)⟩ := by kernel_rfl
theorem ty190 : ty Tryd.prog 190 = some ⟨.func, 1, 8, .nilf⟩ := by kernel_rfl
theorem ty191 : ty Tryd.prog 191 = some ⟨(.ptr 5), 1, 8, .nilp⟩ := by kernel_rfl
theorem ty192 : ty Tryd.prog 192 = some ⟨(.int .i32), 1, 4, (.int .i32 0)⟩ := by kernel_rfl
theorem ty193 : ty Tryd.prog 193 = some ⟨(.int .i32), 1, 4, (.int .i32 0)⟩ := by kernel_rfl
theorem ty194 : ty Tryd.prog 194 = some ⟨(.struct [(0, 1, 12), (1, 1, 12), (2, 1, 176), (3, 1, 188), (4, 1, 5), (5, 1, 5), (6, 1, 189), (7, 1, 190), (8, 1, 191), (9, 1, 192), (10, 1, 193)]), 11, 48, (.agg ([(.int .u64 0), (.int .u64 0)] ++ [(.int .u32 0)] ++ List.replicate 4 (.int .u8 0) ++ [.nilf] ++ [.nilp] ++ [(.int .i32 0), (.int .i32 0)]))⟩ := by kernel_rfl
theorem ty195 : ty Tryd.prog 195 = some ⟨(.struct [(0, 1, 12), (1, 1, 12), (2, 1, 176), (3, 1, 188), (4, 1, 5), (5, 1, 5), (6, 1, 189), (7, 1, 190), (8, 1, 191), (9, 1, 192), (10, 1, 193)]), 11, 48, (.agg ([(.int .u64 0), (.int .u64 0)] ++ [(.int .u32 0)] ++ List.replicate 4 (.int .u8 0) ++ [.nilf] ++ [.nilp] ++ [(.int .i32 0), (.int .i32 0)]))⟩ := by kernel_rfl
theorem ty196 : ty Tryd.prog 196 = some ⟨.other, 1, 8, .nilp⟩ := by kernel_rfl
attribute [go_sem] ty1 ty2 ty3 ty4 ty5 ty6 ty7 ty8 ty9 ty10 ty11 ty12 ty13 ty14 ty15 ty16 ty17 ty18 ty19 ty20 ty21 ty22 ty23 ty24 ty25 ty26 ty27 ty28 ty29 ty30 ty31 ty33 ty34 ty35 ty37 ty38 ty39 ty40 ty41 ty42 ty43 ty44 ty45 ty46 ty47 ty48 ty49 ty50 ty51 ty52 ty54 ty55 ty56 ty57 ty58 ty59 ty60 ty62 ty64 ty65 ty66 ty68 ty70 ty71 ty73 ty74 ty75 ty76 ty77 ty78 ty79 ty80 ty81 ty82 ty83 ty85 ty86 ty87 ty89 ty91 ty93 ty94 ty95 ty96 ty97 ty99 ty100 ty101 ty102 ty103 ty104 ty105 ty107 ty108 ty109 ty110 ty111 ty112 ty114 ty115 ty116 ty117 ty118 ty120 ty121 ty122 ty123 ty124 ty125 ty126 ty127 ty128 ty129 ty130 ty132 ty133 ty134 ty135 ty136 ty137 ty138 ty139 ty140 ty141 ty142 ty143 ty144 ty145 ty146 ty148 ty149 ty150 ty151 ty152 ty153 ty154 ty155 ty157 ty158 ty159 ty160 ty161 ty162 ty163 ty164 ty165 ty166 ty167 ty168 ty169 ty171 ty172 ty173 ty174 ty175 ty176 ty177 ty178 ty179 ty180 ty181 ty182 ty183 ty184 ty185 ty186 ty187 ty188 ty189 ty190 ty191 ty192 ty193 ty194 ty195 ty196 
end Go.Proofs.YtdbdnhphpbiaoaaDoorE
