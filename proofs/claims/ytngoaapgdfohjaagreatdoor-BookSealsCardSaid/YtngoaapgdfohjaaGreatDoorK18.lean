/- Own text. -/
import Derived.Test.YtngoaapgdfohjaaGreatDoorY12
import Derived.Test.YtngoaapgdfohjaaGreatDoorProg
import Derived.Test.YtngoaapgdfohjaaGreatDoorX40
import Derived.OwnWalkIn
import Derived.TacticsInMore
import Derived.LoopNIn
import Derived.LoopIn
import Derived.Maps.AppendAt
import Derived.Shelf.RegionOpen
set_option linter.unusedVariables false
set_option linter.unusedSimpArgs false
set_option maxRecDepth 100000
namespace Go.Proofs.YtngoaapgdfohjaaGreatDoor.TK
open Go Go.Proofs.YtngoaapgdfohjaaGreatDoor.X Go.Proofs
def tb : Tb := { fo := [(23, 0, 0), (23, 1, 1), (26, 0, 0), (26, 1, 2), (26, 2, 3), (42, 0, 0), (42, 1, 1), (42, 2, 2), (50, 0, 0), (50, 1, 10), (50, 2, 11), (50, 3, 12), (50, 4, 13), (54, 0, 0), (54, 1, 14), (54, 2, 15), (54, 3, 16), (59, 0, 0), (59, 1, 1), (70, 0, 0), (70, 1, 1), (70, 2, 4), (82, 0, 0), (82, 1, 1), (85, 0, 0), (85, 1, 1), (152, 0, 0), (152, 1, 1), (159, 0, 0), (159, 1, 1), (159, 2, 2), (159, 3, 3), (196, 0, 0), (196, 1, 1), (209, 0, 0), (209, 1, 8), (209, 2, 72)], sc := [2, 3, 4, 5, 9, 24, 27, 30, 31, 51, 52, 104, 149, 179, 183, 194, 229], ag := [(23, 2), (42, 3), (48, 10), (50, 14), (54, 17), (59, 2), (70, 7), (82, 2), (85, 2), (97, 32), (135, 4), (150, 64), (154, 1), (159, 4), (181, 5), (196, 2), (207, 8), (209, 73), (213, 8), (238, 64), (241, 64)], st := [9], ar := [(48, 5, 2), (97, 32, 1), (150, 64, 1), (154, 1, 1), (155, 9, 1), (181, 5, 1), (207, 8, 1), (213, 8, 1), (238, 64, 1), (241, 64, 1)], sl := [(24, 5, 1), (27, 42, 3), (30, 70, 7), (51, 85, 2), (52, 82, 2), (104, 9, 1), (120, 24, 1), (189, 196, 2), (191, 4, 1), (218, 3, 1)], ap := [(24, 5, 1, 1), (27, 42, 3, 32), (30, 70, 7, 72), (51, 85, 2, 16), (52, 82, 2, 24), (104, 9, 1, 16), (189, 196, 2, 24), (191, 4, 1, 1)] }
instance : HasTb Tryz.prog tb := ⟨by kernel_rfl⟩
instance : Mix Tryz.prog := ⟨by kernel_rfl⟩
instance : IxV Tryz.prog 181 5 := ⟨9, by kernel_rfl, by kernel_rfl, by kernel_rfl⟩
instance : IxV Tryz.prog 207 8 := ⟨183, by kernel_rfl, by kernel_rfl, by kernel_rfl⟩
instance : GoF Tryz.prog 10 := ⟨by kernel_rfl⟩
instance : GoF Tryz.prog 11 := ⟨by kernel_rfl⟩
instance : GoF Tryz.prog 12 := ⟨by kernel_rfl⟩
instance : GoF Tryz.prog 13 := ⟨by kernel_rfl⟩
instance : GoF Tryz.prog 14 := ⟨by kernel_rfl⟩
instance : GoF Tryz.prog 15 := ⟨by kernel_rfl⟩
instance : GoF Tryz.prog 16 := ⟨by kernel_rfl⟩
instance : GoF Tryz.prog 17 := ⟨by kernel_rfl⟩
instance : GoF Tryz.prog 18 := ⟨by kernel_rfl⟩
instance : GoF Tryz.prog 19 := ⟨by kernel_rfl⟩
instance : GoF Tryz.prog 20 := ⟨by kernel_rfl⟩
instance : GoF Tryz.prog 21 := ⟨by kernel_rfl⟩
instance : GoF Tryz.prog 22 := ⟨by kernel_rfl⟩
instance : GoF Tryz.prog 23 := ⟨by kernel_rfl⟩
instance : GoF Tryz.prog 24 := ⟨by kernel_rfl⟩
instance : GoF Tryz.prog 25 := ⟨by kernel_rfl⟩
instance : GoF Tryz.prog 26 := ⟨by kernel_rfl⟩
instance : GoF Tryz.prog 27 := ⟨by kernel_rfl⟩
instance : GoF Tryz.prog 28 := ⟨by kernel_rfl⟩
instance : GoF Tryz.prog 29 := ⟨by kernel_rfl⟩
instance : GoF Tryz.prog 30 := ⟨by kernel_rfl⟩
instance : GoF Tryz.prog 31 := ⟨by kernel_rfl⟩
instance : GoF Tryz.prog 32 := ⟨by kernel_rfl⟩
instance : GoF Tryz.prog 33 := ⟨by kernel_rfl⟩
instance : GoF Tryz.prog 34 := ⟨by kernel_rfl⟩
instance : GoF Tryz.prog 35 := ⟨by kernel_rfl⟩
instance : GoF Tryz.prog 36 := ⟨by kernel_rfl⟩
instance : GoF Tryz.prog 37 := ⟨by kernel_rfl⟩
instance : GoF Tryz.prog 38 := ⟨by kernel_rfl⟩
instance : GoF Tryz.prog 39 := ⟨by kernel_rfl⟩
instance : GoF Tryz.prog 40 := ⟨by kernel_rfl⟩
instance : GoF Tryz.prog 41 := ⟨by kernel_rfl⟩
instance : GoF Tryz.prog 42 := ⟨by kernel_rfl⟩
instance : GoF Tryz.prog 43 := ⟨by kernel_rfl⟩
instance : GoF Tryz.prog 44 := ⟨by kernel_rfl⟩
instance : GoF Tryz.prog 45 := ⟨by kernel_rfl⟩
instance : GoF Tryz.prog 46 := ⟨by kernel_rfl⟩
instance : GoF Tryz.prog 47 := ⟨by kernel_rfl⟩
instance : GoF Tryz.prog 48 := ⟨by kernel_rfl⟩
instance : GoF Tryz.prog 49 := ⟨by kernel_rfl⟩
instance : GoF Tryz.prog 50 := ⟨by kernel_rfl⟩
instance : GoF Tryz.prog 51 := ⟨by kernel_rfl⟩
instance : GoF Tryz.prog 52 := ⟨by kernel_rfl⟩
instance : GoF Tryz.prog 53 := ⟨by kernel_rfl⟩
instance : GoF Tryz.prog 54 := ⟨by kernel_rfl⟩
instance : GoF Tryz.prog 55 := ⟨by kernel_rfl⟩
instance : GoF Tryz.prog 56 := ⟨by kernel_rfl⟩
instance : GoF Tryz.prog 57 := ⟨by kernel_rfl⟩
instance : GoF Tryz.prog 58 := ⟨by kernel_rfl⟩
instance : GoF Tryz.prog 59 := ⟨by kernel_rfl⟩
instance : GoF Tryz.prog 60 := ⟨by kernel_rfl⟩
instance : GoF Tryz.prog 61 := ⟨by kernel_rfl⟩
instance : GoF Tryz.prog 62 := ⟨by kernel_rfl⟩
instance : GoF Tryz.prog 63 := ⟨by kernel_rfl⟩
instance : GoF Tryz.prog 64 := ⟨by kernel_rfl⟩
instance : GoF Tryz.prog 65 := ⟨by kernel_rfl⟩
instance : GoF Tryz.prog 66 := ⟨by kernel_rfl⟩
instance : GoF Tryz.prog 67 := ⟨by kernel_rfl⟩
instance : GoF Tryz.prog 68 := ⟨by kernel_rfl⟩
instance : GoF Tryz.prog 69 := ⟨by kernel_rfl⟩
instance : GoF Tryz.prog 70 := ⟨by kernel_rfl⟩
instance : GoF Tryz.prog 71 := ⟨by kernel_rfl⟩
instance : GoF Tryz.prog 72 := ⟨by kernel_rfl⟩
instance : GoF Tryz.prog 73 := ⟨by kernel_rfl⟩
instance : GoF Tryz.prog 74 := ⟨by kernel_rfl⟩
instance : GoF Tryz.prog 75 := ⟨by kernel_rfl⟩
instance : GoF Tryz.prog 76 := ⟨by kernel_rfl⟩
instance : GoF Tryz.prog 77 := ⟨by kernel_rfl⟩
instance : GoF Tryz.prog 78 := ⟨by kernel_rfl⟩
instance : GoF Tryz.prog 79 := ⟨by kernel_rfl⟩
instance : GoF Tryz.prog 80 := ⟨by kernel_rfl⟩
instance : GoF Tryz.prog 81 := ⟨by kernel_rfl⟩
instance : GoF Tryz.prog 82 := ⟨by kernel_rfl⟩
instance : GoF Tryz.prog 83 := ⟨by kernel_rfl⟩
instance : GoF Tryz.prog 84 := ⟨by kernel_rfl⟩
instance : GoF Tryz.prog 85 := ⟨by kernel_rfl⟩
instance : GoF Tryz.prog 86 := ⟨by kernel_rfl⟩
instance : GoF Tryz.prog 87 := ⟨by kernel_rfl⟩
instance : GoF Tryz.prog 88 := ⟨by kernel_rfl⟩
instance : GoF Tryz.prog 89 := ⟨by kernel_rfl⟩
instance : GoF Tryz.prog 90 := ⟨by kernel_rfl⟩
instance : GoF Tryz.prog 91 := ⟨by kernel_rfl⟩
instance : GoF Tryz.prog 92 := ⟨by kernel_rfl⟩
instance : GoF Tryz.prog 93 := ⟨by kernel_rfl⟩
instance : GoF Tryz.prog 99 := ⟨by kernel_rfl⟩
instance : GoF Tryz.prog 100 := ⟨by kernel_rfl⟩
instance : GoF Tryz.prog 101 := ⟨by kernel_rfl⟩
instance : GoF Tryz.prog 102 := ⟨by kernel_rfl⟩
instance : GoF Tryz.prog 103 := ⟨by kernel_rfl⟩
instance : GoF Tryz.prog 104 := ⟨by kernel_rfl⟩
instance : GoF Tryz.prog 105 := ⟨by kernel_rfl⟩
instance : GoF Tryz.prog 106 := ⟨by kernel_rfl⟩
instance : GoF Tryz.prog 107 := ⟨by kernel_rfl⟩
instance : GoF Tryz.prog 108 := ⟨by kernel_rfl⟩
instance : GoF Tryz.prog 109 := ⟨by kernel_rfl⟩
instance : GoF Tryz.prog 110 := ⟨by kernel_rfl⟩
instance : GoF Tryz.prog 111 := ⟨by kernel_rfl⟩
instance : GoF Tryz.prog 112 := ⟨by kernel_rfl⟩
instance : GoF Tryz.prog 113 := ⟨by kernel_rfl⟩
instance : GoF Tryz.prog 114 := ⟨by kernel_rfl⟩
instance : GoF Tryz.prog 115 := ⟨by kernel_rfl⟩
instance : GoF Tryz.prog 116 := ⟨by kernel_rfl⟩
instance : GoF Tryz.prog 117 := ⟨by kernel_rfl⟩
instance : GoF Tryz.prog 118 := ⟨by kernel_rfl⟩
instance : GoF Tryz.prog 119 := ⟨by kernel_rfl⟩
instance : GoF Tryz.prog 120 := ⟨by kernel_rfl⟩
instance : GoF Tryz.prog 121 := ⟨by kernel_rfl⟩
instance : GoF Tryz.prog 122 := ⟨by kernel_rfl⟩
instance : GoF Tryz.prog 123 := ⟨by kernel_rfl⟩
instance : GoF Tryz.prog 124 := ⟨by kernel_rfl⟩
instance : GoF Tryz.prog 125 := ⟨by kernel_rfl⟩
instance : GoF Tryz.prog 126 := ⟨by kernel_rfl⟩
instance : GoF Tryz.prog 127 := ⟨by kernel_rfl⟩
instance : GoF Tryz.prog 133 := ⟨by kernel_rfl⟩
instance : GoF Tryz.prog 134 := ⟨by kernel_rfl⟩
instance : GoF Tryz.prog 135 := ⟨by kernel_rfl⟩
instance : GoF Tryz.prog 137 := ⟨by kernel_rfl⟩
instance : GoF Tryz.prog 138 := ⟨by kernel_rfl⟩
instance : GoF Tryz.prog 139 := ⟨by kernel_rfl⟩
instance : GoF Tryz.prog 140 := ⟨by kernel_rfl⟩
instance : GoF Tryz.prog 141 := ⟨by kernel_rfl⟩
instance : GoF Tryz.prog 142 := ⟨by kernel_rfl⟩
instance : GoF Tryz.prog 143 := ⟨by kernel_rfl⟩
instance : GoF Tryz.prog 144 := ⟨by kernel_rfl⟩
instance : GoF Tryz.prog 145 := ⟨by kernel_rfl⟩
instance : GoF Tryz.prog 146 := ⟨by kernel_rfl⟩
instance : GoF Tryz.prog 147 := ⟨by kernel_rfl⟩
instance : GoF Tryz.prog 148 := ⟨by kernel_rfl⟩
instance : GoF Tryz.prog 149 := ⟨by kernel_rfl⟩
instance : GoF Tryz.prog 150 := ⟨by kernel_rfl⟩
instance : GoF Tryz.prog 151 := ⟨by kernel_rfl⟩
instance : GoF Tryz.prog 152 := ⟨by kernel_rfl⟩
instance : GoF Tryz.prog 153 := ⟨by kernel_rfl⟩
instance : GoF Tryz.prog 155 := ⟨by kernel_rfl⟩
instance : GoF Tryz.prog 166 := ⟨by kernel_rfl⟩
instance : GoF Tryz.prog 167 := ⟨by kernel_rfl⟩
instance : GoF Tryz.prog 168 := ⟨by kernel_rfl⟩
instance : GoF Tryz.prog 169 := ⟨by kernel_rfl⟩
instance : GoF Tryz.prog 170 := ⟨by kernel_rfl⟩
instance : GoF Tryz.prog 171 := ⟨by kernel_rfl⟩
instance : GoF Tryz.prog 172 := ⟨by kernel_rfl⟩
instance : GoF Tryz.prog 173 := ⟨by kernel_rfl⟩
instance : GoF Tryz.prog 174 := ⟨by kernel_rfl⟩
instance : GoF Tryz.prog 175 := ⟨by kernel_rfl⟩
instance : GoF Tryz.prog 176 := ⟨by kernel_rfl⟩
instance : GoF Tryz.prog 178 := ⟨by kernel_rfl⟩
instance : GoF Tryz.prog 179 := ⟨by kernel_rfl⟩
instance : GoF Tryz.prog 180 := ⟨by kernel_rfl⟩
instance : GoF Tryz.prog 181 := ⟨by kernel_rfl⟩
instance : GoF Tryz.prog 182 := ⟨by kernel_rfl⟩
instance : GoF Tryz.prog 183 := ⟨by kernel_rfl⟩
instance : GoF Tryz.prog 184 := ⟨by kernel_rfl⟩
instance : GoF Tryz.prog 185 := ⟨by kernel_rfl⟩
instance : GoF Tryz.prog 186 := ⟨by kernel_rfl⟩
instance : GoF Tryz.prog 187 := ⟨by kernel_rfl⟩
instance : GoF Tryz.prog 188 := ⟨by kernel_rfl⟩
instance : GoF Tryz.prog 189 := ⟨by kernel_rfl⟩
instance : GoF Tryz.prog 208 := ⟨by kernel_rfl⟩
instance : GoF Tryz.prog 212 := ⟨by kernel_rfl⟩
instance : GoF Tryz.prog 213 := ⟨by kernel_rfl⟩
instance : GoF Tryz.prog 214 := ⟨by kernel_rfl⟩
instance : GoF Tryz.prog 215 := ⟨by kernel_rfl⟩
instance : GoF Tryz.prog 227 := ⟨by kernel_rfl⟩
instance : GoF Tryz.prog 228 := ⟨by kernel_rfl⟩
instance : GoF Tryz.prog 235 := ⟨by kernel_rfl⟩
instance : GoF Tryz.prog 236 := ⟨by kernel_rfl⟩
instance : GoF Tryz.prog 237 := ⟨by kernel_rfl⟩
instance : CV Tryz.prog 2 5 .u8 := ⟨by kernel_rfl⟩
instance : CV Tryz.prog 2 179 .u64 := ⟨by kernel_rfl⟩
instance : CV Tryz.prog 3 5 .u8 := ⟨by kernel_rfl⟩
instance : CV Tryz.prog 3 138 .u64 := ⟨by kernel_rfl⟩
instance : CV Tryz.prog 3 179 .u64 := ⟨by kernel_rfl⟩
instance : CV Tryz.prog 5 2 .i64 := ⟨by kernel_rfl⟩
instance : CV Tryz.prog 5 3 .i64 := ⟨by kernel_rfl⟩
instance : CV Tryz.prog 5 179 .u64 := ⟨by kernel_rfl⟩
instance : CV Tryz.prog 5 183 .u32 := ⟨by kernel_rfl⟩
instance : S2B Tryz.prog 9 24 := ⟨by kernel_rfl⟩
instance : CV Tryz.prog 21 5 .u8 := ⟨by kernel_rfl⟩
instance : B2S Tryz.prog 24 9 := ⟨by kernel_rfl⟩
instance : CV Tryz.prog 138 3 .i64 := ⟨by kernel_rfl⟩
instance : CV Tryz.prog 179 2 .i64 := ⟨by kernel_rfl⟩
instance : CV Tryz.prog 179 5 .u8 := ⟨by kernel_rfl⟩
instance : CV Tryz.prog 179 183 .u32 := ⟨by kernel_rfl⟩
instance : CV Tryz.prog 183 179 .u64 := ⟨by kernel_rfl⟩
instance : SC Tryz.prog 2 := ⟨by kernel_rfl⟩
instance : SC Tryz.prog 3 := ⟨by kernel_rfl⟩
instance : SC Tryz.prog 4 := ⟨by kernel_rfl⟩
instance : SC Tryz.prog 5 := ⟨by kernel_rfl⟩
instance : SC Tryz.prog 9 := ⟨by kernel_rfl⟩
instance : SC Tryz.prog 24 := ⟨by kernel_rfl⟩
instance : SC Tryz.prog 27 := ⟨by kernel_rfl⟩
instance : SC Tryz.prog 30 := ⟨by kernel_rfl⟩
instance : SC Tryz.prog 31 := ⟨by kernel_rfl⟩
instance : SC Tryz.prog 51 := ⟨by kernel_rfl⟩
instance : SC Tryz.prog 52 := ⟨by kernel_rfl⟩
instance : SC Tryz.prog 104 := ⟨by kernel_rfl⟩
instance : SC Tryz.prog 149 := ⟨by kernel_rfl⟩
instance : SC Tryz.prog 179 := ⟨by kernel_rfl⟩
instance : SC Tryz.prog 183 := ⟨by kernel_rfl⟩
instance : SC Tryz.prog 194 := ⟨by kernel_rfl⟩
instance : SC Tryz.prog 229 := ⟨by kernel_rfl⟩
instance : AG Tryz.prog 23 2 := ⟨by kernel_rfl⟩
instance : AG Tryz.prog 42 3 := ⟨by kernel_rfl⟩
instance : AG Tryz.prog 48 10 := ⟨by kernel_rfl⟩
instance : AG Tryz.prog 50 14 := ⟨by kernel_rfl⟩
instance : AG Tryz.prog 54 17 := ⟨by kernel_rfl⟩
instance : AG Tryz.prog 59 2 := ⟨by kernel_rfl⟩
instance : AG Tryz.prog 70 7 := ⟨by kernel_rfl⟩
instance : AG Tryz.prog 82 2 := ⟨by kernel_rfl⟩
instance : AG Tryz.prog 85 2 := ⟨by kernel_rfl⟩
instance : AG Tryz.prog 97 32 := ⟨by kernel_rfl⟩
instance : AG Tryz.prog 135 4 := ⟨by kernel_rfl⟩
instance : AG Tryz.prog 150 64 := ⟨by kernel_rfl⟩
instance : AG Tryz.prog 154 1 := ⟨by kernel_rfl⟩
instance : AG Tryz.prog 159 4 := ⟨by kernel_rfl⟩
instance : AG Tryz.prog 181 5 := ⟨by kernel_rfl⟩
instance : AG Tryz.prog 196 2 := ⟨by kernel_rfl⟩
instance : AG Tryz.prog 207 8 := ⟨by kernel_rfl⟩
instance : AG Tryz.prog 209 73 := ⟨by kernel_rfl⟩
instance : AG Tryz.prog 213 8 := ⟨by kernel_rfl⟩
instance : AG Tryz.prog 238 64 := ⟨by kernel_rfl⟩
instance : AG Tryz.prog 241 64 := ⟨by kernel_rfl⟩
instance : LZ Tryz.prog 2 [(0, .int .i64 0)] := ⟨⟨(.int .i64 0), by kernel_rfl, ⟨rfl, trivial⟩⟩⟩
instance : ZR Tryz.prog 2 [.int .i64 0] := ⟨⟨.int .i64 0, by kernel_rfl, rfl⟩⟩
instance : LZ Tryz.prog 3 [(0, .int .i64 0)] := ⟨⟨(.int .i64 0), by kernel_rfl, ⟨rfl, trivial⟩⟩⟩
instance : ZR Tryz.prog 3 [.int .i64 0] := ⟨⟨.int .i64 0, by kernel_rfl, rfl⟩⟩
instance : LZ Tryz.prog 4 [(0, .bool false)] := ⟨⟨(.bool false), by kernel_rfl, ⟨rfl, trivial⟩⟩⟩
instance : ZR Tryz.prog 4 [.bool false] := ⟨⟨.bool false, by kernel_rfl, rfl⟩⟩
instance : LZ Tryz.prog 5 [(0, .int .u8 0)] := ⟨⟨(.int .u8 0), by kernel_rfl, ⟨rfl, trivial⟩⟩⟩
instance : ZR Tryz.prog 5 [.int .u8 0] := ⟨⟨.int .u8 0, by kernel_rfl, rfl⟩⟩
instance : LZ Tryz.prog 9 [(0, str [])] := ⟨⟨(str []), by kernel_rfl, ⟨rfl, trivial⟩⟩⟩
instance : ZR Tryz.prog 9 [str []] := ⟨⟨str [], by kernel_rfl, rfl⟩⟩
instance : LZ Tryz.prog 23 [(0, .int .i64 0), (1, .int .i64 0)] := ⟨⟨(.agg #[.int .i64 0, .int .i64 0]), by kernel_rfl, ⟨rfl, rfl, trivial⟩⟩⟩
instance : ZR Tryz.prog 23 [.int .i64 0, .int .i64 0] := ⟨⟨(.agg #[.int .i64 0, .int .i64 0]), by kernel_rfl, rfl⟩⟩
instance : LZ Tryz.prog 27 [(0, .slice none 0 0)] := ⟨⟨(.slice none 0 0), by kernel_rfl, ⟨rfl, trivial⟩⟩⟩
instance : ZR Tryz.prog 27 [.slice none 0 0] := ⟨⟨.slice none 0 0, by kernel_rfl, rfl⟩⟩
instance : LZ Tryz.prog 31 [(0, .int .i64 0)] := ⟨⟨(.int .i64 0), by kernel_rfl, ⟨rfl, trivial⟩⟩⟩
instance : ZR Tryz.prog 31 [.int .i64 0] := ⟨⟨.int .i64 0, by kernel_rfl, rfl⟩⟩
instance : LZ Tryz.prog 42 [(0, .int .i64 0), (1, .int .i64 0), (2, str [])] := ⟨⟨(.agg #[.int .i64 0, .int .i64 0, str []]), by kernel_rfl, ⟨rfl, rfl, rfl, trivial⟩⟩⟩
instance : ZR Tryz.prog 42 [.int .i64 0, .int .i64 0, str []] := ⟨⟨(.agg #[.int .i64 0, .int .i64 0, str []]), by kernel_rfl, rfl⟩⟩
instance : LZ Tryz.prog 50 [(0, .int .i64 0), (1, .int .i64 0), (2, .int .i64 0), (3, .int .i64 0), (4, .int .i64 0), (5, .int .i64 0), (6, .int .i64 0), (7, .int .i64 0), (8, .int .i64 0), (9, .int .i64 0), (10, .int .i64 0), (11, .int .i64 0), (12, .bool false), (13, .bool false)] := ⟨⟨(.agg #[.int .i64 0, .int .i64 0, .int .i64 0, .int .i64 0, .int .i64 0, .int .i64 0, .int .i64 0, .int .i64 0, .int .i64 0, .int .i64 0, .int .i64 0, .int .i64 0, .bool false, .bool false]), by kernel_rfl, ⟨rfl, rfl, rfl, rfl, rfl, rfl, rfl, rfl, rfl, rfl, rfl, rfl, rfl, rfl, trivial⟩⟩⟩
instance : ZR Tryz.prog 50 [.int .i64 0, .int .i64 0, .int .i64 0, .int .i64 0, .int .i64 0, .int .i64 0, .int .i64 0, .int .i64 0, .int .i64 0, .int .i64 0, .int .i64 0, .int .i64 0, .bool false, .bool false] := ⟨⟨(.agg #[.int .i64 0, .int .i64 0, .int .i64 0, .int .i64 0, .int .i64 0, .int .i64 0, .int .i64 0, .int .i64 0, .int .i64 0, .int .i64 0, .int .i64 0, .int .i64 0, .bool false, .bool false]), by kernel_rfl, rfl⟩⟩
instance : LZ Tryz.prog 54 [(0, .int .i64 0), (1, .int .i64 0), (2, .int .i64 0), (3, .int .i64 0), (4, .int .i64 0), (5, .int .i64 0), (6, .int .i64 0), (7, .int .i64 0), (8, .int .i64 0), (9, .int .i64 0), (10, .int .i64 0), (11, .int .i64 0), (12, .bool false), (13, .bool false), (14, .slice none 0 0), (15, .slice none 0 0), (16, .slice none 0 0)] := ⟨⟨(.agg #[.int .i64 0, .int .i64 0, .int .i64 0, .int .i64 0, .int .i64 0, .int .i64 0, .int .i64 0, .int .i64 0, .int .i64 0, .int .i64 0, .int .i64 0, .int .i64 0, .bool false, .bool false, .slice none 0 0, .slice none 0 0, .slice none 0 0]), by kernel_rfl, ⟨rfl, rfl, rfl, rfl, rfl, rfl, rfl, rfl, rfl, rfl, rfl, rfl, rfl, rfl, rfl, rfl, rfl, trivial⟩⟩⟩
instance : ZR Tryz.prog 54 [.int .i64 0, .int .i64 0, .int .i64 0, .int .i64 0, .int .i64 0, .int .i64 0, .int .i64 0, .int .i64 0, .int .i64 0, .int .i64 0, .int .i64 0, .int .i64 0, .bool false, .bool false, .slice none 0 0, .slice none 0 0, .slice none 0 0] := ⟨⟨(.agg #[.int .i64 0, .int .i64 0, .int .i64 0, .int .i64 0, .int .i64 0, .int .i64 0, .int .i64 0, .int .i64 0, .int .i64 0, .int .i64 0, .int .i64 0, .int .i64 0, .bool false, .bool false, .slice none 0 0, .slice none 0 0, .slice none 0 0]), by kernel_rfl, rfl⟩⟩
instance : LZ Tryz.prog 59 [(0, .int .i64 0), (1, .int .i64 0)] := ⟨⟨(.agg #[.int .i64 0, .int .i64 0]), by kernel_rfl, ⟨rfl, rfl, trivial⟩⟩⟩
instance : ZR Tryz.prog 59 [.int .i64 0, .int .i64 0] := ⟨⟨(.agg #[.int .i64 0, .int .i64 0]), by kernel_rfl, rfl⟩⟩
instance : LZ Tryz.prog 70 [(0, .int .i64 0), (1, .int .i64 0), (2, .int .i64 0), (3, str []), (4, .int .i64 0), (5, .int .i64 0), (6, str [])] := ⟨⟨(.agg #[.int .i64 0, .int .i64 0, .int .i64 0, str [], .int .i64 0, .int .i64 0, str []]), by kernel_rfl, ⟨rfl, rfl, rfl, rfl, rfl, rfl, rfl, trivial⟩⟩⟩
instance : ZR Tryz.prog 70 [.int .i64 0, .int .i64 0, .int .i64 0, str [], .int .i64 0, .int .i64 0, str []] := ⟨⟨(.agg #[.int .i64 0, .int .i64 0, .int .i64 0, str [], .int .i64 0, .int .i64 0, str []]), by kernel_rfl, rfl⟩⟩
instance : LZ Tryz.prog 82 [(0, .int .i64 0), (1, str [])] := ⟨⟨(.agg #[.int .i64 0, str []]), by kernel_rfl, ⟨rfl, rfl, trivial⟩⟩⟩
instance : ZR Tryz.prog 82 [.int .i64 0, str []] := ⟨⟨(.agg #[.int .i64 0, str []]), by kernel_rfl, rfl⟩⟩
instance : LZ Tryz.prog 85 [(0, .int .i64 0), (1, .int .i64 0)] := ⟨⟨(.agg #[.int .i64 0, .int .i64 0]), by kernel_rfl, ⟨rfl, rfl, trivial⟩⟩⟩
instance : ZR Tryz.prog 85 [.int .i64 0, .int .i64 0] := ⟨⟨(.agg #[.int .i64 0, .int .i64 0]), by kernel_rfl, rfl⟩⟩
instance : ZR Tryz.prog 97 (List.replicate 32 (.int .u8 0)) := ⟨⟨.agg (List.replicate 32 (.int .u8 0)).toArray, by kernel_rfl, rfl⟩⟩
instance : LZ Tryz.prog 104 [(0, .slice none 0 0)] := ⟨⟨(.slice none 0 0), by kernel_rfl, ⟨rfl, trivial⟩⟩⟩
instance : ZR Tryz.prog 104 [.slice none 0 0] := ⟨⟨.slice none 0 0, by kernel_rfl, rfl⟩⟩
instance : ZR Tryz.prog 123 [.pointer none, .slice none 0 0] := ⟨⟨.agg #[.pointer none, .slice none 0 0], by kernel_rfl, rfl⟩⟩
instance : LZ Tryz.prog 135 [(0, .int .i64 0), (1, .int .i64 0), (2, .int .i64 0), (3, str [])] := ⟨⟨(.agg #[.int .i64 0, .int .i64 0, .int .i64 0, str []]), by kernel_rfl, ⟨rfl, rfl, rfl, rfl, trivial⟩⟩⟩
instance : ZR Tryz.prog 135 [.int .i64 0, .int .i64 0, .int .i64 0, str []] := ⟨⟨(.agg #[.int .i64 0, .int .i64 0, .int .i64 0, str []]), by kernel_rfl, rfl⟩⟩
instance : ZR Tryz.prog 150 (List.replicate 64 (.int .u8 0)) := ⟨⟨.agg (List.replicate 64 (.int .u8 0)).toArray, by kernel_rfl, rfl⟩⟩
instance : ZR Tryz.prog 154 [.int .u8 0] := ⟨⟨.agg #[.int .u8 0], by kernel_rfl, rfl⟩⟩
instance : ZR Tryz.prog 155 (List.replicate 9 (.bool false)) := ⟨⟨.agg (List.replicate 9 (.bool false)).toArray, by kernel_rfl, rfl⟩⟩
instance : LZ Tryz.prog 159 [(0, str []), (1, str []), (2, .bool false), (3, .bool false)] := ⟨⟨(.agg #[str [], str [], .bool false, .bool false]), by kernel_rfl, ⟨rfl, rfl, rfl, rfl, trivial⟩⟩⟩
instance : ZR Tryz.prog 159 [str [], str [], .bool false, .bool false] := ⟨⟨(.agg #[str [], str [], .bool false, .bool false]), by kernel_rfl, rfl⟩⟩
instance : LZ Tryz.prog 196 [(0, str []), (1, .nilFunc)] := ⟨⟨(.agg #[str [], .nilFunc]), by kernel_rfl, ⟨rfl, rfl, trivial⟩⟩⟩
instance : ZR Tryz.prog 196 [str [], .nilFunc] := ⟨⟨(.agg #[str [], .nilFunc]), by kernel_rfl, rfl⟩⟩
instance : ZR Tryz.prog 207 (List.replicate 8 (.int .u32 0)) := ⟨⟨.agg (List.replicate 8 (.int .u32 0)).toArray, by kernel_rfl, rfl⟩⟩
instance : ZR Tryz.prog 209 [.int .u32 0, .int .u32 0, .int .u32 0, .int .u32 0, .int .u32 0, .int .u32 0, .int .u32 0, .int .u32 0, .int .u8 0, .int .u8 0, .int .u8 0, .int .u8 0, .int .u8 0, .int .u8 0, .int .u8 0, .int .u8 0, .int .u8 0, .int .u8 0, .int .u8 0, .int .u8 0, .int .u8 0, .int .u8 0, .int .u8 0, .int .u8 0, .int .u8 0, .int .u8 0, .int .u8 0, .int .u8 0, .int .u8 0, .int .u8 0, .int .u8 0, .int .u8 0, .int .u8 0, .int .u8 0, .int .u8 0, .int .u8 0, .int .u8 0, .int .u8 0, .int .u8 0, .int .u8 0, .int .u8 0, .int .u8 0, .int .u8 0, .int .u8 0, .int .u8 0, .int .u8 0, .int .u8 0, .int .u8 0, .int .u8 0, .int .u8 0, .int .u8 0, .int .u8 0, .int .u8 0, .int .u8 0, .int .u8 0, .int .u8 0, .int .u8 0, .int .u8 0, .int .u8 0, .int .u8 0, .int .u8 0, .int .u8 0, .int .u8 0, .int .u8 0, .int .u8 0, .int .u8 0, .int .u8 0, .int .u8 0, .int .u8 0, .int .u8 0, .int .u8 0, .int .u8 0, .int .u64 0] := ⟨⟨.agg #[.int .u32 0, .int .u32 0, .int .u32 0, .int .u32 0, .int .u32 0, .int .u32 0, .int .u32 0, .int .u32 0, .int .u8 0, .int .u8 0, .int .u8 0, .int .u8 0, .int .u8 0, .int .u8 0, .int .u8 0, .int .u8 0, .int .u8 0, .int .u8 0, .int .u8 0, .int .u8 0, .int .u8 0, .int .u8 0, .int .u8 0, .int .u8 0, .int .u8 0, .int .u8 0, .int .u8 0, .int .u8 0, .int .u8 0, .int .u8 0, .int .u8 0, .int .u8 0, .int .u8 0, .int .u8 0, .int .u8 0, .int .u8 0, .int .u8 0, .int .u8 0, .int .u8 0, .int .u8 0, .int .u8 0, .int .u8 0, .int .u8 0, .int .u8 0, .int .u8 0, .int .u8 0, .int .u8 0, .int .u8 0, .int .u8 0, .int .u8 0, .int .u8 0, .int .u8 0, .int .u8 0, .int .u8 0, .int .u8 0, .int .u8 0, .int .u8 0, .int .u8 0, .int .u8 0, .int .u8 0, .int .u8 0, .int .u8 0, .int .u8 0, .int .u8 0, .int .u8 0, .int .u8 0, .int .u8 0, .int .u8 0, .int .u8 0, .int .u8 0, .int .u8 0, .int .u8 0, .int .u64 0], by kernel_rfl, rfl⟩⟩
instance : ZR Tryz.prog 213 (List.replicate 8 (.int .u64 0)) := ⟨⟨.agg (List.replicate 8 (.int .u64 0)).toArray, by kernel_rfl, rfl⟩⟩
instance : LZ Tryz.prog 229 [(0, .nilFunc)] := ⟨⟨(.nilFunc), by kernel_rfl, ⟨rfl, trivial⟩⟩⟩
instance : ZR Tryz.prog 229 [.nilFunc] := ⟨⟨.nilFunc, by kernel_rfl, rfl⟩⟩
instance : ZR Tryz.prog 238 (List.replicate 64 (.int .u32 0)) := ⟨⟨.agg (List.replicate 64 (.int .u32 0)).toArray, by kernel_rfl, rfl⟩⟩
instance : ZR Tryz.prog 241 (List.replicate 64 (.int .u64 0)) := ⟨⟨.agg (List.replicate 64 (.int .u64 0)).toArray, by kernel_rfl, rfl⟩⟩
instance : IxA Tryz.prog 48 5 2 := ⟨23, by kernel_rfl, by kernel_rfl, by kernel_rfl⟩
instance : EqG Tryz.prog 42 [.int .i64, .int .i64, .str] := ⟨by kernel_rfl⟩
instance : EqG Tryz.prog 50 [.int .i64, .int .i64, .int .i64, .int .i64, .int .i64, .int .i64, .int .i64, .int .i64, .int .i64, .int .i64, .int .i64, .int .i64, .bool, .bool] := ⟨by kernel_rfl⟩
instance : EqG Tryz.prog 59 [.int .i64, .int .i64] := ⟨by kernel_rfl⟩
instance : EqG Tryz.prog 70 [.int .i64, .int .i64, .int .i64, .str, .int .i64, .int .i64, .str] := ⟨by kernel_rfl⟩
instance : EqG Tryz.prog 82 [.int .i64, .str] := ⟨by kernel_rfl⟩
instance : EqG Tryz.prog 85 [.int .i64, .int .i64] := ⟨by kernel_rfl⟩
instance : EqG Tryz.prog 154 [.int .u8] := ⟨by kernel_rfl⟩
theorem tLaid : laidOutB Tryz.prog = true := by kernel_rfl
instance : VM Tryz.prog 73 42 := ⟨Go.Proofs.YtngoaapgdfohjaaGreatDoor.X.keyedS tLaid (of_decide_eq_true (by kernel_rfl)) (by kernel_rfl) (by kernel_rfl), ⟨3, by kernel_rfl, fun w => by kernel_rfl⟩, by kernel_rfl⟩
instance : DM Tryz.prog 133 135 := ⟨Go.Proofs.YtngoaapgdfohjaaGreatDoor.X.keyedS tLaid (of_decide_eq_true (by kernel_rfl)) (by kernel_rfl) (by kernel_rfl), ⟨3, by kernel_rfl, fun w => by kernel_rfl⟩, by kernel_rfl⟩
end Go.Proofs.YtngoaapgdfohjaaGreatDoor.TK

set_option linter.unusedVariables false
set_option linter.unusedSimpArgs false
set_option maxRecDepth 100000
set_option maxHeartbeats 4000000
namespace Go.Proofs.YtngoaapgdfohjaaGreatDoor.TK
open Go Go.Proofs.YtngoaapgdfohjaaGreatDoor.X Go.Proofs
def primeB (n : Nat) : Bool := decide (2 ≤ n) && ((List.range n).all fun d => decide (d < 2) || (decide (n < d * d) || !decide (n % d = 0)))
theorem primeB_no {n d : Nat} (h1 : 2 ≤ d) (h2 : d * d ≤ n) (h3 : n % d = 0) : primeB n = false := by
  have hd : d < n := Nat.lt_of_lt_of_le (by have := Nat.mul_le_mul_left d h1; omega) h2
  cases e : primeB n with
  | false => rfl
  | true =>
    unfold primeB at e
    rw [Bool.and_eq_true] at e
    have := List.all_eq_true.1 e.2 d (List.mem_range.2 hd)
    simp only [Bool.or_eq_true, decide_eq_true_eq, Bool.not_eq_true', decide_eq_false_iff_not] at this
    omega
theorem primeB_yes {n i : Nat} (h1 : 2 ≤ n) (h2 : n < i * i) (h3 : ∀ d, 2 ≤ d → d < i → n % d ≠ 0) : primeB n = true := by
  unfold primeB
  rw [Bool.and_eq_true]
  refine ⟨by simpa using h1, List.all_eq_true.2 fun d hd => ?_⟩
  simp only [Bool.or_eq_true, decide_eq_true_eq, Bool.not_eq_true', decide_eq_false_iff_not]
  by_cases h4 : d < 2
  · exact .inl h4
  by_cases h5 : d < i
  · exact .inr (.inr (h3 d (by omega) h5))
  · exact .inr (.inl (Nat.lt_of_lt_of_le h2 (Nat.mul_le_mul (by omega) (by omega))))
theorem sq_le {i : Nat} (h : i ≤ 1025) : (i : Int) * (i : Int) ≤ 1050625 := by have := Nat.mul_le_mul h h; omega
theorem sq_ge {i : Nat} : (0 : Int) ≤ (i : Int) * (i : Int) := by exact_mod_cast Nat.zero_le (i * i)
theorem c_Is (n : Nat) (hn : n ≤ 1048576) (G : Heap) : FnP Tryz.prog 237 [.int .i64 (n : Int)] G (.bool (primeB n)) := by
  refine fnP_in Tryz.func237 rfl Tryz.ntmps237 rfl fun w0 Q0 hQ => ?_
  refine go ?_
  refine w_sp 6 rfl (fun h => ?_) (fun h => ?_)
  · refine go ?_
    refine w_ret hQ ?_
    have : ¬ 2 ≤ n := by simp at h; omega
    simp [primeB, this]; rfl
  refine go ?_
  refine w_condF rfl (decide_eq_false (by omega)) ?_
  refine go ?_
  have h2 : 2 ≤ n := by simp at h; omega
  refine w_loop (fun i : Nat => [(3, .int .i64 (i:Int))]) (fun _ => []) (fun i _ => 2 ≤ i ∧ i ≤ 1025 ∧ ∀ d, 2 ≤ d → d < i → n % d ≠ 0) (fun i => n + 2 - i) 2 ⟨by omega, by omega, fun d h1 h2 => by omega⟩ ?_
  intro i G1 _ ⟨hi, hi2, hp⟩
  have hm := sq_le hi2
  have hm2 := @sq_ge i
  refine go ?_
  refine w_cd rfl (fun h3 => ?_) (fun h3 => ?_)
  · have h3' : i * i ≤ n := by exact_mod_cast h3
    have hi3 : i ≤ 1024 := by
      rcases Nat.lt_or_ge 1024 i with h | h
      · have := Nat.mul_le_mul h h; omega
      · exact h
    refine go ?_
    refine w_cd rfl (fun h4 => ?_) (fun h4 => ?_)
    · refine go ?_
      refine w_ret hQ ?_
      rw [primeB_no hi h3' (by omega)]; rfl
    · refine go ?_
      refine w_again (i + 1) ⟨by omega, by omega, fun d h1 h2 => ?_⟩ (by have := Nat.le_of_lt (Nat.lt_of_lt_of_le (show i < i * i by have := Nat.mul_le_mul_left i hi; omega) h3'); omega)
      rcases Nat.lt_or_ge d i with h | h
      · exact hp d h1 h
      · have : d = i := by omega
        subst this; omega
  · refine go ?_
    refine w_ret hQ ?_
    rw [primeB_yes h2 (i := i) (by have : ¬ (i * i : Int) ≤ n := h3; exact_mod_cast Int.not_le.1 this) hp]; rfl
end Go.Proofs.YtngoaapgdfohjaaGreatDoor.TK

set_option linter.unusedVariables false
set_option linter.unusedSimpArgs false
set_option maxRecDepth 100000
set_option maxHeartbeats 4000000
namespace Go.Proofs.YtngoaapgdfohjaaGreatDoor.TK
open Go Go.Proofs.YtngoaapgdfohjaaGreatDoor.X Go.Proofs
/-! 64 bits multiplied. -/
def mW0 (x y : Int) : Int := IntKind.u64.wrap (bAnd .u64 x 4294967295 * bAnd .u64 y 4294967295)
def mT (x y : Int) : Int := IntKind.u64.wrap (IntKind.u64.wrap (shrI .u64 x 32 * bAnd .u64 y 4294967295) + shrI .u64 (mW0 x y) 32)
def mW1 (x y : Int) : Int := IntKind.u64.wrap (bAnd .u64 (mT x y) 4294967295 + IntKind.u64.wrap (bAnd .u64 x 4294967295 * shrI .u64 y 32))
def mulHi (x y : Int) : Int := IntKind.u64.wrap (IntKind.u64.wrap (IntKind.u64.wrap (shrI .u64 x 32 * shrI .u64 y 32) + shrI .u64 (mT x y) 32) + shrI .u64 (mW1 x y) 32)
def mulLo (x y : Int) : Int := IntKind.u64.wrap (x * y)
theorem c_Mul64 (x y : Int) (G : Heap) : FnP Tryz.prog 235 [.int .u64 x, .int .u64 y] G (.tuple #[.int .u64 (mulHi x y), .int .u64 (mulLo x y)]) := by
  refine fnP_in Tryz.func235 rfl Tryz.ntmps235 rfl fun w0 Q0 hQ => ?_
  refine go ?_
  exact w_ret hQ rfl
def rotS (x k : Int) : Int := bOr .u32 (shlI .u32 x (bAnd .u64 (IntKind.u64.wrap k) 31)) (shrI .u32 x (IntKind.u64.wrap (32 - bAnd .u64 (IntKind.u64.wrap k) 31)))
theorem c_Rotate (x k : Int) (G : Heap) : FnP Tryz.prog 215 [.int .u32 x, .int .i64 k] G (.int .u32 (rotS x k)) := by
  refine fnP_in Tryz.func215 rfl Tryz.ntmps215 rfl fun w0 Q0 hQ => ?_
  refine go ?_
  exact w_ret hQ rfl
def turnS (x n : Int) : Int := rotS x (IntKind.i64.wrap (0 - n))
theorem c_turn (x n : Int) (G : Heap) : FnP Tryz.prog 185 [.int .u32 x, .int .i64 n] G (.int .u32 (turnS x n)) := by
  refine fnP_in Tryz.func185 rfl Tryz.ntmps185 rfl fun w0 Q0 hQ => ?_
  refine go ?_
  refine w_stp (p_call rfl rfl rfl (c_Rotate _ _ G)) ?_
  refine go ?_
  exact w_ret hQ rfl
def aboveB (r p k : Int) : Bool :=
  if k = 2 then decide (p < mulHi r r) || (decide (mulHi r r = p) && decide (0 < mulLo r r))
  else decide (shlI .u64 p 32 < IntKind.u64.wrap (mulHi (mulLo r r) r + IntKind.u64.wrap (mulHi r r * r))) || (decide (IntKind.u64.wrap (mulHi (mulLo r r) r + IntKind.u64.wrap (mulHi r r * r)) = shlI .u64 p 32) && decide (0 < mulLo (mulLo r r) r))
theorem c_above (r p k : Int) (hp : 0 ≤ p ∧ p ≤ 1000) (G : Heap) : FnP Tryz.prog 227 [.int .u64 r, .int .i64 p, .int .i64 k] G (.bool (aboveB r p k)) := by
  refine fnP_in Tryz.func227 rfl Tryz.ntmps227 rfl fun w0 Q0 hQ => ?_
  refine go ?_
  refine w_stp (p_call rfl rfl rfl (c_Mul64 _ _ G)) ?_
  refine go ?_
  refine w_cd rfl (fun h => ?_) (fun h => ?_)
  · refine go ?_
    apply w_or 33 24 rfl
    · intro h; refine go ?_; exact w_at
    · intro h2; refine go ?_
      apply w_and 32 29 rfl
      · intro h; refine go ?_; exact w_at
      · intro h; refine go ?_; exact w_at
      · refine go ?_; exact w_at
    · refine go ?_
      refine w_ret hQ ?_
      unfold aboveB; rw [if_pos h]; rfl
  · refine go ?_
    refine w_stp (p_call rfl rfl rfl (c_Mul64 _ _ G)) ?_
    refine go ?_
    apply w_or 59 51 rfl
    · intro h; refine go ?_; exact w_at
    · intro h2; refine go ?_
      apply w_and 58 55 rfl
      · intro h; refine go ?_; exact w_at
      · intro h; refine go ?_; exact w_at
      · refine go ?_; exact w_at
    · refine go ?_
      refine w_ret hQ ?_
      unfold aboveB; rw [if_neg h]; rfl
end Go.Proofs.YtngoaapgdfohjaaGreatDoor.TK

set_option linter.unusedVariables false
set_option linter.unusedSimpArgs false
set_option maxRecDepth 100000
set_option maxHeartbeats 4000000
namespace Go.Proofs.YtngoaapgdfohjaaGreatDoor.TK
open Go Go.Proofs.YtngoaapgdfohjaaGreatDoor.X Go.Proofs
def rootN (p : Int) : Nat → Int
  | 0 => 0
  | i + 1 => bif aboveB (bOr .u64 (rootN p i) (shlI .u64 1 (36 - (i : Int)))) p 2 then rootN p i else bOr .u64 (rootN p i) (shlI .u64 1 (36 - (i : Int)))
theorem c_Root (p : Int) (hp : 2 ≤ p ∧ p ≤ 1000) (G : Heap) : FnP Tryz.prog 213 [.int .i64 p, .int .i64 2] G (.tuple #[.int .u32 (IntKind.u32.wrap (rootN p 37)), .int .i64 0]) := by
  refine fnP_in Tryz.func213 rfl Tryz.ntmps213 rfl fun w0 Q0 hQ => ?_
  have h1 : decide (p < 2) = false := decide_eq_false (by omega)
  have h2 : decide (1000 < p) = false := decide_eq_false (by omega)
  refine go ?_
  refine w_loop (fun i : Nat => [(6, .int .u64 (rootN p i)), (23, .int .i64 (i : Int))]) (fun _ => []) (fun i _ => i ≤ 37) (fun i => 37 - i) 0 (by omega) ?_
  intro i G1 _ hi
  refine go ?_
  refine w_cd rfl (fun h3 => ?_) (fun h3 => ?_)
  · refine go ?_
    refine w_stp (p_call rfl rfl rfl (c_above _ _ _ (by omega) G1)) ?_
    refine go ?_
    refine w_cd rfl (fun h4 => ?_) (fun h4 => ?_)
    · refine go ?_
      refine w_again (i + 1) (by omega) (by omega) ⟨.inl ?_, ?_⟩
      · show some _ = some (Value.int .u64 (rootN p (i + 1)))
        simp only [rootN, h4, cond_false]
      · repeat (first | exact trivial | refine ⟨.inl rfl, ?_⟩ | refine ⟨.inr rfl, ?_⟩)
    · refine go ?_
      refine w_again (i + 1) (by omega) (by omega) ⟨.inl ?_, ?_⟩
      · show some _ = some (Value.int .u64 (rootN p (i + 1)))
        simp only [rootN, h4, cond_true]
      · repeat (first | exact trivial | refine ⟨.inl rfl, ?_⟩ | refine ⟨.inr rfl, ?_⟩)
  · refine go ?_
    have : i = 37 := by omega
    subst this
    exact w_ret hQ rfl
end Go.Proofs.YtngoaapgdfohjaaGreatDoor.TK

set_option linter.unusedVariables false
set_option linter.unusedSimpArgs false
set_option maxRecDepth 100000
set_option maxHeartbeats 4000000
namespace Go.Proofs.YtngoaapgdfohjaaGreatDoor.TK
open Go Go.Proofs.YtngoaapgdfohjaaGreatDoor.X Go.Proofs
def byW (bl : List Int) (i k : Nat) : Int := IntKind.u32.wrap (bl.getD (4 * i + k) 0)
def wordS (bl : List Int) (i : Nat) : Int := bOr .u32 (bOr .u32 (bOr .u32 (shlI .u32 (byW bl i 0) 24) (shlI .u32 (byW bl i 1) 16)) (shlI .u32 (byW bl i 2) 8)) (byW bl i 3)
def wA (bl : List Int) : Nat → List Int
  | 0 => List.replicate 64 0
  | i + 1 => (wA bl i).set i (wordS bl i)
def w32 (a b : Int) : Int := IntKind.u32.wrap (a + b)
def xor3 (a b c : Int) : Int := bXor .u32 (bXor .u32 a b) c
def lowW (x : Int) : Int := xor3 (turnS x 7) (turnS x 18) (shrI .u32 x 3)
def highW (x : Int) : Int := xor3 (turnS x 17) (turnS x 19) (shrI .u32 x 10)
def nextW (l : List Int) (i : Int) : Int := w32 (w32 (w32 (l.getD (i - 16).toNat 0) (l.getD (i - 7).toNat 0)) (lowW (l.getD (i - 15).toNat 0))) (highW (l.getD (i - 2).toNat 0))
def wB (bl : List Int) : Nat → List Int
  | 0 => wA bl 16
  | i + 1 => (wB bl i).set (i + 16) (nextW (wB bl i) ((i + 16 : Nat) : Int))
theorem wA_len (bl : List Int) : ∀ i, (wA bl i).length = 64
  | 0 => by simp [wA]
  | i + 1 => by simp [wA, wA_len bl i]
theorem wB_len (bl : List Int) : ∀ i, (wB bl i).length = 64
  | 0 => wA_len bl 16
  | i + 1 => by simp [wB, wB_len bl i]
def spreadS (bl : List Int) : List Int := wB bl 48
theorem map_rep (n : Nat) (q : IntKind) : (List.replicate n (0 : Int)).map (Value.int q) = List.replicate n (Value.int q 0) := by simp
theorem c_spread (bl : List Int) (hb : bl.length = 64) (G : Heap) : FnP Tryz.prog 184 [.agg (bl.map (Value.int .u8)).toArray] G (.agg ((spreadS bl).map (Value.int .u32)).toArray) := by
  refine fnP_in Tryz.func184 rfl Tryz.ntmps184 rfl fun w0 Q0 hQ => ?_
  refine go ?_; intro B1
  refine go ?_; intro B2
  refine go ?_; intro B3
  refine go ?_
  rw [← map_rep 64 .u32]
  refine w_loop (fun i : Nat => [(9, .int .i64 (i : Int))]) (fun i => [[(B3, Arr 238 ((wA bl i).map (Value.int .u32)))], [(B2, Arr 238 ((List.replicate 64 (0 : Int)).map (Value.int .u32)))], [(B1, Arr 150 (bl.map (Value.int .u8)))]]) (fun i _ => i ≤ 16) (fun i => 16 - i) 0 (by omega) ?_
  intro i G1 _ hi
  have hA := wA_len bl i
  refine go ?_
  refine w_cd rfl (fun h3 => ?_) (fun h3 => ?_)
  · refine go ?_
    refine w_dt 23 (by kernel_rfl) ?_
    refine dg ?_
    have e : (4 * (i : Int)).toNat = 4 * i := by omega
    refine w_as 40 (.int .u32 (wordS bl i)) rfl (by simp only [wordS, byW, e, Nat.zero_add, Nat.mul_one]; rfl) ?_
    refine go ?_
    exact w_again (i + 1) (by omega) (by omega)
  refine go ?_
  have : i = 16 := by omega
  subst this
  refine w_loop (fun i : Nat => [(6, .int .i64 ((i + 16 : Nat) : Int))]) (fun i => [[(B3, Arr 238 ((wB bl i).map (Value.int .u32)))], [(B2, Arr 238 ((List.replicate 64 (0 : Int)).map (Value.int .u32)))], [(B1, Arr 150 (bl.map (Value.int .u8)))]]) (fun i _ => i ≤ 48) (fun i => 48 - i) 0 (by omega) ?_
  intro i G2 _ hi
  have hB := wB_len bl i
  refine go ?_
  refine w_cd rfl (fun h3 => ?_) (fun h3 => ?_)
  · refine go ?_
    refine w_d (by kernel_rfl) ?_
    refine dg ?_
    refine go ?_
    refine w_dt 28 (by kernel_rfl) ?_
    refine dg ?_
    refine .cons (p_call rfl rfl rfl (c_turn _ _ G2)) (dg ?_)
    refine .cons (p_call rfl rfl rfl (c_turn _ _ G2)) (dg ?_)
    refine .cons (p_call rfl rfl rfl (c_turn _ _ G2)) (dg ?_)
    refine .cons (p_call rfl rfl rfl (c_turn _ _ G2)) (dg ?_)
    refine w_as 82 (.int .u32 (nextW (wB bl i) ((i + 16 : Nat) : Int))) rfl rfl ?_
    refine go ?_
    exact w_again (i + 1) (by omega) (by omega)
  refine go ?_
  have : i = 48 := by omega
  subst this
  exact w_ret hQ rfl
end Go.Proofs.YtngoaapgdfohjaaGreatDoor.TK

set_option linter.unusedVariables false
set_option linter.unusedSimpArgs false
set_option maxRecDepth 100000
set_option maxHeartbeats 4000000
namespace Go.Proofs.YtngoaapgdfohjaaGreatDoor.TK
open Go Go.Proofs.YtngoaapgdfohjaaGreatDoor.X Go.Proofs
def ks : List Int := [1116352408, 1899447441, 3049323471, 3921009573, 961987163, 1508970993, 2453635748, 2870763221,
  3624381080, 310598401, 607225278, 1426881987, 1925078388, 2162078206, 2614888103, 3248222580,
  3835390401, 4022224774, 264347078, 604807628, 770255983, 1249150122, 1555081692, 1996064986,
  2554220882, 2821834349, 2952996808, 3210313671, 3336571891, 3584528711, 113926993, 338241895,
  666307205, 773529912, 1294757372, 1396182291, 1695183700, 1986661051, 2177026350, 2456956037,
  2730485921, 2820302411, 3259730800, 3345764771, 3516065817, 3600352804, 4094571909, 275423344,
  430227734, 506948616, 659060556, 883997877, 958139571, 1322822218, 1537002063, 1747873779,
  1955562222, 2024104815, 2227730452, 2361852424, 2428436474, 2756734187, 3204031479, 3329325298]
theorem ks_len : ks.length = 64 := rfl
def xW (s w : List Int) (i : Nat) : Int :=
  w32 (w32 (w32 (w32 (s.getD 7 0) (xor3 (turnS (s.getD 4 0) 6) (turnS (s.getD 4 0) 11) (turnS (s.getD 4 0) 25))) (bXor .u32 (bAnd .u32 (s.getD 4 0) (s.getD 5 0)) (bAnd .u32 (cplI .u32 (s.getD 4 0)) (s.getD 6 0)))) (ks.getD i 0)) (w.getD i 0)
def yW (s : List Int) : Int :=
  w32 (xor3 (turnS (s.getD 0 0) 2) (turnS (s.getD 0 0) 13) (turnS (s.getD 0 0) 22)) (xor3 (bAnd .u32 (s.getD 0 0) (s.getD 1 0)) (bAnd .u32 (s.getD 0 0) (s.getD 2 0)) (bAnd .u32 (s.getD 1 0) (s.getD 2 0)))
def roundS (s w : List Int) (i : Nat) : List Int := [w32 (xW s w i) (yW s), s.getD 0 0, s.getD 1 0, s.getD 2 0, w32 (s.getD 3 0) (xW s w i), s.getD 4 0, s.getD 5 0, s.getD 6 0]
def stN (st w : List Int) : Nat → List Int
  | 0 => st
  | i + 1 => roundS (stN st w i) w i
def endN (st s : List Int) : Nat → List Int
  | 0 => s
  | i + 1 => (endN st s i).set i (w32 ((endN st s i).getD i 0) (st.getD i 0))
def TurnS (st bl : List Int) : List Int := endN st (stN st (spreadS bl) 64) 8
theorem stN_len {st w : List Int} (h : st.length = 8) : ∀ i, (stN st w i).length = 8
  | 0 => h
  | i + 1 => rfl
theorem endN_len {st s : List Int} (h : s.length = 8) : ∀ i, (endN st s i).length = 8
  | 0 => h
  | i + 1 => by simp [endN, endN_len h i]
theorem spread_len (bl : List Int) : (spreadS bl).length = 64 := wB_len bl 48
theorem c_Turn (st bl : List Int) (hs : st.length = 8) (hb : bl.length = 64) (G : Heap) (hK : CellsAt G 5 0 (ks.map (Value.int .u32))) : FnP Tryz.prog 144 [.agg (st.map (Value.int .u32)).toArray, .agg (bl.map (Value.int .u8)).toArray] G (.agg ((TurnS st bl).map (Value.int .u32)).toArray) := by
  refine fnP_in Tryz.func144 rfl Tryz.ntmps144 rfl fun w0 Q0 hQ => ?_
  have hw := spread_len bl
  refine go ?_; intro B2
  refine go ?_; intro B3
  refine go ?_; intro B4
  refine go ?_
  refine w_stp (p_call rfl rfl rfl (c_spread bl hb G)) ?_
  refine go ?_; intro B5
  refine go ?_; intro B6
  refine go ?_
  refine w_loop (fun i : Nat => [(16, .int .i64 (i : Int))]) (fun i => [[(B6, Arr 207 ((stN st (spreadS bl) i).map (Value.int .u32)))], [(B5, Arr 238 ((spreadS bl).map (Value.int .u32)))], [(B4, Arr 207 (List.replicate 8 (.int .u32 0)))], [(B3, Arr 150 (bl.map (Value.int .u8)))], [(B2, Arr 207 (st.map (Value.int .u32)))]]) (fun i _ => i ≤ 64) (fun i => 64 - i) 0 (by omega) ?_
  intro i G1 _ hi
  have hl := stN_len (w := spreadS bl) hs i
  have hkl := ks_len
  have hrl : (roundS (stN st (spreadS bl) i) (spreadS bl) i).length = 8 := rfl
  refine go ?_
  refine w_cd rfl (fun h3 => ?_) (fun h3 => ?_)
  · refine go ?_
    refine w_d (by kernel_rfl) ?_
    refine dg ?_
    refine go ?_
    refine w_d (by kernel_rfl) ?_
    refine dg ?_
    refine .cons (p_call rfl rfl rfl (c_turn _ _ G1)) (dg ?_)
    refine .cons (p_call rfl rfl rfl (c_turn _ _ G1)) (dg ?_)
    refine .cons (p_call rfl rfl rfl (c_turn _ _ G1)) (dg ?_)
    refine w_as 10 (.int .u32 (xW (stN st (spreadS bl) i) (spreadS bl) i)) rfl rfl ?_
    refine go ?_
    refine w_d (by kernel_rfl) ?_
    refine dg ?_
    refine .cons (p_call rfl rfl rfl (c_turn _ _ G1)) (dg ?_)
    refine .cons (p_call rfl rfl rfl (c_turn _ _ G1)) (dg ?_)
    refine .cons (p_call rfl rfl rfl (c_turn _ _ G1)) (dg ?_)
    refine w_as 11 (.int .u32 (yW (stN st (spreadS bl) i))) rfl rfl ?_
    refine go ?_
    refine w_stp (p_build (cs := ((roundS (stN st (spreadS bl) i) (spreadS bl) i).map (Value.int .u32)).toArray) rfl rfl (by kernel_rfl)) ?_
    refine go ?_
    exact w_again (i + 1) (by omega) (by omega)
  refine go ?_
  have : i = 64 := by omega
  subst this
  refine w_loop (fun i : Nat => [(96, .int .i64 (i : Int))]) (fun i => [[(B6, Arr 207 ((endN st (stN st (spreadS bl) 64) i).map (Value.int .u32)))], [(B4, Arr 207 (List.replicate 8 (.int .u32 0)))], [(B2, Arr 207 (st.map (Value.int .u32)))]]) (fun i _ => i ≤ 8) (fun i => 8 - i) 0 (by omega) ?_
  intro i G2 _ hi
  have hl := endN_len (st := st) hl i
  refine go ?_
  refine w_cd rfl (fun h3 => ?_) (fun h3 => ?_)
  · refine go ?_
    refine w_dt 8 (by kernel_rfl) ?_
    refine dg ?_
    refine go ?_
    exact w_again (i + 1) (by omega) (by omega)
  refine go ?_
  have : i = 8 := by omega
  subst this
  exact w_ret hQ rfl
end Go.Proofs.YtngoaapgdfohjaaGreatDoor.TK

set_option linter.unusedVariables false
set_option linter.unusedSimpArgs false
set_option maxRecDepth 100000
set_option maxHeartbeats 4000000
namespace Go.Proofs.YtngoaapgdfohjaaGreatDoor.TK
open Go Go.Proofs.YtngoaapgdfohjaaGreatDoor.X Go.Proofs
def bigN (v : Int) : Nat → Int
  | 0 => v
  | k + 1 => shrI .u64 (bigN v k) 8
def bigA (v : Int) (n : Nat) : Nat → List Int
  | 0 => List.replicate n 0
  | k + 1 => (bigA v n k).set (n - 1 - k) (IntKind.u8.wrap (bigN v k))
theorem bigA_len (v : Int) (n : Nat) : ∀ k, (bigA v n k).length = n
  | 0 => by simp [bigA]
  | k + 1 => by simp [bigA, bigA_len v n k]
def bigS (v : Int) (n : Nat) : List Int := bigA v n n
theorem big_len (v : Int) (n : Nat) : (bigS v n).length = n := bigA_len v n n
theorem c_Big (v : Int) (n : Nat) (hn : 1 ≤ n ∧ n ≤ 8) (G : Heap) : FnR Tryz.prog 155 [.int .u64 v, .int .i64 (n : Int)] G (fun r G' => ∃ b, r = .slice (some ⟨b, 0, none⟩) (bigS v n).length n ∧ CellsAt G' b 0 ((bigS v n).map (Value.int .u8))) := by
  refine fn_in Tryz.func155 rfl Tryz.ntmps155 rfl fun w0 Q0 hQ => ?_
  have h1 : decide ((n : Int) < 1) = false := decide_eq_false (by omega)
  refine go ?_
  refine w_as 10 (.int .i64 (n : Int)) rfl (by congr 1; omega) ?_
  refine w_make rfl rfl rfl rfl (by omega) (by omega) fun b => ?_
  refine go ?_
  rw [← map_rep n .u8]
  refine w_loop (fun k : Nat => [(0, .int .u64 (bigN v k)), (6, .int .i64 ((n : Int) - 1 - (k : Int)))]) (fun k => [[(b, Arr 5 ((bigA v n k).map (Value.int .u8)))]]) (fun k _ => k ≤ n) (fun k => n - k) 0 (by omega) ?_ ⟨.inl rfl, .inl (by show some (Value.int .i64 ((n : Int) - 1)) = some (Value.int .i64 ((n : Int) - 1 - ((0 : Nat) : Int))); simp), ?_⟩
  · intro k G1 _ hk
    have hl := bigA_len v n k
    refine go ?_
    refine w_cd rfl (fun h3 => ?_) (fun h3 => ?_)
    · refine go ?_
      have e : ((n : Int) - 1 - (k : Int)).toNat = n - 1 - k := by omega
      rw [e]
      refine w_as 6 (.int .i64 ((n : Int) - 1 - ((k + 1 : Nat) : Int))) rfl (by congr 1; omega) ?_
      exact w_again (k + 1) (by omega) (by omega)
    · refine go ?_
      have : k = n := by omega
      subst this
      refine w_still b .here fun G2 _ hC => ?_
      refine go ?_
      refine w_ret hQ ?_
      exact ⟨b, by rw [big_len]; rfl, hC⟩
  · repeat (first | exact trivial | refine ⟨.inl rfl, ?_⟩ | refine ⟨.inr rfl, ?_⟩)
end Go.Proofs.YtngoaapgdfohjaaGreatDoor.TK

set_option linter.unusedVariables false
set_option linter.unusedSimpArgs false
set_option maxRecDepth 100000
set_option maxHeartbeats 4000000
namespace Go.Proofs.YtngoaapgdfohjaaGreatDoor.TK
open Go Go.Proofs.YtngoaapgdfohjaaGreatDoor.X Go.Proofs
def padN (n : Nat) : Nat := 1 + (119 - n % 64) % 64
def padS (n : Nat) : List Int := ((List.replicate (padN n) (0 : Int)).set 0 128) ++ bigS (8 * (n : Int)) 8
theorem c_Pad (n : Nat) (hn : n ≤ 1152921504606846975) (G : Heap) : FnR Tryz.prog 186 [.int .u64 (n : Int)] G (fun r G' => ∃ A c, r = .slice A (padS n).length c ∧ Rd (Knd.int .u8) G' A (padS n)) := by
  refine fn_in Tryz.func186 rfl Tryz.ntmps186 rfl fun w0 Q0 hQ => ?_
  refine go ?_
  have hp : padN n ≤ 64 := by unfold padN; omega
  refine w_as 8 (.int .u64 ((padN n : Nat) : Int)) rfl (by congr 1; unfold padN; omega) ?_
  refine w_make rfl rfl rfl rfl (by omega) (by omega) fun b => ?_
  rw [← map_rep (padN n) .u8]
  have h1 : 1 ≤ padN n := by unfold padN; omega
  have hl : ((List.replicate (padN n) (0 : Int))).length = padN n := by simp
  refine go ?_
  refine w_call rfl rfl rfl (c_Big _ 8 (by omega) _) fun r G2 _ hr => ?_
  obtain ⟨b2, rfl, hC⟩ := hr
  have hl2 : ((List.replicate (padN n) (0 : Int)).set (Int.toNat 0) 128).length = padN n := by simp
  refine w_arrO b .here (by rw [hl2]; omega) fun C hO => ?_
  refine w_as 12 (.slice (some ⟨b, 0, none⟩) ((List.replicate (padN n) (0 : Int)).set (Int.toNat 0) 128).length ((List.replicate (padN n) (0 : Int)).set (Int.toNat 0) 128).length) rfl (by rw [hl2]) ?_
  refine w_app rfl rfl hO (.refl _) .here rfl (Rd.nums hC) (.refl _) rfl (kone_int _) (by rw [hl2, big_len]; omega) fun A c C2 hO2 => ?_
  refine go ?_
  refine w_stillO hO2 (.refl _) .here fun G3 _ hR hc => ?_
  refine w_ret hQ ?_
  exact ⟨A, c, rfl, hR⟩
end Go.Proofs.YtngoaapgdfohjaaGreatDoor.TK

set_option linter.unusedVariables false
set_option linter.unusedSimpArgs false
set_option maxRecDepth 100000
set_option maxHeartbeats 4000000
namespace Go.Proofs.YtngoaapgdfohjaaGreatDoor.TK
open Go Go.Proofs.YtngoaapgdfohjaaGreatDoor.X Go.Proofs
/-- A digest in the making. -/
structure HS where
  s : List Int
  b : List Int
  n : Nat
structure HS.Ok (h : HS) : Prop where
  s : h.s.length = 8
  b : h.b.length = 64
def HS.vs (h : HS) : List Value := h.s.map (Value.int .u32) ++ (h.b.map (Value.int .u8) ++ [.int .u64 (h.n : Int)])
def HS.step (h : HS) (c : Int) : HS :=
  if (h.n + 1) % 64 = 0 then ⟨TurnS h.s (h.b.set (h.n % 64) c), h.b.set (h.n % 64) c, h.n + 1⟩ else ⟨h.s, h.b.set (h.n % 64) c, h.n + 1⟩
def HS.put (h : HS) (l : List Int) : HS := l.foldl HS.step h
theorem turn_len {st bl : List Int} (h : st.length = 8) : (TurnS st bl).length = 8 := endN_len (stN_len h 64) 8
theorem HS.step_ok {h : HS} (k : h.Ok) (c : Int) : (h.step c).Ok := by
  unfold HS.step
  split
  · exact ⟨turn_len k.s, by simp [k.b]⟩
  · exact ⟨k.s, by simp [k.b]⟩
theorem HS.step_n (h : HS) (c : Int) : (h.step c).n = h.n + 1 := by unfold HS.step; split <;> rfl
theorem HS.put_ok {h : HS} (k : h.Ok) : ∀ l, (h.put l).Ok := by
  intro l
  induction l generalizing h with
  | nil => exact k
  | cons c l ih => exact ih (HS.step_ok k c)
theorem HS.put_n (h : HS) : ∀ l, (h.put l).n = h.n + l.length := by
  intro l
  induction l generalizing h with
  | nil => rfl
  | cons c l ih => simp only [HS.put, List.foldl_cons, List.length_cons] at ih ⊢; rw [ih, HS.step_n]; omega
theorem HS.put_take {h : HS} {l : List Int} {i : Nat} (hi : i < l.length) : h.put (l.take (i + 1)) = (h.put (l.take i)).step (l.getD i 0) := by
  rw [List.take_add_one, List.getElem?_eq_getElem hi]
  simp only [HS.put, List.foldl_append, List.getD_eq_getElem?_getD, List.getElem?_eq_getElem hi, Option.toList_some, List.foldl_cons, List.foldl_nil, Option.getD_some]
theorem HS.len {h : HS} (k : h.Ok) : h.vs.length = 73 := by simp [HS.vs, k.s, k.b]
theorem HS.at72 {h : HS} (k : h.Ok) : h.vs[72]? = some (.int .u64 (h.n : Int)) := by
  unfold HS.vs
  rw [List.getElem?_append_right (by simp [k.s]), List.getElem?_append_right (by simp [k.s, k.b])]
  simp [k.s, k.b]
theorem HS.set72 {h : HS} (k : h.Ok) (m : Nat) : h.vs.set 72 (.int .u64 (m : Int)) = (HS.mk h.s h.b m).vs := by
  unfold HS.vs
  rw [List.set_append_right _ _ (by simp [k.s]), List.set_append_right _ _ (by simp [k.s, k.b])]
  simp [k.s, k.b]
theorem HS.setB {h : HS} (k : h.Ok) {j : Nat} (hj : j < 64) (c : Int) : h.vs.set (8 + j) (.int .u8 c) = (HS.mk h.s (h.b.set j c) h.n).vs := by
  unfold HS.vs
  rw [List.set_append_right _ _ (by simp [k.s]), List.set_append_left _ _ (by simp [k.s, k.b]; omega)]
  simp [k.s, List.map_set]
theorem HS.partS {h : HS} (k : h.Ok) : (h.vs.drop 0).take 8 = h.s.map (Value.int .u32) := by
  unfold HS.vs
  rw [List.drop_zero, List.take_append_of_le_length (by simp [k.s]), List.take_of_length_le (by simp [k.s])]
theorem HS.partB {h : HS} (k : h.Ok) : (h.vs.drop 8).take 64 = h.b.map (Value.int .u8) := by
  unfold HS.vs
  rw [List.drop_append_of_le_length (by simp [k.s]), List.drop_of_length_le (by simp [k.s]), List.nil_append, List.take_append_of_le_length (by simp [k.b]), List.take_of_length_le (by simp [k.b])]
theorem HS.setS {h : HS} (k : h.Ok) {u : List Int} (hu : u.length = 8) : h.vs.take (0 + 0) ++ u.map (Value.int .u32) ++ h.vs.drop (0 + 0 + (u.map (Value.int .u32)).length) = (HS.mk u h.b h.n).vs := by
  unfold HS.vs
  rw [List.length_map, hu, Nat.zero_add, List.take_zero, List.nil_append, List.drop_append_of_le_length (by simp [k.s]), List.drop_of_length_le (by simp [k.s]), List.nil_append]
theorem all_int (q : IntKind) (l : List Int) : (l.map (Value.int q)).all one = true := by rw [List.all_map]; exact List.all_eq_true.2 fun _ _ => rfl
abbrev HB (b : Nat) (h : HS) : Chunk := [(b, Arr 209 h.vs)]
theorem c_Write (h : HS) (k : h.Ok) (b : Nat) (l : List Int) (A : Option Addr) (c : Nat) (G : Heap) (hR : Rd (Knd.int .u8) G A l) (hn : h.n + l.length ≤ 1152921504606846975) (hK : CellsAt G 5 0 (ks.map (Value.int .u32))) :
    FnM Tryz.prog 105 [.pointer (some ⟨b, 0, none⟩), .slice A l.length c] G [HB b h] (fun r G' Ms => r = .tuple #[] ∧ Ms = [HB b (h.put l)]) := by
  refine fnM_in Tryz.func105 rfl Tryz.ntmps105 rfl fun w0 K0 Q0 hQ => ?_
  refine go ?_
  refine w_loop (fun i : Nat => [(8, .int .i64 (i : Int))]) (fun i => [HB b (h.put (l.take i))]) (fun i _ => i ≤ l.length) (fun i => l.length - i) 0 (by omega) ?_
  intro i G1 _ hi
  have k1 := HS.put_ok k (l.take i)
  have hn1 : (h.put (l.take i)).n = h.n + i := by rw [HS.put_n, List.length_take]; omega
  generalize hx : h.put (l.take i) = x at *
  refine go ?_
  refine w_cd rfl (fun h3 => ?_) (fun h3 => ?_)
  · refine go ?_
    refine w_dt 10 (by kernel_rfl) ?_
    refine dg ?_
    refine .cons (p_ldR rfl rfl rfl (.here .here) (HS.at72 k1)) (dg ?_)
    refine go ?_
    refine w_stR rfl rfl rfl rfl (.here .here) (by rw [HS.len k1]; omega) ?_
    have hj : (x.n % 64) < 64 := Nat.mod_lt _ (by decide)
    rw [show 0 + 8 + ((x.n : Int) % 64).toNat * 1 = 8 + x.n % 64 by omega, HS.setB k1 hj]
    have k2 : (HS.mk x.s (x.b.set (x.n % 64) (l.getD i 0)) x.n).Ok := ⟨k1.s, by simp [k1.b]⟩
    refine go ?_
    refine w_stp (p_ldR rfl rfl rfl (.here .here) (show _ = some (Value.int .u64 (x.n : Int)) from HS.at72 k2)) ?_
    refine go ?_
    refine w_stR rfl rfl rfl rfl (.here .here) (by rw [HS.len k2]; omega) ?_
    refine w_blkAs (.here .here) (congrArg (Arr 209) (HS.set72 k2 (x.n + 1))) ?_
    have k3 : (HS.mk x.s (x.b.set (x.n % 64) (l.getD i 0)) (x.n + 1)).Ok := ⟨k1.s, by simp [k1.b]⟩
    refine go ?_
    refine w_stp (p_ldR rfl rfl rfl (.here .here) (show _ = some (Value.int .u64 ((x.n + 1 : Nat) : Int)) from HS.at72 k3)) ?_
    refine go ?_
    have hst := HS.put_take (h := h) (l := l) (i := i) (by omega)
    rw [hx] at hst
    refine w_cd rfl (fun h4 => ?_) (fun h4 => ?_)
    · refine go ?_
      refine w_dt 12 (by kernel_rfl) ?_
      refine dg ?_
      refine .cons (p_ldRP (us := x.s.map (Value.int .u32)) rfl rfl rfl (.here .here) (HS.partS k3) (by simp [k1.s])) (dg ?_)
      refine .cons (p_ldRP (us := (x.b.set (x.n % 64) (l.getD i 0)).map (Value.int .u8)) rfl rfl rfl (.here .here) (HS.partB k3) (by simp [k1.b])) (dg ?_)
      refine .cons (p_call rfl rfl rfl (c_Turn x.s (x.b.set (x.n % 64) (l.getD i 0)) k1.s (by simp [k1.b]) G1 hK.up)) (dg ?_)
      refine go ?_
      have ht : (TurnS x.s (x.b.set (x.n % 64) (l.getD i 0))).length = 8 := turn_len k1.s
      refine w_stRP (us := (TurnS x.s (x.b.set (x.n % 64) (l.getD i 0))).map (Value.int .u32)) rfl rfl rfl (.here .here) (all_int _ _) (by rw [List.length_map]; exact ht) (by rw [HS.len k3, List.length_map, ht]; decide) ?_
      rw [HS.setS k3 ht]
      refine go ?_
      rw [show (HS.mk (TurnS x.s (x.b.set (x.n % 64) (l.getD i 0))) (HS.mk x.s (x.b.set (x.n % 64) (l.getD i 0)) (x.n + 1)).b (HS.mk x.s (x.b.set (x.n % 64) (l.getD i 0)) (x.n + 1)).n) = h.put (l.take (i + 1)) by rw [hst]; unfold HS.step; rw [if_pos (by omega)]]
      exact w_again (i + 1) (by omega) (by omega)
    · refine go ?_
      rw [show (HS.mk x.s (x.b.set (x.n % 64) (l.getD i 0)) (x.n + 1)) = h.put (l.take (i + 1)) by rw [hst]; unfold HS.step; rw [if_neg (by omega)]]
      exact w_again (i + 1) (by omega) (by omega)
  · refine go ?_
    have : i = l.length := by omega
    subst this
    rw [List.take_length] at hx
    subst hx
    exact w_endM hQ (.cons .here .nil) ⟨rfl, rfl⟩ .nil
end Go.Proofs.YtngoaapgdfohjaaGreatDoor.TK

set_option linter.unusedVariables false
set_option linter.unusedSimpArgs false
set_option maxRecDepth 100000
set_option maxHeartbeats 4000000
namespace Go.Proofs.YtngoaapgdfohjaaGreatDoor.TK
open Go Go.Proofs.YtngoaapgdfohjaaGreatDoor.X Go.Proofs
def outN (s : List Int) : Nat → List Int
  | 0 => List.replicate 32 0
  | i + 1 => (outN s i).take (4 * i) ++ bigS (IntKind.u64.wrap (s.getD i 0)) 4 ++ (outN s i).drop (4 * i + 4)
theorem outN_len (s : List Int) : ∀ i, i ≤ 8 → (outN s i).length = 32
  | 0, _ => by simp [outN]
  | i + 1, h => by
    have := outN_len s i (by omega)
    simp only [outN, List.length_append, List.length_take, List.length_drop, this, big_len]
    omega
def HS.fin (h : HS) : HS := h.put (padS h.n)
def HS.dig (h : HS) : List Int := outN h.fin.s 8
theorem pad_len (n : Nat) : (padS n).length ≤ 72 := by
  unfold padS padN
  rw [List.length_append, big_len]
  simp
  omega
theorem HS.all1 (h : HS) : h.vs.all one = true := by
  unfold HS.vs
  rw [List.all_append, List.all_append, all_int, all_int]
  rfl
theorem c_SumH (h : HS) (k : h.Ok) (b : Nat) (G : Heap) (hn : h.n ≤ 1152921504606846000) (hK : CellsAt G 5 0 (ks.map (Value.int .u32))) :
    FnM Tryz.prog 145 [.pointer (some ⟨b, 0, none⟩)] G [HB b h] (fun r _ Ms => r = .agg (h.dig.map (Value.int .u8)).toArray ∧ Ms = [HB b h]) := by
  refine fnM_in Tryz.func145 rfl Tryz.ntmps145 rfl fun w0 K0 Q0 hQ => ?_
  have hv := HS.len k
  have ha := h.all1
  refine go ?_; intro B2
  refine go ?_; intro B3
  refine go ?_
  refine w_stp (p_ldR rfl rfl rfl (.there (.there (.here .here))) (HS.at72 k)) ?_
  refine go ?_
  refine w_call rfl rfl rfl (c_Pad h.n (by omega) _) fun r G2 _ hr => ?_
  obtain ⟨A, c, rfl, hR⟩ := hr
  refine go ?_
  have hpl := pad_len h.n
  refine w_callM rfl rfl rfl (c_Write h k B3 _ _ _ G2 hR (by omega) hK.up) (.cons .here .nil) fun r G3 Ms _ hr => ?_
  obtain ⟨rfl, rfl⟩ := hr
  have k2 : h.fin.Ok := HS.put_ok k _
  have hfl : h.fin.vs.length = 73 := HS.len k2
  refine go ?_; intro B4
  refine go ?_
  refine w_stp (p_ldRP (us := h.fin.s.map (Value.int .u32)) rfl rfl rfl (.there (.here .here)) (HS.partS k2) (by rw [List.length_map]; exact k2.s)) ?_
  rw [← map_rep 32 .u8]
  refine go ?_
  refine w_loop (fun i : Nat => [(18, .int .i64 (i : Int))]) (fun i => [[(B4, Arr 97 ((outN h.fin.s i).map (Value.int .u8)))], [(B2, Arr 97 ((List.replicate 32 (0 : Int)).map (Value.int .u8)))], HB b h]) (fun i _ => i ≤ 8) (fun i => 8 - i) 0 (by omega) ?_
  intro i G4 _ hi
  have hl := outN_len h.fin.s i hi
  have hs8 := k2.s
  refine go ?_
  refine w_cd rfl (fun h3 => ?_) (fun h3 => ?_)
  · refine go ?_
    refine w_dc 6 (by kernel_rfl) ?_
    refine dcg ?_
    refine .call (r_call (fun v A B hl h => by obtain ⟨b, e, hc⟩ := h; exact ⟨b, e, hc.le hl⟩) rfl rfl rfl (c_Big _ 4 (by omega) G4)) (.nil ?_)
    intro G5 _
    simp only [KC]
    rintro _ ⟨b5, rfl, hC⟩
    refine w_copy rfl rfl rfl rfl (Rd.nums hC) (.refl _) (.here .here) (by rw [big_len]; omega) ?_
    have e1 : 0 + (4 * (i : Int)).toNat * 1 = 4 * i := by omega
    have e2 : min (bigS (IntKind.u64.wrap (h.fin.s.getD i 0)) 4).length (32 - (4 * (i : Int)).toNat) = 4 := by rw [big_len]; omega
    have e3 : (bigS (IntKind.u64.wrap (h.fin.s.getD i 0)) 4).take 4 = bigS (IntKind.u64.wrap (h.fin.s.getD i 0)) 4 := List.take_of_length_le (by rw [big_len]; decide)
    rw [e1, e2, e3]
    refine go ?_
    exact w_again (i + 1) (by omega) (by omega)
  · refine go ?_
    have : i = 8 := by omega
    subst this
    refine w_retM hQ (.cons (.there (.there .here)) .nil) ?_
    exact ⟨rfl, rfl⟩
end Go.Proofs.YtngoaapgdfohjaaGreatDoor.TK

set_option linter.unusedVariables false
set_option linter.unusedSimpArgs false
namespace Go.Proofs.YtngoaapgdfohjaaGreatDoor.TK
open Go Go.Proofs.YtngoaapgdfohjaaGreatDoor.X Go.RowKit Go.Proofs
attribute [local go_sem] Oper.semAt_some
def upto : Nat → List (Nat × Nat)
  | 0 => []
  | k + 1 => if primeB (k + 2) then upto k ++ [((upto k).length, k + 2)] else upto k
theorem upto_yes {k : Nat} (h : primeB (k + 2) = true) : upto (k + 1) = upto k ++ [((upto k).length, k + 2)] := by rw [upto, if_pos h]
theorem upto_no {k : Nat} (h : primeB (k + 2) = false) : upto (k + 1) = upto k := by rw [upto, if_neg (by rw [h]; exact Bool.false_ne_true)]
theorem upto_pre {j k : Nat} (h : j ≤ k) : upto j <+: upto k := by
  induction k with
  | zero => have : j = 0 := by omega
            subst this; exact List.prefix_refl _
  | succ k ih =>
    by_cases e : j = k + 1
    · subst e; exact List.prefix_refl _
    · refine (ih (by omega)).trans ?_
      cases hp : primeB (k + 2) with
      | true => rw [upto_yes hp]; exact List.prefix_append _ _
      | false => rw [upto_no hp]; exact List.prefix_refl _
theorem upto_len (k : Nat) : (upto k).length ≤ k := by
  induction k with
  | zero => exact Nat.le_refl _
  | succ k ih =>
    unfold upto
    split
    · rw [List.length_append, List.length_singleton]; omega
    · omega
theorem is_in (n k : Nat) (hk : k ≤ 1048576) (W : World) : CallsIn Fence.wide n Tryz.prog 237 #[.int .i64 (k : Int)] W fun e W' => e = .returned (.bool (primeB k)) ∧ Below W.heap.size W W' := by
  refine callsIn_wide.2 ((c_Is k hk (fun b => W.heap[b]?) W (fun b o h => h)).mono ?_)
  intro e W' h
  cases e with
  | returned v =>
    obtain ⟨G', M', ha, _, hr⟩ := h
    subst hr
    exact ⟨rfl, ha.os, ha.tape, ha.output, ha.size, fun b hb => ha.kept b hb (by simp)⟩
  | panicked c => obtain ⟨_, _, _, hf⟩ := h; exact hf.elim
  | outgrown => exact h.elim
def upM (v : Value) : Nat := match v with
  | .int _ n => (600 - n).toNat
  | _ => 0
set_option maxRecDepth 100000 in
set_option maxHeartbeats 1000000 in
theorem primes1_in (n : Nat) (hn : 1 ≤ n) (l : Nat) (J Jx : List (Nat × Nat) → World → Prop) (hJ : ∀ p W W', J p W → Below W.heap.size W W' → J p W')
    (hY : ∀ pre x W, J pre W → pre.length < 600 → YieldAt Fence.wide (n - 1) Tryz.prog l #[.int .i64 (x.1 : Int), .int .i64 (x.2 : Int)] W fun e W' =>
      (e = .returned (.bool true) ∧ J (pre ++ [x]) W') ∨ (e = .returned (.bool false) ∧ Jx (pre ++ [x]) W')) (W : World) (h0 : J [] W) :
    CallsIn Fence.wide n Tryz.prog 236 #[.func (.yield l) #[] #[]] W fun e W' => (∃ v, e = .returned v) ∧ ((∃ ys, ys = upto 598 ∧ J ys W') ∨ (∃ pre, pre <+: upto 598 ∧ Jx pre W')) := by
  refine callsIn_of_wp Tryz.func236 rfl trivial ?_ rfl
  simp only [Tryz.ntmps236, List.size_toArray, List.length_cons, List.length_nil, Nat.reduceAdd, Nat.reduceSub, Array.replicate_succ, Array.replicate_zero, List.push_toArray, List.append_toArray, List.nil_append, List.cons_append]
  gi_wp2
  gi_loopw [2, 3] (fun vi vn wr => ∃ k : Nat, vi = .int .i64 ((upto k).length : Int) ∧ vn = .int .i64 ((k : Int) + 2) ∧ k ≤ 598 ∧ J (upto k) wr) (fun _ vn _ => upM vn)
  case atStart =>
    exact ⟨0, rfl, rfl, by omega, h0⟩
  case round =>
    obtain ⟨k, rfl, rfl, hk, hJs⟩ := hrel
    by_cases hlt : k < 598
    · have hul := upto_len k
      gi_wp2_with (refine ⟨trivial, ?_⟩; gi_at_call 237; refine (is_in _ (k + 2) (by omega) _).mono ?_; rintro e w' ⟨rfl, hbl⟩; have hJ1 := hJ _ _ _ hJs hbl; have hy0 : YieldAt Fence.wide (n - 1) Tryz.prog l #[.int .i64 ((upto k).length : Int), .int .i64 ((k : Int) + 2)] w' _ := hY (upto k) ((upto k).length, k + 2) w' hJ1 (by have := upto_len k; omega); obtain ⟨fn, tmps, assign, body, hy, hR⟩ := hy0)
      · rename_i hp
        have hp' : primeB (k + 2) = false := by simpa using hp
        refine ⟨⟨k + 1, by rw [upto_no hp'], by congr 1, by omega, by rw [upto_no hp']; exact hJ1⟩, ?_⟩
        show ((600 : Int) - ((k : Int) + 2 + 1)).toNat < ((600 : Int) - ((k : Int) + 2)).toNat
        omega
      · have hp' : primeB (k + 2) = true := by
          have := ‹(!primeB (k + 2)) = false›
          simpa using this
        refine hR.mono ?_
        rintro e W3 (⟨rfl, hJ3⟩ | ⟨rfl, hJx3⟩)
        · gi_wp2
          refine ⟨⟨k + 1, ?_, by congr 1, by omega, by rw [upto_yes hp']; exact hJ3⟩, ?_⟩
          · rw [upto_yes hp', List.length_append]; rfl
          · show ((600 : Int) - ((k : Int) + 2 + 1)).toNat < ((600 : Int) - ((k : Int) + 2)).toNat
            omega
        · gi_wp2
          refine bodyPost_ret (results_none rfl _ _ _) rfl ?_
          exact ⟨⟨_, rfl⟩, .inr ⟨_, by rw [← upto_yes hp']; exact upto_pre (by omega), hJx3⟩⟩
    · have : k = 598 := by omega
      subst this
      gi_wp2
      go_end0
      exact ⟨⟨_, rfl⟩, .inl ⟨_, rfl, hJs⟩⟩
set_option maxHeartbeats 1000000 in
theorem all_in (n : Nat) (w : World) : CallsIn Fence.wide n Tryz.prog 228 #[] w fun e w' => e = .returned (.func (.func 236) #[] #[]) ∧ w' = w := by
  refine callsIn_of_wp Tryz.func228 rfl trivial ?_ rfl
  simp only [Tryz.ntmps228, List.size_toArray, List.length_cons, List.length_nil, Nat.reduceAdd, Nat.reduceSub, Array.replicate_succ, Array.replicate_zero, List.push_toArray, List.append_toArray, List.nil_append, List.cons_append]
  gi_wp2
  go_ret
  exact ⟨rfl, rfl⟩
theorem keptN {W W' : World} {row : Option Nat} {k : Nat} {o : Obj} (h : W.heap[k]? = some o) (hg : W.grownBy W' row) (hne : some k ≠ row) : W'.heap[k]? = some o := (hg.block k (Array.getElem?_eq_some_iff.1 h).1 hne).trans h
theorem notN {W : World} {row : Option Nat} {k : Nat} {c : Array Value} {t : TypeId} {fz : Nat × Nat} (h : W.heap[k]? = some (.cells c t fz)) (hr : ∀ r, row = some r → ∃ o : Obj, W.heap[r]? = some o ∧ o.isCells = false) : some k ≠ row := fun e => by
  obtain ⟨o, ho, hc⟩ := hr k e.symm
  rw [h] at ho; cases ho; cases hc
structure InvN (b : Nat) (w : World) (i : Nat) (pre : List (Nat × Nat)) (W : World) : Prop where
  par : W.heap[b]? = some (.cells #[.int .i64 (i : Int)] 3 (0, 0))
  res : W.heap[b + 1]? = some (.cells #[.int .i64 0] 3 (0, 0))
  no : ∀ y ∈ pre, y.1 ≠ i
  below : Below b w W
structure OutN (b : Nat) (w : World) (i : Nat) (pre : List (Nat × Nat)) (W : World) : Prop where
  out : ∃ q x, pre = q ++ [x] ∧ x.1 = i ∧ W.heap[b + 1]? = some (.cells #[.int .i64 (x.2 : Int)] 3 (0, 0))
  below : Below b w W
theorem InvN.own {b : Nat} {w : World} {i : Nat} (hb : b ≤ w.heap.size) {B : Nat} (hB : b ≤ B) : OwnFrom B (InvN b w i) := by
  rintro pre W W' row h hg hr
  have hr' : ∀ r, row = some r → ∃ o : Obj, W.heap[r]? = some o ∧ o.isCells = false := fun r e => (hr r e).2
  exact ⟨keptN h.par hg (notN h.par hr'), keptN h.res hg (notN h.res hr'), h.no, h.below.grown hg (Nat.le_trans hb h.below.size) (fun k e => Nat.le_trans hB (hr k e).1)⟩
theorem OutN.own {b : Nat} {w : World} {i : Nat} (hb : b ≤ w.heap.size) {B : Nat} (hB : b ≤ B) : OwnFrom B (OutN b w i) := by
  rintro pre W W' row h hg hr
  have hr' : ∀ r, row = some r → ∃ o : Obj, W.heap[r]? = some o ∧ o.isCells = false := fun r e => (hr r e).2
  obtain ⟨q, x, e1, e2, e3⟩ := h.out
  exact ⟨⟨q, x, e1, e2, keptN e3 hg (notN e3 hr')⟩, h.below.grown hg (Nat.le_trans hb h.below.size) (fun k e => Nat.le_trans hB (hr k e).1)⟩
theorem InvN.up {b : Nat} {w : World} {i : Nat} {pre : List (Nat × Nat)} {W W' : World} (h : InvN b w i pre W) (hb : Below W.heap.size W W') : InvN b w i pre W' := by
  have l1 := (Array.getElem?_eq_some_iff.1 h.par).1
  have l2 := (Array.getElem?_eq_some_iff.1 h.res).1
  exact ⟨(hb.block _ l1).trans h.par, (hb.block _ l2).trans h.res, h.no, h.below.trans ⟨hb.os, hb.tape, hb.output, hb.size, fun k hk => hb.block k (by omega)⟩⟩
theorem finN {n D b : Nat} {w W : World} {a : Act} {p : Int} {R : Ending → World → Prop} (hb : b = w.heap.size) (hD : b ≤ D) (hK : W.heap[D]? = some (.deferred (some []))) (h1 : W.heap[b + 1]? = some (.cells #[.int .i64 p] 3 (0, 0)))
    (hbl : Below b w W) (ht2 : a.tmps[2]? = some (.pointer (some ⟨b + 1, 0, none⟩))) (hd : a.defers = [{ target := .collected D, args := #[] }])
    (hR : ∀ W', Below b w W' → R (.returned (.int .i64 p)) W') : bodyPostM Fence.wide n Tryz.prog Tryz.f214 R .ret a W := by
  have hg := grownBy_putObj' W D (.deferred none)
  have hrD : ∀ r, some D = some r → ∃ o : Obj, W.heap[r]? = some o ∧ o.isCells = false := fun r e => by cases e; exact ⟨_, hK, rfl⟩
  have b1 : Boxed (W.putObj D (.deferred none)) (b + 1) 3 (.int .i64 p) := keptN h1 hg (notN h1 hrD)
  have hbl' : Below b w (W.putObj D (.deferred none)) := hbl.grown hg (by subst hb; exact hbl.size) (fun k e => by cases e; omega)
  show LeavesInM Fence.wide n Tryz.prog Tryz.f214 a.tmps R a.defers .returning W
  rw [hd]
  refine ⟨by simp, .inl ⟨_, _, rfl, run_takeDeferred hK, ?_⟩⟩
  exact ⟨_, Res.run (a := a) (vs := [.int .i64 p]) rfl (.cell ht2 (run_loadS (by kernel_rfl) b1.cell) .nil), hR _ hbl'⟩
def nthS (i : Nat) : Int := ([2, 3, 5, 7, 11, 13, 17, 19] : List Int).getD i 0
theorem upto18 : upto 18 = [(0, 2), (1, 3), (2, 5), (3, 7), (4, 11), (5, 13), (6, 17), (7, 19)] := by decide +kernel
theorem upto_hi : ∀ k, 18 ≤ k → 8 ≤ (upto k).length ∧ ∀ x ∈ upto k, x ∈ upto 18 ∨ 8 ≤ x.1 := by
  intro k
  induction k with
  | zero => intro h; omega
  | succ k ih =>
    intro h
    by_cases e : k + 1 = 18
    · rw [e]; exact ⟨by rw [upto18]; decide, fun x hx => .inl hx⟩
    · obtain ⟨h1, h2⟩ := ih (by omega)
      cases hp : primeB (k + 2) with
      | false => rw [upto_no hp]; exact ⟨h1, h2⟩
      | true =>
        rw [upto_yes hp]
        refine ⟨by rw [List.length_append]; omega, fun x hx => ?_⟩
        rcases List.mem_append.1 hx with hx | hx
        · exact h2 x hx
        · rw [List.mem_singleton] at hx; subst hx; exact .inr h1
theorem upto_nth {i : Nat} (hi : i < 8) {x : Nat × Nat} (hx : x ∈ upto 598) (h : x.1 = i) : (x.2 : Int) = nthS i := by
  rcases (upto_hi 598 (by omega)).2 x hx with h1 | h1
  · rw [upto18] at h1
    simp only [List.mem_cons, List.not_mem_nil, or_false] at h1
    rcases h1 with rfl | rfl | rfl | rfl | rfl | rfl | rfl | rfl <;> (subst h; rfl)
  · omega
theorem upto_has {i : Nat} (hi : i < 8) : ∃ x ∈ upto 598, x.1 = i := by
  have : i = 0 ∨ i = 1 ∨ i = 2 ∨ i = 3 ∨ i = 4 ∨ i = 5 ∨ i = 6 ∨ i = 7 := by omega
  have hs : ∀ x ∈ upto 18, x ∈ upto 598 := fun x hx => (upto_pre (by omega : 18 ≤ 598)).subset hx
  rcases this with rfl | rfl | rfl | rfl | rfl | rfl | rfl | rfl
  · exact ⟨(0, 2), hs _ (by rw [upto18]; decide), rfl⟩
  · exact ⟨(1, 3), hs _ (by rw [upto18]; decide), rfl⟩
  · exact ⟨(2, 5), hs _ (by rw [upto18]; decide), rfl⟩
  · exact ⟨(3, 7), hs _ (by rw [upto18]; decide), rfl⟩
  · exact ⟨(4, 11), hs _ (by rw [upto18]; decide), rfl⟩
  · exact ⟨(5, 13), hs _ (by rw [upto18]; decide), rfl⟩
  · exact ⟨(6, 17), hs _ (by rw [upto18]; decide), rfl⟩
  · exact ⟨(7, 19), hs _ (by rw [upto18]; decide), rfl⟩
set_option maxRecDepth 100000 in
set_option maxHeartbeats 2000000 in
theorem nth_in (n : Nat) (hn : 3 ≤ n) (i : Nat) (hi : i < 8) (w : World) :
    CallsIn Fence.wide n Tryz.prog 214 #[.int .i64 (i : Int)] w fun e W' => e = .returned (.int .i64 (nthS i)) ∧ Below w.heap.size w W' := by
  have h1 : 1 ≤ n := by omega
  have h99 : ¬ (99 : Int) < (i : Int) := by omega
  refine callsIn_of_wp_marks Tryz.func214 rfl trivial ?_ rfl
  simp only [Tryz.ntmps214, List.size_toArray, List.length_cons, List.length_nil, Nat.reduceAdd, Nat.reduceSub, Array.replicate_succ, Array.replicate_zero, List.push_toArray, List.append_toArray, List.nil_append, List.cons_append]
  gi_wp2_with (refine ⟨trivial, ?_⟩; gi_at_call 228; refine (all_in (n - 1) _).mono ?_; rintro e w' ⟨rfl, rfl⟩)
  obtain ⟨W0, hW0⟩ : ∃ W0, (w.alloc (Obj.cells #[Value.int .i64 (i : Int)] 3)).alloc (Obj.cells #[Value.int .i64 0] 3) = W0 := ⟨_, rfl⟩
  have hsz : W0.heap.size = w.heap.size + 2 := by rw [← hW0]; simp
  have hb0 : Below w.heap.size w W0 := by rw [← hW0]; exact (((Below.refl _ w).alloc (Nat.le_refl _) _).alloc (by simp) _)
  have hinv : InvN w.heap.size w i [] W0 := by
    have e : W0.heap = (w.heap.push (Obj.cells #[Value.int .i64 (i : Int)] 3)).push (Obj.cells #[Value.int .i64 0] 3) := by rw [← hW0]; rfl
    refine ⟨?_, ?_, by simp, hb0⟩ <;> rw [e] <;> simp only [Array.getElem?_push, Array.size_push] <;> repeat first | rw [if_pos trivial] | rw [if_pos (by omega)] | rw [if_neg (by omega)]
  rw [hW0]
  refine range_cells (gf := 236) (lb := #[]) (N := 600) (S := fun ys => ys = upto 598) (Sp := fun pre => pre <+: upto 598) (encs := fun x : Nat × Nat => #[.int .i64 (x.1 : Int), .int .i64 (x.2 : Int)]) rfl (enters_of Tryz.func236 (by kernel_rfl) rfl) (fun _ => rfl)
    (InvN w.heap.size w i) (fun _ => OutN w.heap.size w i) (InvN.own (Nat.le_refl _) (by omega)) (fun _ => OutN.own (Nat.le_refl _) (by omega)) hinv
    (fun x => { tmps := #[.int .i64 (i : Int), .pointer (some ⟨w.heap.size, 0, none⟩), .pointer (some ⟨w.heap.size + 1, 0, none⟩), .int .i64 (x.1 : Int), .int .i64 (x.2 : Int), .int .i64 (i : Int), .bool false, .func (.func 236) #[] #[], .int .i64 (x.1 : Int), .int .i64 (x.2 : Int), undef, undef, undef, undef], defers := [] })
    ?iter ?assign ?body ?done ?stop
  case iter =>
    intro l K Kx W hK hY hx hI0 hK0
    refine primes1_in (n - 1) (by omega) l (fun pre W => InvN w.heap.size w i pre W ∧ K W) Kx (fun p W W' ⟨h, k⟩ hb => ⟨h.up hb, hK _ _ ⟨hb.size, fun k o hk _ => (hb.block k (Array.getElem?_eq_some_iff.1 hk).1).trans hk⟩ k⟩) (fun pre x W ⟨h, k⟩ hl => ?_) W ⟨hI0, hK0⟩
    obtain ⟨fn, tmps, assign, body, hy, hR⟩ := hY pre x W h k hl
    exact ⟨fn, tmps, assign, body, hy, hR.mono fun e V he => he⟩
  case assign =>
    intro l x W K hK
    gi_wp2
    exact hK
  case body =>
    rintro l pre ⟨x, p⟩ W h hlt
    have hp : Boxed W w.heap.size 3 (.int .i64 (i : Int)) := h.par
    have hc := hp.cell
    have hr : Boxed W (w.heap.size + 1) 3 (.int .i64 0) := h.res
    have hc2 := hr.cell
    have hf2 := hr.frozen
    gi_wp2
    · have e : x = i := by
        have h3 := ‹((x : Int) == (i : Int)) = true›
        have h4 : (x : Int) = (i : Int) := by simpa using h3
        omega
      exact ⟨KeepsOthers.setCell _ _ _, ⟨pre, (x, p), rfl, e, hr.set _⟩, h.below.setCell (p := ⟨w.heap.size + 1, 0, none⟩) (by simp) _⟩
    · have e : x ≠ i := by
        have := ‹((x : Int) == (i : Int)) = false›
        intro e; subst e; simp at this
      exact ⟨KeepsOthers.refl _, h.par, h.res, fun y hy => by
        rcases List.mem_append.1 hy with hy | hy
        · exact h.no y hy
        · rw [List.mem_singleton] at hy; subst hy; exact e, h.below⟩
  case done =>
    rintro D ys W hD rfl h hK
    obtain ⟨x, hx, e⟩ := upto_has hi
    exact absurd e (h.no x hx)
  case stop =>
    rintro D pre W hD hp h hK
    obtain ⟨q, x, e1, e2, e3⟩ := h.out
    have hx : x ∈ upto 598 := hp.subset (by rw [e1]; simp)
    refine finN (D := D) rfl (by omega) hK e3 h.below rfl rfl fun W' hb => ⟨by rw [upto_nth hi hx e2], hb⟩
theorem c_Nth (i : Nat) (hi : i < 8) (G : Heap) : FnP Tryz.prog 214 [.int .i64 (i : Int)] G (.int .i64 (nthS i)) := by
  intro w hG
  exact calls_below hG (callsIn_wide.1 (nth_in 3 (Nat.le_refl _) i hi w))
end Go.Proofs.YtngoaapgdfohjaaGreatDoor.TK

set_option linter.unusedVariables false
set_option linter.unusedSimpArgs false
set_option maxRecDepth 100000
set_option maxHeartbeats 4000000
namespace Go.Proofs.YtngoaapgdfohjaaGreatDoor.TK
open Go Go.Proofs.YtngoaapgdfohjaaGreatDoor.X Go.Proofs
theorem nth_range {i : Nat} (hi : i < 8) : 2 ≤ nthS i ∧ nthS i ≤ 1000 := by
  have : i = 0 ∨ i = 1 ∨ i = 2 ∨ i = 3 ∨ i = 4 ∨ i = 5 ∨ i = 6 ∨ i = 7 := by omega
  rcases this with rfl | rfl | rfl | rfl | rfl | rfl | rfl | rfl <;> decide
def startN : Nat → List Int
  | 0 => List.replicate 8 0
  | i + 1 => (startN i).set i (IntKind.u32.wrap (rootN (nthS i) 37))
theorem startN_len : ∀ i, (startN i).length = 8
  | 0 => rfl
  | i + 1 => by simp only [startN, List.length_set]; exact startN_len i
theorem c_Start (G : Heap) : FnP Tryz.prog 183 [] G (.agg ((startN 8).map (Value.int .u32)).toArray) := by
  refine fnP_in Tryz.func183 rfl Tryz.ntmps183 rfl fun w0 Q0 hQ => ?_
  refine go ?_; intro B0
  refine go ?_; intro B1
  refine go ?_
  rw [← map_rep 8 .u32]
  refine w_loop (fun i : Nat => [(3, .int .i64 (i : Int))]) (fun i => [[(B1, Arr 207 ((startN i).map (Value.int .u32)))], [(B0, Arr 207 ((List.replicate 8 (0 : Int)).map (Value.int .u32)))]]) (fun i _ => i ≤ 8) (fun i => 8 - i) 0 (by omega) ?_
  intro i G1 _ hi
  have hl := startN_len i
  refine go ?_
  refine w_cd rfl (fun h3 => ?_) (fun h3 => ?_)
  · refine go ?_
    refine w_stp (p_call rfl rfl rfl (c_Nth i (by omega) G1)) ?_
    refine go ?_
    refine w_stp (p_call rfl rfl rfl (c_Root _ (nth_range (i := i) (by omega)) G1)) ?_
    refine go ?_
    exact w_again (i + 1) (by omega) (by omega)
  · refine go ?_
    have : i = 8 := by omega
    subst this
    exact w_ret hQ rfl
def newH : HS := ⟨startN 8, List.replicate 64 0, 0⟩
theorem newH_ok : newH.Ok := ⟨startN_len 8, by simp [newH]⟩
theorem bldH : ∀ st : List Int, st.length = 8 → bldOf Tryz.prog 209 [(0, .agg (st.map (Value.int .u32)).toArray)] = some (HS.vs ⟨st, List.replicate 64 0, 0⟩).toArray := by
  intro st h
  have key : ∀ a0 a1 a2 a3 a4 a5 a6 a7 : Int, bldOf Tryz.prog 209 [(0, .agg (([a0, a1, a2, a3, a4, a5, a6, a7] : List Int).map (Value.int .u32)).toArray)] = some (HS.vs ⟨[a0, a1, a2, a3, a4, a5, a6, a7], List.replicate 64 0, 0⟩).toArray := fun a0 a1 a2 a3 a4 a5 a6 a7 => by kernel_rfl
  match st, h with
  | [a0, a1, a2, a3, a4, a5, a6, a7], _ => exact key a0 a1 a2 a3 a4 a5 a6 a7
theorem c_New (G : Heap) : FnM Tryz.prog 141 [] G [] (fun r _ Ms => ∃ b, r = .pointer (some ⟨b, 0, none⟩) ∧ Ms = [HB b newH]) := by
  refine fnM_in Tryz.func141 rfl Tryz.ntmps141 rfl fun w0 K0 Q0 hQ => ?_
  refine go ?_
  refine w_stp (p_call rfl rfl rfl (c_Start G)) ?_
  refine w_stp (p_build rfl rfl (bldH _ (startN_len 8))) ?_
  refine w_boxR rfl rfl fun b => ?_
  refine go ?_
  refine w_retM hQ (.cons .here .nil) ?_
  exact ⟨b, rfl, rfl⟩
def withN (bl : List Int) (c : Int) : Nat → List Int
  | 0 => bl
  | i + 1 => (withN bl c i).set i (bXor .u8 ((withN bl c i).getD i 0) c)
theorem withN_len {bl : List Int} (c : Int) : ∀ i, (withN bl c i).length = bl.length
  | 0 => rfl
  | i + 1 => by simp only [withN, List.length_set]; exact withN_len c i
def withS (bl : List Int) (c : Int) : List Int := withN bl c 64
theorem c_with (bl : List Int) (hb : bl.length = 64) (c : Int) (G : Heap) : FnP Tryz.prog 143 [.agg (bl.map (Value.int .u8)).toArray, .int .u8 c] G (.agg ((withS bl c).map (Value.int .u8)).toArray) := by
  refine fnP_in Tryz.func143 rfl Tryz.ntmps143 rfl fun w0 Q0 hQ => ?_
  refine go ?_; intro B2
  refine go ?_; intro B4
  refine go ?_
  rw [← map_rep 64 .u8]
  refine w_loop (fun i : Nat => [(6, .int .i64 (i : Int))]) (fun i => [[(B4, Arr 150 ((List.replicate 64 (0 : Int)).map (Value.int .u8)))], [(B2, Arr 150 ((withN bl c i).map (Value.int .u8)))]]) (fun i _ => i ≤ 64) (fun i => 64 - i) 0 (by omega) ?_
  intro i G1 _ hi
  have hl := withN_len (bl := bl) c i
  refine go ?_
  refine w_cd rfl (fun h3 => ?_) (fun h3 => ?_)
  · refine go ?_
    exact w_again (i + 1) (by omega) (by omega)
  · refine go ?_
    have : i = 64 := by omega
    subst this
    exact w_ret hQ rfl
end Go.Proofs.YtngoaapgdfohjaaGreatDoor.TK

set_option linter.unusedVariables false
set_option linter.unusedSimpArgs false
set_option maxRecDepth 100000
set_option maxHeartbeats 4000000
namespace Go.Proofs.YtngoaapgdfohjaaGreatDoor.TK
open Go Go.Proofs.YtngoaapgdfohjaaGreatDoor.X Go.Proofs
def putAll (h : HS) (pl : List (List Int)) : HS := pl.foldl HS.put h
def lenAll (pl : List (List Int)) : Nat := pl.foldl (fun n l => n + l.length) 0
theorem lenAll_take {pl : List (List Int)} {i : Nat} (hi : i < pl.length) : lenAll (pl.take (i + 1)) = lenAll (pl.take i) + (pl.getD i []).length := by
  rw [List.take_add_one, List.getElem?_eq_getElem hi]
  simp only [lenAll, List.foldl_append, Option.toList_some, List.foldl_cons, List.foldl_nil, List.getD_eq_getElem?_getD, List.getElem?_eq_getElem hi, Option.getD_some]
theorem lenAll_from (pl : List (List Int)) : ∀ n, pl.foldl (fun n l => n + l.length) n = n + lenAll pl := by
  unfold lenAll
  induction pl with
  | nil => intro n; rfl
  | cons p pl ih => intro n; simp only [List.foldl_cons]; rw [ih, ih (0 + p.length)]; omega
theorem lenAll_le (pl : List (List Int)) (i : Nat) : lenAll (pl.take i) ≤ lenAll pl := by
  have h : lenAll pl = lenAll (pl.take i) + lenAll (pl.drop i) := by
    conv => lhs; rw [← List.take_append_drop i pl]
    unfold lenAll
    rw [List.foldl_append, lenAll_from]
    rfl
  omega
theorem putAll_take {h : HS} {pl : List (List Int)} {i : Nat} (hi : i < pl.length) : putAll h (pl.take (i + 1)) = (putAll h (pl.take i)).put (pl.getD i []) := by
  rw [List.take_add_one, List.getElem?_eq_getElem hi]
  simp only [putAll, List.foldl_append, Option.toList_some, List.foldl_cons, List.foldl_nil, List.getD_eq_getElem?_getD, List.getElem?_eq_getElem hi, Option.getD_some]
theorem putAll_ok {h : HS} (k : h.Ok) : ∀ pl, (putAll h pl).Ok := by
  intro pl
  induction pl generalizing h with
  | nil => exact k
  | cons p pl ih => exact ih (HS.put_ok k p)
theorem putAll_n (h : HS) : ∀ pl, (putAll h pl).n = h.n + lenAll pl := by
  intro pl
  induction pl generalizing h with
  | nil => rfl
  | cons p pl ih =>
    simp only [putAll, List.foldl_cons] at ih ⊢
    rw [ih, HS.put_n]
    have h := lenAll_from pl (0 + p.length)
    unfold lenAll at *
    simp only [List.foldl_cons]
    omega
abbrev KB8 : Knd (List Int) := Knd.slice (Knd.int .u8)
def sumS (pl : List (List Int)) : List Int := (putAll newH pl).dig
theorem c_Sum (pl : List (List Int)) (A : Option Addr) (c : Nat) (G : Heap) (hR : Rd KB8 G A pl) (hl : pl.length ≤ 1000) (hn : lenAll pl ≤ 1152921504606846000) (hK : CellsAt G 5 0 (ks.map (Value.int .u32))) :
    FnP Tryz.prog 146 [.slice A pl.length c] G (.agg ((sumS pl).map (Value.int .u8)).toArray) := by
  refine fnP_in Tryz.func146 rfl Tryz.ntmps146 rfl fun w0 Q0 hQ => ?_
  refine go ?_; intro B2
  refine go ?_
  refine w_callM rfl rfl rfl (c_New G) .nil fun r G1 Ms _ hr => ?_
  obtain ⟨b, rfl, rfl⟩ := hr
  rw [← map_rep 32 .u8]
  refine go ?_
  refine w_loop (fun i : Nat => [(9, .int .i64 (i : Int))]) (fun i => [HB b (putAll newH (pl.take i)), [(B2, Arr 97 ((List.replicate 32 (0 : Int)).map (Value.int .u8)))]]) (fun i _ => i ≤ pl.length) (fun i => pl.length - i) 0 (by omega) ?_
  intro i G2 _ hi
  have hll := lenAll_le pl i
  have hpn : (putAll newH (pl.take i)).n = lenAll (pl.take i) := by rw [putAll_n]; simp [newH]
  have hok := putAll_ok newH_ok (pl.take i)
  refine go ?_
  refine w_cd rfl (fun h3 => ?_) (fun h3 => ?_)
  · have hi' : i < pl.length := by omega
    have h4 := lenAll_take hi'
    have h5 := lenAll_le pl (i + 1)
    refine go ?_
    refine w_ldSl rfl rfl rfl hR inferInstance hi' fun A1 c1 hR1 hc1 => ?_
    refine go ?_
    refine w_callM rfl rfl rfl (c_Write _ hok b _ _ _ G2 hR1.up (by omega) hK.up) (.cons .here .nil) fun r G3 Ms _ hr => ?_
    obtain ⟨rfl, rfl⟩ := hr
    rw [← putAll_take hi']
    refine go ?_
    exact w_again (i + 1) (by omega) (by omega)
  · have : i = pl.length := by omega
    subst this
    rw [List.take_length] at hpn hok ⊢
    refine go ?_
    refine w_stp (p_callM rfl rfl rfl (c_SumH _ hok b G2 (by omega) hK.up) (.cons .here .nil)) ?_
    have hd : (putAll newH pl).dig.length = 32 := outN_len _ 8 (Nat.le_refl _)
    refine go ?_
    exact w_ret hQ rfl
end Go.Proofs.YtngoaapgdfohjaaGreatDoor.TK

set_option linter.unusedVariables false
set_option linter.unusedSimpArgs false
set_option maxRecDepth 100000
set_option maxHeartbeats 4000000
namespace Go.Proofs.YtngoaapgdfohjaaGreatDoor.TK
open Go Go.Proofs.YtngoaapgdfohjaaGreatDoor.X Go.Proofs
theorem dig_len (h : HS) : h.dig.length = 32 := outN_len _ 8 (Nat.le_refl _)
theorem sum_len (pl : List (List Int)) : (sumS pl).length = 32 := dig_len _
def fillS (l : List Int) : List Int := (List.replicate 64 (0 : Int)).take 0 ++ l.take (min l.length 64) ++ (List.replicate 64 (0 : Int)).drop (0 + min l.length 64)
def blockS (key : List Int) : List Int := if key.length ≤ 64 then fillS key else fillS (sumS [key])
theorem fill_len (l : List Int) : (fillS l).length = 64 := by
  unfold fillS
  simp only [List.length_append, List.length_take, List.length_drop, List.length_replicate]
  omega
theorem block_len (l : List Int) : (blockS l).length = 64 := by unfold blockS; split <;> exact fill_len _
theorem c_Block (l : List Int) (A : Option Addr) (c : Nat) (G : Heap) (hR : Rd (Knd.int .u8) G A l) (hc : l.length ≤ c) (hl : l.length ≤ 1000000) (hK : CellsAt G 5 0 (ks.map (Value.int .u32))) :
    FnP Tryz.prog 142 [.slice A l.length c] G (.agg ((blockS l).map (Value.int .u8)).toArray) := by
  refine fnP_in Tryz.func142 rfl Tryz.ntmps142 rfl fun w0 Q0 hQ => ?_
  refine go ?_; intro B2
  refine go ?_; intro B3
  refine go ?_
  rw [← map_rep 64 .u8]
  refine w_cd rfl (fun h => ?_) (fun h => ?_)
  · refine go ?_
    refine w_lit (K := KB8) [l] rfl rfl rfl (cs := #[.slice A l.length c]) (by kernel_rfl) ⟨⟨_, rfl, A, c, rfl, hc, hR⟩, rfl⟩ fun b G1 _ hR1 => ?_
    have hs := sum_len [l]
    refine w_stp (p_call rfl rfl rfl (c_Sum [l] (some ⟨b, 0, none⟩) 1 G1 hR1 (by simp) (by simp [lenAll]; omega) hK.up)) ?_
    refine go ?_; intro B4
    refine go ?_
    refine w_still B4 .here fun G2 _ hC => ?_
    refine w_as 13 (.slice (some ⟨B4, 0, none⟩) (sumS [l]).length 32) rfl (by rw [hs]) ?_
    refine w_copy rfl rfl rfl rfl (Rd.nums hC) (.refl _) (.here .here) (by simp only [List.length_replicate]; omega) ?_
    refine w_blkAs (q := Arr 150 ((fillS (sumS [l])).map (Value.int .u8))) (.here .here) rfl ?_
    have hf := fill_len (sumS [l])
    refine go ?_
    refine w_ret hQ ?_
    unfold blockS; rw [if_neg (by omega)]; rfl
  · refine go ?_
    refine w_copy rfl rfl rfl rfl hR inferInstance (.here .here) (by simp only [List.length_replicate]; omega) ?_
    refine w_blkAs (q := Arr 150 ((fillS l).map (Value.int .u8))) (.here .here) rfl ?_
    have hf := fill_len l
    refine go ?_
    refine w_ret hQ ?_
    unfold blockS; rw [if_pos (by omega)]; rfl
/-- A seal in the making. -/
abbrev MB (b bh : Nat) (bl : List Int) : Chunk := [(b, Arr 152 (.pointer (some ⟨bh, 0, none⟩) :: bl.map (Value.int .u8)))]
def macH (key : List Int) : HS := newH.put (withS (blockS key) 54)
theorem with_len {bl : List Int} (h : bl.length = 64) (c : Int) : (withS bl c).length = 64 := (withN_len c 64).trans h
theorem bldM (bh : Nat) : ∀ bl : List Int, bl.length = 64 → bldOf Tryz.prog 152 [(0, .pointer (some ⟨bh, 0, none⟩)), (1, .agg (bl.map (Value.int .u8)).toArray)] = some (Value.pointer (some ⟨bh, 0, none⟩) :: bl.map (Value.int .u8)).toArray := by
  intro bl h
  have key : ∀ g : Nat → Int, bldOf Tryz.prog 152 [(0, .pointer (some ⟨bh, 0, none⟩)), (1, .agg (((List.range 64).map g).map (Value.int .u8)).toArray)] = some (Value.pointer (some ⟨bh, 0, none⟩) :: ((List.range 64).map g).map (Value.int .u8)).toArray := fun g => by kernel_rfl
  have e : bl = (List.range 64).map (fun i => bl.getD i 0) := by
    refine List.ext_getElem (by simp [h]) fun i h1 h2 => ?_
    simp [List.getD, List.getElem?_eq_getElem h1]
  rw [e]; exact key _
theorem c_NewM (l : List Int) (A : Option Addr) (c : Nat) (G : Heap) (hR : Rd (Knd.int .u8) G A l) (hc : l.length ≤ c) (hl : l.length ≤ 1000000) (hK : CellsAt G 5 0 (ks.map (Value.int .u32))) :
    FnM Tryz.prog 104 [.slice A l.length c] G [] (fun r _ Ms => ∃ b bh, r = .pointer (some ⟨b, 0, none⟩) ∧ Ms = [MB b bh (blockS l), HB bh (macH l)]) := by
  refine fnM_in Tryz.func104 rfl Tryz.ntmps104 rfl fun w0 K0 Q0 hQ => ?_
  have hb := block_len l
  refine go ?_
  refine w_callM rfl rfl rfl (c_New G) .nil fun r G1 Ms _ hr => ?_
  obtain ⟨bh, rfl, rfl⟩ := hr
  refine go ?_
  refine w_stp (p_call rfl rfl rfl (c_Block l A c G1 hR.up hc hl hK.up)) ?_
  refine w_stp (p_build rfl rfl (bldM bh _ hb)) ?_
  refine w_boxR rfl rfl fun b => ?_
  refine go ?_
  refine w_stp (p_ldRP (us := (blockS l).map (Value.int .u8)) rfl rfl rfl (.here .here) (by rw [Nat.zero_add, List.drop_succ_cons, List.drop_zero]; exact List.take_of_length_le (by rw [List.length_map, hb]; exact Nat.le_refl _)) (by rw [List.length_map, hb])) ?_
  refine w_stp (p_call rfl rfl rfl (c_with _ hb 54 G1)) ?_
  have hw := with_len hb 54
  refine go ?_; intro B4
  refine go ?_
  refine w_dt 5 (by kernel_rfl) ?_
  refine dg ?_
  refine w_still B4 .here fun G2 _ hC => ?_
  refine w_as 19 (.slice (some ⟨B4, 0, none⟩) (withS (blockS l) 54).length 64) rfl (by rw [hw]) ?_
  refine w_callM rfl rfl rfl (c_Write newH newH_ok bh _ _ _ G2 (Rd.nums hC) (by rw [hw]; simp [newH]) hK.up) (.cons (.there .here) .nil) fun r G3 Ms _ hr => ?_
  obtain ⟨rfl, rfl⟩ := hr
  refine go ?_
  refine w_retM hQ (.cons (.there .here) (.cons .here .nil)) ?_
  exact ⟨b, bh, rfl, rfl⟩
end Go.Proofs.YtngoaapgdfohjaaGreatDoor.TK

set_option linter.unusedVariables false
set_option linter.unusedSimpArgs false
set_option maxRecDepth 100000
set_option maxHeartbeats 400000
namespace Go.Proofs.YtngoaapgdfohjaaGreatDoor.TK
open Go Go.Proofs.YtngoaapgdfohjaaGreatDoor.X Go.Proofs
theorem c_Seal (h : HS) (k : h.Ok) (hn : h.n ≤ 1000000000) (bl : List Int) (hb : bl.length = 64) (b bh : Nat) (G : Heap) (hK : CellsAt G 5 0 (ks.map (Value.int .u32))) :
    FnM Tryz.prog 106 [.pointer (some ⟨b, 0, none⟩)] G [MB b bh bl, HB bh h] (fun r _ Ms => r = .agg ((sumS [withS bl 92, h.dig]).map (Value.int .u8)).toArray ∧ Ms = [MB b bh bl, HB bh h]) := by
  refine fnM_in Tryz.func106 rfl Tryz.ntmps106 rfl fun w0 K0 Q0 hQ => ?_
  refine go ?_; intro B2
  refine go ?_
  refine w_da 12 [(10, 3, Arr 97 (List.replicate 32 (Value.int .u8 0))), (11, 4, Arr 150 (List.replicate 64 (Value.int .u8 0)))] (by kernel_rfl) (by kernel_rfl) ?_
  refine dga ?_
  refine .cons rfl (fun R => p_callM rfl rfl rfl (c_SumH h k bh G (by omega) hK) (.cons (.there (.there .here)) .nil)) (dga ?_)
  refine .cons rfl (fun R => p_ldRP (us := bl.map (Value.int .u8)) rfl rfl rfl (.there (.here .here)) (by rw [Nat.zero_add, List.drop_succ_cons, List.drop_zero]; exact List.take_of_length_le (by rw [List.length_map, hb]; exact Nat.le_refl _)) (by rw [List.length_map, hb])) (dga ?_)
  refine .cons rfl (fun R => p_call rfl rfl rfl (c_with _ hb 92 G)) (dga ?_)
  intro G1 _ B3 B4
  have hw := with_len hb 92
  have hd := dig_len h
  refine go ?_
  refine w_still B4 .here fun G2 _ hC4 => ?_
  refine w_still B3 .here fun G3 _ hC3 => ?_
  refine w_dt 2 (by kernel_rfl) ?_
  refine dg ?_
  refine w_as 15 (.slice (some ⟨B4, 0, none⟩) (withS bl 92).length 64) rfl (by rw [hw]) ?_
  refine w_as 16 (.slice (some ⟨B3, 0, none⟩) h.dig.length 32) rfl (by rw [hd]) ?_
  refine w_lit (K := KB8) [withS bl 92, h.dig] rfl rfl rfl (cs := #[.slice (some ⟨B4, 0, none⟩) (withS bl 92).length 64, .slice (some ⟨B3, 0, none⟩) h.dig.length 32]) (by kernel_rfl) ⟨⟨_, rfl, _, _, rfl, by omega, (Rd.nums hC4).up⟩, ⟨_, rfl, _, _, rfl, by omega, Rd.nums hC3⟩, rfl⟩ fun b5 G4 _ hR1 => ?_
  refine w_stp (p_call rfl rfl rfl (c_Sum [withS bl 92, h.dig] (some ⟨b5, 0, none⟩) 2 G4 hR1 (by simp) (by simp [lenAll]; omega) hK.up)) ?_
  have hs := sum_len [withS bl 92, h.dig]
  refine go ?_
  refine w_retM hQ (.cons (.there .here) (.cons (.there .here) .nil)) ?_
  exact ⟨rfl, rfl⟩
def macSealS (h : HS) (bl : List Int) : List Int := sumS [withS bl 92, h.dig]
def macS (key : List Int) (pl : List (List Int)) : List Int := macSealS (putAll (macH key) pl) (blockS key)
theorem macH_ok (l : List Int) : (macH l).Ok := by unfold macH; exact HS.put_ok newH_ok _
theorem macH_n (l : List Int) : (macH l).n = 64 := by
  unfold macH
  rw [HS.put_n, with_len (block_len l) 54]
  rfl
attribute [local irreducible] macH blockS newH HS.put
theorem c_MacSum (l : List Int) (A : Option Addr) (c : Nat) (G : Heap) (hR : Rd (Knd.int .u8) G A l) (hc : l.length ≤ c) (hl : l.length ≤ 1000000) (pl : List (List Int)) (A2 : Option Addr) (c2 : Nat) (hR2 : Rd KB8 G A2 pl) (hl2 : pl.length ≤ 1000) (hn : lenAll pl ≤ 100000000) (hK : CellsAt G 5 0 (ks.map (Value.int .u32))) :
    FnP Tryz.prog 61 [.slice A l.length c, .slice A2 pl.length c2] G (.agg ((macS l pl).map (Value.int .u8)).toArray) := by
  refine fnP_in Tryz.func61 rfl Tryz.ntmps61 rfl fun w0 Q0 hQ => ?_
  refine go ?_; intro B4
  refine go ?_
  refine w_callM rfl rfl rfl (c_NewM l A c G hR hc hl hK) .nil fun r G1 Ms _ hr => ?_
  obtain ⟨b, bh, rfl, rfl⟩ := hr
  refine go ?_
  rw [← map_rep 32 .u8]
  refine w_loop (fun i : Nat => [(12, .int .i64 (i : Int))]) (fun i => [MB b bh (blockS l), HB bh (putAll (macH l) (pl.take i)), [(B4, Arr 97 ((List.replicate 32 (0 : Int)).map (Value.int .u8)))]]) (fun i _ => i ≤ pl.length) (fun i => pl.length - i) 0 (by omega) ?_
  intro i G2 _ hi
  have hll := lenAll_le pl i
  have hpn : (putAll (macH l) (pl.take i)).n = 64 + lenAll (pl.take i) := by rw [putAll_n, macH_n]
  have hok := putAll_ok (macH_ok l) (pl.take i)
  refine go ?_
  refine w_cd rfl (fun h3 => ?_) (fun h3 => ?_)
  · have hi' : i < pl.length := by omega
    have h4 := lenAll_take hi'
    have h5 := lenAll_le pl (i + 1)
    refine go ?_
    refine w_ldSl rfl rfl rfl hR2 inferInstance hi' fun A1 c1 hR1 hc1 => ?_
    refine go ?_
    refine w_callM rfl rfl rfl (c_Write _ hok bh _ _ _ G2 hR1.up (by omega) hK.up) (.cons (.there .here) .nil) fun r G3 Ms _ hr => ?_
    obtain ⟨rfl, rfl⟩ := hr
    rw [← putAll_take hi']
    refine go ?_
    refine mem [MB b bh (blockS l), HB bh (putAll (macH l) (pl.take (i + 1))), [(B4, Arr 97 ((List.replicate 32 (0 : Int)).map (Value.int .u8)))]] ?_
    exact w_again (i + 1) (by omega) (by omega)
  · have : i = pl.length := by omega
    subst this
    rw [List.take_length] at hpn hok ⊢
    refine go ?_
    refine w_callM rfl rfl rfl (c_Seal _ hok (by omega) (blockS l) (block_len l) b bh G2 hK.up) (.cons .here (.cons .here .nil)) fun r G3 Ms _ hr => ?_
    obtain ⟨rfl, rfl⟩ := hr
    have hs := sum_len [withS (blockS l) 92, (putAll (macH l) pl).dig]
    refine go ?_
    exact w_ret hQ rfl
end Go.Proofs.YtngoaapgdfohjaaGreatDoor.TK

set_option linter.unusedVariables false
set_option linter.unusedSimpArgs false
set_option maxRecDepth 100000
set_option maxHeartbeats 400000
namespace Go.Proofs.YtngoaapgdfohjaaGreatDoor.TK
open Go Go.Proofs.YtngoaapgdfohjaaGreatDoor.X Go.Proofs
def frameS (pl : List (List Int)) : List Int := pl.foldl (fun o p => o ++ bigS (p.length : Int) 8 ++ p) []
attribute [local irreducible] macH blockS newH HS.put bigS
end Go.Proofs.YtngoaapgdfohjaaGreatDoor.TK

set_option linter.unusedVariables false
set_option linter.unusedSimpArgs false
set_option maxRecDepth 100000
set_option maxHeartbeats 400000
namespace Go.Proofs.YtngoaapgdfohjaaGreatDoor.TK
open Go Go.Proofs.YtngoaapgdfohjaaGreatDoor.X Go.Proofs
def hexB : Bs := [48,49,50,51,52,53,54,55,56,57,97,98,99,100,101,102]
theorem nib (v : Int) (h : 0 ≤ v ∧ v < 256) : (0 ≤ shrI .u8 v 4 ∧ shrI .u8 v 4 < 16) ∧ (0 ≤ bAnd .u8 v 15 ∧ bAnd .u8 v 15 < 16) := by
  have key : ∀ n : Fin 256, (0 ≤ shrI .u8 (n.val : Int) 4 ∧ shrI .u8 (n.val : Int) 4 < 16) ∧ (0 ≤ bAnd .u8 (n.val : Int) 15 ∧ bAnd .u8 (n.val : Int) 15 < 16) := by decide +kernel
  have := key ⟨v.toNat, by omega⟩
  rwa [show ((v.toNat : Nat) : Int) = v from by omega] at this
def encS (l : List Int) : List Int := l.foldl (fun o v => o ++ [bt hexB (shrI .u8 v 4), bt hexB (bAnd .u8 v 15)]) []
theorem enc_take {l : List Int} {i : Nat} (hi : i < l.length) : encS (l.take (i + 1)) = encS (l.take i) ++ [bt hexB (shrI .u8 (l.getD i 0) 4), bt hexB (bAnd .u8 (l.getD i 0) 15)] := by
  rw [List.take_add_one, List.getElem?_eq_getElem hi]
  simp only [encS, List.foldl_append, Option.toList_some, List.foldl_cons, List.foldl_nil, List.getD_eq_getElem?_getD, List.getElem?_eq_getElem hi, Option.getD_some]
theorem enc_len (l : List Int) : (encS l).length = 2 * l.length := by
  have key : ∀ (l : List Int) (o : List Int), (l.foldl (fun o v => o ++ [bt hexB (shrI .u8 v 4), bt hexB (bAnd .u8 v 15)]) o).length = o.length + 2 * l.length := by
    intro l
    induction l with
    | nil => intro o; simp
    | cons p l ih => intro o; simp only [List.foldl_cons, List.length_cons]; rw [ih]; simp; omega
  simpa [encS] using key l []
theorem c_Encode (l : List Int) (h8 : ∀ v ∈ l, 0 ≤ v ∧ v < 256) (A : Option Addr) (c : Nat) (G : Heap) (hR : Rd (Knd.int .u8) G A l) (hl : l.length ≤ 1000000) :
    FnP Tryz.prog 90 [.slice A l.length c] G (str ((encS l).map fun n => UInt8.ofNat n.toNat)) := by
  refine fnP_in Tryz.func90 rfl Tryz.ntmps90 rfl fun w0 Q0 hQ => ?_
  refine go ?_
  refine w_as 8 (.int .i64 ((2 * l.length : Nat) : Int)) rfl (by congr 1) ?_
  refine w_makeO (K := Knd.int .u8) rfl rfl rfl rfl (by omega) (by omega) fun A0 c0 C0 hO => ?_
  refine go ?_
  refine w_loop (α := Nat × Option Addr × Nat × Chunk) (fun x => [(3, .slice x.2.1 (encS (l.take x.1)).length x.2.2.1), (12, .int .i64 (x.1 : Int))]) (fun x => [x.2.2.2]) (fun x G => x.1 ≤ l.length ∧ X.Own (Knd.int .u8) 5 G x.2.1 x.2.2.1 (encS (l.take x.1)) x.2.2.2) (fun x => l.length - x.1) (0, A0, c0, C0) ⟨by omega, hO⟩ ?_
  rintro ⟨i, A3, c3, C3⟩ G1 _ ⟨hi, hO3⟩
  dsimp only at hi hO3 ⊢
  have hfl := enc_len (l.take i)
  have hil : (l.take i).length = i := by rw [List.length_take]; omega
  refine go ?_
  refine w_cd rfl (fun h3 => ?_) (fun h3 => ?_)
  · have hi' : i < l.length := by omega
    have hv : 0 ≤ l.getD i 0 ∧ l.getD i 0 < 256 := by
      rw [List.getD_eq_getElem?_getD, List.getElem?_eq_getElem hi', Option.getD_some]
      exact h8 _ (List.getElem_mem hi')
    refine go ?_
    have hn := nib _ hv
    refine w_dc 8 (by kernel_rfl) ?_
    refine dcg ?_
    refine .cons (p_index (r := hexB) rfl rfl rfl rfl hn.1) (dcg ?_)
    refine .cons (p_index (r := hexB) rfl rfl rfl rfl hn.2) (dcg ?_)
    refine .call (r_lit (K := Knd.int .u8) [bt hexB (shrI .u8 (l.getD i 0) 4), bt hexB (bAnd .u8 (l.getD i 0) 15)] rfl rfl rfl (cs := #[.int .u8 (bt hexB (shrI .u8 (l.getD i 0) 4)), .int .u8 (bt hexB (bAnd .u8 (l.getD i 0) 15))]) (by kernel_rfl) ⟨rfl, rfl, rfl⟩) (.nil ?_)
    intro G2 _; simp only [KC]; rintro _ ⟨b, rfl, hR1⟩
    refine w_app rfl rfl hO3 inferInstance .here rfl hR1 (.refl _) rfl (kone_int _) (by simp only [List.length_cons, List.length_nil]; omega) fun A c C hO2 => ?_
    rw [← enc_take hi'] at hO2
    rw [← enc_take hi']
    refine go ?_
    exact w_again (i + 1, A, c, C) ⟨by omega, hO2⟩ (by show l.length - (i + 1) < l.length - i; omega)
  · have : i = l.length := by omega
    subst this
    rw [List.take_length] at hO3 ⊢
    refine go ?_
    refine w_stillO hO3 (.refl _) .here fun G3 _ hR3 hc => ?_
    refine w_stp (p_b2s rfl rfl hR3 (.refl _)) ?_
    refine go ?_
    exact w_ret hQ rfl
end Go.Proofs.YtngoaapgdfohjaaGreatDoor.TK

set_option linter.unusedVariables false
set_option linter.unusedSimpArgs false
set_option maxRecDepth 100000
set_option maxHeartbeats 400000
namespace Go.Proofs.YtngoaapgdfohjaaGreatDoor.TK
open Go Go.Proofs.YtngoaapgdfohjaaGreatDoor.X Go.Proofs
def Oct (l : List Int) : Prop := ∀ v ∈ l, 0 ≤ v ∧ v < 256
theorem u8_rng (n : Int) : 0 ≤ IntKind.u8.wrap n ∧ IntKind.u8.wrap n < 256 := by
  simp only [IntKind.wrap, IntKind.signed, IntKind.bits]
  constructor <;> simp <;> omega
theorem bigA_oct (v : Int) (n : Nat) : ∀ k, Oct (bigA v n k)
  | 0 => fun u hu => by
    have := List.eq_of_mem_replicate hu
    omega
  | k + 1 => fun u hu => by
    rcases List.mem_or_eq_of_mem_set hu with h | rfl
    · exact bigA_oct v n k u h
    · exact u8_rng _
theorem outN_oct (s : List Int) : ∀ i, Oct (outN s i)
  | 0 => fun u hu => by
    have := List.eq_of_mem_replicate hu
    omega
  | i + 1 => fun u hu => by
    simp only [outN, List.mem_append] at hu
    rcases hu with (h | h) | h
    · exact outN_oct s i u (List.mem_of_mem_take h)
    · exact bigA_oct _ _ _ u h
    · exact outN_oct s i u (List.mem_of_mem_drop h)
theorem mac_oct (l : List Int) (pl : List (List Int)) : Oct (macS l pl) := outN_oct _ 8
theorem mac_len (l : List Int) (pl : List (List Int)) : (macS l pl).length = 32 := sum_len _
def txt (l : List Int) : Bs := l.map fun n => UInt8.ofNat n.toNat
attribute [local irreducible] macH blockS newH HS.put bigS macS frameS encS
end Go.Proofs.YtngoaapgdfohjaaGreatDoor.TK

set_option linter.unusedVariables false
set_option linter.unusedSimpArgs false
set_option maxRecDepth 100000
set_option maxHeartbeats 4000000
namespace Go.Proofs.YtngoaapgdfohjaaGreatDoor.TK
open Go Go.Proofs.YtngoaapgdfohjaaGreatDoor.X Go.Proofs
attribute [local irreducible] macH blockS newH HS.put bigS macS frameS encS
end Go.Proofs.YtngoaapgdfohjaaGreatDoor.TK
