/- Parts of texts and of rows; bytes. -/
import Derived.Test.YtomidniaekeafaaGreatDoorY2
import Derived.Test.YtomidniaekeafaaGreatDoorProg
import Derived.KernelRfl
/- Tables of the types, written by a program of this work (tab.lean.txt). -/
namespace Go.Proofs.YtomidniaekeafaaGreatDoorAbs
open Go Go.RowKit Go.Proofs
set_option maxRecDepth 100000
@[simp] theorem ty2 : tyI Tryz.prog 2 = some (false, 1) := by kernel_rfl
@[simp] theorem co2 : Program.cellsOf Tryz.prog 2 = 1 := by kernel_rfl
@[simp] theorem un2 : Program.underlying Tryz.prog 2 = some (.int .i64) := by kernel_rfl
@[simp] theorem zr2 : zrI Tryz.prog 2 = some [.int .i64 0] := by kernel_rfl
@[simp] theorem ty3 : tyI Tryz.prog 3 = some (false, 1) := by kernel_rfl
@[simp] theorem co3 : Program.cellsOf Tryz.prog 3 = 1 := by kernel_rfl
@[simp] theorem un3 : Program.underlying Tryz.prog 3 = some (.int .i64) := by kernel_rfl
@[simp] theorem zr3 : zrI Tryz.prog 3 = some [.int .i64 0] := by kernel_rfl
@[simp] theorem ty4 : tyI Tryz.prog 4 = some (false, 1) := by kernel_rfl
@[simp] theorem co4 : Program.cellsOf Tryz.prog 4 = 1 := by kernel_rfl
@[simp] theorem zr4 : zrI Tryz.prog 4 = some [.bool false] := by kernel_rfl
@[simp] theorem ty5 : tyI Tryz.prog 5 = some (false, 1) := by kernel_rfl
@[simp] theorem co5 : Program.cellsOf Tryz.prog 5 = 1 := by kernel_rfl
@[simp] theorem un5 : Program.underlying Tryz.prog 5 = some (.int .u8) := by kernel_rfl
@[simp] theorem zr5 : zrI Tryz.prog 5 = some [.int .u8 0] := by kernel_rfl
@[simp] theorem ty6 : tyI Tryz.prog 6 = some (false, 1) := by kernel_rfl
@[simp] theorem co6 : Program.cellsOf Tryz.prog 6 = 1 := by kernel_rfl
@[simp] theorem un6 : Program.underlying Tryz.prog 6 = some (.int .u8) := by kernel_rfl
@[simp] theorem zr6 : zrI Tryz.prog 6 = some [.int .u8 0] := by kernel_rfl
@[simp] theorem ty7 : tyI Tryz.prog 7 = some (true, 4) := by kernel_rfl
@[simp] theorem co7 : Program.cellsOf Tryz.prog 7 = 4 := by kernel_rfl
@[simp] theorem fl7_0 : flI Tryz.prog 7 0 = some (0, false, 1) := by kernel_rfl
@[simp] theorem fl7_1 : flI Tryz.prog 7 1 = some (1, false, 1) := by kernel_rfl
@[simp] theorem fl7_2 : flI Tryz.prog 7 2 = some (2, false, 1) := by kernel_rfl
@[simp] theorem fl7_3 : flI Tryz.prog 7 3 = some (3, false, 1) := by kernel_rfl
@[simp] theorem pl7 : plI Tryz.prog 7 = some [(0, 1), (1, 1), (2, 1), (3, 1)] := by kernel_rfl
@[simp] theorem zr7 : zrI Tryz.prog 7 = some [.int .i64 0, .int .i64 0, .bool false, .int .u8 0] := by kernel_rfl
@[simp] theorem ty8 : tyI Tryz.prog 8 = some (true, 4) := by kernel_rfl
@[simp] theorem co8 : Program.cellsOf Tryz.prog 8 = 4 := by kernel_rfl
@[simp] theorem fl8_0 : flI Tryz.prog 8 0 = some (0, false, 1) := by kernel_rfl
@[simp] theorem fl8_1 : flI Tryz.prog 8 1 = some (1, false, 1) := by kernel_rfl
@[simp] theorem fl8_2 : flI Tryz.prog 8 2 = some (2, false, 1) := by kernel_rfl
@[simp] theorem fl8_3 : flI Tryz.prog 8 3 = some (3, false, 1) := by kernel_rfl
@[simp] theorem pl8 : plI Tryz.prog 8 = some [(0, 1), (1, 1), (2, 1), (3, 1)] := by kernel_rfl
@[simp] theorem zr8 : zrI Tryz.prog 8 = some [.int .i64 0, .int .i64 0, .bool false, .int .u8 0] := by kernel_rfl
@[simp] theorem ty9 : tyI Tryz.prog 9 = some (false, 1) := by kernel_rfl
@[simp] theorem co9 : Program.cellsOf Tryz.prog 9 = 1 := by kernel_rfl
@[simp] theorem st9 : isStr Tryz.prog 9 = true := by kernel_rfl
@[simp] theorem zr9 : zrI Tryz.prog 9 = some [.string ⟨#[]⟩] := by kernel_rfl
@[simp] theorem ty10 : tyI Tryz.prog 10 = some (false, 1) := by kernel_rfl
@[simp] theorem co10 : Program.cellsOf Tryz.prog 10 = 1 := by kernel_rfl
@[simp] theorem st10 : isStr Tryz.prog 10 = true := by kernel_rfl
@[simp] theorem zr10 : zrI Tryz.prog 10 = some [.string ⟨#[]⟩] := by kernel_rfl
@[simp] theorem ty11 : tyI Tryz.prog 11 = some (false, 1) := by kernel_rfl
@[simp] theorem co11 : Program.cellsOf Tryz.prog 11 = 1 := by kernel_rfl
@[simp] theorem st11 : isStr Tryz.prog 11 = true := by kernel_rfl
@[simp] theorem zr11 : zrI Tryz.prog 11 = some [.string ⟨#[]⟩] := by kernel_rfl
@[simp] theorem ty12 : tyI Tryz.prog 12 = some (false, 1) := by kernel_rfl
@[simp] theorem co12 : Program.cellsOf Tryz.prog 12 = 1 := by kernel_rfl
@[simp] theorem un12 : Program.underlying Tryz.prog 12 = some (.int .u64) := by kernel_rfl
@[simp] theorem zr12 : zrI Tryz.prog 12 = some [.int .u64 0] := by kernel_rfl
@[simp] theorem ty13 : tyI Tryz.prog 13 = some (true, 2) := by kernel_rfl
@[simp] theorem co13 : Program.cellsOf Tryz.prog 13 = 2 := by kernel_rfl
@[simp] theorem fl13_0 : flI Tryz.prog 13 0 = some (0, false, 1) := by kernel_rfl
@[simp] theorem fl13_1 : flI Tryz.prog 13 1 = some (1, false, 1) := by kernel_rfl
@[simp] theorem pl13 : plI Tryz.prog 13 = some [(0, 1), (1, 1)] := by kernel_rfl
@[simp] theorem zr13 : zrI Tryz.prog 13 = some [.string ⟨#[]⟩, .int .u64 0] := by kernel_rfl
@[simp] theorem ty14 : tyI Tryz.prog 14 = some (true, 2) := by kernel_rfl
@[simp] theorem co14 : Program.cellsOf Tryz.prog 14 = 2 := by kernel_rfl
@[simp] theorem fl14_0 : flI Tryz.prog 14 0 = some (0, false, 1) := by kernel_rfl
@[simp] theorem fl14_1 : flI Tryz.prog 14 1 = some (1, false, 1) := by kernel_rfl
@[simp] theorem pl14 : plI Tryz.prog 14 = some [(0, 1), (1, 1)] := by kernel_rfl
@[simp] theorem zr14 : zrI Tryz.prog 14 = some [.string ⟨#[]⟩, .int .u64 0] := by kernel_rfl
@[simp] theorem ty18 : tyI Tryz.prog 18 = some (true, 1) := by kernel_rfl
@[simp] theorem co18 : Program.cellsOf Tryz.prog 18 = 1 := by kernel_rfl
@[simp] theorem fl18_0 : flI Tryz.prog 18 0 = some (0, false, 1) := by kernel_rfl
@[simp] theorem pl18 : plI Tryz.prog 18 = some [(0, 1)] := by kernel_rfl
@[simp] theorem zr18 : zrI Tryz.prog 18 = some [.pointer none] := by kernel_rfl
@[simp] theorem ty19 : tyI Tryz.prog 19 = some (true, 1) := by kernel_rfl
@[simp] theorem co19 : Program.cellsOf Tryz.prog 19 = 1 := by kernel_rfl
@[simp] theorem fl19_0 : flI Tryz.prog 19 0 = some (0, false, 1) := by kernel_rfl
@[simp] theorem pl19 : plI Tryz.prog 19 = some [(0, 1)] := by kernel_rfl
@[simp] theorem zr19 : zrI Tryz.prog 19 = some [.pointer none] := by kernel_rfl
@[simp] theorem ty21 : tyI Tryz.prog 21 = some (false, 1) := by kernel_rfl
@[simp] theorem co21 : Program.cellsOf Tryz.prog 21 = 1 := by kernel_rfl
@[simp] theorem un21 : Program.underlying Tryz.prog 21 = some (.int .i32) := by kernel_rfl
@[simp] theorem zr21 : zrI Tryz.prog 21 = some [.int .i32 0] := by kernel_rfl
@[simp] theorem ty22 : tyI Tryz.prog 22 = some (false, 1) := by kernel_rfl
@[simp] theorem co22 : Program.cellsOf Tryz.prog 22 = 1 := by kernel_rfl
@[simp] theorem el22 : elI Tryz.prog 22 = some (34, 6, 64, [.int .i64 0, .string ⟨#[]⟩, .int .i64 0, .int .i64 0, .int .i64 0, .string ⟨#[]⟩]) := by kernel_rfl
@[simp] theorem zr22 : zrI Tryz.prog 22 = some [.slice none 0 0] := by kernel_rfl
@[simp] theorem ty23 : tyI Tryz.prog 23 = some (true, 4) := by kernel_rfl
@[simp] theorem co23 : Program.cellsOf Tryz.prog 23 = 4 := by kernel_rfl
@[simp] theorem fl23_0 : flI Tryz.prog 23 0 = some (0, false, 1) := by kernel_rfl
@[simp] theorem fl23_1 : flI Tryz.prog 23 1 = some (1, false, 1) := by kernel_rfl
@[simp] theorem fl23_2 : flI Tryz.prog 23 2 = some (2, false, 1) := by kernel_rfl
@[simp] theorem fl23_3 : flI Tryz.prog 23 3 = some (3, false, 1) := by kernel_rfl
@[simp] theorem pl23 : plI Tryz.prog 23 = some [(0, 1), (1, 1), (2, 1), (3, 1)] := by kernel_rfl
@[simp] theorem zr23 : zrI Tryz.prog 23 = some [.int .i64 0, .int .i64 0, .int .i64 0, .string ⟨#[]⟩] := by kernel_rfl
@[simp] theorem ty24 : tyI Tryz.prog 24 = some (true, 4) := by kernel_rfl
@[simp] theorem co24 : Program.cellsOf Tryz.prog 24 = 4 := by kernel_rfl
@[simp] theorem fl24_0 : flI Tryz.prog 24 0 = some (0, false, 1) := by kernel_rfl
@[simp] theorem fl24_1 : flI Tryz.prog 24 1 = some (1, false, 1) := by kernel_rfl
@[simp] theorem fl24_2 : flI Tryz.prog 24 2 = some (2, false, 1) := by kernel_rfl
@[simp] theorem fl24_3 : flI Tryz.prog 24 3 = some (3, false, 1) := by kernel_rfl
@[simp] theorem pl24 : plI Tryz.prog 24 = some [(0, 1), (1, 1), (2, 1), (3, 1)] := by kernel_rfl
@[simp] theorem zr24 : zrI Tryz.prog 24 = some [.int .i64 0, .int .i64 0, .int .i64 0, .string ⟨#[]⟩] := by kernel_rfl
@[simp] theorem ty27 : tyI Tryz.prog 27 = some (false, 1) := by kernel_rfl
@[simp] theorem co27 : Program.cellsOf Tryz.prog 27 = 1 := by kernel_rfl
@[simp] theorem un27 : Program.underlying Tryz.prog 27 = some (.int .i64) := by kernel_rfl
@[simp] theorem zr27 : zrI Tryz.prog 27 = some [.int .i64 0] := by kernel_rfl
@[simp] theorem ty33 : tyI Tryz.prog 33 = some (true, 6) := by kernel_rfl
@[simp] theorem co33 : Program.cellsOf Tryz.prog 33 = 6 := by kernel_rfl
@[simp] theorem fl33_0 : flI Tryz.prog 33 0 = some (0, false, 1) := by kernel_rfl
@[simp] theorem fl33_1 : flI Tryz.prog 33 1 = some (1, false, 1) := by kernel_rfl
@[simp] theorem fl33_2 : flI Tryz.prog 33 2 = some (2, true, 4) := by kernel_rfl
@[simp] theorem pl33 : plI Tryz.prog 33 = some [(0, 1), (1, 1), (2, 4)] := by kernel_rfl
@[simp] theorem zr33 : zrI Tryz.prog 33 = some [.int .i64 0, .string ⟨#[]⟩, .int .i64 0, .int .i64 0, .int .i64 0, .string ⟨#[]⟩] := by kernel_rfl
@[simp] theorem ty34 : tyI Tryz.prog 34 = some (true, 6) := by kernel_rfl
@[simp] theorem co34 : Program.cellsOf Tryz.prog 34 = 6 := by kernel_rfl
@[simp] theorem fl34_0 : flI Tryz.prog 34 0 = some (0, false, 1) := by kernel_rfl
@[simp] theorem fl34_1 : flI Tryz.prog 34 1 = some (1, false, 1) := by kernel_rfl
@[simp] theorem fl34_2 : flI Tryz.prog 34 2 = some (2, true, 4) := by kernel_rfl
@[simp] theorem pl34 : plI Tryz.prog 34 = some [(0, 1), (1, 1), (2, 4)] := by kernel_rfl
@[simp] theorem zr34 : zrI Tryz.prog 34 = some [.int .i64 0, .string ⟨#[]⟩, .int .i64 0, .int .i64 0, .int .i64 0, .string ⟨#[]⟩] := by kernel_rfl
@[simp] theorem ty48 : tyI Tryz.prog 48 = some (false, 1) := by kernel_rfl
@[simp] theorem co48 : Program.cellsOf Tryz.prog 48 = 1 := by kernel_rfl
@[simp] theorem el48 : elI Tryz.prog 48 = some (3, 1, 8, [.int .i64 0]) := by kernel_rfl
@[simp] theorem zr48 : zrI Tryz.prog 48 = some [.slice none 0 0] := by kernel_rfl
@[simp] theorem ty57 : tyI Tryz.prog 57 = some (false, 1) := by kernel_rfl
@[simp] theorem co57 : Program.cellsOf Tryz.prog 57 = 1 := by kernel_rfl
@[simp] theorem mp57 : mapI Tryz.prog 57 = some (3, .int .i64, 3) := by kernel_rfl
@[simp] theorem zr57 : zrI Tryz.prog 57 = some [.map none] := by kernel_rfl
@[simp] theorem ty60 : tyI Tryz.prog 60 = some (false, 1) := by kernel_rfl
@[simp] theorem co60 : Program.cellsOf Tryz.prog 60 = 1 := by kernel_rfl
@[simp] theorem zr60 : zrI Tryz.prog 60 = some [.map none] := by kernel_rfl
@[simp] theorem ty61 : tyI Tryz.prog 61 = some (true, 2) := by kernel_rfl
@[simp] theorem co61 : Program.cellsOf Tryz.prog 61 = 2 := by kernel_rfl
@[simp] theorem fl61_0 : flI Tryz.prog 61 0 = some (0, false, 1) := by kernel_rfl
@[simp] theorem fl61_1 : flI Tryz.prog 61 1 = some (1, false, 1) := by kernel_rfl
@[simp] theorem pl61 : plI Tryz.prog 61 = some [(0, 1), (1, 1)] := by kernel_rfl
@[simp] theorem zr61 : zrI Tryz.prog 61 = some [.int .i64 0, .string ⟨#[]⟩] := by kernel_rfl
@[simp] theorem ty62 : tyI Tryz.prog 62 = some (true, 2) := by kernel_rfl
@[simp] theorem co62 : Program.cellsOf Tryz.prog 62 = 2 := by kernel_rfl
@[simp] theorem fl62_0 : flI Tryz.prog 62 0 = some (0, false, 1) := by kernel_rfl
@[simp] theorem fl62_1 : flI Tryz.prog 62 1 = some (1, false, 1) := by kernel_rfl
@[simp] theorem pl62 : plI Tryz.prog 62 = some [(0, 1), (1, 1)] := by kernel_rfl
@[simp] theorem zr62 : zrI Tryz.prog 62 = some [.int .i64 0, .string ⟨#[]⟩] := by kernel_rfl
@[simp] theorem ty67 : tyI Tryz.prog 67 = some (false, 1) := by kernel_rfl
@[simp] theorem co67 : Program.cellsOf Tryz.prog 67 = 1 := by kernel_rfl
@[simp] theorem el67 : elI Tryz.prog 67 = some (9, 1, 16, [.string ⟨#[]⟩]) := by kernel_rfl
@[simp] theorem zr67 : zrI Tryz.prog 67 = some [.slice none 0 0] := by kernel_rfl
@[simp] theorem ty92 : tyI Tryz.prog 92 = some (false, 1) := by kernel_rfl
@[simp] theorem co92 : Program.cellsOf Tryz.prog 92 = 1 := by kernel_rfl
@[simp] theorem el92 : elI Tryz.prog 92 = some (5, 1, 1, [.int .u8 0]) := by kernel_rfl
@[simp] theorem zr92 : zrI Tryz.prog 92 = some [.slice none 0 0] := by kernel_rfl
@[simp] theorem ty93 : tyI Tryz.prog 93 = some (true, 2) := by kernel_rfl
@[simp] theorem co93 : Program.cellsOf Tryz.prog 93 = 2 := by kernel_rfl
@[simp] theorem fl93_0 : flI Tryz.prog 93 0 = some (0, false, 1) := by kernel_rfl
@[simp] theorem fl93_1 : flI Tryz.prog 93 1 = some (1, false, 1) := by kernel_rfl
@[simp] theorem pl93 : plI Tryz.prog 93 = some [(0, 1), (1, 1)] := by kernel_rfl
@[simp] theorem zr93 : zrI Tryz.prog 93 = some [.pointer none, .slice none 0 0] := by kernel_rfl
@[simp] theorem ty94 : tyI Tryz.prog 94 = some (true, 2) := by kernel_rfl
@[simp] theorem co94 : Program.cellsOf Tryz.prog 94 = 2 := by kernel_rfl
@[simp] theorem fl94_0 : flI Tryz.prog 94 0 = some (0, false, 1) := by kernel_rfl
@[simp] theorem fl94_1 : flI Tryz.prog 94 1 = some (1, false, 1) := by kernel_rfl
@[simp] theorem pl94 : plI Tryz.prog 94 = some [(0, 1), (1, 1)] := by kernel_rfl
@[simp] theorem zr94 : zrI Tryz.prog 94 = some [.pointer none, .slice none 0 0] := by kernel_rfl
@[simp] theorem ty111 : tyI Tryz.prog 111 = some (false, 1) := by kernel_rfl
@[simp] theorem co111 : Program.cellsOf Tryz.prog 111 = 1 := by kernel_rfl
@[simp] theorem un111 : Program.underlying Tryz.prog 111 = some (.int .u64) := by kernel_rfl
@[simp] theorem zr111 : zrI Tryz.prog 111 = some [.int .u64 0] := by kernel_rfl
@[simp] theorem ty117 : tyI Tryz.prog 117 = some (false, 1) := by kernel_rfl
@[simp] theorem co117 : Program.cellsOf Tryz.prog 117 = 1 := by kernel_rfl
@[simp] theorem un117 : Program.underlying Tryz.prog 117 = some (.int .u64) := by kernel_rfl
@[simp] theorem zr117 : zrI Tryz.prog 117 = some [.int .u64 0] := by kernel_rfl
@[simp] theorem ty131 : tyI Tryz.prog 131 = some (false, 1) := by kernel_rfl
@[simp] theorem co131 : Program.cellsOf Tryz.prog 131 = 1 := by kernel_rfl
@[simp] theorem un131 : Program.underlying Tryz.prog 131 = some (.int .u32) := by kernel_rfl
@[simp] theorem zr131 : zrI Tryz.prog 131 = some [.int .u32 0] := by kernel_rfl
@[simp] theorem ty137 : tyI Tryz.prog 137 = some (true, 2) := by kernel_rfl
@[simp] theorem co137 : Program.cellsOf Tryz.prog 137 = 2 := by kernel_rfl
@[simp] theorem fl137_0 : flI Tryz.prog 137 0 = some (0, false, 1) := by kernel_rfl
@[simp] theorem fl137_1 : flI Tryz.prog 137 1 = some (1, false, 1) := by kernel_rfl
@[simp] theorem pl137 : plI Tryz.prog 137 = some [(0, 1), (1, 1)] := by kernel_rfl
@[simp] theorem zr137 : zrI Tryz.prog 137 = some [.int .u8 0, .int .u8 0] := by kernel_rfl
@[simp] theorem ty138 : tyI Tryz.prog 138 = some (true, 2) := by kernel_rfl
@[simp] theorem co138 : Program.cellsOf Tryz.prog 138 = 2 := by kernel_rfl
@[simp] theorem fl138_0 : flI Tryz.prog 138 0 = some (0, false, 1) := by kernel_rfl
@[simp] theorem fl138_1 : flI Tryz.prog 138 1 = some (1, false, 1) := by kernel_rfl
@[simp] theorem pl138 : plI Tryz.prog 138 = some [(0, 1), (1, 1)] := by kernel_rfl
@[simp] theorem zr138 : zrI Tryz.prog 138 = some [.int .u8 0, .int .u8 0] := by kernel_rfl
@[simp] theorem ty142 : tyI Tryz.prog 142 = some (false, 1) := by kernel_rfl
@[simp] theorem co142 : Program.cellsOf Tryz.prog 142 = 1 := by kernel_rfl
@[simp] theorem un142 : Program.underlying Tryz.prog 142 = some (.int .i64) := by kernel_rfl
@[simp] theorem zr142 : zrI Tryz.prog 142 = some [.int .i64 0] := by kernel_rfl
@[simp] theorem ty153 : tyI Tryz.prog 153 = some (true, 3) := by kernel_rfl
@[simp] theorem co153 : Program.cellsOf Tryz.prog 153 = 3 := by kernel_rfl
@[simp] theorem fl153_0 : flI Tryz.prog 153 0 = some (0, false, 1) := by kernel_rfl
@[simp] theorem fl153_1 : flI Tryz.prog 153 1 = some (1, false, 1) := by kernel_rfl
@[simp] theorem fl153_2 : flI Tryz.prog 153 2 = some (2, false, 1) := by kernel_rfl
@[simp] theorem pl153 : plI Tryz.prog 153 = some [(0, 1), (1, 1), (2, 1)] := by kernel_rfl
@[simp] theorem ty154 : tyI Tryz.prog 154 = some (true, 3) := by kernel_rfl
@[simp] theorem co154 : Program.cellsOf Tryz.prog 154 = 3 := by kernel_rfl
@[simp] theorem fl154_0 : flI Tryz.prog 154 0 = some (0, false, 1) := by kernel_rfl
@[simp] theorem fl154_1 : flI Tryz.prog 154 1 = some (1, false, 1) := by kernel_rfl
@[simp] theorem fl154_2 : flI Tryz.prog 154 2 = some (2, false, 1) := by kernel_rfl
@[simp] theorem pl154 : plI Tryz.prog 154 = some [(0, 1), (1, 1), (2, 1)] := by kernel_rfl
@[simp] theorem ty161 : tyI Tryz.prog 161 = some (true, 1) := by kernel_rfl
@[simp] theorem co161 : Program.cellsOf Tryz.prog 161 = 1 := by kernel_rfl
@[simp] theorem fl161_0 : flI Tryz.prog 161 0 = some (0, false, 1) := by kernel_rfl
@[simp] theorem pl161 : plI Tryz.prog 161 = some [(0, 1)] := by kernel_rfl
@[simp] theorem zr161 : zrI Tryz.prog 161 = some [.string ⟨#[]⟩] := by kernel_rfl
@[simp] theorem ty162 : tyI Tryz.prog 162 = some (true, 1) := by kernel_rfl
@[simp] theorem co162 : Program.cellsOf Tryz.prog 162 = 1 := by kernel_rfl
@[simp] theorem fl162_0 : flI Tryz.prog 162 0 = some (0, false, 1) := by kernel_rfl
@[simp] theorem pl162 : plI Tryz.prog 162 = some [(0, 1)] := by kernel_rfl
@[simp] theorem zr162 : zrI Tryz.prog 162 = some [.string ⟨#[]⟩] := by kernel_rfl
@[simp] theorem ty163 : tyI Tryz.prog 163 = some (true, 4) := by kernel_rfl
@[simp] theorem co163 : Program.cellsOf Tryz.prog 163 = 4 := by kernel_rfl
@[simp] theorem fl163_0 : flI Tryz.prog 163 0 = some (0, false, 1) := by kernel_rfl
@[simp] theorem fl163_1 : flI Tryz.prog 163 1 = some (1, false, 1) := by kernel_rfl
@[simp] theorem fl163_2 : flI Tryz.prog 163 2 = some (2, false, 1) := by kernel_rfl
@[simp] theorem fl163_3 : flI Tryz.prog 163 3 = some (3, false, 1) := by kernel_rfl
@[simp] theorem pl163 : plI Tryz.prog 163 = some [(0, 1), (1, 1), (2, 1), (3, 1)] := by kernel_rfl
@[simp] theorem zr163 : zrI Tryz.prog 163 = some [.pointer none, .pointer none, .pointer none, .string ⟨#[]⟩] := by kernel_rfl
@[simp] theorem ty164 : tyI Tryz.prog 164 = some (true, 4) := by kernel_rfl
@[simp] theorem co164 : Program.cellsOf Tryz.prog 164 = 4 := by kernel_rfl
@[simp] theorem fl164_0 : flI Tryz.prog 164 0 = some (0, false, 1) := by kernel_rfl
@[simp] theorem fl164_1 : flI Tryz.prog 164 1 = some (1, false, 1) := by kernel_rfl
@[simp] theorem fl164_2 : flI Tryz.prog 164 2 = some (2, false, 1) := by kernel_rfl
@[simp] theorem fl164_3 : flI Tryz.prog 164 3 = some (3, false, 1) := by kernel_rfl
@[simp] theorem pl164 : plI Tryz.prog 164 = some [(0, 1), (1, 1), (2, 1), (3, 1)] := by kernel_rfl
@[simp] theorem zr164 : zrI Tryz.prog 164 = some [.pointer none, .pointer none, .pointer none, .string ⟨#[]⟩] := by kernel_rfl
@[simp] theorem pl166 : plI Tryz.prog 166 = some [(0, 0)] := by kernel_rfl
@[simp] theorem zr166 : zrI Tryz.prog 166 = some [] := by kernel_rfl
@[simp] theorem pl167 : plI Tryz.prog 167 = some [(0, 0)] := by kernel_rfl
@[simp] theorem zr167 : zrI Tryz.prog 167 = some [] := by kernel_rfl
@[simp] theorem ty169 : tyI Tryz.prog 169 = some (false, 1) := by kernel_rfl
@[simp] theorem co169 : Program.cellsOf Tryz.prog 169 = 1 := by kernel_rfl
@[simp] theorem un169 : Program.underlying Tryz.prog 169 = some (.int .u8) := by kernel_rfl
@[simp] theorem zr169 : zrI Tryz.prog 169 = some [.int .u8 0] := by kernel_rfl
@[simp] theorem ty170 : tyI Tryz.prog 170 = some (false, 1) := by kernel_rfl
@[simp] theorem co170 : Program.cellsOf Tryz.prog 170 = 1 := by kernel_rfl
@[simp] theorem un170 : Program.underlying Tryz.prog 170 = some (.int .u8) := by kernel_rfl
@[simp] theorem zr170 : zrI Tryz.prog 170 = some [.int .u8 0] := by kernel_rfl
@[simp] theorem ty172 : tyI Tryz.prog 172 = some (false, 1) := by kernel_rfl
@[simp] theorem co172 : Program.cellsOf Tryz.prog 172 = 1 := by kernel_rfl
@[simp] theorem un172 : Program.underlying Tryz.prog 172 = some (.int .i32) := by kernel_rfl
@[simp] theorem zr172 : zrI Tryz.prog 172 = some [.int .i32 0] := by kernel_rfl
@[simp] theorem ty173 : tyI Tryz.prog 173 = some (false, 1) := by kernel_rfl
@[simp] theorem co173 : Program.cellsOf Tryz.prog 173 = 1 := by kernel_rfl
@[simp] theorem un173 : Program.underlying Tryz.prog 173 = some (.int .i32) := by kernel_rfl
@[simp] theorem zr173 : zrI Tryz.prog 173 = some [.int .i32 0] := by kernel_rfl
@[simp] theorem ty174 : tyI Tryz.prog 174 = some (true, 11) := by kernel_rfl
@[simp] theorem co174 : Program.cellsOf Tryz.prog 174 = 11 := by kernel_rfl
@[simp] theorem fl174_0 : flI Tryz.prog 174 0 = some (0, false, 1) := by kernel_rfl
@[simp] theorem fl174_1 : flI Tryz.prog 174 1 = some (1, false, 1) := by kernel_rfl
@[simp] theorem fl174_2 : flI Tryz.prog 174 2 = some (2, false, 1) := by kernel_rfl
@[simp] theorem fl174_3 : flI Tryz.prog 174 3 = some (3, false, 1) := by kernel_rfl
@[simp] theorem fl174_4 : flI Tryz.prog 174 4 = some (4, false, 1) := by kernel_rfl
@[simp] theorem fl174_5 : flI Tryz.prog 174 5 = some (5, false, 1) := by kernel_rfl
@[simp] theorem fl174_6 : flI Tryz.prog 174 6 = some (6, false, 1) := by kernel_rfl
@[simp] theorem fl174_7 : flI Tryz.prog 174 7 = some (7, false, 1) := by kernel_rfl
@[simp] theorem fl174_8 : flI Tryz.prog 174 8 = some (8, false, 1) := by kernel_rfl
@[simp] theorem fl174_9 : flI Tryz.prog 174 9 = some (9, false, 1) := by kernel_rfl
@[simp] theorem fl174_10 : flI Tryz.prog 174 10 = some (10, false, 1) := by kernel_rfl
@[simp] theorem pl174 : plI Tryz.prog 174 = some [(0, 1), (1, 1), (2, 1), (3, 1), (4, 1), (5, 1), (6, 1), (7, 1), (8, 1), (9, 1), (10, 1)] := by kernel_rfl
@[simp] theorem zr174 : zrI Tryz.prog 174 = some [.int .u64 0, .int .u64 0, .int .u32 0, .int .u8 0, .int .u8 0, .int .u8 0, .int .u8 0, .nilFunc, .pointer none, .int .i32 0, .int .i32 0] := by kernel_rfl
@[simp] theorem ty175 : tyI Tryz.prog 175 = some (true, 11) := by kernel_rfl
@[simp] theorem co175 : Program.cellsOf Tryz.prog 175 = 11 := by kernel_rfl
@[simp] theorem fl175_0 : flI Tryz.prog 175 0 = some (0, false, 1) := by kernel_rfl
@[simp] theorem fl175_1 : flI Tryz.prog 175 1 = some (1, false, 1) := by kernel_rfl
@[simp] theorem fl175_2 : flI Tryz.prog 175 2 = some (2, false, 1) := by kernel_rfl
@[simp] theorem fl175_3 : flI Tryz.prog 175 3 = some (3, false, 1) := by kernel_rfl
@[simp] theorem fl175_4 : flI Tryz.prog 175 4 = some (4, false, 1) := by kernel_rfl
@[simp] theorem fl175_5 : flI Tryz.prog 175 5 = some (5, false, 1) := by kernel_rfl
@[simp] theorem fl175_6 : flI Tryz.prog 175 6 = some (6, false, 1) := by kernel_rfl
@[simp] theorem fl175_7 : flI Tryz.prog 175 7 = some (7, false, 1) := by kernel_rfl
@[simp] theorem fl175_8 : flI Tryz.prog 175 8 = some (8, false, 1) := by kernel_rfl
@[simp] theorem fl175_9 : flI Tryz.prog 175 9 = some (9, false, 1) := by kernel_rfl
@[simp] theorem fl175_10 : flI Tryz.prog 175 10 = some (10, false, 1) := by kernel_rfl
@[simp] theorem pl175 : plI Tryz.prog 175 = some [(0, 1), (1, 1), (2, 1), (3, 1), (4, 1), (5, 1), (6, 1), (7, 1), (8, 1), (9, 1), (10, 1)] := by kernel_rfl
@[simp] theorem zr175 : zrI Tryz.prog 175 = some [.int .u64 0, .int .u64 0, .int .u32 0, .int .u8 0, .int .u8 0, .int .u8 0, .int .u8 0, .nilFunc, .pointer none, .int .i32 0, .int .i32 0] := by kernel_rfl
theorem mixed : Tryz.prog.follows .mixedOrders = true := by kernel_rfl
end Go.Proofs.YtomidniaekeafaaGreatDoorAbs
/- Contracts off the library's shelf, as contracts upon trees. -/
namespace Go.Proofs.YtomidniaekeafaaGreatDoorAbs
set_option linter.unusedSectionVars false
set_option linter.unusedVariables false
set_option linter.unusedSimpArgs false
open Go Go.RowKit

section
variable {P : Program} [Gl P]
theorem rel_zero {F : Nat → Prop} {w : World} (hF : ∀ b, F b → b < w.heap.size) (hΓ : ∀ w', ExtC (fun _ => False) w w' → Gl.ok P w') : Rel P (En.zero F) w (fun _ => none) :=
  ⟨fun i j b h => (by cases h), fun i b h => (by cases h), fun i b h => (by cases h), fun i o h => (by cases h), fun i => ⟨fun h => h.elim, fun ⟨_, h⟩ => (by cases h)⟩, fun b => ⟨fun h => h.elim, fun ⟨_, _, h, _⟩ => (by cases h)⟩, fun i b h => (by cases h), hF, hΓ⟩
theorem all2_v {F : Nat → Prop} {w : World} : ∀ {xs us : List Value}, All2 (VR P (En.zero F) w) (xs.map .v) us → us = xs
  | [], us, h => List.eq_nil_of_length_eq_zero (by simpa using h.1)
  | x :: xs, us, h => by
    obtain ⟨u, us, rfl, h1, h2⟩ := h.uncons
    rw [(h1.v_inv).1, all2_v h2]
/-- A function of values alone, by what the library's own contract says of it. -/
theorem libOK {f : FuncId} {xs : List Value} {r : AV} (hr : okT r = true) (hent : ∀ args w, (callFunc f args).run P w = .ok (.enter f args) w)
    (h : ∀ w, Gl.ok P w → Calls P f xs.toArray w fun e w' => ∃ u, e = .returned u ∧ (∀ E w', VR P E w' r u) ∧ Below w.heap.size w w') : CallsOK P f (xs.map .v) r [] := by
  refine ⟨hr, hent, fun w us F hF hΓ hx => ?_⟩
  rw [all2_v hx]
  refine (h w (hΓ w (ExtC.refl _ _))).mono ?_
  rintro e w' ⟨u, rfl, hv, hb⟩
  have hext : Ext (fun _ => False) w w' := Ext.of_below _ hb
  exact ⟨u, En.zero F, rfl, hv _ _, rel_zero (fun b h => Nat.lt_of_lt_of_le (hF b h) hb.size) (fun w'' h' => hΓ w'' (hext.toC.trans h' fun _ _ h => h)), rfl, hb, fun i b h => (by cases h)⟩
theorem libV {f : FuncId} {xs : List Value} {u : Value} (hu : u.oneCell' = true) (hent : ∀ args w, (callFunc f args).run P w = .ok (.enter f args) w)
    (h : ∀ w, Gl.ok P w → Calls P f xs.toArray w fun e w' => e = .returned u ∧ w' = w) : CallsOK P f (xs.map .v) (.v u) [] :=
  libOK rfl hent fun w hw => (h w hw).mono fun e w' ⟨he, hw'⟩ => ⟨u, he, fun _ _ => .tree (.v hu), by rw [hw']; exact Below.refl _ _⟩
theorem vr_tup {E : En} {w : World} {us : List Value} (h : ∀ u ∈ us, u.oneCell' = true) : VR P E w (.tup (us.map .v)) (.tuple us.toArray) :=
  .tup (by simp) fun i a u ha hu => by
    rw [List.getElem?_map, hu] at ha
    injection ha with ha
    subst ha
    exact .tree (.v (h u (List.mem_of_getElem? hu)))
theorem libT {f : FuncId} {xs us : List Value} (hu : ∀ u ∈ us, u.oneCell' = true) (hent : ∀ args w, (callFunc f args).run P w = .ok (.enter f args) w)
    (h : ∀ w, Gl.ok P w → Calls P f xs.toArray w fun e w' => e = .returned (.tuple us.toArray) ∧ w' = w) : CallsOK P f (xs.map .v) (.tup (us.map .v)) [] :=
  libOK (by simp only [okT, List.all_map, List.all_eq_true]; intro x _; rfl) hent fun w hw => (h w hw).mono fun e w' ⟨he, hw'⟩ => ⟨_, he, fun _ _ => vr_tup hu, by rw [hw']; exact Below.refl _ _⟩
end
end Go.Proofs.YtomidniaekeafaaGreatDoorAbs
/- Parts of texts and of rows; bytes. -/
namespace Go.Proofs.YtomidniaekeafaaGreatDoorAbs
set_option linter.unusedSectionVars false
set_option linter.unusedVariables false
set_option linter.unusedSimpArgs false
open Go Go.RowKit

section
variable {P : Program} [Gl P] {s : Sl} {G : Hp} {nx : Nat} {α : Type} {c : α → List AV} {w : Nat} {l : List α}
def byteA (b : ByteArray) (n : Nat) : UInt8 := b.data.toList.getD n 0
/-- A byte of a text. -/
def evIndexS (P : Program) (t : TypeId) (x i : AV) : Option AV := match x, i with
  | .v (.string b), .v (.int _ n) => if 0 ≤ n ∧ n.toNat < b.size ∧ isStr P t = true then some (.v (.int .u8 (byteA b n.toNat).toNat)) else none
  | _, _ => none
@[simp] theorem o_index (t : TypeId) (x i : Operand) : evOp P s G nx (.index t x i) = (evIndexS P t (evX s x) (evX s i)).map fun v => (v, G, nx) := by
  simp only [evOp, evIndexS]
  split
  · rename_i b k n hx hi
    rw [hx, hi]
    simp only
    by_cases h : 0 ≤ n ∧ n.toNat < b.size
    · rw [dif_pos h]
      by_cases hs : isStr P t = true
      · rw [if_pos hs, if_pos ⟨h.1, h.2, hs⟩]
        have : byteA b n.toNat = b[n.toNat] := by
          unfold byteA
          rw [List.getD_eq_getElem?_getD, List.getElem?_eq_getElem (by simpa using h.2)]
          rfl
        rw [this]; rfl
      · rw [if_neg hs, if_neg (fun h => hs h.2.2)]; rfl
    · rw [dif_neg h, if_neg (fun q => h ⟨q.1, q.2.1⟩)]; rfl
  · rename_i hne
    split
    · rename_i b k n h1 h2; exact (hne _ _ _ h1 h2).elim
    · rfl
@[simp] theorem evIndexS_v (t : TypeId) (b : ByteArray) (k : IntKind) {n : Int} (h0 : 0 ≤ n) (h1 : n < b.size) : evIndexS P t (.v (.string b)) (.v (.int k n)) = if isStr P t = true then some (.v (.int .u8 (byteA b n.toNat).toNat)) else none := by
  unfold evIndexS
  have : n.toNat < b.size := by omega
  by_cases hs : isStr P t = true <;> simp [h0, this, hs]
/-- A part of a text, or of a row. -/
@[simp] theorem o_slice (t : TypeId) (x : Operand) (lo hi : Option Operand) : evOp P s G nx (.slice t x lo hi none) = (evSlice P G t (evX s x) (fun d => bnd s d lo) (fun d => bnd s d hi)).map fun r => (r.1, r.2, nx) := rfl
@[simp] theorem bnd_none (d : Nat) : bnd s d none = some d := rfl
theorem bnd_some (d : Nat) (x : Operand) : bnd s d (some x) = match evX s x with
    | .v (.int _ n) => if 0 ≤ n then some n.toNat else none
    | _ => none := rfl
@[simp] theorem evSlice_str (t : TypeId) (b : ByteArray) (lo hi : Nat → Option Nat) : evSlice P G t (.v (.string b)) lo hi = match lo 0, hi b.size with
    | some l, some h => if isStr P t = true ∧ l ≤ h ∧ h ≤ b.size then some (.v (.string (b.extract l h)), G) else none
    | _, _ => none := rfl
theorem evSlice_tree [Wid c w] {t : TypeId} {x : AV} {lo hi : Nat → Option Nat} {a b e b' : Nat} {z : List Value} (hx : ∀ y, x ≠ .v (.string y)) (hel : elI P t = some (e, w, b', z)) (ht : treeOf P G x = some (rowT c l)) (hlo : lo 0 = some a) (hhi : hi l.length = some b) (h : a ≤ b ∧ b ≤ l.length) :
    evSlice P G t x lo hi = some (rowT c ((l.drop a).take (b - a)), frzOf G x) := by
  unfold evSlice
  split
  · rename_i y; exact absurd rfl (hx y)
  · rw [hel, ht]
    show (match some (l.length, flat c l) with | some (n, cs) => _ | none => none) = _
    simp only [rowT, hlo, hhi]
    rw [if_pos ⟨h.1, h.2, flat_len⟩]
    have h1 : ((l.drop a).take (b - a)).length = b - a := by simp; omega
    have hrow : rowT c ((l.drop a).take (b - a)) = .sl (b - a) (flat c ((l.drop a).take (b - a))) := by
      show AV.sl _ _ = _
      rw [h1]
    suffices hs : ((flat c l).drop (a * w)).take ((b - a) * w) = flat c ((l.drop a).take (b - a)) by
      show some (AV.sl (b - a) _, _) = _
      rw [hs]; exact congrArg (fun z => some (z, frzOf G x)) hrow.symm
    have hd : ∀ (k : Nat) (l : List α), (flat c l).drop (k * w) = flat c (l.drop k) := by
      intro k
      induction k with
      | zero => intro l; simp
      | succ k ih =>
        intro l
        cases l with
        | nil => simp [flat]
        | cons y r =>
          have hy : (c y).length = w := Wid.len y
          rw [List.drop_succ_cons, ← ih r]
          unfold flat
          rw [List.flatMap_cons, List.drop_append, List.drop_eq_nil_of_le (by rw [hy, Nat.add_mul]; omega), List.nil_append, hy, Nat.add_mul]
          congr 1; omega
    have htk : ∀ (k : Nat) (l : List α), (flat c l).take (k * w) = flat c (l.take k) := by
      intro k
      induction k with
      | zero => intro l; simp
      | succ k ih =>
        intro l
        cases l with
        | nil => simp [flat]
        | cons y r =>
          have hy : (c y).length = w := Wid.len y
          rw [List.take_succ_cons]
          unfold flat
          rw [List.flatMap_cons, List.flatMap_cons, List.take_append, hy, List.take_of_length_le (by rw [hy, Nat.add_mul]; omega)]
          have e1 : (k + 1) * w - w = k * w := by rw [Nat.add_mul]; omega
          rw [e1]
          have := ih r
          unfold flat at this
          rw [this]
    rw [hd, htk]
@[simp] theorem evSlice_rowT [Wid c w] (t : TypeId) (lo hi : Nat → Option Nat) : evSlice P G t (rowT c l) lo hi = match elI P t with
    | some (_, k, _, _) => if k = w then (match lo 0, hi l.length with
      | some a, some b => if a ≤ b ∧ b ≤ l.length then some (rowT c ((l.drop a).take (b - a)), G) else none
      | _, _ => none) else evSlice P G t (rowT c l) lo hi
    | none => none := by
  cases hel : elI P t with
  | none => unfold evSlice rowT; simp [hel]
  | some q =>
    obtain ⟨e, k, b', z⟩ := q
    simp only
    split
    · rename_i hk
      subst hk
      cases hlo : lo 0 with
      | none => unfold evSlice; simp only [rowT, hel, treeOf_sl, hlo]
      | some a =>
        cases hhi : hi l.length with
        | none => unfold evSlice; simp only [rowT, hel, treeOf_sl, hlo, hhi]
        | some b =>
          simp only
          split
          · rename_i h
            exact evSlice_tree (c := c) (fun y h => by unfold rowT at h; cases h) hel rfl hlo hhi h
          · rename_i h
            unfold evSlice
            simp only [rowT, hel, treeOf_sl, hlo, hhi]
            rw [if_neg (fun q => h ⟨q.1, q.2.1⟩)]
    · rfl
end
end Go.Proofs.YtomidniaekeafaaGreatDoorAbs
