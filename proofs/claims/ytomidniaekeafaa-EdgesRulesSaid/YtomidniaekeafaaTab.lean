/- Tables of the types, written by a program of this work (tab.lean.txt). -/
import Derived.Test.YtomidniaekeafaaD5
import Derived.Test.YtomidniaekeafaaProg
import Derived.KernelRfl
namespace Go.Proofs.YtomidniaekeafaaAbs
open Go Go.RowKit Go.Proofs
set_option maxRecDepth 100000
@[simp] theorem ty2 : tyI Try.prog 2 = some (false, 1) := by kernel_rfl
@[simp] theorem co2 : Program.cellsOf Try.prog 2 = 1 := by kernel_rfl
@[simp] theorem un2 : Program.underlying Try.prog 2 = some (.int .i64) := by kernel_rfl
@[simp] theorem zr2 : zrI Try.prog 2 = some [.int .i64 0] := by kernel_rfl
@[simp] theorem ty3 : tyI Try.prog 3 = some (false, 1) := by kernel_rfl
@[simp] theorem co3 : Program.cellsOf Try.prog 3 = 1 := by kernel_rfl
@[simp] theorem un3 : Program.underlying Try.prog 3 = some (.int .i64) := by kernel_rfl
@[simp] theorem zr3 : zrI Try.prog 3 = some [.int .i64 0] := by kernel_rfl
@[simp] theorem ty4 : tyI Try.prog 4 = some (false, 1) := by kernel_rfl
@[simp] theorem co4 : Program.cellsOf Try.prog 4 = 1 := by kernel_rfl
@[simp] theorem zr4 : zrI Try.prog 4 = some [.bool false] := by kernel_rfl
@[simp] theorem ty5 : tyI Try.prog 5 = some (false, 1) := by kernel_rfl
@[simp] theorem co5 : Program.cellsOf Try.prog 5 = 1 := by kernel_rfl
@[simp] theorem un5 : Program.underlying Try.prog 5 = some (.int .u8) := by kernel_rfl
@[simp] theorem zr5 : zrI Try.prog 5 = some [.int .u8 0] := by kernel_rfl
@[simp] theorem ty6 : tyI Try.prog 6 = some (false, 1) := by kernel_rfl
@[simp] theorem co6 : Program.cellsOf Try.prog 6 = 1 := by kernel_rfl
@[simp] theorem un6 : Program.underlying Try.prog 6 = some (.int .u8) := by kernel_rfl
@[simp] theorem zr6 : zrI Try.prog 6 = some [.int .u8 0] := by kernel_rfl
@[simp] theorem ty7 : tyI Try.prog 7 = some (true, 4) := by kernel_rfl
@[simp] theorem co7 : Program.cellsOf Try.prog 7 = 4 := by kernel_rfl
@[simp] theorem fl7_0 : flI Try.prog 7 0 = some (0, false, 1) := by kernel_rfl
@[simp] theorem fl7_1 : flI Try.prog 7 1 = some (1, false, 1) := by kernel_rfl
@[simp] theorem fl7_2 : flI Try.prog 7 2 = some (2, false, 1) := by kernel_rfl
@[simp] theorem fl7_3 : flI Try.prog 7 3 = some (3, false, 1) := by kernel_rfl
@[simp] theorem pl7 : plI Try.prog 7 = some [(0, 1), (1, 1), (2, 1), (3, 1)] := by kernel_rfl
@[simp] theorem zr7 : zrI Try.prog 7 = some [.int .i64 0, .int .i64 0, .bool false, .int .u8 0] := by kernel_rfl
@[simp] theorem ty8 : tyI Try.prog 8 = some (true, 4) := by kernel_rfl
@[simp] theorem co8 : Program.cellsOf Try.prog 8 = 4 := by kernel_rfl
@[simp] theorem fl8_0 : flI Try.prog 8 0 = some (0, false, 1) := by kernel_rfl
@[simp] theorem fl8_1 : flI Try.prog 8 1 = some (1, false, 1) := by kernel_rfl
@[simp] theorem fl8_2 : flI Try.prog 8 2 = some (2, false, 1) := by kernel_rfl
@[simp] theorem fl8_3 : flI Try.prog 8 3 = some (3, false, 1) := by kernel_rfl
@[simp] theorem pl8 : plI Try.prog 8 = some [(0, 1), (1, 1), (2, 1), (3, 1)] := by kernel_rfl
@[simp] theorem zr8 : zrI Try.prog 8 = some [.int .i64 0, .int .i64 0, .bool false, .int .u8 0] := by kernel_rfl
@[simp] theorem ty9 : tyI Try.prog 9 = some (false, 1) := by kernel_rfl
@[simp] theorem co9 : Program.cellsOf Try.prog 9 = 1 := by kernel_rfl
@[simp] theorem st9 : isStr Try.prog 9 = true := by kernel_rfl
@[simp] theorem zr9 : zrI Try.prog 9 = some [.string ⟨#[]⟩] := by kernel_rfl
@[simp] theorem ty10 : tyI Try.prog 10 = some (false, 1) := by kernel_rfl
@[simp] theorem co10 : Program.cellsOf Try.prog 10 = 1 := by kernel_rfl
@[simp] theorem st10 : isStr Try.prog 10 = true := by kernel_rfl
@[simp] theorem zr10 : zrI Try.prog 10 = some [.string ⟨#[]⟩] := by kernel_rfl
@[simp] theorem ty11 : tyI Try.prog 11 = some (false, 1) := by kernel_rfl
@[simp] theorem co11 : Program.cellsOf Try.prog 11 = 1 := by kernel_rfl
@[simp] theorem st11 : isStr Try.prog 11 = true := by kernel_rfl
@[simp] theorem zr11 : zrI Try.prog 11 = some [.string ⟨#[]⟩] := by kernel_rfl
@[simp] theorem ty12 : tyI Try.prog 12 = some (false, 1) := by kernel_rfl
@[simp] theorem co12 : Program.cellsOf Try.prog 12 = 1 := by kernel_rfl
@[simp] theorem un12 : Program.underlying Try.prog 12 = some (.int .u64) := by kernel_rfl
@[simp] theorem zr12 : zrI Try.prog 12 = some [.int .u64 0] := by kernel_rfl
@[simp] theorem ty13 : tyI Try.prog 13 = some (true, 2) := by kernel_rfl
@[simp] theorem co13 : Program.cellsOf Try.prog 13 = 2 := by kernel_rfl
@[simp] theorem fl13_0 : flI Try.prog 13 0 = some (0, false, 1) := by kernel_rfl
@[simp] theorem fl13_1 : flI Try.prog 13 1 = some (1, false, 1) := by kernel_rfl
@[simp] theorem pl13 : plI Try.prog 13 = some [(0, 1), (1, 1)] := by kernel_rfl
@[simp] theorem zr13 : zrI Try.prog 13 = some [.string ⟨#[]⟩, .int .u64 0] := by kernel_rfl
@[simp] theorem ty14 : tyI Try.prog 14 = some (true, 2) := by kernel_rfl
@[simp] theorem co14 : Program.cellsOf Try.prog 14 = 2 := by kernel_rfl
@[simp] theorem fl14_0 : flI Try.prog 14 0 = some (0, false, 1) := by kernel_rfl
@[simp] theorem fl14_1 : flI Try.prog 14 1 = some (1, false, 1) := by kernel_rfl
@[simp] theorem pl14 : plI Try.prog 14 = some [(0, 1), (1, 1)] := by kernel_rfl
@[simp] theorem zr14 : zrI Try.prog 14 = some [.string ⟨#[]⟩, .int .u64 0] := by kernel_rfl
@[simp] theorem ty18 : tyI Try.prog 18 = some (true, 1) := by kernel_rfl
@[simp] theorem co18 : Program.cellsOf Try.prog 18 = 1 := by kernel_rfl
@[simp] theorem fl18_0 : flI Try.prog 18 0 = some (0, false, 1) := by kernel_rfl
@[simp] theorem pl18 : plI Try.prog 18 = some [(0, 1)] := by kernel_rfl
@[simp] theorem zr18 : zrI Try.prog 18 = some [.pointer none] := by kernel_rfl
@[simp] theorem ty19 : tyI Try.prog 19 = some (true, 1) := by kernel_rfl
@[simp] theorem co19 : Program.cellsOf Try.prog 19 = 1 := by kernel_rfl
@[simp] theorem fl19_0 : flI Try.prog 19 0 = some (0, false, 1) := by kernel_rfl
@[simp] theorem pl19 : plI Try.prog 19 = some [(0, 1)] := by kernel_rfl
@[simp] theorem zr19 : zrI Try.prog 19 = some [.pointer none] := by kernel_rfl
@[simp] theorem ty21 : tyI Try.prog 21 = some (false, 1) := by kernel_rfl
@[simp] theorem co21 : Program.cellsOf Try.prog 21 = 1 := by kernel_rfl
@[simp] theorem un21 : Program.underlying Try.prog 21 = some (.int .i32) := by kernel_rfl
@[simp] theorem zr21 : zrI Try.prog 21 = some [.int .i32 0] := by kernel_rfl
@[simp] theorem ty22 : tyI Try.prog 22 = some (true, 4) := by kernel_rfl
@[simp] theorem co22 : Program.cellsOf Try.prog 22 = 4 := by kernel_rfl
@[simp] theorem fl22_0 : flI Try.prog 22 0 = some (0, false, 1) := by kernel_rfl
@[simp] theorem fl22_1 : flI Try.prog 22 1 = some (1, false, 1) := by kernel_rfl
@[simp] theorem fl22_2 : flI Try.prog 22 2 = some (2, false, 1) := by kernel_rfl
@[simp] theorem fl22_3 : flI Try.prog 22 3 = some (3, false, 1) := by kernel_rfl
@[simp] theorem pl22 : plI Try.prog 22 = some [(0, 1), (1, 1), (2, 1), (3, 1)] := by kernel_rfl
@[simp] theorem zr22 : zrI Try.prog 22 = some [.int .i64 0, .int .i64 0, .int .i64 0, .string ⟨#[]⟩] := by kernel_rfl
@[simp] theorem ty23 : tyI Try.prog 23 = some (true, 4) := by kernel_rfl
@[simp] theorem co23 : Program.cellsOf Try.prog 23 = 4 := by kernel_rfl
@[simp] theorem fl23_0 : flI Try.prog 23 0 = some (0, false, 1) := by kernel_rfl
@[simp] theorem fl23_1 : flI Try.prog 23 1 = some (1, false, 1) := by kernel_rfl
@[simp] theorem fl23_2 : flI Try.prog 23 2 = some (2, false, 1) := by kernel_rfl
@[simp] theorem fl23_3 : flI Try.prog 23 3 = some (3, false, 1) := by kernel_rfl
@[simp] theorem pl23 : plI Try.prog 23 = some [(0, 1), (1, 1), (2, 1), (3, 1)] := by kernel_rfl
@[simp] theorem zr23 : zrI Try.prog 23 = some [.int .i64 0, .int .i64 0, .int .i64 0, .string ⟨#[]⟩] := by kernel_rfl
@[simp] theorem ty24 : tyI Try.prog 24 = some (false, 1) := by kernel_rfl
@[simp] theorem co24 : Program.cellsOf Try.prog 24 = 1 := by kernel_rfl
@[simp] theorem el24 : elI Try.prog 24 = some (41, 3, 48, [.int .i64 0, .string ⟨#[]⟩, .slice none 0 0]) := by kernel_rfl
@[simp] theorem zr24 : zrI Try.prog 24 = some [.slice none 0 0] := by kernel_rfl
@[simp] theorem ty25 : tyI Try.prog 25 = some (false, 1) := by kernel_rfl
@[simp] theorem co25 : Program.cellsOf Try.prog 25 = 1 := by kernel_rfl
@[simp] theorem el25 : elI Try.prog 25 = some (52, 2, 40, [.string ⟨#[]⟩, .slice none 0 0]) := by kernel_rfl
@[simp] theorem zr25 : zrI Try.prog 25 = some [.slice none 0 0] := by kernel_rfl
@[simp] theorem ty26 : tyI Try.prog 26 = some (true, 7) := by kernel_rfl
@[simp] theorem co26 : Program.cellsOf Try.prog 26 = 7 := by kernel_rfl
@[simp] theorem fl26_0 : flI Try.prog 26 0 = some (0, false, 1) := by kernel_rfl
@[simp] theorem fl26_1 : flI Try.prog 26 1 = some (1, true, 4) := by kernel_rfl
@[simp] theorem fl26_2 : flI Try.prog 26 2 = some (5, false, 1) := by kernel_rfl
@[simp] theorem fl26_3 : flI Try.prog 26 3 = some (6, false, 1) := by kernel_rfl
@[simp] theorem pl26 : plI Try.prog 26 = some [(0, 1), (1, 4), (5, 1), (6, 1)] := by kernel_rfl
@[simp] theorem zr26 : zrI Try.prog 26 = some [.string ⟨#[]⟩, .int .i64 0, .int .i64 0, .int .i64 0, .string ⟨#[]⟩, .slice none 0 0, .slice none 0 0] := by kernel_rfl
@[simp] theorem ty27 : tyI Try.prog 27 = some (true, 7) := by kernel_rfl
@[simp] theorem co27 : Program.cellsOf Try.prog 27 = 7 := by kernel_rfl
@[simp] theorem fl27_0 : flI Try.prog 27 0 = some (0, false, 1) := by kernel_rfl
@[simp] theorem fl27_1 : flI Try.prog 27 1 = some (1, true, 4) := by kernel_rfl
@[simp] theorem fl27_2 : flI Try.prog 27 2 = some (5, false, 1) := by kernel_rfl
@[simp] theorem fl27_3 : flI Try.prog 27 3 = some (6, false, 1) := by kernel_rfl
@[simp] theorem pl27 : plI Try.prog 27 = some [(0, 1), (1, 4), (5, 1), (6, 1)] := by kernel_rfl
@[simp] theorem zr27 : zrI Try.prog 27 = some [.string ⟨#[]⟩, .int .i64 0, .int .i64 0, .int .i64 0, .string ⟨#[]⟩, .slice none 0 0, .slice none 0 0] := by kernel_rfl
@[simp] theorem ty31 : tyI Try.prog 31 = some (false, 1) := by kernel_rfl
@[simp] theorem co31 : Program.cellsOf Try.prog 31 = 1 := by kernel_rfl
@[simp] theorem el31 : elI Try.prog 31 = some (66, 1, 24, [.slice none 0 0]) := by kernel_rfl
@[simp] theorem zr31 : zrI Try.prog 31 = some [.slice none 0 0] := by kernel_rfl
@[simp] theorem ty32 : tyI Try.prog 32 = some (true, 1) := by kernel_rfl
@[simp] theorem co32 : Program.cellsOf Try.prog 32 = 1 := by kernel_rfl
@[simp] theorem fl32_0 : flI Try.prog 32 0 = some (0, false, 1) := by kernel_rfl
@[simp] theorem pl32 : plI Try.prog 32 = some [(0, 1)] := by kernel_rfl
@[simp] theorem zr32 : zrI Try.prog 32 = some [.slice none 0 0] := by kernel_rfl
@[simp] theorem ty33 : tyI Try.prog 33 = some (true, 1) := by kernel_rfl
@[simp] theorem co33 : Program.cellsOf Try.prog 33 = 1 := by kernel_rfl
@[simp] theorem fl33_0 : flI Try.prog 33 0 = some (0, false, 1) := by kernel_rfl
@[simp] theorem pl33 : plI Try.prog 33 = some [(0, 1)] := by kernel_rfl
@[simp] theorem zr33 : zrI Try.prog 33 = some [.slice none 0 0] := by kernel_rfl
@[simp] theorem ty39 : tyI Try.prog 39 = some (false, 1) := by kernel_rfl
@[simp] theorem co39 : Program.cellsOf Try.prog 39 = 1 := by kernel_rfl
@[simp] theorem un39 : Program.underlying Try.prog 39 = some (.int .i64) := by kernel_rfl
@[simp] theorem zr39 : zrI Try.prog 39 = some [.int .i64 0] := by kernel_rfl
@[simp] theorem ty40 : tyI Try.prog 40 = some (true, 3) := by kernel_rfl
@[simp] theorem co40 : Program.cellsOf Try.prog 40 = 3 := by kernel_rfl
@[simp] theorem fl40_0 : flI Try.prog 40 0 = some (0, false, 1) := by kernel_rfl
@[simp] theorem fl40_1 : flI Try.prog 40 1 = some (1, false, 1) := by kernel_rfl
@[simp] theorem fl40_2 : flI Try.prog 40 2 = some (2, true, 1) := by kernel_rfl
@[simp] theorem pl40 : plI Try.prog 40 = some [(0, 1), (1, 1), (2, 1)] := by kernel_rfl
@[simp] theorem zr40 : zrI Try.prog 40 = some [.int .i64 0, .string ⟨#[]⟩, .slice none 0 0] := by kernel_rfl
@[simp] theorem ty41 : tyI Try.prog 41 = some (true, 3) := by kernel_rfl
@[simp] theorem co41 : Program.cellsOf Try.prog 41 = 3 := by kernel_rfl
@[simp] theorem fl41_0 : flI Try.prog 41 0 = some (0, false, 1) := by kernel_rfl
@[simp] theorem fl41_1 : flI Try.prog 41 1 = some (1, false, 1) := by kernel_rfl
@[simp] theorem fl41_2 : flI Try.prog 41 2 = some (2, true, 1) := by kernel_rfl
@[simp] theorem pl41 : plI Try.prog 41 = some [(0, 1), (1, 1), (2, 1)] := by kernel_rfl
@[simp] theorem zr41 : zrI Try.prog 41 = some [.int .i64 0, .string ⟨#[]⟩, .slice none 0 0] := by kernel_rfl
@[simp] theorem ty51 : tyI Try.prog 51 = some (true, 2) := by kernel_rfl
@[simp] theorem co51 : Program.cellsOf Try.prog 51 = 2 := by kernel_rfl
@[simp] theorem fl51_0 : flI Try.prog 51 0 = some (0, false, 1) := by kernel_rfl
@[simp] theorem fl51_1 : flI Try.prog 51 1 = some (1, true, 1) := by kernel_rfl
@[simp] theorem pl51 : plI Try.prog 51 = some [(0, 1), (1, 1)] := by kernel_rfl
@[simp] theorem zr51 : zrI Try.prog 51 = some [.string ⟨#[]⟩, .slice none 0 0] := by kernel_rfl
@[simp] theorem ty52 : tyI Try.prog 52 = some (true, 2) := by kernel_rfl
@[simp] theorem co52 : Program.cellsOf Try.prog 52 = 2 := by kernel_rfl
@[simp] theorem fl52_0 : flI Try.prog 52 0 = some (0, false, 1) := by kernel_rfl
@[simp] theorem fl52_1 : flI Try.prog 52 1 = some (1, true, 1) := by kernel_rfl
@[simp] theorem pl52 : plI Try.prog 52 = some [(0, 1), (1, 1)] := by kernel_rfl
@[simp] theorem zr52 : zrI Try.prog 52 = some [.string ⟨#[]⟩, .slice none 0 0] := by kernel_rfl
@[simp] theorem ty53 : tyI Try.prog 53 = some (false, 1) := by kernel_rfl
@[simp] theorem co53 : Program.cellsOf Try.prog 53 = 1 := by kernel_rfl
@[simp] theorem mp53 : mapI Try.prog 53 = some (.string, 41) := by kernel_rfl
@[simp] theorem zr53 : zrI Try.prog 53 = some [.map none] := by kernel_rfl
@[simp] theorem ty56 : tyI Try.prog 56 = some (false, 1) := by kernel_rfl
@[simp] theorem co56 : Program.cellsOf Try.prog 56 = 1 := by kernel_rfl
@[simp] theorem el56 : elI Try.prog 56 = some (9, 1, 16, [.string ⟨#[]⟩]) := by kernel_rfl
@[simp] theorem zr56 : zrI Try.prog 56 = some [.slice none 0 0] := by kernel_rfl
@[simp] theorem ty66 : tyI Try.prog 66 = some (false, 1) := by kernel_rfl
@[simp] theorem co66 : Program.cellsOf Try.prog 66 = 1 := by kernel_rfl
@[simp] theorem el66 : elI Try.prog 66 = some (69, 5, 48, [.int .i64 0, .int .i64 0, .int .i64 0, .int .i64 0, .string ⟨#[]⟩]) := by kernel_rfl
@[simp] theorem zr66 : zrI Try.prog 66 = some [.slice none 0 0] := by kernel_rfl
@[simp] theorem ty67 : tyI Try.prog 67 = some (false, 1) := by kernel_rfl
@[simp] theorem co67 : Program.cellsOf Try.prog 67 = 1 := by kernel_rfl
@[simp] theorem un67 : Program.underlying Try.prog 67 = some (.int .i64) := by kernel_rfl
@[simp] theorem zr67 : zrI Try.prog 67 = some [.int .i64 0] := by kernel_rfl
@[simp] theorem ty68 : tyI Try.prog 68 = some (true, 5) := by kernel_rfl
@[simp] theorem co68 : Program.cellsOf Try.prog 68 = 5 := by kernel_rfl
@[simp] theorem fl68_0 : flI Try.prog 68 0 = some (0, false, 1) := by kernel_rfl
@[simp] theorem fl68_1 : flI Try.prog 68 1 = some (1, true, 4) := by kernel_rfl
@[simp] theorem pl68 : plI Try.prog 68 = some [(0, 1), (1, 4)] := by kernel_rfl
@[simp] theorem zr68 : zrI Try.prog 68 = some [.int .i64 0, .int .i64 0, .int .i64 0, .int .i64 0, .string ⟨#[]⟩] := by kernel_rfl
@[simp] theorem ty69 : tyI Try.prog 69 = some (true, 5) := by kernel_rfl
@[simp] theorem co69 : Program.cellsOf Try.prog 69 = 5 := by kernel_rfl
@[simp] theorem fl69_0 : flI Try.prog 69 0 = some (0, false, 1) := by kernel_rfl
@[simp] theorem fl69_1 : flI Try.prog 69 1 = some (1, true, 4) := by kernel_rfl
@[simp] theorem pl69 : plI Try.prog 69 = some [(0, 1), (1, 4)] := by kernel_rfl
@[simp] theorem zr69 : zrI Try.prog 69 = some [.int .i64 0, .int .i64 0, .int .i64 0, .int .i64 0, .string ⟨#[]⟩] := by kernel_rfl
@[simp] theorem ty81 : tyI Try.prog 81 = some (false, 1) := by kernel_rfl
@[simp] theorem co81 : Program.cellsOf Try.prog 81 = 1 := by kernel_rfl
@[simp] theorem un81 : Program.underlying Try.prog 81 = some (.int .u64) := by kernel_rfl
@[simp] theorem zr81 : zrI Try.prog 81 = some [.int .u64 0] := by kernel_rfl
@[simp] theorem ty83 : tyI Try.prog 83 = some (false, 1) := by kernel_rfl
@[simp] theorem co83 : Program.cellsOf Try.prog 83 = 1 := by kernel_rfl
@[simp] theorem un83 : Program.underlying Try.prog 83 = some (.int .i64) := by kernel_rfl
@[simp] theorem zr83 : zrI Try.prog 83 = some [.int .i64 0] := by kernel_rfl
@[simp] theorem ty92 : tyI Try.prog 92 = some (false, 1) := by kernel_rfl
@[simp] theorem co92 : Program.cellsOf Try.prog 92 = 1 := by kernel_rfl
@[simp] theorem un92 : Program.underlying Try.prog 92 = some (.int .u32) := by kernel_rfl
@[simp] theorem zr92 : zrI Try.prog 92 = some [.int .u32 0] := by kernel_rfl
@[simp] theorem ty94 : tyI Try.prog 94 = some (false, 1) := by kernel_rfl
@[simp] theorem co94 : Program.cellsOf Try.prog 94 = 1 := by kernel_rfl
@[simp] theorem un94 : Program.underlying Try.prog 94 = some (.int .u64) := by kernel_rfl
@[simp] theorem zr94 : zrI Try.prog 94 = some [.int .u64 0] := by kernel_rfl
@[simp] theorem ty95 : tyI Try.prog 95 = some (false, 1) := by kernel_rfl
@[simp] theorem co95 : Program.cellsOf Try.prog 95 = 1 := by kernel_rfl
@[simp] theorem un95 : Program.underlying Try.prog 95 = some (.int .u64) := by kernel_rfl
@[simp] theorem zr95 : zrI Try.prog 95 = some [.int .u64 0] := by kernel_rfl
@[simp] theorem ty105 : tyI Try.prog 105 = some (true, 4) := by kernel_rfl
@[simp] theorem co105 : Program.cellsOf Try.prog 105 = 4 := by kernel_rfl
@[simp] theorem fl105_0 : flI Try.prog 105 0 = some (0, false, 1) := by kernel_rfl
@[simp] theorem fl105_1 : flI Try.prog 105 1 = some (1, false, 1) := by kernel_rfl
@[simp] theorem fl105_2 : flI Try.prog 105 2 = some (2, false, 1) := by kernel_rfl
@[simp] theorem fl105_3 : flI Try.prog 105 3 = some (3, false, 1) := by kernel_rfl
@[simp] theorem pl105 : plI Try.prog 105 = some [(0, 1), (1, 1), (2, 1), (3, 1)] := by kernel_rfl
@[simp] theorem zr105 : zrI Try.prog 105 = some [.pointer none, .pointer none, .pointer none, .string ⟨#[]⟩] := by kernel_rfl
@[simp] theorem ty106 : tyI Try.prog 106 = some (true, 4) := by kernel_rfl
@[simp] theorem co106 : Program.cellsOf Try.prog 106 = 4 := by kernel_rfl
@[simp] theorem fl106_0 : flI Try.prog 106 0 = some (0, false, 1) := by kernel_rfl
@[simp] theorem fl106_1 : flI Try.prog 106 1 = some (1, false, 1) := by kernel_rfl
@[simp] theorem fl106_2 : flI Try.prog 106 2 = some (2, false, 1) := by kernel_rfl
@[simp] theorem fl106_3 : flI Try.prog 106 3 = some (3, false, 1) := by kernel_rfl
@[simp] theorem pl106 : plI Try.prog 106 = some [(0, 1), (1, 1), (2, 1), (3, 1)] := by kernel_rfl
@[simp] theorem zr106 : zrI Try.prog 106 = some [.pointer none, .pointer none, .pointer none, .string ⟨#[]⟩] := by kernel_rfl
@[simp] theorem pl108 : plI Try.prog 108 = some [(0, 0)] := by kernel_rfl
@[simp] theorem zr108 : zrI Try.prog 108 = some [] := by kernel_rfl
@[simp] theorem pl109 : plI Try.prog 109 = some [(0, 0)] := by kernel_rfl
@[simp] theorem zr109 : zrI Try.prog 109 = some [] := by kernel_rfl
@[simp] theorem ty111 : tyI Try.prog 111 = some (false, 1) := by kernel_rfl
@[simp] theorem co111 : Program.cellsOf Try.prog 111 = 1 := by kernel_rfl
@[simp] theorem un111 : Program.underlying Try.prog 111 = some (.int .u8) := by kernel_rfl
@[simp] theorem zr111 : zrI Try.prog 111 = some [.int .u8 0] := by kernel_rfl
@[simp] theorem ty112 : tyI Try.prog 112 = some (false, 1) := by kernel_rfl
@[simp] theorem co112 : Program.cellsOf Try.prog 112 = 1 := by kernel_rfl
@[simp] theorem un112 : Program.underlying Try.prog 112 = some (.int .u8) := by kernel_rfl
@[simp] theorem zr112 : zrI Try.prog 112 = some [.int .u8 0] := by kernel_rfl
@[simp] theorem ty115 : tyI Try.prog 115 = some (false, 1) := by kernel_rfl
@[simp] theorem co115 : Program.cellsOf Try.prog 115 = 1 := by kernel_rfl
@[simp] theorem un115 : Program.underlying Try.prog 115 = some (.int .i32) := by kernel_rfl
@[simp] theorem zr115 : zrI Try.prog 115 = some [.int .i32 0] := by kernel_rfl
@[simp] theorem ty116 : tyI Try.prog 116 = some (false, 1) := by kernel_rfl
@[simp] theorem co116 : Program.cellsOf Try.prog 116 = 1 := by kernel_rfl
@[simp] theorem un116 : Program.underlying Try.prog 116 = some (.int .i32) := by kernel_rfl
@[simp] theorem zr116 : zrI Try.prog 116 = some [.int .i32 0] := by kernel_rfl
@[simp] theorem ty117 : tyI Try.prog 117 = some (true, 11) := by kernel_rfl
@[simp] theorem co117 : Program.cellsOf Try.prog 117 = 11 := by kernel_rfl
@[simp] theorem fl117_0 : flI Try.prog 117 0 = some (0, false, 1) := by kernel_rfl
@[simp] theorem fl117_1 : flI Try.prog 117 1 = some (1, false, 1) := by kernel_rfl
@[simp] theorem fl117_2 : flI Try.prog 117 2 = some (2, false, 1) := by kernel_rfl
@[simp] theorem fl117_3 : flI Try.prog 117 3 = some (3, false, 1) := by kernel_rfl
@[simp] theorem fl117_4 : flI Try.prog 117 4 = some (4, false, 1) := by kernel_rfl
@[simp] theorem fl117_5 : flI Try.prog 117 5 = some (5, false, 1) := by kernel_rfl
@[simp] theorem fl117_6 : flI Try.prog 117 6 = some (6, false, 1) := by kernel_rfl
@[simp] theorem fl117_7 : flI Try.prog 117 7 = some (7, false, 1) := by kernel_rfl
@[simp] theorem fl117_8 : flI Try.prog 117 8 = some (8, false, 1) := by kernel_rfl
@[simp] theorem fl117_9 : flI Try.prog 117 9 = some (9, false, 1) := by kernel_rfl
@[simp] theorem fl117_10 : flI Try.prog 117 10 = some (10, false, 1) := by kernel_rfl
@[simp] theorem pl117 : plI Try.prog 117 = some [(0, 1), (1, 1), (2, 1), (3, 1), (4, 1), (5, 1), (6, 1), (7, 1), (8, 1), (9, 1), (10, 1)] := by kernel_rfl
@[simp] theorem zr117 : zrI Try.prog 117 = some [.int .u64 0, .int .u64 0, .int .u32 0, .int .u8 0, .int .u8 0, .int .u8 0, .int .u8 0, .nilFunc, .pointer none, .int .i32 0, .int .i32 0] := by kernel_rfl
@[simp] theorem ty118 : tyI Try.prog 118 = some (true, 11) := by kernel_rfl
@[simp] theorem co118 : Program.cellsOf Try.prog 118 = 11 := by kernel_rfl
@[simp] theorem fl118_0 : flI Try.prog 118 0 = some (0, false, 1) := by kernel_rfl
@[simp] theorem fl118_1 : flI Try.prog 118 1 = some (1, false, 1) := by kernel_rfl
@[simp] theorem fl118_2 : flI Try.prog 118 2 = some (2, false, 1) := by kernel_rfl
@[simp] theorem fl118_3 : flI Try.prog 118 3 = some (3, false, 1) := by kernel_rfl
@[simp] theorem fl118_4 : flI Try.prog 118 4 = some (4, false, 1) := by kernel_rfl
@[simp] theorem fl118_5 : flI Try.prog 118 5 = some (5, false, 1) := by kernel_rfl
@[simp] theorem fl118_6 : flI Try.prog 118 6 = some (6, false, 1) := by kernel_rfl
@[simp] theorem fl118_7 : flI Try.prog 118 7 = some (7, false, 1) := by kernel_rfl
@[simp] theorem fl118_8 : flI Try.prog 118 8 = some (8, false, 1) := by kernel_rfl
@[simp] theorem fl118_9 : flI Try.prog 118 9 = some (9, false, 1) := by kernel_rfl
@[simp] theorem fl118_10 : flI Try.prog 118 10 = some (10, false, 1) := by kernel_rfl
@[simp] theorem pl118 : plI Try.prog 118 = some [(0, 1), (1, 1), (2, 1), (3, 1), (4, 1), (5, 1), (6, 1), (7, 1), (8, 1), (9, 1), (10, 1)] := by kernel_rfl
@[simp] theorem zr118 : zrI Try.prog 118 = some [.int .u64 0, .int .u64 0, .int .u32 0, .int .u8 0, .int .u8 0, .int .u8 0, .int .u8 0, .nilFunc, .pointer none, .int .i32 0, .int .i32 0] := by kernel_rfl
theorem mixed : Try.prog.follows .mixedOrders = true := by kernel_rfl
end Go.Proofs.YtomidniaekeafaaAbs
