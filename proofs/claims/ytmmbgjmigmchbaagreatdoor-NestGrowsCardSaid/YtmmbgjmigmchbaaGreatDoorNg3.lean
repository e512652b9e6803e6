/- Parts of texts and of rows; bytes. -/
import Derived.Test.YtmmbgjmigmchbaaGreatDoorNg2
import Derived.Test.YtmmbgjmigmchbaaGreatDoorProg
import Derived.KernelRfl
namespace Go.Proofs.YtmmbgjmigmchbaaGreatDoorAbs
open Go Go.RowKit Go.Proofs
set_option maxRecDepth 100000
@[simp] theorem ty2:tyI Tryz.prog 2=some (false,1):=by kernel_rfl
@[simp] theorem co2:Program.cellsOf Tryz.prog 2=1:=by kernel_rfl
@[simp] theorem un2:Program.underlying Tryz.prog 2=some (.int .i64):=by kernel_rfl
@[simp] theorem zr2:zrI Tryz.prog 2=some [.int .i64 0]:=by kernel_rfl
@[simp] theorem ty3:tyI Tryz.prog 3=some (false,1):=by kernel_rfl
@[simp] theorem co3:Program.cellsOf Tryz.prog 3=1:=by kernel_rfl
@[simp] theorem un3:Program.underlying Tryz.prog 3=some (.int .i64):=by kernel_rfl
@[simp] theorem zr3:zrI Tryz.prog 3=some [.int .i64 0]:=by kernel_rfl
@[simp] theorem ty4:tyI Tryz.prog 4=some (false,1):=by kernel_rfl
@[simp] theorem co4:Program.cellsOf Tryz.prog 4=1:=by kernel_rfl
@[simp] theorem zr4:zrI Tryz.prog 4=some [.bool false]:=by kernel_rfl
@[simp] theorem ty5:tyI Tryz.prog 5=some (false,1):=by kernel_rfl
@[simp] theorem co5:Program.cellsOf Tryz.prog 5=1:=by kernel_rfl
@[simp] theorem un5:Program.underlying Tryz.prog 5=some (.int .u8):=by kernel_rfl
@[simp] theorem zr5:zrI Tryz.prog 5=some [.int .u8 0]:=by kernel_rfl
@[simp] theorem ty6:tyI Tryz.prog 6=some (false,1):=by kernel_rfl
@[simp] theorem co6:Program.cellsOf Tryz.prog 6=1:=by kernel_rfl
@[simp] theorem un6:Program.underlying Tryz.prog 6=some (.int .u8):=by kernel_rfl
@[simp] theorem zr6:zrI Tryz.prog 6=some [.int .u8 0]:=by kernel_rfl
@[simp] theorem ty7:tyI Tryz.prog 7=some (true,4):=by kernel_rfl
@[simp] theorem co7:Program.cellsOf Tryz.prog 7=4:=by kernel_rfl
@[simp] theorem fl7_0:flI Tryz.prog 7 0=some (0,false,1):=by kernel_rfl
@[simp] theorem fl7_1:flI Tryz.prog 7 1=some (1,false,1):=by kernel_rfl
@[simp] theorem fl7_2:flI Tryz.prog 7 2=some (2,false,1):=by kernel_rfl
@[simp] theorem fl7_3:flI Tryz.prog 7 3=some (3,false,1):=by kernel_rfl
@[simp] theorem pl7:plI Tryz.prog 7=some [(0,1),(1,1),(2,1),(3,1)]:=by kernel_rfl
@[simp] theorem zr7:zrI Tryz.prog 7=some [.int .i64 0,.int .i64 0,.bool false,.int .u8 0]:=by kernel_rfl
@[simp] theorem ty8:tyI Tryz.prog 8=some (true,4):=by kernel_rfl
@[simp] theorem co8:Program.cellsOf Tryz.prog 8=4:=by kernel_rfl
@[simp] theorem fl8_0:flI Tryz.prog 8 0=some (0,false,1):=by kernel_rfl
@[simp] theorem fl8_1:flI Tryz.prog 8 1=some (1,false,1):=by kernel_rfl
@[simp] theorem fl8_2:flI Tryz.prog 8 2=some (2,false,1):=by kernel_rfl
@[simp] theorem fl8_3:flI Tryz.prog 8 3=some (3,false,1):=by kernel_rfl
@[simp] theorem pl8:plI Tryz.prog 8=some [(0,1),(1,1),(2,1),(3,1)]:=by kernel_rfl
@[simp] theorem zr8:zrI Tryz.prog 8=some [.int .i64 0,.int .i64 0,.bool false,.int .u8 0]:=by kernel_rfl
@[simp] theorem ty9:tyI Tryz.prog 9=some (false,1):=by kernel_rfl
@[simp] theorem co9:Program.cellsOf Tryz.prog 9=1:=by kernel_rfl
@[simp] theorem st9:isStr Tryz.prog 9=true:=by kernel_rfl
@[simp] theorem zr9:zrI Tryz.prog 9=some [.string ⟨#[]⟩]:=by kernel_rfl
@[simp] theorem ty10:tyI Tryz.prog 10=some (false,1):=by kernel_rfl
@[simp] theorem co10:Program.cellsOf Tryz.prog 10=1:=by kernel_rfl
@[simp] theorem st10:isStr Tryz.prog 10=true:=by kernel_rfl
@[simp] theorem zr10:zrI Tryz.prog 10=some [.string ⟨#[]⟩]:=by kernel_rfl
@[simp] theorem ty11:tyI Tryz.prog 11=some (false,1):=by kernel_rfl
@[simp] theorem co11:Program.cellsOf Tryz.prog 11=1:=by kernel_rfl
@[simp] theorem st11:isStr Tryz.prog 11=true:=by kernel_rfl
@[simp] theorem zr11:zrI Tryz.prog 11=some [.string ⟨#[]⟩]:=by kernel_rfl
@[simp] theorem ty12:tyI Tryz.prog 12=some (false,1):=by kernel_rfl
@[simp] theorem co12:Program.cellsOf Tryz.prog 12=1:=by kernel_rfl
@[simp] theorem un12:Program.underlying Tryz.prog 12=some (.int .u64):=by kernel_rfl
@[simp] theorem zr12:zrI Tryz.prog 12=some [.int .u64 0]:=by kernel_rfl
@[simp] theorem ty13:tyI Tryz.prog 13=some (true,2):=by kernel_rfl
@[simp] theorem co13:Program.cellsOf Tryz.prog 13=2:=by kernel_rfl
@[simp] theorem fl13_0:flI Tryz.prog 13 0=some (0,false,1):=by kernel_rfl
@[simp] theorem fl13_1:flI Tryz.prog 13 1=some (1,false,1):=by kernel_rfl
@[simp] theorem pl13:plI Tryz.prog 13=some [(0,1),(1,1)]:=by kernel_rfl
@[simp] theorem zr13:zrI Tryz.prog 13=some [.string ⟨#[]⟩,.int .u64 0]:=by kernel_rfl
@[simp] theorem ty14:tyI Tryz.prog 14=some (true,2):=by kernel_rfl
@[simp] theorem co14:Program.cellsOf Tryz.prog 14=2:=by kernel_rfl
@[simp] theorem fl14_0:flI Tryz.prog 14 0=some (0,false,1):=by kernel_rfl
@[simp] theorem fl14_1:flI Tryz.prog 14 1=some (1,false,1):=by kernel_rfl
@[simp] theorem pl14:plI Tryz.prog 14=some [(0,1),(1,1)]:=by kernel_rfl
@[simp] theorem zr14:zrI Tryz.prog 14=some [.string ⟨#[]⟩,.int .u64 0]:=by kernel_rfl
@[simp] theorem ty18:tyI Tryz.prog 18=some (true,1):=by kernel_rfl
@[simp] theorem co18:Program.cellsOf Tryz.prog 18=1:=by kernel_rfl
@[simp] theorem fl18_0:flI Tryz.prog 18 0=some (0,false,1):=by kernel_rfl
@[simp] theorem pl18:plI Tryz.prog 18=some [(0,1)]:=by kernel_rfl
@[simp] theorem zr18:zrI Tryz.prog 18=some [.pointer none]:=by kernel_rfl
@[simp] theorem ty19:tyI Tryz.prog 19=some (true,1):=by kernel_rfl
@[simp] theorem co19:Program.cellsOf Tryz.prog 19=1:=by kernel_rfl
@[simp] theorem fl19_0:flI Tryz.prog 19 0=some (0,false,1):=by kernel_rfl
@[simp] theorem pl19:plI Tryz.prog 19=some [(0,1)]:=by kernel_rfl
@[simp] theorem zr19:zrI Tryz.prog 19=some [.pointer none]:=by kernel_rfl
@[simp] theorem ty21:tyI Tryz.prog 21=some (false,1):=by kernel_rfl
@[simp] theorem co21:Program.cellsOf Tryz.prog 21=1:=by kernel_rfl
@[simp] theorem un21:Program.underlying Tryz.prog 21=some (.int .i32):=by kernel_rfl
@[simp] theorem zr21:zrI Tryz.prog 21=some [.int .i32 0]:=by kernel_rfl
@[simp] theorem ty22:tyI Tryz.prog 22=some (true,4):=by kernel_rfl
@[simp] theorem co22:Program.cellsOf Tryz.prog 22=4:=by kernel_rfl
@[simp] theorem fl22_0:flI Tryz.prog 22 0=some (0,false,1):=by kernel_rfl
@[simp] theorem fl22_1:flI Tryz.prog 22 1=some (1,false,1):=by kernel_rfl
@[simp] theorem fl22_2:flI Tryz.prog 22 2=some (2,false,1):=by kernel_rfl
@[simp] theorem fl22_3:flI Tryz.prog 22 3=some (3,false,1):=by kernel_rfl
@[simp] theorem pl22:plI Tryz.prog 22=some [(0,1),(1,1),(2,1),(3,1)]:=by kernel_rfl
@[simp] theorem zr22:zrI Tryz.prog 22=some [.int .i64 0,.int .i64 0,.int .i64 0,.string ⟨#[]⟩]:=by kernel_rfl
@[simp] theorem ty23:tyI Tryz.prog 23=some (true,4):=by kernel_rfl
@[simp] theorem co23:Program.cellsOf Tryz.prog 23=4:=by kernel_rfl
@[simp] theorem fl23_0:flI Tryz.prog 23 0=some (0,false,1):=by kernel_rfl
@[simp] theorem fl23_1:flI Tryz.prog 23 1=some (1,false,1):=by kernel_rfl
@[simp] theorem fl23_2:flI Tryz.prog 23 2=some (2,false,1):=by kernel_rfl
@[simp] theorem fl23_3:flI Tryz.prog 23 3=some (3,false,1):=by kernel_rfl
@[simp] theorem pl23:plI Tryz.prog 23=some [(0,1),(1,1),(2,1),(3,1)]:=by kernel_rfl
@[simp] theorem zr23:zrI Tryz.prog 23=some [.int .i64 0,.int .i64 0,.int .i64 0,.string ⟨#[]⟩]:=by kernel_rfl
@[simp] theorem ty24:tyI Tryz.prog 24=some (false,1):=by kernel_rfl
@[simp] theorem co24:Program.cellsOf Tryz.prog 24=1:=by kernel_rfl
@[simp] theorem el24:elI Tryz.prog 24=some (35,3,48,[.int .i64 0,.string ⟨#[]⟩,.slice none 0 0]):=by kernel_rfl
@[simp] theorem zr24:zrI Tryz.prog 24=some [.slice none 0 0]:=by kernel_rfl
@[simp] theorem ty25:tyI Tryz.prog 25=some (false,1):=by kernel_rfl
@[simp] theorem co25:Program.cellsOf Tryz.prog 25=1:=by kernel_rfl
@[simp] theorem el25:elI Tryz.prog 25=some (134,2,40,[.string ⟨#[]⟩,.slice none 0 0]):=by kernel_rfl
@[simp] theorem zr25:zrI Tryz.prog 25=some [.slice none 0 0]:=by kernel_rfl
@[simp] theorem ty26:tyI Tryz.prog 26=some (true,7):=by kernel_rfl
@[simp] theorem co26:Program.cellsOf Tryz.prog 26=7:=by kernel_rfl
@[simp] theorem fl26_0:flI Tryz.prog 26 0=some (0,false,1):=by kernel_rfl
@[simp] theorem fl26_1:flI Tryz.prog 26 1=some (1,true,4):=by kernel_rfl
@[simp] theorem fl26_2:flI Tryz.prog 26 2=some (5,false,1):=by kernel_rfl
@[simp] theorem fl26_3:flI Tryz.prog 26 3=some (6,false,1):=by kernel_rfl
@[simp] theorem pl26:plI Tryz.prog 26=some [(0,1),(1,4),(5,1),(6,1)]:=by kernel_rfl
@[simp] theorem zr26:zrI Tryz.prog 26=some [.string ⟨#[]⟩,.int .i64 0,.int .i64 0,.int .i64 0,.string ⟨#[]⟩,.slice none 0 0,.slice none 0 0]:=by kernel_rfl
@[simp] theorem ty27:tyI Tryz.prog 27=some (true,7):=by kernel_rfl
@[simp] theorem co27:Program.cellsOf Tryz.prog 27=7:=by kernel_rfl
@[simp] theorem fl27_0:flI Tryz.prog 27 0=some (0,false,1):=by kernel_rfl
@[simp] theorem fl27_1:flI Tryz.prog 27 1=some (1,true,4):=by kernel_rfl
@[simp] theorem fl27_2:flI Tryz.prog 27 2=some (5,false,1):=by kernel_rfl
@[simp] theorem fl27_3:flI Tryz.prog 27 3=some (6,false,1):=by kernel_rfl
@[simp] theorem pl27:plI Tryz.prog 27=some [(0,1),(1,4),(5,1),(6,1)]:=by kernel_rfl
@[simp] theorem zr27:zrI Tryz.prog 27=some [.string ⟨#[]⟩,.int .i64 0,.int .i64 0,.int .i64 0,.string ⟨#[]⟩,.slice none 0 0,.slice none 0 0]:=by kernel_rfl
@[simp] theorem ty28:tyI Tryz.prog 28=some (false,1):=by kernel_rfl
@[simp] theorem co28:Program.cellsOf Tryz.prog 28=1:=by kernel_rfl
@[simp] theorem Ws:elI Tryz.prog 28=some (27,7,104,[.string ⟨#[]⟩,.int .i64 0,.int .i64 0,.int .i64 0,.string ⟨#[]⟩,.slice none 0 0,.slice none 0 0]):=by kernel_rfl
@[simp] theorem zr28:zrI Tryz.prog 28=some [.slice none 0 0]:=by kernel_rfl
@[simp] theorem ty29:tyI Tryz.prog 29=some (false,1):=by kernel_rfl
@[simp] theorem co29:Program.cellsOf Tryz.prog 29=1:=by kernel_rfl
@[simp] theorem U3:elI Tryz.prog 29=some (50,6,64,[.int .i64 0,.string ⟨#[]⟩,.int .i64 0,.int .i64 0,.int .i64 0,.string ⟨#[]⟩]):=by kernel_rfl
@[simp] theorem zr29:zrI Tryz.prog 29=some [.slice none 0 0]:=by kernel_rfl
@[simp] theorem ty30:tyI Tryz.prog 30=some (false,1):=by kernel_rfl
@[simp] theorem co30:Program.cellsOf Tryz.prog 30=1:=by kernel_rfl
@[simp] theorem un30:Program.underlying Tryz.prog 30=some (.int .i64):=by kernel_rfl
@[simp] theorem zr30:zrI Tryz.prog 30=some [.int .i64 0]:=by kernel_rfl
@[simp] theorem ty31:tyI Tryz.prog 31=some (false,1):=by kernel_rfl
@[simp] theorem co31:Program.cellsOf Tryz.prog 31=1:=by kernel_rfl
@[simp] theorem el31:elI Tryz.prog 31=some (71,1,24,[.slice none 0 0]):=by kernel_rfl
@[simp] theorem zr31:zrI Tryz.prog 31=some [.slice none 0 0]:=by kernel_rfl
@[simp] theorem ty32:tyI Tryz.prog 32=some (true,1):=by kernel_rfl
@[simp] theorem co32:Program.cellsOf Tryz.prog 32=1:=by kernel_rfl
@[simp] theorem fl32_0:flI Tryz.prog 32 0=some (0,false,1):=by kernel_rfl
@[simp] theorem pl32:plI Tryz.prog 32=some [(0,1)]:=by kernel_rfl
@[simp] theorem zr32:zrI Tryz.prog 32=some [.slice none 0 0]:=by kernel_rfl
@[simp] theorem ty33:tyI Tryz.prog 33=some (true,1):=by kernel_rfl
@[simp] theorem co33:Program.cellsOf Tryz.prog 33=1:=by kernel_rfl
@[simp] theorem fl33_0:flI Tryz.prog 33 0=some (0,false,1):=by kernel_rfl
@[simp] theorem pl33:plI Tryz.prog 33=some [(0,1)]:=by kernel_rfl
@[simp] theorem zr33:zrI Tryz.prog 33=some [.slice none 0 0]:=by kernel_rfl
@[simp] theorem ty34:tyI Tryz.prog 34=some (true,3):=by kernel_rfl
@[simp] theorem co34:Program.cellsOf Tryz.prog 34=3:=by kernel_rfl
@[simp] theorem fl34_0:flI Tryz.prog 34 0=some (0,false,1):=by kernel_rfl
@[simp] theorem fl34_1:flI Tryz.prog 34 1=some (1,false,1):=by kernel_rfl
@[simp] theorem fl34_2:flI Tryz.prog 34 2=some (2,true,1):=by kernel_rfl
@[simp] theorem pl34:plI Tryz.prog 34=some [(0,1),(1,1),(2,1)]:=by kernel_rfl
@[simp] theorem zr34:zrI Tryz.prog 34=some [.int .i64 0,.string ⟨#[]⟩,.slice none 0 0]:=by kernel_rfl
@[simp] theorem ty35:tyI Tryz.prog 35=some (true,3):=by kernel_rfl
@[simp] theorem co35:Program.cellsOf Tryz.prog 35=3:=by kernel_rfl
@[simp] theorem fl35_0:flI Tryz.prog 35 0=some (0,false,1):=by kernel_rfl
@[simp] theorem fl35_1:flI Tryz.prog 35 1=some (1,false,1):=by kernel_rfl
@[simp] theorem fl35_2:flI Tryz.prog 35 2=some (2,true,1):=by kernel_rfl
@[simp] theorem pl35:plI Tryz.prog 35=some [(0,1),(1,1),(2,1)]:=by kernel_rfl
@[simp] theorem zr35:zrI Tryz.prog 35=some [.int .i64 0,.string ⟨#[]⟩,.slice none 0 0]:=by kernel_rfl
@[simp] theorem ty45:tyI Tryz.prog 45=some (false,1):=by kernel_rfl
@[simp] theorem co45:Program.cellsOf Tryz.prog 45=1:=by kernel_rfl
@[simp] theorem un45:Program.underlying Tryz.prog 45=some (.int .i64):=by kernel_rfl
@[simp] theorem zr45:zrI Tryz.prog 45=some [.int .i64 0]:=by kernel_rfl
@[simp] theorem ty49:tyI Tryz.prog 49=some (true,6):=by kernel_rfl
@[simp] theorem co49:Program.cellsOf Tryz.prog 49=6:=by kernel_rfl
@[simp] theorem fl49_0:flI Tryz.prog 49 0=some (0,false,1):=by kernel_rfl
@[simp] theorem fl49_1:flI Tryz.prog 49 1=some (1,false,1):=by kernel_rfl
@[simp] theorem fl49_2:flI Tryz.prog 49 2=some (2,true,4):=by kernel_rfl
@[simp] theorem pl49:plI Tryz.prog 49=some [(0,1),(1,1),(2,4)]:=by kernel_rfl
@[simp] theorem zr49:zrI Tryz.prog 49=some [.int .i64 0,.string ⟨#[]⟩,.int .i64 0,.int .i64 0,.int .i64 0,.string ⟨#[]⟩]:=by kernel_rfl
@[simp] theorem ty50:tyI Tryz.prog 50=some (true,6):=by kernel_rfl
@[simp] theorem co50:Program.cellsOf Tryz.prog 50=6:=by kernel_rfl
@[simp] theorem fl50_0:flI Tryz.prog 50 0=some (0,false,1):=by kernel_rfl
@[simp] theorem fl50_1:flI Tryz.prog 50 1=some (1,false,1):=by kernel_rfl
@[simp] theorem fl50_2:flI Tryz.prog 50 2=some (2,true,4):=by kernel_rfl
@[simp] theorem pl50:plI Tryz.prog 50=some [(0,1),(1,1),(2,4)]:=by kernel_rfl
@[simp] theorem zr50:zrI Tryz.prog 50=some [.int .i64 0,.string ⟨#[]⟩,.int .i64 0,.int .i64 0,.int .i64 0,.string ⟨#[]⟩]:=by kernel_rfl
@[simp] theorem ty57:tyI Tryz.prog 57=some (false,1):=by kernel_rfl
@[simp] theorem co57:Program.cellsOf Tryz.prog 57=1:=by kernel_rfl
@[simp] theorem el57:elI Tryz.prog 57=some (23,4,40,[.int .i64 0,.int .i64 0,.int .i64 0,.string ⟨#[]⟩]):=by kernel_rfl
@[simp] theorem zr57:zrI Tryz.prog 57=some [.slice none 0 0]:=by kernel_rfl
@[simp] theorem ty61:tyI Tryz.prog 61=some (false,1):=by kernel_rfl
@[simp] theorem co61:Program.cellsOf Tryz.prog 61=1:=by kernel_rfl
@[simp] theorem el61:elI Tryz.prog 61=some (3,1,8,[.int .i64 0]):=by kernel_rfl
@[simp] theorem zr61:zrI Tryz.prog 61=some [.slice none 0 0]:=by kernel_rfl
@[simp] theorem ty71:tyI Tryz.prog 71=some (false,1):=by kernel_rfl
@[simp] theorem co71:Program.cellsOf Tryz.prog 71=1:=by kernel_rfl
@[simp] theorem el71:elI Tryz.prog 71=some (74,5,48,[.int .i64 0,.int .i64 0,.int .i64 0,.int .i64 0,.string ⟨#[]⟩]):=by kernel_rfl
@[simp] theorem zr71:zrI Tryz.prog 71=some [.slice none 0 0]:=by kernel_rfl
@[simp] theorem ty72:tyI Tryz.prog 72=some (false,1):=by kernel_rfl
@[simp] theorem co72:Program.cellsOf Tryz.prog 72=1:=by kernel_rfl
@[simp] theorem un72:Program.underlying Tryz.prog 72=some (.int .i64):=by kernel_rfl
@[simp] theorem zr72:zrI Tryz.prog 72=some [.int .i64 0]:=by kernel_rfl
@[simp] theorem ty73:tyI Tryz.prog 73=some (true,5):=by kernel_rfl
@[simp] theorem co73:Program.cellsOf Tryz.prog 73=5:=by kernel_rfl
@[simp] theorem fl73_0:flI Tryz.prog 73 0=some (0,false,1):=by kernel_rfl
@[simp] theorem fl73_1:flI Tryz.prog 73 1=some (1,true,4):=by kernel_rfl
@[simp] theorem pl73:plI Tryz.prog 73=some [(0,1),(1,4)]:=by kernel_rfl
@[simp] theorem zr73:zrI Tryz.prog 73=some [.int .i64 0,.int .i64 0,.int .i64 0,.int .i64 0,.string ⟨#[]⟩]:=by kernel_rfl
@[simp] theorem ty74:tyI Tryz.prog 74=some (true,5):=by kernel_rfl
@[simp] theorem co74:Program.cellsOf Tryz.prog 74=5:=by kernel_rfl
@[simp] theorem fl74_0:flI Tryz.prog 74 0=some (0,false,1):=by kernel_rfl
@[simp] theorem fl74_1:flI Tryz.prog 74 1=some (1,true,4):=by kernel_rfl
@[simp] theorem pl74:plI Tryz.prog 74=some [(0,1),(1,4)]:=by kernel_rfl
@[simp] theorem zr74:zrI Tryz.prog 74=some [.int .i64 0,.int .i64 0,.int .i64 0,.int .i64 0,.string ⟨#[]⟩]:=by kernel_rfl
@[simp] theorem ty79:tyI Tryz.prog 79=some (true,9):=by kernel_rfl
@[simp] theorem co79:Program.cellsOf Tryz.prog 79=9:=by kernel_rfl
@[simp] theorem fl79_0:flI Tryz.prog 79 0=some (0,true,7):=by kernel_rfl
@[simp] theorem fl79_1:flI Tryz.prog 79 1=some (7,false,1):=by kernel_rfl
@[simp] theorem fl79_2:flI Tryz.prog 79 2=some (8,false,1):=by kernel_rfl
@[simp] theorem pl79:plI Tryz.prog 79=some [(0,7),(7,1),(8,1)]:=by kernel_rfl
@[simp] theorem zr79:zrI Tryz.prog 79=some [.string ⟨#[]⟩,.int .i64 0,.int .i64 0,.int .i64 0,.string ⟨#[]⟩,.slice none 0 0,.slice none 0 0,.slice none 0 0,.slice none 0 0]:=by kernel_rfl
@[simp] theorem ty80:tyI Tryz.prog 80=some (true,9):=by kernel_rfl
@[simp] theorem co80:Program.cellsOf Tryz.prog 80=9:=by kernel_rfl
@[simp] theorem fl80_0:flI Tryz.prog 80 0=some (0,true,7):=by kernel_rfl
@[simp] theorem fl80_1:flI Tryz.prog 80 1=some (7,false,1):=by kernel_rfl
@[simp] theorem fl80_2:flI Tryz.prog 80 2=some (8,false,1):=by kernel_rfl
@[simp] theorem pl80:plI Tryz.prog 80=some [(0,7),(7,1),(8,1)]:=by kernel_rfl
@[simp] theorem zr80:zrI Tryz.prog 80=some [.string ⟨#[]⟩,.int .i64 0,.int .i64 0,.int .i64 0,.string ⟨#[]⟩,.slice none 0 0,.slice none 0 0,.slice none 0 0,.slice none 0 0]:=by kernel_rfl
@[simp] theorem ty82:tyI Tryz.prog 82=some (true,8):=by kernel_rfl
@[simp] theorem co82:Program.cellsOf Tryz.prog 82=8:=by kernel_rfl
@[simp] theorem fl82_0:flI Tryz.prog 82 0=some (0,true,7):=by kernel_rfl
@[simp] theorem fl82_1:flI Tryz.prog 82 1=some (7,false,1):=by kernel_rfl
@[simp] theorem pl82:plI Tryz.prog 82=some [(0,7),(7,1)]:=by kernel_rfl
@[simp] theorem zr82:zrI Tryz.prog 82=some [.string ⟨#[]⟩,.int .i64 0,.int .i64 0,.int .i64 0,.string ⟨#[]⟩,.slice none 0 0,.slice none 0 0,.slice none 0 0]:=by kernel_rfl
@[simp] theorem ty83:tyI Tryz.prog 83=some (true,8):=by kernel_rfl
@[simp] theorem co83:Program.cellsOf Tryz.prog 83=8:=by kernel_rfl
@[simp] theorem fl83_0:flI Tryz.prog 83 0=some (0,true,7):=by kernel_rfl
@[simp] theorem fl83_1:flI Tryz.prog 83 1=some (7,false,1):=by kernel_rfl
@[simp] theorem pl83:plI Tryz.prog 83=some [(0,7),(7,1)]:=by kernel_rfl
@[simp] theorem zr83:zrI Tryz.prog 83=some [.string ⟨#[]⟩,.int .i64 0,.int .i64 0,.int .i64 0,.string ⟨#[]⟩,.slice none 0 0,.slice none 0 0,.slice none 0 0]:=by kernel_rfl
@[simp] theorem ty94:tyI Tryz.prog 94=some (false,1):=by kernel_rfl
@[simp] theorem co94:Program.cellsOf Tryz.prog 94=1:=by kernel_rfl
@[simp] theorem mp94:PE Tryz.prog 94=some (9,.string,35):=by kernel_rfl
@[simp] theorem zr94:zrI Tryz.prog 94=some [.map none]:=by kernel_rfl
@[simp] theorem ty97:tyI Tryz.prog 97=some (false,1):=by kernel_rfl
@[simp] theorem co97:Program.cellsOf Tryz.prog 97=1:=by kernel_rfl
@[simp] theorem el97:elI Tryz.prog 97=some (9,1,16,[.string ⟨#[]⟩]):=by kernel_rfl
@[simp] theorem zr97:zrI Tryz.prog 97=some [.slice none 0 0]:=by kernel_rfl
@[simp] theorem ty111:tyI Tryz.prog 111=some (false,1):=by kernel_rfl
@[simp] theorem co111:Program.cellsOf Tryz.prog 111=1:=by kernel_rfl
@[simp] theorem el111:elI Tryz.prog 111=some (109,1,8,[.nilFunc]):=by kernel_rfl
@[simp] theorem zr111:zrI Tryz.prog 111=some [.slice none 0 0]:=by kernel_rfl
@[simp] theorem ty133:tyI Tryz.prog 133=some (true,2):=by kernel_rfl
@[simp] theorem co133:Program.cellsOf Tryz.prog 133=2:=by kernel_rfl
@[simp] theorem fl133_0:flI Tryz.prog 133 0=some (0,false,1):=by kernel_rfl
@[simp] theorem fl133_1:flI Tryz.prog 133 1=some (1,true,1):=by kernel_rfl
@[simp] theorem pl133:plI Tryz.prog 133=some [(0,1),(1,1)]:=by kernel_rfl
@[simp] theorem zr133:zrI Tryz.prog 133=some [.string ⟨#[]⟩,.slice none 0 0]:=by kernel_rfl
@[simp] theorem ty134:tyI Tryz.prog 134=some (true,2):=by kernel_rfl
@[simp] theorem co134:Program.cellsOf Tryz.prog 134=2:=by kernel_rfl
@[simp] theorem fl134_0:flI Tryz.prog 134 0=some (0,false,1):=by kernel_rfl
@[simp] theorem fl134_1:flI Tryz.prog 134 1=some (1,true,1):=by kernel_rfl
@[simp] theorem pl134:plI Tryz.prog 134=some [(0,1),(1,1)]:=by kernel_rfl
@[simp] theorem zr134:zrI Tryz.prog 134=some [.string ⟨#[]⟩,.slice none 0 0]:=by kernel_rfl
@[simp] theorem ty155:tyI Tryz.prog 155=some (false,1):=by kernel_rfl
@[simp] theorem co155:Program.cellsOf Tryz.prog 155=1:=by kernel_rfl
@[simp] theorem zr155:zrI Tryz.prog 155=some [.map none]:=by kernel_rfl
@[simp] theorem ty156:tyI Tryz.prog 156=some (true,2):=by kernel_rfl
@[simp] theorem co156:Program.cellsOf Tryz.prog 156=2:=by kernel_rfl
@[simp] theorem fl156_0:flI Tryz.prog 156 0=some (0,false,1):=by kernel_rfl
@[simp] theorem fl156_1:flI Tryz.prog 156 1=some (1,false,1):=by kernel_rfl
@[simp] theorem pl156:plI Tryz.prog 156=some [(0,1),(1,1)]:=by kernel_rfl
@[simp] theorem zr156:zrI Tryz.prog 156=some [.int .i64 0,.string ⟨#[]⟩]:=by kernel_rfl
@[simp] theorem ty157:tyI Tryz.prog 157=some (true,2):=by kernel_rfl
@[simp] theorem co157:Program.cellsOf Tryz.prog 157=2:=by kernel_rfl
@[simp] theorem fl157_0:flI Tryz.prog 157 0=some (0,false,1):=by kernel_rfl
@[simp] theorem fl157_1:flI Tryz.prog 157 1=some (1,false,1):=by kernel_rfl
@[simp] theorem pl157:plI Tryz.prog 157=some [(0,1),(1,1)]:=by kernel_rfl
@[simp] theorem zr157:zrI Tryz.prog 157=some [.int .i64 0,.string ⟨#[]⟩]:=by kernel_rfl
@[simp] theorem ty179:tyI Tryz.prog 179=some (false,1):=by kernel_rfl
@[simp] theorem co179:Program.cellsOf Tryz.prog 179=1:=by kernel_rfl
@[simp] theorem un179:Program.underlying Tryz.prog 179=some (.int .u64):=by kernel_rfl
@[simp] theorem zr179:zrI Tryz.prog 179=some [.int .u64 0]:=by kernel_rfl
@[simp] theorem ty190:tyI Tryz.prog 190=some (true,2):=by kernel_rfl
@[simp] theorem co190:Program.cellsOf Tryz.prog 190=2:=by kernel_rfl
@[simp] theorem fl190_0:flI Tryz.prog 190 0=some (0,false,1):=by kernel_rfl
@[simp] theorem fl190_1:flI Tryz.prog 190 1=some (1,false,1):=by kernel_rfl
@[simp] theorem pl190:plI Tryz.prog 190=some [(0,1),(1,1)]:=by kernel_rfl
@[simp] theorem zr190:zrI Tryz.prog 190=some [.int .i64 0,.string ⟨#[]⟩]:=by kernel_rfl
@[simp] theorem ty197:tyI Tryz.prog 197=some (false,1):=by kernel_rfl
@[simp] theorem co197:Program.cellsOf Tryz.prog 197=1:=by kernel_rfl
@[simp] theorem un197:Program.underlying Tryz.prog 197=some (.int .i64):=by kernel_rfl
@[simp] theorem zr197:zrI Tryz.prog 197=some [.int .i64 0]:=by kernel_rfl
@[simp] theorem ty205:tyI Tryz.prog 205=some (false,1):=by kernel_rfl
@[simp] theorem co205:Program.cellsOf Tryz.prog 205=1:=by kernel_rfl
@[simp] theorem un205:Program.underlying Tryz.prog 205=some (.int .u32):=by kernel_rfl
@[simp] theorem zr205:zrI Tryz.prog 205=some [.int .u32 0]:=by kernel_rfl
@[simp] theorem ty207:tyI Tryz.prog 207=some (false,1):=by kernel_rfl
@[simp] theorem co207:Program.cellsOf Tryz.prog 207=1:=by kernel_rfl
@[simp] theorem un207:Program.underlying Tryz.prog 207=some (.int .u64):=by kernel_rfl
@[simp] theorem zr207:zrI Tryz.prog 207=some [.int .u64 0]:=by kernel_rfl
@[simp] theorem ty210:tyI Tryz.prog 210=some (false,1):=by kernel_rfl
@[simp] theorem co210:Program.cellsOf Tryz.prog 210=1:=by kernel_rfl
@[simp] theorem un210:Program.underlying Tryz.prog 210=some (.int .i64):=by kernel_rfl
@[simp] theorem zr210:zrI Tryz.prog 210=some [.int .i64 0]:=by kernel_rfl
@[simp] theorem ty214:tyI Tryz.prog 214=some (false,1):=by kernel_rfl
@[simp] theorem co214:Program.cellsOf Tryz.prog 214=1:=by kernel_rfl
@[simp] theorem el214:elI Tryz.prog 214=some (5,1,1,[.int .u8 0]):=by kernel_rfl
@[simp] theorem zr214:zrI Tryz.prog 214=some [.slice none 0 0]:=by kernel_rfl
@[simp] theorem ty215:tyI Tryz.prog 215=some (true,2):=by kernel_rfl
@[simp] theorem co215:Program.cellsOf Tryz.prog 215=2:=by kernel_rfl
@[simp] theorem fl215_0:flI Tryz.prog 215 0=some (0,false,1):=by kernel_rfl
@[simp] theorem fl215_1:flI Tryz.prog 215 1=some (1,false,1):=by kernel_rfl
@[simp] theorem pl215:plI Tryz.prog 215=some [(0,1),(1,1)]:=by kernel_rfl
@[simp] theorem zr215:zrI Tryz.prog 215=some [.pointer none,.slice none 0 0]:=by kernel_rfl
@[simp] theorem ty216:tyI Tryz.prog 216=some (true,2):=by kernel_rfl
@[simp] theorem co216:Program.cellsOf Tryz.prog 216=2:=by kernel_rfl
@[simp] theorem fl216_0:flI Tryz.prog 216 0=some (0,false,1):=by kernel_rfl
@[simp] theorem fl216_1:flI Tryz.prog 216 1=some (1,false,1):=by kernel_rfl
@[simp] theorem pl216:plI Tryz.prog 216=some [(0,1),(1,1)]:=by kernel_rfl
@[simp] theorem zr216:zrI Tryz.prog 216=some [.pointer none,.slice none 0 0]:=by kernel_rfl
@[simp] theorem ty225:tyI Tryz.prog 225=some (false,1):=by kernel_rfl
@[simp] theorem co225:Program.cellsOf Tryz.prog 225=1:=by kernel_rfl
@[simp] theorem un225:Program.underlying Tryz.prog 225=some (.int .u64):=by kernel_rfl
@[simp] theorem zr225:zrI Tryz.prog 225=some [.int .u64 0]:=by kernel_rfl
@[simp] theorem ty267:tyI Tryz.prog 267=some (false,1):=by kernel_rfl
@[simp] theorem co267:Program.cellsOf Tryz.prog 267=1:=by kernel_rfl
@[simp] theorem un267:Program.underlying Tryz.prog 267=some (.int .i64):=by kernel_rfl
@[simp] theorem zr267:zrI Tryz.prog 267=some [.int .i64 0]:=by kernel_rfl
@[simp] theorem ty275:tyI Tryz.prog 275=some (true,2):=by kernel_rfl
@[simp] theorem co275:Program.cellsOf Tryz.prog 275=2:=by kernel_rfl
@[simp] theorem fl275_0:flI Tryz.prog 275 0=some (0,false,1):=by kernel_rfl
@[simp] theorem fl275_1:flI Tryz.prog 275 1=some (1,false,1):=by kernel_rfl
@[simp] theorem pl275:plI Tryz.prog 275=some [(0,1),(1,1)]:=by kernel_rfl
@[simp] theorem zr275:zrI Tryz.prog 275=some [.int .u8 0,.int .u8 0]:=by kernel_rfl
@[simp] theorem ty276:tyI Tryz.prog 276=some (true,2):=by kernel_rfl
@[simp] theorem co276:Program.cellsOf Tryz.prog 276=2:=by kernel_rfl
@[simp] theorem fl276_0:flI Tryz.prog 276 0=some (0,false,1):=by kernel_rfl
@[simp] theorem fl276_1:flI Tryz.prog 276 1=some (1,false,1):=by kernel_rfl
@[simp] theorem pl276:plI Tryz.prog 276=some [(0,1),(1,1)]:=by kernel_rfl
@[simp] theorem zr276:zrI Tryz.prog 276=some [.int .u8 0,.int .u8 0]:=by kernel_rfl
@[simp] theorem ty282:tyI Tryz.prog 282=some (true,3):=by kernel_rfl
@[simp] theorem co282:Program.cellsOf Tryz.prog 282=3:=by kernel_rfl
@[simp] theorem fl282_0:flI Tryz.prog 282 0=some (0,false,1):=by kernel_rfl
@[simp] theorem fl282_1:flI Tryz.prog 282 1=some (1,false,1):=by kernel_rfl
@[simp] theorem fl282_2:flI Tryz.prog 282 2=some (2,false,1):=by kernel_rfl
@[simp] theorem pl282:plI Tryz.prog 282=some [(0,1),(1,1),(2,1)]:=by kernel_rfl
@[simp] theorem ty283:tyI Tryz.prog 283=some (true,3):=by kernel_rfl
@[simp] theorem co283:Program.cellsOf Tryz.prog 283=3:=by kernel_rfl
@[simp] theorem fl283_0:flI Tryz.prog 283 0=some (0,false,1):=by kernel_rfl
@[simp] theorem fl283_1:flI Tryz.prog 283 1=some (1,false,1):=by kernel_rfl
@[simp] theorem fl283_2:flI Tryz.prog 283 2=some (2,false,1):=by kernel_rfl
@[simp] theorem pl283:plI Tryz.prog 283=some [(0,1),(1,1),(2,1)]:=by kernel_rfl
@[simp] theorem ty290:tyI Tryz.prog 290=some (true,1):=by kernel_rfl
@[simp] theorem co290:Program.cellsOf Tryz.prog 290=1:=by kernel_rfl
@[simp] theorem fl290_0:flI Tryz.prog 290 0=some (0,false,1):=by kernel_rfl
@[simp] theorem pl290:plI Tryz.prog 290=some [(0,1)]:=by kernel_rfl
@[simp] theorem zr290:zrI Tryz.prog 290=some [.string ⟨#[]⟩]:=by kernel_rfl
@[simp] theorem ty291:tyI Tryz.prog 291=some (true,1):=by kernel_rfl
@[simp] theorem co291:Program.cellsOf Tryz.prog 291=1:=by kernel_rfl
@[simp] theorem fl291_0:flI Tryz.prog 291 0=some (0,false,1):=by kernel_rfl
@[simp] theorem pl291:plI Tryz.prog 291=some [(0,1)]:=by kernel_rfl
@[simp] theorem zr291:zrI Tryz.prog 291=some [.string ⟨#[]⟩]:=by kernel_rfl
@[simp] theorem ty292:tyI Tryz.prog 292=some (true,4):=by kernel_rfl
@[simp] theorem co292:Program.cellsOf Tryz.prog 292=4:=by kernel_rfl
@[simp] theorem fl292_0:flI Tryz.prog 292 0=some (0,false,1):=by kernel_rfl
@[simp] theorem fl292_1:flI Tryz.prog 292 1=some (1,false,1):=by kernel_rfl
@[simp] theorem fl292_2:flI Tryz.prog 292 2=some (2,false,1):=by kernel_rfl
@[simp] theorem fl292_3:flI Tryz.prog 292 3=some (3,false,1):=by kernel_rfl
@[simp] theorem pl292:plI Tryz.prog 292=some [(0,1),(1,1),(2,1),(3,1)]:=by kernel_rfl
@[simp] theorem zr292:zrI Tryz.prog 292=some [.pointer none,.pointer none,.pointer none,.string ⟨#[]⟩]:=by kernel_rfl
@[simp] theorem ty293:tyI Tryz.prog 293=some (true,4):=by kernel_rfl
@[simp] theorem co293:Program.cellsOf Tryz.prog 293=4:=by kernel_rfl
@[simp] theorem fl293_0:flI Tryz.prog 293 0=some (0,false,1):=by kernel_rfl
@[simp] theorem fl293_1:flI Tryz.prog 293 1=some (1,false,1):=by kernel_rfl
@[simp] theorem fl293_2:flI Tryz.prog 293 2=some (2,false,1):=by kernel_rfl
@[simp] theorem fl293_3:flI Tryz.prog 293 3=some (3,false,1):=by kernel_rfl
@[simp] theorem pl293:plI Tryz.prog 293=some [(0,1),(1,1),(2,1),(3,1)]:=by kernel_rfl
@[simp] theorem zr293:zrI Tryz.prog 293=some [.pointer none,.pointer none,.pointer none,.string ⟨#[]⟩]:=by kernel_rfl
@[simp] theorem pl295:plI Tryz.prog 295=some [(0,0)]:=by kernel_rfl
@[simp] theorem zr295:zrI Tryz.prog 295=some []:=by kernel_rfl
@[simp] theorem pl296:plI Tryz.prog 296=some [(0,0)]:=by kernel_rfl
@[simp] theorem zr296:zrI Tryz.prog 296=some []:=by kernel_rfl
@[simp] theorem ty298:tyI Tryz.prog 298=some (false,1):=by kernel_rfl
@[simp] theorem co298:Program.cellsOf Tryz.prog 298=1:=by kernel_rfl
@[simp] theorem un298:Program.underlying Tryz.prog 298=some (.int .u8):=by kernel_rfl
@[simp] theorem zr298:zrI Tryz.prog 298=some [.int .u8 0]:=by kernel_rfl
@[simp] theorem ty299:tyI Tryz.prog 299=some (false,1):=by kernel_rfl
@[simp] theorem co299:Program.cellsOf Tryz.prog 299=1:=by kernel_rfl
@[simp] theorem un299:Program.underlying Tryz.prog 299=some (.int .u8):=by kernel_rfl
@[simp] theorem zr299:zrI Tryz.prog 299=some [.int .u8 0]:=by kernel_rfl
@[simp] theorem ty301:tyI Tryz.prog 301=some (false,1):=by kernel_rfl
@[simp] theorem co301:Program.cellsOf Tryz.prog 301=1:=by kernel_rfl
@[simp] theorem un301:Program.underlying Tryz.prog 301=some (.int .i32):=by kernel_rfl
@[simp] theorem zr301:zrI Tryz.prog 301=some [.int .i32 0]:=by kernel_rfl
@[simp] theorem ty302:tyI Tryz.prog 302=some (false,1):=by kernel_rfl
@[simp] theorem co302:Program.cellsOf Tryz.prog 302=1:=by kernel_rfl
@[simp] theorem un302:Program.underlying Tryz.prog 302=some (.int .i32):=by kernel_rfl
@[simp] theorem zr302:zrI Tryz.prog 302=some [.int .i32 0]:=by kernel_rfl
@[simp] theorem ty303:tyI Tryz.prog 303=some (true,11):=by kernel_rfl
@[simp] theorem co303:Program.cellsOf Tryz.prog 303=11:=by kernel_rfl
@[simp] theorem fl303_0:flI Tryz.prog 303 0=some (0,false,1):=by kernel_rfl
@[simp] theorem fl303_1:flI Tryz.prog 303 1=some (1,false,1):=by kernel_rfl
@[simp] theorem fl303_2:flI Tryz.prog 303 2=some (2,false,1):=by kernel_rfl
@[simp] theorem fl303_3:flI Tryz.prog 303 3=some (3,false,1):=by kernel_rfl
@[simp] theorem fl303_4:flI Tryz.prog 303 4=some (4,false,1):=by kernel_rfl
@[simp] theorem fl303_5:flI Tryz.prog 303 5=some (5,false,1):=by kernel_rfl
@[simp] theorem fl303_6:flI Tryz.prog 303 6=some (6,false,1):=by kernel_rfl
@[simp] theorem fl303_7:flI Tryz.prog 303 7=some (7,false,1):=by kernel_rfl
@[simp] theorem fl303_8:flI Tryz.prog 303 8=some (8,false,1):=by kernel_rfl
@[simp] theorem fl303_9:flI Tryz.prog 303 9=some (9,false,1):=by kernel_rfl
@[simp] theorem fl303_10:flI Tryz.prog 303 10=some (10,false,1):=by kernel_rfl
@[simp] theorem pl303:plI Tryz.prog 303=some [(0,1),(1,1),(2,1),(3,1),(4,1),(5,1),(6,1),(7,1),(8,1),(9,1),(10,1)]:=by kernel_rfl
@[simp] theorem zr303:zrI Tryz.prog 303=some [.int .u64 0,.int .u64 0,.int .u32 0,.int .u8 0,.int .u8 0,.int .u8 0,.int .u8 0,.nilFunc,.pointer none,.int .i32 0,.int .i32 0]:=by kernel_rfl
@[simp] theorem ty304:tyI Tryz.prog 304=some (true,11):=by kernel_rfl
@[simp] theorem co304:Program.cellsOf Tryz.prog 304=11:=by kernel_rfl
@[simp] theorem fl304_0:flI Tryz.prog 304 0=some (0,false,1):=by kernel_rfl
@[simp] theorem fl304_1:flI Tryz.prog 304 1=some (1,false,1):=by kernel_rfl
@[simp] theorem fl304_2:flI Tryz.prog 304 2=some (2,false,1):=by kernel_rfl
@[simp] theorem fl304_3:flI Tryz.prog 304 3=some (3,false,1):=by kernel_rfl
@[simp] theorem fl304_4:flI Tryz.prog 304 4=some (4,false,1):=by kernel_rfl
@[simp] theorem fl304_5:flI Tryz.prog 304 5=some (5,false,1):=by kernel_rfl
@[simp] theorem fl304_6:flI Tryz.prog 304 6=some (6,false,1):=by kernel_rfl
@[simp] theorem fl304_7:flI Tryz.prog 304 7=some (7,false,1):=by kernel_rfl
@[simp] theorem fl304_8:flI Tryz.prog 304 8=some (8,false,1):=by kernel_rfl
@[simp] theorem fl304_9:flI Tryz.prog 304 9=some (9,false,1):=by kernel_rfl
@[simp] theorem fl304_10:flI Tryz.prog 304 10=some (10,false,1):=by kernel_rfl
@[simp] theorem pl304:plI Tryz.prog 304=some [(0,1),(1,1),(2,1),(3,1),(4,1),(5,1),(6,1),(7,1),(8,1),(9,1),(10,1)]:=by kernel_rfl
@[simp] theorem zr304:zrI Tryz.prog 304=some [.int .u64 0,.int .u64 0,.int .u32 0,.int .u8 0,.int .u8 0,.int .u8 0,.int .u8 0,.nilFunc,.pointer none,.int .i32 0,.int .i32 0]:=by kernel_rfl
theorem mixed:Tryz.prog.follows .mixedOrders=true:=by kernel_rfl
set_option linter.unusedSectionVars false
set_option linter.unusedVariables false
set_option linter.unusedSimpArgs false
open Go Go.RowKit
section
variable {P:Program} [Gl P]
theorem zX {F:Nat→Prop} {w:World} (hF:∀b,F b→b<w.heap.size) (hΓ:∀w',ExtC (fun _=>False) w w'→Gl.ok P w'):Rel P (En.zero F) w (fun _=>none):=
 ⟨fun i j b h=>(by cases h),fun i b h=>(by cases h),fun i b h=>(by cases h),fun i o h=>(by cases h),fun i=>⟨fun h=>h.elim,fun⟨_,h⟩=>(by cases h)⟩,fun b=>⟨fun h=>h.elim,fun⟨_,_,h,_⟩=>(by cases h)⟩,fun i b h=>(by cases h),hF,hΓ⟩
theorem NZ {F:Nat→Prop} {w:World} :∀ {xs us:List Value},All2 (VR P (En.zero F) w) (xs.map .v) us→us=xs
 | [],us,h=>List.eq_nil_of_length_eq_zero (by simpa using h.1)
 | x::xs,us,h=>by
  obtain⟨u,us,rfl,h1,h2⟩:=h.jP;rw[(h1.iE).1,NZ h2]
theorem Jp {f:FuncId} {xs:List Value} {r:AV} (hr:okT r=true) (hent:∀args w,(callFunc f args).run P w=.ok (.enter f args) w)
  (h:∀w,Gl.ok P w→Calls P f xs.toArray w fun e w'=>∃u,e=.returned u∧(∀E w',VR P E w' r u)∧Below w.heap.size w w'):CallsOK P f (xs.map .v) r []:=by
 refine⟨hr,hent,fun w us F hF hΓ hx=> ?_⟩;rw[NZ hx];refine(h w (hΓ w (ExtC.refl _ _))).mono ?_;rintro e w' ⟨u,rfl,hv,hb⟩;have hext:Ext (fun _=>False) w w':=Ext.of_below _ hb;exact⟨u,En.zero F,rfl,hv _ _,zX (fun b h=>Nat.lt_of_lt_of_le (hF b h) hb.size) (fun w'' h'=>hΓ w'' (hext.toC.trans h' fun _ _ h=>h)),rfl,hb,fun i b h=>(by cases h)⟩
theorem Vz {f:FuncId} {xs:List Value} {u:Value} (hu:u.oneCell'=true) (hent:∀args w,(callFunc f args).run P w=.ok (.enter f args) w)
  (h:∀w,Gl.ok P w→Calls P f xs.toArray w fun e w'=>e=.returned u∧w'=w):CallsOK P f (xs.map .v) (.v u) []:=
 Jp rfl hent fun w hw=>(h w hw).mono fun e w' ⟨he,hw'⟩=>⟨u,he,fun _ _=> .tree (.v hu),by rw[hw'];exact Below.refl _ _⟩
theorem Qw {E:En} {w:World} {us:List Value} (h:∀u∈us,u.oneCell'=true):VR P E w (.tup (us.map .v)) (.tuple us.toArray):=
 .tup (by simp) fun i a u ha hu=>by
  rw[List.getElem?_map,hu]at ha;injection ha with ha;subst ha;exact .tree (.v (h u (List.mem_of_getElem? hu)))
theorem Wn {f:FuncId} {xs us:List Value} (hu:∀u∈us,u.oneCell'=true) (hent:∀args w,(callFunc f args).run P w=.ok (.enter f args) w)
  (h:∀w,Gl.ok P w→Calls P f xs.toArray w fun e w'=>e=.returned (.tuple us.toArray)∧w'=w):CallsOK P f (xs.map .v) (.tup (us.map .v)) []:=
 Jp (by simp only[okT,List.all_map,List.all_eq_true];intro x _;rfl) hent fun w hw=>(h w hw).mono fun e w' ⟨he,hw'⟩=>⟨_,he,fun _ _=>Qw hu,by rw[hw'];exact Below.refl _ _⟩
end
section
variable {P:Program} [Gl P] {s:Sl} {G:Hp} {nx:Nat} {α:Type} {c:α→List AV} {w:Nat} {l:List α}
def pG (b:ByteArray) (n:Nat):UInt8:=b.data.toList.getD n 0
def nU (P:Program) (t:TypeId) (x i:AV):Option AV:=match x,i with
 | .agg cs,.v (.int _ n)=>match arI P t with
  | some (m,b,k)=>if 0≤n∧n<m∧n.toNat*k+k≤cs.length then some (.mk b ((cs.drop (n.toNat*k)).take k))else none
  | none=>none
 | .v (.string b),.v (.int _ n)=>if 0≤n∧n.toNat<b.size∧isStr P t=true then some (.v (.int .u8 (pG b n.toNat).toNat))else none
 | _,_=>none
@[simp] theorem o_index (t:TypeId) (x i:Operand):iq P s G nx (.index t x i)=(nU P t (evX s x) (evX s i)).map fun v=>(v,G,nx):=by
 simp only[iq,nU];split
 ·rename_i cs k n hx hi;rw[hx,hi];simp only;cases arI P t with
  | none=>rfl
  | some q=>
   obtain⟨m,b,k'⟩:=q;simp only;split<;>rfl
 ·rename_i b k n hx hi;rw[hx,hi];simp only;by_cases h:0≤n∧n.toNat<b.size
  ·rw[dif_pos h];by_cases hs:isStr P t=true
   ·rw[if_pos hs,if_pos ⟨h.1,h.2,hs⟩];have:pG b n.toNat=b[n.toNat]:=by
     unfold pG;rw[List.getD_eq_getElem?_getD,List.getElem?_eq_getElem (by simpa using h.2)];rfl
    rw[this];rfl
   ·rw[if_neg hs,if_neg (fun h=>hs h.2.2)];rfl
  ·rw[dif_neg h,if_neg (fun q=>h ⟨q.1,q.2.1⟩)];rfl
 ·rename_i hne1 hne2;split
  ·rename_i cs k n h1 h2;exact(hne1 _ _ _ h1 h2).elim
  ·rename_i b k n h1 h2;exact(hne2 _ _ _ h1 h2).elim
  ·rfl
@[simp] theorem CS (t:TypeId) (cs:List AV) (k:IntKind) (n:Int):nU P t (.agg cs) (.v (.int k n))=match arI P t with
  | some (m,b,k')=>if 0≤n∧n<m∧n.toNat*k'+k'≤cs.length then some (.mk b ((cs.drop (n.toNat*k')).take k'))else none
  | none=>none:=rfl
@[simp] theorem evIndexS_v (t:TypeId) (b:ByteArray) (k:IntKind) {n:Int} (h0:0≤n) (h1:n<b.size):nU P t (.v (.string b)) (.v (.int k n))=if isStr P t=true then some (.v (.int .u8 (pG b n.toNat).toNat))else none:=by
 unfold nU;have:n.toNat<b.size:=(by omega);by_cases hs:isStr P t=true<;>simp[h0,this,hs]
@[simp] theorem dropO_def (t:TypeId) (lo hi:Option Operand):Fj P t lo hi=(Gl.shr P t&&(lo.isSome&&hi.isNone)):=rfl
@[simp] theorem o_slice (t:TypeId) (x:Operand) (lo hi:Option Operand):iq P s G nx (.slice t x lo hi none)=if Fj P t lo hi=true then yx P G nx t (evX s x) (fun d=>bnd s d lo)else(if(Gl.shr P t&&lo.isNone)=true then Jk P G t (evX s x) (fun d=>bnd s d hi)else eH P G t (evX s x) (fun d=>bnd s d lo) (fun d=>bnd s d hi)).map fun r=>(r.1,r.2,nx):=rfl
@[simp] theorem bnd_none (d:Nat):bnd s d none=some d:=rfl
theorem je (d:Nat) (x:Operand):bnd s d (some x)=match evX s x with
  | .v (.int _ n)=>if 0≤n then some n.toNat else none
  | _=>none:=rfl
@[simp] theorem evSlice_str (t:TypeId) (b:ByteArray) (lo hi:Nat→Option Nat):eH P G t (.v (.string b)) lo hi=match lo 0,hi b.size with
  | some l,some h=>if isStr P t=true∧l≤h∧h≤b.size then some (.v (.string (b.extract l h)),G)else none
  | _,_=>none:=rfl
theorem jK [Wid c w] {t:TypeId} {x:AV} {lo hi:Nat→Option Nat} {a b e b':Nat} {z:List Value} (hx:∀y,x≠ .v (.string y)) (hel:elI P t=some (e,w,b',z)) (ht:bJ P G x=some (rowT c l)) (hlo:lo 0=some a) (hhi:hi l.length=some b) (h:a≤b∧b≤l.length):
  eH P G t x lo hi=some (rowT c ((l.drop a).take (b-a)),bT G x):=by
 unfold eH;split
 ·rename_i y;exact absurd rfl (hx y)
 ·rw[hel,ht];show(match some (l.length,flat c l)with | some (n,cs)=>_ | none=>none)=_;simp only[rowT,hlo,hhi];rw[if_pos ⟨h.1,h.2,eY⟩];have h1:((l.drop a).take (b-a)).length=b-a:=(by simp;omega);have hrow:rowT c ((l.drop a).take (b-a))=.sl (b-a) (flat c ((l.drop a).take (b-a))):=by
   show AV.sl _ _=_;rw[h1]
  suffices hs:((flat c l).drop (a*w)).take ((b-a)*w)=flat c ((l.drop a).take (b-a)) by
   show some (AV.sl (b-a) _,_)=_;rw[hs];exact congrArg (fun z=>some (z,bT G x)) hrow.symm
  have hd:∀(k:Nat) (l:List α),(flat c l).drop (k*w)=flat c (l.drop k):=by
   intro k;induction k with
   | zero=>intro l;simp
   | succ k ih=>
    intro l;cases l with
    | nil=>simp[flat]
    | cons y r=>
     have hy:(c y).length=w:=Wid.len y;rw[List.drop_succ_cons,←ih r];unfold flat;rw[List.flatMap_cons,List.drop_append,List.drop_eq_nil_of_le (by rw[hy,Nat.add_mul];omega),List.nil_append,hy,Nat.add_mul];congr 1;omega
  have htk:∀(k:Nat) (l:List α),(flat c l).take (k*w)=flat c (l.take k):=by
   intro k;induction k with
   | zero=>intro l;simp
   | succ k ih=>
    intro l;cases l with
    | nil=>simp[flat]
    | cons y r=>
     have hy:(c y).length=w:=Wid.len y;rw[List.take_succ_cons];unfold flat;rw[List.flatMap_cons,List.flatMap_cons,List.take_append,hy,List.take_of_length_le (by rw[hy,Nat.add_mul];omega)];have e1:(k+1)*w-w=k*w:=(by rw[Nat.add_mul];omega);rw[e1];have:=ih r;unfold flat at this;rw[this]
  rw[hd,htk]
@[simp] theorem evSlice_rowT [Wid c w] (t:TypeId) (lo hi:Nat→Option Nat):eH P G t (rowT c l) lo hi=match elI P t with
  | some (_,k,_,_)=>if k=w then(match lo 0,hi l.length with
   | some a,some b=>if a≤b∧b≤l.length then some (rowT c ((l.drop a).take (b-a)),G)else none
   | _,_=>none)else eH P G t (rowT c l) lo hi
  | none=>none:=by
 cases hel:elI P t with
 | none=>unfold eH rowT;simp[hel]
 | some q=>
  obtain⟨e,k,b',z⟩:=q;simp only;split
  ·rename_i hk;subst hk;cases hlo:lo 0 with
   | none=>unfold eH;simp only[rowT,hel,wJ,hlo]
   | some a=>
    cases hhi:hi l.length with
    | none=>unfold eH;simp only[rowT,hel,wJ,hlo,hhi]
    | some b=>
     simp only;split
     ·rename_i h;exact jK (c:=c) (fun y h=>by unfold rowT at h;cases h) hel rfl hlo hhi h
     ·rename_i h;unfold eH;simp only[rowT,hel,wJ,hlo,hhi];rw[if_neg (fun q=>h ⟨q.1,q.2.1⟩)]
  ·rfl
end
end Go.Proofs.YtmmbgjmigmchbaaGreatDoorAbs
