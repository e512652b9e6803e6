/- Parts of texts and of rows; bytes. -/
import Derived.Test.YtgipehooceecpaaGreatDoorEa2
import Derived.Test.YtgipehooceecpaaGreatDoorProg
import Derived.KernelRfl
namespace Go.Proofs.YtgipehooceecpaaGreatDoorAbs
open Go Go.RowKit Go.Proofs
set_option maxRecDepth 100000
@[simp] theorem ty2:tyI Tryz.prog 2=some (false,1):=by kernel_rfl
@[simp] theorem co2:Program.cellsOf Tryz.prog 2=1:=by kernel_rfl
@[simp] theorem un2:Program.underlying Tryz.prog 2=some (.int .i64):=by kernel_rfl
@[simp] theorem zr2:zrI Tryz.prog 2=some [.int .i64 0]:=by kernel_rfl
@[simp] theorem ty3:tyI Tryz.prog 3=some (false,1):=by kernel_rfl
@[simp] theorem co3:Program.cellsOf Tryz.prog 3=1:=by kernel_rfl
@[simp] theorem un3:Program.underlying Tryz.prog 3=some (.int .i64):=by kernel_rfl
@[simp] theorem zr3:zrI Tryz.prog 3=some [.int .i64 0]:=by kernel_rfl
@[simp] theorem ty4:tyI Tryz.prog 4=some (false,1):=by kernel_rfl
@[simp] theorem co4:Program.cellsOf Tryz.prog 4=1:=by kernel_rfl
@[simp] theorem zr4:zrI Tryz.prog 4=some [.bool false]:=by kernel_rfl
@[simp] theorem ty5:tyI Tryz.prog 5=some (false,1):=by kernel_rfl
@[simp] theorem co5:Program.cellsOf Tryz.prog 5=1:=by kernel_rfl
@[simp] theorem un5:Program.underlying Tryz.prog 5=some (.int .u8):=by kernel_rfl
@[simp] theorem zr5:zrI Tryz.prog 5=some [.int .u8 0]:=by kernel_rfl
@[simp] theorem ty6:tyI Tryz.prog 6=some (false,1):=by kernel_rfl
@[simp] theorem co6:Program.cellsOf Tryz.prog 6=1:=by kernel_rfl
@[simp] theorem un6:Program.underlying Tryz.prog 6=some (.int .u8):=by kernel_rfl
@[simp] theorem zr6:zrI Tryz.prog 6=some [.int .u8 0]:=by kernel_rfl
@[simp] theorem ty7:tyI Tryz.prog 7=some (true,4):=by kernel_rfl
@[simp] theorem co7:Program.cellsOf Tryz.prog 7=4:=by kernel_rfl
@[simp] theorem fl7_0:flI Tryz.prog 7 0=some (0,false,1):=by kernel_rfl
@[simp] theorem fl7_1:flI Tryz.prog 7 1=some (1,false,1):=by kernel_rfl
@[simp] theorem fl7_2:flI Tryz.prog 7 2=some (2,false,1):=by kernel_rfl
@[simp] theorem fl7_3:flI Tryz.prog 7 3=some (3,false,1):=by kernel_rfl
@[simp] theorem pl7:plI Tryz.prog 7=some [(0,1),(1,1),(2,1),(3,1)]:=by kernel_rfl
@[simp] theorem zr7:zrI Tryz.prog 7=some [.int .i64 0,.int .i64 0,.bool false,.int .u8 0]:=by kernel_rfl
@[simp] theorem ty8:tyI Tryz.prog 8=some (true,4):=by kernel_rfl
@[simp] theorem co8:Program.cellsOf Tryz.prog 8=4:=by kernel_rfl
@[simp] theorem fl8_0:flI Tryz.prog 8 0=some (0,false,1):=by kernel_rfl
@[simp] theorem fl8_1:flI Tryz.prog 8 1=some (1,false,1):=by kernel_rfl
@[simp] theorem fl8_2:flI Tryz.prog 8 2=some (2,false,1):=by kernel_rfl
@[simp] theorem fl8_3:flI Tryz.prog 8 3=some (3,false,1):=by kernel_rfl
@[simp] theorem pl8:plI Tryz.prog 8=some [(0,1),(1,1),(2,1),(3,1)]:=by kernel_rfl
@[simp] theorem zr8:zrI Tryz.prog 8=some [.int .i64 0,.int .i64 0,.bool false,.int .u8 0]:=by kernel_rfl
@[simp] theorem ty9:tyI Tryz.prog 9=some (false,1):=by kernel_rfl
@[simp] theorem co9:Program.cellsOf Tryz.prog 9=1:=by kernel_rfl
@[simp] theorem st9:isStr Tryz.prog 9=true:=by kernel_rfl
@[simp] theorem zr9:zrI Tryz.prog 9=some [.string ⟨#[]⟩]:=by kernel_rfl
@[simp] theorem ty10:tyI Tryz.prog 10=some (false,1):=by kernel_rfl
@[simp] theorem co10:Program.cellsOf Tryz.prog 10=1:=by kernel_rfl
@[simp] theorem st10:isStr Tryz.prog 10=true:=by kernel_rfl
@[simp] theorem zr10:zrI Tryz.prog 10=some [.string ⟨#[]⟩]:=by kernel_rfl
@[simp] theorem ty11:tyI Tryz.prog 11=some (false,1):=by kernel_rfl
@[simp] theorem co11:Program.cellsOf Tryz.prog 11=1:=by kernel_rfl
@[simp] theorem st11:isStr Tryz.prog 11=true:=by kernel_rfl
@[simp] theorem zr11:zrI Tryz.prog 11=some [.string ⟨#[]⟩]:=by kernel_rfl
@[simp] theorem ty12:tyI Tryz.prog 12=some (false,1):=by kernel_rfl
@[simp] theorem co12:Program.cellsOf Tryz.prog 12=1:=by kernel_rfl
@[simp] theorem un12:Program.underlying Tryz.prog 12=some (.int .u64):=by kernel_rfl
@[simp] theorem zr12:zrI Tryz.prog 12=some [.int .u64 0]:=by kernel_rfl
@[simp] theorem ty13:tyI Tryz.prog 13=some (true,2):=by kernel_rfl
@[simp] theorem co13:Program.cellsOf Tryz.prog 13=2:=by kernel_rfl
@[simp] theorem fl13_0:flI Tryz.prog 13 0=some (0,false,1):=by kernel_rfl
@[simp] theorem fl13_1:flI Tryz.prog 13 1=some (1,false,1):=by kernel_rfl
@[simp] theorem pl13:plI Tryz.prog 13=some [(0,1),(1,1)]:=by kernel_rfl
@[simp] theorem zr13:zrI Tryz.prog 13=some [.string ⟨#[]⟩,.int .u64 0]:=by kernel_rfl
@[simp] theorem ty14:tyI Tryz.prog 14=some (true,2):=by kernel_rfl
@[simp] theorem co14:Program.cellsOf Tryz.prog 14=2:=by kernel_rfl
@[simp] theorem fl14_0:flI Tryz.prog 14 0=some (0,false,1):=by kernel_rfl
@[simp] theorem fl14_1:flI Tryz.prog 14 1=some (1,false,1):=by kernel_rfl
@[simp] theorem pl14:plI Tryz.prog 14=some [(0,1),(1,1)]:=by kernel_rfl
@[simp] theorem zr14:zrI Tryz.prog 14=some [.string ⟨#[]⟩,.int .u64 0]:=by kernel_rfl
@[simp] theorem ty18:tyI Tryz.prog 18=some (true,1):=by kernel_rfl
@[simp] theorem co18:Program.cellsOf Tryz.prog 18=1:=by kernel_rfl
@[simp] theorem fl18_0:flI Tryz.prog 18 0=some (0,false,1):=by kernel_rfl
@[simp] theorem pl18:plI Tryz.prog 18=some [(0,1)]:=by kernel_rfl
@[simp] theorem zr18:zrI Tryz.prog 18=some [.pointer none]:=by kernel_rfl
@[simp] theorem ty19:tyI Tryz.prog 19=some (true,1):=by kernel_rfl
@[simp] theorem co19:Program.cellsOf Tryz.prog 19=1:=by kernel_rfl
@[simp] theorem fl19_0:flI Tryz.prog 19 0=some (0,false,1):=by kernel_rfl
@[simp] theorem pl19:plI Tryz.prog 19=some [(0,1)]:=by kernel_rfl
@[simp] theorem zr19:zrI Tryz.prog 19=some [.pointer none]:=by kernel_rfl
@[simp] theorem ty21:tyI Tryz.prog 21=some (false,1):=by kernel_rfl
@[simp] theorem co21:Program.cellsOf Tryz.prog 21=1:=by kernel_rfl
@[simp] theorem un21:Program.underlying Tryz.prog 21=some (.int .i32):=by kernel_rfl
@[simp] theorem zr21:zrI Tryz.prog 21=some [.int .i32 0]:=by kernel_rfl
@[simp] theorem ty22:tyI Tryz.prog 22=some (true,4):=by kernel_rfl
@[simp] theorem co22:Program.cellsOf Tryz.prog 22=4:=by kernel_rfl
@[simp] theorem fl22_0:flI Tryz.prog 22 0=some (0,false,1):=by kernel_rfl
@[simp] theorem fl22_1:flI Tryz.prog 22 1=some (1,false,1):=by kernel_rfl
@[simp] theorem fl22_2:flI Tryz.prog 22 2=some (2,false,1):=by kernel_rfl
@[simp] theorem fl22_3:flI Tryz.prog 22 3=some (3,false,1):=by kernel_rfl
@[simp] theorem pl22:plI Tryz.prog 22=some [(0,1),(1,1),(2,1),(3,1)]:=by kernel_rfl
@[simp] theorem zr22:zrI Tryz.prog 22=some [.int .i64 0,.int .i64 0,.int .i64 0,.string ⟨#[]⟩]:=by kernel_rfl
@[simp] theorem ty23:tyI Tryz.prog 23=some (true,4):=by kernel_rfl
@[simp] theorem co23:Program.cellsOf Tryz.prog 23=4:=by kernel_rfl
@[simp] theorem fl23_0:flI Tryz.prog 23 0=some (0,false,1):=by kernel_rfl
@[simp] theorem fl23_1:flI Tryz.prog 23 1=some (1,false,1):=by kernel_rfl
@[simp] theorem fl23_2:flI Tryz.prog 23 2=some (2,false,1):=by kernel_rfl
@[simp] theorem fl23_3:flI Tryz.prog 23 3=some (3,false,1):=by kernel_rfl
@[simp] theorem pl23:plI Tryz.prog 23=some [(0,1),(1,1),(2,1),(3,1)]:=by kernel_rfl
@[simp] theorem zr23:zrI Tryz.prog 23=some [.int .i64 0,.int .i64 0,.int .i64 0,.string ⟨#[]⟩]:=by kernel_rfl
@[simp] theorem ty24:tyI Tryz.prog 24=some (false,1):=by kernel_rfl
@[simp] theorem co24:Program.cellsOf Tryz.prog 24=1:=by kernel_rfl
@[simp] theorem el24:elI Tryz.prog 24=some (35,3,48,[.int .i64 0,.string ⟨#[]⟩,.slice none 0 0]):=by kernel_rfl
@[simp] theorem zr24:zrI Tryz.prog 24=some [.slice none 0 0]:=by kernel_rfl
@[simp] theorem ty25:tyI Tryz.prog 25=some (false,1):=by kernel_rfl
@[simp] theorem co25:Program.cellsOf Tryz.prog 25=1:=by kernel_rfl
@[simp] theorem el25:elI Tryz.prog 25=some (96,2,40,[.string ⟨#[]⟩,.slice none 0 0]):=by kernel_rfl
@[simp] theorem zr25:zrI Tryz.prog 25=some [.slice none 0 0]:=by kernel_rfl
@[simp] theorem ty26:tyI Tryz.prog 26=some (true,7):=by kernel_rfl
@[simp] theorem co26:Program.cellsOf Tryz.prog 26=7:=by kernel_rfl
@[simp] theorem fl26_0:flI Tryz.prog 26 0=some (0,false,1):=by kernel_rfl
@[simp] theorem fl26_1:flI Tryz.prog 26 1=some (1,true,4):=by kernel_rfl
@[simp] theorem fl26_2:flI Tryz.prog 26 2=some (5,false,1):=by kernel_rfl
@[simp] theorem fl26_3:flI Tryz.prog 26 3=some (6,false,1):=by kernel_rfl
@[simp] theorem pl26:plI Tryz.prog 26=some [(0,1),(1,4),(5,1),(6,1)]:=by kernel_rfl
@[simp] theorem zr26:zrI Tryz.prog 26=some [.string ⟨#[]⟩,.int .i64 0,.int .i64 0,.int .i64 0,.string ⟨#[]⟩,.slice none 0 0,.slice none 0 0]:=by kernel_rfl
@[simp] theorem ty27:tyI Tryz.prog 27=some (true,7):=by kernel_rfl
@[simp] theorem co27:Program.cellsOf Tryz.prog 27=7:=by kernel_rfl
@[simp] theorem fl27_0:flI Tryz.prog 27 0=some (0,false,1):=by kernel_rfl
@[simp] theorem fl27_1:flI Tryz.prog 27 1=some (1,true,4):=by kernel_rfl
@[simp] theorem fl27_2:flI Tryz.prog 27 2=some (5,false,1):=by kernel_rfl
@[simp] theorem fl27_3:flI Tryz.prog 27 3=some (6,false,1):=by kernel_rfl
@[simp] theorem pl27:plI Tryz.prog 27=some [(0,1),(1,4),(5,1),(6,1)]:=by kernel_rfl
@[simp] theorem zr27:zrI Tryz.prog 27=some [.string ⟨#[]⟩,.int .i64 0,.int .i64 0,.int .i64 0,.string ⟨#[]⟩,.slice none 0 0,.slice none 0 0]:=by kernel_rfl
@[simp] theorem ty28:tyI Tryz.prog 28=some (false,1):=by kernel_rfl
@[simp] theorem co28:Program.cellsOf Tryz.prog 28=1:=by kernel_rfl
@[simp] theorem el28:elI Tryz.prog 28=some (27,7,104,[.string ⟨#[]⟩,.int .i64 0,.int .i64 0,.int .i64 0,.string ⟨#[]⟩,.slice none 0 0,.slice none 0 0]):=by kernel_rfl
@[simp] theorem zr28:zrI Tryz.prog 28=some [.slice none 0 0]:=by kernel_rfl
@[simp] theorem ty29:tyI Tryz.prog 29=some (false,1):=by kernel_rfl
@[simp] theorem co29:Program.cellsOf Tryz.prog 29=1:=by kernel_rfl
@[simp] theorem el29:elI Tryz.prog 29=some (58,6,64,[.int .i64 0,.string ⟨#[]⟩,.int .i64 0,.int .i64 0,.int .i64 0,.string ⟨#[]⟩]):=by kernel_rfl
@[simp] theorem zr29:zrI Tryz.prog 29=some [.slice none 0 0]:=by kernel_rfl
@[simp] theorem ty30:tyI Tryz.prog 30=some (false,1):=by kernel_rfl
@[simp] theorem co30:Program.cellsOf Tryz.prog 30=1:=by kernel_rfl
@[simp] theorem un30:Program.underlying Tryz.prog 30=some (.int .i64):=by kernel_rfl
@[simp] theorem zr30:zrI Tryz.prog 30=some [.int .i64 0]:=by kernel_rfl
@[simp] theorem ty31:tyI Tryz.prog 31=some (false,1):=by kernel_rfl
@[simp] theorem co31:Program.cellsOf Tryz.prog 31=1:=by kernel_rfl
@[simp] theorem el31:elI Tryz.prog 31=some (83,1,24,[.slice none 0 0]):=by kernel_rfl
@[simp] theorem zr31:zrI Tryz.prog 31=some [.slice none 0 0]:=by kernel_rfl
@[simp] theorem ty32:tyI Tryz.prog 32=some (true,1):=by kernel_rfl
@[simp] theorem co32:Program.cellsOf Tryz.prog 32=1:=by kernel_rfl
@[simp] theorem fl32_0:flI Tryz.prog 32 0=some (0,false,1):=by kernel_rfl
@[simp] theorem pl32:plI Tryz.prog 32=some [(0,1)]:=by kernel_rfl
@[simp] theorem zr32:zrI Tryz.prog 32=some [.slice none 0 0]:=by kernel_rfl
@[simp] theorem ty33:tyI Tryz.prog 33=some (true,1):=by kernel_rfl
@[simp] theorem co33:Program.cellsOf Tryz.prog 33=1:=by kernel_rfl
@[simp] theorem fl33_0:flI Tryz.prog 33 0=some (0,false,1):=by kernel_rfl
@[simp] theorem pl33:plI Tryz.prog 33=some [(0,1)]:=by kernel_rfl
@[simp] theorem zr33:zrI Tryz.prog 33=some [.slice none 0 0]:=by kernel_rfl
@[simp] theorem ty34:tyI Tryz.prog 34=some (true,3):=by kernel_rfl
@[simp] theorem co34:Program.cellsOf Tryz.prog 34=3:=by kernel_rfl
@[simp] theorem fl34_0:flI Tryz.prog 34 0=some (0,false,1):=by kernel_rfl
@[simp] theorem fl34_1:flI Tryz.prog 34 1=some (1,false,1):=by kernel_rfl
@[simp] theorem fl34_2:flI Tryz.prog 34 2=some (2,true,1):=by kernel_rfl
@[simp] theorem pl34:plI Tryz.prog 34=some [(0,1),(1,1),(2,1)]:=by kernel_rfl
@[simp] theorem zr34:zrI Tryz.prog 34=some [.int .i64 0,.string ⟨#[]⟩,.slice none 0 0]:=by kernel_rfl
@[simp] theorem ty35:tyI Tryz.prog 35=some (true,3):=by kernel_rfl
@[simp] theorem co35:Program.cellsOf Tryz.prog 35=3:=by kernel_rfl
@[simp] theorem fl35_0:flI Tryz.prog 35 0=some (0,false,1):=by kernel_rfl
@[simp] theorem fl35_1:flI Tryz.prog 35 1=some (1,false,1):=by kernel_rfl
@[simp] theorem fl35_2:flI Tryz.prog 35 2=some (2,true,1):=by kernel_rfl
@[simp] theorem pl35:plI Tryz.prog 35=some [(0,1),(1,1),(2,1)]:=by kernel_rfl
@[simp] theorem zr35:zrI Tryz.prog 35=some [.int .i64 0,.string ⟨#[]⟩,.slice none 0 0]:=by kernel_rfl
@[simp] theorem ty49:tyI Tryz.prog 49=some (false,1):=by kernel_rfl
@[simp] theorem co49:Program.cellsOf Tryz.prog 49=1:=by kernel_rfl
@[simp] theorem el49:elI Tryz.prog 49=some (3,1,8,[.int .i64 0]):=by kernel_rfl
@[simp] theorem zr49:zrI Tryz.prog 49=some [.slice none 0 0]:=by kernel_rfl
@[simp] theorem ty50:tyI Tryz.prog 50=some (false,1):=by kernel_rfl
@[simp] theorem co50:Program.cellsOf Tryz.prog 50=1:=by kernel_rfl
@[simp] theorem un50:Program.underlying Tryz.prog 50=some (.int .i64):=by kernel_rfl
@[simp] theorem zr50:zrI Tryz.prog 50=some [.int .i64 0]:=by kernel_rfl
@[simp] theorem ty57:tyI Tryz.prog 57=some (true,6):=by kernel_rfl
@[simp] theorem co57:Program.cellsOf Tryz.prog 57=6:=by kernel_rfl
@[simp] theorem fl57_0:flI Tryz.prog 57 0=some (0,false,1):=by kernel_rfl
@[simp] theorem fl57_1:flI Tryz.prog 57 1=some (1,false,1):=by kernel_rfl
@[simp] theorem fl57_2:flI Tryz.prog 57 2=some (2,true,4):=by kernel_rfl
@[simp] theorem pl57:plI Tryz.prog 57=some [(0,1),(1,1),(2,4)]:=by kernel_rfl
@[simp] theorem zr57:zrI Tryz.prog 57=some [.int .i64 0,.string ⟨#[]⟩,.int .i64 0,.int .i64 0,.int .i64 0,.string ⟨#[]⟩]:=by kernel_rfl
@[simp] theorem ty58:tyI Tryz.prog 58=some (true,6):=by kernel_rfl
@[simp] theorem co58:Program.cellsOf Tryz.prog 58=6:=by kernel_rfl
@[simp] theorem fl58_0:flI Tryz.prog 58 0=some (0,false,1):=by kernel_rfl
@[simp] theorem fl58_1:flI Tryz.prog 58 1=some (1,false,1):=by kernel_rfl
@[simp] theorem fl58_2:flI Tryz.prog 58 2=some (2,true,4):=by kernel_rfl
@[simp] theorem pl58:plI Tryz.prog 58=some [(0,1),(1,1),(2,4)]:=by kernel_rfl
@[simp] theorem zr58:zrI Tryz.prog 58=some [.int .i64 0,.string ⟨#[]⟩,.int .i64 0,.int .i64 0,.int .i64 0,.string ⟨#[]⟩]:=by kernel_rfl
@[simp] theorem ty83:tyI Tryz.prog 83=some (false,1):=by kernel_rfl
@[simp] theorem co83:Program.cellsOf Tryz.prog 83=1:=by kernel_rfl
@[simp] theorem el83:elI Tryz.prog 83=some (87,5,48,[.int .i64 0,.int .i64 0,.int .i64 0,.int .i64 0,.string ⟨#[]⟩]):=by kernel_rfl
@[simp] theorem zr83:zrI Tryz.prog 83=some [.slice none 0 0]:=by kernel_rfl
@[simp] theorem ty85:tyI Tryz.prog 85=some (false,1):=by kernel_rfl
@[simp] theorem co85:Program.cellsOf Tryz.prog 85=1:=by kernel_rfl
@[simp] theorem un85:Program.underlying Tryz.prog 85=some (.int .i64):=by kernel_rfl
@[simp] theorem zr85:zrI Tryz.prog 85=some [.int .i64 0]:=by kernel_rfl
@[simp] theorem ty86:tyI Tryz.prog 86=some (true,5):=by kernel_rfl
@[simp] theorem co86:Program.cellsOf Tryz.prog 86=5:=by kernel_rfl
@[simp] theorem fl86_0:flI Tryz.prog 86 0=some (0,false,1):=by kernel_rfl
@[simp] theorem fl86_1:flI Tryz.prog 86 1=some (1,true,4):=by kernel_rfl
@[simp] theorem pl86:plI Tryz.prog 86=some [(0,1),(1,4)]:=by kernel_rfl
@[simp] theorem zr86:zrI Tryz.prog 86=some [.int .i64 0,.int .i64 0,.int .i64 0,.int .i64 0,.string ⟨#[]⟩]:=by kernel_rfl
@[simp] theorem ty87:tyI Tryz.prog 87=some (true,5):=by kernel_rfl
@[simp] theorem co87:Program.cellsOf Tryz.prog 87=5:=by kernel_rfl
@[simp] theorem fl87_0:flI Tryz.prog 87 0=some (0,false,1):=by kernel_rfl
@[simp] theorem fl87_1:flI Tryz.prog 87 1=some (1,true,4):=by kernel_rfl
@[simp] theorem pl87:plI Tryz.prog 87=some [(0,1),(1,4)]:=by kernel_rfl
@[simp] theorem zr87:zrI Tryz.prog 87=some [.int .i64 0,.int .i64 0,.int .i64 0,.int .i64 0,.string ⟨#[]⟩]:=by kernel_rfl
@[simp] theorem ty95:tyI Tryz.prog 95=some (true,2):=by kernel_rfl
@[simp] theorem co95:Program.cellsOf Tryz.prog 95=2:=by kernel_rfl
@[simp] theorem fl95_0:flI Tryz.prog 95 0=some (0,false,1):=by kernel_rfl
@[simp] theorem fl95_1:flI Tryz.prog 95 1=some (1,true,1):=by kernel_rfl
@[simp] theorem pl95:plI Tryz.prog 95=some [(0,1),(1,1)]:=by kernel_rfl
@[simp] theorem zr95:zrI Tryz.prog 95=some [.string ⟨#[]⟩,.slice none 0 0]:=by kernel_rfl
@[simp] theorem ty96:tyI Tryz.prog 96=some (true,2):=by kernel_rfl
@[simp] theorem co96:Program.cellsOf Tryz.prog 96=2:=by kernel_rfl
@[simp] theorem fl96_0:flI Tryz.prog 96 0=some (0,false,1):=by kernel_rfl
@[simp] theorem fl96_1:flI Tryz.prog 96 1=some (1,true,1):=by kernel_rfl
@[simp] theorem pl96:plI Tryz.prog 96=some [(0,1),(1,1)]:=by kernel_rfl
@[simp] theorem zr96:zrI Tryz.prog 96=some [.string ⟨#[]⟩,.slice none 0 0]:=by kernel_rfl
@[simp] theorem ty98:tyI Tryz.prog 98=some (false,1):=by kernel_rfl
@[simp] theorem co98:Program.cellsOf Tryz.prog 98=1:=by kernel_rfl
@[simp] theorem el98:elI Tryz.prog 98=some (97,1,8,[.nilFunc]):=by kernel_rfl
@[simp] theorem zr98:zrI Tryz.prog 98=some [.slice none 0 0]:=by kernel_rfl
@[simp] theorem ty103:tyI Tryz.prog 103=some (false,1):=by kernel_rfl
@[simp] theorem co103:Program.cellsOf Tryz.prog 103=1:=by kernel_rfl
@[simp] theorem mp103:mapI Tryz.prog 103=some (9,.string,35):=by kernel_rfl
@[simp] theorem zr103:zrI Tryz.prog 103=some [.map none]:=by kernel_rfl
@[simp] theorem ty106:tyI Tryz.prog 106=some (false,1):=by kernel_rfl
@[simp] theorem co106:Program.cellsOf Tryz.prog 106=1:=by kernel_rfl
@[simp] theorem el106:elI Tryz.prog 106=some (9,1,16,[.string ⟨#[]⟩]):=by kernel_rfl
@[simp] theorem zr106:zrI Tryz.prog 106=some [.slice none 0 0]:=by kernel_rfl
@[simp] theorem ty111:tyI Tryz.prog 111=some (false,1):=by kernel_rfl
@[simp] theorem co111:Program.cellsOf Tryz.prog 111=1:=by kernel_rfl
@[simp] theorem zr111:zrI Tryz.prog 111=some [.map none]:=by kernel_rfl
@[simp] theorem ty112:tyI Tryz.prog 112=some (true,2):=by kernel_rfl
@[simp] theorem co112:Program.cellsOf Tryz.prog 112=2:=by kernel_rfl
@[simp] theorem fl112_0:flI Tryz.prog 112 0=some (0,false,1):=by kernel_rfl
@[simp] theorem fl112_1:flI Tryz.prog 112 1=some (1,false,1):=by kernel_rfl
@[simp] theorem pl112:plI Tryz.prog 112=some [(0,1),(1,1)]:=by kernel_rfl
@[simp] theorem zr112:zrI Tryz.prog 112=some [.int .i64 0,.string ⟨#[]⟩]:=by kernel_rfl
@[simp] theorem ty113:tyI Tryz.prog 113=some (true,2):=by kernel_rfl
@[simp] theorem co113:Program.cellsOf Tryz.prog 113=2:=by kernel_rfl
@[simp] theorem fl113_0:flI Tryz.prog 113 0=some (0,false,1):=by kernel_rfl
@[simp] theorem fl113_1:flI Tryz.prog 113 1=some (1,false,1):=by kernel_rfl
@[simp] theorem pl113:plI Tryz.prog 113=some [(0,1),(1,1)]:=by kernel_rfl
@[simp] theorem zr113:zrI Tryz.prog 113=some [.int .i64 0,.string ⟨#[]⟩]:=by kernel_rfl
@[simp] theorem ty121:tyI Tryz.prog 121=some (true,9):=by kernel_rfl
@[simp] theorem co121:Program.cellsOf Tryz.prog 121=9:=by kernel_rfl
@[simp] theorem fl121_0:flI Tryz.prog 121 0=some (0,true,7):=by kernel_rfl
@[simp] theorem fl121_1:flI Tryz.prog 121 1=some (7,false,1):=by kernel_rfl
@[simp] theorem fl121_2:flI Tryz.prog 121 2=some (8,false,1):=by kernel_rfl
@[simp] theorem pl121:plI Tryz.prog 121=some [(0,7),(7,1),(8,1)]:=by kernel_rfl
@[simp] theorem zr121:zrI Tryz.prog 121=some [.string ⟨#[]⟩,.int .i64 0,.int .i64 0,.int .i64 0,.string ⟨#[]⟩,.slice none 0 0,.slice none 0 0,.slice none 0 0,.slice none 0 0]:=by kernel_rfl
@[simp] theorem ty122:tyI Tryz.prog 122=some (true,9):=by kernel_rfl
@[simp] theorem co122:Program.cellsOf Tryz.prog 122=9:=by kernel_rfl
@[simp] theorem fl122_0:flI Tryz.prog 122 0=some (0,true,7):=by kernel_rfl
@[simp] theorem fl122_1:flI Tryz.prog 122 1=some (7,false,1):=by kernel_rfl
@[simp] theorem fl122_2:flI Tryz.prog 122 2=some (8,false,1):=by kernel_rfl
@[simp] theorem pl122:plI Tryz.prog 122=some [(0,7),(7,1),(8,1)]:=by kernel_rfl
@[simp] theorem zr122:zrI Tryz.prog 122=some [.string ⟨#[]⟩,.int .i64 0,.int .i64 0,.int .i64 0,.string ⟨#[]⟩,.slice none 0 0,.slice none 0 0,.slice none 0 0,.slice none 0 0]:=by kernel_rfl
@[simp] theorem ty123:tyI Tryz.prog 123=some (false,1):=by kernel_rfl
@[simp] theorem co123:Program.cellsOf Tryz.prog 123=1:=by kernel_rfl
@[simp] theorem el123:elI Tryz.prog 123=some (4,1,1,[.bool false]):=by kernel_rfl
@[simp] theorem zr123:zrI Tryz.prog 123=some [.slice none 0 0]:=by kernel_rfl
@[simp] theorem ty129:tyI Tryz.prog 129=some (false,1):=by kernel_rfl
@[simp] theorem co129:Program.cellsOf Tryz.prog 129=1:=by kernel_rfl
@[simp] theorem mp129:mapI Tryz.prog 129=some (3,.int .i64,4):=by kernel_rfl
@[simp] theorem zr129:zrI Tryz.prog 129=some [.map none]:=by kernel_rfl
@[simp] theorem ty130:tyI Tryz.prog 130=some (false,1):=by kernel_rfl
@[simp] theorem co130:Program.cellsOf Tryz.prog 130=1:=by kernel_rfl
@[simp] theorem mp130:mapI Tryz.prog 130=some (3,.int .i64,3):=by kernel_rfl
@[simp] theorem zr130:zrI Tryz.prog 130=some [.map none]:=by kernel_rfl
@[simp] theorem ty138:tyI Tryz.prog 138=some (true,9):=by kernel_rfl
@[simp] theorem co138:Program.cellsOf Tryz.prog 138=9:=by kernel_rfl
@[simp] theorem fl138_0:flI Tryz.prog 138 0=some (0,true,7):=by kernel_rfl
@[simp] theorem fl138_1:flI Tryz.prog 138 1=some (7,false,1):=by kernel_rfl
@[simp] theorem fl138_2:flI Tryz.prog 138 2=some (8,false,1):=by kernel_rfl
@[simp] theorem pl138:plI Tryz.prog 138=some [(0,7),(7,1),(8,1)]:=by kernel_rfl
@[simp] theorem zr138:zrI Tryz.prog 138=some [.string ⟨#[]⟩,.int .i64 0,.int .i64 0,.int .i64 0,.string ⟨#[]⟩,.slice none 0 0,.slice none 0 0,.slice none 0 0,.slice none 0 0]:=by kernel_rfl
@[simp] theorem ty139:tyI Tryz.prog 139=some (true,9):=by kernel_rfl
@[simp] theorem co139:Program.cellsOf Tryz.prog 139=9:=by kernel_rfl
@[simp] theorem fl139_0:flI Tryz.prog 139 0=some (0,true,7):=by kernel_rfl
@[simp] theorem fl139_1:flI Tryz.prog 139 1=some (7,false,1):=by kernel_rfl
@[simp] theorem fl139_2:flI Tryz.prog 139 2=some (8,false,1):=by kernel_rfl
@[simp] theorem pl139:plI Tryz.prog 139=some [(0,7),(7,1),(8,1)]:=by kernel_rfl
@[simp] theorem zr139:zrI Tryz.prog 139=some [.string ⟨#[]⟩,.int .i64 0,.int .i64 0,.int .i64 0,.string ⟨#[]⟩,.slice none 0 0,.slice none 0 0,.slice none 0 0,.slice none 0 0]:=by kernel_rfl
@[simp] theorem ty180:tyI Tryz.prog 180=some (false,1):=by kernel_rfl
@[simp] theorem co180:Program.cellsOf Tryz.prog 180=1:=by kernel_rfl
@[simp] theorem un180:Program.underlying Tryz.prog 180=some (.int .i64):=by kernel_rfl
@[simp] theorem zr180:zrI Tryz.prog 180=some [.int .i64 0]:=by kernel_rfl
@[simp] theorem ty184:tyI Tryz.prog 184=some (false,1):=by kernel_rfl
@[simp] theorem co184:Program.cellsOf Tryz.prog 184=1:=by kernel_rfl
@[simp] theorem un184:Program.underlying Tryz.prog 184=some (.int .u64):=by kernel_rfl
@[simp] theorem zr184:zrI Tryz.prog 184=some [.int .u64 0]:=by kernel_rfl
@[simp] theorem ty201:tyI Tryz.prog 201=some (false,1):=by kernel_rfl
@[simp] theorem co201:Program.cellsOf Tryz.prog 201=1:=by kernel_rfl
@[simp] theorem un201:Program.underlying Tryz.prog 201=some (.int .i64):=by kernel_rfl
@[simp] theorem zr201:zrI Tryz.prog 201=some [.int .i64 0]:=by kernel_rfl
@[simp] theorem ty208:tyI Tryz.prog 208=some (false,1):=by kernel_rfl
@[simp] theorem co208:Program.cellsOf Tryz.prog 208=1:=by kernel_rfl
@[simp] theorem un208:Program.underlying Tryz.prog 208=some (.int .u32):=by kernel_rfl
@[simp] theorem zr208:zrI Tryz.prog 208=some [.int .u32 0]:=by kernel_rfl
@[simp] theorem ty210:tyI Tryz.prog 210=some (false,1):=by kernel_rfl
@[simp] theorem co210:Program.cellsOf Tryz.prog 210=1:=by kernel_rfl
@[simp] theorem un210:Program.underlying Tryz.prog 210=some (.int .u64):=by kernel_rfl
@[simp] theorem zr210:zrI Tryz.prog 210=some [.int .u64 0]:=by kernel_rfl
@[simp] theorem ty212:tyI Tryz.prog 212=some (true,2):=by kernel_rfl
@[simp] theorem co212:Program.cellsOf Tryz.prog 212=2:=by kernel_rfl
@[simp] theorem fl212_0:flI Tryz.prog 212 0=some (0,false,1):=by kernel_rfl
@[simp] theorem fl212_1:flI Tryz.prog 212 1=some (1,false,1):=by kernel_rfl
@[simp] theorem pl212:plI Tryz.prog 212=some [(0,1),(1,1)]:=by kernel_rfl
@[simp] theorem zr212:zrI Tryz.prog 212=some [.int .i64 0,.string ⟨#[]⟩]:=by kernel_rfl
@[simp] theorem ty218:tyI Tryz.prog 218=some (false,1):=by kernel_rfl
@[simp] theorem co218:Program.cellsOf Tryz.prog 218=1:=by kernel_rfl
@[simp] theorem el218:elI Tryz.prog 218=some (5,1,1,[.int .u8 0]):=by kernel_rfl
@[simp] theorem zr218:zrI Tryz.prog 218=some [.slice none 0 0]:=by kernel_rfl
@[simp] theorem ty219:tyI Tryz.prog 219=some (true,2):=by kernel_rfl
@[simp] theorem co219:Program.cellsOf Tryz.prog 219=2:=by kernel_rfl
@[simp] theorem fl219_0:flI Tryz.prog 219 0=some (0,false,1):=by kernel_rfl
@[simp] theorem fl219_1:flI Tryz.prog 219 1=some (1,false,1):=by kernel_rfl
@[simp] theorem pl219:plI Tryz.prog 219=some [(0,1),(1,1)]:=by kernel_rfl
@[simp] theorem zr219:zrI Tryz.prog 219=some [.pointer none,.slice none 0 0]:=by kernel_rfl
@[simp] theorem ty220:tyI Tryz.prog 220=some (true,2):=by kernel_rfl
@[simp] theorem co220:Program.cellsOf Tryz.prog 220=2:=by kernel_rfl
@[simp] theorem fl220_0:flI Tryz.prog 220 0=some (0,false,1):=by kernel_rfl
@[simp] theorem fl220_1:flI Tryz.prog 220 1=some (1,false,1):=by kernel_rfl
@[simp] theorem pl220:plI Tryz.prog 220=some [(0,1),(1,1)]:=by kernel_rfl
@[simp] theorem zr220:zrI Tryz.prog 220=some [.pointer none,.slice none 0 0]:=by kernel_rfl
@[simp] theorem ty229:tyI Tryz.prog 229=some (false,1):=by kernel_rfl
@[simp] theorem co229:Program.cellsOf Tryz.prog 229=1:=by kernel_rfl
@[simp] theorem un229:Program.underlying Tryz.prog 229=some (.int .u64):=by kernel_rfl
@[simp] theorem zr229:zrI Tryz.prog 229=some [.int .u64 0]:=by kernel_rfl
@[simp] theorem ty266:tyI Tryz.prog 266=some (false,1):=by kernel_rfl
@[simp] theorem co266:Program.cellsOf Tryz.prog 266=1:=by kernel_rfl
@[simp] theorem un266:Program.underlying Tryz.prog 266=some (.int .i64):=by kernel_rfl
@[simp] theorem zr266:zrI Tryz.prog 266=some [.int .i64 0]:=by kernel_rfl
@[simp] theorem ty273:tyI Tryz.prog 273=some (true,2):=by kernel_rfl
@[simp] theorem co273:Program.cellsOf Tryz.prog 273=2:=by kernel_rfl
@[simp] theorem fl273_0:flI Tryz.prog 273 0=some (0,false,1):=by kernel_rfl
@[simp] theorem fl273_1:flI Tryz.prog 273 1=some (1,false,1):=by kernel_rfl
@[simp] theorem pl273:plI Tryz.prog 273=some [(0,1),(1,1)]:=by kernel_rfl
@[simp] theorem zr273:zrI Tryz.prog 273=some [.int .u8 0,.int .u8 0]:=by kernel_rfl
@[simp] theorem ty274:tyI Tryz.prog 274=some (true,2):=by kernel_rfl
@[simp] theorem co274:Program.cellsOf Tryz.prog 274=2:=by kernel_rfl
@[simp] theorem fl274_0:flI Tryz.prog 274 0=some (0,false,1):=by kernel_rfl
@[simp] theorem fl274_1:flI Tryz.prog 274 1=some (1,false,1):=by kernel_rfl
@[simp] theorem pl274:plI Tryz.prog 274=some [(0,1),(1,1)]:=by kernel_rfl
@[simp] theorem zr274:zrI Tryz.prog 274=some [.int .u8 0,.int .u8 0]:=by kernel_rfl
@[simp] theorem ty280:tyI Tryz.prog 280=some (true,3):=by kernel_rfl
@[simp] theorem co280:Program.cellsOf Tryz.prog 280=3:=by kernel_rfl
@[simp] theorem fl280_0:flI Tryz.prog 280 0=some (0,false,1):=by kernel_rfl
@[simp] theorem fl280_1:flI Tryz.prog 280 1=some (1,false,1):=by kernel_rfl
@[simp] theorem fl280_2:flI Tryz.prog 280 2=some (2,false,1):=by kernel_rfl
@[simp] theorem pl280:plI Tryz.prog 280=some [(0,1),(1,1),(2,1)]:=by kernel_rfl
@[simp] theorem ty281:tyI Tryz.prog 281=some (true,3):=by kernel_rfl
@[simp] theorem co281:Program.cellsOf Tryz.prog 281=3:=by kernel_rfl
@[simp] theorem fl281_0:flI Tryz.prog 281 0=some (0,false,1):=by kernel_rfl
@[simp] theorem fl281_1:flI Tryz.prog 281 1=some (1,false,1):=by kernel_rfl
@[simp] theorem fl281_2:flI Tryz.prog 281 2=some (2,false,1):=by kernel_rfl
@[simp] theorem pl281:plI Tryz.prog 281=some [(0,1),(1,1),(2,1)]:=by kernel_rfl
@[simp] theorem ty288:tyI Tryz.prog 288=some (true,1):=by kernel_rfl
@[simp] theorem co288:Program.cellsOf Tryz.prog 288=1:=by kernel_rfl
@[simp] theorem fl288_0:flI Tryz.prog 288 0=some (0,false,1):=by kernel_rfl
@[simp] theorem pl288:plI Tryz.prog 288=some [(0,1)]:=by kernel_rfl
@[simp] theorem zr288:zrI Tryz.prog 288=some [.string ⟨#[]⟩]:=by kernel_rfl
@[simp] theorem ty289:tyI Tryz.prog 289=some (true,1):=by kernel_rfl
@[simp] theorem co289:Program.cellsOf Tryz.prog 289=1:=by kernel_rfl
@[simp] theorem fl289_0:flI Tryz.prog 289 0=some (0,false,1):=by kernel_rfl
@[simp] theorem pl289:plI Tryz.prog 289=some [(0,1)]:=by kernel_rfl
@[simp] theorem zr289:zrI Tryz.prog 289=some [.string ⟨#[]⟩]:=by kernel_rfl
@[simp] theorem ty290:tyI Tryz.prog 290=some (true,4):=by kernel_rfl
@[simp] theorem co290:Program.cellsOf Tryz.prog 290=4:=by kernel_rfl
@[simp] theorem fl290_0:flI Tryz.prog 290 0=some (0,false,1):=by kernel_rfl
@[simp] theorem fl290_1:flI Tryz.prog 290 1=some (1,false,1):=by kernel_rfl
@[simp] theorem fl290_2:flI Tryz.prog 290 2=some (2,false,1):=by kernel_rfl
@[simp] theorem fl290_3:flI Tryz.prog 290 3=some (3,false,1):=by kernel_rfl
@[simp] theorem pl290:plI Tryz.prog 290=some [(0,1),(1,1),(2,1),(3,1)]:=by kernel_rfl
@[simp] theorem zr290:zrI Tryz.prog 290=some [.pointer none,.pointer none,.pointer none,.string ⟨#[]⟩]:=by kernel_rfl
@[simp] theorem ty291:tyI Tryz.prog 291=some (true,4):=by kernel_rfl
@[simp] theorem co291:Program.cellsOf Tryz.prog 291=4:=by kernel_rfl
@[simp] theorem fl291_0:flI Tryz.prog 291 0=some (0,false,1):=by kernel_rfl
@[simp] theorem fl291_1:flI Tryz.prog 291 1=some (1,false,1):=by kernel_rfl
@[simp] theorem fl291_2:flI Tryz.prog 291 2=some (2,false,1):=by kernel_rfl
@[simp] theorem fl291_3:flI Tryz.prog 291 3=some (3,false,1):=by kernel_rfl
@[simp] theorem pl291:plI Tryz.prog 291=some [(0,1),(1,1),(2,1),(3,1)]:=by kernel_rfl
@[simp] theorem zr291:zrI Tryz.prog 291=some [.pointer none,.pointer none,.pointer none,.string ⟨#[]⟩]:=by kernel_rfl
@[simp] theorem pl293:plI Tryz.prog 293=some [(0,0)]:=by kernel_rfl
@[simp] theorem zr293:zrI Tryz.prog 293=some []:=by kernel_rfl
@[simp] theorem pl294:plI Tryz.prog 294=some [(0,0)]:=by kernel_rfl
@[simp] theorem zr294:zrI Tryz.prog 294=some []:=by kernel_rfl
@[simp] theorem ty296:tyI Tryz.prog 296=some (false,1):=by kernel_rfl
@[simp] theorem co296:Program.cellsOf Tryz.prog 296=1:=by kernel_rfl
@[simp] theorem un296:Program.underlying Tryz.prog 296=some (.int .u8):=by kernel_rfl
@[simp] theorem zr296:zrI Tryz.prog 296=some [.int .u8 0]:=by kernel_rfl
@[simp] theorem ty297:tyI Tryz.prog 297=some (false,1):=by kernel_rfl
@[simp] theorem co297:Program.cellsOf Tryz.prog 297=1:=by kernel_rfl
@[simp] theorem un297:Program.underlying Tryz.prog 297=some (.int .u8):=by kernel_rfl
@[simp] theorem zr297:zrI Tryz.prog 297=some [.int .u8 0]:=by kernel_rfl
@[simp] theorem ty299:tyI Tryz.prog 299=some (false,1):=by kernel_rfl
@[simp] theorem co299:Program.cellsOf Tryz.prog 299=1:=by kernel_rfl
@[simp] theorem un299:Program.underlying Tryz.prog 299=some (.int .i32):=by kernel_rfl
@[simp] theorem zr299:zrI Tryz.prog 299=some [.int .i32 0]:=by kernel_rfl
@[simp] theorem ty300:tyI Tryz.prog 300=some (false,1):=by kernel_rfl
@[simp] theorem co300:Program.cellsOf Tryz.prog 300=1:=by kernel_rfl
@[simp] theorem un300:Program.underlying Tryz.prog 300=some (.int .i32):=by kernel_rfl
@[simp] theorem zr300:zrI Tryz.prog 300=some [.int .i32 0]:=by kernel_rfl
@[simp] theorem ty301:tyI Tryz.prog 301=some (true,11):=by kernel_rfl
@[simp] theorem co301:Program.cellsOf Tryz.prog 301=11:=by kernel_rfl
@[simp] theorem fl301_0:flI Tryz.prog 301 0=some (0,false,1):=by kernel_rfl
@[simp] theorem fl301_1:flI Tryz.prog 301 1=some (1,false,1):=by kernel_rfl
@[simp] theorem fl301_2:flI Tryz.prog 301 2=some (2,false,1):=by kernel_rfl
@[simp] theorem fl301_3:flI Tryz.prog 301 3=some (3,false,1):=by kernel_rfl
@[simp] theorem fl301_4:flI Tryz.prog 301 4=some (4,false,1):=by kernel_rfl
@[simp] theorem fl301_5:flI Tryz.prog 301 5=some (5,false,1):=by kernel_rfl
@[simp] theorem fl301_6:flI Tryz.prog 301 6=some (6,false,1):=by kernel_rfl
@[simp] theorem fl301_7:flI Tryz.prog 301 7=some (7,false,1):=by kernel_rfl
@[simp] theorem fl301_8:flI Tryz.prog 301 8=some (8,false,1):=by kernel_rfl
@[simp] theorem fl301_9:flI Tryz.prog 301 9=some (9,false,1):=by kernel_rfl
@[simp] theorem fl301_10:flI Tryz.prog 301 10=some (10,false,1):=by kernel_rfl
@[simp] theorem pl301:plI Tryz.prog 301=some [(0,1),(1,1),(2,1),(3,1),(4,1),(5,1),(6,1),(7,1),(8,1),(9,1),(10,1)]:=by kernel_rfl
@[simp] theorem zr301:zrI Tryz.prog 301=some [.int .u64 0,.int .u64 0,.int .u32 0,.int .u8 0,.int .u8 0,.int .u8 0,.int .u8 0,.nilFunc,.pointer none,.int .i32 0,.int .i32 0]:=by kernel_rfl
@[simp] theorem ty302:tyI Tryz.prog 302=some (true,11):=by kernel_rfl
@[simp] theorem co302:Program.cellsOf Tryz.prog 302=11:=by kernel_rfl
@[simp] theorem fl302_0:flI Tryz.prog 302 0=some (0,false,1):=by kernel_rfl
@[simp] theorem fl302_1:flI Tryz.prog 302 1=some (1,false,1):=by kernel_rfl
@[simp] theorem fl302_2:flI Tryz.prog 302 2=some (2,false,1):=by kernel_rfl
@[simp] theorem fl302_3:flI Tryz.prog 302 3=some (3,false,1):=by kernel_rfl
@[simp] theorem fl302_4:flI Tryz.prog 302 4=some (4,false,1):=by kernel_rfl
@[simp] theorem fl302_5:flI Tryz.prog 302 5=some (5,false,1):=by kernel_rfl
@[simp] theorem fl302_6:flI Tryz.prog 302 6=some (6,false,1):=by kernel_rfl
@[simp] theorem fl302_7:flI Tryz.prog 302 7=some (7,false,1):=by kernel_rfl
@[simp] theorem fl302_8:flI Tryz.prog 302 8=some (8,false,1):=by kernel_rfl
@[simp] theorem fl302_9:flI Tryz.prog 302 9=some (9,false,1):=by kernel_rfl
@[simp] theorem fl302_10:flI Tryz.prog 302 10=some (10,false,1):=by kernel_rfl
@[simp] theorem pl302:plI Tryz.prog 302=some [(0,1),(1,1),(2,1),(3,1),(4,1),(5,1),(6,1),(7,1),(8,1),(9,1),(10,1)]:=by kernel_rfl
@[simp] theorem zr302:zrI Tryz.prog 302=some [.int .u64 0,.int .u64 0,.int .u32 0,.int .u8 0,.int .u8 0,.int .u8 0,.int .u8 0,.nilFunc,.pointer none,.int .i32 0,.int .i32 0]:=by kernel_rfl
theorem mixed:Tryz.prog.follows .mixedOrders=true:=by kernel_rfl
set_option linter.unusedSectionVars false
set_option linter.unusedVariables false
set_option linter.unusedSimpArgs false
open Go Go.RowKit
section
variable {P:Program} [Gl P]
theorem rel_zero {F:Nat→Prop} {w:World} (hF:∀b,F b→b<w.heap.size) (hΓ:∀w',ExtC (fun _=>False) w w'→Gl.ok P w'):Rel P (En.zero F) w (fun _=>none):=
 ⟨fun i j b h=>(by cases h),fun i b h=>(by cases h),fun i b h=>(by cases h),fun i o h=>(by cases h),fun i=>⟨fun h=>h.elim,fun⟨_,h⟩=>(by cases h)⟩,fun b=>⟨fun h=>h.elim,fun⟨_,_,h,_⟩=>(by cases h)⟩,fun i b h=>(by cases h),hF,hΓ⟩
theorem all2_v {F:Nat→Prop} {w:World} :∀ {xs us:List Value},All2 (VR P (En.zero F) w) (xs.map .v) us→us=xs
 | [],us,h=>List.eq_nil_of_length_eq_zero (by simpa using h.1)
 | x::xs,us,h=>by
  obtain⟨u,us,rfl,h1,h2⟩:=h.uncons;rw[(h1.v_inv).1,all2_v h2]
theorem libOK {f:FuncId} {xs:List Value} {r:AV} (hr:okT r=true) (hent:∀args w,(callFunc f args).run P w=.ok (.enter f args) w)
  (h:∀w,Gl.ok P w→Calls P f xs.toArray w fun e w'=>∃u,e=.returned u∧(∀E w',VR P E w' r u)∧Below w.heap.size w w'):CallsOK P f (xs.map .v) r []:=by
 refine⟨hr,hent,fun w us F hF hΓ hx=> ?_⟩;rw[all2_v hx];refine(h w (hΓ w (ExtC.refl _ _))).mono ?_;rintro e w' ⟨u,rfl,hv,hb⟩;have hext:Ext (fun _=>False) w w':=Ext.of_below _ hb;exact⟨u,En.zero F,rfl,hv _ _,rel_zero (fun b h=>Nat.lt_of_lt_of_le (hF b h) hb.size) (fun w'' h'=>hΓ w'' (hext.toC.trans h' fun _ _ h=>h)),rfl,hb,fun i b h=>(by cases h)⟩
theorem libV {f:FuncId} {xs:List Value} {u:Value} (hu:u.oneCell'=true) (hent:∀args w,(callFunc f args).run P w=.ok (.enter f args) w)
  (h:∀w,Gl.ok P w→Calls P f xs.toArray w fun e w'=>e=.returned u∧w'=w):CallsOK P f (xs.map .v) (.v u) []:=
 libOK rfl hent fun w hw=>(h w hw).mono fun e w' ⟨he,hw'⟩=>⟨u,he,fun _ _=> .tree (.v hu),by rw[hw'];exact Below.refl _ _⟩
theorem vr_tup {E:En} {w:World} {us:List Value} (h:∀u∈us,u.oneCell'=true):VR P E w (.tup (us.map .v)) (.tuple us.toArray):=
 .tup (by simp) fun i a u ha hu=>by
  rw[List.getElem?_map,hu]at ha;injection ha with ha;subst ha;exact .tree (.v (h u (List.mem_of_getElem? hu)))
theorem libT {f:FuncId} {xs us:List Value} (hu:∀u∈us,u.oneCell'=true) (hent:∀args w,(callFunc f args).run P w=.ok (.enter f args) w)
  (h:∀w,Gl.ok P w→Calls P f xs.toArray w fun e w'=>e=.returned (.tuple us.toArray)∧w'=w):CallsOK P f (xs.map .v) (.tup (us.map .v)) []:=
 libOK (by simp only[okT,List.all_map,List.all_eq_true];intro x _;rfl) hent fun w hw=>(h w hw).mono fun e w' ⟨he,hw'⟩=>⟨_,he,fun _ _=>vr_tup hu,by rw[hw'];exact Below.refl _ _⟩
end
section
variable {P:Program} [Gl P] {s:Sl} {G:Hp} {nx:Nat} {α:Type} {c:α→List AV} {w:Nat} {l:List α}
def byteA (b:ByteArray) (n:Nat):UInt8:=b.data.toList.getD n 0
def evIndexS (P:Program) (t:TypeId) (x i:AV):Option AV:=match x,i with
 | .agg cs,.v (.int _ n)=>match arI P t with
  | some (m,b,k)=>if 0≤n∧n<m∧n.toNat*k+k≤cs.length then some (.mk b ((cs.drop (n.toNat*k)).take k))else none
  | none=>none
 | .v (.string b),.v (.int _ n)=>if 0≤n∧n.toNat<b.size∧isStr P t=true then some (.v (.int .u8 (byteA b n.toNat).toNat))else none
 | _,_=>none
@[simp] theorem o_index (t:TypeId) (x i:Operand):evOp P s G nx (.index t x i)=(evIndexS P t (evX s x) (evX s i)).map fun v=>(v,G,nx):=by
 simp only[evOp,evIndexS];split
 ·rename_i cs k n hx hi;rw[hx,hi];simp only;cases arI P t with
  | none=>rfl
  | some q=>
   obtain⟨m,b,k'⟩:=q;simp only;split<;>rfl
 ·rename_i b k n hx hi;rw[hx,hi];simp only;by_cases h:0≤n∧n.toNat<b.size
  ·rw[dif_pos h];by_cases hs:isStr P t=true
   ·rw[if_pos hs,if_pos ⟨h.1,h.2,hs⟩];have:byteA b n.toNat=b[n.toNat]:=by
     unfold byteA;rw[List.getD_eq_getElem?_getD,List.getElem?_eq_getElem (by simpa using h.2)];rfl
    rw[this];rfl
   ·rw[if_neg hs,if_neg (fun h=>hs h.2.2)];rfl
  ·rw[dif_neg h,if_neg (fun q=>h ⟨q.1,q.2.1⟩)];rfl
 ·rename_i hne1 hne2;split
  ·rename_i cs k n h1 h2;exact(hne1 _ _ _ h1 h2).elim
  ·rename_i b k n h1 h2;exact(hne2 _ _ _ h1 h2).elim
  ·rfl
@[simp] theorem evIndexS_agg (t:TypeId) (cs:List AV) (k:IntKind) (n:Int):evIndexS P t (.agg cs) (.v (.int k n))=match arI P t with
  | some (m,b,k')=>if 0≤n∧n<m∧n.toNat*k'+k'≤cs.length then some (.mk b ((cs.drop (n.toNat*k')).take k'))else none
  | none=>none:=rfl
@[simp] theorem evIndexS_v (t:TypeId) (b:ByteArray) (k:IntKind) {n:Int} (h0:0≤n) (h1:n<b.size):evIndexS P t (.v (.string b)) (.v (.int k n))=if isStr P t=true then some (.v (.int .u8 (byteA b n.toNat).toNat))else none:=by
 unfold evIndexS;have:n.toNat<b.size:=(by omega);by_cases hs:isStr P t=true<;>simp[h0,this,hs]
@[simp] theorem o_slice (t:TypeId) (x:Operand) (lo hi:Option Operand):evOp P s G nx (.slice t x lo hi none)=(if(Gl.shr P t&&lo.isNone)=true then evCut P G t (evX s x) (fun d=>bnd s d hi)else evSlice P G t (evX s x) (fun d=>bnd s d lo) (fun d=>bnd s d hi)).map fun r=>(r.1,r.2,nx):=rfl
@[simp] theorem bnd_none (d:Nat):bnd s d none=some d:=rfl
theorem bnd_some (d:Nat) (x:Operand):bnd s d (some x)=match evX s x with
  | .v (.int _ n)=>if 0≤n then some n.toNat else none
  | _=>none:=rfl
@[simp] theorem evSlice_str (t:TypeId) (b:ByteArray) (lo hi:Nat→Option Nat):evSlice P G t (.v (.string b)) lo hi=match lo 0,hi b.size with
  | some l,some h=>if isStr P t=true∧l≤h∧h≤b.size then some (.v (.string (b.extract l h)),G)else none
  | _,_=>none:=rfl
theorem evSlice_tree [Wid c w] {t:TypeId} {x:AV} {lo hi:Nat→Option Nat} {a b e b':Nat} {z:List Value} (hx:∀y,x≠ .v (.string y)) (hel:elI P t=some (e,w,b',z)) (ht:treeOf P G x=some (rowT c l)) (hlo:lo 0=some a) (hhi:hi l.length=some b) (h:a≤b∧b≤l.length):
  evSlice P G t x lo hi=some (rowT c ((l.drop a).take (b-a)),frzOf G x):=by
 unfold evSlice;split
 ·rename_i y;exact absurd rfl (hx y)
 ·rw[hel,ht];show(match some (l.length,flat c l)with | some (n,cs)=>_ | none=>none)=_;simp only[rowT,hlo,hhi];rw[if_pos ⟨h.1,h.2,flat_len⟩];have h1:((l.drop a).take (b-a)).length=b-a:=(by simp;omega);have hrow:rowT c ((l.drop a).take (b-a))=.sl (b-a) (flat c ((l.drop a).take (b-a))):=by
   show AV.sl _ _=_;rw[h1]
  suffices hs:((flat c l).drop (a*w)).take ((b-a)*w)=flat c ((l.drop a).take (b-a)) by
   show some (AV.sl (b-a) _,_)=_;rw[hs];exact congrArg (fun z=>some (z,frzOf G x)) hrow.symm
  have hd:∀(k:Nat) (l:List α),(flat c l).drop (k*w)=flat c (l.drop k):=by
   intro k;induction k with
   | zero=>intro l;simp
   | succ k ih=>
    intro l;cases l with
    | nil=>simp[flat]
    | cons y r=>
     have hy:(c y).length=w:=Wid.len y;rw[List.drop_succ_cons,←ih r];unfold flat;rw[List.flatMap_cons,List.drop_append,List.drop_eq_nil_of_le (by rw[hy,Nat.add_mul];omega),List.nil_append,hy,Nat.add_mul];congr 1;omega
  have htk:∀(k:Nat) (l:List α),(flat c l).take (k*w)=flat c (l.take k):=by
   intro k;induction k with
   | zero=>intro l;simp
   | succ k ih=>
    intro l;cases l with
    | nil=>simp[flat]
    | cons y r=>
     have hy:(c y).length=w:=Wid.len y;rw[List.take_succ_cons];unfold flat;rw[List.flatMap_cons,List.flatMap_cons,List.take_append,hy,List.take_of_length_le (by rw[hy,Nat.add_mul];omega)];have e1:(k+1)*w-w=k*w:=(by rw[Nat.add_mul];omega);rw[e1];have:=ih r;unfold flat at this;rw[this]
  rw[hd,htk]
@[simp] theorem evSlice_rowT [Wid c w] (t:TypeId) (lo hi:Nat→Option Nat):evSlice P G t (rowT c l) lo hi=match elI P t with
  | some (_,k,_,_)=>if k=w then(match lo 0,hi l.length with
   | some a,some b=>if a≤b∧b≤l.length then some (rowT c ((l.drop a).take (b-a)),G)else none
   | _,_=>none)else evSlice P G t (rowT c l) lo hi
  | none=>none:=by
 cases hel:elI P t with
 | none=>unfold evSlice rowT;simp[hel]
 | some q=>
  obtain⟨e,k,b',z⟩:=q;simp only;split
  ·rename_i hk;subst hk;cases hlo:lo 0 with
   | none=>unfold evSlice;simp only[rowT,hel,treeOf_sl,hlo]
   | some a=>
    cases hhi:hi l.length with
    | none=>unfold evSlice;simp only[rowT,hel,treeOf_sl,hlo,hhi]
    | some b=>
     simp only;split
     ·rename_i h;exact evSlice_tree (c:=c) (fun y h=>by unfold rowT at h;cases h) hel rfl hlo hhi h
     ·rename_i h;unfold evSlice;simp only[rowT,hel,treeOf_sl,hlo,hhi];rw[if_neg (fun q=>h ⟨q.1,q.2.1⟩)]
  ·rfl
end
end Go.Proofs.YtgipehooceecpaaGreatDoorAbs
