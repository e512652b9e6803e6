/-
 DERIVED: THE SHELF's CONTRACTS AT THIS DUMP, IN PLAIN WORDS (tools/lay-plain.mjs out of 'TryzShelf.lean', which tools/lay-shelf.mjs wrote): THE SAME DECLARATIONS UNDER THE SAME NAMES: 'import', 'namespace', 'open', 'def', 'theorem' AND NOTHING ELSE: no command of the shelf's: FOR A HAND-IN. Each laying: the table of numbers ('.._ren') and one theorem, a field a fact of the dump's own or the kernel's comparison; each contract: ONE APPLICATION.
-/
import Derived.Test.YtgipehooceecpaaGreatDoorEa4
import Derived.Lib.LaidTab
import Derived.Lib.ItoaNum
import Derived.Shelf.Strings.Builder1
import Derived.Shelf.Strings.Builder2
import Derived.Shelf.Strings.OnBuilder
import Derived.Shelf.Strings.Trim
import Derived.Shelf.Small.Utf8
import Derived.Shelf.Small.Bits
import Derived.Shelf.Small.Strs
import Derived.Shelf.Small.Wraps
import Derived.Shelf.Strings.BuilderF
import Derived.Shelf.Strings.BuilderK
import Derived.Shelf.Utf8.RuneCount
import Derived.Shelf.Strings.Builder2Cap
import Derived.Shelf.Strconv.Atoi
import Derived.Shelf.Strconv.Itoa0
import Derived.Shelf.Strconv.Itoa1
import Derived.Shelf.LaysM
import Derived.Shelf.Strconv.Itoa2
import Derived.Shelf.Strconv.Itoa3
import Derived.Shelf.Strconv.AtoiErrFast
import Derived.Shelf.Strconv.ParseIntEmpty
import Derived.Shelf.Strconv.AtoiFail
import Derived.Shelf.Strconv.Clone
import Derived.Shelf.Strconv.SyntaxError
import Derived.Shelf.LaysC
import Derived.Shelf.Strconv.ToError
import Derived.Shelf.Strconv.Lower
import Derived.Shelf.Strconv.ParseUint10
import Derived.Shelf.Strconv.ParseUint10Empty
import Derived.Shelf.Strconv.ParseUint10Any
import Derived.Shelf.Strconv.ParseInt10
import Derived.Shelf.Strconv.AtoiLong
import Derived.Shelf.Strconv.AtoiInnerAll
import Derived.Shelf.Strconv.RangeError
import Derived.Shelf.Strconv.ToErrorRange
import Derived.Shelf.Strconv.AtoiAll
import Derived.Shelf.Strconv.ErrVarAll
import Derived.Shelf.Strconv.ParseUintEmpty
import Derived.Shelf.Strconv.ParseUint10b64
import Derived.Shelf.Strconv.ParseUint10b32
import Derived.Shelf.Strconv.ParseUint10b16
import Derived.Shelf.Strconv.ParseUint10b8
import Derived.Shelf.Strings.Search1
import Derived.Shelf.Strings.Search2
import Derived.Shelf.Strings.Search3
import Derived.Shelf.Strings.Cut
import Derived.Shelf.Strings.Count
import Derived.Shelf.Strings.Shaped
import Derived.Shelf.Sort.Plain
import Derived.Shelf.Strings.Prefix
import Derived.Shelf.Strings.Split
import Derived.Shelf.Strings.SplitShaped
import Derived.Shelf.Unicode.Decode
import Derived.Shelf.Strings.Runes
import Derived.Shelf.Strings.RuneCount
import Derived.Shelf.Strings.AsciiSet
import Derived.Shelf.Strings.Explode
import Derived.Shelf.Unicode.DecodeSlow
import Derived.Shelf.Unicode.DecodeAny
import Derived.Shelf.Unicode.DecodeLast
import Derived.Ground.Names2Prog
import Derived.Shelf.Slices.ReverseS
import Derived.Shelf.Slices.SearchI
import Derived.Shelf.Slices.Cells
import Derived.Shelf.Slices.In.SortNone
import Derived.Ground.SlgnProg
import Derived.Shelf.SlicesE.Reverse
import Derived.Test.YtgipehooceecpaaGreatDoorProg
namespace Go.Proofs.YtgipehooceecpaaGreatDoorAbs
set_option linter.unusedSimpArgs false
set_option linter.unusedVariables false
open Go Go.RowKit Go.Proofs
set_option maxRecDepth 100000
def signsV:List Value:=[.int .i64 3,.string ⟨#[60,61]⟩,.int .i64 5,.string ⟨#[62,61]⟩,.int .i64 2,.string ⟨#[60]⟩,.int .i64 4,.string ⟨#[62]⟩,.int .i64 1,.string ⟨#[61]⟩]
instance instGlZ:Gl Tryz.prog where
 ok:=fun w=>Lib.TabIs Tryz.prog w "internal/strconv.uint64pow10" .u64 Lib.pow10Tab∧(∃tp p,w.var? Tryz.prog "strconv.ErrSyntax"=some #[.iface tp p])∧(∃tp p,w.var? Tryz.prog "strconv.ErrRange"=some #[.iface tp p])∧(∃m,w.cell? ⟨1,0,none⟩=some (.int .i64 m))∧∀(i:Nat) v,signsV[i]? =some v→w.cell? ⟨0,i,none⟩=some v
 glob:=fun g=>if g=0 then some signsV else none
 inl:=fun f=>f==94 || f==95
 shr:=fun t=>t==49
 holds:=fun w g vs h hg=>by
  split at hg
  ·rename_i h0;injection hg with hg;subst hg;subst h0;exact⟨by decide,h.2.2.2.2⟩
  ·cases hg
@[simp] theorem shr_is (t:TypeId):Gl.shr Tryz.prog t=(t==49):=rfl
@[simp] theorem glob0:evGlob Tryz.prog 213 (.global 0)=some (.agg (signsV.map AV.v)):=by kernel_rfl
structure Ver where
 maj:Int
 min:Int
 pat:Int
 pre:Bs
 deriving DecidableEq,Inhabited
structure Pl where
 par:Int
 name:Bs
 ver:Ver
 deriving DecidableEq,Inhabited
def Ver.cells (v:Ver):List AV:=[iV v.maj,iV v.min,iV v.pat,sV v.pre]
def Ver.val (v:Ver):Value:=.agg #[.int .i64 v.maj,.int .i64 v.min,.int .i64 v.pat,.string v.pre]
def Pl.cells (p:Pl):List AV:=[iV p.par,sV p.name,iV p.ver.maj,iV p.ver.min,iV p.ver.pat,sV p.ver.pre]
def Pl.val (p:Pl):Value:=.agg #[.int .i64 p.par,.string p.name,.int .i64 p.ver.maj,.int .i64 p.ver.min,.int .i64 p.ver.pat,.string p.ver.pre]
instance:Wid Pl.cells 6:=⟨fun _=>rfl,by decide⟩
section
variable {G:Hp}
@[simp] theorem ver_looks (P:Program) (d:Ver):looksA P G d.cells=some d.cells:=rfl
@[simp] theorem ver_trees (P:Program) (d:Ver):treesOf P G d.cells=some (d.cells,G):=rfl
@[simp] theorem pl_looks (P:Program) (d:Pl):looksA P G d.cells=some d.cells:=rfl
@[simp] theorem pl_trees (P:Program) (d:Pl):treesOf P G d.cells=some (d.cells,G):=rfl
@[simp] theorem ver_one (d:Ver):d.cells.all AV.one=true:=rfl
@[simp] theorem ver_len (d:Ver):d.cells.length=4:=rfl
@[simp] theorem pl_one (d:Pl):d.cells.all AV.one=true:=rfl
@[simp] theorem pl_len (d:Pl):d.cells.length=6:=rfl
@[simp] theorem ver_all (v:Ver):getC v.cells 0 4=some v.cells:=rfl
@[simp] theorem ver_maj (v:Ver):getC v.cells 0 1=some [iV v.maj]:=rfl
@[simp] theorem ver_min (v:Ver):getC v.cells 1 1=some [iV v.min]:=rfl
@[simp] theorem ver_pat (v:Ver):getC v.cells 2 1=some [iV v.pat]:=rfl
@[simp] theorem ver_pre (v:Ver):getC v.cells 3 1=some [sV v.pre]:=rfl
@[simp] theorem pl_all (p:Pl):getC p.cells 0 6=some p.cells:=rfl
@[simp] theorem pl_par (p:Pl):getC p.cells 0 1=some [iV p.par]:=rfl
@[simp] theorem pl_name (p:Pl):getC p.cells 1 1=some [sV p.name]:=rfl
@[simp] theorem pl_ver (p:Pl):getC p.cells 2 4=some p.ver.cells:=rfl
@[simp] theorem ver_conc (b:Ver):conc (.agg b.cells)=some b.val:=rfl
@[simp] theorem pl_conc (b:Pl):conc (.agg b.cells)=some b.val:=rfl
@[simp] theorem pl_take (d:Pl):List.take 6 d.cells=d.cells:=rfl
@[simp] theorem ver_take (d:Ver):List.take 4 d.cells=d.cells:=rfl
end
theorem pl_eq (a b:Pl):((a.par==b.par)&&((a.name.toList==b.name.toList)&&(((a.ver.maj==b.ver.maj)&&((a.ver.min==b.ver.min)&&((a.ver.pat==b.ver.pat)&&((a.ver.pre.toList==b.ver.pre.toList)&&true))))&&true)))=decide (a=b):=by
 rw[beq_toList,beq_toList,Bool.eq_iff_iff];cases a with | mk a1 a2 a3=>cases a3;cases b with | mk b1 b2 b3=>cases b3;simp
theorem neq34' (a b:Pl):evBin Tryz.prog .neq 58 a.val b.val=some (.bool (!((a.par==b.par)&&((a.name.toList==b.name.toList)&&(((a.ver.maj==b.ver.maj)&&((a.ver.min==b.ver.min)&&((a.ver.pat==b.ver.pat)&&((a.ver.pre.toList==b.ver.pre.toList)&&true))))&&true))))):=by kernel_rfl
@[simp] theorem neq34 (a b:Pl):evBin Tryz.prog .neq 58 a.val b.val=some (.bool (!decide (a=b))):=by
 rw[neq34',pl_eq]
theorem neq24' (a b:Ver):evBin Tryz.prog .neq 23 a.val b.val=some (.bool (!((a.maj==b.maj)&&((a.min==b.min)&&((a.pat==b.pat)&&((a.pre.toList==b.pre.toList)&&true)))))):=by kernel_rfl
@[simp] theorem neq24 (a b:Ver):evBin Tryz.prog .neq 23 a.val b.val=some (.bool (!decide (a=b))):=by
 rw[neq24',beq_toList];have:((a.maj==b.maj)&&((a.min==b.min)&&((a.pat==b.pat)&&(decide (a.pre=b.pre)&&true))))=decide (a=b):=by
  rw[Bool.eq_iff_iff];cases a;cases b;simp
 rw[this]
set_option maxRecDepth 100000
set_option maxHeartbeats 4000000
def inR (n:Int):Bool:=decide (0≤n)&&decide (n≤999999)
def iC (n:Int):List AV:=[iV n]
instance:Wid iC 1:=⟨fun _=>rfl,by decide⟩
@[simp] theorem iC_get (n:Int):getC (iC n) 0 1=some [iV n]:=rfl
theorem within77_ok (l:List Int) (hl:l.length<4611686018427387904):CallsOK Tryz.prog 208 [rowT iC l] (bV (l.all inR)) []:=by
 refine callsOK mixed Tryz.call208 Tryz.func208 rfl (by rw[Tryz.ntmps208];simp) ?_ rfl;rw[Tryz.ntmps208];with_reducible refine aR fun K' hK=> ?_
 simp;refine hK _ _ _ ?_;clear K' hK;with_reducible refine aA ?_;refine aR fun K' hK=> ?_
 simp;refine hK _ _ _ ?_;clear K' hK;with_reducible refine aw_block ?_
 refine aw_loop (fun s G nx=>s 5=rowT iC l∧s 6=iV l.length∧∃i:Nat,s 7=iV i∧i≤l.length∧(l.take i).all inR=true) (fun s _ _=>match s 7 with | .v (.int _ n)=>l.length-n.toNat | _=>0) ?_ ?_
 ·exact⟨by simp,by simp,0,by simp,by omega,by simp⟩
 ·rintro s G nx-⟨s5,s6,i,s7,hi,ht⟩;have hw:IntKind.i64.wrap (↑i+1)=((i+1:Nat):Int):=wrapS (by omega);with_reducible refine aR fun K' hK=> ?_
  simp[s6,s7];refine hK _ _ _ ?_;clear K' hK;with_reducible refine aC fun A B hA hB=> ?_
  simp;refine⟨fun hi2=>hA ?_,fun hi2=>hB ?_⟩<;>clear hA hB A B<;>(try simp at hi2)<;>(try with_reducible refine aK ?_)
  ·have hstep:=all_take1 (p:=inR) hi2;with_reducible refine aw_block ?_;refine aR fun K' hK=> ?_
   simp[s5,s7,hi2];refine hK _ _ _ ?_;clear K' hK;by_cases h0:nth l i<0
   ·skip;with_reducible refine aR fun K' hK=> ?_
    simp[h0];refine hK _ _ _ ?_;clear K' hK;with_reducible refine aU (by simp) ?_;refine aA ?_;refine aR fun K' hK=> ?_
    simp;refine hK _ _ _ ?_;clear K' hK;with_reducible refine aw_ret ?_
    simp[blockK,loopK,Post,resA,res1,expT,expA,exp1,expM,expL,okT,okA,ok1,rowOf,Tryz.f208];exact⟨_,nth_mem hi2,by simp[inR];omega⟩
   ·by_cases h1:999999<nth l i
    ·skip;with_reducible refine aR fun K' hK=> ?_
     simp[h0,h1];refine hK _ _ _ ?_;clear K' hK;with_reducible refine aU (by simp) ?_;refine aA ?_;refine aR fun K' hK=> ?_
     simp;refine hK _ _ _ ?_;clear K' hK;with_reducible refine aw_ret ?_
     simp[blockK,loopK,Post,resA,res1,expT,expA,exp1,expM,expL,okT,okA,ok1,rowOf,Tryz.f208];exact⟨_,nth_mem hi2,by simp[inR];omega⟩
    ·skip;with_reducible refine aR fun K' hK=> ?_
     simp[h0,h1];refine hK _ _ _ ?_;clear K' hK;with_reducible refine aVk (by simp) ?_;refine aw_skipL ?_
     refine blockK_normal ?_;with_reducible refine aS fun K' hK=> ?_
     simp[s7,hw];refine hK _ _ _ ?_;clear K' hK;refine aw_skipL (loopK_normal ?_ ?_)
     ·exact⟨by simp[s5],by simp[s6],i+1,by simp[hw],by omega,by rw[hstep,ht];simp[inR];omega⟩
     ·simp[s7,hw];omega
  ·skip;with_reducible refine aw_exit ?_
   refine loopK_exit (blockK_exit ?_);with_reducible refine aR fun K' hK=> ?_
   simp;refine hK _ _ _ ?_;clear K' hK;with_reducible refine aw_retL ?_
   simp[blockK,loopK,Post,resA,res1,expT,expA,exp1,expM,expL,okT,okA,ok1,rowOf,Tryz.f208];rw[List.take_of_length_le (by omega)]at ht;exact List.all_eq_true.1 ht
def chP (par:Int) (name:Bs) (p:Pl):Bool:=decide (p.par=par∧p.name=name)
def atI:Option Nat→Int
 | some i=>i
 | none=> -1
def chF (t:List Pl) (par:Int) (name:Bs):Option Nat:=t.findIdx? (chP par name)
end Go.Proofs.YtgipehooceecpaaGreatDoorAbs
namespace Go.Proofs
open Go.Shelf
def Tryz.lays169_ren:Go.Shelf.Ren:=⟨fun | 169=>235 | n=>n,fun | 70=>217 | 9=>9 | 0=>0 | 72=>220 | 37=>218 | 127=>237 | 3=>3 | 5=>5 | n=>n,fun | n=>n⟩
def Tryz.lays241_ren:Go.Shelf.Ren:=⟨fun | 241=>254 | 277=>278 | n=>n,fun | 70=>217 | 3=>3 | 0=>0 | 72=>220 | 37=>218 | 5=>5 | n=>n,fun | n=>n⟩
def Tryz.lays165_ren:Go.Shelf.Ren:=⟨fun | 165=>233 | 240=>253 | 241=>254 | 276=>277 | 277=>278 | n=>n,fun | 70=>217 | 3=>3 | 0=>0 | 4=>4 | 9=>9 | 20=>20 | 72=>220 | 37=>218 | 164=>256 | 5=>5 | n=>n,fun | n=>n⟩
def Tryz.lays156_ren:Go.Shelf.Ren:=⟨fun | 156=>203 | 165=>233 | 166=>234 | 169=>235 | 240=>253 | 241=>254 | 276=>277 | 277=>278 | n=>n,fun | 31=>106 | 9=>9 | 3=>3 | 4=>4 | 0=>0 | 20=>20 | 72=>220 | 76=>224 | 70=>217 | 37=>218 | 75=>223 | 127=>237 | 164=>256 | 5=>5 | 80=>226 | n=>n,fun | n=>n⟩
theorem Tryz.lays156:Go.Proofs.Lays.n156 Tryz.prog Tryz.lays156_ren:= {
 mixed:=by kernel_rfl
 f156:=Tryz.func203.trans (congrArg some (by kernel_rfl))
 f165:=Tryz.func233.trans (congrArg some (by kernel_rfl))
 f166:=Tryz.func234.trans (congrArg some (by kernel_rfl))
 f169:=Tryz.func235.trans (congrArg some (by kernel_rfl))
 f240:=Tryz.func253.trans (congrArg some (by kernel_rfl))
 f241:=Tryz.func254.trans (congrArg some (by kernel_rfl))
 f276:=Tryz.func277.trans (congrArg some (by kernel_rfl))
 f277:=Tryz.func278.trans (congrArg some (by kernel_rfl))
 t0:=Tryz.underlying0
 a0:=Tryz.isAgg0
 z0:=Tryz.sizeOf0
 v0:=Tryz.zeroValue0
 t3:=Tryz.underlying3
 a3:=Tryz.isAgg3
 z3:=Tryz.sizeOf3
 v3:=Tryz.zeroValue3
 t4:=Tryz.underlying4
 a4:=Tryz.isAgg4
 z4:=Tryz.sizeOf4
 v4:=Tryz.zeroValue4
 t9:=Tryz.underlying9
 a9:=Tryz.isAgg9
 z9:=Tryz.sizeOf9
 v9:=Tryz.zeroValue9
 t20:=Tryz.underlying20
 a20:=Tryz.isAgg20
 z20:=Tryz.sizeOf20
 v20:=Tryz.zeroValue20
 t31:=Tryz.underlying106
 a31:=Tryz.isAgg106
 z31:=Tryz.sizeOf106
 v31:=Tryz.zeroValue106
 t37:=Tryz.underlying218
 a37:=Tryz.isAgg218
 z37:=Tryz.sizeOf218
 v37:=Tryz.zeroValue218
 t70:=Tryz.underlying217
 a70:=Tryz.isAgg217
 z70:=Tryz.sizeOf217
 v70:=Tryz.zeroValue217
 t72:=Tryz.underlying220
 a72:=Tryz.isAgg220
 z72:=Tryz.sizeOf220
 v72:=Tryz.zeroValue220
 t75:=Tryz.underlying223
 a75:=Tryz.isAgg223
 z75:=Tryz.sizeOf223
 v75:=Tryz.zeroValue223
 t76:=Tryz.underlying224
 a76:=Tryz.isAgg224
 z76:=Tryz.sizeOf224
 v76:=Tryz.zeroValue224
 t127:=Tryz.underlying237
 a127:=Tryz.isAgg237
 z127:=Tryz.sizeOf237
 v127:=Tryz.zeroValue237
 t164:=Tryz.underlying256
 a164:=Tryz.isAgg256
 z164:=Tryz.sizeOf256
 v164:=Tryz.zeroValue256}
theorem Tryz.Builder_Extra_156:Builder.Extra Tryz.prog Tryz.lays156_ren:= {
 sizeBuilder:=by kernel_rfl
 liesBuilder:=by kernel_rfl
 t5:=Tryz.underlying5
 a5:=Tryz.isAgg5
 z5:=Tryz.sizeOf5
 v5:=Tryz.zeroValue5
 infoByte:=by kernel_rfl
 cellsByte:=by kernel_rfl
 sizeByte:=by kernel_rfl
 neB5:=by decide}
open Go.RowKit in
theorem Tryz.strings_Join_none (a:Option Addr) (c:Nat) (sep:ByteArray) (w:World):
  Calls Tryz.prog 203 #[.slice a 0 c,.string sep] w fun e w'=>e=.returned (.string ⟨#[]⟩)∧w'=w:=Any.strings_Join_none Tryz.lays156 Tryz.Builder_Extra_156 a c sep w
open Go.RowKit in
theorem Tryz.strings_Join (bk o c:Nat) (xs:List ByteArray) (sep:ByteArray) (w:World) (hcells:∀(j:Nat) x,xs[j]? =some x→w.cell? ⟨bk,o+j,none⟩=some (.string x)) (hbk:bk<w.heap.size) (hN:xs.length≤140737488355328) (hcap:xs.length≤c) (hlen:(Lib.join (xs.map (·.data.toList)) sep.data.toList).length≤140737488355328):
  Calls Tryz.prog 203 #[.slice (some ⟨bk,o,none⟩) xs.length c,.string sep] w fun e w'=>e=.returned (.string ⟨(Lib.join (xs.map (·.data.toList)) sep.data.toList).toArray⟩)∧Below w.heap.size w w':=Any.strings_Join Tryz.lays156 Tryz.Builder_Extra_156 bk o c xs sep w hcells hbk hN hcap hlen
def Tryz.lays231_ren:Go.Shelf.Ren:=⟨fun | 231=>268 | n=>n,fun | 9=>9 | 5=>5 | 3=>3 | 4=>4 | n=>n,fun | n=>n⟩
def Tryz.lays232_ren:Go.Shelf.Ren:=⟨fun | 232=>269 | n=>n,fun | 9=>9 | 5=>5 | 3=>3 | 4=>4 | n=>n,fun | n=>n⟩
def Tryz.lays160_ren:Go.Shelf.Ren:=⟨fun | 160=>251 | 232=>269 | 231=>268 | 227=>270 | 234=>272 | 233=>271 | 236=>274 | 235=>273 | 228=>285 | 271=>287 | 151=>286 | 197=>256 | 120=>296 | 152=>295 | 260=>279 | 137=>225 | 119=>300 | 224=>264 | 225=>263 | 217=>246 | 266=>262 | n=>n,fun | 9=>9 | 4=>4 | 3=>3 | 5=>5 | 117=>251 | 116=>250 | 0=>0 | 124=>254 | 21=>21 | 105=>238 | 46=>184 | 119=>272 | 139=>275 | 138=>274 | n=>n,fun | 3=>3 | 4=>4 | n=>n⟩
theorem Tryz.lays160:Go.Proofs.Lays.n160 Tryz.prog Tryz.lays160_ren:= {
 mixed:=by kernel_rfl
 f119:=Tryz.func300.trans (congrArg some (by kernel_rfl))
 f120:=Tryz.func296.trans (congrArg some (by kernel_rfl))
 f137:=Tryz.func225.trans (congrArg some (by kernel_rfl))
 f151:=Tryz.func286.trans (congrArg some (by kernel_rfl))
 f152:=Tryz.func295.trans (congrArg some (by kernel_rfl))
 f160:=Tryz.func251.trans (congrArg some (by kernel_rfl))
 f197:=Tryz.func256.trans (congrArg some (by kernel_rfl))
 f217:=Tryz.func246.trans (congrArg some (by kernel_rfl))
 f224:=Tryz.func264.trans (congrArg some (by kernel_rfl))
 f225:=Tryz.func263.trans (congrArg some (by kernel_rfl))
 f227:=Tryz.func270.trans (congrArg some (by kernel_rfl))
 f228:=Tryz.func285.trans (congrArg some (by kernel_rfl))
 f231:=Tryz.func268.trans (congrArg some (by kernel_rfl))
 f232:=Tryz.func269.trans (congrArg some (by kernel_rfl))
 f233:=Tryz.func271.trans (congrArg some (by kernel_rfl))
 f234:=Tryz.func272.trans (congrArg some (by kernel_rfl))
 f235:=Tryz.func273.trans (congrArg some (by kernel_rfl))
 f236:=Tryz.func274.trans (congrArg some (by kernel_rfl))
 f260:=Tryz.func279.trans (congrArg some (by kernel_rfl))
 f266:=Tryz.func262.trans (congrArg some (by kernel_rfl))
 f271:=Tryz.func287.trans (congrArg some (by kernel_rfl))
 t0:=Tryz.underlying0
 a0:=Tryz.isAgg0
 z0:=Tryz.sizeOf0
 v0:=Tryz.zeroValue0
 t3:=Tryz.underlying3
 a3:=Tryz.isAgg3
 z3:=Tryz.sizeOf3
 v3:=Tryz.zeroValue3
 t4:=Tryz.underlying4
 a4:=Tryz.isAgg4
 z4:=Tryz.sizeOf4
 v4:=Tryz.zeroValue4
 t5:=Tryz.underlying5
 a5:=Tryz.isAgg5
 z5:=Tryz.sizeOf5
 v5:=Tryz.zeroValue5
 t9:=Tryz.underlying9
 a9:=Tryz.isAgg9
 z9:=Tryz.sizeOf9
 v9:=Tryz.zeroValue9
 t21:=Tryz.underlying21
 a21:=Tryz.isAgg21
 z21:=Tryz.sizeOf21
 v21:=Tryz.zeroValue21
 t46:=Tryz.underlying184
 a46:=Tryz.isAgg184
 z46:=Tryz.sizeOf184
 v46:=Tryz.zeroValue184
 t105:=Tryz.underlying238
 a105:=Tryz.isAgg238
 z105:=Tryz.sizeOf238
 v105:=Tryz.zeroValue238
 t116:=Tryz.underlying250
 a116:=Tryz.isAgg250
 z116:=Tryz.sizeOf250
 t117:=Tryz.underlying251
 a117:=Tryz.isAgg251
 z117:=Tryz.sizeOf251
 v117:=Tryz.zeroValue251
 t119:=Tryz.underlying272
 a119:=Tryz.isAgg272
 z119:=Tryz.sizeOf272
 t124:=Tryz.underlying254
 a124:=Tryz.isAgg254
 z124:=Tryz.sizeOf254
 v124:=Tryz.zeroValue254
 t138:=Tryz.underlying274
 a138:=Tryz.isAgg274
 z138:=Tryz.sizeOf274
 v138:=Tryz.zeroValue274
 t139:=Tryz.underlying275
 a139:=Tryz.isAgg275
 z139:=Tryz.sizeOf275
 v139:=Tryz.zeroValue275
 g3:=by kernel_rfl
 g4:=by kernel_rfl}
def Tryz.lays119_ren:Go.Shelf.Ren:=⟨fun | 119=>300 | n=>n,fun | 21=>21 | 4=>4 | n=>n,fun | n=>n⟩
def Tryz.lays120_ren:Go.Shelf.Ren:=⟨fun | 120=>296 | n=>n,fun | 5=>5 | 4=>4 | n=>n,fun | n=>n⟩
def Tryz.lays128_ren:Go.Shelf.Ren:=⟨fun | 128=>222 | n=>n,fun | 51=>208 | 3=>3 | 4=>4 | 46=>184 | 5=>5 | 9=>9 | n=>n,fun | n=>n⟩
def Tryz.lays125_ren:Go.Shelf.Ren:=⟨fun | 125=>186 | 128=>222 | 129=>223 | n=>n,fun | 46=>184 | 3=>3 | 51=>208 | 53=>210 | 4=>4 | 5=>5 | 9=>9 | n=>n,fun | n=>n⟩
def Tryz.lays137_ren:Go.Shelf.Ren:=⟨fun | 137=>225 | 217=>246 | 266=>262 | n=>n,fun | 9=>9 | 5=>5 | 3=>3 | n=>n,fun | n=>n⟩
theorem Tryz.lays137:Go.Proofs.Lays.n137 Tryz.prog Tryz.lays137_ren:= {
 mixed:=by kernel_rfl
 f137:=Tryz.func225.trans (congrArg some (by kernel_rfl))
 f217:=Tryz.func246.trans (congrArg some (by kernel_rfl))
 f266:=Tryz.func262.trans (congrArg some (by kernel_rfl))
 t3:=Tryz.underlying3
 a3:=Tryz.isAgg3
 z3:=Tryz.sizeOf3
 v3:=Tryz.zeroValue3
 t5:=Tryz.underlying5
 a5:=Tryz.isAgg5
 z5:=Tryz.sizeOf5
 v5:=Tryz.zeroValue5
 t9:=Tryz.underlying9
 a9:=Tryz.isAgg9
 z9:=Tryz.sizeOf9
 v9:=Tryz.zeroValue9}
open Go.RowKit in
theorem Tryz.strings_IndexByte (s:ByteArray) (c:Int) (w:World):
  Calls Tryz.prog 225 #[.string s,.int .u8 c] w fun e w'=>e=.returned (.int .i64 (Lib.indexByte s.data.toList c.toNat.toUInt8))∧w'=w:=Any.strings_IndexByte Tryz.lays137 s c w
def Tryz.lays210_ren:Go.Shelf.Ren:=⟨fun | 210=>224 | 206=>236 | n=>n,fun | 9=>9 | 4=>4 | 3=>3 | n=>n,fun | n=>n⟩
def Tryz.lays103_ren:Go.Shelf.Ren:=⟨fun | 103=>187 | 210=>224 | 206=>236 | n=>n,fun | 9=>9 | 4=>4 | 24=>76 | 3=>3 | n=>n,fun | n=>n⟩
theorem Tryz.lays103:Go.Proofs.Lays.n103 Tryz.prog Tryz.lays103_ren:= {
 mixed:=by kernel_rfl
 f103:=Tryz.func187.trans (congrArg some (by kernel_rfl))
 f206:=Tryz.func236.trans (congrArg some (by kernel_rfl))
 f210:=Tryz.func224.trans (congrArg some (by kernel_rfl))
 t3:=Tryz.underlying3
 a3:=Tryz.isAgg3
 z3:=Tryz.sizeOf3
 v3:=Tryz.zeroValue3
 t4:=Tryz.underlying4
 a4:=Tryz.isAgg4
 z4:=Tryz.sizeOf4
 v4:=Tryz.zeroValue4
 t9:=Tryz.underlying9
 a9:=Tryz.isAgg9
 z9:=Tryz.sizeOf9
 v9:=Tryz.zeroValue9
 t24:=Tryz.underlying76
 a24:=Tryz.isAgg76
 z24:=Tryz.sizeOf76
 v24:=Tryz.zeroValue76}
open Go.RowKit in
theorem Tryz.strings_CutPrefix (s p:ByteArray) (w:World):
  Calls Tryz.prog 187 #[.string s,.string p] w fun e w'=>e=.returned (.tuple #[.string ⟨(Lib.trimPrefix s.data.toList p.data.toList).toArray⟩,.bool (Lib.hasPrefix s.data.toList p.data.toList)])∧w'=w:=Any.strings_CutPrefix Tryz.lays103 s p w
def Tryz.lays215_ren:Go.Shelf.Ren:=⟨fun | 215=>230 | n=>n,fun | 3=>3 | 4=>4 | n=>n,fun | n=>n⟩
def Tryz.lays122_ren:Go.Shelf.Ren:=⟨fun | 122=>196 | 215=>230 | n=>n,fun | 3=>3 | 4=>4 | n=>n,fun | n=>n⟩
def Tryz.lays195_ren:Go.Shelf.Ren:=⟨fun | 195=>266 | n=>n,fun | 9=>9 | 3=>3 | 0=>0 | 4=>4 | n=>n,fun | n=>n⟩
def Tryz.lays244_ren:Go.Shelf.Ren:=⟨fun | 244=>275 | 247=>288 | 287=>297 | 321=>301 | 322=>302 | n=>n,fun | 9=>9 | 3=>3 | 75=>223 | 4=>4 | 5=>5 | 167=>266 | 37=>218 | 0=>0 | 85=>267 | 2=>2 | 53=>210 | 175=>277 | 46=>184 | 21=>21 | 80=>226 | n=>n,fun | n=>n⟩
def Tryz.lays172_ren:Go.Shelf.Ren:=⟨fun | 172=>252 | 244=>275 | 245=>276 | 247=>288 | 279=>289 | 280=>290 | 281=>291 | 282=>292 | 287=>297 | 316=>298 | 171=>175 | 205=>299 | 321=>301 | 322=>302 | 243=>209 | 246=>238 | 283=>257 | 284=>258 | 285=>259 | 286=>260 | 129=>223 | 317=>280 | 318=>281 | 319=>282 | 320=>283 | 337=>293 | 338=>294 | n=>n,fun | 9=>9 | 3=>3 | 75=>223 | 76=>224 | 4=>4 | 5=>5 | 167=>266 | 37=>218 | 0=>0 | 85=>267 | 2=>2 | 168=>269 | 53=>210 | 175=>277 | 46=>184 | 210=>281 | 127=>237 | 145=>289 | 143=>287 | 21=>21 | 171=>240 | 173=>242 | 212=>260 | 51=>208 | 20=>20 | 213=>261 | 232=>283 | 233=>284 | 80=>226 | n=>n,fun | 15=>5 | 16=>6 | 17=>2 | 18=>7 | 19=>8 | n=>n⟩
def Tryz.lays129_ren:Go.Shelf.Ren:=⟨fun | 129=>223 | n=>n,fun | 53=>210 | 3=>3 | 4=>4 | 46=>184 | 5=>5 | 9=>9 | n=>n,fun | n=>n⟩
def Tryz.lays317_ren:Go.Shelf.Ren:=⟨fun | 317=>280 | n=>n,fun | 3=>3 | 46=>184 | n=>n,fun | n=>n⟩
def Tryz.lays318_ren:Go.Shelf.Ren:=⟨fun | 318=>281 | n=>n,fun | 3=>3 | 4=>4 | n=>n,fun | n=>n⟩
def Tryz.lays283_ren:Go.Shelf.Ren:=⟨fun | 283=>257 | n=>n,fun | 3=>3 | 9=>9 | 4=>4 | n=>n,fun | n=>n⟩
def Tryz.laysM284_ren:Go.Shelf.Ren:=⟨fun | 284=>258 | 129=>223 | 317=>280 | 318=>281 | n=>n,fun | 53=>210 | 3=>3 | 212=>260 | 0=>0 | 4=>4 | 46=>184 | 5=>5 | 9=>9 | n=>n,fun | 17=>2 | n=>n⟩
def Tryz.lays285_ren:Go.Shelf.Ren:=⟨fun | 285=>259 | n=>n,fun | 37=>218 | 53=>210 | 3=>3 | 4=>4 | 51=>208 | 9=>9 | 5=>5 | 0=>0 | n=>n,fun | n=>n⟩
def Tryz.laysM246_ren:Go.Shelf.Ren:=⟨fun | 246=>238 | 283=>257 | 284=>258 | 285=>259 | 286=>260 | 129=>223 | 317=>280 | 318=>281 | 319=>282 | 320=>283 | 337=>293 | 338=>294 | n=>n,fun | 2=>2 | 3=>3 | 9=>9 | 4=>4 | 171=>240 | 0=>0 | 53=>210 | 37=>218 | 5=>5 | 173=>242 | 212=>260 | 51=>208 | 20=>20 | 213=>261 | 46=>184 | 232=>283 | 233=>284 | n=>n,fun | 17=>2 | 18=>7 | 19=>8 | n=>n⟩
def Tryz.lays246_ren:Go.Shelf.Ren:=⟨fun | 246=>238 | 283=>257 | 284=>258 | 285=>259 | 286=>260 | 129=>223 | 317=>280 | 318=>281 | 319=>282 | 320=>283 | 337=>293 | 338=>294 | n=>n,fun | 2=>2 | 3=>3 | 9=>9 | 4=>4 | 171=>240 | 0=>0 | 53=>210 | 37=>218 | 5=>5 | 173=>242 | 212=>260 | 51=>208 | 20=>20 | 213=>261 | 46=>184 | 232=>283 | 233=>284 | n=>n,fun | 17=>2 | 18=>7 | 19=>8 | n=>n⟩
def Tryz.laysM243_ren:Go.Shelf.Ren:=⟨fun | 243=>209 | 246=>238 | 283=>257 | 284=>258 | 285=>259 | 286=>260 | 129=>223 | 317=>280 | 318=>281 | 319=>282 | 320=>283 | 337=>293 | 338=>294 | n=>n,fun | 3=>3 | 9=>9 | 2=>2 | 4=>4 | 171=>240 | 0=>0 | 53=>210 | 37=>218 | 5=>5 | 173=>242 | 212=>260 | 51=>208 | 20=>20 | 213=>261 | 46=>184 | 232=>283 | 233=>284 | n=>n,fun | 17=>2 | 18=>7 | 19=>8 | n=>n⟩
def Tryz.lays243_ren:Go.Shelf.Ren:=⟨fun | 243=>209 | 246=>238 | 283=>257 | 284=>258 | 285=>259 | 286=>260 | 129=>223 | 317=>280 | 318=>281 | 319=>282 | 320=>283 | 337=>293 | 338=>294 | n=>n,fun | 3=>3 | 9=>9 | 2=>2 | 4=>4 | 171=>240 | 0=>0 | 53=>210 | 37=>218 | 5=>5 | 173=>242 | 212=>260 | 51=>208 | 20=>20 | 213=>261 | 46=>184 | 232=>283 | 233=>284 | n=>n,fun | 17=>2 | 18=>7 | 19=>8 | n=>n⟩
def Tryz.laysM171_ren:Go.Shelf.Ren:=⟨fun | 171=>175 | 243=>209 | 246=>238 | 283=>257 | 284=>258 | 285=>259 | 286=>260 | 129=>223 | 317=>280 | 318=>281 | 319=>282 | 320=>283 | 337=>293 | 338=>294 | n=>n,fun | 3=>3 | 9=>9 | 2=>2 | 4=>4 | 171=>240 | 0=>0 | 53=>210 | 37=>218 | 5=>5 | 173=>242 | 212=>260 | 51=>208 | 20=>20 | 213=>261 | 46=>184 | 232=>283 | 233=>284 | n=>n,fun | 17=>2 | 18=>7 | 19=>8 | n=>n⟩
theorem Tryz.laysM171:Go.Proofs.LaysM.n171 Tryz.prog Tryz.laysM171_ren:= {
 mixed:=by kernel_rfl
 f129:=Tryz.func223.trans (congrArg some (by kernel_rfl))
 f171:=Tryz.func175.trans (congrArg some (by kernel_rfl))
 f243:=Tryz.func209.trans (congrArg some (by kernel_rfl))
 f246:=Tryz.func238.trans (congrArg some (by kernel_rfl))
 f283:=Tryz.func257.trans (congrArg some (by kernel_rfl))
 f284:=Tryz.func258.trans (congrArg some (by kernel_rfl))
 f285:=Tryz.func259.trans (congrArg some (by kernel_rfl))
 f286:=Tryz.func260.trans (congrArg some (by kernel_rfl))
 f317:=Tryz.func280.trans (congrArg some (by kernel_rfl))
 f318:=Tryz.func281.trans (congrArg some (by kernel_rfl))
 f319:=Tryz.func282.trans (congrArg some (by kernel_rfl))
 f320:=Tryz.func283.trans (congrArg some (by kernel_rfl))
 f337:=Tryz.func293.trans (congrArg some (by kernel_rfl))
 f338:=Tryz.func294.trans (congrArg some (by kernel_rfl))
 t0:=Tryz.underlying0
 a0:=Tryz.isAgg0
 z0:=Tryz.sizeOf0
 v0:=Tryz.zeroValue0
 t2:=Tryz.underlying2
 a2:=Tryz.isAgg2
 z2:=Tryz.sizeOf2
 v2:=Tryz.zeroValue2
 t3:=Tryz.underlying3
 a3:=Tryz.isAgg3
 z3:=Tryz.sizeOf3
 v3:=Tryz.zeroValue3
 t4:=Tryz.underlying4
 a4:=Tryz.isAgg4
 z4:=Tryz.sizeOf4
 v4:=Tryz.zeroValue4
 t5:=Tryz.underlying5
 a5:=Tryz.isAgg5
 z5:=Tryz.sizeOf5
 v5:=Tryz.zeroValue5
 t9:=Tryz.underlying9
 a9:=Tryz.isAgg9
 z9:=Tryz.sizeOf9
 v9:=Tryz.zeroValue9
 t20:=Tryz.underlying20
 a20:=Tryz.isAgg20
 z20:=Tryz.sizeOf20
 v20:=Tryz.zeroValue20
 t37:=Tryz.underlying218
 a37:=Tryz.isAgg218
 z37:=Tryz.sizeOf218
 v37:=Tryz.zeroValue218
 t46:=Tryz.underlying184
 a46:=Tryz.isAgg184
 z46:=Tryz.sizeOf184
 v46:=Tryz.zeroValue184
 t51:=Tryz.underlying208
 a51:=Tryz.isAgg208
 z51:=Tryz.sizeOf208
 v51:=Tryz.zeroValue208
 t53:=Tryz.underlying210
 a53:=Tryz.isAgg210
 z53:=Tryz.sizeOf210
 v53:=Tryz.zeroValue210
 t171:=Tryz.underlying240
 a171:=Tryz.isAgg240
 z171:=Tryz.sizeOf240
 v171:=Tryz.zeroValue240
 t173:=Tryz.underlying242
 a173:=Tryz.isAgg242
 z173:=Tryz.sizeOf242
 v173:=Tryz.zeroValue242
 t212:=Tryz.underlying260
 a212:=Tryz.isAgg260
 z212:=Tryz.sizeOf260
 v212:=Tryz.zeroValue260
 t213:=Tryz.underlying261
 a213:=Tryz.isAgg261
 z213:=Tryz.sizeOf261
 t232:=Tryz.underlying283
 a232:=Tryz.isAgg283
 z232:=Tryz.sizeOf283
 v232:=Tryz.zeroValue283
 t233:=Tryz.underlying284
 a233:=Tryz.isAgg284
 z233:=Tryz.sizeOf284
 v233:=Tryz.zeroValue284
 g17:=by kernel_rfl
 g18:=by kernel_rfl
 g19:=by kernel_rfl
 i0:=by kernel_rfl
 i2:=by kernel_rfl
 i3:=by kernel_rfl
 i4:=by kernel_rfl
 i5:=by kernel_rfl
 i9:=by kernel_rfl
 i20:=by kernel_rfl
 i37:=by kernel_rfl
 i46:=by kernel_rfl
 i51:=by kernel_rfl
 i53:=by kernel_rfl
 i171:=by kernel_rfl
 i173:=by kernel_rfl
 i212:=by kernel_rfl
 i232:=by kernel_rfl
 i233:=by kernel_rfl
 m17:=by kernel_rfl
 m18:=by kernel_rfl
 m19:=by kernel_rfl}
open Go.RowKit Go.Sort Go.Lib in
theorem Tryz.strconv_Itoa (n:Int) (h0: -9223372036854775808≤n) (h1:n≤9223372036854775807) (w:World) (htab:Lib.TabIs Tryz.prog w "internal/strconv.uint64pow10" .u64 Lib.pow10Tab):
  Calls Tryz.prog 175 #[.int .i64 n] w fun e w'=>e=.returned (.string ⟨(Lib.itoa n).toArray⟩)∧∃k os,w'=grow (w.drewN k) os:=Any.strconv_Itoa Tryz.laysM171 n h0 h1 w htab
def Tryz.lays171_ren:Go.Shelf.Ren:=⟨fun | 171=>175 | 243=>209 | 246=>238 | 283=>257 | 284=>258 | 285=>259 | 286=>260 | 129=>223 | 317=>280 | 318=>281 | 319=>282 | 320=>283 | 337=>293 | 338=>294 | n=>n,fun | 3=>3 | 9=>9 | 2=>2 | 4=>4 | 171=>240 | 0=>0 | 53=>210 | 37=>218 | 5=>5 | 173=>242 | 212=>260 | 51=>208 | 20=>20 | 213=>261 | 46=>184 | 232=>283 | 233=>284 | n=>n,fun | 17=>2 | 18=>7 | 19=>8 | n=>n⟩
def Tryz.lays247_ren:Go.Shelf.Ren:=⟨fun | 247=>288 | 287=>297 | 321=>301 | 322=>302 | n=>n,fun | 9=>9 | 3=>3 | 2=>2 | 75=>223 | 4=>4 | 167=>266 | 5=>5 | 53=>210 | 175=>277 | 46=>184 | 37=>218 | 0=>0 | 21=>21 | 80=>226 | n=>n,fun | n=>n⟩
def Tryz.laysM316_ren:Go.Shelf.Ren:=⟨fun | 316=>298 | n=>n,fun | 9=>9 | 3=>3 | 4=>4 | 37=>218 | 0=>0 | 127=>237 | 5=>5 | n=>n,fun | n=>n⟩
def Tryz.laysM279_ren:Go.Shelf.Ren:=⟨fun | 279=>289 | 316=>298 | n=>n,fun | 9=>9 | 168=>269 | 75=>223 | 210=>281 | 3=>3 | 4=>4 | 37=>218 | 0=>0 | 127=>237 | 80=>226 | 5=>5 | n=>n,fun | 15=>5 | n=>n⟩
def Tryz.laysC245_ren:Go.Shelf.Ren:=⟨fun | 245=>276 | 279=>289 | 280=>290 | 281=>291 | 282=>292 | 316=>298 | 171=>175 | 205=>299 | 243=>209 | 246=>238 | 283=>257 | 284=>258 | 285=>259 | 286=>260 | 129=>223 | 317=>280 | 318=>281 | 319=>282 | 320=>283 | 337=>293 | 338=>294 | n=>n,fun | 9=>9 | 3=>3 | 75=>223 | 167=>266 | 4=>4 | 168=>269 | 210=>281 | 37=>218 | 0=>0 | 127=>237 | 145=>289 | 143=>287 | 2=>2 | 171=>240 | 53=>210 | 5=>5 | 173=>242 | 212=>260 | 51=>208 | 20=>20 | 213=>261 | 46=>184 | 232=>283 | 233=>284 | 80=>226 | n=>n,fun | 15=>5 | 16=>6 | 17=>2 | 18=>7 | 19=>8 | n=>n⟩
def Tryz.lays321_ren:Go.Shelf.Ren:=⟨fun | 321=>301 | n=>n,fun | 5=>5 | n=>n,fun | n=>n⟩
def Tryz.lays287_ren:Go.Shelf.Ren:=⟨fun | 287=>297 | 321=>301 | 322=>302 | n=>n,fun | 9=>9 | 3=>3 | 53=>210 | 75=>223 | 4=>4 | 167=>266 | 5=>5 | 46=>184 | 37=>218 | 0=>0 | 21=>21 | 80=>226 | n=>n,fun | n=>n⟩
def Tryz.laysC247_ren:Go.Shelf.Ren:=⟨fun | 247=>288 | 287=>297 | 321=>301 | 322=>302 | n=>n,fun | 9=>9 | 3=>3 | 2=>2 | 75=>223 | 4=>4 | 167=>266 | 5=>5 | 53=>210 | 175=>277 | 46=>184 | 37=>218 | 0=>0 | 21=>21 | 80=>226 | n=>n,fun | n=>n⟩
def Tryz.laysC244_ren:Go.Shelf.Ren:=⟨fun | 244=>275 | 247=>288 | 287=>297 | 321=>301 | 322=>302 | n=>n,fun | 9=>9 | 3=>3 | 75=>223 | 4=>4 | 5=>5 | 167=>266 | 37=>218 | 0=>0 | 85=>267 | 2=>2 | 53=>210 | 175=>277 | 46=>184 | 21=>21 | 80=>226 | n=>n,fun | n=>n⟩
def Tryz.laysM280_ren:Go.Shelf.Ren:=⟨fun | 280=>290 | 316=>298 | n=>n,fun | 9=>9 | 168=>269 | 75=>223 | 210=>281 | 3=>3 | 4=>4 | 37=>218 | 0=>0 | 127=>237 | 80=>226 | 5=>5 | n=>n,fun | 16=>6 | n=>n⟩
def Tryz.laysC172_ren:Go.Shelf.Ren:=⟨fun | 172=>252 | 244=>275 | 245=>276 | 247=>288 | 279=>289 | 280=>290 | 281=>291 | 282=>292 | 287=>297 | 316=>298 | 171=>175 | 205=>299 | 321=>301 | 322=>302 | 243=>209 | 246=>238 | 283=>257 | 284=>258 | 285=>259 | 286=>260 | 129=>223 | 317=>280 | 318=>281 | 319=>282 | 320=>283 | 337=>293 | 338=>294 | n=>n,fun | 9=>9 | 3=>3 | 75=>223 | 76=>224 | 4=>4 | 5=>5 | 167=>266 | 37=>218 | 0=>0 | 85=>267 | 2=>2 | 168=>269 | 53=>210 | 175=>277 | 46=>184 | 210=>281 | 127=>237 | 145=>289 | 143=>287 | 21=>21 | 171=>240 | 173=>242 | 212=>260 | 51=>208 | 20=>20 | 213=>261 | 232=>283 | 233=>284 | 80=>226 | n=>n,fun | 15=>5 | 16=>6 | 17=>2 | 18=>7 | 19=>8 | n=>n⟩
theorem Tryz.laysC172:Go.Proofs.LaysC.n172 Tryz.prog Tryz.laysC172_ren:= {
 mixed:=by kernel_rfl
 f129:=Tryz.func223.trans (congrArg some (by kernel_rfl))
 f171:=Tryz.func175.trans (congrArg some (by kernel_rfl))
 f172:=Tryz.func252.trans (congrArg some (by kernel_rfl))
 f205:=Tryz.func299.trans (congrArg some (by kernel_rfl))
 f243:=Tryz.func209.trans (congrArg some (by kernel_rfl))
 f244:=Tryz.func275.trans (congrArg some (by kernel_rfl))
 f245:=Tryz.func276.trans (congrArg some (by kernel_rfl))
 f246:=Tryz.func238.trans (congrArg some (by kernel_rfl))
 f247:=Tryz.func288.trans (congrArg some (by kernel_rfl))
 f279:=Tryz.func289.trans (congrArg some (by kernel_rfl))
 f280:=Tryz.func290.trans (congrArg some (by kernel_rfl))
 f281:=Tryz.func291.trans (congrArg some (by kernel_rfl))
 f282:=Tryz.func292.trans (congrArg some (by kernel_rfl))
 f283:=Tryz.func257.trans (congrArg some (by kernel_rfl))
 f284:=Tryz.func258.trans (congrArg some (by kernel_rfl))
 f285:=Tryz.func259.trans (congrArg some (by kernel_rfl))
 f286:=Tryz.func260.trans (congrArg some (by kernel_rfl))
 f287:=Tryz.func297.trans (congrArg some (by kernel_rfl))
 f316:=Tryz.func298.trans (congrArg some (by kernel_rfl))
 f317:=Tryz.func280.trans (congrArg some (by kernel_rfl))
 f318:=Tryz.func281.trans (congrArg some (by kernel_rfl))
 f319:=Tryz.func282.trans (congrArg some (by kernel_rfl))
 f320:=Tryz.func283.trans (congrArg some (by kernel_rfl))
 f321:=Tryz.func301.trans (congrArg some (by kernel_rfl))
 f322:=Tryz.func302.trans (congrArg some (by kernel_rfl))
 f337:=Tryz.func293.trans (congrArg some (by kernel_rfl))
 f338:=Tryz.func294.trans (congrArg some (by kernel_rfl))
 t0:=Tryz.underlying0
 a0:=Tryz.isAgg0
 z0:=Tryz.sizeOf0
 v0:=Tryz.zeroValue0
 t2:=Tryz.underlying2
 a2:=Tryz.isAgg2
 z2:=Tryz.sizeOf2
 v2:=Tryz.zeroValue2
 t3:=Tryz.underlying3
 a3:=Tryz.isAgg3
 z3:=Tryz.sizeOf3
 v3:=Tryz.zeroValue3
 t4:=Tryz.underlying4
 a4:=Tryz.isAgg4
 z4:=Tryz.sizeOf4
 v4:=Tryz.zeroValue4
 t5:=Tryz.underlying5
 a5:=Tryz.isAgg5
 z5:=Tryz.sizeOf5
 v5:=Tryz.zeroValue5
 t9:=Tryz.underlying9
 a9:=Tryz.isAgg9
 z9:=Tryz.sizeOf9
 v9:=Tryz.zeroValue9
 t20:=Tryz.underlying20
 a20:=Tryz.isAgg20
 z20:=Tryz.sizeOf20
 v20:=Tryz.zeroValue20
 t21:=Tryz.underlying21
 a21:=Tryz.isAgg21
 z21:=Tryz.sizeOf21
 v21:=Tryz.zeroValue21
 t37:=Tryz.underlying218
 a37:=Tryz.isAgg218
 z37:=Tryz.sizeOf218
 v37:=Tryz.zeroValue218
 t46:=Tryz.underlying184
 a46:=Tryz.isAgg184
 z46:=Tryz.sizeOf184
 v46:=Tryz.zeroValue184
 t51:=Tryz.underlying208
 a51:=Tryz.isAgg208
 z51:=Tryz.sizeOf208
 v51:=Tryz.zeroValue208
 t53:=Tryz.underlying210
 a53:=Tryz.isAgg210
 z53:=Tryz.sizeOf210
 v53:=Tryz.zeroValue210
 t75:=Tryz.underlying223
 a75:=Tryz.isAgg223
 z75:=Tryz.sizeOf223
 v75:=Tryz.zeroValue223
 t76:=Tryz.underlying224
 a76:=Tryz.isAgg224
 z76:=Tryz.sizeOf224
 v76:=Tryz.zeroValue224
 t85:=Tryz.underlying267
 a85:=Tryz.isAgg267
 z85:=Tryz.sizeOf267
 v85:=Tryz.zeroValue267
 t127:=Tryz.underlying237
 a127:=Tryz.isAgg237
 z127:=Tryz.sizeOf237
 v127:=Tryz.zeroValue237
 t143:=Tryz.underlying287
 a143:=Tryz.isAgg287
 z143:=Tryz.sizeOf287
 v143:=Tryz.zeroValue287
 t145:=Tryz.underlying289
 a145:=Tryz.isAgg289
 z145:=Tryz.sizeOf289
 v145:=Tryz.zeroValue289
 t167:=Tryz.underlying266
 a167:=Tryz.isAgg266
 z167:=Tryz.sizeOf266
 v167:=Tryz.zeroValue266
 t168:=Tryz.underlying269
 a168:=Tryz.isAgg269
 z168:=Tryz.sizeOf269
 v168:=Tryz.zeroValue269
 t171:=Tryz.underlying240
 a171:=Tryz.isAgg240
 z171:=Tryz.sizeOf240
 v171:=Tryz.zeroValue240
 t173:=Tryz.underlying242
 a173:=Tryz.isAgg242
 z173:=Tryz.sizeOf242
 v173:=Tryz.zeroValue242
 t175:=Tryz.underlying277
 a175:=Tryz.isAgg277
 z175:=Tryz.sizeOf277
 v175:=Tryz.zeroValue277
 t210:=Tryz.underlying281
 a210:=Tryz.isAgg281
 z210:=Tryz.sizeOf281
 v210:=Tryz.zeroValue281
 t212:=Tryz.underlying260
 a212:=Tryz.isAgg260
 z212:=Tryz.sizeOf260
 v212:=Tryz.zeroValue260
 t213:=Tryz.underlying261
 a213:=Tryz.isAgg261
 z213:=Tryz.sizeOf261
 t232:=Tryz.underlying283
 a232:=Tryz.isAgg283
 z232:=Tryz.sizeOf283
 v232:=Tryz.zeroValue283
 t233:=Tryz.underlying284
 a233:=Tryz.isAgg284
 z233:=Tryz.sizeOf284
 v233:=Tryz.zeroValue284
 g15:=by kernel_rfl
 g16:=by kernel_rfl
 g17:=by kernel_rfl
 g18:=by kernel_rfl
 g19:=by kernel_rfl
 t80:=Tryz.underlying226
 a80:=Tryz.isAgg226
 z80:=Tryz.sizeOf226
 v80:=Tryz.zeroValue226
 i0:=by kernel_rfl
 i2:=by kernel_rfl
 i3:=by kernel_rfl
 i4:=by kernel_rfl
 i5:=by kernel_rfl
 i9:=by kernel_rfl
 i20:=by kernel_rfl
 i21:=by kernel_rfl
 i37:=by kernel_rfl
 i46:=by kernel_rfl
 i51:=by kernel_rfl
 i53:=by kernel_rfl
 i75:=by kernel_rfl
 i76:=by kernel_rfl
 i80:=by kernel_rfl
 i85:=by kernel_rfl
 i127:=by kernel_rfl
 i143:=by kernel_rfl
 i145:=by kernel_rfl
 i167:=by kernel_rfl
 i168:=by kernel_rfl
 i171:=by kernel_rfl
 i173:=by kernel_rfl
 i175:=by kernel_rfl
 i210:=by kernel_rfl
 i212:=by kernel_rfl
 i232:=by kernel_rfl
 i233:=by kernel_rfl
 m15:=by kernel_rfl
 m16:=by kernel_rfl
 m17:=by kernel_rfl
 m18:=by kernel_rfl
 m19:=by kernel_rfl
 c0:=by kernel_rfl
 c2:=by kernel_rfl
 c3:=by kernel_rfl
 c4:=by kernel_rfl
 c5:=by kernel_rfl
 c9:=by kernel_rfl
 c20:=by kernel_rfl
 c21:=by kernel_rfl
 c37:=by kernel_rfl
 c46:=by kernel_rfl
 c51:=by kernel_rfl
 c53:=by kernel_rfl
 c75:=by kernel_rfl
 c76:=by kernel_rfl
 c80:=by kernel_rfl
 c85:=by kernel_rfl
 c127:=by kernel_rfl
 c143:=by kernel_rfl
 c145:=by kernel_rfl
 c167:=by kernel_rfl
 c168:=by kernel_rfl
 c171:=by kernel_rfl
 c173:=by kernel_rfl
 c175:=by kernel_rfl
 c210:=by kernel_rfl
 c212:=by kernel_rfl
 c213:=by kernel_rfl
 c232:=by kernel_rfl
 c233:=by kernel_rfl}
open Go.RowKit in
theorem Tryz.strconv_Atoi_ok (s:ByteArray) (hmax:s.size≤9223372036854775806) (v:Int) (h:Lib.atoiAll s.data.toList=.ok v) (w:World):
  Calls Tryz.prog 252 #[.string s] w fun e w'=>e=.returned (.tuple #[.int .i64 v,.nilIface])∧(w'=w∨∃t,w'=Lib.bytesWorld w 5 t):=Any.strconv_Atoi_ok Tryz.laysC172 s hmax v h w
open Go.RowKit in
theorem Tryz.strconv_Atoi_syntax_var (s:ByteArray) (hlim:s.size≤281474976710656) (h:Lib.atoiAll s.data.toList=(Lib.atoiAll [])) (tp:TypeId) (p:Value) (w:World) (hvar:w.var? Tryz.prog "strconv.ErrSyntax"=some #[.iface tp p]):
  Calls Tryz.prog 252 #[.string s] w fun e w'=>∃N,e=.returned (.tuple #[.int .i64 0,.iface 269 (.pointer (some ⟨N,0,none⟩))])∧w.heap.size≤N∧w'.heap[N]? =some (.cells #[.string ⟨#[65,116,111,105]⟩,.string s,.iface tp p] 281 (0,0))∧Below w.heap.size w w':=Any.strconv_Atoi_syntax_var Tryz.laysC172 s hlim h tp p w hvar
open Go.RowKit in
theorem Tryz.strconv_Atoi_range_var (s:ByteArray) (hlim:s.size≤281474976710656) (h:Lib.atoiAll s.data.toList=.range) (tp:TypeId) (p:Value) (w:World) (hvar:w.var? Tryz.prog "strconv.ErrRange"=some #[.iface tp p]):
  Calls Tryz.prog 252 #[.string s] w fun e w'=>∃N,e=.returned (.tuple #[.int .i64 (Lib.atoiSat s.data.toList),.iface 269 (.pointer (some ⟨N,0,none⟩))])∧w.heap.size≤N∧w'.heap[N]? =some (.cells #[.string ⟨#[65,116,111,105]⟩,.string s,.iface tp p] 281 (0,0))∧Below w.heap.size w w':=Any.strconv_Atoi_range_var Tryz.laysC172 s hlim h tp p w hvar
def Tryz.lays217_ren:Go.Shelf.Ren:=⟨fun | 217=>246 | 266=>262 | n=>n,fun | 9=>9 | 5=>5 | 3=>3 | n=>n,fun | n=>n⟩
def Tryz.lays224_ren:Go.Shelf.Ren:=⟨fun | 224=>264 | n=>n,fun | 3=>3 | n=>n,fun | n=>n⟩
def Tryz.lays314_ren:Go.Shelf.Ren:=⟨fun | 314=>284 | n=>n,fun | 9=>9 | 51=>208 | 3=>3 | 4=>4 | 5=>5 | 46=>184 | n=>n,fun | n=>n⟩
def Tryz.lays267_ren:Go.Shelf.Ren:=⟨fun | 267=>265 | 314=>284 | n=>n,fun | 9=>9 | 3=>3 | 146=>262 | 51=>208 | 4=>4 | 5=>5 | 46=>184 | n=>n,fun | n=>n⟩
def Tryz.lays219_ren:Go.Shelf.Ren:=⟨fun | 219=>247 | 217=>246 | 225=>263 | 224=>264 | 267=>265 | 266=>262 | 314=>284 | n=>n,fun | 9=>9 | 3=>3 | 4=>4 | 5=>5 | 46=>184 | 146=>262 | 51=>208 | n=>n,fun | 1=>1 | n=>n⟩
def Tryz.lays143_ren:Go.Shelf.Ren:=⟨fun | 143=>250 | 219=>247 | 217=>246 | 225=>263 | 224=>264 | 267=>265 | 266=>262 | 314=>284 | n=>n,fun | 9=>9 | 3=>3 | 4=>4 | 5=>5 | 46=>184 | 146=>262 | 51=>208 | n=>n,fun | 1=>1 | n=>n⟩
theorem Tryz.lays143:Go.Proofs.Lays.n143 Tryz.prog Tryz.lays143_ren:= {
 mixed:=by kernel_rfl
 f143:=Tryz.func250.trans (congrArg some (by kernel_rfl))
 f217:=Tryz.func246.trans (congrArg some (by kernel_rfl))
 f219:=Tryz.func247.trans (congrArg some (by kernel_rfl))
 f224:=Tryz.func264.trans (congrArg some (by kernel_rfl))
 f225:=Tryz.func263.trans (congrArg some (by kernel_rfl))
 f266:=Tryz.func262.trans (congrArg some (by kernel_rfl))
 f267:=Tryz.func265.trans (congrArg some (by kernel_rfl))
 f314:=Tryz.func284.trans (congrArg some (by kernel_rfl))
 t3:=Tryz.underlying3
 a3:=Tryz.isAgg3
 z3:=Tryz.sizeOf3
 v3:=Tryz.zeroValue3
 t4:=Tryz.underlying4
 a4:=Tryz.isAgg4
 z4:=Tryz.sizeOf4
 v4:=Tryz.zeroValue4
 t5:=Tryz.underlying5
 a5:=Tryz.isAgg5
 z5:=Tryz.sizeOf5
 v5:=Tryz.zeroValue5
 t9:=Tryz.underlying9
 a9:=Tryz.isAgg9
 z9:=Tryz.sizeOf9
 v9:=Tryz.zeroValue9
 t46:=Tryz.underlying184
 a46:=Tryz.isAgg184
 z46:=Tryz.sizeOf184
 v46:=Tryz.zeroValue184
 t51:=Tryz.underlying208
 a51:=Tryz.isAgg208
 z51:=Tryz.sizeOf208
 v51:=Tryz.zeroValue208
 t146:=Tryz.underlying262
 a146:=Tryz.isAgg262
 z146:=Tryz.sizeOf262
 v146:=Tryz.zeroValue262
 g1:=by kernel_rfl}
open Go.RowKit Go.Lib in
theorem Tryz.strings_Index_one (s:ByteArray) (c:UInt8) (w:World):
  Calls Tryz.prog 250 #[.string s,.string ⟨#[c]⟩] w fun e w'=>e=.returned (.int .i64 (Lib.indexByte s.data.toList c))∧w'=w:=Any.strings_Index_one Tryz.lays143 s c w
def Tryz.lays220_ren:Go.Shelf.Ren:=⟨fun | 220=>226 | 219=>247 | 217=>246 | 225=>263 | 224=>264 | 267=>265 | 266=>262 | 314=>284 | n=>n,fun | 9=>9 | 4=>4 | 3=>3 | 5=>5 | 46=>184 | 146=>262 | 51=>208 | n=>n,fun | 1=>1 | n=>n⟩
def Tryz.lays145_ren:Go.Shelf.Ren:=⟨fun | 145=>189 | 220=>226 | 219=>247 | 217=>246 | 225=>263 | 224=>264 | 267=>265 | 266=>262 | 314=>284 | n=>n,fun | 9=>9 | 4=>4 | 59=>186 | 3=>3 | 5=>5 | 46=>184 | 146=>262 | 51=>208 | n=>n,fun | 1=>1 | n=>n⟩
theorem Tryz.lays145:Go.Proofs.Lays.n145 Tryz.prog Tryz.lays145_ren:= {
 mixed:=by kernel_rfl
 f145:=Tryz.func189.trans (congrArg some (by kernel_rfl))
 f217:=Tryz.func246.trans (congrArg some (by kernel_rfl))
 f219:=Tryz.func247.trans (congrArg some (by kernel_rfl))
 f220:=Tryz.func226.trans (congrArg some (by kernel_rfl))
 f224:=Tryz.func264.trans (congrArg some (by kernel_rfl))
 f225:=Tryz.func263.trans (congrArg some (by kernel_rfl))
 f266:=Tryz.func262.trans (congrArg some (by kernel_rfl))
 f267:=Tryz.func265.trans (congrArg some (by kernel_rfl))
 f314:=Tryz.func284.trans (congrArg some (by kernel_rfl))
 t3:=Tryz.underlying3
 a3:=Tryz.isAgg3
 z3:=Tryz.sizeOf3
 v3:=Tryz.zeroValue3
 t4:=Tryz.underlying4
 a4:=Tryz.isAgg4
 z4:=Tryz.sizeOf4
 v4:=Tryz.zeroValue4
 t5:=Tryz.underlying5
 a5:=Tryz.isAgg5
 z5:=Tryz.sizeOf5
 v5:=Tryz.zeroValue5
 t9:=Tryz.underlying9
 a9:=Tryz.isAgg9
 z9:=Tryz.sizeOf9
 v9:=Tryz.zeroValue9
 t46:=Tryz.underlying184
 a46:=Tryz.isAgg184
 z46:=Tryz.sizeOf184
 v46:=Tryz.zeroValue184
 t51:=Tryz.underlying208
 a51:=Tryz.isAgg208
 z51:=Tryz.sizeOf208
 v51:=Tryz.zeroValue208
 t59:=Tryz.underlying186
 a59:=Tryz.isAgg186
 z59:=Tryz.sizeOf186
 v59:=Tryz.zeroValue186
 t146:=Tryz.underlying262
 a146:=Tryz.isAgg262
 z146:=Tryz.sizeOf262
 v146:=Tryz.zeroValue262
 g1:=by kernel_rfl}
open Go.RowKit Go.Lib in
theorem Tryz.strings_Cut (s sep:ByteArray) (m:Int) (w:World) (hs:s.size<4294967281) (hm:w.cell? ⟨1,0,none⟩=some (.int .i64 m)):
  Calls Tryz.prog 189 #[.string s,.string sep] w fun e w'=>e=.returned (.tuple #[.string ⟨(Lib.cut s.data.toList sep.data.toList).1.toArray⟩,.string ⟨(Lib.cut s.data.toList sep.data.toList).2.1.toArray⟩,.bool (Lib.cut s.data.toList sep.data.toList).2.2])∧∃n,w'=w.drewN n:=Any.strings_Cut Tryz.lays145 s sep m w hs hm
def Tryz.lays138_ren:Go.Shelf.Ren:=⟨fun | 138=>249 | 195=>266 | 218=>267 | 143=>250 | 219=>247 | 217=>246 | 225=>263 | 224=>264 | 267=>265 | 266=>262 | 314=>284 | n=>n,fun | 9=>9 | 3=>3 | 4=>4 | 5=>5 | 0=>0 | 46=>184 | 146=>262 | 51=>208 | n=>n,fun | 1=>1 | n=>n⟩
def Tryz.laysM219_ren:Go.Shelf.Ren:=⟨fun | 219=>247 | 217=>246 | 225=>263 | 224=>264 | 267=>265 | 266=>262 | 314=>284 | n=>n,fun | 9=>9 | 3=>3 | 4=>4 | 5=>5 | 46=>184 | 146=>262 | 51=>208 | n=>n,fun | 1=>1 | n=>n⟩
def Tryz.laysM143_ren:Go.Shelf.Ren:=⟨fun | 143=>250 | 219=>247 | 217=>246 | 225=>263 | 224=>264 | 267=>265 | 266=>262 | 314=>284 | n=>n,fun | 9=>9 | 3=>3 | 4=>4 | 5=>5 | 46=>184 | 146=>262 | 51=>208 | n=>n,fun | 1=>1 | n=>n⟩
def Tryz.laysM220_ren:Go.Shelf.Ren:=⟨fun | 220=>226 | 219=>247 | 217=>246 | 225=>263 | 224=>264 | 267=>265 | 266=>262 | 314=>284 | n=>n,fun | 9=>9 | 4=>4 | 3=>3 | 5=>5 | 46=>184 | 146=>262 | 51=>208 | n=>n,fun | 1=>1 | n=>n⟩
def Tryz.laysM145_ren:Go.Shelf.Ren:=⟨fun | 145=>189 | 220=>226 | 219=>247 | 217=>246 | 225=>263 | 224=>264 | 267=>265 | 266=>262 | 314=>284 | n=>n,fun | 9=>9 | 4=>4 | 59=>186 | 3=>3 | 5=>5 | 46=>184 | 146=>262 | 51=>208 | n=>n,fun | 1=>1 | n=>n⟩
def Tryz.laysM138_ren:Go.Shelf.Ren:=⟨fun | 138=>249 | 195=>266 | 218=>267 | 143=>250 | 219=>247 | 217=>246 | 225=>263 | 224=>264 | 267=>265 | 266=>262 | 314=>284 | n=>n,fun | 9=>9 | 3=>3 | 4=>4 | 5=>5 | 0=>0 | 46=>184 | 146=>262 | 51=>208 | n=>n,fun | 1=>1 | n=>n⟩
def Tryz.lays190_ren:Go.Shelf.Ren:=⟨fun | 190=>147 | 125=>186 | 258=>185 | 128=>222 | 129=>223 | 302=>213 | 303=>214 | 304=>215 | 305=>216 | 306=>217 | 307=>218 | 308=>219 | 309=>220 | 310=>221 | 333=>241 | 329=>242 | 330=>243 | 334=>244 | 335=>245 | 336=>195 | 344=>261 | n=>n,fun | 31=>106 | 9=>9 | 3=>3 | 46=>184 | 0=>0 | 51=>208 | 53=>210 | 4=>4 | 183=>202 | 182=>201 | 131=>79 | 5=>5 | 218=>229 | 222=>233 | 228=>244 | 229=>245 | n=>n,fun | n=>n⟩
theorem Tryz.lays190:Go.Proofs.Lays.n190 Tryz.prog Tryz.lays190_ren:= {
 mixed:=by kernel_rfl
 f125:=Tryz.func186.trans (congrArg some (by kernel_rfl))
 f128:=Tryz.func222.trans (congrArg some (by kernel_rfl))
 f129:=Tryz.func223.trans (congrArg some (by kernel_rfl))
 f190:=Tryz.func147.trans (congrArg some (by kernel_rfl))
 f258:=Tryz.func185.trans (congrArg some (by kernel_rfl))
 f302:=Tryz.func213.trans (congrArg some (by kernel_rfl))
 f303:=Tryz.func214.trans (congrArg some (by kernel_rfl))
 f304:=Tryz.func215.trans (congrArg some (by kernel_rfl))
 f305:=Tryz.func216.trans (congrArg some (by kernel_rfl))
 f306:=Tryz.func217.trans (congrArg some (by kernel_rfl))
 f307:=Tryz.func218.trans (congrArg some (by kernel_rfl))
 f308:=Tryz.func219.trans (congrArg some (by kernel_rfl))
 f309:=Tryz.func220.trans (congrArg some (by kernel_rfl))
 f310:=Tryz.func221.trans (congrArg some (by kernel_rfl))
 f329:=Tryz.func242.trans (congrArg some (by kernel_rfl))
 f330:=Tryz.func243.trans (congrArg some (by kernel_rfl))
 f333:=Tryz.func241.trans (congrArg some (by kernel_rfl))
 f334:=Tryz.func244.trans (congrArg some (by kernel_rfl))
 f335:=Tryz.func245.trans (congrArg some (by kernel_rfl))
 f336:=Tryz.func195.trans (congrArg some (by kernel_rfl))
 f344:=Tryz.func261.trans (congrArg some (by kernel_rfl))
 t0:=Tryz.underlying0
 a0:=Tryz.isAgg0
 z0:=Tryz.sizeOf0
 v0:=Tryz.zeroValue0
 t3:=Tryz.underlying3
 a3:=Tryz.isAgg3
 z3:=Tryz.sizeOf3
 v3:=Tryz.zeroValue3
 t4:=Tryz.underlying4
 a4:=Tryz.isAgg4
 z4:=Tryz.sizeOf4
 v4:=Tryz.zeroValue4
 t5:=Tryz.underlying5
 a5:=Tryz.isAgg5
 z5:=Tryz.sizeOf5
 v5:=Tryz.zeroValue5
 t9:=Tryz.underlying9
 a9:=Tryz.isAgg9
 z9:=Tryz.sizeOf9
 v9:=Tryz.zeroValue9
 t31:=Tryz.underlying106
 a31:=Tryz.isAgg106
 z31:=Tryz.sizeOf106
 v31:=Tryz.zeroValue106
 t46:=Tryz.underlying184
 a46:=Tryz.isAgg184
 z46:=Tryz.sizeOf184
 v46:=Tryz.zeroValue184
 t51:=Tryz.underlying208
 a51:=Tryz.isAgg208
 z51:=Tryz.sizeOf208
 v51:=Tryz.zeroValue208
 t53:=Tryz.underlying210
 a53:=Tryz.isAgg210
 z53:=Tryz.sizeOf210
 v53:=Tryz.zeroValue210
 t131:=Tryz.underlying79
 a131:=Tryz.isAgg79
 z131:=Tryz.sizeOf79
 v131:=Tryz.zeroValue79
 t182:=Tryz.underlying201
 a182:=Tryz.isAgg201
 z182:=Tryz.sizeOf201
 v182:=Tryz.zeroValue201
 t183:=Tryz.underlying202
 a183:=Tryz.isAgg202
 z183:=Tryz.sizeOf202
 v183:=Tryz.zeroValue202
 t218:=Tryz.underlying229
 a218:=Tryz.isAgg229
 z218:=Tryz.sizeOf229
 v218:=Tryz.zeroValue229
 t222:=Tryz.underlying233
 a222:=Tryz.isAgg233
 z222:=Tryz.sizeOf233
 v222:=Tryz.zeroValue233
 t228:=Tryz.underlying244
 a228:=Tryz.isAgg244
 z228:=Tryz.sizeOf244
 v228:=Tryz.zeroValue244
 t229:=Tryz.underlying245
 a229:=Tryz.isAgg245
 z229:=Tryz.sizeOf245
 v229:=Tryz.zeroValue245}
open Go.Sort Go.RowKit in
theorem Tryz.slices_Sort_string (blk off cap:Nat) (ss:List (List UInt8)) (w:World) (hH:Holds encStr w blk off ss.toArray) (hblk:blk<w.heap.size) (hsz:ss.length<4611686018427387904):
  Calls Tryz.prog 147 #[.slice (some ⟨blk,off,none⟩) ss.length cap] w fun e w'=>
   e=.returned (.tuple #[])∧∃n os,w'=grow (putRow encStr (Sort.ahead w n) blk off (ss.mergeSort fun x y=>decide (x≤y)).toArray) os:=Any.slices_Sort_string Tryz.lays190 blk off cap ss w hH hblk hsz
def Tryz.lays206_ren:Go.Shelf.Ren:=⟨fun | 206=>236 | n=>n,fun | 9=>9 | 4=>4 | 3=>3 | n=>n,fun | n=>n⟩
def Tryz.lays99_ren:Go.Shelf.Ren:=⟨fun | 99=>205 | 206=>236 | n=>n,fun | 9=>9 | 4=>4 | 3=>3 | n=>n,fun | n=>n⟩
def Tryz.lays221_ren:Go.Shelf.Ren:=⟨fun | 221=>231 | 268=>248 | 138=>249 | 143=>250 | 195=>266 | 197=>256 | 218=>267 | 219=>247 | 260=>279 | 217=>246 | 225=>263 | 224=>264 | 267=>265 | 266=>262 | 314=>284 | n=>n,fun | 9=>9 | 3=>3 | 31=>106 | 4=>4 | 0=>0 | 105=>238 | 21=>21 | 5=>5 | 46=>184 | 119=>272 | 139=>275 | 138=>274 | 146=>262 | 51=>208 | n=>n,fun | 1=>1 | 3=>3 | 4=>4 | n=>n⟩
def Tryz.lays146_ren:Go.Shelf.Ren:=⟨fun | 146=>198 | 221=>231 | 268=>248 | 138=>249 | 143=>250 | 195=>266 | 197=>256 | 218=>267 | 219=>247 | 260=>279 | 217=>246 | 225=>263 | 224=>264 | 267=>265 | 266=>262 | 314=>284 | n=>n,fun | 9=>9 | 31=>106 | 3=>3 | 4=>4 | 0=>0 | 105=>238 | 21=>21 | 5=>5 | 46=>184 | 119=>272 | 139=>275 | 138=>274 | 146=>262 | 51=>208 | n=>n,fun | 1=>1 | 3=>3 | 4=>4 | n=>n⟩
theorem Tryz.lays146:Go.Proofs.Lays.n146 Tryz.prog Tryz.lays146_ren:= {
 mixed:=by kernel_rfl
 f138:=Tryz.func249.trans (congrArg some (by kernel_rfl))
 f143:=Tryz.func250.trans (congrArg some (by kernel_rfl))
 f146:=Tryz.func198.trans (congrArg some (by kernel_rfl))
 f195:=Tryz.func266.trans (congrArg some (by kernel_rfl))
 f197:=Tryz.func256.trans (congrArg some (by kernel_rfl))
 f217:=Tryz.func246.trans (congrArg some (by kernel_rfl))
 f218:=Tryz.func267.trans (congrArg some (by kernel_rfl))
 f219:=Tryz.func247.trans (congrArg some (by kernel_rfl))
 f221:=Tryz.func231.trans (congrArg some (by kernel_rfl))
 f224:=Tryz.func264.trans (congrArg some (by kernel_rfl))
 f225:=Tryz.func263.trans (congrArg some (by kernel_rfl))
 f260:=Tryz.func279.trans (congrArg some (by kernel_rfl))
 f266:=Tryz.func262.trans (congrArg some (by kernel_rfl))
 f267:=Tryz.func265.trans (congrArg some (by kernel_rfl))
 f268:=Tryz.func248.trans (congrArg some (by kernel_rfl))
 f314:=Tryz.func284.trans (congrArg some (by kernel_rfl))
 t0:=Tryz.underlying0
 a0:=Tryz.isAgg0
 z0:=Tryz.sizeOf0
 v0:=Tryz.zeroValue0
 t3:=Tryz.underlying3
 a3:=Tryz.isAgg3
 z3:=Tryz.sizeOf3
 v3:=Tryz.zeroValue3
 t4:=Tryz.underlying4
 a4:=Tryz.isAgg4
 z4:=Tryz.sizeOf4
 v4:=Tryz.zeroValue4
 t5:=Tryz.underlying5
 a5:=Tryz.isAgg5
 z5:=Tryz.sizeOf5
 v5:=Tryz.zeroValue5
 t9:=Tryz.underlying9
 a9:=Tryz.isAgg9
 z9:=Tryz.sizeOf9
 v9:=Tryz.zeroValue9
 t21:=Tryz.underlying21
 a21:=Tryz.isAgg21
 z21:=Tryz.sizeOf21
 v21:=Tryz.zeroValue21
 t31:=Tryz.underlying106
 a31:=Tryz.isAgg106
 z31:=Tryz.sizeOf106
 v31:=Tryz.zeroValue106
 t46:=Tryz.underlying184
 a46:=Tryz.isAgg184
 z46:=Tryz.sizeOf184
 v46:=Tryz.zeroValue184
 t51:=Tryz.underlying208
 a51:=Tryz.isAgg208
 z51:=Tryz.sizeOf208
 v51:=Tryz.zeroValue208
 t105:=Tryz.underlying238
 a105:=Tryz.isAgg238
 z105:=Tryz.sizeOf238
 v105:=Tryz.zeroValue238
 t119:=Tryz.underlying272
 a119:=Tryz.isAgg272
 z119:=Tryz.sizeOf272
 t138:=Tryz.underlying274
 a138:=Tryz.isAgg274
 z138:=Tryz.sizeOf274
 v138:=Tryz.zeroValue274
 t139:=Tryz.underlying275
 a139:=Tryz.isAgg275
 z139:=Tryz.sizeOf275
 v139:=Tryz.zeroValue275
 t146:=Tryz.underlying262
 a146:=Tryz.isAgg262
 z146:=Tryz.sizeOf262
 v146:=Tryz.zeroValue262
 g1:=by kernel_rfl
 g3:=by kernel_rfl
 g4:=by kernel_rfl}
open Go.RowKit Go.Lib in
theorem Tryz.strings_Split (s sep:ByteArray) (m:Int) (w:World) (hs:s.size<4294967281) (hm:w.cell? ⟨1,0,none⟩=some (.int .i64 m)) (h1:1≤sep.size):
  Calls Tryz.prog 198 #[.string s,.string sep] w fun e w'=>
   e=.returned (.slice (some ⟨w.heap.size,0,none⟩) (Lib.countB s sep+1) (Lib.countB s sep+1))∧w'=w.alloc (.cells ((Lib.splitB sep 0 (Lib.countB s sep) s).map Value.string).toArray 9):=Any.strings_Split Tryz.lays146 (by kernel_rfl) s sep m w hs hm h1
def Tryz.laysM146_ren:Go.Shelf.Ren:=⟨fun | 146=>198 | 221=>231 | 268=>248 | 138=>249 | 143=>250 | 195=>266 | 197=>256 | 218=>267 | 219=>247 | 260=>279 | 217=>246 | 225=>263 | 224=>264 | 267=>265 | 266=>262 | 314=>284 | n=>n,fun | 9=>9 | 31=>106 | 3=>3 | 4=>4 | 0=>0 | 105=>238 | 21=>21 | 5=>5 | 46=>184 | 119=>272 | 139=>275 | 138=>274 | 146=>262 | 51=>208 | n=>n,fun | 1=>1 | 3=>3 | 4=>4 | n=>n⟩
def Tryz.lays197_ren:Go.Shelf.Ren:=⟨fun | 197=>256 | 260=>279 | n=>n,fun | 9=>9 | 21=>21 | 3=>3 | 4=>4 | 5=>5 | 105=>238 | 119=>272 | 0=>0 | 46=>184 | 139=>275 | 138=>274 | n=>n,fun | 3=>3 | 4=>4 | n=>n⟩
def Tryz.lays152_ren:Go.Shelf.Ren:=⟨fun | 152=>295 | 137=>225 | 119=>300 | 224=>264 | 225=>263 | 217=>246 | 266=>262 | n=>n,fun | 9=>9 | 21=>21 | 3=>3 | 4=>4 | 5=>5 | 0=>0 | 46=>184 | n=>n,fun | n=>n⟩
def Tryz.lays151_ren:Go.Shelf.Ren:=⟨fun | 151=>286 | 152=>295 | 137=>225 | 119=>300 | 224=>264 | 225=>263 | 217=>246 | 266=>262 | n=>n,fun | 9=>9 | 21=>21 | 4=>4 | 3=>3 | 5=>5 | 0=>0 | 46=>184 | n=>n,fun | n=>n⟩
def Tryz.lays227_ren:Go.Shelf.Ren:=⟨fun | 227=>270 | n=>n,fun | 9=>9 | 116=>250 | 4=>4 | 0=>0 | 3=>3 | 5=>5 | n=>n,fun | n=>n⟩
def Tryz.lays228_ren:Go.Shelf.Ren:=⟨fun | 228=>285 | n=>n,fun | 124=>254 | 5=>5 | 4=>4 | 0=>0 | 116=>250 | n=>n,fun | n=>n⟩
def Tryz.lays268_ren:Go.Shelf.Ren:=⟨fun | 268=>248 | 195=>266 | 197=>256 | 260=>279 | n=>n,fun | 9=>9 | 3=>3 | 31=>106 | 4=>4 | 105=>238 | 21=>21 | 0=>0 | 5=>5 | 119=>272 | 46=>184 | 139=>275 | 138=>274 | n=>n,fun | 3=>3 | 4=>4 | n=>n⟩
def Tryz.lays260_ren:Go.Shelf.Ren:=⟨fun | 260=>279 | n=>n,fun | 9=>9 | 21=>21 | 3=>3 | 4=>4 | 5=>5 | 119=>272 | 0=>0 | 46=>184 | 139=>275 | 138=>274 | n=>n,fun | 3=>3 | 4=>4 | n=>n⟩
def Tryz.lays271_ren:Go.Shelf.Ren:=⟨fun | 271=>287 | 120=>296 | 197=>256 | 260=>279 | n=>n,fun | 9=>9 | 21=>21 | 3=>3 | 4=>4 | 5=>5 | 105=>238 | 119=>272 | 0=>0 | 46=>184 | 139=>275 | 138=>274 | n=>n,fun | 3=>3 | 4=>4 | n=>n⟩
def Tryz.laysNm217_ren:Go.Shelf.Ren:=⟨fun | 17=>168 | n=>n,fun | 24=>106 | 9=>9 | 3=>3 | 4=>4 | 0=>0 | n=>n,fun | n=>n⟩
def Tryz.laysNm237_ren:Go.Shelf.Ren:=⟨fun | 37=>230 | n=>n,fun | 3=>3 | 4=>4 | n=>n,fun | n=>n⟩
open Go.RowKit Go.Sort in
theorem Tryz.slices_Sort_string_none (p:Option Addr) (cap:Nat) (w:World):
  Calls Tryz.prog 147 #[.slice p 0 cap] w fun e w'=>e=.returned (.tuple #[])∧w'=w:=Any.slices_Sort_string_none Tryz.lays190 p cap w
def Tryz.laysSlE35_f168_ren:Go.Shelf.Ren:=⟨fun | 35=>168 | n=>n,fun | 22=>106 | 23=>9 | 3=>3 | 4=>4 | 0=>0 | n=>n,fun | n=>n⟩
end Go.Proofs
