/-
 DERIVED: THE SHELF's CONTRACTS AT THIS DUMP, IN PLAIN WORDS (tools/lay-plain.mjs out of 'TryzShelf.lean', which tools/lay-shelf.mjs wrote): THE SAME DECLARATIONS UNDER THE SAME NAMES: 'import', 'namespace', 'open', 'def', 'theorem' AND NOTHING ELSE: no command of the shelf's: FOR A HAND-IN. Each laying: the table of numbers ('.._ren') and one theorem, a field a fact of the dump's own or the kernel's comparison; each contract: ONE APPLICATION.
-/
import Derived.Test.YtmmbgjmigmchbaaGreatDoorNg4
import Derived.Lib.LaidTab
import Derived.Lib.ItoaNum
import Derived.Shelf.Strings.Builder1
import Derived.Shelf.Strings.Builder2
import Derived.Shelf.Strings.OnBuilder
import Derived.Shelf.Strings.Trim
import Derived.Shelf.Small.Utf8
import Derived.Shelf.Small.Bits
import Derived.Shelf.Small.Strs
import Derived.Shelf.Small.Wraps
import Derived.Shelf.Strings.BuilderF
import Derived.Shelf.Strings.BuilderK
import Derived.Shelf.Utf8.RuneCount
import Derived.Shelf.Strings.Builder2Cap
import Derived.Shelf.Strconv.Atoi
import Derived.Shelf.Strconv.Itoa0
import Derived.Shelf.Strconv.Itoa1
import Derived.Shelf.LaysM
import Derived.Shelf.Strconv.Itoa2
import Derived.Shelf.Strconv.Itoa3
import Derived.Shelf.Strconv.AtoiErrFast
import Derived.Shelf.Strconv.ParseIntEmpty
import Derived.Shelf.Strconv.AtoiFail
import Derived.Shelf.Strconv.Clone
import Derived.Shelf.Strconv.SyntaxError
import Derived.Shelf.LaysC
import Derived.Shelf.Strconv.ToError
import Derived.Shelf.Strconv.Lower
import Derived.Shelf.Strconv.ParseUint10
import Derived.Shelf.Strconv.ParseUint10Empty
import Derived.Shelf.Strconv.ParseUint10Any
import Derived.Shelf.Strconv.ParseInt10
import Derived.Shelf.Strconv.AtoiLong
import Derived.Shelf.Strconv.AtoiInnerAll
import Derived.Shelf.Strconv.RangeError
import Derived.Shelf.Strconv.ToErrorRange
import Derived.Shelf.Strconv.AtoiAll
import Derived.Shelf.Strconv.ErrVarAll
import Derived.Shelf.Strconv.ParseUintEmpty
import Derived.Shelf.Strconv.ParseUint10b64
import Derived.Shelf.Strconv.ParseUint10b32
import Derived.Shelf.Strconv.ParseUint10b16
import Derived.Shelf.Strconv.ParseUint10b8
import Derived.Shelf.Strings.Search1
import Derived.Shelf.Strings.Search2
import Derived.Shelf.Strings.Search3
import Derived.Shelf.Strings.Cut
import Derived.Shelf.Strings.Count
import Derived.Shelf.Strings.Shaped
import Derived.Shelf.Sort.Plain
import Derived.Shelf.Strings.Prefix
import Derived.Shelf.Strings.Split
import Derived.Shelf.Strings.SplitShaped
import Derived.Shelf.Unicode.Decode
import Derived.Shelf.Strings.Runes
import Derived.Shelf.Strings.RuneCount
import Derived.Shelf.Strings.AsciiSet
import Derived.Shelf.Strings.Explode
import Derived.Shelf.Unicode.DecodeSlow
import Derived.Shelf.Unicode.DecodeAny
import Derived.Shelf.Unicode.DecodeLast
import Derived.Ground.Names2Prog
import Derived.Shelf.Slices.SearchI
import Derived.Shelf.Slices.In.SortNone
import Derived.Test.YtmmbgjmigmchbaaGreatDoorProg
namespace Go.Proofs.YtmmbgjmigmchbaaGreatDoorAbs
set_option linter.unusedSimpArgs false
set_option linter.unusedVariables false
open Go Go.RowKit Go.Proofs
set_option maxRecDepth 100000
def tK:List Value:=[.int .i64 3,.string ⟨#[60,61]⟩,.int .i64 5,.string ⟨#[62,61]⟩,.int .i64 2,.string ⟨#[60]⟩,.int .i64 4,.string ⟨#[62]⟩,.int .i64 1,.string ⟨#[61]⟩]
instance instGlZ:Gl Tryz.prog where
 ok:=fun w=>Lib.TabIs Tryz.prog w "internal/strconv.uint64pow10" .u64 Lib.pow10Tab∧(∃tp p,w.var? Tryz.prog "strconv.ErrSyntax"=some #[.iface tp p])∧(∃tp p,w.var? Tryz.prog "strconv.ErrRange"=some #[.iface tp p])∧(∃m,w.cell? ⟨1,0,none⟩=some (.int .i64 m))∧∀(i:Nat) v,tK[i]? =some v→w.cell? ⟨0,i,none⟩=some v
 glob:=fun g=>if g=0 then some tK else none
 inl:=fun f=>f==54 || f==55
 shr:=fun t=>t==61
 holds:=fun w g vs h hg=>by
  split at hg
  ·rename_i h0;injection hg with hg;subst hg;subst h0;exact⟨by decide,h.2.2.2.2⟩
  ·cases hg
@[simp] theorem shr_is (t:TypeId):Gl.shr Tryz.prog t=(t==61):=rfl
@[simp] theorem glob0:tN Tryz.prog 191 (.global 0)=some (.agg (tK.map AV.v)):=by kernel_rfl
structure Ver where
 maj:Int
 min:Int
 pat:Int
 pre:Bs
 deriving DecidableEq,Inhabited
structure Pl where
 par:Int
 name:Bs
 ver:Ver
 deriving DecidableEq,Inhabited
def Ver.cells (v:Ver):List AV:=[iV v.maj,iV v.min,iV v.pat,sV v.pre]
def Ver.val (v:Ver):Value:=.agg #[.int .i64 v.maj,.int .i64 v.min,.int .i64 v.pat,.string v.pre]
def Pl.cells (p:Pl):List AV:=[iV p.par,sV p.name,iV p.ver.maj,iV p.ver.min,iV p.ver.pat,sV p.ver.pre]
def Pl.val (p:Pl):Value:=.agg #[.int .i64 p.par,.string p.name,.int .i64 p.ver.maj,.int .i64 p.ver.min,.int .i64 p.ver.pat,.string p.ver.pre]
instance:Wid Pl.cells 6:=⟨fun _=>rfl,by decide⟩
section
variable {G:Hp}
@[simp] theorem ver_looks (P:Program) (d:Ver):iH P G d.cells=some d.cells:=rfl
@[simp] theorem ver_trees (P:Program) (d:Ver):bY P G d.cells=some (d.cells,G):=rfl
@[simp] theorem pl_looks (P:Program) (d:Pl):iH P G d.cells=some d.cells:=rfl
@[simp] theorem pl_trees (P:Program) (d:Pl):bY P G d.cells=some (d.cells,G):=rfl
@[simp] theorem ver_one (d:Ver):d.cells.all AV.one=true:=rfl
@[simp] theorem ver_len (d:Ver):d.cells.length=4:=rfl
@[simp] theorem pl_one (d:Pl):d.cells.all AV.one=true:=rfl
@[simp] theorem pl_len (d:Pl):d.cells.length=6:=rfl
@[simp] theorem ver_all (v:Ver):gU v.cells 0 4=some v.cells:=rfl
@[simp] theorem ver_maj (v:Ver):gU v.cells 0 1=some [iV v.maj]:=rfl
@[simp] theorem ver_min (v:Ver):gU v.cells 1 1=some [iV v.min]:=rfl
@[simp] theorem ver_pat (v:Ver):gU v.cells 2 1=some [iV v.pat]:=rfl
@[simp] theorem ver_pre (v:Ver):gU v.cells 3 1=some [sV v.pre]:=rfl
@[simp] theorem pl_all (p:Pl):gU p.cells 0 6=some p.cells:=rfl
@[simp] theorem pl_par (p:Pl):gU p.cells 0 1=some [iV p.par]:=rfl
@[simp] theorem pl_name (p:Pl):gU p.cells 1 1=some [sV p.name]:=rfl
@[simp] theorem pl_ver (p:Pl):gU p.cells 2 4=some p.ver.cells:=rfl
@[simp] theorem ver_conc (b:Ver):zf (.agg b.cells)=some b.val:=rfl
@[simp] theorem pl_conc (b:Pl):zf (.agg b.cells)=some b.val:=rfl
@[simp] theorem pl_take (d:Pl):List.take 6 d.cells=d.cells:=rfl
@[simp] theorem ver_take (d:Ver):List.take 4 d.cells=d.cells:=rfl
end
theorem Vy (a b:Pl):((a.par==b.par)&&((a.name.toList==b.name.toList)&&(((a.ver.maj==b.ver.maj)&&((a.ver.min==b.ver.min)&&((a.ver.pat==b.ver.pat)&&((a.ver.pre.toList==b.ver.pre.toList)&&true))))&&true)))=decide (a=b):=by
 rw[beq_toList,beq_toList,Bool.eq_iff_iff];cases a with | mk a1 a2 a3=>cases a3;cases b with | mk b1 b2 b3=>cases b3;simp
theorem Uc (a b:Pl):iZ Tryz.prog .neq 50 a.val b.val=some (.bool (!((a.par==b.par)&&((a.name.toList==b.name.toList)&&(((a.ver.maj==b.ver.maj)&&((a.ver.min==b.ver.min)&&((a.ver.pat==b.ver.pat)&&((a.ver.pre.toList==b.ver.pre.toList)&&true))))&&true))))):=by kernel_rfl
@[simp] theorem neq34 (a b:Pl):iZ Tryz.prog .neq 50 a.val b.val=some (.bool (!decide (a=b))):=by
 rw[Uc,Vy]
theorem UA (a b:Ver):iZ Tryz.prog .neq 23 a.val b.val=some (.bool (!((a.maj==b.maj)&&((a.min==b.min)&&((a.pat==b.pat)&&((a.pre.toList==b.pre.toList)&&true)))))):=by kernel_rfl
@[simp] theorem neq24 (a b:Ver):iZ Tryz.prog .neq 23 a.val b.val=some (.bool (!decide (a=b))):=by
 rw[UA,beq_toList];have:((a.maj==b.maj)&&((a.min==b.min)&&((a.pat==b.pat)&&(decide (a.pre=b.pre)&&true))))=decide (a=b):=by
  rw[Bool.eq_iff_iff];cases a;cases b;simp
 rw[this]
set_option maxRecDepth 100000
set_option maxHeartbeats 4000000
def inR (n:Int):Bool:=decide (0≤n)&&decide (n≤999999)
def iC (n:Int):List AV:=[iV n]
instance:Wid iC 1:=⟨fun _=>rfl,by decide⟩
@[simp] theorem iC_get (n:Int):gU (iC n) 0 1=some [iV n]:=rfl
theorem EJ (l:List Int) (hl:l.length<4611686018427387904):CallsOK Tryz.prog 176 [rowT iC l] (bV (l.all inR)) []:=by
 refine aN mixed Tryz.call176 Tryz.func176 rfl (by rw[Tryz.ntmps176];simp) ?_ rfl;rw[Tryz.ntmps176];refine aR fun K' hK=> ?_
 simp;apply hK;clear K' hK;apply aA;refine aR fun K' hK=> ?_
 simp;apply hK;clear K' hK;apply aB
 refine bH (fun s G nx=>s 5=rowT iC l∧s 6=iV l.length∧∃i:Nat,s 7=iV i∧i≤l.length∧(l.take i).all inR=true) (fun s _ _=>match s 7 with | .v (.int _ n)=>l.length-n.toNat | _=>0) ?_ ?_
 ·exact⟨by simp,by simp,0,by simp,by omega,by simp⟩
 ·rintro s G nx-⟨s5,s6,i,s7,hi,ht⟩;have hw:IntKind.i64.wrap (↑i+1)=((i+1:Nat):Int):=dh (by omega);refine aR fun K' hK=> ?_
  simp[s6,s7];apply hK;clear K' hK;refine aC fun A B hA hB=> ?_
  simp;refine⟨fun hi2=>hA ?_,fun hi2=>hB ?_⟩<;>clear hA hB A B<;>(try simp at hi2)<;>(try with_reducible refine aK ?_)
  ·have hstep:=iK (p:=inR) hi2;apply aB;refine aR fun K' hK=> ?_
   simp[s5,s7,hi2];apply hK;clear K' hK;by_cases h0:nth l i<0
   ·skip;refine aR fun K' hK=> ?_
    simp[h0];apply hK;clear K' hK;refine aU (by simp) ?_;apply aA;refine aR fun K' hK=> ?_
    simp;apply hK;clear K' hK;apply aJ
    simp[au,aG,Post,aW,res1,bF,bC,aP,bg,bf,okT,okA,ok1,rowOf,Tryz.f176];exact⟨_,bM hi2,by simp[inR];omega⟩
   ·by_cases h1:999999<nth l i
    ·skip;refine aR fun K' hK=> ?_
     simp[h0,h1];apply hK;clear K' hK;refine aU (by simp) ?_;apply aA;refine aR fun K' hK=> ?_
     simp;apply hK;clear K' hK;apply aJ
     simp[au,aG,Post,aW,res1,bF,bC,aP,bg,bf,okT,okA,ok1,rowOf,Tryz.f176];exact⟨_,bM hi2,by simp[inR];omega⟩
    ·skip;refine aR fun K' hK=> ?_
     simp[h0,h1];apply hK;clear K' hK;refine aVk (by simp) ?_;apply aj
     refine ah ?_;refine aS fun K' hK=> ?_
     simp[s7,hw];apply hK;clear K' hK;refine aj (ay ?_ ?_)
     ·exact⟨by simp[s5],by simp[s6],i+1,by simp[hw],by omega,by rw[hstep,ht];simp[inR];omega⟩
     ·simp[s7,hw];omega
  ·skip;apply bG
   refine aI (aH ?_);refine aR fun K' hK=> ?_
   simp;apply hK;clear K' hK;apply aF
   simp[au,aG,Post,aW,res1,bF,bC,aP,bg,bf,okT,okA,ok1,rowOf,Tryz.f176];rw[List.take_of_length_le (by omega)]at ht;exact List.all_eq_true.1 ht
def chP (par:Int) (name:Bs) (p:Pl):Bool:=decide (p.par=par∧p.name=name)
theorem IE (p:Pl) (par:Int) (name:Bs):CallsOK Tryz.prog 117 [.agg p.cells,.cp [iV par] 0,.cp [sV name] 0] (bV (chP par name p)) []:=by
 refine aN mixed Tryz.call117 Tryz.func117 rfl (by rw[Tryz.ntmps117];simp) ?_ rfl;rw[Tryz.ntmps117];refine aR fun K' hK=> ?_
 simp;apply hK;clear K' hK;by_cases h:p.par=par
 ·skip;refine aR fun K' hK=> ?_
  simp[h];apply hK;clear K' hK;apply aF
  simp[au,aG,Post,aW,res1,bF,bC,aP,bg,bf,okT,okA,ok1,rowOf,Tryz.f117,chP,h]
 ·skip;refine aR fun K' hK=> ?_
  simp[h];apply hK;clear K' hK;apply aF
  simp[au,aG,Post,aW,res1,bF,bC,aP,bg,bf,okT,okA,ok1,rowOf,Tryz.f117,chP,h]
def atI:Option Nat→Int
 | some i=>i
 | none=> -1
def chF (t:List Pl) (par:Int) (name:Bs):Option Nat:=t.findIdx? (chP par name)
theorem IZ (t:List Pl) (par:Int) (name:Bs) (hl:t.length<4611686018427387904):CallsOK Tryz.prog 116 [rowT Pl.cells t,.fn 117 [.cp [iV par] 0,.cp [sV name] 0]] (iV (atI (chF t par name))) []:=by
 refine aN mixed Tryz.call116 Tryz.func116 rfl (by rw[Tryz.ntmps116];simp) ?_ rfl;rw[Tryz.ntmps116];refine aR fun K' hK=> ?_
 simp;apply hK;clear K' hK;apply aA;refine aR fun K' hK=> ?_
 simp;apply hK;clear K' hK;apply aB
 refine bH (fun s G nx=>s 0=rowT Pl.cells t∧s 1=.fn 117 [.cp [iV par] 0,.cp [sV name] 0]∧s 7=iV t.length∧∃i:Nat,s 8=iV i∧i≤t.length∧∀j,j<i→chP par name (nth t j)=false) (fun s _ _=>match s 8 with | .v (.int _ n)=>t.length-n.toNat | _=>0) ?_ ?_
 ·exact⟨by simp,by simp,by simp,0,by simp,by omega,fun j h=>by omega⟩
 ·rintro s G nx-⟨s0,s1,s7,i,s8,hi,hno⟩;have hw:IntKind.i64.wrap (↑i+1)=((i+1:Nat):Int):=dh (by omega);refine aR fun K' hK=> ?_
  simp[s7,s8];apply hK;clear K' hK;refine aC fun A B hA hB=> ?_
  simp;refine⟨fun hi2=>hA ?_,fun hi2=>hB ?_⟩<;>clear hA hB A B<;>(try simp at hi2)<;>(try with_reducible refine aK ?_)
  ·skip;apply aB;refine aR fun K' hK=> ?_
   simp[s8];apply hK;clear K' hK;refine aR fun K' hK=> ?_
   simp[s0,s1,hi2];refine ak (IE (nth t i) par name) rfl (by simp) ?_;simp;apply hK;clear K' hK;refine aD fun A B hA hB=> ?_
   simp;refine⟨fun hc=>hA ?_,fun hc=>hB ?_⟩<;>clear hA hB A B<;>(try simp at hc)<;>(try with_reducible refine aK ?_)
   ·refine aA ?_;refine aR fun K' hK=> ?_
    simp;apply hK;clear K' hK;apply aJ
    simp[au,aG,Post,aW,res1,bF,bC,aP,bg,bf,okT,okA,ok1,rowOf,Tryz.f116];have:chF t par name=some i:=by
     unfold chF;rw[List.findIdx?_eq_some_iff_getElem];refine⟨hi2,by rw[←bZ hi2];exact hc,fun j hj=> ?_⟩;rw[←bZ (by omega)];simpa using hno j hj
    simp[this,atI]
   ·refine aj ?_
    refine ah ?_;refine aS fun K' hK=> ?_
    simp[s8,hw];apply hK;clear K' hK;refine aj (ay ?_ ?_)
    ·refine⟨by simp[s0],by simp[s1],by simp[s7],i+1,by simp[hw],by omega,fun j hj=> ?_⟩;rcases Nat.lt_or_ge j i with h1 | h1
     ·exact hno j h1
     ·have:j=i:=(by omega);subst this;exact hc
    ·simp[s8,hw];omega
  ·skip;apply bG
   refine aI (aH ?_);refine aR fun K' hK=> ?_
   simp;apply hK;clear K' hK;apply aF
   simp[au,aG,Post,aW,res1,bF,bC,aP,bg,bf,okT,okA,ok1,rowOf,Tryz.f116];have:chF t par name=none:=by
    unfold chF;rw[List.findIdx?_eq_none_iff];intro d hd;obtain⟨j,hj,rfl⟩:=List.mem_iff_getElem.1 hd;rw[←bZ hj];exact hno j (by omega)
   simp[this,atI]
theorem Iw (t:List Pl) (par:Int) (name:Bs) (hl:t.length<4611686018427387904):CallsOK Tryz.prog 67 [rowT Pl.cells t,iV par,sV name] (iV (atI (chF t par name))) []:=by
 refine aN mixed Tryz.call67 Tryz.func67 rfl (by rw[Tryz.ntmps67];simp) ?_ rfl;rw[Tryz.ntmps67];refine aR fun K' hK=> ?_
 simp;apply hK;clear K' hK;refine aR fun K' hK=> ?_
 simp;refine ak (IZ t par name hl) rfl (by simp) ?_;simp;apply hK;clear K' hK;apply aF
 simp[au,aG,Post,aW,res1,bF,bC,aP,bg,bf,okT,okA,ok1,rowOf,Tryz.f67]
end Go.Proofs.YtmmbgjmigmchbaaGreatDoorAbs
namespace Go.Proofs
open Go.Shelf
def Tryz.lays169_ren:Go.Shelf.Ren:=⟨fun | 169=>214 | n=>n,fun | 70=>213 | 9=>9 | 0=>0 | 72=>216 | 37=>214 | 127=>243 | 3=>3 | 5=>5 | n=>n,fun | n=>n⟩
def Tryz.lays241_ren:Go.Shelf.Ren:=⟨fun | 241=>247 | 277=>270 | n=>n,fun | 70=>213 | 3=>3 | 0=>0 | 72=>216 | 37=>214 | 5=>5 | n=>n,fun | n=>n⟩
def Tryz.lays165_ren:Go.Shelf.Ren:=⟨fun | 165=>212 | 240=>246 | 241=>247 | 276=>269 | 277=>270 | n=>n,fun | 70=>213 | 3=>3 | 0=>0 | 4=>4 | 9=>9 | 20=>20 | 72=>216 | 37=>214 | 164=>262 | 5=>5 | n=>n,fun | n=>n⟩
def Tryz.lays156_ren:Go.Shelf.Ren:=⟨fun | 156=>181 | 165=>212 | 166=>213 | 169=>214 | 240=>246 | 241=>247 | 276=>269 | 277=>270 | n=>n,fun | 31=>97 | 9=>9 | 3=>3 | 4=>4 | 0=>0 | 20=>20 | 72=>216 | 76=>220 | 70=>213 | 37=>214 | 75=>219 | 127=>243 | 164=>262 | 5=>5 | 80=>222 | n=>n,fun | n=>n⟩
theorem Tryz.lays156:Go.Proofs.Lays.n156 Tryz.prog Tryz.lays156_ren:= {
 mixed:=by kernel_rfl
 f156:=Tryz.func181.trans (congrArg some (by kernel_rfl))
 f165:=Tryz.func212.trans (congrArg some (by kernel_rfl))
 f166:=Tryz.func213.trans (congrArg some (by kernel_rfl))
 f169:=Tryz.func214.trans (congrArg some (by kernel_rfl))
 f240:=Tryz.func246.trans (congrArg some (by kernel_rfl))
 f241:=Tryz.func247.trans (congrArg some (by kernel_rfl))
 f276:=Tryz.func269.trans (congrArg some (by kernel_rfl))
 f277:=Tryz.func270.trans (congrArg some (by kernel_rfl))
 t0:=Tryz.underlying0
 a0:=Tryz.isAgg0
 z0:=Tryz.sizeOf0
 v0:=Tryz.zeroValue0
 t3:=Tryz.underlying3
 a3:=Tryz.isAgg3
 z3:=Tryz.sizeOf3
 v3:=Tryz.zeroValue3
 t4:=Tryz.underlying4
 a4:=Tryz.isAgg4
 z4:=Tryz.sizeOf4
 v4:=Tryz.zeroValue4
 t9:=Tryz.underlying9
 a9:=Tryz.isAgg9
 z9:=Tryz.sizeOf9
 v9:=Tryz.zeroValue9
 t20:=Tryz.underlying20
 a20:=Tryz.isAgg20
 z20:=Tryz.sizeOf20
 v20:=Tryz.zeroValue20
 t31:=Tryz.underlying97
 a31:=Tryz.isAgg97
 z31:=Tryz.sizeOf97
 v31:=Tryz.zeroValue97
 t37:=Tryz.underlying214
 a37:=Tryz.isAgg214
 z37:=Tryz.sizeOf214
 v37:=Tryz.zeroValue214
 t70:=Tryz.underlying213
 a70:=Tryz.isAgg213
 z70:=Tryz.sizeOf213
 v70:=Tryz.zeroValue213
 t72:=Tryz.underlying216
 a72:=Tryz.isAgg216
 z72:=Tryz.sizeOf216
 v72:=Tryz.zeroValue216
 t75:=Tryz.underlying219
 a75:=Tryz.isAgg219
 z75:=Tryz.sizeOf219
 v75:=Tryz.zeroValue219
 t76:=Tryz.underlying220
 a76:=Tryz.isAgg220
 z76:=Tryz.sizeOf220
 v76:=Tryz.zeroValue220
 t127:=Tryz.underlying243
 a127:=Tryz.isAgg243
 z127:=Tryz.sizeOf243
 v127:=Tryz.zeroValue243
 t164:=Tryz.underlying262
 a164:=Tryz.isAgg262
 z164:=Tryz.sizeOf262
 v164:=Tryz.zeroValue262}
theorem Tryz.Builder_Extra_156:Builder.Extra Tryz.prog Tryz.lays156_ren:= {
 sizeBuilder:=by kernel_rfl
 liesBuilder:=by kernel_rfl
 t5:=Tryz.underlying5
 a5:=Tryz.isAgg5
 z5:=Tryz.sizeOf5
 v5:=Tryz.zeroValue5
 infoByte:=by kernel_rfl
 cellsByte:=by kernel_rfl
 sizeByte:=by kernel_rfl
 neB5:=by decide}
open Go.RowKit in
theorem Tryz.strings_Join_none (a:Option Addr) (c:Nat) (sep:ByteArray) (w:World):
  Calls Tryz.prog 181 #[.slice a 0 c,.string sep] w fun e w'=>e=.returned (.string ⟨#[]⟩)∧w'=w:=Any.strings_Join_none Tryz.lays156 Tryz.Builder_Extra_156 a c sep w
open Go.RowKit in
theorem Tryz.strings_Join (bk o c:Nat) (xs:List ByteArray) (sep:ByteArray) (w:World) (hcells:∀(j:Nat) x,xs[j]? =some x→w.cell? ⟨bk,o+j,none⟩=some (.string x)) (hbk:bk<w.heap.size) (hN:xs.length≤140737488355328) (hcap:xs.length≤c) (hlen:(Lib.join (xs.map (·.data.toList)) sep.data.toList).length≤140737488355328):
  Calls Tryz.prog 181 #[.slice (some ⟨bk,o,none⟩) xs.length c,.string sep] w fun e w'=>e=.returned (.string ⟨(Lib.join (xs.map (·.data.toList)) sep.data.toList).toArray⟩)∧Below w.heap.size w w':=Any.strings_Join Tryz.lays156 Tryz.Builder_Extra_156 bk o c xs sep w hcells hbk hN hcap hlen
def Tryz.lays231_ren:Go.Shelf.Ren:=⟨fun | 231=>250 | n=>n,fun | 9=>9 | 5=>5 | 3=>3 | 4=>4 | n=>n,fun | n=>n⟩
def Tryz.lays232_ren:Go.Shelf.Ren:=⟨fun | 232=>251 | n=>n,fun | 9=>9 | 5=>5 | 3=>3 | 4=>4 | n=>n,fun | n=>n⟩
def Tryz.EL:Go.Shelf.Ren:=⟨fun | 160=>218 | 232=>251 | 231=>250 | 227=>252 | 234=>254 | 233=>253 | 236=>256 | 235=>255 | 228=>271 | 271=>273 | 151=>272 | 197=>237 | 120=>283 | 152=>282 | 260=>263 | 137=>179 | 119=>287 | 224=>244 | 225=>243 | 217=>210 | 266=>242 | n=>n,fun | 9=>9 | 4=>4 | 3=>3 | 5=>5 | 117=>247 | 116=>246 | 0=>0 | 124=>250 | 21=>21 | 105=>236 | 46=>179 | 119=>274 | 139=>277 | 138=>276 | n=>n,fun | 3=>3 | 4=>4 | n=>n⟩
theorem Tryz.lays160:Go.Proofs.Lays.n160 Tryz.prog Tryz.EL:= {
 mixed:=by kernel_rfl
 f119:=Tryz.func287.trans (congrArg some (by kernel_rfl))
 f120:=Tryz.func283.trans (congrArg some (by kernel_rfl))
 f137:=Tryz.func179.trans (congrArg some (by kernel_rfl))
 f151:=Tryz.func272.trans (congrArg some (by kernel_rfl))
 f152:=Tryz.func282.trans (congrArg some (by kernel_rfl))
 f160:=Tryz.func218.trans (congrArg some (by kernel_rfl))
 f197:=Tryz.func237.trans (congrArg some (by kernel_rfl))
 f217:=Tryz.func210.trans (congrArg some (by kernel_rfl))
 f224:=Tryz.func244.trans (congrArg some (by kernel_rfl))
 f225:=Tryz.func243.trans (congrArg some (by kernel_rfl))
 f227:=Tryz.func252.trans (congrArg some (by kernel_rfl))
 f228:=Tryz.func271.trans (congrArg some (by kernel_rfl))
 f231:=Tryz.func250.trans (congrArg some (by kernel_rfl))
 f232:=Tryz.func251.trans (congrArg some (by kernel_rfl))
 f233:=Tryz.func253.trans (congrArg some (by kernel_rfl))
 f234:=Tryz.func254.trans (congrArg some (by kernel_rfl))
 f235:=Tryz.func255.trans (congrArg some (by kernel_rfl))
 f236:=Tryz.func256.trans (congrArg some (by kernel_rfl))
 f260:=Tryz.func263.trans (congrArg some (by kernel_rfl))
 f266:=Tryz.func242.trans (congrArg some (by kernel_rfl))
 f271:=Tryz.func273.trans (congrArg some (by kernel_rfl))
 t0:=Tryz.underlying0
 a0:=Tryz.isAgg0
 z0:=Tryz.sizeOf0
 v0:=Tryz.zeroValue0
 t3:=Tryz.underlying3
 a3:=Tryz.isAgg3
 z3:=Tryz.sizeOf3
 v3:=Tryz.zeroValue3
 t4:=Tryz.underlying4
 a4:=Tryz.isAgg4
 z4:=Tryz.sizeOf4
 v4:=Tryz.zeroValue4
 t5:=Tryz.underlying5
 a5:=Tryz.isAgg5
 z5:=Tryz.sizeOf5
 v5:=Tryz.zeroValue5
 t9:=Tryz.underlying9
 a9:=Tryz.isAgg9
 z9:=Tryz.sizeOf9
 v9:=Tryz.zeroValue9
 t21:=Tryz.underlying21
 a21:=Tryz.isAgg21
 z21:=Tryz.sizeOf21
 v21:=Tryz.zeroValue21
 t46:=Tryz.underlying179
 a46:=Tryz.isAgg179
 z46:=Tryz.sizeOf179
 v46:=Tryz.zeroValue179
 t105:=Tryz.underlying236
 a105:=Tryz.isAgg236
 z105:=Tryz.sizeOf236
 v105:=Tryz.zeroValue236
 t116:=Tryz.underlying246
 a116:=Tryz.isAgg246
 z116:=Tryz.sizeOf246
 t117:=Tryz.underlying247
 a117:=Tryz.isAgg247
 z117:=Tryz.sizeOf247
 v117:=Tryz.zeroValue247
 t119:=Tryz.underlying274
 a119:=Tryz.isAgg274
 z119:=Tryz.sizeOf274
 t124:=Tryz.underlying250
 a124:=Tryz.isAgg250
 z124:=Tryz.sizeOf250
 v124:=Tryz.zeroValue250
 t138:=Tryz.underlying276
 a138:=Tryz.isAgg276
 z138:=Tryz.sizeOf276
 v138:=Tryz.zeroValue276
 t139:=Tryz.underlying277
 a139:=Tryz.isAgg277
 z139:=Tryz.sizeOf277
 v139:=Tryz.zeroValue277
 g3:=by kernel_rfl
 g4:=by kernel_rfl}
def Tryz.lays119_ren:Go.Shelf.Ren:=⟨fun | 119=>287 | n=>n,fun | 21=>21 | 4=>4 | n=>n,fun | n=>n⟩
def Tryz.lays120_ren:Go.Shelf.Ren:=⟨fun | 120=>283 | n=>n,fun | 5=>5 | 4=>4 | n=>n,fun | n=>n⟩
def Tryz.lays128_ren:Go.Shelf.Ren:=⟨fun | 128=>194 | n=>n,fun | 51=>205 | 3=>3 | 4=>4 | 46=>179 | 5=>5 | 9=>9 | n=>n,fun | n=>n⟩
def Tryz.Ea:Go.Shelf.Ren:=⟨fun | 125=>152 | 128=>194 | 129=>195 | n=>n,fun | 46=>179 | 3=>3 | 51=>205 | 53=>207 | 4=>4 | 5=>5 | 9=>9 | n=>n,fun | n=>n⟩
theorem Tryz.lays125:Go.Proofs.Lays.n125 Tryz.prog Tryz.Ea:= {
 mixed:=by kernel_rfl
 f125:=Tryz.func152.trans (congrArg some (by kernel_rfl))
 f128:=Tryz.func194.trans (congrArg some (by kernel_rfl))
 f129:=Tryz.func195.trans (congrArg some (by kernel_rfl))
 t3:=Tryz.underlying3
 a3:=Tryz.isAgg3
 z3:=Tryz.sizeOf3
 v3:=Tryz.zeroValue3
 t4:=Tryz.underlying4
 a4:=Tryz.isAgg4
 z4:=Tryz.sizeOf4
 v4:=Tryz.zeroValue4
 t5:=Tryz.underlying5
 a5:=Tryz.isAgg5
 z5:=Tryz.sizeOf5
 v5:=Tryz.zeroValue5
 t9:=Tryz.underlying9
 a9:=Tryz.isAgg9
 z9:=Tryz.sizeOf9
 v9:=Tryz.zeroValue9
 t46:=Tryz.underlying179
 a46:=Tryz.isAgg179
 z46:=Tryz.sizeOf179
 v46:=Tryz.zeroValue179
 t51:=Tryz.underlying205
 a51:=Tryz.isAgg205
 z51:=Tryz.sizeOf205
 v51:=Tryz.zeroValue205
 t53:=Tryz.underlying207
 a53:=Tryz.isAgg207
 z53:=Tryz.sizeOf207
 v53:=Tryz.zeroValue207}
theorem Tryz.bits_Len (x:Int) (w:World) (h0:0≤x) (h1:x≤18446744073709551615):
  Calls Tryz.prog 152 #[.int .u64 x] w fun e w'=>e=.returned (.int .i64 (Lib.bitLen x.toNat))∧w'=w:=Any.bits_Len Tryz.lays125 x w h0 h1
def Tryz.EY:Go.Shelf.Ren:=⟨fun | 137=>179 | 217=>210 | 266=>242 | n=>n,fun | 9=>9 | 5=>5 | 3=>3 | n=>n,fun | n=>n⟩
theorem Tryz.lays137:Go.Proofs.Lays.n137 Tryz.prog Tryz.EY:= {
 mixed:=by kernel_rfl
 f137:=Tryz.func179.trans (congrArg some (by kernel_rfl))
 f217:=Tryz.func210.trans (congrArg some (by kernel_rfl))
 f266:=Tryz.func242.trans (congrArg some (by kernel_rfl))
 t3:=Tryz.underlying3
 a3:=Tryz.isAgg3
 z3:=Tryz.sizeOf3
 v3:=Tryz.zeroValue3
 t5:=Tryz.underlying5
 a5:=Tryz.isAgg5
 z5:=Tryz.sizeOf5
 v5:=Tryz.zeroValue5
 t9:=Tryz.underlying9
 a9:=Tryz.isAgg9
 z9:=Tryz.sizeOf9
 v9:=Tryz.zeroValue9}
open Go.RowKit in
theorem Tryz.strings_IndexByte (s:ByteArray) (c:Int) (w:World):
  Calls Tryz.prog 179 #[.string s,.int .u8 c] w fun e w'=>e=.returned (.int .i64 (Lib.indexByte s.data.toList c.toNat.toUInt8))∧w'=w:=Any.strings_IndexByte Tryz.lays137 s c w
def Tryz.lays210_ren:Go.Shelf.Ren:=⟨fun | 210=>178 | 206=>209 | n=>n,fun | 9=>9 | 4=>4 | 3=>3 | n=>n,fun | n=>n⟩
def Tryz.FK:Go.Shelf.Ren:=⟨fun | 103=>140 | 210=>178 | 206=>209 | n=>n,fun | 9=>9 | 4=>4 | 24=>137 | 3=>3 | n=>n,fun | n=>n⟩
theorem Tryz.Rw:Go.Proofs.Lays.n103 Tryz.prog Tryz.FK:= {
 mixed:=by kernel_rfl
 f103:=Tryz.func140.trans (congrArg some (by kernel_rfl))
 f206:=Tryz.func209.trans (congrArg some (by kernel_rfl))
 f210:=Tryz.func178.trans (congrArg some (by kernel_rfl))
 t3:=Tryz.underlying3
 a3:=Tryz.isAgg3
 z3:=Tryz.sizeOf3
 v3:=Tryz.zeroValue3
 t4:=Tryz.underlying4
 a4:=Tryz.isAgg4
 z4:=Tryz.sizeOf4
 v4:=Tryz.zeroValue4
 t9:=Tryz.underlying9
 a9:=Tryz.isAgg9
 z9:=Tryz.sizeOf9
 v9:=Tryz.zeroValue9
 t24:=Tryz.underlying137
 a24:=Tryz.isAgg137
 z24:=Tryz.sizeOf137
 v24:=Tryz.zeroValue137}
open Go.RowKit in
theorem Tryz.strings_CutPrefix (s p:ByteArray) (w:World):
  Calls Tryz.prog 140 #[.string s,.string p] w fun e w'=>e=.returned (.tuple #[.string ⟨(Lib.trimPrefix s.data.toList p.data.toList).toArray⟩,.bool (Lib.hasPrefix s.data.toList p.data.toList)])∧w'=w:=Any.strings_CutPrefix Tryz.Rw s p w
def Tryz.lays215_ren:Go.Shelf.Ren:=⟨fun | 215=>182 | n=>n,fun | 3=>3 | 4=>4 | n=>n,fun | n=>n⟩
def Tryz.lays122_ren:Go.Shelf.Ren:=⟨fun | 122=>146 | 215=>182 | n=>n,fun | 3=>3 | 4=>4 | n=>n,fun | n=>n⟩
def Tryz.lays195_ren:Go.Shelf.Ren:=⟨fun | 195=>248 | n=>n,fun | 9=>9 | 3=>3 | 0=>0 | 4=>4 | n=>n,fun | n=>n⟩
def Tryz.lays244_ren:Go.Shelf.Ren:=⟨fun | 244=>257 | 247=>274 | 287=>284 | 321=>288 | 322=>289 | n=>n,fun | 9=>9 | 3=>3 | 75=>219 | 4=>4 | 5=>5 | 167=>267 | 37=>214 | 0=>0 | 85=>268 | 2=>2 | 53=>207 | 175=>279 | 46=>179 | 21=>21 | 80=>222 | n=>n,fun | n=>n⟩
def Tryz.lays172_ren:Go.Shelf.Ren:=⟨fun | 172=>219 | 244=>257 | 245=>258 | 247=>274 | 279=>275 | 280=>276 | 281=>277 | 282=>278 | 287=>284 | 316=>285 | 171=>139 | 205=>286 | 321=>288 | 322=>289 | 243=>177 | 246=>208 | 283=>238 | 284=>239 | 285=>240 | 286=>241 | 129=>195 | 317=>264 | 318=>265 | 319=>266 | 320=>267 | 337=>280 | 338=>281 | n=>n,fun | 9=>9 | 3=>3 | 75=>219 | 76=>220 | 4=>4 | 5=>5 | 167=>267 | 37=>214 | 0=>0 | 85=>268 | 2=>2 | 168=>270 | 53=>207 | 175=>279 | 46=>179 | 210=>283 | 127=>243 | 145=>291 | 143=>289 | 21=>21 | 171=>238 | 173=>240 | 212=>258 | 51=>205 | 20=>20 | 213=>259 | 232=>285 | 233=>286 | 80=>222 | n=>n,fun | 15=>5 | 16=>6 | 17=>2 | 18=>7 | 19=>8 | n=>n⟩
def Tryz.lays129_ren:Go.Shelf.Ren:=⟨fun | 129=>195 | n=>n,fun | 53=>207 | 3=>3 | 4=>4 | 46=>179 | 5=>5 | 9=>9 | n=>n,fun | n=>n⟩
def Tryz.lays317_ren:Go.Shelf.Ren:=⟨fun | 317=>264 | n=>n,fun | 3=>3 | 46=>179 | n=>n,fun | n=>n⟩
def Tryz.lays318_ren:Go.Shelf.Ren:=⟨fun | 318=>265 | n=>n,fun | 3=>3 | 4=>4 | n=>n,fun | n=>n⟩
def Tryz.lays283_ren:Go.Shelf.Ren:=⟨fun | 283=>238 | n=>n,fun | 3=>3 | 9=>9 | 4=>4 | n=>n,fun | n=>n⟩
def Tryz.laysM284_ren:Go.Shelf.Ren:=⟨fun | 284=>239 | 129=>195 | 317=>264 | 318=>265 | n=>n,fun | 53=>207 | 3=>3 | 212=>258 | 0=>0 | 4=>4 | 46=>179 | 5=>5 | 9=>9 | n=>n,fun | 17=>2 | n=>n⟩
def Tryz.lays285_ren:Go.Shelf.Ren:=⟨fun | 285=>240 | n=>n,fun | 37=>214 | 53=>207 | 3=>3 | 4=>4 | 51=>205 | 9=>9 | 5=>5 | 0=>0 | n=>n,fun | n=>n⟩
def Tryz.laysM246_ren:Go.Shelf.Ren:=⟨fun | 246=>208 | 283=>238 | 284=>239 | 285=>240 | 286=>241 | 129=>195 | 317=>264 | 318=>265 | 319=>266 | 320=>267 | 337=>280 | 338=>281 | n=>n,fun | 2=>2 | 3=>3 | 9=>9 | 4=>4 | 171=>238 | 0=>0 | 53=>207 | 37=>214 | 5=>5 | 173=>240 | 212=>258 | 51=>205 | 20=>20 | 213=>259 | 46=>179 | 232=>285 | 233=>286 | n=>n,fun | 17=>2 | 18=>7 | 19=>8 | n=>n⟩
def Tryz.lays246_ren:Go.Shelf.Ren:=⟨fun | 246=>208 | 283=>238 | 284=>239 | 285=>240 | 286=>241 | 129=>195 | 317=>264 | 318=>265 | 319=>266 | 320=>267 | 337=>280 | 338=>281 | n=>n,fun | 2=>2 | 3=>3 | 9=>9 | 4=>4 | 171=>238 | 0=>0 | 53=>207 | 37=>214 | 5=>5 | 173=>240 | 212=>258 | 51=>205 | 20=>20 | 213=>259 | 46=>179 | 232=>285 | 233=>286 | n=>n,fun | 17=>2 | 18=>7 | 19=>8 | n=>n⟩
def Tryz.laysM243_ren:Go.Shelf.Ren:=⟨fun | 243=>177 | 246=>208 | 283=>238 | 284=>239 | 285=>240 | 286=>241 | 129=>195 | 317=>264 | 318=>265 | 319=>266 | 320=>267 | 337=>280 | 338=>281 | n=>n,fun | 3=>3 | 9=>9 | 2=>2 | 4=>4 | 171=>238 | 0=>0 | 53=>207 | 37=>214 | 5=>5 | 173=>240 | 212=>258 | 51=>205 | 20=>20 | 213=>259 | 46=>179 | 232=>285 | 233=>286 | n=>n,fun | 17=>2 | 18=>7 | 19=>8 | n=>n⟩
def Tryz.lays243_ren:Go.Shelf.Ren:=⟨fun | 243=>177 | 246=>208 | 283=>238 | 284=>239 | 285=>240 | 286=>241 | 129=>195 | 317=>264 | 318=>265 | 319=>266 | 320=>267 | 337=>280 | 338=>281 | n=>n,fun | 3=>3 | 9=>9 | 2=>2 | 4=>4 | 171=>238 | 0=>0 | 53=>207 | 37=>214 | 5=>5 | 173=>240 | 212=>258 | 51=>205 | 20=>20 | 213=>259 | 46=>179 | 232=>285 | 233=>286 | n=>n,fun | 17=>2 | 18=>7 | 19=>8 | n=>n⟩
def Tryz.Bh:Go.Shelf.Ren:=⟨fun | 171=>139 | 243=>177 | 246=>208 | 283=>238 | 284=>239 | 285=>240 | 286=>241 | 129=>195 | 317=>264 | 318=>265 | 319=>266 | 320=>267 | 337=>280 | 338=>281 | n=>n,fun | 3=>3 | 9=>9 | 2=>2 | 4=>4 | 171=>238 | 0=>0 | 53=>207 | 37=>214 | 5=>5 | 173=>240 | 212=>258 | 51=>205 | 20=>20 | 213=>259 | 46=>179 | 232=>285 | 233=>286 | n=>n,fun | 17=>2 | 18=>7 | 19=>8 | n=>n⟩
theorem Tryz.laysM171:Go.Proofs.LaysM.n171 Tryz.prog Tryz.Bh:= {
 mixed:=by kernel_rfl
 f129:=Tryz.func195.trans (congrArg some (by kernel_rfl))
 f171:=Tryz.func139.trans (congrArg some (by kernel_rfl))
 f243:=Tryz.func177.trans (congrArg some (by kernel_rfl))
 f246:=Tryz.func208.trans (congrArg some (by kernel_rfl))
 f283:=Tryz.func238.trans (congrArg some (by kernel_rfl))
 f284:=Tryz.func239.trans (congrArg some (by kernel_rfl))
 f285:=Tryz.func240.trans (congrArg some (by kernel_rfl))
 f286:=Tryz.func241.trans (congrArg some (by kernel_rfl))
 f317:=Tryz.func264.trans (congrArg some (by kernel_rfl))
 f318:=Tryz.func265.trans (congrArg some (by kernel_rfl))
 f319:=Tryz.func266.trans (congrArg some (by kernel_rfl))
 f320:=Tryz.func267.trans (congrArg some (by kernel_rfl))
 f337:=Tryz.func280.trans (congrArg some (by kernel_rfl))
 f338:=Tryz.func281.trans (congrArg some (by kernel_rfl))
 t0:=Tryz.underlying0
 a0:=Tryz.isAgg0
 z0:=Tryz.sizeOf0
 v0:=Tryz.zeroValue0
 t2:=Tryz.underlying2
 a2:=Tryz.isAgg2
 z2:=Tryz.sizeOf2
 v2:=Tryz.zeroValue2
 t3:=Tryz.underlying3
 a3:=Tryz.isAgg3
 z3:=Tryz.sizeOf3
 v3:=Tryz.zeroValue3
 t4:=Tryz.underlying4
 a4:=Tryz.isAgg4
 z4:=Tryz.sizeOf4
 v4:=Tryz.zeroValue4
 t5:=Tryz.underlying5
 a5:=Tryz.isAgg5
 z5:=Tryz.sizeOf5
 v5:=Tryz.zeroValue5
 t9:=Tryz.underlying9
 a9:=Tryz.isAgg9
 z9:=Tryz.sizeOf9
 v9:=Tryz.zeroValue9
 t20:=Tryz.underlying20
 a20:=Tryz.isAgg20
 z20:=Tryz.sizeOf20
 v20:=Tryz.zeroValue20
 t37:=Tryz.underlying214
 a37:=Tryz.isAgg214
 z37:=Tryz.sizeOf214
 v37:=Tryz.zeroValue214
 t46:=Tryz.underlying179
 a46:=Tryz.isAgg179
 z46:=Tryz.sizeOf179
 v46:=Tryz.zeroValue179
 t51:=Tryz.underlying205
 a51:=Tryz.isAgg205
 z51:=Tryz.sizeOf205
 v51:=Tryz.zeroValue205
 t53:=Tryz.underlying207
 a53:=Tryz.isAgg207
 z53:=Tryz.sizeOf207
 v53:=Tryz.zeroValue207
 t171:=Tryz.underlying238
 a171:=Tryz.isAgg238
 z171:=Tryz.sizeOf238
 v171:=Tryz.zeroValue238
 t173:=Tryz.underlying240
 a173:=Tryz.isAgg240
 z173:=Tryz.sizeOf240
 v173:=Tryz.zeroValue240
 t212:=Tryz.underlying258
 a212:=Tryz.isAgg258
 z212:=Tryz.sizeOf258
 v212:=Tryz.zeroValue258
 t213:=Tryz.underlying259
 a213:=Tryz.isAgg259
 z213:=Tryz.sizeOf259
 t232:=Tryz.underlying285
 a232:=Tryz.isAgg285
 z232:=Tryz.sizeOf285
 v232:=Tryz.zeroValue285
 t233:=Tryz.underlying286
 a233:=Tryz.isAgg286
 z233:=Tryz.sizeOf286
 v233:=Tryz.zeroValue286
 g17:=by kernel_rfl
 g18:=by kernel_rfl
 g19:=by kernel_rfl
 i0:=by kernel_rfl
 i2:=by kernel_rfl
 i3:=by kernel_rfl
 i4:=by kernel_rfl
 i5:=by kernel_rfl
 i9:=by kernel_rfl
 i20:=by kernel_rfl
 i37:=by kernel_rfl
 i46:=by kernel_rfl
 i51:=by kernel_rfl
 i53:=by kernel_rfl
 i171:=by kernel_rfl
 i173:=by kernel_rfl
 i212:=by kernel_rfl
 i232:=by kernel_rfl
 i233:=by kernel_rfl
 m17:=by kernel_rfl
 m18:=by kernel_rfl
 m19:=by kernel_rfl}
open Go.RowKit Go.Sort Go.Lib in
theorem Tryz.strconv_Itoa (n:Int) (h0: -9223372036854775808≤n) (h1:n≤9223372036854775807) (w:World) (htab:Lib.TabIs Tryz.prog w "internal/strconv.uint64pow10" .u64 Lib.pow10Tab):
  Calls Tryz.prog 139 #[.int .i64 n] w fun e w'=>e=.returned (.string ⟨(Lib.itoa n).toArray⟩)∧∃k os,w'=grow (w.drewN k) os:=Any.strconv_Itoa Tryz.laysM171 n h0 h1 w htab
def Tryz.lays171_ren:Go.Shelf.Ren:=⟨fun | 171=>139 | 243=>177 | 246=>208 | 283=>238 | 284=>239 | 285=>240 | 286=>241 | 129=>195 | 317=>264 | 318=>265 | 319=>266 | 320=>267 | 337=>280 | 338=>281 | n=>n,fun | 3=>3 | 9=>9 | 2=>2 | 4=>4 | 171=>238 | 0=>0 | 53=>207 | 37=>214 | 5=>5 | 173=>240 | 212=>258 | 51=>205 | 20=>20 | 213=>259 | 46=>179 | 232=>285 | 233=>286 | n=>n,fun | 17=>2 | 18=>7 | 19=>8 | n=>n⟩
def Tryz.lays247_ren:Go.Shelf.Ren:=⟨fun | 247=>274 | 287=>284 | 321=>288 | 322=>289 | n=>n,fun | 9=>9 | 3=>3 | 2=>2 | 75=>219 | 4=>4 | 167=>267 | 5=>5 | 53=>207 | 175=>279 | 46=>179 | 37=>214 | 0=>0 | 21=>21 | 80=>222 | n=>n,fun | n=>n⟩
def Tryz.laysM316_ren:Go.Shelf.Ren:=⟨fun | 316=>285 | n=>n,fun | 9=>9 | 3=>3 | 4=>4 | 37=>214 | 0=>0 | 127=>243 | 5=>5 | n=>n,fun | n=>n⟩
def Tryz.laysM279_ren:Go.Shelf.Ren:=⟨fun | 279=>275 | 316=>285 | n=>n,fun | 9=>9 | 168=>270 | 75=>219 | 210=>283 | 3=>3 | 4=>4 | 37=>214 | 0=>0 | 127=>243 | 80=>222 | 5=>5 | n=>n,fun | 15=>5 | n=>n⟩
def Tryz.laysC245_ren:Go.Shelf.Ren:=⟨fun | 245=>258 | 279=>275 | 280=>276 | 281=>277 | 282=>278 | 316=>285 | 171=>139 | 205=>286 | 243=>177 | 246=>208 | 283=>238 | 284=>239 | 285=>240 | 286=>241 | 129=>195 | 317=>264 | 318=>265 | 319=>266 | 320=>267 | 337=>280 | 338=>281 | n=>n,fun | 9=>9 | 3=>3 | 75=>219 | 167=>267 | 4=>4 | 168=>270 | 210=>283 | 37=>214 | 0=>0 | 127=>243 | 145=>291 | 143=>289 | 2=>2 | 171=>238 | 53=>207 | 5=>5 | 173=>240 | 212=>258 | 51=>205 | 20=>20 | 213=>259 | 46=>179 | 232=>285 | 233=>286 | 80=>222 | n=>n,fun | 15=>5 | 16=>6 | 17=>2 | 18=>7 | 19=>8 | n=>n⟩
def Tryz.lays321_ren:Go.Shelf.Ren:=⟨fun | 321=>288 | n=>n,fun | 5=>5 | n=>n,fun | n=>n⟩
def Tryz.lays287_ren:Go.Shelf.Ren:=⟨fun | 287=>284 | 321=>288 | 322=>289 | n=>n,fun | 9=>9 | 3=>3 | 53=>207 | 75=>219 | 4=>4 | 167=>267 | 5=>5 | 46=>179 | 37=>214 | 0=>0 | 21=>21 | 80=>222 | n=>n,fun | n=>n⟩
def Tryz.laysC247_ren:Go.Shelf.Ren:=⟨fun | 247=>274 | 287=>284 | 321=>288 | 322=>289 | n=>n,fun | 9=>9 | 3=>3 | 2=>2 | 75=>219 | 4=>4 | 167=>267 | 5=>5 | 53=>207 | 175=>279 | 46=>179 | 37=>214 | 0=>0 | 21=>21 | 80=>222 | n=>n,fun | n=>n⟩
def Tryz.laysC244_ren:Go.Shelf.Ren:=⟨fun | 244=>257 | 247=>274 | 287=>284 | 321=>288 | 322=>289 | n=>n,fun | 9=>9 | 3=>3 | 75=>219 | 4=>4 | 5=>5 | 167=>267 | 37=>214 | 0=>0 | 85=>268 | 2=>2 | 53=>207 | 175=>279 | 46=>179 | 21=>21 | 80=>222 | n=>n,fun | n=>n⟩
def Tryz.laysM280_ren:Go.Shelf.Ren:=⟨fun | 280=>276 | 316=>285 | n=>n,fun | 9=>9 | 168=>270 | 75=>219 | 210=>283 | 3=>3 | 4=>4 | 37=>214 | 0=>0 | 127=>243 | 80=>222 | 5=>5 | n=>n,fun | 16=>6 | n=>n⟩
def Tryz.Dh:Go.Shelf.Ren:=⟨fun | 172=>219 | 244=>257 | 245=>258 | 247=>274 | 279=>275 | 280=>276 | 281=>277 | 282=>278 | 287=>284 | 316=>285 | 171=>139 | 205=>286 | 321=>288 | 322=>289 | 243=>177 | 246=>208 | 283=>238 | 284=>239 | 285=>240 | 286=>241 | 129=>195 | 317=>264 | 318=>265 | 319=>266 | 320=>267 | 337=>280 | 338=>281 | n=>n,fun | 9=>9 | 3=>3 | 75=>219 | 76=>220 | 4=>4 | 5=>5 | 167=>267 | 37=>214 | 0=>0 | 85=>268 | 2=>2 | 168=>270 | 53=>207 | 175=>279 | 46=>179 | 210=>283 | 127=>243 | 145=>291 | 143=>289 | 21=>21 | 171=>238 | 173=>240 | 212=>258 | 51=>205 | 20=>20 | 213=>259 | 232=>285 | 233=>286 | 80=>222 | n=>n,fun | 15=>5 | 16=>6 | 17=>2 | 18=>7 | 19=>8 | n=>n⟩
theorem Tryz.laysC172:Go.Proofs.LaysC.n172 Tryz.prog Tryz.Dh:= {
 mixed:=by kernel_rfl
 f129:=Tryz.func195.trans (congrArg some (by kernel_rfl))
 f171:=Tryz.func139.trans (congrArg some (by kernel_rfl))
 f172:=Tryz.func219.trans (congrArg some (by kernel_rfl))
 f205:=Tryz.func286.trans (congrArg some (by kernel_rfl))
 f243:=Tryz.func177.trans (congrArg some (by kernel_rfl))
 f244:=Tryz.func257.trans (congrArg some (by kernel_rfl))
 f245:=Tryz.func258.trans (congrArg some (by kernel_rfl))
 f246:=Tryz.func208.trans (congrArg some (by kernel_rfl))
 f247:=Tryz.func274.trans (congrArg some (by kernel_rfl))
 f279:=Tryz.func275.trans (congrArg some (by kernel_rfl))
 f280:=Tryz.func276.trans (congrArg some (by kernel_rfl))
 f281:=Tryz.func277.trans (congrArg some (by kernel_rfl))
 f282:=Tryz.func278.trans (congrArg some (by kernel_rfl))
 f283:=Tryz.func238.trans (congrArg some (by kernel_rfl))
 f284:=Tryz.func239.trans (congrArg some (by kernel_rfl))
 f285:=Tryz.func240.trans (congrArg some (by kernel_rfl))
 f286:=Tryz.func241.trans (congrArg some (by kernel_rfl))
 f287:=Tryz.func284.trans (congrArg some (by kernel_rfl))
 f316:=Tryz.func285.trans (congrArg some (by kernel_rfl))
 f317:=Tryz.func264.trans (congrArg some (by kernel_rfl))
 f318:=Tryz.func265.trans (congrArg some (by kernel_rfl))
 f319:=Tryz.func266.trans (congrArg some (by kernel_rfl))
 f320:=Tryz.func267.trans (congrArg some (by kernel_rfl))
 f321:=Tryz.func288.trans (congrArg some (by kernel_rfl))
 f322:=Tryz.func289.trans (congrArg some (by kernel_rfl))
 f337:=Tryz.func280.trans (congrArg some (by kernel_rfl))
 f338:=Tryz.func281.trans (congrArg some (by kernel_rfl))
 t0:=Tryz.underlying0
 a0:=Tryz.isAgg0
 z0:=Tryz.sizeOf0
 v0:=Tryz.zeroValue0
 t2:=Tryz.underlying2
 a2:=Tryz.isAgg2
 z2:=Tryz.sizeOf2
 v2:=Tryz.zeroValue2
 t3:=Tryz.underlying3
 a3:=Tryz.isAgg3
 z3:=Tryz.sizeOf3
 v3:=Tryz.zeroValue3
 t4:=Tryz.underlying4
 a4:=Tryz.isAgg4
 z4:=Tryz.sizeOf4
 v4:=Tryz.zeroValue4
 t5:=Tryz.underlying5
 a5:=Tryz.isAgg5
 z5:=Tryz.sizeOf5
 v5:=Tryz.zeroValue5
 t9:=Tryz.underlying9
 a9:=Tryz.isAgg9
 z9:=Tryz.sizeOf9
 v9:=Tryz.zeroValue9
 t20:=Tryz.underlying20
 a20:=Tryz.isAgg20
 z20:=Tryz.sizeOf20
 v20:=Tryz.zeroValue20
 t21:=Tryz.underlying21
 a21:=Tryz.isAgg21
 z21:=Tryz.sizeOf21
 v21:=Tryz.zeroValue21
 t37:=Tryz.underlying214
 a37:=Tryz.isAgg214
 z37:=Tryz.sizeOf214
 v37:=Tryz.zeroValue214
 t46:=Tryz.underlying179
 a46:=Tryz.isAgg179
 z46:=Tryz.sizeOf179
 v46:=Tryz.zeroValue179
 t51:=Tryz.underlying205
 a51:=Tryz.isAgg205
 z51:=Tryz.sizeOf205
 v51:=Tryz.zeroValue205
 t53:=Tryz.underlying207
 a53:=Tryz.isAgg207
 z53:=Tryz.sizeOf207
 v53:=Tryz.zeroValue207
 t75:=Tryz.underlying219
 a75:=Tryz.isAgg219
 z75:=Tryz.sizeOf219
 v75:=Tryz.zeroValue219
 t76:=Tryz.underlying220
 a76:=Tryz.isAgg220
 z76:=Tryz.sizeOf220
 v76:=Tryz.zeroValue220
 t85:=Tryz.underlying268
 a85:=Tryz.isAgg268
 z85:=Tryz.sizeOf268
 v85:=Tryz.zeroValue268
 t127:=Tryz.underlying243
 a127:=Tryz.isAgg243
 z127:=Tryz.sizeOf243
 v127:=Tryz.zeroValue243
 t143:=Tryz.underlying289
 a143:=Tryz.isAgg289
 z143:=Tryz.sizeOf289
 v143:=Tryz.zeroValue289
 t145:=Tryz.underlying291
 a145:=Tryz.isAgg291
 z145:=Tryz.sizeOf291
 v145:=Tryz.zeroValue291
 t167:=Tryz.underlying267
 a167:=Tryz.isAgg267
 z167:=Tryz.sizeOf267
 v167:=Tryz.zeroValue267
 t168:=Tryz.underlying270
 a168:=Tryz.isAgg270
 z168:=Tryz.sizeOf270
 v168:=Tryz.zeroValue270
 t171:=Tryz.underlying238
 a171:=Tryz.isAgg238
 z171:=Tryz.sizeOf238
 v171:=Tryz.zeroValue238
 t173:=Tryz.underlying240
 a173:=Tryz.isAgg240
 z173:=Tryz.sizeOf240
 v173:=Tryz.zeroValue240
 t175:=Tryz.underlying279
 a175:=Tryz.isAgg279
 z175:=Tryz.sizeOf279
 v175:=Tryz.zeroValue279
 t210:=Tryz.underlying283
 a210:=Tryz.isAgg283
 z210:=Tryz.sizeOf283
 v210:=Tryz.zeroValue283
 t212:=Tryz.underlying258
 a212:=Tryz.isAgg258
 z212:=Tryz.sizeOf258
 v212:=Tryz.zeroValue258
 t213:=Tryz.underlying259
 a213:=Tryz.isAgg259
 z213:=Tryz.sizeOf259
 t232:=Tryz.underlying285
 a232:=Tryz.isAgg285
 z232:=Tryz.sizeOf285
 v232:=Tryz.zeroValue285
 t233:=Tryz.underlying286
 a233:=Tryz.isAgg286
 z233:=Tryz.sizeOf286
 v233:=Tryz.zeroValue286
 g15:=by kernel_rfl
 g16:=by kernel_rfl
 g17:=by kernel_rfl
 g18:=by kernel_rfl
 g19:=by kernel_rfl
 t80:=Tryz.underlying222
 a80:=Tryz.isAgg222
 z80:=Tryz.sizeOf222
 v80:=Tryz.zeroValue222
 i0:=by kernel_rfl
 i2:=by kernel_rfl
 i3:=by kernel_rfl
 i4:=by kernel_rfl
 i5:=by kernel_rfl
 i9:=by kernel_rfl
 i20:=by kernel_rfl
 i21:=by kernel_rfl
 i37:=by kernel_rfl
 i46:=by kernel_rfl
 i51:=by kernel_rfl
 i53:=by kernel_rfl
 i75:=by kernel_rfl
 i76:=by kernel_rfl
 i80:=by kernel_rfl
 i85:=by kernel_rfl
 i127:=by kernel_rfl
 i143:=by kernel_rfl
 i145:=by kernel_rfl
 i167:=by kernel_rfl
 i168:=by kernel_rfl
 i171:=by kernel_rfl
 i173:=by kernel_rfl
 i175:=by kernel_rfl
 i210:=by kernel_rfl
 i212:=by kernel_rfl
 i232:=by kernel_rfl
 i233:=by kernel_rfl
 m15:=by kernel_rfl
 m16:=by kernel_rfl
 m17:=by kernel_rfl
 m18:=by kernel_rfl
 m19:=by kernel_rfl
 c0:=by kernel_rfl
 c2:=by kernel_rfl
 c3:=by kernel_rfl
 c4:=by kernel_rfl
 c5:=by kernel_rfl
 c9:=by kernel_rfl
 c20:=by kernel_rfl
 c21:=by kernel_rfl
 c37:=by kernel_rfl
 c46:=by kernel_rfl
 c51:=by kernel_rfl
 c53:=by kernel_rfl
 c75:=by kernel_rfl
 c76:=by kernel_rfl
 c80:=by kernel_rfl
 c85:=by kernel_rfl
 c127:=by kernel_rfl
 c143:=by kernel_rfl
 c145:=by kernel_rfl
 c167:=by kernel_rfl
 c168:=by kernel_rfl
 c171:=by kernel_rfl
 c173:=by kernel_rfl
 c175:=by kernel_rfl
 c210:=by kernel_rfl
 c212:=by kernel_rfl
 c213:=by kernel_rfl
 c232:=by kernel_rfl
 c233:=by kernel_rfl}
open Go.RowKit in
theorem Tryz.strconv_Atoi_ok (s:ByteArray) (hmax:s.size≤9223372036854775806) (v:Int) (h:Lib.atoiAll s.data.toList=.ok v) (w:World):
  Calls Tryz.prog 219 #[.string s] w fun e w'=>e=.returned (.tuple #[.int .i64 v,.nilIface])∧(w'=w∨∃t,w'=Lib.bytesWorld w 5 t):=Any.strconv_Atoi_ok Tryz.laysC172 s hmax v h w
open Go.RowKit in
theorem Tryz.strconv_Atoi_syntax_var (s:ByteArray) (hlim:s.size≤281474976710656) (h:Lib.atoiAll s.data.toList=(Lib.atoiAll [])) (tp:TypeId) (p:Value) (w:World) (hvar:w.var? Tryz.prog "strconv.ErrSyntax"=some #[.iface tp p]):
  Calls Tryz.prog 219 #[.string s] w fun e w'=>∃N,e=.returned (.tuple #[.int .i64 0,.iface 270 (.pointer (some ⟨N,0,none⟩))])∧w.heap.size≤N∧w'.heap[N]? =some (.cells #[.string ⟨#[65,116,111,105]⟩,.string s,.iface tp p] 283 (0,0))∧Below w.heap.size w w':=Any.strconv_Atoi_syntax_var Tryz.laysC172 s hlim h tp p w hvar
open Go.RowKit in
theorem Tryz.strconv_Atoi_range_var (s:ByteArray) (hlim:s.size≤281474976710656) (h:Lib.atoiAll s.data.toList=.range) (tp:TypeId) (p:Value) (w:World) (hvar:w.var? Tryz.prog "strconv.ErrRange"=some #[.iface tp p]):
  Calls Tryz.prog 219 #[.string s] w fun e w'=>∃N,e=.returned (.tuple #[.int .i64 (Lib.atoiSat s.data.toList),.iface 270 (.pointer (some ⟨N,0,none⟩))])∧w.heap.size≤N∧w'.heap[N]? =some (.cells #[.string ⟨#[65,116,111,105]⟩,.string s,.iface tp p] 283 (0,0))∧Below w.heap.size w w':=Any.strconv_Atoi_range_var Tryz.laysC172 s hlim h tp p w hvar
def Tryz.lays217_ren:Go.Shelf.Ren:=⟨fun | 217=>210 | 266=>242 | n=>n,fun | 9=>9 | 5=>5 | 3=>3 | n=>n,fun | n=>n⟩
def Tryz.lays224_ren:Go.Shelf.Ren:=⟨fun | 224=>244 | n=>n,fun | 3=>3 | n=>n,fun | n=>n⟩
def Tryz.lays314_ren:Go.Shelf.Ren:=⟨fun | 314=>268 | n=>n,fun | 9=>9 | 51=>205 | 3=>3 | 4=>4 | 5=>5 | 46=>179 | n=>n,fun | n=>n⟩
def Tryz.lays267_ren:Go.Shelf.Ren:=⟨fun | 267=>245 | 314=>268 | n=>n,fun | 9=>9 | 3=>3 | 146=>260 | 51=>205 | 4=>4 | 5=>5 | 46=>179 | n=>n,fun | n=>n⟩
def Tryz.lays219_ren:Go.Shelf.Ren:=⟨fun | 219=>211 | 217=>210 | 225=>243 | 224=>244 | 267=>245 | 266=>242 | 314=>268 | n=>n,fun | 9=>9 | 3=>3 | 4=>4 | 5=>5 | 46=>179 | 146=>260 | 51=>205 | n=>n,fun | 1=>1 | n=>n⟩
def Tryz.FC:Go.Shelf.Ren:=⟨fun | 143=>217 | 219=>211 | 217=>210 | 225=>243 | 224=>244 | 267=>245 | 266=>242 | 314=>268 | n=>n,fun | 9=>9 | 3=>3 | 4=>4 | 5=>5 | 46=>179 | 146=>260 | 51=>205 | n=>n,fun | 1=>1 | n=>n⟩
theorem Tryz.lays143:Go.Proofs.Lays.n143 Tryz.prog Tryz.FC:= {
 mixed:=by kernel_rfl
 f143:=Tryz.func217.trans (congrArg some (by kernel_rfl))
 f217:=Tryz.func210.trans (congrArg some (by kernel_rfl))
 f219:=Tryz.func211.trans (congrArg some (by kernel_rfl))
 f224:=Tryz.func244.trans (congrArg some (by kernel_rfl))
 f225:=Tryz.func243.trans (congrArg some (by kernel_rfl))
 f266:=Tryz.func242.trans (congrArg some (by kernel_rfl))
 f267:=Tryz.func245.trans (congrArg some (by kernel_rfl))
 f314:=Tryz.func268.trans (congrArg some (by kernel_rfl))
 t3:=Tryz.underlying3
 a3:=Tryz.isAgg3
 z3:=Tryz.sizeOf3
 v3:=Tryz.zeroValue3
 t4:=Tryz.underlying4
 a4:=Tryz.isAgg4
 z4:=Tryz.sizeOf4
 v4:=Tryz.zeroValue4
 t5:=Tryz.underlying5
 a5:=Tryz.isAgg5
 z5:=Tryz.sizeOf5
 v5:=Tryz.zeroValue5
 t9:=Tryz.underlying9
 a9:=Tryz.isAgg9
 z9:=Tryz.sizeOf9
 v9:=Tryz.zeroValue9
 t46:=Tryz.underlying179
 a46:=Tryz.isAgg179
 z46:=Tryz.sizeOf179
 v46:=Tryz.zeroValue179
 t51:=Tryz.underlying205
 a51:=Tryz.isAgg205
 z51:=Tryz.sizeOf205
 v51:=Tryz.zeroValue205
 t146:=Tryz.underlying260
 a146:=Tryz.isAgg260
 z146:=Tryz.sizeOf260
 v146:=Tryz.zeroValue260
 g1:=by kernel_rfl}
open Go.RowKit Go.Lib in
theorem Tryz.strings_Index_one (s:ByteArray) (c:UInt8) (w:World):
  Calls Tryz.prog 217 #[.string s,.string ⟨#[c]⟩] w fun e w'=>e=.returned (.int .i64 (Lib.indexByte s.data.toList c))∧w'=w:=Any.strings_Index_one Tryz.lays143 s c w
def Tryz.lays220_ren:Go.Shelf.Ren:=⟨fun | 220=>180 | 219=>211 | 217=>210 | 225=>243 | 224=>244 | 267=>245 | 266=>242 | 314=>268 | n=>n,fun | 9=>9 | 4=>4 | 3=>3 | 5=>5 | 46=>179 | 146=>260 | 51=>205 | n=>n,fun | 1=>1 | n=>n⟩
def Tryz.FQ:Go.Shelf.Ren:=⟨fun | 145=>142 | 220=>180 | 219=>211 | 217=>210 | 225=>243 | 224=>244 | 267=>245 | 266=>242 | 314=>268 | n=>n,fun | 9=>9 | 4=>4 | 59=>169 | 3=>3 | 5=>5 | 46=>179 | 146=>260 | 51=>205 | n=>n,fun | 1=>1 | n=>n⟩
theorem Tryz.lays145:Go.Proofs.Lays.n145 Tryz.prog Tryz.FQ:= {
 mixed:=by kernel_rfl
 f145:=Tryz.func142.trans (congrArg some (by kernel_rfl))
 f217:=Tryz.func210.trans (congrArg some (by kernel_rfl))
 f219:=Tryz.func211.trans (congrArg some (by kernel_rfl))
 f220:=Tryz.func180.trans (congrArg some (by kernel_rfl))
 f224:=Tryz.func244.trans (congrArg some (by kernel_rfl))
 f225:=Tryz.func243.trans (congrArg some (by kernel_rfl))
 f266:=Tryz.func242.trans (congrArg some (by kernel_rfl))
 f267:=Tryz.func245.trans (congrArg some (by kernel_rfl))
 f314:=Tryz.func268.trans (congrArg some (by kernel_rfl))
 t3:=Tryz.underlying3
 a3:=Tryz.isAgg3
 z3:=Tryz.sizeOf3
 v3:=Tryz.zeroValue3
 t4:=Tryz.underlying4
 a4:=Tryz.isAgg4
 z4:=Tryz.sizeOf4
 v4:=Tryz.zeroValue4
 t5:=Tryz.underlying5
 a5:=Tryz.isAgg5
 z5:=Tryz.sizeOf5
 v5:=Tryz.zeroValue5
 t9:=Tryz.underlying9
 a9:=Tryz.isAgg9
 z9:=Tryz.sizeOf9
 v9:=Tryz.zeroValue9
 t46:=Tryz.underlying179
 a46:=Tryz.isAgg179
 z46:=Tryz.sizeOf179
 v46:=Tryz.zeroValue179
 t51:=Tryz.underlying205
 a51:=Tryz.isAgg205
 z51:=Tryz.sizeOf205
 v51:=Tryz.zeroValue205
 t59:=Tryz.underlying169
 a59:=Tryz.isAgg169
 z59:=Tryz.sizeOf169
 v59:=Tryz.zeroValue169
 t146:=Tryz.underlying260
 a146:=Tryz.isAgg260
 z146:=Tryz.sizeOf260
 v146:=Tryz.zeroValue260
 g1:=by kernel_rfl}
open Go.RowKit Go.Lib in
theorem Tryz.strings_Cut (s sep:ByteArray) (m:Int) (w:World) (hs:s.size<4294967281) (hm:w.cell? ⟨1,0,none⟩=some (.int .i64 m)):
  Calls Tryz.prog 142 #[.string s,.string sep] w fun e w'=>e=.returned (.tuple #[.string ⟨(Lib.cut s.data.toList sep.data.toList).1.toArray⟩,.string ⟨(Lib.cut s.data.toList sep.data.toList).2.1.toArray⟩,.bool (Lib.cut s.data.toList sep.data.toList).2.2])∧∃n,w'=w.drewN n:=Any.strings_Cut Tryz.lays145 s sep m w hs hm
def Tryz.lays138_ren:Go.Shelf.Ren:=⟨fun | 138=>216 | 195=>248 | 218=>249 | 143=>217 | 219=>211 | 217=>210 | 225=>243 | 224=>244 | 267=>245 | 266=>242 | 314=>268 | n=>n,fun | 9=>9 | 3=>3 | 4=>4 | 5=>5 | 0=>0 | 46=>179 | 146=>260 | 51=>205 | n=>n,fun | 1=>1 | n=>n⟩
def Tryz.laysM219_ren:Go.Shelf.Ren:=⟨fun | 219=>211 | 217=>210 | 225=>243 | 224=>244 | 267=>245 | 266=>242 | 314=>268 | n=>n,fun | 9=>9 | 3=>3 | 4=>4 | 5=>5 | 46=>179 | 146=>260 | 51=>205 | n=>n,fun | 1=>1 | n=>n⟩
def Tryz.laysM143_ren:Go.Shelf.Ren:=⟨fun | 143=>217 | 219=>211 | 217=>210 | 225=>243 | 224=>244 | 267=>245 | 266=>242 | 314=>268 | n=>n,fun | 9=>9 | 3=>3 | 4=>4 | 5=>5 | 46=>179 | 146=>260 | 51=>205 | n=>n,fun | 1=>1 | n=>n⟩
def Tryz.laysM220_ren:Go.Shelf.Ren:=⟨fun | 220=>180 | 219=>211 | 217=>210 | 225=>243 | 224=>244 | 267=>245 | 266=>242 | 314=>268 | n=>n,fun | 9=>9 | 4=>4 | 3=>3 | 5=>5 | 46=>179 | 146=>260 | 51=>205 | n=>n,fun | 1=>1 | n=>n⟩
def Tryz.laysM145_ren:Go.Shelf.Ren:=⟨fun | 145=>142 | 220=>180 | 219=>211 | 217=>210 | 225=>243 | 224=>244 | 267=>245 | 266=>242 | 314=>268 | n=>n,fun | 9=>9 | 4=>4 | 59=>169 | 3=>3 | 5=>5 | 46=>179 | 146=>260 | 51=>205 | n=>n,fun | 1=>1 | n=>n⟩
def Tryz.laysM138_ren:Go.Shelf.Ren:=⟨fun | 138=>216 | 195=>248 | 218=>249 | 143=>217 | 219=>211 | 217=>210 | 225=>243 | 224=>244 | 267=>245 | 266=>242 | 314=>268 | n=>n,fun | 9=>9 | 3=>3 | 4=>4 | 5=>5 | 0=>0 | 46=>179 | 146=>260 | 51=>205 | n=>n,fun | 1=>1 | n=>n⟩
def Tryz.Ep:Go.Shelf.Ren:=⟨fun | 190=>105 | 125=>152 | 258=>151 | 128=>194 | 129=>195 | 302=>185 | 303=>186 | 304=>187 | 305=>188 | 306=>189 | 307=>190 | 308=>191 | 309=>192 | 310=>193 | 333=>220 | 329=>221 | 330=>222 | 334=>223 | 335=>224 | 336=>145 | 344=>259 | n=>n,fun | 31=>97 | 9=>9 | 3=>3 | 46=>179 | 0=>0 | 51=>205 | 53=>207 | 4=>4 | 183=>198 | 182=>197 | 131=>126 | 5=>5 | 218=>225 | 222=>229 | 228=>252 | 229=>253 | n=>n,fun | n=>n⟩
theorem Tryz.lays190:Go.Proofs.Lays.n190 Tryz.prog Tryz.Ep:= {
 mixed:=by kernel_rfl
 f125:=Tryz.func152.trans (congrArg some (by kernel_rfl))
 f128:=Tryz.func194.trans (congrArg some (by kernel_rfl))
 f129:=Tryz.func195.trans (congrArg some (by kernel_rfl))
 f190:=Tryz.func105.trans (congrArg some (by kernel_rfl))
 f258:=Tryz.func151.trans (congrArg some (by kernel_rfl))
 f302:=Tryz.func185.trans (congrArg some (by kernel_rfl))
 f303:=Tryz.func186.trans (congrArg some (by kernel_rfl))
 f304:=Tryz.func187.trans (congrArg some (by kernel_rfl))
 f305:=Tryz.func188.trans (congrArg some (by kernel_rfl))
 f306:=Tryz.func189.trans (congrArg some (by kernel_rfl))
 f307:=Tryz.func190.trans (congrArg some (by kernel_rfl))
 f308:=Tryz.func191.trans (congrArg some (by kernel_rfl))
 f309:=Tryz.func192.trans (congrArg some (by kernel_rfl))
 f310:=Tryz.func193.trans (congrArg some (by kernel_rfl))
 f329:=Tryz.func221.trans (congrArg some (by kernel_rfl))
 f330:=Tryz.func222.trans (congrArg some (by kernel_rfl))
 f333:=Tryz.func220.trans (congrArg some (by kernel_rfl))
 f334:=Tryz.func223.trans (congrArg some (by kernel_rfl))
 f335:=Tryz.func224.trans (congrArg some (by kernel_rfl))
 f336:=Tryz.func145.trans (congrArg some (by kernel_rfl))
 f344:=Tryz.func259.trans (congrArg some (by kernel_rfl))
 t0:=Tryz.underlying0
 a0:=Tryz.isAgg0
 z0:=Tryz.sizeOf0
 v0:=Tryz.zeroValue0
 t3:=Tryz.underlying3
 a3:=Tryz.isAgg3
 z3:=Tryz.sizeOf3
 v3:=Tryz.zeroValue3
 t4:=Tryz.underlying4
 a4:=Tryz.isAgg4
 z4:=Tryz.sizeOf4
 v4:=Tryz.zeroValue4
 t5:=Tryz.underlying5
 a5:=Tryz.isAgg5
 z5:=Tryz.sizeOf5
 v5:=Tryz.zeroValue5
 t9:=Tryz.underlying9
 a9:=Tryz.isAgg9
 z9:=Tryz.sizeOf9
 v9:=Tryz.zeroValue9
 t31:=Tryz.underlying97
 a31:=Tryz.isAgg97
 z31:=Tryz.sizeOf97
 v31:=Tryz.zeroValue97
 t46:=Tryz.underlying179
 a46:=Tryz.isAgg179
 z46:=Tryz.sizeOf179
 v46:=Tryz.zeroValue179
 t51:=Tryz.underlying205
 a51:=Tryz.isAgg205
 z51:=Tryz.sizeOf205
 v51:=Tryz.zeroValue205
 t53:=Tryz.underlying207
 a53:=Tryz.isAgg207
 z53:=Tryz.sizeOf207
 v53:=Tryz.zeroValue207
 t131:=Tryz.underlying126
 a131:=Tryz.isAgg126
 z131:=Tryz.sizeOf126
 v131:=Tryz.zeroValue126
 t182:=Tryz.underlying197
 a182:=Tryz.isAgg197
 z182:=Tryz.sizeOf197
 v182:=Tryz.zeroValue197
 t183:=Tryz.underlying198
 a183:=Tryz.isAgg198
 z183:=Tryz.sizeOf198
 v183:=Tryz.zeroValue198
 t218:=Tryz.underlying225
 a218:=Tryz.isAgg225
 z218:=Tryz.sizeOf225
 v218:=Tryz.zeroValue225
 t222:=Tryz.underlying229
 a222:=Tryz.isAgg229
 z222:=Tryz.sizeOf229
 v222:=Tryz.zeroValue229
 t228:=Tryz.underlying252
 a228:=Tryz.isAgg252
 z228:=Tryz.sizeOf252
 v228:=Tryz.zeroValue252
 t229:=Tryz.underlying253
 a229:=Tryz.isAgg253
 z229:=Tryz.sizeOf253
 v229:=Tryz.zeroValue253}
open Go.Sort Go.RowKit in
theorem Tryz.slices_Sort_string (blk off cap:Nat) (ss:List (List UInt8)) (w:World) (hH:Holds encStr w blk off ss.toArray) (hblk:blk<w.heap.size) (hsz:ss.length<4611686018427387904):
  Calls Tryz.prog 105 #[.slice (some ⟨blk,off,none⟩) ss.length cap] w fun e w'=>
   e=.returned (.tuple #[])∧∃n os,w'=grow (putRow encStr (Sort.ahead w n) blk off (ss.mergeSort fun x y=>decide (x≤y)).toArray) os:=Any.slices_Sort_string Tryz.lays190 blk off cap ss w hH hblk hsz
def Tryz.lays206_ren:Go.Shelf.Ren:=⟨fun | 206=>209 | n=>n,fun | 9=>9 | 4=>4 | 3=>3 | n=>n,fun | n=>n⟩
def Tryz.lays221_ren:Go.Shelf.Ren:=⟨fun | 221=>183 | 268=>215 | 138=>216 | 143=>217 | 195=>248 | 197=>237 | 218=>249 | 219=>211 | 260=>263 | 217=>210 | 225=>243 | 224=>244 | 267=>245 | 266=>242 | 314=>268 | n=>n,fun | 9=>9 | 3=>3 | 31=>97 | 4=>4 | 0=>0 | 105=>236 | 21=>21 | 5=>5 | 46=>179 | 119=>274 | 139=>277 | 138=>276 | 146=>260 | 51=>205 | n=>n,fun | 1=>1 | 3=>3 | 4=>4 | n=>n⟩
def Tryz.lays146_ren:Go.Shelf.Ren:=⟨fun | 146=>148 | 221=>183 | 268=>215 | 138=>216 | 143=>217 | 195=>248 | 197=>237 | 218=>249 | 219=>211 | 260=>263 | 217=>210 | 225=>243 | 224=>244 | 267=>245 | 266=>242 | 314=>268 | n=>n,fun | 9=>9 | 31=>97 | 3=>3 | 4=>4 | 0=>0 | 105=>236 | 21=>21 | 5=>5 | 46=>179 | 119=>274 | 139=>277 | 138=>276 | 146=>260 | 51=>205 | n=>n,fun | 1=>1 | 3=>3 | 4=>4 | n=>n⟩
theorem Tryz.lays146:Go.Proofs.Lays.n146 Tryz.prog Tryz.lays146_ren:= {
 mixed:=by kernel_rfl
 f138:=Tryz.func216.trans (congrArg some (by kernel_rfl))
 f143:=Tryz.func217.trans (congrArg some (by kernel_rfl))
 f146:=Tryz.func148.trans (congrArg some (by kernel_rfl))
 f195:=Tryz.func248.trans (congrArg some (by kernel_rfl))
 f197:=Tryz.func237.trans (congrArg some (by kernel_rfl))
 f217:=Tryz.func210.trans (congrArg some (by kernel_rfl))
 f218:=Tryz.func249.trans (congrArg some (by kernel_rfl))
 f219:=Tryz.func211.trans (congrArg some (by kernel_rfl))
 f221:=Tryz.func183.trans (congrArg some (by kernel_rfl))
 f224:=Tryz.func244.trans (congrArg some (by kernel_rfl))
 f225:=Tryz.func243.trans (congrArg some (by kernel_rfl))
 f260:=Tryz.func263.trans (congrArg some (by kernel_rfl))
 f266:=Tryz.func242.trans (congrArg some (by kernel_rfl))
 f267:=Tryz.func245.trans (congrArg some (by kernel_rfl))
 f268:=Tryz.func215.trans (congrArg some (by kernel_rfl))
 f314:=Tryz.func268.trans (congrArg some (by kernel_rfl))
 t0:=Tryz.underlying0
 a0:=Tryz.isAgg0
 z0:=Tryz.sizeOf0
 v0:=Tryz.zeroValue0
 t3:=Tryz.underlying3
 a3:=Tryz.isAgg3
 z3:=Tryz.sizeOf3
 v3:=Tryz.zeroValue3
 t4:=Tryz.underlying4
 a4:=Tryz.isAgg4
 z4:=Tryz.sizeOf4
 v4:=Tryz.zeroValue4
 t5:=Tryz.underlying5
 a5:=Tryz.isAgg5
 z5:=Tryz.sizeOf5
 v5:=Tryz.zeroValue5
 t9:=Tryz.underlying9
 a9:=Tryz.isAgg9
 z9:=Tryz.sizeOf9
 v9:=Tryz.zeroValue9
 t21:=Tryz.underlying21
 a21:=Tryz.isAgg21
 z21:=Tryz.sizeOf21
 v21:=Tryz.zeroValue21
 t31:=Tryz.underlying97
 a31:=Tryz.isAgg97
 z31:=Tryz.sizeOf97
 v31:=Tryz.zeroValue97
 t46:=Tryz.underlying179
 a46:=Tryz.isAgg179
 z46:=Tryz.sizeOf179
 v46:=Tryz.zeroValue179
 t51:=Tryz.underlying205
 a51:=Tryz.isAgg205
 z51:=Tryz.sizeOf205
 v51:=Tryz.zeroValue205
 t105:=Tryz.underlying236
 a105:=Tryz.isAgg236
 z105:=Tryz.sizeOf236
 v105:=Tryz.zeroValue236
 t119:=Tryz.underlying274
 a119:=Tryz.isAgg274
 z119:=Tryz.sizeOf274
 t138:=Tryz.underlying276
 a138:=Tryz.isAgg276
 z138:=Tryz.sizeOf276
 v138:=Tryz.zeroValue276
 t139:=Tryz.underlying277
 a139:=Tryz.isAgg277
 z139:=Tryz.sizeOf277
 v139:=Tryz.zeroValue277
 t146:=Tryz.underlying260
 a146:=Tryz.isAgg260
 z146:=Tryz.sizeOf260
 v146:=Tryz.zeroValue260
 g1:=by kernel_rfl
 g3:=by kernel_rfl
 g4:=by kernel_rfl}
open Go.RowKit Go.Lib in
theorem Tryz.strings_Split (s sep:ByteArray) (m:Int) (w:World) (hs:s.size<4294967281) (hm:w.cell? ⟨1,0,none⟩=some (.int .i64 m)) (h1:1≤sep.size):
  Calls Tryz.prog 148 #[.string s,.string sep] w fun e w'=>
   e=.returned (.slice (some ⟨w.heap.size,0,none⟩) (Lib.countB s sep+1) (Lib.countB s sep+1))∧w'=w.alloc (.cells ((Lib.splitB sep 0 (Lib.countB s sep) s).map Value.string).toArray 9):=Any.strings_Split Tryz.lays146 (by kernel_rfl) s sep m w hs hm h1
def Tryz.laysM146_ren:Go.Shelf.Ren:=⟨fun | 146=>148 | 221=>183 | 268=>215 | 138=>216 | 143=>217 | 195=>248 | 197=>237 | 218=>249 | 219=>211 | 260=>263 | 217=>210 | 225=>243 | 224=>244 | 267=>245 | 266=>242 | 314=>268 | n=>n,fun | 9=>9 | 31=>97 | 3=>3 | 4=>4 | 0=>0 | 105=>236 | 21=>21 | 5=>5 | 46=>179 | 119=>274 | 139=>277 | 138=>276 | 146=>260 | 51=>205 | n=>n,fun | 1=>1 | 3=>3 | 4=>4 | n=>n⟩
def Tryz.lays197_ren:Go.Shelf.Ren:=⟨fun | 197=>237 | 260=>263 | n=>n,fun | 9=>9 | 21=>21 | 3=>3 | 4=>4 | 5=>5 | 105=>236 | 119=>274 | 0=>0 | 46=>179 | 139=>277 | 138=>276 | n=>n,fun | 3=>3 | 4=>4 | n=>n⟩
def Tryz.lays152_ren:Go.Shelf.Ren:=⟨fun | 152=>282 | 137=>179 | 119=>287 | 224=>244 | 225=>243 | 217=>210 | 266=>242 | n=>n,fun | 9=>9 | 21=>21 | 3=>3 | 4=>4 | 5=>5 | 0=>0 | 46=>179 | n=>n,fun | n=>n⟩
def Tryz.lays151_ren:Go.Shelf.Ren:=⟨fun | 151=>272 | 152=>282 | 137=>179 | 119=>287 | 224=>244 | 225=>243 | 217=>210 | 266=>242 | n=>n,fun | 9=>9 | 21=>21 | 4=>4 | 3=>3 | 5=>5 | 0=>0 | 46=>179 | n=>n,fun | n=>n⟩
def Tryz.lays227_ren:Go.Shelf.Ren:=⟨fun | 227=>252 | n=>n,fun | 9=>9 | 116=>246 | 4=>4 | 0=>0 | 3=>3 | 5=>5 | n=>n,fun | n=>n⟩
def Tryz.lays228_ren:Go.Shelf.Ren:=⟨fun | 228=>271 | n=>n,fun | 124=>250 | 5=>5 | 4=>4 | 0=>0 | 116=>246 | n=>n,fun | n=>n⟩
def Tryz.lays268_ren:Go.Shelf.Ren:=⟨fun | 268=>215 | 195=>248 | 197=>237 | 260=>263 | n=>n,fun | 9=>9 | 3=>3 | 31=>97 | 4=>4 | 105=>236 | 21=>21 | 0=>0 | 5=>5 | 119=>274 | 46=>179 | 139=>277 | 138=>276 | n=>n,fun | 3=>3 | 4=>4 | n=>n⟩
def Tryz.lays260_ren:Go.Shelf.Ren:=⟨fun | 260=>263 | n=>n,fun | 9=>9 | 21=>21 | 3=>3 | 4=>4 | 5=>5 | 119=>274 | 0=>0 | 46=>179 | 139=>277 | 138=>276 | n=>n,fun | 3=>3 | 4=>4 | n=>n⟩
def Tryz.lays271_ren:Go.Shelf.Ren:=⟨fun | 271=>273 | 120=>283 | 197=>237 | 260=>263 | n=>n,fun | 9=>9 | 21=>21 | 3=>3 | 4=>4 | 5=>5 | 105=>236 | 119=>274 | 0=>0 | 46=>179 | 139=>277 | 138=>276 | n=>n,fun | 3=>3 | 4=>4 | n=>n⟩
def Tryz.laysNm237_ren:Go.Shelf.Ren:=⟨fun | 37=>182 | n=>n,fun | 3=>3 | 4=>4 | n=>n,fun | n=>n⟩
open Go.RowKit Go.Sort in
theorem Tryz.slices_Sort_string_none (p:Option Addr) (cap:Nat) (w:World):
  Calls Tryz.prog 105 #[.slice p 0 cap] w fun e w'=>e=.returned (.tuple #[])∧w'=w:=Any.slices_Sort_string_none Tryz.lays190 p cap w
end Go.Proofs
