/- hoggetref07.dep, Check; hoggetref08.ahead, Check. -/
import Derived.Test.YtmmbgjmigmchbaaGreatDoorNg7
import Derived.Test.YtmmbgjmigmchbaaGreatDoorRows
import Derived.Deep.DeepHandedRow
import Derived.Deep.DeepWitnessRowRef
import Derived.Lib.LaidIn
import Derived.Stop.LaidErr
import Derived.Shelf.Vars
import Derived.MakeChecks
import Derived.OpenShut
import Derived.ChangeBears2
import Derived.Test.YtmmbgjmigmchbaaGreatDoorNg6
namespace Go.Proofs.YtmmbgjmigmchbaaGreatDoorAbs
set_option linter.unusedSimpArgs false
set_option linter.unusedVariables false
open Go Go.RowKit Go.Proofs
set_option maxRecDepth 100000
set_option maxHeartbeats 4000000
@[simp] theorem o_makeFunc0 {P:Program} [Gl P] {s:Sl} {G:Hp} {nx:Nat} {f:FuncId} (caps:Array Operand):iq P s G nx (.makeFunc (.func f) #[] caps)=some (.fn f (caps.toList.map (evX s)),G,nx):=by simp[iq]
@[simp] theorem treeOf_fn {P:Program} {G:Hp} (f:FuncId) (cs:List AV):bJ P G (.fn f cs)=none:=rfl
@[simp] theorem frzOf_fn {G:Hp} (f:FuncId) (cs:List AV):bT G (.fn f cs)=G:=rfl
@[simp] theorem isFn_fn (f:FuncId) (cs:List AV):isFn (.fn f cs)=true:=rfl
theorem Wv:[0,1,2]=List.range 3:=rfl
def UQ (G:Hp) (Z ny:Nat) (x:AV) (acc:List Int):Prop:=(x=.v (.slice none 0 0)∧acc=[])∨∃r,x=.row r acc.length∧G r=some (.row 3 (flat iC acc))∧Z<r∧r<ny∧acc≠[]
def fQ (root:Man) (L:List Man) (t:List Pl):List Int:=[dM root true,dK L,checkN t]
def iI (root:Man) (L:List Man) (t:List Pl) (i:Int):Bool:=match manVal root L t i with
 | none=>false
 | some m=>(ofF m.deps root.rules (decide (i=0))).all (holdsV t i)
def mY (root:Man) (L:List Man) (t:List Pl):List Int:=(fF t 0).filter fun i=> !iI root L t i
def fP (root:Man) (L:List Man) (t:List Pl):Prop:=Man.sz root∧Man.okS root∧Idx.sz L∧(∀m∈L,Man.okS m)∧OKs t∧∀p∈t,p.ver.pre.size≤1000000
def codeV (root:Man) (L:List Man) (t:List Pl):Int:=orN (fQ root L t)
def mg (root:Man) (L:List Man) (t:List Pl):AV×Js:=
 if codeV root L t=0 then(if mY root L t=[]then(.tup [.v (.slice none 0 0),iV 0],[])else(.tup [.row 0 (mY root L t).length,iV 0],[(3,flat iC (mY root L t))]))else(.tup [.row 0 0,iV (codeV root L t)],[(3,[])])
theorem nS {G:Hp} {a b:Nat} {m:Man} (hba:¬b=a) (ka:G a=some (.row 35 (flat Dep.cells m.deps))) (kb:G b=some (.row 134 (flat Ru.cells m.rules))):bY Tryz.prog G (m.dX (.row a m.deps.length) (.row b m.rules.length))=some (m.cells,bT (bT G (.row a m.deps.length)) (.row b m.rules.length)):=by
 have c1:Tryz.prog.cellsOf 35=3:=(by kernel_rfl);have c2:Tryz.prog.cellsOf 134=2:=(by kernel_rfl);have h1:bJ Tryz.prog G (.row a m.deps.length)=some (rowT Dep.cells m.deps):=dN ka c1 rfl;have h2:bJ Tryz.prog (bT G (.row a m.deps.length)) (.row b m.rules.length)=some (rowT Ru.cells m.rules):=(CQ hba).trans (dN kb c2 rfl);have f:∀(x:Value) (G:Hp),bT G (.v x)=G:=fun _ _=>rfl;simp only[Man.dX,bY,zk,f,h1,h2];rfl
theorem nM {root:Man} {L:List Man} {t:List Pl} {i:Int} {m:Man} (h:manVal root L t i=some m):m=root∨m∈L:=by
 unfold manVal at h;split at h
 ·split at h
  ·injection h with h;exact .inl h.symm
  ·exact .inr (List.mem_of_find?_eq_some h)
 ·cases h
theorem wM {ds:List Dep} {rules:List Ru} {b:Bool} {d:Dep} (h:d∈ofF ds rules b):(∃e∈ds,d.range=e.range)∨∃e∈rules,d.range=e.range:=by
 obtain⟨n,hn,rfl⟩:=List.mem_map.1 h;have hn2:n∈cu (byM b ds):=(fE _).mem_iff.1 hn;have hfd:findD (byM b ds) n∈ds:=by
  cases hp:posM (byM b ds) n with
  | none=>exact absurd hn2 (kF.1 hp)
  | some j=>
   have:=lV hp;simp only[findD,hp];exact zV (bM this.1)
 unfold eU;cases ha:atF rules (findD (byM b ds) n).name with
 | none=>exact .inl ⟨_,hfd,rfl⟩
 | some i=>
  have:=(List.findIdx?_eq_some_iff_getElem.1 ha).1;exact .inr ⟨_,bM this,rfl⟩
theorem sF (root:Man) (L:List Man) (t:List Pl) (h:fP root L t):CallsOK Tryz.prog 30 [.agg root.cells,rowT Man.cells L,rowT Pl.cells t] (mg root L t).1 (mg root L t).2:=by
 obtain⟨hrz,hro,hLz,hLo,ht,hv⟩:=h;have hLl:=hLz.1;refine aN mixed Tryz.call30 Tryz.func30 rfl (by rw[Tryz.ntmps30];simp) ?_ ?_
 ·rw[Tryz.ntmps30];refine aR fun K' hK=> ?_
  simp;apply hK;clear K' hK;refine wC ?_;refine fV (fun s G nx=>s 3=.ptr 0 0∧s 4=.ptr 1 0∧s 5=.ptr 2 0∧nx=4∧G 0=some (.var 27 root.cells)∧G 1=some (.var 28 [rowT Man.cells L])∧G 2=some (.var 29 [rowT Pl.cells t])) ?_ ?_
  ·simp;exact⟨rfl,rfl⟩
  rintro s G nx ⟨s3,s4,s5,rfl,g0,g1,g2⟩;apply aA;refine aR fun K' hK=> ?_
  simp[s3,s4,s5,Wv];apply hK;clear K' hK;apply aB
  refine bH (fun s G nx=>s 3=.ptr 0 0∧s 4=.ptr 1 0∧s 5=.ptr 2 0∧G 0=some (.var 27 root.cells)∧G 1=some (.var 28 [rowT Man.cells L])∧G 2=some (.var 29 [rowT Pl.cells t])∧s 20=.row 4 3∧G 4=some (.var 109 [.fn 60 [.ptr 0 0],.fn 61 [.ptr 1 0],.fn 62 [.ptr 2 0]])∧s 21=iV 3∧∃i:Nat,s 22=iV i∧i≤3∧orN (fQ root L t)=orN ((fQ root L t).drop i)) (fun s _ _=>match s 22 with | .v (.int _ n)=>3-n.toNat | _=>0) ?_ ?_
  ·exact⟨by simp[s3],by simp[s4],by simp[s5],by simp[g0],by simp[g1],by simp[g2],by simp,by simp,by simp,0,by simp,by omega,by simp⟩
  ·clear s3 s4 s5 g0 g1 g2;rintro s G nx hf ⟨s3,s4,s5,g0,g1,g2,s20,g4,s21,i,s22,hi,ht2⟩;have hw:IntKind.i64.wrap (↑i+1)=((i+1:Nat):Int):=dh (by omega);refine aR fun K' hK=> ?_
   simp[s21,s22];apply hK;clear K' hK;refine aC fun A B hA hB=> ?_
   simp;refine⟨fun hi2=>hA ?_,fun hi2=>hB ?_⟩<;>clear hA hB A B<;>(try simp at hi2)<;>(try with_reducible refine aK ?_)
   ·have hfin:∀c:Int,orN (fQ root L t)=c→c≠0→mg root L t=(.tup [.row 0 0,iV c],[(3,[])]):=fun c h1 h2=>(by rw[mg,codeV,h1,if_neg h2]);have hcases:i=0∨i=1∨i=2:=(by omega);have w1:IntKind.i64.wrap 1=1:=wrap64 (by omega) (by omega);have w2:IntKind.i64.wrap 2=2:=wrap64 (by omega) (by omega);have w3:IntKind.i64.wrap 3=3:=wrap64 (by omega) (by omega);rcases hcases with rfl | rfl | rfl
    ·have hd:orN ((fQ root L t).drop 0)=if dM root true=0 then orN ((fQ root L t).drop 1)else dM root true:=rfl;apply aB;refine aR fun K' hK=> ?_
     simp[s20,s22,g4];apply hK;clear K' hK;refine aR fun K' hK=> ?_
     simp;refine dH (zY mixed Tryz.call60 Tryz.func60 rfl (by rw[Tryz.ntmps60];simp) fun hf=> ?_);rw[Tryz.ntmps60];refine aR fun K' hK=> ?_
     simp;apply hK;clear K' hK;refine aR fun K' hK=> ?_
     simp[g0];refine ak (wL root hrz true) rfl (by simp) ?_;simp;apply hK;clear K' hK;apply aF
     simp[au,aG,Post,aW,res1,bF,bC,aP,bg,bf,okT,okA,ok1,rowOf,Tryz.f60];apply hK;clear K' hK;by_cases c:dM root true=0
     ·skip;refine aR fun K' hK=> ?_
      simp[c];apply hK;clear K' hK;refine aVk (by simp[c]) ?_;apply aj
      refine ah ?_;refine aS fun K' hK=> ?_
      simp[s22,w1,w2,w3];apply hK;clear K' hK;refine aj (ay ?_ ?_)
      ·exact⟨by simp[s3],by simp[s4],by simp[s5],g0,g1,g2,by simp[s20],g4,by simp[s21],1,by simp[w1,w2,w3],by omega,by rw[ht2,hd,if_pos c]⟩
      ·simp[s22,w1,w2,w3]
     ·skip;refine aR fun K' hK=> ?_
      simp[c];apply hK;clear K' hK;refine aU (by simp[c]) ?_;apply aA;refine aR fun K' hK=> ?_
      simp;apply hK;clear K' hK;rw[hfin _ (by rw[ht2,hd,if_neg c]) c];apply aJ
      simp[au,aG,Post,aW,res1,bF,bC,aP,bg,bf,okT,okA,ok1,rowOf,Tryz.f30,lH]
    ·have hd:orN ((fQ root L t).drop 1)=if dK L=0 then orN ((fQ root L t).drop 2)else dK L:=rfl;apply aB;refine aR fun K' hK=> ?_
     simp[s20,s22,g4];apply hK;clear K' hK;refine aR fun K' hK=> ?_
     simp;refine dH (zY mixed Tryz.call61 Tryz.func61 rfl (by rw[Tryz.ntmps61];simp) fun hf=> ?_);rw[Tryz.ntmps61];refine aR fun K' hK=> ?_
     simp;apply hK;clear K' hK;refine aR fun K' hK=> ?_
     simp[g1];refine ak (D6 L hLz) rfl (by simp) ?_;simp;apply hK;clear K' hK;apply aF
     simp[au,aG,Post,aW,res1,bF,bC,aP,bg,bf,okT,okA,ok1,rowOf,Tryz.f61];apply hK;clear K' hK;by_cases c:dK L=0
     ·skip;refine aR fun K' hK=> ?_
      simp[c];apply hK;clear K' hK;refine aVk (by simp[c]) ?_;apply aj
      refine ah ?_;refine aS fun K' hK=> ?_
      simp[s22,w1,w2,w3];apply hK;clear K' hK;refine aj (ay ?_ ?_)
      ·exact⟨by simp[s3],by simp[s4],by simp[s5],g0,g1,g2,by simp[s20],g4,by simp[s21],2,by simp[w1,w2,w3],by omega,by rw[ht2,hd,if_pos c]⟩
      ·simp[s22,w1,w2,w3]
     ·skip;refine aR fun K' hK=> ?_
      simp[c];apply hK;clear K' hK;refine aU (by simp[c]) ?_;apply aA;refine aR fun K' hK=> ?_
      simp;apply hK;clear K' hK;rw[hfin _ (by rw[ht2,hd,if_neg c]) c];apply aJ
      simp[au,aG,Post,aW,res1,bF,bC,aP,bg,bf,okT,okA,ok1,rowOf,Tryz.f30,lH]
    ·have hd:orN ((fQ root L t).drop 2)=if checkN t=0 then orN ((fQ root L t).drop 3)else checkN t:=rfl;apply aB;refine aR fun K' hK=> ?_
     simp[s20,s22,g4];apply hK;clear K' hK;refine aR fun K' hK=> ?_
     simp;refine dH (zY mixed Tryz.call62 Tryz.func62 rfl (by rw[Tryz.ntmps62];simp) fun hf=> ?_);rw[Tryz.ntmps62];refine aR fun K' hK=> ?_
     simp;apply hK;clear K' hK;refine aR fun K' hK=> ?_
     simp[g2];refine ak (lg t ht) rfl (by simp) ?_;simp;apply hK;clear K' hK;apply aF
     simp[au,aG,Post,aW,res1,bF,bC,aP,bg,bf,okT,okA,ok1,rowOf,Tryz.f62];apply hK;clear K' hK;by_cases c:checkN t=0
     ·skip;refine aR fun K' hK=> ?_
      simp[c];apply hK;clear K' hK;refine aVk (by simp[c]) ?_;apply aj
      refine ah ?_;refine aS fun K' hK=> ?_
      simp[s22,w1,w2,w3];apply hK;clear K' hK;refine aj (ay ?_ ?_)
      ·exact⟨by simp[s3],by simp[s4],by simp[s5],g0,g1,g2,by simp[s20],g4,by simp[s21],3,by simp[w1,w2,w3],by omega,by rw[ht2,hd,if_pos c]⟩
      ·simp[s22,w1,w2,w3]
     ·skip;refine aR fun K' hK=> ?_
      simp[c];apply hK;clear K' hK;refine aU (by simp[c]) ?_;apply aA;refine aR fun K' hK=> ?_
      simp;apply hK;clear K' hK;rw[hfin _ (by rw[ht2,hd,if_neg c]) c];apply aJ
      simp[au,aG,Post,aW,res1,bF,bC,aP,bg,bf,okT,okA,ok1,rowOf,Tryz.f30,lH]
   ·skip;apply bG
    refine aI (aH ?_);have hi3:i=3:=(by omega);subst hi3;have hc0:codeV root L t=0:=(by rw[codeV,ht2];rfl);have hx0:checkN t=0:=by
     have h1:orN (fQ root L t)=0:=hc0;have h2:orN (fQ root L t)=if dM root true=0 then(if dK L=0 then(if checkN t=0 then 0 else checkN t)else dK L)else dM root true:=rfl;rw[h2]at h1;split at h1
     ·split at h1
      ·split at h1
       ·assumption
       ·exact h1
      ·rename_i h3;exact absurd h1 h3
     ·rename_i h3;exact absurd h1 h3
    have hn4:=cO hf g4;clear hn4;refine aR fun K' hK=> ?_
    simp;apply hK;clear K' hK;have n0:¬0=nx:=(by have:=cO hf g0;omega);have n1:¬1=nx:=(by have:=cO hf g1;omega);have n2:¬2=nx:=(by have:=cO hf g2;omega);have h4x:4<nx:=cO hf g4;refine Ae ?_;apply aA;refine aR fun K' hK=> ?_
    simp[s5,g2,n2];refine aO (Jw t ht 0) (by simp) ?_;simp[bK];refine dH (zY mixed Tryz.call64 Tryz.func64 rfl (by rw[Tryz.ntmps64];simp) fun hf=> ?_);rw[Tryz.ntmps64];refine aR fun K' hK=> ?_
    simp;apply hK;clear K' hK;refine aR fun K' hK=> ?_
    simp;apply hK;clear K' hK;apply aF
    simp[au,aG,Post,aW,res1,bF,bC,aP,bg,bf,okT,okA,ok1,rowOf,Tryz.f64];apply hK;clear K' hK;refine fV (fun s G ny=>s 3=.ptr 0 0∧s 4=.ptr 1 0∧s 5=.ptr 2 0∧s 11=.ptr nx 0∧s 34=.fn 115 [.ptr (nx+2) 0]∧ny=nx+3∧G 0=some (.var 27 root.cells)∧G 1=some (.var 28 [rowT Man.cells L])∧G 2=some (.var 29 [rowT Pl.cells t])∧G nx=some (.var 61 [.v (.slice none 0 0)])∧G (nx+1)=some (.row 3 (flat iC (fF t 0)))∧G (nx+2)=some (.var 61 [.row (nx+1) (fF t 0).length])) ?_ ?_
    ·have a0:¬0=nx+1:=(by omega);have a1:¬1=nx+1:=(by omega);have a2:¬2=nx+1:=(by omega);have a3:¬1=nx+2:=(by omega);have a4:¬2=nx+2:=(by omega);have a5:¬nx=0:=(by omega);have a6:¬nx=1:=(by omega);have a7:¬nx=nx+1+1:=(by omega);refine⟨by simp[s3],by simp[s4],by simp[s5],by simp,by simp,by omega,by simp[n0,g0],by simp[n1,a5,a3,g1],by simp[n2,n1,a4,a5,a6,g2],by simp[a7],by simp,by simp⟩
    clear s3 s4 s5 g0 g1 g2 g4 s20 s21 s22 ht2 hf hw hi hi2;rintro s G ny ⟨s3,s4,s5,s11,s34,hny,g0,g1,g2,gA,gR,gV⟩;generalize hA:nx=A at*;generalize hR:A+1=R at*;generalize hV:A+2=V at*;subst hny;generalize hZ:A+3=Z at*;have vZ:¬V=Z:=(by omega);have rZ:¬R=Z:=(by omega);have aZ:¬A=Z:=(by omega);have oZ0:¬0=Z:=(by omega);have oZ1:¬1=Z:=(by omega);have oZ2:¬2=Z:=(by omega);apply aB
    refine jQ (f:=115) (fn:=Tryz.f115) mixed s34 Tryz.call115 Tryz.func115 rfl (by rw[Tryz.ntmps115];simp) rfl ?_;rw[Tryz.ntmps115];generalize hL:(Lp.mk s 72 _ _ _)=Lq;have hLs:Lq.s=s:=(by subst hL;rfl);have hbl:(fF t 0).length≤1000000000:=by
     have htl:=ht.1;unfold fF;split
     ·unfold jf;rw[List.length_map];refine Nat.le_trans (List.length_filter_le _ _) ?_;rw[List.length_range];exact htl
     ·simp
    have hround:∀(p:Int) (x:AV) (acc:List Int) (K:AV→Hp→Nat→Prop) (G:Hp) (ny:Nat),acc.length≤1000000000→Z<ny→G 0=some (.var 27 root.cells)→G 1=some (.var 28 [rowT Man.cells L])→G 2=some (.var 29 [rowT Pl.cells t])→G A=some (.var 61 [x])→UQ G Z ny x acc→G Z=some (Lq.o .ready none)→
      (∀G' ny' x',ny≤ny'→(∀k,k<Z→k≠A→G' k=G k)→G' Z=some (Lq.o .ready none)→G' A=some (.var 61 [x'])→UQ G' Z ny' x' (acc++if iI root L t p=true then[]else[p])→K (bV true) G' ny')→DT Tryz.prog Z [iV p] K G ny:=by
     subst hL;clear g0 g1 g2 gA gR gV;intro p x acc K G ny hal hZn g0 g1 g2 gA hacc gZ k1;refine Oi mixed gZ rfl (by simp) rfl rfl fun hf=> ?_;refine aS fun K' hK=> ?_
     simp;apply hK;clear K' hK;refine⟨rfl,gZ,?_⟩;dsimp only;generalize (Lp.mk s 72 _ _ _)=Lq at gZ k1⊢;refine dL (aB ?_)
     have hmc:=BD root hro L hLl hLo t ht p;have hfine:iI root L t p=match manVal root L t p with
      | none=>false
      | some m=>(ofF m.deps root.rules (decide (p=0))).all (holdsV t p):=rfl
     have hmem:=fun m (h:manVal root L t p=some m)=>nM h;generalize manVal root L t p=r at hmc hfine hmem;cases r with
     | none=>
      refine aR fun K' hK=> ?_
      simp[s3,s4,s5,oZ0,oZ1,oZ2,g0,g1,g2];refine aO hmc (by simp) ?_;simp[uM,dO];apply hK;clear K' hK;apply aA;refine aR fun K' hK=> ?_
      simp;apply hK;clear K' hK;refine aX (by simp) ?_
      have hfine:iI root L t p=false:=hfine;have an:¬A=ny:=(by omega);have an1:¬A=ny+1:=(by omega);have an2:¬A=ny+2:=(by omega);have an3:¬A=ny+1+1:=(by omega);have zn:¬Z=ny:=(by omega);have za:¬Z=A:=(by omega);have zn1:¬Z=ny+1:=(by omega);have zn2:¬Z=ny+1+1:=(by omega);rcases hacc with⟨rfl,rfl⟩ | ⟨q,rfl,hq,hZq,hqn,hne⟩
      ·refine aA ?_;refine aR fun K' hK=> ?_
       simp[s11,gA,aZ,an,an1,an3,bQ,dA];apply hK;clear K' hK;apply bG
       (repeat first | with_reducible refine aH ?_ | with_reducible refine eF (by decide) ?_);refine aj (dB (by simp[zn,za,zn1,zn2]) ?_);refine k1 _ _ (.row (ny+1+1) 1) (by omega) (fun k hk hkA=>by repeat rw[Hp.upd_ne _ _ (by omega)]) (by simp) (by simp[aZ]) (.inr ⟨ny+1+1,by simp[hfine],?_,by omega,by omega,by simp[hfine]⟩);rw[hfine];rw[Hp.upd_ne _ _ (by omega),Hp.upd_ne _ _ (by omega),Hp.bW];rfl
      ·have b1:acc.length+1≤9223372036854775807:=(by omega);have b2:(acc.length+1)*8≤140737488355328:=(by omega);have qn:¬q=ny:=(by omega);have qn1:¬q=ny+1:=(by omega);have qZ:¬q=Z:=(by omega);have qA:¬q=A:=(by omega);have Aq:¬A=q:=(by omega);have Zq:¬Z=q:=(by omega);apply aA;refine aR fun K' hK=> ?_
       simp[s11,gA,hq,aZ,an,an1,an3,qn,qn1,qZ,qA,Aq,b1,b2,bQ,dA];apply hK;clear K' hK;apply bG
       (repeat first | with_reducible refine aH ?_ | with_reducible refine eF (by decide) ?_);refine aj (dB (by simp[zn,za,zn1,zn2,Zq]) ?_);refine k1 _ _ (.row (ny+1+1) (acc.length+1)) (by omega) (fun k hk hkA=>by repeat rw[Hp.upd_ne _ _ (by omega)]) (by simp) (by simp[aZ]) (.inr ⟨ny+1+1,by simp[hfine],?_,by omega,by omega,by simp[hfine]⟩);rw[hfine,Hp.upd_ne _ _ (by omega),Hp.upd_ne _ _ (by omega),Hp.bW,if_neg (by simp),←dV];rfl
     | some m=>
      refine aR fun K' hK=> ?_
      simp[s3,s4,s5,oZ0,oZ1,oZ2,g0,g1,g2];refine aO hmc (by simp) ?_;simp[uM,kM,Nat.add_comm 1 ny];apply hK;clear K' hK;apply aA;refine aR fun K' hK=> ?_
      simp;apply hK;clear K' hK;refine aYk (by simp) ?_
      refine fV (fun u H nz=>u 3=.ptr 0 0∧u 4=.ptr 1 0∧u 5=.ptr 2 0∧u 11=.ptr A 0∧u 12=iV p∧u 13=.ptr (ny+2) 0∧nz=ny+3∧(∀k,k<Z→H k=G k)∧H Z=some (Lq.o .busy none)∧(∀k,Z<k→k<ny→H k=G k)∧H ny=some (.row 35 (flat Dep.cells m.deps))∧H (ny+1)=some (.row 134 (flat Ru.cells m.rules))∧H (ny+2)=some (.var 27 (m.dX (.row ny m.deps.length) (.row (ny+1) m.rules.length)))) ?_ ?_
      ·have zn:¬Z=ny:=(by omega);have zn1:¬Z=ny+1:=(by omega);have zn2:¬Z=ny+2:=(by omega);exact⟨by simp[s3],by simp[s4],by simp[s5],by simp[s11],by simp,by simp,by omega,fun k hk=>by repeat rw[Hp.upd_ne _ _ (by omega)],by simp[zn,zn1,zn2],fun k h1 h2=>by repeat rw[Hp.upd_ne _ _ (by omega)],by simp,by simp,by simp⟩
      clear hf;rintro u H nz ⟨u3,u4,u5,u11,u12,u13,rfl,hHl,hHZ,hHu,hkd,hku,hkm⟩;have hmz:Man.sz m∧Man.okS m:=by
       rcases hmem m rfl with rfl | hin
       ·exact⟨hrz,hro⟩
       ·exact⟨hLz.2 _ hin,hLo _ hin⟩
      have z0:¬0=ny:=(by omega);have z1:¬0=ny+1:=(by omega);have z2:¬0=ny+2:=(by omega);have h0:H 0=some (.var 27 root.cells):=(by rw[hHl 0 (by omega)];exact g0);have hT:=nS (show¬ny+1=ny by omega) hkd hku;refine aR fun K' hK=> ?_
      simp[u3,u12,u13,hkm,h0];refine aO (FN m root.rules (decide (p=0)) hmz.2.1 hro.2) (by simp[hT]) ?_;simp[bK,hT];apply hK;clear K' hK;have hfine:iI root L t p=(ofF m.deps root.rules (decide (p=0))).all (holdsV t p):=hfine;have hEz:∀d∈ofF m.deps root.rules (decide (p=0)),Rg.sz d.range:=fun d hd=>by
       rcases wM hd with⟨e,he,h⟩ | ⟨e,he,h⟩
       ·rw[h];exact(hmz.1.2.2.1.2 e he).2
       ·rw[h];exact(hrz.2.2.2.2 e he).2
      have hEl:(ofF m.deps root.rules (decide (p=0))).length≤1000000000:=by
       have h1:=zW (decide (p=0)) m.deps;have h2:=hmz.1.2.2.1.1;unfold ofF;rw[List.length_map,(fE _).length_eq];simp only[cu,List.length_map];omega
      generalize ofF m.deps root.rules (decide (p=0))=E at*;refine dL (aB ?_)
      refine bH (fun u H nz=>u 5=.ptr 2 0∧u 11=.ptr A 0∧u 12=iV p∧(∀k,k<Z→H k=G k)∧H Z=some (Lq.o .busy none)∧(∀k,Z<k→k<ny→H k=G k)∧u 55=.row (ny+3) E.length∧H (ny+3)=some (.row 35 (flat Dep.cells E))∧u 56=iV E.length∧ny+4≤nz∧∃j:Nat,u 57=iV j∧j≤E.length∧(E.take j).all (holdsV t p)=true) (fun s _ _=>match s 57 with | .v (.int _ n)=>E.length-n.toNat | _=>0) ?_ ?_
      ·have e1:¬Z=ny+3:=(by omega);have e2:¬Z=ny:=(by omega);have e3:¬Z=ny+1:=(by omega);exact⟨by simp[u5],by simp[u11],by simp[u12],fun k hk=>by rw[Hp.upd_ne _ _ (by omega),dW (by omega),dW (by omega)];exact hHl k hk,by simp[e1,e2,e3,hHZ],fun k h1 h2=>by rw[Hp.upd_ne _ _ (by omega),dW (by omega),dW (by omega)];exact hHu k h1 h2,by simp,by simp,by simp,by omega,0,by simp,by omega,by simp⟩
      ·clear u3 u4 u5 u11 u12 u13 hHl hHZ hHu hkd hku hkm h0;rintro u H nz hf ⟨u5,u11,u12,hHl,hHZ,hHu,u55,hkE,u56,hnz,j,u57,hj,hjt⟩;have hw:IntKind.i64.wrap (↑j+1)=((j+1:Nat):Int):=dh (by omega);refine aR fun K' hK=> ?_
       simp[u56,u57];apply hK;clear K' hK;refine aC fun A B hA hB=> ?_
       simp;refine⟨fun hj2=>hA ?_,fun hj2=>hB ?_⟩<;>clear hA hB A B<;>(try simp at hj2)<;>(try with_reducible refine aK ?_)
       ·have hstep:=iK (p:=holdsV t p) hj2;have hdz:=hEz _ (bM hj2);have hfalse:holdsV t p (nth E j)=false→iI root L t p=false:=fun h=>(by rw[hfine];exact all_false hj2 h);generalize hgd:nth E j=d at*;have h2:H 2=some (.var 29 [rowT Pl.cells t]):=(by rw[hHl 2 (by omega)];exact g2);have hn2:¬2=nz:=(by omega);have e3:¬ny+3=nz:=(by omega);apply aB;refine aR fun K' hK=> ?_
        simp[u55,u57,hj2,hkE,hgd];apply hK;clear K' hK;refine aR fun K' hK=> ?_
        simp[u5,u12,h2,hn2];refine ak (nJ t ht hv p d hdz) rfl (by first | rfl | (simp;done) | (simp;rfl) | (simp;exact⟨rfl,rfl⟩)) ?_;by_cases hd:holdsV t p d=true
        ·simp[hd];apply hK;clear K' hK;refine aVk (by simp) ?_;apply aj
         refine ah ?_;refine aS fun K' hK=> ?_
         simp[u57,hw];apply hK;clear K' hK;refine aj (ay ?_ ?_)
         ·exact⟨by simp[u5],by simp[u11],by simp[u12],fun k hk=>by rw[Hp.upd_ne _ _ (by omega),Hp.upd_ne _ _ (by omega)];exact hHl k hk,by rw[Hp.upd_ne _ _ (by omega),Hp.upd_ne _ _ (by omega)];exact hHZ,fun k h1 h2=>by rw[Hp.upd_ne _ _ (by omega),Hp.upd_ne _ _ (by omega)];exact hHu k h1 h2,by simp[u55],by rw[Hp.upd_ne _ _ (by omega),Hp.upd_ne _ _ (by omega)];exact hkE,by simp[u56],by omega,j+1,by simp[hw],by omega,by rw[hstep,hjt,hd];rfl⟩
         ·simp[u57,hw];omega
        ·simp[hd];apply hK;clear K' hK;refine aU (by simp) ?_
         have hfine2:iI root L t p=false:=hfalse (by simpa using hd);have hA2:H A=some (.var 61 [x]):=(by rw[hHl A (by omega)];exact gA);have an:¬A=nz:=(by omega);have an1:¬A=nz+1:=(by omega);have an3:¬A=nz+1+1:=(by omega);have zn:¬Z=nz:=(by omega);have za:¬Z=A:=(by omega);have zn1:¬Z=nz+1:=(by omega);have zn2:¬Z=nz+1+1:=(by omega);rcases hacc with⟨rfl,rfl⟩ | ⟨q,rfl,hq,hZq,hqn,hne⟩
         ·refine aA ?_;refine aR fun K' hK=> ?_
          simp[u11,u12,hA2,an,an1,an3,bQ,dA];apply hK;clear K' hK;apply bG
          (repeat first | with_reducible refine aH ?_ | with_reducible refine eF (by decide) ?_ | with_reducible refine aI ?_);refine aj (dB (by simp[zn,za,zn1,zn2,hHZ]) ?_);refine k1 _ _ (.row (nz+1+1) 1) (by omega) (fun k hk hkA=>by(repeat rw[Hp.upd_ne _ _ (by omega)]);exact hHl k hk) (by simp) (by simp[aZ]) (.inr ⟨nz+1+1,by simp[hfine2],?_,by omega,by omega,by simp[hfine2]⟩);rw[hfine2,Hp.upd_ne _ _ (by omega),Hp.upd_ne _ _ (by omega),Hp.bW];rfl
         ·have hq2:H q=some (.row 3 (flat iC acc)):=(by rw[hHu q hZq hqn];exact hq);have b1:acc.length+1≤9223372036854775807:=(by omega);have b2:(acc.length+1)*8≤140737488355328:=(by omega);have qn:¬q=nz:=(by omega);have qn1:¬q=nz+1:=(by omega);have qZ:¬q=Z:=(by omega);have qA:¬q=A:=(by omega);have Aq:¬A=q:=(by omega);have Zq:¬Z=q:=(by omega);apply aA;refine aR fun K' hK=> ?_
          simp[u11,u12,hA2,hq2,an,an1,an3,qn,qn1,qZ,qA,Aq,b1,b2,bQ,dA];apply hK;clear K' hK;apply bG
          (repeat first | with_reducible refine aH ?_ | with_reducible refine eF (by decide) ?_ | with_reducible refine aI ?_);refine aj (dB (by simp[zn,za,zn1,zn2,Zq,hHZ]) ?_);refine k1 _ _ (.row (nz+1+1) (acc.length+1)) (by omega) (fun k hk hkA=>by(repeat rw[Hp.upd_ne _ _ (by omega)]);exact hHl k hk) (by simp) (by simp[aZ]) (.inr ⟨nz+1+1,by simp[hfine2],?_,by omega,by omega,by simp[hfine2]⟩);rw[hfine2,Hp.upd_ne _ _ (by omega),Hp.upd_ne _ _ (by omega),Hp.bW,if_neg (by simp),←dV];rfl
       ·skip;apply bG
        refine aI (aH ?_);have hjE:j=E.length:=(by omega);subst hjE;rw[List.take_length]at hjt;have hfine2:iI root L t p=true:=(by rw[hfine];exact hjt);apply aj
        refine ah ?_;refine aj (dB hHZ ?_);refine k1 _ _ x (by omega) (fun k hk hkA=>by rw[Hp.upd_ne _ _ (by omega)];exact hHl k hk) (by simp) (by rw[Hp.upd_ne _ _ (by omega),hHl A (by omega)];exact gA) ?_;rw[hfine2,if_pos rfl,List.append_nil];rcases hacc with h | ⟨q,hx,hq,hZq,hqn,hne⟩
        ·exact .inl h
        ·exact .inr ⟨q,hx,by rw[Hp.upd_ne _ _ (by omega),hHu q hZq hqn];exact hq,hZq,by omega,hne⟩
    refine aR fun K' hK=> ?_
    simp[gV,vZ,rZ,gR];apply hK;clear K' hK;refine dL (aB ?_)
    refine bH (fun t' G' ny=>Z<ny∧t' 0=.yl Z∧t' 5=.row R (fF t 0).length∧t' 6=iV (fF t 0).length∧G' 0=some (.var 27 root.cells)∧G' 1=some (.var 28 [rowT Man.cells L])∧G' 2=some (.var 29 [rowT Pl.cells t])∧G' R=some (.row 3 (flat iC (fF t 0)))∧G' Z=some (Lq.o .ready none)∧∃(i:Nat) (x:AV),t' 7=iV i∧i≤(fF t 0).length∧G' A=some (.var 61 [x])∧UQ G' Z ny x (((fF t 0).take i).filter fun p=> !iI root L t p)) (fun s _ _=>match s 7 with | .v (.int _ n)=>(fF t 0).length-n.toNat | _=>0) ?_ ?_
    ·exact⟨by omega,by simp,by simp,by simp,by simp[oZ0,g0],by simp[oZ1,g1],by simp[oZ2,g2],by simp[rZ,gR],by simp,0,_,by simp,by omega,by simp[aZ,gA],.inl ⟨rfl,by simp⟩⟩
    ·rintro t' G' ny-⟨hZn,u0,u5,u6,h0,h1,h2,hR',hZ',i,x,u7,hi,hA',hacc⟩;have hw:IntKind.i64.wrap (↑i+1)=((i+1:Nat):Int):=dh (by omega);refine aR fun K' hK=> ?_
     simp[u6,u7];apply hK;clear K' hK;refine aC fun A B hA hB=> ?_
     simp;refine⟨fun hi2=>hA ?_,fun hi2=>hB ?_⟩<;>clear hA hB A B<;>(try simp at hi2)<;>(try with_reducible refine aK ?_)
     ·have hst:((fF t 0).take (i+1)).filter (fun p=> !iI root L t p)=((fF t 0).take i).filter (fun p=> !iI root L t p)++if iI root L t (nth (fF t 0) i)=true then[]else[nth (fF t 0) i]:=by
       rw[List.take_add_one,List.getElem?_eq_getElem hi2,List.filter_append,←bZ hi2];congr 1;cases hf2:iI root L t (nth (fF t 0) i)<;>simp[hf2]
      apply aB;refine aR fun K' hK=> ?_
      simp[u5,u7,hi2,hR'];apply hK;clear K' hK;refine aR fun K' hK=> ?_
      simp[u0];refine⟨⟨_,_,_,_,_,_,_,hZ'⟩,hround (nth (fF t 0) i) x _ _ _ _ (Nat.le_trans (List.length_filter_le _ _) (by rw[List.length_take];omega)) hZn h0 h1 h2 hA' hacc hZ' (fun G2 ny2 x' hn2 hG h5' hA2 hacc2=> ?_)⟩;simp;apply hK;clear K' hK;refine aVk (by simp) ?_;apply aj
      refine ah ?_;refine aS fun K' hK=> ?_
      simp[u7,hw];apply hK;clear K' hK;refine aj (ay ?_ ?_)
      ·exact⟨by omega,by simp[u0],by simp[u5],by simp[u6],by rw[hG 0 (by omega) (by omega)];exact h0,by rw[hG 1 (by omega) (by omega)];exact h1,by rw[hG 2 (by omega) (by omega)];exact h2,by rw[hG R (by omega) (by omega)];exact hR',h5',i+1,x',by simp[hw],by omega,hA2,by rw[hst];exact hacc2⟩
      ·simp[u7,hw];omega
     ·skip;apply bG
      refine aI (aH ?_);rw[List.take_of_length_le (by omega)]at hacc;have hacc:UQ G' Z ny x (mY root L t):=hacc;refine aj (iw (.inl rfl) hZ' ?_);rw[hLs];refine ah ?_;rcases hacc with⟨rfl,hnil⟩ | ⟨r,rfl,hr,hZr,hrn,hne⟩
      ·have hR1:mg root L t=(.tup [.v (.slice none 0 0),iV 0],[]):=(by rw[mg,if_pos hc0,if_pos hnil]);rw[hR1];refine aR fun K' hK=> ?_
       simp[s11,aZ,hA'];apply hK;clear K' hK;apply aF
       simp[au,aG,Post,aW,res1,bF,bC,aP,bg,bf,okT,okA,ok1,rowOf,Tryz.f30,lH]
      ·have hR1:mg root L t=(.tup [.row 0 (mY root L t).length,iV 0],[(3,flat iC (mY root L t))]):=(by rw[mg,if_pos hc0,if_neg hne]);rw[hR1];have q1:¬r=Z:=(by omega);refine aR fun K' hK=> ?_
       simp[s11,aZ,hA'];apply hK;clear K' hK;apply aF
       simp[au,aG,Post,aW,res1,bF,bC,aP,bg,bf,okT,okA,ok1,rowOf,Tryz.f30,lH,q1,hr]
 ·unfold mg;split
  ·split<;>rfl
  ·rfl
def validN (root:Man) (L:List Man) (t:List Pl):Bool:=decide (codeV root L t=0)&&decide (mY root L t=[])
set_option maxRecDepth 100000
set_option maxHeartbeats 4000000
def J3 (L:List Man):Bool:=decide (110<L.length) || L.any xq
theorem Qg (L:List Man) (hl:L.length≤9223372036854775807):CallsOK Tryz.prog 76 [rowT Man.cells L] (bV (J3 L)) []:=by
 refine aN mixed Tryz.call76 Tryz.func76 rfl (by rw[Tryz.ntmps76];simp) ?_ rfl;rw[Tryz.ntmps76];refine aR fun K' hK=> ?_
 simp;apply hK;clear K' hK;apply aA;refine aR fun K' hK=> ?_
 simp;apply hK;clear K' hK;refine aC fun A B hA hB=> ?_
 simp;refine⟨fun h1=>hA ?_,fun h1=>hB ?_⟩<;>clear hA hB A B<;>(try simp at h1)<;>(try with_reducible refine aK ?_)
 ·refine aA ?_;refine aR fun K' hK=> ?_
  simp;apply hK;clear K' hK;apply aJ
  simp[au,aG,Post,aW,res1,bF,bC,aP,bg,bf,okT,okA,ok1,rowOf,Tryz.f76];simp[J3];left;omega
 ·refine aA ?_;refine aR fun K' hK=> ?_
  simp;apply hK;clear K' hK;apply aB
  refine bH (fun s G nx=>s 0=rowT Man.cells L∧∃i:Nat,s 3=iV i∧i≤L.length∧(L.take i).any xq=false) (fun s _ _=>match s 3 with | .v (.int _ n)=>L.length-n.toNat | _=>0) ?_ ?_
  ·exact⟨by simp,0,by simp,by omega,by simp⟩
  ·rintro s G nx-⟨s0,i,s3,hi,ht⟩;have hw:IntKind.i64.wrap (↑i+1)=((i+1:Nat):Int):=dh (by omega);apply aA;refine aR fun K' hK=> ?_
   simp[s0,s3];apply hK;clear K' hK;refine aC fun A B hA hB=> ?_
   simp;refine⟨fun hi2=>hA ?_,fun hi2=>hB ?_⟩<;>clear hA hB A B<;>(try simp at hi2)<;>(try with_reducible refine aK ?_)
   ·skip;apply aB;refine aR fun K' hK=> ?_
    simp[s0,s3,hi2];refine ak (GU (nth L i)) rfl (by simp) ?_;simp;apply hK;clear K' hK;by_cases c:xq (nth L i)=true
    ·skip;refine aU (by simp[c]) ?_;apply aA;refine aR fun K' hK=> ?_
     simp;apply hK;clear K' hK;apply aJ
     simp[au,aG,Post,aW,res1,bF,bC,aP,bg,bf,okT,okA,ok1,rowOf,Tryz.f76];simp only[J3,Bool.or_eq_true,List.any_eq_true];exact .inr ⟨_,bM hi2,c⟩
    ·skip;refine aVk (by simp[c]) ?_;apply aj
     refine ah ?_;refine aS fun K' hK=> ?_
     simp[s3,hw];apply hK;clear K' hK;refine aj (ay ?_ ?_)
     ·exact⟨by simp[s0],i+1,by simp[hw],by omega,lW hi2 ht (by simpa using c)⟩
     ·simp[s3,hw];omega
   ·skip;apply bG
    refine aI (aH ?_);rw[List.take_of_length_le (by omega)]at ht;refine aR fun K' hK=> ?_
    simp;apply hK;clear K' hK;apply aF
    simp[au,aG,Post,aW,res1,bF,bC,aP,bg,bf,okT,okA,ok1,rowOf,Tryz.f76];simp only[J3,ht,Bool.or_false,decide_eq_false_iff_not];omega
def OZ (root:Man) (L:List Man) (t:List Pl):Bool:=xq root || (J3 L || bigT t)
theorem PX (root:Man) (L:List Man) (t:List Pl) (hl:L.length≤9223372036854775807) (ht:t.length≤9223372036854775807):CallsOK Tryz.prog 38 [.agg root.cells,rowT Man.cells L,rowT Pl.cells t] (bV (OZ root L t)) []:=by
 refine aN mixed Tryz.call38 Tryz.func38 rfl (by rw[Tryz.ntmps38];simp) ?_ rfl;rw[Tryz.ntmps38];refine aR fun K' hK=> ?_
 simp;apply hK;clear K' hK;refine aR fun K' hK=> ?_
 simp;refine ak (GU root) rfl (by simp) ?_;by_cases c1:xq root=true
 ·simp[c1];apply hK;clear K' hK;apply aF
  simp[au,aG,Post,aW,res1,bF,bC,aP,bg,bf,okT,okA,ok1,rowOf,Tryz.f38];simp[OZ,c1]
 ·simp[c1];refine ak (Qg L hl) rfl (by simp) ?_;by_cases c2:J3 L=true
  ·simp[c2];apply hK;clear K' hK;apply aF
   simp[au,aG,Post,aW,res1,bF,bC,aP,bg,bf,okT,okA,ok1,rowOf,Tryz.f38];simp[OZ,c2]
  ·simp[c2];refine ak (Qj t ht) rfl (by simp) ?_;simp;apply hK;clear K' hK;apply aF
   simp[au,aG,Post,aW,res1,bF,bC,aP,bg,bf,okT,okA,ok1,rowOf,Tryz.f38];simp[OZ,c1,c2]
set_option maxRecDepth 100000
theorem op3:Opens Tryz.prog (fun _:Int=>True) (fun n=>[iV n]) 3:=(wQ (k:=.i64) (by kernel_rfl)).map id (fun _ _=>trivial) fun _=>rfl
theorem Wx:Opens Tryz.prog (fun _:Int=>True) (fun n=>[iV n]) 72:=(wQ (k:=.i64) (by kernel_rfl)).map id (fun _ _=>trivial) fun _=>rfl
theorem V5:Opens Tryz.prog (fun _:Int=>True) (fun n=>[iV n]) 30:=(wQ (k:=.i64) (by kernel_rfl)).map id (fun _ _=>trivial) fun _=>rfl
theorem op9:Opens Tryz.prog (fun s:Bs=>s.size≤maxLen) (fun n=>[sV n]) 9:=(Dv (by kernel_rfl)).map id (fun _ h=>h) fun _=>rfl
theorem VF:Opens Tryz.prog (fun v:Ver=>v.pre.size≤maxLen) Ver.cells 23:=
 (gX (dI 1 op3 (dI 1 op3 (dI 1 op3 (dI 1 op9 (jD (n:=4)) (by kernel_rfl)) (by kernel_rfl)) (by kernel_rfl)) (by kernel_rfl)) (by kernel_rfl) (by kernel_rfl)).map
  (fun x=>⟨x.1,x.2.1,x.2.2.1,x.2.2.2.1⟩) (fun _ h=>h.2.2.2.1) fun _=>rfl
theorem Wp:Opens Tryz.prog (fun _=>True) Pl.cells 50:=
 (gX (dI 1 op3 (dI 1 op9 (dI 4 VF (jD (n:=6)) (by kernel_rfl)) (by kernel_rfl)) (by kernel_rfl)) (by kernel_rfl) (by kernel_rfl)).map
  (fun x=>⟨x.1,x.2.1,x.2.2.1⟩) (fun _ _=>trivial) fun _=>rfl
theorem op29:Opens Tryz.prog (fun l:List Pl=>l.length≤maxLen) (fun l:List Pl=>[rowT Pl.cells l]) 29:=(jv Wp (by kernel_rfl) (by kernel_rfl)).map id (fun _ h=>h.1) fun _=>rfl
theorem V3:Opens Tryz.prog (fun _=>True) Bd.cells 74:=
 (gX (dI 1 Wx (dI 4 VF (jD (n:=5)) (by kernel_rfl)) (by kernel_rfl)) (by kernel_rfl) (by kernel_rfl)).map
  (fun x=>⟨x.1,x.2.1⟩) (fun _ _=>trivial) fun _=>rfl
theorem VX:Opens Tryz.prog (fun l:Alt=>l.length≤maxLen) Alt.cells 71:=(jv V3 (by kernel_rfl) (by kernel_rfl)).map id (fun _ h=>h.1) fun _=>rfl
def Rg.okO (r:Rg):Prop:=r.length≤maxLen∧∀l∈r,l.length≤maxLen
theorem Wj:Opens Tryz.prog Rg.okO Rg.cells 31:=(jv VX (by kernel_rfl) (by kernel_rfl)).map id (fun _ h=>h) fun _=>rfl
theorem VQ:Opens Tryz.prog Rg.okO Rg.cells 33:=
 (gX (dI 1 Wj (jD (n:=1)) (by kernel_rfl)) (by kernel_rfl) (by kernel_rfl)).map (fun x=>x.1) (fun _ h=>h.1) fun x=>by simp[Rg.cells]
def Dep.okO (d:Dep):Prop:=d.name.size≤maxLen∧Rg.okO d.range
theorem Wi:Opens Tryz.prog Dep.okO Dep.cells 35:=
 (gX (dI 1 V5 (dI 1 op9 (dI 1 VQ (jD (n:=3)) (by kernel_rfl)) (by kernel_rfl)) (by kernel_rfl)) (by kernel_rfl) (by kernel_rfl)).map
  (fun x=>⟨x.1,x.2.1,x.2.2.1⟩) (fun _ h=>⟨h.2.1,h.2.2.1⟩) fun _=>rfl
def Ru.okO (d:Ru):Prop:=d.name.size≤maxLen∧Rg.okO d.range
theorem V8:Opens Tryz.prog Ru.okO Ru.cells 134:=
 (gX (dI 1 op9 (dI 1 VQ (jD (n:=2)) (by kernel_rfl)) (by kernel_rfl)) (by kernel_rfl) (by kernel_rfl)).map
  (fun x=>⟨x.1,x.2.1⟩) (fun _ h=>⟨h.1,h.2.1⟩) fun _=>rfl
theorem VW:Opens Tryz.prog (fun l:List Dep=>l.length≤maxLen∧∀d∈l,Dep.okO d) (fun l:List Dep=>[rowT Dep.cells l]) 24:=(jv Wi (by kernel_rfl) (by kernel_rfl)).map id (fun _ h=>h) fun _=>rfl
theorem V7:Opens Tryz.prog (fun l:List Ru=>l.length≤maxLen∧∀d∈l,Ru.okO d) (fun l:List Ru=>[rowT Ru.cells l]) 25:=(jv V8 (by kernel_rfl) (by kernel_rfl)).map id (fun _ h=>h) fun _=>rfl
theorem op27:Opens Tryz.prog (fun _:Man=>True) Man.cells 27:=
 (gX (dI 1 op9 (dI 4 VF (dI 1 VW (dI 1 V7 (jD (n:=7)) (by kernel_rfl)) (by kernel_rfl)) (by kernel_rfl)) (by kernel_rfl)) (by kernel_rfl) (by kernel_rfl)).map
  (fun x=>⟨x.1,x.2.1,x.2.2.1,x.2.2.2.1⟩) (fun _ _=>trivial) fun _=>rfl
theorem op28:Opens Tryz.prog (fun l:List Man=>l.length≤maxLen) (fun l:List Man=>[rowT Man.cells l]) 28:=(jv op27 (by kernel_rfl) (by kernel_rfl)).map id (fun _ h=>h.1) fun _=>rfl
set_option maxRecDepth 100000
theorem QJ {α:Type} :∀ {l:List α},l.length=2→∃a b,l=[a,b]
 | [a,b],_=>⟨a,b,rfl⟩
theorem SC {α:Type} :∀ {l:List α},l.length=5→∃a b c d e,l=[a,b,c,d,e]
 | [a,b,c,d,e],_=>⟨a,b,c,d,e,rfl⟩
theorem Uz {α:Type} :∀ {l:List α},l.length=10→∃a b c d e f g h i j,l=[a,b,c,d,e,f,g,h,i,j]
 | [a,b,c,d,e,f,g,h,i,j],_=>⟨a,b,c,d,e,f,g,h,i,j,rfl⟩
theorem wR {enc:TypeId×Value→Unit} {w:World} {base fuel:Nat} {sp:Nat→Bool} {held:Bool} {cs:List Value} {x:DataW Unit×List MemPlace} {n:Int} {b:List UInt8}
  (h:DataW.trod enc Tryz.prog w base sp held fuel 190 cs=some x) (hx:x.1=.agg [.lit (.int .i64 n),.lit (.string b)]):cs=[.int .i64 n,.string (ofL b)]:=by
 have hu:∃fs:Array Field,Tryz.prog.underlying 190=some (.struct fs)∧fs.size=2∧(fs[0]?.map fun f=>(f.type,f.offset))=some (72,0)∧(fs[1]?.map fun f=>(f.type,f.offset))=some (9,1):=by
  have hk:(match Tryz.prog.underlying 190 with | some (.struct fs)=>fs.size==2&&((fs[0]?.map fun f=>(f.type,f.offset))==some (72,0)&&(fs[1]?.map fun f=>(f.type,f.offset))==some (9,1)) | _=>false)=true:=(by kernel_rfl);split at hk
  ·rename_i fs hf;simp only[Bool.and_eq_true,beq_iff_eq]at hk;exact⟨fs,hf,hk.1,hk.2.1,hk.2.2⟩
  ·cases hk
 obtain⟨fs,hf,h2,f0,f1⟩:=hu;obtain⟨xs,m,rfl,rfl,hl,hxl,hat⟩:=DataW.trod_struct hf h;obtain⟨g0,hg0,e0⟩:=Option.map_eq_some_iff.1 f0;obtain⟨g1,hg1,e1⟩:=Option.map_eq_some_iff.1 f1;injection e0 with e00 e01;injection e1 with e10 e11;have a0:=hat 0 g0 hg0;have a1:=hat 1 g1 hg1;rw[e00,e01]at a0;rw[e10,e11]at a1;have c85:Tryz.prog.cellsOf 72=1:=(by kernel_rfl);have c9:Tryz.prog.cellsOf 9=1:=(by kernel_rfl);have c212:Tryz.prog.cellsOf 190=2:=(by kernel_rfl);have u85:Tryz.prog.underlying 72=some (.int .i64):=(by kernel_rfl);have u9:Tryz.prog.underlying 9=some .string:=(by kernel_rfl);rw[c85]at a0;rw[c9]at a1;rw[c212]at hl;injection hx with hx;rw[h2]at hxl;obtain⟨x0,x1,rfl⟩:=QJ hxl;obtain⟨p,q,rfl⟩:=QJ hl;simp at a0 a1 hx;obtain⟨k,hc0,hx0,_⟩:=DataW.trod_int u85 a0;obtain⟨s,hc1,hx1,_⟩:=DataW.trod_string u9 a1;subst hx0;subst hx1;simp at hc0 hc1 hx;subst hc0;subst hc1;obtain⟨rfl,h3⟩:=hx;rw[←h3];simp[ofL]
theorem DW {enc:TypeId×Value→Unit} {w:World} {base fuel:Nat} {sp:Nat→Bool} {held:Bool} {cs:List Value} {p:List MemPlace}
  (h:DataW.trod enc Tryz.prog w base sp held fuel 191 cs=some (Proofs.YtmmbgjmigmchbaaGreatDoor.Rows.laid_hogget_span_signs,p)):cs=tK:=by
 have u213:Tryz.prog.underlying 191=some (.array 5 190):=(by kernel_rfl);have c212:Tryz.prog.cellsOf 190=2:=(by kernel_rfl);have c213:Tryz.prog.cellsOf 191=10:=(by kernel_rfl);obtain⟨xs,m,rfl,hx,hl,hxl,hat⟩:=DataW.trod_array u213 h;rw[c212]at hat;rw[c213]at hl;have hx1:=congrArg Prod.fst hx;simp only at hx1;unfold Proofs.YtmmbgjmigmchbaaGreatDoor.Rows.laid_hogget_span_signs at hx1;injection hx1 with hx1;obtain⟨x0,x1,x2,x3,x4,rfl⟩:=SC hxl;obtain⟨d0,d1,d2,d3,d4,d5,d6,d7,d8,d9,rfl⟩:=Uz hl;simp at hx1;obtain⟨y0,y1,y2,y3,y4⟩:=hx1;have b0:=wR (hat 0 (by omega)) y0.symm;have b1:=wR (hat 1 (by omega)) y1.symm;have b2:=wR (hat 2 (by omega)) y2.symm;have b3:=wR (hat 3 (by omega)) y3.symm;have b4:=wR (hat 4 (by omega)) y4.symm;simp at b0 b1 b2 b3 b4;simp[tK,b0,b1,b2,b3,b4,ofL]
set_option maxRecDepth 100000
theorem maxLen_le {n:Nat} (h:n≤maxLen):n≤9223372036854775807:=h
def Ub:List (String×DataW Unit):=Proofs.YtmmbgjmigmchbaaGreatDoor.Rows.nestSpotsRow.laid
theorem Ez {w w':World} (h:ExtC (fun _=>False) w w') {n:String} {cs:Array Value} (hv:w.var? Tryz.prog n=some cs):w'.var? Tryz.prog n=some cs:=by
 unfold World.var? at hv⊢;cases hg:Tryz.prog.globalNamed n with
 | none=>rw[hg]at hv;cases hv
 | some g=>
  rw[hg]at hv;simp only[Option.bind_some]at hv⊢;cases ho:w.heap[g]? with
  | none=>rw[ho]at hv;cases hv
  | some o=>
   rw[ho]at hv;cases o<;>simp at hv;subst hv;rw[h.same g _ ho rfl (fun h=>h)]
theorem Hf {w w':World} (h:ExtC (fun _=>False) w w') {a:Addr} {v:Value} (hv:w.cell? a=some v):w'.cell? a=some v:=by
 unfold World.cell? at hv⊢;cases ho:w.heap[a.block]? with
 | none=>rw[ho]at hv;cases hv
 | some o=>
  rw[ho]at hv;cases o<;>simp at hv;rw[h.same a.block _ ho rfl (fun h=>h)];simpa using hv
theorem gl_ext {w w':World} (h:ExtC (fun _=>False) w w') (hg:Gl.ok Tryz.prog w):Gl.ok Tryz.prog w':=by
 obtain⟨h1,⟨a,b,h2⟩,⟨c,d,h3⟩,⟨m,h4⟩,h5⟩:=hg;exact⟨Ez h h1,⟨a,b,Ez h h2⟩,⟨c,d,Ez h h3⟩,⟨m,Hf h h4⟩,fun i v hv=>Hf h (h5 i v hv)⟩
theorem star: "*"++ "errors.errorString"= "*errors.errorString":=by decide
theorem QF (u:TypeId) (h:Tryz.prog.typeName? 3 u=some "*errors.errorString"):u=289:=
 typeName_ptr_named (nm:= "errors.errorString") (by rw[star];kernel_rfl) (by kernel_rfl) (by decide) u (by rw[star];exact h)
theorem Ud:∃ms,Tryz.prog.underlying 219=some (.interface ms):=by
 have h:(Tryz.prog.underlying 219).any (fun | .interface _=>true | _=>false)=true:=(by kernel_rfl);cases hu:Tryz.prog.underlying 219 with
 | none=>rw[hu]at h;cases h
 | some x=>rw[hu]at h;cases x<;>first | exact⟨_,rfl⟩ | cases h
theorem gl_of {W:World} (hL:laidMetH Tryz.prog Ub W) (hsh:W.ShapedOpen Tryz.prog):Gl.ok Tryz.prog W:=by
 rw[MakeChecks.laidMetH_plain _ _ _ (by kernel_rfl)]at hL;have h3:=hL.tail.tail;have h5:=h3.tail.tail;have h6:=h5.tail;have h7:=h6.tail;obtain⟨ms,hi⟩:=Ud;obtain⟨a5,s5,v5,_⟩:=laid_sentinel h5 (g:=6) (ti:=219) (tp:=289) (te:=291) (ts:=9) (by kernel_rfl) (by kernel_rfl) hi QF (by kernel_rfl) Tryz.underlying291 rfl rfl (by kernel_rfl) (by kernel_rfl) (by kernel_rfl);obtain⟨a6,s6,v6,_⟩:=laid_sentinel h6 (g:=5) (ti:=219) (tp:=289) (te:=291) (ts:=9) (by kernel_rfl) (by kernel_rfl) hi QF (by kernel_rfl) Tryz.underlying291 rfl rfl (by kernel_rfl) (by kernel_rfl) (by kernel_rfl);refine⟨?_,⟨_,_,v6⟩,⟨_,_,v5⟩,?_,?_⟩
 ·exact Lib.tabIs_of_head (g:=2) (t:=258) (e:=207) (n:=20) (by kernel_rfl) (by kernel_rfl) (by kernel_rfl) (by kernel_rfl) (by kernel_rfl) (by kernel_rfl) h3
 ·exact cell_of_shapedOpen_int (t:=3) (zero:= #[.int .i64 0]) hsh (of_decide_eq_true (by kernel_rfl)) (by kernel_rfl) rfl (by kernel_rfl) (by kernel_rfl) (by kernel_rfl)
 ·have hg0:Tryz.prog.globalNamed "hogget/span.signs"=some 0:=(by kernel_rfl);have hty:(Tryz.prog.globals[0]?).map (·.type)=some 191:=(by kernel_rfl);obtain⟨ps,⟨g',t',cs,fuel,p,q,hg',ht',hvar,hd,_,_⟩,_⟩:=h7;obtain rfl:=Option.some.inj (hg0.symm.trans hg');obtain rfl:=Option.some.inj (hty.symm.trans ht');have hcs:=DW hd;intro i v hv;rw[World.var?_cell hg0 hvar i];have:cs[i]? =cs.toList[i]? :=(by simp);rw[this,hcs];exact hv
def Dq:DataW Unit→List Value
 | .agg l=>l.filterMap fun | .lit (.int k n)=>some (.int k n) | _=>none
 | _=>[]
def SY:DataW Unit→List Value
 | .agg l=>l.flatMap Dq
 | _=>[]
noncomputable def low:Nat:=(World.holding Tryz.prog default ⟨#[], #[],[]⟩).heap.size
noncomputable def laidWorld (os:Os):World:=
 let w0:=World.holding Tryz.prog os ⟨#[.cells #[.string ⟨#[118,97,108,117,101,32,111,117,116,32,111,102,32,114,97,110,103,101]⟩] 291,.cells #[.string ⟨#[105,110,118,97,108,105,100,32,115,121,110,116,97,120]⟩] 291], #[],[]⟩
 let put (h:Array Obj) (g:Nat) (cs:List Value):Array Obj:=h.modify g fun
  | .cells _ t frozen=> .cells cs.toArray t frozen
  | o=>o
 let h0:=put w0.heap 0 tK
 let h1:=put h0 2 (Dq Proofs.YtmmbgjmigmchbaaGreatDoor.Rows.laid_internal_strconv_uint64pow10)
 let h2:=put h1 3 (Dq Proofs.YtmmbgjmigmchbaaGreatDoor.Rows.laid_unicode_utf8_first)
 let h3:=put h2 4 (SY Proofs.YtmmbgjmigmchbaaGreatDoor.Rows.laid_unicode_utf8_acceptRanges)
 let h4:=put h3 5 [.iface 289 (.pointer (some ⟨low+1,0,none⟩))]
 let h5:=put h4 6 [.iface 289 (.pointer (some ⟨low,0,none⟩))]
 let h6:=put h5 7 (Dq Proofs.YtmmbgjmigmchbaaGreatDoor.Rows.laid_math_bits_deBruijn32tab)
 let h7:=put h6 8 (Dq Proofs.YtmmbgjmigmchbaaGreatDoor.Rows.laid_math_bits_deBruijn64tab)
 {w0 with heap:=h7}
theorem laid_met (os:Os) (args:Array Value):laidMet Tryz.prog Ub ((laidWorld os).forCall (fun _ _=>0) ⟨#[],args,[]⟩).memory:=
 laidMet_of_run' 8 (by kernel_rfl) (by kernel_rfl)
set_option maxRecDepth 100000
set_option maxHeartbeats 400000
structure Cmp {α:Type} (f:α→α→Int):Prop where
 anti:∀a b,f b a= -f a b
 trans:∀a b c,f a b<0→f b c<0→f a c<0
 cong:∀a b c,f a b=0→f b c=f a c
def G8 {α:Type} (f g:α→α→Int) (a b:α):Int:=if f a b=0 then g a b else f a b
theorem Cmp.TL {α:Type} {f:α→α→Int} (h:Cmp f) {a b c:α} (e:f b c=0):f a b=f a c:=by
 have h1:=h.anti b c;have h2:=h.cong c b a (by omega);have h3:=h.anti a b;have h4:=h.anti a c;omega
theorem Cmp.lex {α:Type} {f g:α→α→Int} (hf:Cmp f) (hg:Cmp g):Cmp (G8 f g):=by
 refine⟨fun a b=> ?_,fun a b c h1 h2=> ?_,fun a b c h=> ?_⟩
 ·have h1:=hf.anti a b;have h2:=hg.anti a b;unfold G8;by_cases h:f a b=0
  ·rw[if_pos h,if_pos (by omega)];exact h2
  ·rw[if_neg h,if_neg (by omega)];exact h1
 ·unfold G8 at*;by_cases e1:f a b=0
  ·rw[if_pos e1]at h1;have:=hf.cong a b c e1;by_cases e2:f b c=0
   ·rw[if_pos e2]at h2;rw[if_pos (by omega)];exact hg.trans a b c h1 h2
   ·rw[if_neg e2]at h2;rw[if_neg (by omega)];omega
  ·rw[if_neg e1]at h1;by_cases e2:f b c=0
   ·have:=hf.TL (a:=a) e2;rw[if_neg (by omega)];omega
   ·rw[if_neg e2]at h2;have:=hf.trans a b c h1 h2;rw[if_neg (by omega)];exact this
 ·unfold G8 at*;by_cases e1:f a b=0
  ·rw[if_pos e1]at h;have h1:=hf.cong a b c e1;have h2:=hg.cong a b c h;rw[h1,h2]
  ·rw[if_neg e1]at h;exact absurd h e1
theorem Cmp.on {α β:Type} {f:α→α→Int} (hf:Cmp f) (k:β→α):Cmp (fun a b=>f (k a) (k b)):=
 ⟨fun a b=>hf.anti _ _,fun a b c=>hf.trans _ _ _,fun a b c=>hf.cong _ _ _⟩
theorem wo (a b:Int):gB b a= -gB a b:=by
 unfold gB;rcases Int.lt_trichotomy a b with h | h | h
 ·rw[if_neg (by omega),if_pos h,if_pos h];rfl
 ·subst h;simp
 ·rw[if_pos h,if_neg (by omega),if_pos h]
theorem qR {a b:Int} :gB a b<0↔a<b:=by
 unfold gB;rcases Int.lt_trichotomy a b with h | h | h
 ·rw[if_pos h];exact⟨fun _=>h,fun _=>by decide⟩
 ·rw[if_neg (by omega),if_neg (by omega)];exact⟨fun h=>by omega,fun h=>by omega⟩
 ·rw[if_neg (by omega),if_pos h];exact⟨fun h=>by omega,fun h=>by omega⟩
theorem qQ {a b:Int} :gB a b=0↔a=b:=by
 unfold gB;rcases Int.lt_trichotomy a b with h | h | h
 ·rw[if_pos h];exact⟨fun h=>by omega,fun h=>by omega⟩
 ·rw[if_neg (by omega),if_neg (by omega)];exact⟨fun _=>h,fun _=>rfl⟩
 ·rw[if_neg (by omega),if_pos h];exact⟨fun h=>by omega,fun h=>by omega⟩
theorem oH:Cmp gB:=
 ⟨wo,fun a b c h1 h2=>qR.2 (Int.lt_trans (qR.1 h1) (qR.1 h2)),fun a b c h=>by rw[qQ.1 h]⟩
theorem qI {a b:Bs} :lX a b<0↔ltB a b=true:=by
 unfold lX;by_cases h:ltB a b=true
 ·rw[if_pos h];exact⟨fun _=>h,fun _=>by decide⟩
 ·rw[if_neg h];split
  ·exact⟨fun h=>by omega,fun e=>absurd e h⟩
  ·exact⟨fun h=>by omega,fun e=>absurd e h⟩
theorem NH (a b:Bs):lX b a= -lX a b:=by
 unfold lX;by_cases h:ltB a b=true
 ·rw[GR h,h];rfl
 ·have h':ltB a b=false:=(by simpa using h);rw[h'];by_cases h2:ltB b a=true
  ·rw[h2];rfl
  ·have h2':ltB b a=false:=(by simpa using h2);rw[h2'];rfl
theorem HY:Cmp lX:=
 ⟨NH,fun a b c h1 h2=>qI.2 (BJ (qI.1 h1) (qI.1 h2)),fun a b c h=>by rw[wI.1 h]⟩
def UF (a:Bs):Int:=if kH (bsL a)=true then 0 else 1
def UK (a:Bs):Int:=if kH (bsL a)=true then qy (bsL a)else 0
def UN (a:Bs):Bs:=if kH (bsL a)=true then⟨#[]⟩else a
theorem IG:fZ=G8 (fun a b=>gB (UF a) (UF b)) (G8 (fun a b=>gB (UK a) (UK b)) (fun a b=>lX (UN a) (UN b))):=by
 funext a b;unfold fZ G8 UF UK UN;by_cases h1:kH (bsL a)=true
 ·by_cases h2:kH (bsL b)=true
  ·simp only[if_pos h1,if_pos h2,iL,if_true];by_cases h:gB (qy (bsL a)) (qy (bsL b))=0
   ·rw[if_pos h,qH,h]
   ·rw[if_neg h]
  ·simp only[if_pos h1,if_neg h2];rw[show gB 0 1= -1 from by decide,if_neg (by decide)]
 ·by_cases h2:kH (bsL b)=true
  ·simp only[if_neg h1,if_pos h2];rw[show gB 1 0=1 from by decide,if_neg (by decide)]
  ·simp only[if_neg h1,if_neg h2,iL,if_true]
theorem lC:Cmp fZ:=by
 rw[IG];exact(oH.on UF).lex ((oH.on UK).lex (HY.on UN))
theorem jX (a b:Bs) (x y:List Bs):ig (a::x) (b::y)=if fZ a b=0 then ig x y else fZ a b:=by rw[ig]
theorem uP (x:List Bs):ig [] x=gB 0 x.length:=by rw[ig];rfl;exact fun _ _ _ _ h=>by cases h
theorem Au (x:List Bs):ig x []=gB x.length 0:=by
 cases x with
 | nil=>rfl
 | cons a x=>rfl
theorem lq:∀x y,ig y x= -ig x y
 | [],y=>by rw[uP,Au];exact wo _ _
 | x,[]=>by rw[uP,Au];exact wo _ _
 | a::x,b::y=>by
  have h1:=lC.anti a b;have h2:=lq x y;rw[jX,jX];by_cases h:fZ a b=0
  ·rw[if_pos h,if_pos (by omega)];exact h2
  ·rw[if_neg h,if_neg (by omega)];exact h1
theorem mP {x:List Bs} :ig [] x<0↔x≠[]:=by
 rw[uP,qR];cases x with
 | nil=>simp
 | cons a x=>simp only[List.length_cons,ne_eq,reduceCtorEq,not_false_iff,iff_true];omega
theorem tC {x:List Bs} :¬ig x []<0:=by
 rw[Au,qR];omega
theorem xu:∀x y z,ig x y<0→ig y z<0→ig x z<0
 | x,[],z,h1,_=>absurd h1 tC
 | x,y,[],_,h2=>absurd h2 tC
 | [],b::y,c::z,_,_=>mP.2 (by simp)
 | a::x,b::y,c::z,h1,h2=>by
  rw[jX]at h1 h2⊢;by_cases e1:fZ a b=0
  ·rw[if_pos e1]at h1;have:=lC.cong a b c e1;by_cases e2:fZ b c=0
   ·rw[if_pos e2]at h2;rw[if_pos (by omega)];exact xu x y z h1 h2
   ·rw[if_neg e2]at h2;rw[if_neg (by omega)];omega
  ·rw[if_neg e1]at h1;by_cases e2:fZ b c=0
   ·have:=lC.TL (a:=a) e2;rw[if_neg (by omega)];omega
   ·rw[if_neg e2]at h2;have:=lC.trans a b c h1 h2;rw[if_neg (by omega)];exact this
theorem yF:∀x y z,ig x y=0→ig y z=ig x z
 | [],[],z,_=>rfl
 | [],b::y,z,h=>absurd (mP.2 (by simp:b::y≠[])) (by omega)
 | a::x,[],z,h=>by
  have:=lq [] (a::x);have h2:=mP.2 (by simp:a::x≠[]);omega
 | a::x,b::y,[],h=>by
  have e1:=lq [] (a::x);have e2:=lq [] (b::y);rw[uP,gB,if_pos (by simp only[List.length_cons];omega)]at e1 e2;rw[e1,e2]
 | a::x,b::y,c::z,h=>by
  rw[jX]at h;rw[jX,jX];by_cases e1:fZ a b=0
  ·rw[if_pos e1]at h;rw[lC.cong a b c e1,yF x y z h]
  ·rw[if_neg e1]at h;exact absurd h e1
theorem LQ:Cmp ig:=⟨lq,xu,yF⟩
def Oj (a:Bs):Int:=if a=⟨#[]⟩then 1 else 0
def OJ (a:Bs):List Bs:=if a=⟨#[]⟩then[]else strs (spl (bsL a))
def SS:Ver→Ver→Int:=G8 (fun a b=>gB a.maj b.maj) (G8 (fun a b=>gB a.min b.min) (G8 (fun a b=>gB a.pat b.pat) (G8 (fun a b=>gB (Oj a.pre) (Oj b.pre)) (fun a b=>ig (OJ a.pre) (OJ b.pre)))))
theorem Ag:Cmp SS:=
 (oH.on Ver.maj).lex ((oH.on Ver.min).lex ((oH.on Ver.pat).lex ((oH.on fun v:Ver=>Oj v.pre).lex (LQ.on fun v:Ver=>OJ v.pre))))
theorem tX {a b:Ver} (ha:fD a=true) (hb:fD b=true):dS a b=SS a b:=by
 unfold dS;rw[if_pos ⟨ha,hb⟩];unfold SS G8 mM;by_cases h1:gB a.maj b.maj=0
 ·by_cases h2:gB a.min b.min=0
  ·by_cases h3:gB a.pat b.pat=0
   ·simp only[h1,h2,h3,ne_eq,not_true,if_false,if_true,false_or];by_cases e:a.pre=b.pre
    ·rw[if_pos e,e,iL,if_pos rfl,sN]
    ·rw[if_neg e];unfold Oj OJ;by_cases e1:a.pre=⟨#[]⟩
     ·have e2:¬b.pre=⟨#[]⟩:=fun h=>e (by rw[e1,h]);simp only[if_pos e1,if_neg e2];rw[show gB 1 0=1 from by decide,if_neg (by decide)]
     ·by_cases e2:b.pre=⟨#[]⟩
      ·simp only[if_pos e2,if_neg e1];rw[show gB 0 1= -1 from by decide,if_neg (by decide)]
      ·simp only[if_neg e1,if_neg e2,iL,if_true]
   ·simp only[h1,h2,h3,ne_eq,not_true,not_false_iff,if_false,if_true,true_or]
  ·simp only[h1,h2,ne_eq,not_true,not_false_iff,if_false,if_true,true_or]
 ·simp only[h1,ne_eq,not_false_iff,if_false,if_true,true_or]
def Rn:Man→Man→Int:=G8 (fun a b=>lX a.name b.name) (fun a b=>SS a.ver b.ver)
theorem Pv:Cmp Rn:=(HY.on Man.name).lex (Ag.on Man.ver)
theorem Ie {a b:Man} (ha:fD a.ver=true) (hb:fD b.ver=true):kL a b=Rn a b:=by
 have e:Rn a b=if lX a.name b.name=0 then SS a.ver b.ver else lX a.name b.name:=rfl;rw[e,←tX ha hb];simp only[kL,orN];by_cases h:lX a.name b.name=0
 ·rw[if_pos h,if_pos h];split
  ·rename_i h;exact h.symm
  ·rfl
 ·rw[if_neg h,if_neg h]
theorem tq {m:Man} {b:Bool} (h:dM m b=0):fD m.ver=true:=by
 unfold dM at h;split at h
 ·cases h
 ·split at h
  ·rename_i h1;simp only[eu,fM,Bool.and_eq_true]at h1;exact h1.1.1
  ·cases h
theorem Sj {L:List Man} :dK L=0↔L.length≤100∧(∀m∈L,dM m false=0)∧L.Pairwise fun a b=>Rn a b<0:=by
 have hv:(∀m∈L,dM m false=0)→∀i,i<L.length→fD (nth L i).ver=true:=fun h i hi=>tq (h _ (bM hi));unfold dK;constructor
 ·intro h;split at h
  ·cases h
  ·rename_i hl;split at h
   ·rename_i ha;rw[List.all_eq_true]at ha;have hc:∀m∈L,dM m false=0:=fun m hm=>by
     obtain⟨i,hi,rfl⟩:=List.mem_iff_getElem.1 hm;have:=ha i (List.mem_range.2 hi);simp only[uw,Bool.and_eq_true,decide_eq_true_eq]at this;rw[←bZ hi];exact this.1
    refine⟨by omega,hc,?_⟩;have hstep:∀i,i+1<L.length→Rn (nth L i) (nth L (i+1))<0:=fun i hi=>by
     have:=ha (i+1) (List.mem_range.2 hi);simp only[uw,Bool.and_eq_true,Bool.or_eq_true,decide_eq_true_eq,Nat.add_sub_cancel]at this;rcases this.2 with h | h
     ·omega
     ·rw[←Ie (hv hc i (by omega)) (hv hc (i+1) hi)];exact h
    have hall:∀d i,i+d+1<L.length→Rn (nth L i) (nth L (i+d+1))<0:=by
     intro d;induction d with
     | zero=>exact fun i hi=>hstep i hi
     | succ d ih=>exact fun i hi=>Pv.trans _ _ _ (ih i (by omega)) (hstep (i+d+1) hi)
    rw[List.pairwise_iff_getElem];intro i j hi hj hij;obtain⟨d,rfl⟩:∃d,j=i+d+1:=⟨j-i-1,by omega⟩;have:=hall d i hj;rw[bZ hi,bZ hj]at this;exact this
   ·cases h
 ·rintro⟨hl,hc,hp⟩;rw[if_neg (by omega),if_pos];rw[List.all_eq_true];intro i hi;have hi:=List.mem_range.1 hi;simp only[uw,Bool.and_eq_true,Bool.or_eq_true,decide_eq_true_eq];refine⟨hc _ (bM hi),?_⟩;by_cases h0:i=0
  ·exact .inl h0
  ·right;rw[Ie (hv hc _ (by omega)) (hv hc _ hi),bZ hi,bZ (by omega:i-1<L.length)];exact List.pairwise_iff_getElem.1 hp _ _ _ _ (by omega)
theorem FU {r:Rg} (h:JX r=false):r.length≤20∧(∀l∈r,l.length≤20∧∀b∈l,b.ver.pre.size≤300):=by
 simp only[JX,Bool.or_eq_false_iff,decide_eq_false_iff_not,List.any_eq_false]at h;refine⟨by omega,fun l hl=> ?_⟩;have h2:Og l=false:=(by simpa using h.2 l hl);simp only[Og,Bool.or_eq_false_iff,decide_eq_false_iff_not,List.any_eq_false]at h2;exact⟨by omega,fun b hb=>by
  have h3:SX b=false:=(by simpa using h2.2 b hb);simp only[SX,decide_eq_false_iff_not]at h3;omega⟩
theorem G6 {r:Rg} (h:JX r=false):Rg.sz r:=by
 obtain⟨h1,h2⟩:=FU h;exact⟨by omega,fun l hl=>⟨by have:=(h2 l hl).1;omega,fun b hb=>by have:=(h2 l hl).2 b hb;omega⟩⟩
theorem GI {m:Man} (h:xq m=false):m.name.size≤300∧m.ver.pre.size≤300∧(m.deps.length≤40∧∀d∈m.deps,d.name.size≤300∧JX d.range=false)∧(m.rules.length≤40∧∀d∈m.rules,d.name.size≤300∧JX d.range=false):=by
 simp only[xq,Bool.or_eq_false_iff,decide_eq_false_iff_not,List.any_eq_false]at h;obtain⟨⟨⟨⟨⟨h1,h2⟩,h3⟩,h4⟩,h5⟩,h6⟩:=h;refine⟨by omega,by omega,⟨by omega,fun d hd=> ?_⟩,by omega,fun d hd=> ?_⟩
 ·have:=h5 d hd;simp only[Qb,Bool.or_eq_true,decide_eq_true_eq,not_or,Bool.not_eq_true]at this;exact⟨by omega,this.2⟩
 ·have:=h6 d hd;simp only[P5,Bool.or_eq_true,decide_eq_true_eq,not_or,Bool.not_eq_true]at this;exact⟨by omega,this.2⟩
theorem L8 {m:Man} (h:xq m=false):Man.sz m:=by
 obtain⟨h1,h2,⟨h3,h4⟩,h5,h6⟩:=GI h;exact⟨by omega,by omega,⟨by omega,fun d hd=>⟨by have:=(h4 d hd).1;omega,G6 (h4 d hd).2⟩⟩,by omega,fun d hd=>⟨by have:=(h6 d hd).1;omega,G6 (h6 d hd).2⟩⟩
theorem AA {t:List Pl} (h:bigT t=false):t.length≤210∧(t.length≤40∨200<t.length)∧∀p∈t,p.name.size≤300∧p.ver.pre.size≤300:=by
 simp only[bigT,Bool.or_eq_false_iff,decide_eq_false_iff_not,List.any_eq_false]at h;refine⟨by omega,by omega,fun p hp=> ?_⟩;have:=h.2 p hp;simp only[JQ,RY,Bool.or_eq_true,decide_eq_true_eq,not_or]at this;exact⟨by omega,by omega⟩
theorem SG {t:List Pl} (h:bigT t=false):OKs t:=by
 obtain⟨h1,_,h3⟩:=AA h;exact⟨by omega,fun p hp=>by have:=h3 p hp;omega⟩
theorem RZ {L:List Man} (h:J3 L=false):L.length≤110∧∀m∈L,xq m=false:=by
 simp only[J3,Bool.or_eq_false_iff,decide_eq_false_iff_not,List.any_eq_false]at h;exact⟨by omega,fun m hm=>by simpa using h.2 m hm⟩
set_option maxRecDepth 100000
set_option maxHeartbeats 400000
theorem GH {m:Man} (h:xq m=false):Man.okS m:=by
 obtain⟨h1,h2,⟨h3,h4⟩,h5,h6⟩:=GI h;refine⟨⟨by omega,fun d hd=> ?_⟩,by omega,fun d hd=> ?_⟩
 ·obtain⟨a,b⟩:=h4 d hd;obtain⟨c,e⟩:=FU b;exact⟨by omega,by omega,fun l hl=>by have:=(e l hl).1;omega⟩
 ·obtain⟨a,b⟩:=h6 d hd;obtain⟨c,e⟩:=FU b;exact⟨by omega,fun l hl=>by have:=(e l hl).1;omega⟩
theorem Tm {root:Man} {L:List Man} {t:List Pl} (h:OZ root L t=false):xq root=false∧J3 L=false∧bigT t=false:=by
 simpa [OZ]using h
theorem Af {root:Man} {L:List Man} {t:List Pl} (h1:xq root=false) (h2:J3 L=false) (h3:bigT t=false):fP root L t:=by
 obtain⟨a,b⟩:=RZ h2;obtain⟨c,_,d⟩:=AA h3;exact⟨L8 h1,GH h1,⟨by omega,fun m hm=>L8 (b m hm)⟩,fun m hm=>GH (b m hm),SG h3,fun p hp=>by have:=d p hp;omega⟩
theorem dJ {root:Man} {L:List Man} {t:List Pl} :codeV root L t=0↔dM root true=0∧dK L=0∧checkN t=0:=by
 simp only[codeV,fQ,orN];constructor
 ·intro h;split at h
  ·split at h
   ·split at h
    ·exact⟨by assumption,by assumption,by assumption⟩
    ·exact absurd h (by assumption)
   ·exact absurd h (by assumption)
  ·exact absurd h (by assumption)
 ·rintro⟨h1,h2,h3⟩;rw[if_pos h1,if_pos h2,if_pos h3]
def namedT (t:List Pl) (m:Man):Bool:=t.any fun p=>decide (p.name=m.name)
theorem Oc {t:List Pl} {n:Nat} (g:Good t) (hn:n<t.length):(n:Int)∈fF t 0:=by
 have h:=CP (i:=0) g (by omega) hn;have hu:fU t n 0=true:=by
  have:∀(m:Nat) (j:Nat),j<m→j<t.length→fU t j 0=true:=by
   intro m;induction m with
   | zero=>exact fun j h=>by omega
   | succ m ih=>
    intro j hj hl;unfold fU;rw[iJ g.dn hl];by_cases h0:j=0
    ·subst h0;simp
    ·obtain⟨p0,p1⟩:=g.par j (by omega) hl;rw[if_neg (by omega)];have:=ih (parN t j).toNat (by omega) (by omega);unfold fU at this;rw[List.any_cons,this,Bool.or_true]
  exact this _ n (Nat.lt_succ_self n) hn
 obtain⟨x,hx,hxe⟩:=List.any_eq_true.1 (h.trans hu);simp only[decide_eq_true_eq]at hxe;rw[←hxe];exact hx
set_option maxRecDepth 100000
set_option maxHeartbeats 400000
def Rq (q:Nat→Bool) (k:Nat):List Nat:=(List.range k).filter q
def rkQ (q:Nat→Bool) (j:Nat):Nat:=(Rq q j).length
def VZ (q:Nat→Bool) (n:Int):Int:=if n<0 then n else rkQ q n.toNat
def Vw (t:List Pl) (q:Nat→Bool) (j:Nat):Pl:= {nth t j with par:=VZ q (parN t j)}
def VD (t:List Pl) (q:Nat→Bool) (k:Nat):List Pl:=(Rq q k).map (Vw t q)
structure Clo (t:List Pl) (q:Nat→Bool):Prop where
 zero:q 0=true
 par:∀j,1≤j→j<t.length→q j=true→q (parN t j).toNat=true
section
variable {q:Nat→Bool}
end
section
variable {t:List Pl} {q:Nat→Bool}
end
set_option linter.unusedSectionVars false
section
variable {t:List Pl} {q:Nat→Bool} (g:Good t) (c:Clo t q)
include g c
end
set_option maxRecDepth 100000
set_option maxHeartbeats 400000
def edgesV (root:Man) (L:List Man) (t:List Pl) (n:Nat):List Dep:=match manVal root L t n with
 | none=>[]
 | some m=>ofF m.deps root.rules (decide ((n:Int)=0))
inductive Rch (root:Man) (L:List Man) (t:List Pl):Nat→Prop
 | zero:Rch root L t 0
 | par {n:Nat} :Rch root L t n→0≤parN t n→Rch root L t (parN t n).toNat
 | edge {n k:Nat} {d:Dep} :Rch root L t n→d∈edgesV root L t n→toN t n d=k→Rch root L t k
open Classical in
noncomputable def VP (root:Man) (L:List Man) (t:List Pl) (n:Nat):Bool:=decide (Rch root L t n)
noncomputable def reachL (root:Man) (L:List Man) (t:List Pl):List Int:=if codeV root L t=0 then(Rq (VP root L t) t.length).map fun(n:Nat)=>(n:Int)else[]
noncomputable def pruneT (root:Man) (L:List Man) (t:List Pl):List Pl:=if codeV root L t=0 then VD t (VP root L t) t.length else[]
section
variable {root:Man} {L:List Man} {t:List Pl} {q:Nat→Bool} (g:Good t) (c:Clo t q)
include g c
end
section
variable {root:Man} {L:List Man} {t:List Pl} (g:Good t)
include g
end
theorem Hl {root:Man} {L:List Man} {t:List Pl} {n:Nat} :iI root L t n=true↔(manVal root L t n).isSome=true∧∀d∈edgesV root L t n,holdsV t n d=true:=by
 unfold iI edgesV;cases manVal root L t n with
 | none=>simp
 | some m=>simp[List.all_eq_true]
set_option maxRecDepth 100000
set_option maxHeartbeats 400000
def jI (t:List Pl) (n:Nat) (d:Dep):Nat:=if d.kind=4∧0<n then(parN t n).toNat else n
def QL (t:List Pl) (n:Nat) (d:Dep):List Nat:=(upN t (jI t n d)).takeWhile fun p=>decide (chF t p d.name=none)
def l9 (root:Man) (L:List Man) (t u:List Pl):Bool:=(List.range t.length).all fun n=>(edgesV root L t n).all fun d=> !holdsV t n d || holdsV u n d
def fJ (root:Man) (L:List Man) (t:List Pl) (d:Dep) (v:Ver) (p:Nat):Bool:=decide (cZ t p d.name v=0)&&l9 root L t (jc t p d.name v)
def mZ (is:Nat→Bool) (l:List Nat) (o:Int):Int:=l.foldl (fun o p=>if is p=true then(p:Int)else o) o
def jo (root:Man) (L:List Man) (t:List Pl) (n:Nat) (d:Dep) (v:Ver):Int:=mZ (fJ root L t d v) (QL t n d) (-1)
def Me (root:Man) (L:List Man) (t:List Pl) (n:Int) (d:Dep) (v:Ver):Int:=if codeV root L t=0∧0≤n∧n<t.length then jo root L t n.toNat d v else-1
def gJ (L:List Man) (b:Bs):List Ver:=(L.filter fun m=>decide (m.name=b)).map fun m=>m.ver
def rM (l:List Ver) (r:Rg):Option Ver:=(l.filter fun v=>dQ v r).getLast?
def dY (root:Man) (L:List Man) (n:Nat) (d:Dep) (t:List Pl):List Pl×Int:=
 if holdsV t n d=true∧0≤toN t n d then(t,0)else
 match rM (gJ L d.name) d.range with
 | none=>if holdsV t n d=true then(t,0)else(t,180)
 | some v=>if jo root L t n d v<0 then(if holdsV t n d=true then(t,0)else(t,180))else if 40≤t.length then(t,2)else(jc t (jo root L t n d v) d.name v,0)
def eG (root:Man) (L:List Man) (n:Nat):List Dep→List Pl→List Pl×Int
 | [],t=>(t,0)
 | d::l,t=>if(dY root L n d t).2=0 then eG root L n l (dY root L n d t).1 else([],(dY root L n d t).2)
def jB (root:Man) (L:List Man):Nat→Nat→List Pl→List Pl×Int
 | 0,_,t=>(t,0)
 | k+1,n,t=>if n<t.length then(if(manVal root L t n).isSome=true then(if(eG root L n (edgesV root L t n) t).2=0 then jB root L k (n+1) (eG root L n (edgesV root L t n) t).1 else([],(eG root L n (edgesV root L t n) t).2))else([],180))else(t,0)
def growS (root:Man) (L:List Man) (t:List Pl):List Pl×Int:=if codeV root L t=0 then jB root L 201 0 t else([],codeV root L t)
theorem BF (is:Nat→Bool):∀(l:List Nat) (o:Int),mZ is l o=o∨∃p∈l,is p=true∧mZ is l o=(p:Int)
 | [],o=> .inl rfl
 | p::l,o=>by
  rw[show mZ is (p::l) o=mZ is l (if is p=true then(p:Int)else o) from rfl];rcases BF is l (if is p=true then(p:Int)else o)with h | ⟨q,hq,h1,h2⟩
  ·rw[h];by_cases hp:is p=true
   ·rw[if_pos hp];exact .inr ⟨p,by simp,hp,rfl⟩
   ·rw[if_neg hp];exact .inl rfl
  ·exact .inr ⟨q,by simp[hq],h1,h2⟩
theorem uY {root:Man} {L:List Man} {t:List Pl} {n:Nat} {d:Dep} {v:Ver} :jo root L t n d v= -1∨∃p∈QL t n d,fJ root L t d v p=true∧jo root L t n d v=(p:Int):=BF _ _ _
theorem start_lt {t:List Pl} (g:Good t) {n:Nat} (hn:n<t.length) (d:Dep):jI t n d≤n:=by
 unfold jI;split
 ·rename_i h;have:=g.par n (by omega) hn;omega
 ·exact Nat.le_refl _
theorem Oo {t:List Pl} (g:Good t) {n:Nat} (hn:n<t.length) (d:Dep):toN t n d=dF t (jI t n d) d.name:=by
 unfold toN jI;rw[if_neg (by omega)];by_cases h:d.kind=4∧0<n
 ·rw[if_pos (by omega),if_pos h];have:=g.par n h.2 hn;rw[Int.toNat_natCast,show(nth t n).par=parN t n from rfl,Int.toNat_of_nonneg this.1]
 ·rw[if_neg (by omega),if_neg h]
section
variable {t:List Pl} {i:Int} {b:Bs} {v:Ver} (h:cZ t i b v=0)
include h
theorem vw:Good t∧Good (jc t i b v):=⟨(lU h).1,nV h⟩
theorem MI {root:Man} {L:List Man} {n:Nat} (hn:n<t.length):manVal root L (jc t i b v) n=manVal root L t n:=by
 have g:=vw h;unfold manVal;rw[if_pos (gI.2 ⟨g.2,by omega,by rw[fG];omega⟩),if_pos (gI.2 ⟨g.1,by omega,by omega⟩),Int.toNat_natCast,add_lt hn]
theorem Kz {root:Man} {L:List Man} {n:Nat} (hn:n<t.length):edgesV root L (jc t i b v) n=edgesV root L t n:=by
 unfold edgesV;rw[MI h hn]
theorem Gs:∀(m:Nat) {j:Nat},j<m→j<t.length→i.toNat∈(upN t j).takeWhile (fun p:Nat=>decide (chF t p b=none))→dF (jc t i b v) j b=t.length
 | 0,j,hj,_,_=>by omega
 | m+1,j,hj,hl,hw=>by
  obtain⟨g,hi,_,hc,_,_⟩:=lU h;have g2:=nV h;have hlen:(jc t i b v).length=t.length+1:=fG;by_cases he:(j:Int)=i
  ·subst he;exact(KX h).2.1
  ·rw[iJ g.dn hl,List.takeWhile_cons]at hw;have hd:=g.dn j hl;by_cases hcj:chF t j b=none
   ·rw[if_pos (by simp[hcj])]at hw;have hw2:i.toNat∈(if parN t j<0 then[]else upN t (parN t j).toNat).takeWhile (fun p:Nat=>decide (chF t p b=none)):=by
     rcases List.mem_cons.1 hw with h1 | h1
     ·omega
     ·exact h1
    have hp:0≤parN t j:=by
     by_cases hp:parN t j<0
     ·rw[if_pos hp]at hw2;simp at hw2
     ·omega
    rw[if_neg (by omega)]at hw2;have hp2:parN (jc t i b v) j=parN t j:=pU hl;have hcu:chF (jc t i b v) j b=none:=by
     rw[LD,hcj];exact if_neg (fun e=>he e.1.symm)
    rw[F9 g2 (by omega) hcu (by omega),hp2];have:=Gs m (j:=(parN t j).toNat) (by omega) (by omega) hw2;rw[Int.toNat_of_nonneg hp]at this;exact this
   ·rw[if_neg (by simp[hcj])]at hw;simp at hw
end
theorem Uu {t:List Pl} {n p:Nat} {d:Dep} {v:Ver} (h:cZ t p d.name v=0) (hn:n<t.length) (hw:p∈QL t n d):toN (jc t p d.name v) n d=t.length:=by
 obtain⟨g,g2⟩:=vw h;have hl:n<(jc t p d.name v).length:=(by rw[fG];omega);rw[Oo g2 hl];have hs:jI (jc t p d.name v) n d=jI t n d:=by
  unfold jI;rw[pU hn]
 rw[hs];have:=start_lt g hn d;exact Gs h _ (Nat.lt_succ_self _) (by omega) (by rw[Int.toNat_natCast];exact hw)
theorem add_holds {t:List Pl} {n p:Nat} {d:Dep} {v:Ver} (h:cZ t p d.name v=0) (hn:n<t.length) (hw:p∈QL t n d) (hv:dQ v d.range=true):holdsV (jc t p d.name v) n d=true:=by
 obtain⟨g,g2⟩:=vw h;unfold holdsV;rw[if_pos (gI.2 ⟨g2,by omega,by rw[fG];omega⟩),Uu h hn hw,if_neg (by omega),Int.toNat_natCast,add_eq];exact hv
theorem sZ {l:List Ver} {r:Rg} {v:Ver} (h:rM l r=some v):v∈l∧dQ v r=true:=by
 have:=List.mem_of_getLast? h;exact List.mem_filter.1 this
theorem Qk {root:Man} {L:List Man} {t:List Pl} {i:Int} {b:Bs} {v:Ver} (hc:codeV root L t=0) (h:cZ t i b v=0):codeV root L (jc t i b v)=0:=by
 obtain⟨h1,h2,_⟩:=dJ.1 hc;exact dJ.2 ⟨h1,h2,dZ.2 (nV h)⟩
structure ExtT (root:Man) (L:List Man) (t u:List Pl):Prop where
 code:codeV root L u=0
 len:t.length≤u.length
 pre:∀n,n<t.length→nth u n=nth t n
 man:∀n,n<t.length→manVal root L u n=manVal root L t n
 edges:∀n,n<t.length→edgesV root L u n=edgesV root L t n
 holds:∀n,n<t.length→∀d∈edgesV root L t n,holdsV t n d=true→holdsV u n d=true
theorem ExtT.refl {root:Man} {L:List Man} {t:List Pl} (h:codeV root L t=0):ExtT root L t t:=⟨h,Nat.le_refl _,fun _ _=>rfl,fun _ _=>rfl,fun _ _=>rfl,fun _ _ _ _ h=>h⟩
theorem ExtT.trans {root:Man} {L:List Man} {t u w:List Pl} (a:ExtT root L t u) (b:ExtT root L u w):ExtT root L t w:=by
 have hl:=a.len;refine⟨b.code,Nat.le_trans a.len b.len,fun n h=> ?_,fun n h=> ?_,fun n h=> ?_,fun n h d hd hh=> ?_⟩
 ·rw[b.pre n (by omega),a.pre n h]
 ·rw[b.man n (by omega),a.man n h]
 ·rw[b.edges n (by omega),a.edges n h]
 ·exact b.holds n (by omega) d (by rw[a.edges n h];exact hd) (a.holds n h d hd hh)
theorem Ld {root:Man} {L:List Man} {t u:List Pl} :l9 root L t u=true↔∀n,n<t.length→∀d∈edgesV root L t n,holdsV t n d=true→holdsV u n d=true:=by
 unfold l9;rw[List.all_eq_true];constructor
 ·intro h n hn d hd hh;have:=List.all_eq_true.1 (h n (List.mem_range.2 hn)) d hd;simpa [hh]using this
 ·intro h n hn;refine List.all_eq_true.2 fun d hd=> ?_;have:=h n (List.mem_range.1 hn) d hd;cases e:holdsV t n d with
  | false=>rfl
  | true=>rw[this e];rfl
theorem uS {root:Man} {L:List Man} {t:List Pl} {d:Dep} {v:Ver} {p:Nat} (h:fJ root L t d v p=true):cZ t p d.name v=0∧l9 root L t (jc t p d.name v)=true:=by
 unfold fJ at h;simpa using h
theorem RU {root:Man} {L:List Man} {t:List Pl} {d:Dep} {v:Ver} {p:Nat} (hc:codeV root L t=0) (h:fJ root L t d v p=true):ExtT root L t (jc t p d.name v):=by
 obtain⟨h1,h2⟩:=uS h;exact⟨Qk hc h1,by rw[fG];omega,fun n hn=>add_lt hn,fun n hn=>MI h1 hn,fun n hn=>Kz h1 hn,Ld.1 h2⟩
theorem wz {root:Man} {L:List Man} {t:List Pl} {n:Nat} {d:Dep} (h:(dY root L n d t).2=0):((dY root L n d t).1=t∧holdsV t n d=true)∨∃p v,p∈QL t n d∧fJ root L t d v p=true∧v∈gJ L d.name∧dQ v d.range=true∧t.length<40∧(dY root L n d t).1=jc t p d.name v:=by
 unfold dY at h⊢;split
 ·rename_i h1;exact .inl ⟨rfl,h1.1⟩
 rename_i h1;rw[if_neg h1]at h;split
 ·rename_i h2;rw[h2]at h;split
  ·rename_i h3;exact .inl ⟨rfl,h3⟩
  ·rename_i h3;simp[h3]at h
 ·rename_i v h2;rw[h2]at h;have hb:=sZ h2;split
  ·rename_i h4;split
   ·rename_i h3;exact .inl ⟨rfl,h3⟩
   ·rename_i h3;simp[h3,h4]at h
  ·rename_i h4;split
   ·rename_i h5;simp[h4,h5]at h
   ·rename_i h5;rcases uY (root:=root) (L:=L) (t:=t) (n:=n) (d:=d) (v:=v)with h6 | ⟨p,h6,h7,h8⟩
    ·omega
    ·exact .inr ⟨p,v,h6,h7,hb.1,hb.2,by omega,by rw[h8]⟩
theorem ru {root:Man} {L:List Man} {t:List Pl} {n:Nat} {d:Dep} (hc:codeV root L t=0) (hn:n<t.length) (h:(dY root L n d t).2=0):ExtT root L t (dY root L n d t).1∧holdsV (dY root L n d t).1 n d=true:=by
 rcases wz h with⟨h1,h2⟩ | ⟨p,v,h1,h2,h3,h4,_,h5⟩
 ·rw[h1];exact⟨.refl hc,h2⟩
 ·rw[h5];exact⟨RU hc h2,add_holds (uS h2).1 hn h1 h4⟩
theorem wV {root:Man} {L:List Man} {n:Nat} :∀(l:List Dep) {t:List Pl},codeV root L t=0→n<t.length→(∀d∈l,d∈edgesV root L t n)→(eG root L n l t).2=0→ExtT root L t (eG root L n l t).1∧∀d∈l,holdsV (eG root L n l t).1 n d=true
 | [],t,hc,_,_,_=>⟨.refl hc,by simp⟩
 | d::l,t,hc,hn,hm,h=>by
  unfold eG at h⊢;by_cases h1:(dY root L n d t).2=0
  ·rw[if_pos h1]at h⊢;obtain⟨e1,e2⟩:=ru hc hn h1;have hl:=e1.len;have hm2:∀x∈l,x∈edgesV root L (dY root L n d t).1 n:=fun x hx=>(by rw[e1.edges n hn];exact hm x (by simp[hx]));obtain⟨e3,e4⟩:=wV l e1.code (by omega) hm2 h;refine⟨e1.trans e3,fun x hx=> ?_⟩;rcases List.mem_cons.1 hx with rfl | hx
   ·exact e3.holds n (by omega) x (by rw[e1.edges n hn];exact hm x (by simp)) e2
   ·exact e4 x hx
  ·rw[if_neg h1]at h;exact(h1 h).elim
theorem Am {root:Man} {L:List Man} {t:List Pl} (h:codeV root L t=0):t.length≤200:=(dZ.1 (dJ.1 h).2.2).le
theorem H6 {root:Man} {L:List Man} :∀(k n:Nat) {t:List Pl},200<n+k→codeV root L t=0→(∀j,j<n→j<t.length→iI root L t j=true)→(jB root L k n t).2=0→ExtT root L t (jB root L k n t).1∧∀j,j<(jB root L k n t).1.length→iI root L (jB root L k n t).1 j=true
 | 0,n,t,hk,hc,hf,_=>by
  have:=Am hc;exact⟨.refl hc,fun j hj=>hf j (by have:j<t.length:=hj;omega) hj⟩
 | k+1,n,t,hk,hc,hf,h=>by
  unfold jB at h⊢;by_cases hn:n<t.length
  ·rw[if_pos hn]at h⊢;by_cases hm:(manVal root L t n).isSome=true
   ·rw[if_pos hm]at h⊢;by_cases he:(eG root L n (edgesV root L t n) t).2=0
    ·rw[if_pos he]at h⊢;obtain⟨e1,e2⟩:=wV (edgesV root L t n) hc hn (fun _ h=>h) he;have hl:=e1.len;have hf2:∀j,j<n+1→j<(eG root L n (edgesV root L t n) t).1.length→iI root L (eG root L n (edgesV root L t n) t).1 j=true:=by
      intro j hj hj2;have hjt:j<t.length:=(by omega);rw[Hl];rcases Nat.lt_or_ge j n with h1 | h1
      ·have:=Hl.1 (hf j h1 hjt);refine⟨by rw[e1.man j hjt];exact this.1,fun d hd=> ?_⟩;rw[e1.edges j hjt]at hd;exact e1.holds j hjt d hd (this.2 d hd)
      ·have:j=n:=(by omega);subst this;refine⟨by rw[e1.man j hjt];exact hm,fun d hd=> ?_⟩;rw[e1.edges j hjt]at hd;exact e2 d hd
     obtain⟨e3,e4⟩:=H6 k (n+1) (by omega) e1.code hf2 h;exact⟨e1.trans e3,e4⟩
    ·rw[if_neg he]at h;exact(he h).elim
   ·rw[if_neg hm]at h;cases h
  ·rw[if_neg hn]at h⊢;exact⟨.refl hc,fun j hj=>hf j (by have:j<t.length:=hj;omega) hj⟩
def Asked (root:Man) (L:List Man) (t:List Pl):Prop:=∀k,1≤k→k<t.length→∃l,l<t.length∧fU t l (parN t k)=true∧∃d∈edgesV root L t l,d.name=(nth t k).name
set_option maxRecDepth 100000
set_option maxHeartbeats 400000
def UpV (l:List Ver):Prop:=(l.Pairwise fun a b=>SS a b<0)∧∀v∈l,fD v=true
theorem MK {L:List Man} (h:dK L=0) (b:Bs):UpV (gJ L b):=by
 obtain⟨_,h2,h3⟩:=Sj.1 h;constructor
 ·unfold gJ;rw[List.pairwise_map];refine List.Pairwise.imp_of_mem (fun {a c} ha hc hac=> ?_) (h3.filter _);have e1:a.name=b:=(by simpa using(List.mem_filter.1 ha).2);have e2:c.name=b:=(by simpa using(List.mem_filter.1 hc).2);unfold Rn G8 at hac;rw[if_pos (by show lX a.name c.name=0;rw[e1,e2];exact qH b)]at hac;exact hac
 ·intro v hv;unfold gJ at hv;obtain⟨m,hm,rfl⟩:=List.mem_map.1 hv;exact tq (h2 m (List.mem_filter.1 hm).1)
theorem QE {l:List Ver} (h:UpV l) {i j:Nat} (hij:i<j) (hj:j<l.length):SS (nth l i) (nth l j)<0:=by
 have:=List.pairwise_iff_getElem.1 h.1 i j (by omega) hj hij;rw[bZ hj,bZ (by omega)];exact this
theorem OE {l:List Ver} (h:UpV l) {i:Nat} (hi:i<l.length):fD (nth l i)=true:=h.2 _ (bM hi)
theorem Uy {l:List Ver} (h:UpV l) {i j:Nat} (hij:i<j) (hj:j<l.length):0<dS (nth l j) (nth l i):=by
 rw[tX (OE h hj) (OE h (by omega)),Ag.anti];have:=QE h hij hj;omega
theorem Vh {l:List Ver} (h:UpV l) {i j:Nat} (hij:i<j) (hj:j<l.length):¬nth l j=nth l i:=by
 intro e;have:=QE h hij hj;rw[e]at this;have h2:=Ag.anti (nth l i) (nth l i);omega
theorem zQ {L:List Man} (b:Bs):(gJ L b).length≤L.length:=by
 unfold gJ;rw[List.length_map];exact List.length_filter_le _ _
theorem Gu {L:List Man} {b:Bs} {v:Ver} (h:v∈gJ L b):∃m∈L,m.name=b∧m.ver=v:=by
 unfold gJ at h;obtain⟨m,hm,rfl⟩:=List.mem_map.1 h;exact⟨m,(List.mem_filter.1 hm).1,by simpa using(List.mem_filter.1 hm).2,rfl⟩
set_option maxRecDepth 100000
set_option maxHeartbeats 4000000
instance:Wid Ver.cells 4:=⟨fun _=>rfl,by decide⟩
theorem kQ:Tryz.prog.cellsOf 23=4:=by kernel_rfl
def nI (l:List Ver):AV×Js:=if l=[]then(.v (.slice none 0 0),[])else(.row 0 l.length,[(23,flat Ver.cells l)])
def QT (G:Hp) (Z ny:Nat) (x:AV) (acc:List Ver):Prop:=(x=.v (.slice none 0 0)∧acc=[])∨∃r,x=.row r acc.length∧G r=some (.row 23 (flat Ver.cells acc))∧Z<r∧r<ny∧acc≠[]
theorem BP {L:List Man} {b:Bs} {i:Nat} (hi:i<L.length):gJ (L.take (i+1)) b=gJ (L.take i) b++if(nth L i).name=b then[(nth L i).ver]else[]:=by
 unfold gJ;rw[List.take_add_one,List.getElem?_eq_getElem hi,←bZ hi,List.filter_append,List.map_append];congr 1;by_cases h:(nth L i).name=b<;>simp[h]
theorem J7 (L:List Man) (hl:L.length≤1000000000) (b:Bs):CallsOK Tryz.prog 28 [rowT Man.cells L,sV b] (nI (gJ L b)).1 (nI (gJ L b)).2:=by
 refine aN mixed Tryz.call28 Tryz.func28 rfl (by rw[Tryz.ntmps28];simp) ?_ ?_
 ·rw[Tryz.ntmps28];refine aR fun K' hK=> ?_
  simp;apply hK;clear K' hK;refine aR fun K' hK=> ?_
  simp;apply hK;clear K' hK;apply aA;refine aR fun K' hK=> ?_
  simp;refine dH (zY mixed Tryz.call59 Tryz.func59 rfl (by rw[Tryz.ntmps59];simp) fun hf=> ?_);rw[Tryz.ntmps59];refine aR fun K' hK=> ?_
  simp;apply hK;clear K' hK;refine aR fun K' hK=> ?_
  simp;apply hK;clear K' hK;apply aF
  simp[au,aG,Post,aW,res1,bF,bC,aP,bg,bf,okT,okA,ok1,rowOf,Tryz.f59];apply hK;clear K' hK;refine fV (fun s G ny=>s 5=.ptr 1 0∧s 9=.fn 114 [.ptr 2 0,.ptr 3 0]∧ny=4∧G 1=some (.var 57 [.v (.slice none 0 0)])∧G 2=some (.var 28 [rowT Man.cells L])∧G 3=some (.var 9 [sV b])) ?_ ?_
  ·exact⟨by simp,by simp,by simp,by simp,by simp;rfl,by simp⟩
  rintro s G ny ⟨s5,s9,rfl,g1,g2,g3⟩;apply aB
  refine jQ (f:=114) (fn:=Tryz.f114) mixed s9 Tryz.call114 Tryz.func114 rfl (by rw[Tryz.ntmps114];simp) rfl ?_;rw[Tryz.ntmps114];generalize hL:(Lp.mk s 17 _ _ _)=Lq;have hLs:Lq.s=s:=(by subst hL;rfl);have hround:∀(m:Man) (x:AV) (acc:List Ver) (K:AV→Hp→Nat→Prop) (G:Hp) (ny:Nat),acc.length≤1000000000→4<ny→G 1=some (.var 57 [x])→QT G 4 ny x acc→G 4=some (Lq.o .ready none)→
    (∀G' ny' x',ny≤ny'→(∀k,k<4→k≠1→G' k=G k)→G' 4=some (Lq.o .ready none)→G' 1=some (.var 57 [x'])→QT G' 4 ny' x' (acc++[m.ver])→K (bV true) G' ny')→DT Tryz.prog 4 [.agg m.cells] K G ny:=by
   subst hL;clear g1 g2 g3;intro m x acc K G ny hal hZn gA hacc gZ k1;refine Oi mixed gZ rfl (by simp) rfl rfl fun hf=> ?_;have zn:¬4=ny:=(by omega);have zn1:¬4=ny+1:=(by omega);have zn2:¬4=ny+1+1:=(by omega);have an:¬1=ny:=(by omega);have an1:¬ny=0:=(by omega);have an3:¬1=ny+1+1:=(by omega);have n4:¬ny=4:=(by omega);have n1:¬ny=1:=(by omega);refine aS fun K' hK=> ?_
   simp;apply hK;clear K' hK;refine⟨rfl,by simp[zn,gZ],?_⟩;dsimp only;generalize (Lp.mk s 17 _ _ _)=Lq at gZ k1⊢;refine dL (aB ?_)
   rcases hacc with⟨rfl,rfl⟩ | ⟨q,rfl,hq,hZq,hqn,hne⟩
   ·skip;refine aS fun K' hK=> ?_
    simp[s5,gA,an,an1,an3,zn,n4,n1,bQ,dA];apply hK;clear K' hK;apply aj
    refine ah ?_;refine aj (dB (by simp[zn,zn1,zn2]) ?_);refine k1 _ _ (.row (ny+1+1) 1) (by omega) (fun k hk hkA=>by repeat rw[Hp.upd_ne _ _ (by omega)]) (by simp) (by simp) (.inr ⟨ny+1+1,by simp,?_,by omega,by omega,by simp⟩);rw[Hp.upd_ne _ _ (by omega),Hp.upd_ne _ _ (by omega),Hp.bW];rfl
   ·have b1:acc.length+1≤9223372036854775807:=(by omega);have b2:(acc.length+1)*40≤140737488355328:=(by omega);have qn:¬q=ny:=(by omega);have qn1:¬q=ny+1:=(by omega);have qZ:¬q=4:=(by omega);have qA:¬q=1:=(by omega);have Aq:¬1=q:=(by omega);have Zq:¬4=q:=(by omega);refine aS fun K' hK=> ?_
    simp[s5,gA,hq,an,an1,an3,zn,n4,n1,qn,qn1,qZ,qA,Aq,b1,b2,bQ,dA];apply hK;clear K' hK;apply aj
    refine ah ?_;refine aj (dB (by simp[zn,zn1,zn2,Zq]) ?_);refine k1 _ _ (.row (ny+1+1) (acc.length+1)) (by omega) (fun k hk hkA=>by repeat rw[Hp.upd_ne _ _ (by omega)]) (by simp) (by simp) (.inr ⟨ny+1+1,by simp,?_,by omega,by omega,by simp⟩);rw[Hp.upd_ne _ _ (by omega),Hp.upd_ne _ _ (by omega),Hp.bW,←dV]
  refine aR fun K' hK=> ?_
  simp[g2];apply hK;clear K' hK;refine dL (aB ?_)
  refine bH (fun t' G' ny=>4<ny∧t' 0=.yl 4∧t' 2=.ptr 3 0∧t' 6=rowT Man.cells L∧t' 7=iV L.length∧G' 3=some (.var 9 [sV b])∧G' 4=some (Lq.o .ready none)∧∃(i:Nat) (x:AV),t' 8=iV i∧i≤L.length∧G' 1=some (.var 57 [x])∧QT G' 4 ny x (gJ (L.take i) b)) (fun s _ _=>match s 8 with | .v (.int _ n)=>L.length-n.toNat | _=>0) ?_ ?_
  ·exact⟨by omega,by simp,by simp,by simp,by simp,by simp[g3],by simp,0,_,by simp,by omega,by simp[g1],.inl ⟨rfl,by simp[gJ]⟩⟩
  ·rintro t' G' ny-⟨hZn,u0,u2,u6,u7,h3,hZ',i,x,u8,hi,hA',hacc⟩;have hw:IntKind.i64.wrap (↑i+1)=((i+1:Nat):Int):=dh (by omega);have n1:¬1=ny:=(by omega);have n3:¬3=ny:=(by omega);have n4:¬4=ny:=(by omega);have hacc2:∀X:Hp,(∀k,k<ny→X k=G' k)→QT X 4 (ny+1) x (gJ (L.take i) b):=fun X hX=>by
    rcases hacc with h | ⟨q,h1,h2,h3,h4,h5⟩
    ·exact .inl h
    ·exact .inr ⟨q,h1,by rw[hX q h4];exact h2,h3,by omega,h5⟩
   have hlen:(gJ (L.take i) b).length≤1000000000:=by
    have h1:=zQ (L:=L.take i) b;rw[List.length_take]at h1;omega
   refine aR fun K' hK=> ?_
   simp[u7,u8];apply hK;clear K' hK;refine aC fun A B hA hB=> ?_
   simp;refine⟨fun hi2=>hA ?_,fun hi2=>hB ?_⟩<;>clear hA hB A B<;>(try simp at hi2)<;>(try with_reducible refine aK ?_)
   ·have hstep:=BP (b:=b) hi2;generalize hgm:nth L i=m at*;apply aB;refine aR fun K' hK=> ?_
    simp[u6,u8,hi2,hgm];apply hK;clear K' hK;by_cases hn:m.name=b
    ·rw[if_pos hn]at hstep;have hr:=hround m x (gJ (L.take i) b);generalize gJ (L.take i) b=acc at*;refine aR fun K' hK=> ?_
     simp[u0,u2,n3,h3,hn];refine⟨⟨_,_,_,_,_,_,_,show _=some (Lq.o .ready none) by simp[n4,hZ']⟩,hr _ _ _ hlen (by omega) (by simp[n1,hA']) (hacc2 _ fun k hk=>by repeat rw[Hp.upd_ne _ _ (by omega)]) (by simp[n4,hZ']) (fun G2 ny2 x' hn2 hG h5' hA2 hacc3=> ?_)⟩;simp;apply hK;clear K' hK;refine aVk (by simp) ?_;apply aj
     refine ah ?_;refine aS fun K' hK=> ?_
     simp[u8,hw];apply hK;clear K' hK;refine aj (ay ?_ ?_)
     ·exact⟨by omega,by simp[u0],by simp[u2],by simp[u6],by simp[u7],by rw[hG 3 (by omega) (by omega)];simp[n3,h3],h5',i+1,x',by simp[hw],by omega,hA2,by rw[hstep];exact hacc3⟩
     ·simp[u8,hw];omega
    ·rw[if_neg hn,List.append_nil]at hstep;refine aR fun K' hK=> ?_
     simp[u2,n3,h3,hn];apply hK;clear K' hK;refine aVk (by simp) ?_;apply aj
     refine ah ?_;refine aS fun K' hK=> ?_
     simp[u8,hw];apply hK;clear K' hK;refine aj (ay ?_ ?_)
     ·exact⟨by omega,by simp[u0],by simp[u2],by simp[u6],by simp[u7],by simp[n3,h3],by simp[n4,hZ'],i+1,x,by simp[hw],by omega,by simp[n1,hA'],by rw[hstep];exact hacc2 _ fun k hk=>by repeat rw[Hp.upd_ne _ _ (by omega)]⟩
     ·simp[u8,hw];omega
   ·skip;apply bG
    refine aI (aH ?_);rw[List.take_of_length_le (by omega)]at hacc;refine aj (iw (.inl rfl) hZ' ?_);rw[hLs];refine ah ?_;rcases hacc with⟨rfl,hnil⟩ | ⟨r,rfl,hr,hZr,hrn,hne⟩
    ·rw[hnil];refine aR fun K' hK=> ?_
     simp[s5,hA'];apply hK;clear K' hK;apply aF
     simp[au,aG,Post,aW,res1,bF,bC,aP,bg,bf,okT,okA,ok1,rowOf,Tryz.f28,nI]
    ·have q1:¬r=4:=(by omega);have hV:nI (gJ L b)=(.row 0 (gJ L b).length,[(23,flat Ver.cells (gJ L b))]):=(by unfold nI;rw[if_neg hne]);rw[hV];refine aR fun K' hK=> ?_
     simp[s5,hA'];apply hK;clear K' hK;apply aF
     simp[au,aG,Post,aW,res1,bF,bC,aP,bg,bf,okT,okA,ok1,rowOf,Tryz.f28,q1,hr]
 ·unfold nI;split<;>rfl
theorem EP (v:Ver) (hs:v.pre.size≤4000000000):CallsOK Tryz.prog 155 [.agg v.cells] (bV (fD v)) []:=by
 refine aN mixed Tryz.call155 Tryz.func155 rfl (by rw[Tryz.ntmps155];simp) ?_ rfl;rw[Tryz.ntmps155];refine aR fun K' hK=> ?_
 simp;apply hK;clear K' hK;refine aR fun K' hK=> ?_
 simp;refine ak (jY v hs) rfl (by simp) ?_;simp;apply hK;clear K' hK;refine aR fun K' hK=> ?_
 simp;apply hK;clear K' hK;apply aF
 simp[au,aG,Post,aW,res1,bF,bC,aP,bg,bf,okT,okA,ok1,rowOf,Tryz.f155]
def Ver.szL (l:List Ver):Prop:=l.length≤1000000∧∀v∈l,v.pre.size≤1000000
theorem take_snoc {α:Type} [Inhabited α] {l:List α} {i:Nat} (hi:i<l.length):l.take (i+1)=l.take i++[nth l i]:=by
 rw[List.take_add_one,List.getElem?_eq_getElem hi,←bZ hi];rfl
theorem J8 {α:Type} {c:α→List AV} (h:∀a,(c a).all nH=true) (t:TypeId) (l:List α):flatJ [(t,flat c l)]=true:=by
 have:(flat c l).all nH=true:=by
  unfold flat;rw[List.all_flatMap];exact List.all_eq_true.2 fun a _=>h a
 simp only[flatJ,List.all_cons,this];rfl
theorem VK (t:TypeId) (l:List Pl):flatJ [(t,flat Pl.cells l)]=true:=J8 (fun _=>rfl) t l
theorem U8 (l:List Ver):flatJ [(23,flat Ver.cells l)]=true:=J8 (fun _=>rfl) 23 l
theorem I4 (l:List Ver) (hz:Ver.szL l) (hu:UpV l):CallsOK Tryz.prog 154 [rowT Ver.cells l,.fn 155 []] (.row 0 l.length) [(23,flat Ver.cells l)]:=by
 refine aN mixed Tryz.call154 Tryz.func154 rfl (by rw[Tryz.ntmps154];simp) ?_ rfl;rw[Tryz.ntmps154];have hll:=hz.1;refine aR fun K' hK=> ?_
 simp;apply hK;clear K' hK;refine aR fun K' hK=> ?_
 simp;apply hK;clear K' hK;apply aA;refine aR fun K' hK=> ?_
 simp;apply hK;clear K' hK;apply aB
 refine bH (fun s G nx=>s 1=.fn 155 []∧s 8=rowT Ver.cells l∧s 9=iV l.length∧∃(i r:Nat),s 10=iV i∧i≤l.length∧s 5=.row r i∧G r=some (.row 23 (flat Ver.cells (l.take i)))∧r<nx) (fun s _ _=>match s 10 with | .v (.int _ n)=>l.length-n.toNat | _=>0) ?_ ?_
 ·exact⟨by simp,by simp,by simp,0,1,by simp,by omega,by simp,by simp,by omega⟩
 rintro s G nx-⟨s1,s8,s9,i,r,s10,hi,s5,gr,hr⟩;have hw:IntKind.i64.wrap (↑i+1)=((i+1:Nat):Int):=dh (by omega);have nr:¬r=nx:=(by omega);have nr1:¬r=nx+1:=(by omega);have rn:¬nx=r:=(by omega);refine aR fun K' hK=> ?_
 simp[s9,s10];apply hK;clear K' hK;refine aC fun A B hA hB=> ?_
 simp;refine⟨fun hi2=>hA ?_,fun hi2=>hB ?_⟩<;>clear hA hB A B<;>(try simp at hi2)<;>(try with_reducible refine aK ?_)
 ·have hok:=OE hu hi2;have hsz:=hz.2 _ (bM hi2);have hst:=take_snoc hi2;have b1:i+1≤9223372036854775807:=(by omega);have b2:(i+1)*40≤140737488355328:=(by omega);have hlt:(l.take i).length=i:=(by simp;omega);have hmin:min i l.length=i:=(by omega);generalize hgv:nth l i=v at*;apply aB;refine aR fun K' hK=> ?_
  simp[s8,s10,hi2,hgv];apply hK;clear K' hK;refine aR fun K' hK=> ?_
  simp[s1];refine ak (EP v (by omega)) rfl (by simp) ?_;simp;apply hK;clear K' hK;refine aU (by simp[hok]) ?_;refine aR fun K' hK=> ?_
  simp[s5,gr,nr,nr1,rn,b1,b2,hmin,bQ,dA];apply hK;clear K' hK;apply aj
  refine ah ?_;refine aS fun K' hK=> ?_
  simp[s10,hw];apply hK;clear K' hK;refine aj (ay ?_ ?_)
  ·exact⟨by simp[s1],by simp[s8],by simp[s9],i+1,nx+1+1,by simp[hw],by omega,by simp,by rw[hst,dV];simp,by omega⟩
  ·simp[s10,hw];omega
 ·skip;apply bG
  refine aI (aH ?_);have hie:i=l.length:=(by omega);subst hie;rw[List.take_length]at gr;refine aR fun K' hK=> ?_
  simp[s5];apply hK;clear K' hK;apply aF
  simp[au,aG,Post,aW,res1,bF,bC,aP,bg,bf,okT,okA,ok1,rowOf,Tryz.f154,gr]
theorem Du (l:List Ver) (hz:Ver.szL l) (hu:UpV l):CallsOK Tryz.prog 225 [rowT Ver.cells l,iV 0,iV l.length,.fn 103 []] (.tup []) []:=by
 refine aN mixed Tryz.call225 Tryz.func225 rfl (by rw[Tryz.ntmps225];simp) ?_ rfl;rw[Tryz.ntmps225];have hll:=hz.1;have w1:IntKind.i64.wrap 1=1:=wrap64 (by omega) (by omega);refine aR fun K' hK=> ?_
 simp[w1];apply hK;clear K' hK;refine dL (aB ?_)
 refine bH (fun s G nx=>s 0=rowT Ver.cells l∧s 1=iV 0∧s 2=iV l.length∧s 3=.fn 103 []∧∃k:Nat,s 8=iV (k+1:Nat)) (fun s _ _=>match s 8 with | .v (.int _ n)=>l.length-n.toNat | _=>0) ?_ ?_
 ·exact⟨by simp,by simp,by simp,by simp,0,by simp⟩
 rintro s G nx-⟨s0,s1,s2,s3,k,s8⟩;generalize hi:k+1=i at*;apply aA;refine aR fun K' hK=> ?_
 simp[s2,s8];apply hK;clear K' hK;refine aC fun A B hA hB=> ?_
 simp;refine⟨fun hi2=>hA ?_,fun hi2=>hB ?_⟩<;>clear hA hB A B<;>(try simp at hi2)<;>(try with_reducible refine aK ?_)
 ·have hi2':i<l.length:=(by omega);have hw:IntKind.i64.wrap (↑i+1)=((i+1:Nat):Int):=dh (by omega);have hw2:IntKind.i64.wrap (↑i-1)=(k:Int):=by
   have e:((i:Int)-1)=(k:Int):=(by omega);rw[e];exact wrap64 (by omega) (by omega)
  have hk2:k<l.length:=(by omega);have hi0:(0:Int)<i:=(by omega);have hi0n:0<i:=(by omega);have hgt:=Uy hu (show k<i by omega) hi2;have hng:¬dS (nth l i) (nth l k)<0:=(by omega);have hc:=jr (nth l i) (nth l k) (hz.2 _ (bM hi2)) (hz.2 _ (bM hk2));apply aB;refine aR fun K' hK=> ?_
  simp[s8];apply hK;clear K' hK;refine dL (aB ?_)
  refine bH (fun s G nx=>s 0=rowT Ver.cells l∧s 1=iV 0∧s 2=iV l.length∧s 3=.fn 103 []∧s 8=iV i∧s 9=iV i) (fun _ _ _=>0) ?_ ?_
  ·exact⟨by simp[s0],by simp[s1],by simp[s2],by simp[s3],by simp[s8],by simp⟩
  have o8:=s8;clear s0 s1 s2 s3 s8;rintro s G nx-⟨s0,s1,s2,s3,s8,s9⟩;apply aA;refine aQ fun K' hK=> ?_
  refine bI 9 fun K2 hK2=> ?_;simp[s0,s1,s3,s9,hi0,hi0n,hi2];refine hK2 _ _ _ ?_;clear K2 hK2;simp[s0,s9,hi0n,hw2,hk2];refine ak hc rfl (by simp) ?_;simp[hng];apply hK;clear K' hK;refine aY (by simp) ?_;apply bG
  refine aI (aH ?_);apply aj
  refine ah ?_;refine aS fun K' hK=> ?_
  simp[s8,hw];apply hK;clear K' hK;refine aj (ay ?_ ?_)
  ·exact⟨by simp[s0],by simp[s1],by simp[s2],by simp[s3],i,by simp[hw]⟩
  ·simp[o8,s8,hw];omega
 ·skip;apply bG
  refine aI (aH ?_);apply aj
  simp[au,aG,Post,aW,res1,bF,bC,aP,bg,bf,okT,okA,ok1,rowOf,Tryz.f225]
theorem Nc (l:List Ver) (hz:Ver.szL l) (h12:l.length≤12) (hu:UpV l) (n:Int):CallsOK Tryz.prog 196 [rowT Ver.cells l,iV 0,iV l.length,iV n,.fn 103 []] (.tup []) []:=by
 refine aN mixed Tryz.call196 Tryz.func196 rfl (by rw[Tryz.ntmps196];simp) ?_ rfl;rw[Tryz.ntmps196];have hw:IntKind.i64.wrap (l.length:Int)=(l.length:Int):=wrap64 (by omega) (by omega);have h12':(l.length:Int)≤12:=(by omega);refine aR fun K' hK=> ?_
 simp;apply hK;clear K' hK;refine aR fun K' hK=> ?_
 simp;apply hK;clear K' hK;refine dL (aB ?_)
 refine bH (fun s G nx=>s 0=rowT Ver.cells l∧s 1=iV 0∧s 2=iV l.length∧s 4=.fn 103 []) (fun _ _ _=>0) ?_ ?_
 ·exact⟨by simp,by simp,by simp,by simp⟩
 rintro s G nx-⟨s0,s1,s2,s4⟩;refine dL (aB ?_);refine aR fun K' hK=> ?_
 simp[s1,s2,hw];apply hK;clear K' hK;apply aA;refine aR fun K' hK=> ?_
 simp[h12,h12'];apply hK;clear K' hK;refine aX (by simp) ?_;apply aA;refine aR fun K' hK=> ?_
 simp[s0,s1,s2,s4];refine ak (Du l hz hu) rfl (by simp) ?_;simp;apply hK;clear K' hK;apply aJ
 simp[au,aG,Post,aW,res1,bF,bC,aP,bg,bf,okT,okA,ok1,rowOf,Tryz.f196]
theorem MH (x:Int) (h0:0≤x) (h1:x≤18446744073709551615):CallsOK Tryz.prog 152 [.v (.int .u64 x)] (iV (Lib.bitLen x.toNat)) []:=
 Vz (xs:=[.int .u64 x]) rfl Tryz.call152 fun w _=>Tryz.bits_Len x w h0 h1
theorem Jb (l:List Ver) (hz:Ver.szL l) (h12:l.length≤12) (hu:UpV l):CallsOK Tryz.prog 156 [rowT Ver.cells l,.fn 103 []] (.tup []) []:=by
 refine aN mixed Tryz.call156 Tryz.func156 rfl (by rw[Tryz.ntmps156];simp) ?_ rfl;rw[Tryz.ntmps156];have hw:IntKind.u64.wrap (l.length:Int)=(l.length:Int):=by
  simp[IntKind.wrap,IntKind.bits,IntKind.signed];omega
 refine aR fun K' hK=> ?_
 simp;apply hK;clear K' hK;refine aS fun K' hK=> ?_
 simp[hw];refine ak (MH (l.length:Int) (by omega) (by omega)) rfl (by simp[hw]) ?_;simp;refine ak (Nc l hz h12 hu ((Lib.bitLen l.length:Nat):Int)) rfl (by simp) ?_;simp;apply hK;clear K' hK;apply aj
 simp[au,aG,Post,aW,res1,bF,bC,aP,bg,bf,okT,okA,ok1,rowOf,Tryz.f156]
theorem AL (l:List Ver) (hz:Ver.szL l) (hu:UpV l):CallsOK Tryz.prog 157 [rowT Ver.cells l] (rowT Ver.cells l) []:=by
 refine aN mixed Tryz.call157 Tryz.func157 rfl (by rw[Tryz.ntmps157];simp) ?_ rfl;rw[Tryz.ntmps157];have hll:=hz.1;refine aR fun K' hK=> ?_
 simp;apply hK;clear K' hK;apply aA;refine aR fun K' hK=> ?_
 simp;apply hK;clear K' hK;refine aC fun A B hA hB=> ?_
 simp;refine⟨fun h2=>hA ?_,fun h2=>hB ?_⟩<;>clear hA hB A B<;>(try simp at h2)<;>(try with_reducible refine aK ?_)
 ·refine aA ?_;refine aR fun K' hK=> ?_
  simp;apply hK;clear K' hK;apply aJ
  simp[au,aG,Post,aW,res1,bF,bC,aP,bg,bf,okT,okA,ok1,rowOf,Tryz.f157];exact⟨rfl,rfl⟩
 apply aA;refine aR fun K' hK=> ?_
 simp;apply hK;clear K' hK;apply aB
 refine bH (fun s G nx=>s 0=rowT Ver.cells l∧∃k:Nat,s 3=iV (k+1:Nat)) (fun s _ _=>match s 3 with | .v (.int _ n)=>l.length-n.toNat | _=>0) ?_ ?_
 ·exact⟨by simp,0,by simp⟩
 rintro s G nx-⟨s0,k,s3⟩;generalize hi:k+1=i at*;apply aA;refine aR fun K' hK=> ?_
 simp[s0,s3];apply hK;clear K' hK;refine aC fun A B hA hB=> ?_
 simp;refine⟨fun hi2=>hA ?_,fun hi2=>hB ?_⟩<;>clear hA hB A B<;>(try simp at hi2)<;>(try with_reducible refine aK ?_)
 ·have hi2':i<l.length:=(by omega);have hw:IntKind.i64.wrap (↑i+1)=((i+1:Nat):Int):=dh (by omega);have hw2:IntKind.i64.wrap (↑i-1)=(k:Int):=by
   have e:((i:Int)-1)=(k:Int):=(by omega);rw[e];exact wrap64 (by omega) (by omega)
  have hk2:k<l.length:=(by omega);have hne:=Vh hu (show k<i by omega) hi2;apply aB;refine aQ fun K' hK=> ?_
  simp(maxSteps:=1000000) [s0,s3,hi2,hw2,hk2,hne];apply hK;clear K' hK;refine aVk (by simp) ?_;apply aj
  refine ah ?_;refine aS fun K' hK=> ?_
  simp[s3,hw];apply hK;clear K' hK;refine aj (ay ?_ ?_)
  ·exact⟨by simp[s0],i,by simp[hw]⟩
  ·simp[s3,hw];omega
 ·skip;apply bG
  refine aI (aH ?_);refine aR fun K' hK=> ?_
  simp[s0];apply hK;clear K' hK;apply aF
  simp[au,aG,Post,aW,res1,bF,bC,aP,bg,bf,okT,okA,ok1,rowOf,Tryz.f157];exact⟨rfl,rfl⟩
theorem DX (l:List Ver) (hz:Ver.szL l) (h12:l.length≤12) (hu:UpV l):CallsOK Tryz.prog 112 [rowT Ver.cells l] (rowT Ver.cells l) []:=by
 refine aN mixed Tryz.call112 Tryz.func112 rfl (by rw[Tryz.ntmps112];simp) ?_ rfl;rw[Tryz.ntmps112];refine aR fun K' hK=> ?_
 simp;apply hK;clear K' hK;refine aR fun K' hK=> ?_
 simp;apply hK;clear K' hK;refine aR fun K' hK=> ?_
 simp;refine sH (I4 l hz hu) ⟨rfl,U8 l⟩ (by simp) ?_;simp[bK];apply hK;clear K' hK;refine aR fun K' hK=> ?_
 simp;refine ak (Jb l hz h12 hu) rfl (by first | rfl | (simp[kQ];done) | (simp[kQ];rfl) | (simp[kQ];exact⟨rfl,rfl⟩)) ?_;simp;apply hK;clear K' hK;refine aR fun K' hK=> ?_
 simp;refine aO (AL l hz hu) (by first | rfl | (simp[kQ];done) | (simp[kQ];rfl) | (simp[kQ];exact⟨rfl,rfl⟩)) ?_;simp[dO];apply hK;clear K' hK;apply aF
 simp[au,aG,Post,aW,res1,bF,bC,aP,bg,bf,okT,okA,ok1,rowOf,Tryz.f112];exact⟨rfl,rfl⟩
def allL (l:List Ver) (r:Rg):List Ver:=l.reverse.filter fun v=>dQ v r
theorem G5 {α:Type} [Inhabited α] {l:List α} {k:Nat} (hk:k<l.length):(l.drop k).reverse=(l.drop (k+1)).reverse++[nth l k]:=by
 rw[List.drop_eq_getElem_cons hk,List.reverse_cons,←bZ hk]
theorem O5 (l:List Ver) (hz:Ver.szL l) (h12:l.length≤12) (hu:UpV l) (r:Rg) (hr:Rg.sz r):CallsOK Tryz.prog 58 [rowT Ver.cells l,.agg r.cells] (nI (allL l r)).1 (nI (allL l r)).2:=by
 refine aN mixed Tryz.call58 Tryz.func58 rfl (by rw[Tryz.ntmps58];simp) ?_ ?_
 ·rw[Tryz.ntmps58];refine aR fun K' hK=> ?_
  simp;apply hK;clear K' hK;refine aR fun K' hK=> ?_
  simp;apply hK;clear K' hK;apply aA;refine aR fun K' hK=> ?_
  simp;refine aO (DX l hz h12 hu) (by simp) ?_;simp[dO];refine dH (zY mixed Tryz.call111 Tryz.func111 rfl (by rw[Tryz.ntmps111];simp) fun hf=> ?_);rw[Tryz.ntmps111];refine aR fun K' hK=> ?_
  simp;apply hK;clear K' hK;refine aR fun K' hK=> ?_
  simp;apply hK;clear K' hK;apply aF
  simp[au,aG,Post,aW,res1,bF,bC,aP,bg,bf,okT,okA,ok1,rowOf,Tryz.f111];apply hK;clear K' hK;refine fV (fun s G ny=>s 3=.ptr 0 0∧s 5=.ptr 2 0∧s 10=.fn 153 [.ptr 3 0]∧ny=4∧G 0=some (.var 33 r.cells)∧G 2=some (.var 57 [.v (.slice none 0 0)])∧G 3=some (.var 57 [rowT Ver.cells l])) ?_ ?_
  ·exact⟨by simp,by simp,by simp,by simp,by simp,by simp,by simp;rfl⟩
  rintro s G ny ⟨s3,s5,s10,rfl,g0,g2,g3⟩;apply aB
  refine jQ (f:=153) (fn:=Tryz.f153) mixed s10 Tryz.call153 Tryz.func153 rfl (by rw[Tryz.ntmps153];simp) rfl ?_;rw[Tryz.ntmps153];generalize hL:(Lp.mk s 21 _ _ _)=Lq;have hLs:Lq.s=s:=(by subst hL;rfl);have hround:∀(n:Int) (v:Ver) (x:AV) (acc:List Ver) (K:AV→Hp→Nat→Prop) (G:Hp) (ny:Nat),v.pre.size≤1000000→acc.length≤1000000000→4<ny→G 0=some (.var 33 r.cells)→G 2=some (.var 57 [x])→QT G 4 ny x acc→G 4=some (Lq.o .ready none)→
    (∀G' ny' x',ny≤ny'→(∀k,k<4→k≠2→G' k=G k)→G' 4=some (Lq.o .ready none)→G' 2=some (.var 57 [x'])→QT G' 4 ny' x' (acc++if dQ v r=true then[v]else[])→K (bV true) G' ny')→DT Tryz.prog 4 [iV n,.agg v.cells] K G ny:=by
   subst hL;clear g0 g2 g3;intro n v x acc K G ny hvs hal hZn g0 gA hacc gZ k1;refine Oi mixed gZ rfl (by simp) rfl rfl fun hf=> ?_;have zn:¬4=ny:=(by omega);have zn1:¬4=ny+1:=(by omega);have zn2:¬4=ny+1+1:=(by omega);have an0:¬0=ny:=(by omega);have an:¬2=ny:=(by omega);have an1:¬2=ny+1:=(by omega);have an3:¬2=ny+1+1:=(by omega);have n4:¬ny=4:=(by omega);have n1:¬ny=2:=(by omega);have n00:¬ny=0:=(by omega);refine aS fun K' hK=> ?_
   simp;apply hK;clear K' hK;refine⟨rfl,by simp[zn,gZ],?_⟩;dsimp only;generalize (Lp.mk s 21 _ _ _)=Lq at gZ k1⊢;refine dL (aB ?_);refine aR fun K' hK=> ?_
   simp[s3,an0,g0,n4];refine ak (yR r v hr hvs) rfl (by simp[Rg.cells]) ?_;simp;apply hK;clear K' hK;by_cases hh:dQ v r=true
   ·skip;refine aU (by simp[hh]) ?_
    rw[if_pos hh]at k1;rcases hacc with⟨rfl,rfl⟩ | ⟨q,rfl,hq,hZq,hqn,hne⟩
    ·skip;refine aR fun K' hK=> ?_
     simp[s5,gA,an,an1,an3,zn,n4,n1,n00,bQ,dA];apply hK;clear K' hK;apply aj
     refine ah ?_;refine aj (dB (by simp[zn,zn1,zn2]) ?_);refine k1 _ _ (.row (ny+1+1) 1) (by omega) (fun k hk hkA=>by repeat rw[Hp.upd_ne _ _ (by omega)]) (by simp) (by simp) (.inr ⟨ny+1+1,by simp,?_,by omega,by omega,by simp⟩);rw[Hp.upd_ne _ _ (by omega),Hp.upd_ne _ _ (by omega),Hp.bW];rfl
    ·have b1:acc.length+1≤9223372036854775807:=(by omega);have b2:(acc.length+1)*40≤140737488355328:=(by omega);have qn:¬q=ny:=(by omega);have qn1:¬q=ny+1:=(by omega);have qZ:¬q=4:=(by omega);have qA:¬q=2:=(by omega);have Aq:¬2=q:=(by omega);have Zq:¬4=q:=(by omega);refine aR fun K' hK=> ?_
     simp[s5,gA,hq,an,an1,an3,zn,n4,n1,n00,qn,qn1,qZ,qA,Aq,b1,b2,bQ,dA];apply hK;clear K' hK;apply aj
     refine ah ?_;refine aj (dB (by simp[zn,zn1,zn2,Zq]) ?_);refine k1 _ _ (.row (ny+1+1) (acc.length+1)) (by omega) (fun k hk hkA=>by repeat rw[Hp.upd_ne _ _ (by omega)]) (by simp) (by simp) (.inr ⟨ny+1+1,by simp,?_,by omega,by omega,by simp⟩);rw[Hp.upd_ne _ _ (by omega),Hp.upd_ne _ _ (by omega),Hp.bW,←dV]
   ·skip;refine aVk (by simp[hh]) ?_
    rw[if_neg hh,List.append_nil]at k1;apply aj
    refine ah ?_;refine aj (dB (by simp[zn]) ?_);refine k1 _ _ x (by omega) (fun k hk hkA=>by repeat rw[Hp.upd_ne _ _ (by omega)]) (by simp) (by simp[an,gA]) ?_;rcases hacc with h | ⟨q,h1,h2,h3,h4,h5⟩
    ·exact .inl h
    ·exact .inr ⟨q,h1,by repeat first | exact h2 | rw[Hp.upd_ne _ _ (by omega)],h3,by omega,h5⟩
  have hw0:IntKind.i64.wrap ((l.length:Int)-1)=(l.length:Int)-1:=wrap64 (by omega) (by omega);refine aR fun K' hK=> ?_
  simp[g3,hw0];apply hK;clear K' hK;refine dL (aB ?_)
  refine bH (fun t' G' ny=>4<ny∧t' 0=.yl 4∧t' 1=.ptr 3 0∧G' 0=some (.var 33 r.cells)∧G' 3=some (.var 57 [rowT Ver.cells l])∧G' 4=some (Lq.o .ready none)∧∃(k:Nat) (x:AV),t' 3=iV ((k:Int)-1)∧k≤l.length∧G' 2=some (.var 57 [x])∧QT G' 4 ny x ((l.drop k).reverse.filter fun v=>dQ v r)) (fun s _ _=>match s 3 with | .v (.int _ n)=>(n+1).toNat | _=>0) ?_ ?_
  ·exact⟨by omega,by simp,by simp,by simp[g0],by simp[g3],by simp,l.length,_,by simp,by omega,by simp[g2],.inl ⟨rfl,by simp⟩⟩
  ·rintro t' G' ny-⟨hZn,u0,u1,h0,h3,hZ',k,x,u3,hk,hA',hacc⟩;rcases Nat.eq_zero_or_pos k with rfl | hkp
   ·have e:(((0:Nat):Int)-1)= -1:=(by omega);rw[e]at u3;apply aA;refine aR fun K' hK=> ?_
    simp[u3];apply hK;clear K' hK;refine aY (by simp) ?_;apply bG
    refine aI (aH ?_);rw[List.drop_zero]at hacc;have hacc:QT G' 4 ny x (allL l r):=hacc;refine aj (iw (.inl rfl) hZ' ?_);rw[hLs];refine ah ?_;rcases hacc with⟨rfl,hnil⟩ | ⟨q,rfl,hr,hZr,hrn,hne⟩
    ·rw[hnil];refine aR fun K' hK=> ?_
     simp[s5,hA'];apply hK;clear K' hK;apply aF
     simp[au,aG,Post,aW,res1,bF,bC,aP,bg,bf,okT,okA,ok1,rowOf,Tryz.f58,nI]
    ·have q1:¬q=4:=(by omega);have hV:nI (allL l r)=(.row 0 (allL l r).length,[(23,flat Ver.cells (allL l r))]):=(by unfold nI;rw[if_neg hne]);rw[hV];refine aR fun K' hK=> ?_
     simp[s5,hA'];apply hK;clear K' hK;apply aF
     simp[au,aG,Post,aW,res1,bF,bC,aP,bg,bf,okT,okA,ok1,rowOf,Tryz.f58,q1,hr]
   ·obtain⟨j,rfl⟩:∃j,k=j+1:=⟨k-1,by omega⟩;have e:(((j+1:Nat):Int)-1)=(j:Int):=(by omega);rw[e]at u3;have hj:j<l.length:=(by omega);have hst:=congrArg (List.filter fun v=>dQ v r) (G5 hj);rw[List.filter_append]at hst;have hst2:List.filter (fun v=>dQ v r) [nth l j]=if dQ (nth l j) r=true then[nth l j]else[]:=by
     by_cases h:dQ (nth l j) r=true<;>simp[h]
    rw[hst2]at hst;have hvz:=hz.2 _ (bM hj);have hle:((l.drop (j+1)).reverse.filter fun v=>dQ v r).length≤1000000000:=by
     refine Nat.le_trans (List.length_filter_le _ _) ?_;simp;omega
    have hw:IntKind.i64.wrap ((j:Int)-1)=(j:Int)-1:=wrap64 (by omega) (by omega);have hj0:(0:Int)≤j:=(by omega);apply aA;refine aR fun K' hK=> ?_
    simp[u3,hj0];apply hK;clear K' hK;refine aXk (by simp) ?_;apply aB;refine aR fun K' hK=> ?_
    simp[u0,u1,u3,h3,hj];refine⟨⟨_,_,_,_,_,_,_,hZ'⟩,hround _ (nth l j) x _ _ _ _ hvz hle hZn h0 hA' hacc hZ' (fun G2 ny2 x' hn2 hG h5' hA2 hacc2=> ?_)⟩;simp;apply hK;clear K' hK;refine aVk (by simp) ?_;apply aj
    refine ah ?_;refine aS fun K' hK=> ?_
    simp[u3,hw];apply hK;clear K' hK;refine aj (ay ?_ ?_)
    ·exact⟨by omega,by simp[u0],by simp[u1],by rw[hG 0 (by omega) (by omega)];exact h0,by rw[hG 3 (by omega) (by omega)];exact h3,h5',j,x',by simp[hw],by omega,hA2,by rw[hst];exact hacc2⟩
    ·simp[u3,hw]
 ·unfold nI;split<;>rfl
def OL:Ver:=⟨0,0,0,⟨#[]⟩⟩
def uh:Option Ver→AV
 | some v=> .tup [.agg v.cells,bV true]
 | none=> .tup [.agg OL.cells,bV false]
theorem Ho (l:List Ver) (r:Rg):rM l r=(allL l r).head? :=by
 unfold rM allL;rw[List.filter_reverse,List.head?_reverse]
theorem Ny (l:List Ver) (hz:Ver.szL l) (h12:l.length≤12) (hu:UpV l) (r:Rg) (hr:Rg.sz r):CallsOK Tryz.prog 27 [rowT Ver.cells l,.agg r.cells] (uh (rM l r)) []:=by
 rw[Ho];have hA:=O5 l hz h12 hu r hr;refine aN mixed Tryz.call27 Tryz.func27 rfl (by rw[Tryz.ntmps27];simp) ?_ ?_
 ·rw[Tryz.ntmps27];generalize allL l r=a at*;cases a with
  | nil=>
   refine aR fun K' hK=> ?_
   simp;apply hK;clear K' hK;apply aA;refine aR fun K' hK=> ?_
   simp;refine aO hA (by simp[Rg.cells]) ?_;simp[nI,dO];apply hK;clear K' hK;apply aB
   refine bH (fun s G nx=>s 4=.ptr 1 0∧s 11=iV 0∧s 12=iV 0∧G 1=some (.var 23 OL.cells)∧1<nx) (fun _ _ _=>0) ?_ ?_
   ·exact⟨by simp,by simp,by simp,by simp[OL,Ver.cells],by omega⟩
   rintro s G nx-⟨s4,s11,s12,g1,h1⟩;refine aR fun K' hK=> ?_
   simp[s11,s12];apply hK;clear K' hK;refine aY (by simp) ?_;apply bG
   refine aI (aH ?_);refine aR fun K' hK=> ?_
   simp[s4,g1];apply hK;clear K' hK;apply aF
   simp[au,aG,Post,aW,res1,bF,bC,aP,bg,bf,okT,okA,ok1,rowOf,Tryz.f27,s4,uh,OL,Ver.cells]
  | cons v a=>
   have e:uh ((v::a).head?)=.tup [.agg v.cells,bV true]:=rfl;rw[e];refine aR fun K' hK=> ?_
   simp;apply hK;clear K' hK;apply aA;refine aR fun K' hK=> ?_
   simp;refine aO hA (by simp[Rg.cells]) ?_;simp[nI,bK];apply hK;clear K' hK;apply aB
   refine bH (fun s G nx=>s 4=.ptr 1 0∧s 10=.row 2 (v::a).length∧s 11=iV (v::a).length∧s 12=iV 0∧G 1=some (.var 23 OL.cells)∧G 2=some (.row 23 (flat Ver.cells (v::a)))∧2<nx) (fun _ _ _=>0) ?_ ?_
   ·exact⟨by simp,by simp,by simp,by simp,by simp[OL,Ver.cells],by simp,by omega⟩
   rintro s G nx-⟨s4,s10,s11,s12,g1,g2,h1⟩;have hp:(0:Int)<((v::a).length:Nat):=(by rw[List.length_cons];omega);have hp2:0<(v::a).length:=(by simp);have hnv:nth (v::a) 0=v:=rfl;have n1:¬1=nx:=(by omega);have n2:¬2=nx:=(by omega);generalize (v::a)=b at*;refine aR fun K' hK=> ?_
   simp[s11,s12,hp,hp2];apply hK;clear K' hK;refine aXk (by simp) ?_;apply aB;refine aR fun K' hK=> ?_
   simp[s10,s12,g2,hp,hp2,hnv];apply hK;clear K' hK;refine aR fun K' hK=> ?_
   simp[s4,n1,g1,OL,Ver.cells];apply hK;clear K' hK;apply aF
   simp[au,aG,Post,aW,res1,bF,bC,aP,bg,bf,okT,okA,ok1,rowOf,Tryz.f27,s4,Ver.cells]
 ·cases allL l r<;>rfl
set_option maxRecDepth 100000
set_option maxHeartbeats 4000000
def V4 {α:Type} (c:α→List AV) (e:TypeId) (N:Nat) (G:Hp) (x:AV) (acc:List α):Prop:=(x=.v (.slice none 0 0)∧acc=[])∨∃r,x=.row r acc.length∧N≤r∧G r=some (.row e (flat c acc))
theorem CallsOK.nilRow {P:Program} [Gl P] {f:FuncId} {xs:List AV} (e:TypeId) (h:CallsOK P f xs (.agg [.v (.slice none 0 0)]) []):CallsOK P f xs (.agg [.row 0 0]) [(e,[])]:=by
 refine⟨rfl,h.2.1,fun w us F hF hΓ hx=>(h.2.2 w us F hF hΓ hx).mono fun en w' hh=> ?_⟩;obtain⟨u,E',rfl,hv,hR,hEF,hb,hge⟩:=hh;have hφ:∀i,E'.φ i=none:=fun i=>by
  cases h:E'.φ i with
  | none=>rfl
  | some b=>obtain⟨o,ho,_⟩:=hR.dom i b h;simp[ofJ]at ho
 have h0:∀ {i:Nat} {o:AObj},ofJ [(e,[])] i=some o↔i=0∧o=.row e []:=JG;obtain⟨vs,rfl,hl,hvs,h1⟩:=hv.jO;obtain⟨y,rfl⟩:∃y,vs=[y]:=by
  cases vs with
  | nil=>simp at hl
  | cons y ys=>cases ys with
   | nil=>exact⟨y,rfl⟩
   | cons _ _=>simp at hl
 obtain⟨rfl,_⟩:=(hvs 0 _ _ rfl rfl).iE;refine⟨_,{E' with K:=fun i=>i=0,N:=fun i=>i=0},rfl,.agg rfl (fun i c x hc hx=> ?_) h1,⟨fun i j b hi=>by rw[show E'.φ i=_ from hi]at*;have:=hφ i;simp_all,fun i b hi=>by have:=hφ i;simp_all,fun i b hi=>by have:=hφ i;simp_all,fun i o ho ha=> ?_,fun i=> ?_,fun b=> ?_,fun i b hi=>by have:=hφ i;simp_all,hR.Flt,hR.good⟩,hEF,hb,fun i b hi=>by have:=hφ i;simp_all⟩
 ·cases i with
  | zero=>
   simp only[List.getElem?_cons_zero,Option.some.injEq]at hc hx;subst hc;subst hx;exact .row rfl rfl (fun b hb=>by have:=hφ 0;simp_all) (fun _=>⟨rfl,rfl⟩)
  | succ i=>simp at hc
 ·obtain⟨rfl,rfl⟩:=h0.1 ho;exact .inr ⟨rfl,e,rfl⟩
 ·constructor
  ·intro h;exact⟨_,h0.2 ⟨h,rfl⟩⟩
  ·rintro⟨o,ho⟩;exact(h0.1 ho).1
 ·constructor
  ·intro h;obtain⟨i,o,h1,_⟩:=(hR.W b).1 h;have:=hφ i;simp_all
  ·rintro⟨i,o,h1,_⟩;have:=hφ i;simp_all
theorem Nr:CallsOK Tryz.prog 88 [.agg (Rg.cells [])] (.agg [.v (.slice none 0 0)]) []:=by
 refine aN mixed Tryz.call88 Tryz.func88 rfl (by rw[Tryz.ntmps88];simp) ?_ rfl;rw[Tryz.ntmps88];refine aR fun K' hK=> ?_
 simp[Rg.cells];apply hK;clear K' hK;refine aR fun K' hK=> ?_
 simp;apply hK;clear K' hK;apply aA;refine aR fun K' hK=> ?_
 simp;apply hK;clear K' hK;apply aB
 refine bH (fun s G nx=>s 1=.ptr 0 0∧s 2=.ptr 1 0∧s 3=.ptr 2 0∧G 0=some (.var 33 [rowT Alt.cells []])∧G 1=some (.var 33 [.v (.slice none 0 0)])∧G 2=some (.var 33 [.v (.slice none 0 0)])∧s 4=iV 0) (fun s _ _=>0) ?_ ?_
 ·exact⟨by simp,by simp,by simp,by simp,by simp,by simp,by simp⟩
 ·rintro s G nx hf ⟨s1,s2,s3,g0,g1,g2,s4⟩;apply aA;refine aR fun K' hK=> ?_
  simp[s1,s4,g0];apply hK;clear K' hK;refine aY (by simp) ?_;apply bG
  refine aI (aH ?_);refine aR fun K' hK=> ?_
  simp[s2,s3,g1,g2];apply hK;clear K' hK;apply aF
  simp[au,aG,Post,aW,res1,bF,bC,aP,bg,bf,okT,okA,ok1,rowOf,Tryz.f88,s2]
theorem Iy (r:Rg) (hne:r≠[]) (hr:r.length<1000000000000∧∀l∈r,l.length<1000000000000):CallsOK Tryz.prog 88 [.agg r.cells] (.agg [.row 0 r.length]) [(71,flat Alt.cells r)]:=by
 refine aN mixed Tryz.call88 Tryz.func88 rfl (by rw[Tryz.ntmps88];simp) ?_ rfl;rw[Tryz.ntmps88];have hl:=hr.1;refine aR fun K' hK=> ?_
 simp[Rg.cells];apply hK;clear K' hK;refine aR fun K' hK=> ?_
 simp;apply hK;clear K' hK;apply aA;refine aR fun K' hK=> ?_
 simp;apply hK;clear K' hK;apply aB
 refine bH (fun s G nx=>3≤nx∧s 1=.ptr 0 0∧s 2=.ptr 1 0∧s 3=.ptr 2 0∧G 0=some (.var 33 [rowT Alt.cells r])∧G 1=some (.var 33 [.v (.slice none 0 0)])∧∃(i:Nat) (x:AV),s 4=iV i∧i≤r.length∧G 2=some (.var 33 [x])∧V4 Alt.cells 71 3 G x (r.take i)) (fun s _ _=>match s 4 with | .v (.int _ n)=>r.length-n.toNat | _=>0) ?_ ?_
 ·exact⟨by omega,by simp,by simp,by simp,by simp,by simp,0,_,by simp,by omega,by simp,.inl ⟨rfl,by simp⟩⟩
 ·rintro s G nx hf ⟨hnx,s1,s2,s3,g0,g1,i,x,s4,hi,g2,hx⟩;have o4:=s4;have hw:IntKind.i64.wrap (↑i+1)=((i+1:Nat):Int):=dh (by omega);apply aA;refine aR fun K' hK=> ?_
  simp[s1,s4,g0];apply hK;clear K' hK;refine aC fun A B hA hB=> ?_
  simp;refine⟨fun hi2=>hA ?_,fun hi2=>hB ?_⟩<;>clear hA hB A B<;>(try simp at hi2)<;>(try with_reducible refine aK ?_)
  ·have hA:=hr.2 _ (bM hi2);have hst:r.take (i+1)=r.take i++[nth r i]:=(by rw[List.take_add_one,List.getElem?_eq_getElem hi2,←bZ hi2];rfl);have htl:(r.take i).length=i:=(by rw[List.length_take];omega);generalize hgl:nth r i=l at*;have b1:l.length≤9223372036854775807:=(by omega);have b2:l.length*48≤140737488355328:=(by omega);have b3:i+1≤9223372036854775807:=(by omega);have b4:(i+1)*24≤140737488355328:=(by omega);have hfl:(flat Bd.cells l).length=l.length*5:=eY;apply aB;refine aR fun K' hK=> ?_
   simp;apply hK;clear K' hK;have n0:¬0=nx:=(by omega);have n1:¬1=nx:=(by omega);have n2:¬2=nx:=(by omega);refine aR fun K' hK=> ?_
   simp[s1,s4,g0,n0,hi2,hgl,b1,b2,hfl,bQ,dA];apply hK;clear K' hK;have c87:Tryz.prog.cellsOf 74=5:=(by kernel_rfl);refine fV (fun u H ny=>u 1=.ptr 0 0∧u 2=.ptr 1 0∧u 3=.ptr 2 0∧u 4=iV i∧u 5=.row (nx+1) l.length∧ny=nx+2∧(∀k,k<nx→H k=G k)∧H (nx+1)=some (.row 74 (flat Bd.cells l))) ?_ ?_
   ·exact⟨by simp[s1],by simp[s2],by simp[s3],by simp[s4],by simp,by omega,fun k hk=>by repeat rw[Hp.upd_ne _ _ (by omega)],by simp⟩
   rintro u H ny ⟨u1,u2,u3,u4,u5,rfl,hH,hr5⟩;have h0:H 0=some (.var 33 [rowT Alt.cells r]):=(by rw[hH 0 (by omega)];exact g0);have h1:H 1=some (.var 33 [.v (.slice none 0 0)]):=(by rw[hH 1 (by omega)];exact g1);have h2:H 2=some (.var 33 [x]):=(by rw[hH 2 (by omega)];exact g2);have hT:bJ Tryz.prog H (.row (nx+1) l.length)=some (rowT Bd.cells l):=dN hr5 c87 rfl;have m0:¬0=nx+1:=(by omega);have z0:¬nx=0:=(by omega);have z1:¬nx=1:=(by omega);have w1:(bT H (.row (nx+1) l.length)) 1=H 1:=dW (by omega);have w0:(bT H (.row (nx+1) l.length)) 0=H 0:=dW (by omega);have m1:¬1=nx+1:=(by omega);have m2:¬2=nx+1:=(by omega);have m3:¬2=nx+2:=(by omega);have m4:¬0=nx+2:=(by omega);have m5:¬1=nx+2:=(by omega);have m6:¬2=nx+2+1:=(by omega);have m7:¬0=nx+2+1:=(by omega);have m8:¬1=nx+2+1:=(by omega);rcases hx with⟨rfl,hnil⟩ | ⟨q,rfl,hq,hG⟩
   ·rw[hnil]at htl hst;have hi0:i=0:=(by simpa using htl.symm);refine aS fun K' hK=> ?_
    simp[u3,u5,h2,hT,m2,m3,z0,z1,b3,b4,bQ,dA];apply hK;clear K' hK;apply aj
    refine ah ?_;refine aS fun K' hK=> ?_
    simp[u4,hw];apply hK;clear K' hK;refine aj (ay ?_ ?_)
    ·exact⟨by omega,by simp[u1],by simp[u2],by simp[u3],by simp[m0,m4,m7,h0,w0],by simp[m1,m5,m8,h1,w1],i+1,.row (nx+2+1) 1,by simp[hw],by omega,by simp[m6],.inr ⟨nx+2+1,by rw[hst];rfl,by omega,by rw[hst];simp;rfl⟩⟩
    ·simp[o4,hw,u4];omega
   ·have hqn:q<nx:=cO hf hG;have hHq:H q=some (.row 71 (flat Alt.cells (r.take i))):=(by rw[hH q hqn];exact hG);have k1:¬q=nx+1:=(by omega);have k2:¬q=nx+2:=(by omega);have k3:¬nx+2=q:=(by omega);have k4:¬q=2:=(by omega);have k5:¬2=q:=(by omega);have k6:¬0=q:=(by omega);have k7:¬1=q:=(by omega);have htl':min i r.length=i:=(by omega);refine aS fun K' hK=> ?_
    simp[htl',u3,u5,h2,hT,m2,m3,z0,z1,b3,b4,k1,k2,k3,k4,k5,hHq,bQ,dA];apply hK;clear K' hK;apply aj
    refine ah ?_;refine aS fun K' hK=> ?_
    simp[u4,hw];apply hK;clear K' hK;refine aj (ay ?_ ?_)
    ·exact⟨by omega,by simp[u1],by simp[u2],by simp[u3],by simp[m0,m4,m7,h0,k6,w0],by simp[m1,m5,m8,h1,k7,w1],i+1,.row (nx+2+1) (i+1),by simp[hw],by omega,by simp[m6],.inr ⟨nx+2+1,by rw[hst,List.length_append,htl];rfl,by omega,by rw[hst,←dV];simp;rfl⟩⟩
    ·simp[o4,hw,u4];omega
  ·skip;apply bG
   refine aI (aH ?_);rw[List.take_of_length_le (by omega)]at hx;rcases hx with⟨rfl,rfl⟩ | ⟨q,rfl,hq,hG⟩
   ·exact absurd rfl hne
   ·have k1:¬q=1:=(by omega);refine aR fun K' hK=> ?_
    simp[s2,s3,g1,g2];apply hK;clear K' hK;apply aF
    simp[au,aG,Post,aW,res1,bF,bC,aP,bg,bf,okT,okA,ok1,rowOf,Tryz.f88,k1,hG,s2]
theorem uH (r:Rg) (hr:r.length<1000000000000∧∀l∈r,l.length<1000000000000):CallsOK Tryz.prog 88 [.agg r.cells] (.agg [.row 0 r.length]) [(71,flat Alt.cells r)]:=by
 by_cases h:r=[]
 ·subst h;exact Nr.nilRow 71
 ·exact Iy r h hr
set_option maxRecDepth 100000
set_option maxHeartbeats 4000000
theorem Gg (m:Man) (hm:Man.okS m):CallsOK Tryz.prog 44 [.agg m.cells] (.agg (m.dX (.row 0 m.deps.length) (.row 1 m.rules.length))) [(35,flat Dep.cells m.deps),(134,flat Ru.cells m.rules)]:=by
 refine aN mixed Tryz.call44 Tryz.func44 rfl (by rw[Tryz.ntmps44];simp) ?_ rfl;rw[Tryz.ntmps44];obtain⟨⟨hdl,hdd⟩,hrl,hrr⟩:=hm;have c83:Tryz.prog.cellsOf 71=1:=(by kernel_rfl);refine aR fun K' hK=> ?_
 simp;apply hK;clear K' hK;refine aR fun K' hK=> ?_
 simp;apply hK;clear K' hK;apply aA;refine uo ?_
 refine fC (fun s G nx=>2≤nx∧s 1=.ptr 0 0∧s 2=.ptr 1 0∧G 0=some (.var 27 m.cells)∧G 1=some (.var 27 Eo)∧∃q,s 3=.row q m.deps.length∧2≤q∧q<nx∧G q=some (.row 35 (flat Dep.cells m.deps))) ?_ ?_
 ·skip;refine aR fun K' hK=> ?_
  simp;apply hK;clear K' hK;refine dL (aB ?_)
  refine bH (fun s G nx=>s 1=.ptr 0 0∧s 2=.ptr 1 0∧G 0=some (.var 27 m.cells)∧G 1=some (.var 27 Eo)∧∃i q:Nat,s 4=iV i∧i≤m.deps.length∧s 3=.row q i∧2≤q∧G q=some (.row 35 (flat Dep.cells (m.deps.take i)))) (fun s _ _=>match s 4 with | .v (.int _ n)=>m.deps.length-n.toNat | _=>0) ?_ ?_
  ·exact⟨by simp,by simp,by simp,by simp,0,2,by simp,by omega,by simp,by omega,by simp⟩
  ·rintro s G nx hf ⟨s1,s2,g0,g1,i,q,s4,hi,s3,hq,hG⟩;have o4:=s4;have hw:IntKind.i64.wrap (↑i+1)=((i+1:Nat):Int):=dh (by omega);apply aA;refine aR fun K' hK=> ?_
   simp[s1,s4,g0];apply hK;clear K' hK;refine aC fun A B hA hB=> ?_
   simp;refine⟨fun hi2=>hA ?_,fun hi2=>hB ?_⟩<;>clear hA hB A B<;>(try simp at hi2)<;>(try with_reducible refine aK ?_)
   ·have hst:m.deps.take (i+1)=m.deps.take i++[nth m.deps i]:=(by rw[List.take_add_one,List.getElem?_eq_getElem hi2,←bZ hi2];rfl);have hdr:=(hdd _ (bM hi2)).2;have hqn:q<nx:=cO hf hG;have htl:min i m.deps.length=i:=(by omega);have b1:i+1≤9223372036854775807:=(by omega);have b2:(i+1)*48≤140737488355328:=(by omega);generalize hgd:nth m.deps i=d at*;have hT:∀H:Hp,H nx=some (.row 71 (flat Alt.cells d.range))→bJ Tryz.prog H (.row nx d.range.length)=some (rowT Alt.cells d.range):=fun H h=>dN h c83 rfl;have hT1:=hT (G.upd nx (.row 71 (flat Alt.cells d.range))) (by simp);have n0:¬0=nx:=(by omega);have n1:¬1=nx:=(by omega);have n2:¬q=nx:=(by omega);have n3:¬q=nx+1:=(by omega);have n4:¬nx+1=q:=(by omega);have n5:¬0=nx+1:=(by omega);have n6:¬1=nx+1:=(by omega);have n7:¬0=nx+1+1:=(by omega);have n8:¬1=nx+1+1:=(by omega);have n9:¬0=q:=(by omega);have na:¬1=q:=(by omega);apply aB;refine aT fun K' hK=> ?_
    simp[s1,s3,s4,g0,hi2,hgd];refine aO (uH d.range ⟨by omega,fun l hl=>by have:=hdr.2 l hl;omega⟩) (by first | rfl | (simp[Rg.cells];done) | (simp[Rg.cells];rfl) | (simp[Rg.cells];exact⟨rfl,rfl⟩)) ?_;simp[bK,Rg.cells,hT1,n2,n3,n4,hG,htl,b1,b2,bQ,dA];have w0:bT (G.upd nx (.row 71 (flat Alt.cells d.range))) (.row nx d.range.length) 0=G 0:=(by rw[dW (by omega),Hp.upd_ne _ _ (by omega)]);have w1:bT (G.upd nx (.row 71 (flat Alt.cells d.range))) (.row nx d.range.length) 1=G 1:=(by rw[dW (by omega),Hp.upd_ne _ _ (by omega)]);apply hK;clear K' hK;apply aj
    refine ah ?_;refine aS fun K' hK=> ?_
    simp[s4,hw];apply hK;clear K' hK;refine aj (ay ?_ ?_)
    ·exact⟨by simp[s1],by simp[s2],by simp[n5,n7,n9,w0,g0],by simp[show¬nx=0 by omega,n8,na,w1,g1],i+1,nx+1+1,by simp[hw],by omega,by simp,by omega,by rw[hst,←dV];simp;rfl⟩
    ·simp[o4,s4,hw];omega
   ·skip;apply bG
    refine aI (aH ?_);have hie:i=m.deps.length:=(by omega);subst hie;rw[List.take_length]at hG;have hqn:q<nx:=cO hf hG;with_reducible refine bP ?_
    exact⟨by omega,by simp[s1],by simp[s2],by simp[g0],by simp[g1],q,by simp[s3],hq,hqn,hG⟩
 ·rintro s G nx ⟨hnx,s1,s2,g0,g1,q3,s3,hq3,hqn3,hG3⟩;refine aR fun K' hK=> ?_
  simp;apply hK;clear K' hK;apply aA;refine uo ?_
  refine fC (fun s' G' nx'=>s' 1=.ptr 0 0∧s' 2=.ptr 1 0∧G' 0=some (.var 27 m.cells)∧G' 1=some (.var 27 Eo)∧s' 3=.row q3 m.deps.length∧G' q3=some (.row 35 (flat Dep.cells m.deps))∧∃q,s' 5=.row q m.rules.length∧2≤q∧G' q=some (.row 134 (flat Ru.cells m.rules))) ?_ ?_
  ·skip;refine aR fun K' hK=> ?_
   simp;apply hK;clear K' hK;refine dL (aB ?_)
   have n0:¬0=nx:=(by omega);have n1:¬1=nx:=(by omega);have n3:¬q3=nx:=(by omega);refine bH (fun s G nx=>s 1=.ptr 0 0∧s 2=.ptr 1 0∧G 0=some (.var 27 m.cells)∧G 1=some (.var 27 Eo)∧s 3=.row q3 m.deps.length∧G q3=some (.row 35 (flat Dep.cells m.deps))∧∃i q:Nat,s 6=iV i∧i≤m.rules.length∧s 5=.row q i∧2≤q∧G q=some (.row 134 (flat Ru.cells (m.rules.take i)))) (fun s _ _=>match s 6 with | .v (.int _ n)=>m.rules.length-n.toNat | _=>0) ?_ ?_
   ·exact⟨by simp[s1],by simp[s2],by simp[g0,n0],by simp[g1,n1],by simp[s3],by simp[hG3,n3],0,nx,by simp,by omega,by simp,by omega,by simp⟩
   ·clear s1 s2 g0 g1 s3 hG3 hnx hqn3 n0 n1 n3 s G nx;rintro s G nx hf ⟨s1,s2,g0,g1,s3,hG3,i,q,s6,hi,s5,hq,hG⟩;have o6:=s6;have hw:IntKind.i64.wrap (↑i+1)=((i+1:Nat):Int):=dh (by omega);apply aA;refine aR fun K' hK=> ?_
    simp[s1,s6,g0];apply hK;clear K' hK;refine aC fun A B hA hB=> ?_
    simp;refine⟨fun hi2=>hA ?_,fun hi2=>hB ?_⟩<;>clear hA hB A B<;>(try simp at hi2)<;>(try with_reducible refine aK ?_)
    ·have hst:m.rules.take (i+1)=m.rules.take i++[nth m.rules i]:=(by rw[List.take_add_one,List.getElem?_eq_getElem hi2,←bZ hi2];rfl);have hdr:=hrr _ (bM hi2);have hqn:q<nx:=cO hf hG;have hqn3:q3<nx:=cO hf hG3;have hqq:¬q3=q:=fun e=>(by subst e;rw[hG3]at hG;injection hG with hG;injection hG with hG;cases hG);have htl:min i m.rules.length=i:=(by omega);have b1:i+1≤9223372036854775807:=(by omega);have b2:(i+1)*40≤140737488355328:=(by omega);generalize hgd:nth m.rules i=d at*;have hT:∀H:Hp,H nx=some (.row 71 (flat Alt.cells d.range))→bJ Tryz.prog H (.row nx d.range.length)=some (rowT Alt.cells d.range):=fun H h=>dN h c83 rfl;have hT1:=hT (G.upd nx (.row 71 (flat Alt.cells d.range))) (by simp);have n0:¬0=nx:=(by omega);have n1:¬1=nx:=(by omega);have n2:¬q=nx:=(by omega);have n3:¬q=nx+1:=(by omega);have n4:¬nx+1=q:=(by omega);have n5:¬0=nx+1:=(by omega);have n6:¬1=nx+1:=(by omega);have n7:¬0=nx+1+1:=(by omega);have n8:¬1=nx+1+1:=(by omega);have n9:¬0=q:=(by omega);have na:¬1=q:=(by omega);have nb:¬q3=nx+1:=(by omega);have nc:¬q3=nx+1+1:=(by omega);apply aB;refine aT fun K' hK=> ?_
     simp[s1,s5,s6,g0,hi2,hgd];refine aO (uH d.range ⟨by omega,fun l hl=>by have:=hdr.2 l hl;omega⟩) (by first | rfl | (simp[Rg.cells];done) | (simp[Rg.cells];rfl) | (simp[Rg.cells];exact⟨rfl,rfl⟩)) ?_;simp[bK,Rg.cells,hT1,n2,n3,n4,hG,htl,b1,b2,bQ,dA];have w0:bT (G.upd nx (.row 71 (flat Alt.cells d.range))) (.row nx d.range.length) 0=G 0:=(by rw[dW (by omega),Hp.upd_ne _ _ (by omega)]);have w1:bT (G.upd nx (.row 71 (flat Alt.cells d.range))) (.row nx d.range.length) 1=G 1:=(by rw[dW (by omega),Hp.upd_ne _ _ (by omega)]);have w3:bT (G.upd nx (.row 71 (flat Alt.cells d.range))) (.row nx d.range.length) q3=G q3:=(by rw[dW (by omega),Hp.upd_ne _ _ (by omega)]);apply hK;clear K' hK;apply aj
     refine ah ?_;refine aS fun K' hK=> ?_
     simp[s6,hw];apply hK;clear K' hK;refine aj (ay ?_ ?_)
     ·exact⟨by simp[s1],by simp[s2],by simp[n5,n7,n9,w0,g0],by simp[show¬nx=0 by omega,n8,na,w1,g1],by simp[s3],by simp[nb,nc,hqq,w3,hG3],i+1,nx+1+1,by simp[hw],by omega,by simp,by omega,by rw[hst,←dV];simp;rfl⟩
     ·simp[o6,s6,hw];omega
    ·skip;apply bG
     refine aI (aH ?_);have hie:i=m.rules.length:=(by omega);subst hie;rw[List.take_length]at hG;with_reducible refine bP ?_
     exact⟨by simp[s1],by simp[s2],by simp[g0],by simp[g1],by simp[s3],hG3,q,by simp[s5],hq,hG⟩
  ·clear s1 s2 g0 g1 s3 hG3 hnx hqn3 s G nx;rintro s G nx ⟨s1,s2,g0,g1,s3,hG3,q,s5,hq,hG⟩;have hqq:q3≠q:=fun e=>(by subst e;rw[hG3]at hG;injection hG with hG;injection hG with hG;cases hG);have k0:¬q3=0:=(by omega);have k1:¬q3=1:=(by omega);have k2:¬q=0:=(by omega);have k3:¬q=1:=(by omega);refine aR fun K' hK=> ?_
   simp[s1,s3,g0,Man.cells];apply hK;clear K' hK;refine aR fun K' hK=> ?_
   simp[s1,s5,g0,Man.cells];apply hK;clear K' hK;refine aR fun K' hK=> ?_
   simp[s1,s2,g0,g1,Man.cells];apply hK;clear K' hK;apply aF
   simp[au,aG,Post,aW,res1,bF,bC,aP,bg,bf,okT,okA,ok1,rowOf,Tryz.f44,s2,k0,k1,k2,k3,hG,hG3,hqq,Ne.symm hqq];exact⟨[q3,q],⟨rfl,rfl⟩,by simp[Man.dX],by simp[rowOf,k0,k1,k2,k3,hG,hG3]⟩
set_option maxRecDepth 100000
set_option maxHeartbeats 4000000
theorem jG (d:Dep) (root:Bool):CallsOK Tryz.prog 169 [.agg d.cells,bV root] (bV (dU d root)) []:=by
 refine aN mixed Tryz.call169 Tryz.func169 rfl (by rw[Tryz.ntmps169];simp) ?_ rfl;rw[Tryz.ntmps169];refine aR fun K' hK=> ?_
 simp;apply hK;clear K' hK;by_cases k1:d.kind=1
 ·skip;refine aR fun K' hK=> ?_
  simp[k1];apply hK;clear K' hK;apply aF
  simp[au,aG,Post,aW,res1,bF,bC,aP,bg,bf,okT,okA,ok1,rowOf,Tryz.f169];simp[dU,k1]
 ·by_cases k3:d.kind=3
  ·skip;refine aR fun K' hK=> ?_
   simp[k3];apply hK;clear K' hK;apply aF
   simp[au,aG,Post,aW,res1,bF,bC,aP,bg,bf,okT,okA,ok1,rowOf,Tryz.f169];simp[dU,k3]
  ·by_cases k4:d.kind=4
   ·skip;refine aR fun K' hK=> ?_
    simp[k4];apply hK;clear K' hK;apply aF
    simp[au,aG,Post,aW,res1,bF,bC,aP,bg,bf,okT,okA,ok1,rowOf,Tryz.f169];simp[dU,k4]
   ·by_cases k2:d.kind=2
    ·skip;refine aR fun K' hK=> ?_
     simp[k2];apply hK;clear K' hK;apply aF
     simp[au,aG,Post,aW,res1,bF,bC,aP,bg,bf,okT,okA,ok1,rowOf,Tryz.f169];simp[dU,k2]
    ·skip;refine aR fun K' hK=> ?_
     simp[k1,k2,k3,k4];apply hK;clear K' hK;apply aF
     simp[au,aG,Post,aW,res1,bF,bC,aP,bg,bf,okT,okA,ok1,rowOf,Tryz.f169];simp[dU,k1,k2,k3,k4]
theorem PZ {rules:List Ru} {name:Bs} {i:Nat} (hi:i<rules.length) (h:(nth rules i).name=name) (hno:∀j,j<i→(nth rules j).name≠name):atF rules name=some i:=by
 unfold atF;rw[List.findIdx?_eq_some_iff_getElem];refine⟨hi,by rw[←bZ hi];simpa using h,fun j hj=> ?_⟩;rw[←bZ (by omega:j<rules.length)];simpa using hno j hj
theorem Qp {rules:List Ru} {name:Bs} (hno:∀j,j<rules.length→(nth rules j).name≠name):atF rules name=none:=by
 unfold atF;rw[List.findIdx?_eq_none_iff];intro d hd;obtain⟨j,hj,rfl⟩:=List.mem_iff_getElem.1 hd;rw[←bZ hj];simpa using hno j hj
def CW (rules:List Ru) (name:Bs):AV×Js:=match atF rules name with
 | some i=>(.tup [.agg [.row 0 (nth rules i).range.length],bV true],[(71,flat Alt.cells (nth rules i).range)])
 | none=>(.tup [.agg [.v (.slice none 0 0)],bV false],[])
theorem Jr (rules:List Ru) (name:Bs) (hl:Ru.okL rules):CallsOK Tryz.prog 170 [rowT Ru.cells rules,sV name] (CW rules name).1 (CW rules name).2:=by
 have hll:=hl.1;refine aN mixed Tryz.call170 Tryz.func170 rfl (by rw[Tryz.ntmps170];simp) ?_ (by unfold CW;split<;>rfl);rw[Tryz.ntmps170];refine aR fun K' hK=> ?_
 simp;apply hK;clear K' hK;apply aA;refine aR fun K' hK=> ?_
 simp;apply hK;clear K' hK;apply aB
 refine bH (fun s G nx=>nx=1∧s 0=rowT Ru.cells rules∧s 1=sV name∧s 4=.ptr 0 0∧G 0=some (.var 33 [.v (.slice none 0 0)])∧∃i:Nat,s 6=iV i∧i≤rules.length∧∀j,j<i→(nth rules j).name≠name) (fun s _ _=>match s 6 with | .v (.int _ n)=>rules.length-n.toNat | _=>0) ?_ ?_
 ·exact⟨by simp,by simp,by simp,by simp,by simp,0,by simp,by omega,fun j hj=>by omega⟩
 ·rintro s G nx hf ⟨rfl,s0,s1,s4,g0,i,s6,hi,hno⟩;have hw:IntKind.i64.wrap (↑i+1)=((i+1:Nat):Int):=dh (by omega);apply aA;refine aR fun K' hK=> ?_
  simp[s0,s6];apply hK;clear K' hK;refine aC fun A B hA hB=> ?_
  simp;refine⟨fun hi2=>hA ?_,fun hi2=>hB ?_⟩<;>clear hA hB A B<;>(try simp at hi2)<;>(try with_reducible refine aK ?_)
  ·have hdr:=hl.2 _ (bM hi2);apply aB
   by_cases hn:(nth rules i).name=name
   ·have hv:CW rules name=(.tup [.agg [.row 0 (nth rules i).range.length],bV true],[(71,flat Alt.cells (nth rules i).range)]):=(by unfold CW;rw[PZ hi2 hn hno]);rw[hv];refine aR fun K' hK=> ?_
    simp[s0,s1,s6,hi2,hn];apply hK;clear K' hK;refine aU (by simp[hn]) ?_;apply aA;refine aR fun K' hK=> ?_
    simp[s0,s4,s6,hi2,g0];refine aO (uH (nth rules i).range ⟨by omega,fun l hl=>by have:=hdr.2 l hl;omega⟩) (by first | rfl | (simp[Rg.cells];done) | (simp[Rg.cells];rfl) | (simp[Rg.cells];exact⟨rfl,rfl⟩)) ?_;simp[bK,g0,s4];apply hK;clear K' hK;apply aJ
    simp[au,aG,Post,aW,res1,bF,bC,aP,bg,bf,okT,okA,ok1,rowOf,Tryz.f170,s4]
   ·skip;refine aR fun K' hK=> ?_
    simp[s0,s1,s6,hi2,hn];apply hK;clear K' hK;refine aVk (by simp[hn]) ?_;apply aj
    refine ah ?_;refine aS fun K' hK=> ?_
    simp[s6,hw];apply hK;clear K' hK;refine aj (ay ?_ ?_)
    ·exact⟨rfl,by simp[s0],by simp[s1],by simp[s4],by simp[g0],i+1,by simp[hw],by omega,fun j hj=>by
      by_cases h:j=i
      ·subst h;exact hn
      ·exact hno j (by omega)⟩
    ·simp[s6,hw];omega
  ·skip;apply bG
   refine aI (aH ?_);have hv:CW rules name=(.tup [.agg [.v (.slice none 0 0)],bV false],[]):=(by unfold CW;rw[Qp fun j hj=>hno j (by omega)]);rw[hv];refine aR fun K' hK=> ?_
   simp[s4,g0];apply hK;clear K' hK;apply aF
   simp[au,aG,Post,aW,res1,bF,bC,aP,bg,bf,okT,okA,ok1,rowOf,Tryz.f170,s4]
theorem NC (L:List Man) (hl:L.length≤1000000000) (hm:∀m∈L,Man.okS m) (n:Bs) (v:Ver):CallsOK Tryz.prog 90 [rowT Man.cells L,sV n,.agg v.cells] (uM (jC L n v)).1 (uM (jC L n v)).2:=by
 refine aN mixed Tryz.call90 Tryz.func90 rfl (by rw[Tryz.ntmps90];simp) ?_ (by cases jC L n v<;>rfl);rw[Tryz.ntmps90];refine aR fun K' hK=> ?_
 simp;apply hK;clear K' hK;apply aA;refine aR fun K' hK=> ?_
 simp;apply hK;clear K' hK;apply aB
 refine bH (fun s G nx=>nx=2∧s 0=rowT Man.cells L∧s 1=sV n∧s 5=.ptr 0 0∧s 6=.ptr 1 0∧G 0=some (.var 23 v.cells)∧G 1=some (.var 27 Eo)∧∃i:Nat,s 8=iV i∧i≤L.length∧jC L n v=jC (L.drop i) n v) (fun s _ _=>match s 8 with | .v (.int _ n)=>L.length-n.toNat | _=>0) ?_ ?_
 ·exact⟨by simp,by simp,by simp,by simp,by simp,by simp,by simp,0,by simp,by omega,by simp⟩
 ·rintro s G nx hf ⟨rfl,s0,s1,s5,s6,g0,g1,i,s8,hi,ht⟩;have hw:IntKind.i64.wrap (↑i+1)=((i+1:Nat):Int):=dh (by omega);apply aA;refine aR fun K' hK=> ?_
  simp[s0,s8];apply hK;clear K' hK;refine aC fun A B hA hB=> ?_
  simp;refine⟨fun hi2=>hA ?_,fun hi2=>hB ?_⟩<;>clear hA hB A B<;>(try simp at hi2)<;>(try with_reducible refine aK ?_)
  ·have hst:=xR (n:=n) (v:=v) hi2;have hmo:=hm _ (bM hi2);generalize hgm:nth L i=m at*;have hhit:RH n v m=(decide (m.name=n)&&decide (m.ver=v)):=rfl;apply aB
   by_cases h1:m.name=n
   ·by_cases h2:m.ver=v
    ·have h1':(m.name=n)=True:=eq_true h1;have h2':(m.ver=v)=True:=eq_true h2;have hv:jC L n v=some m:=(by rw[ht,hst,hhit];simp[h1,h2]);rw[hv];refine aQ fun K' hK=> ?_
     simp(maxSteps:=1000000) [s0,s1,s5,s8,g0,hi2,hgm,h1',h2'];apply hK;clear K' hK;refine aU (by simp) ?_;apply aA;refine aR fun K' hK=> ?_
     simp[s0,s8,s6,hi2,hgm,g1];refine aO (Gg m hmo) (by first | rfl | (simp;done) | (simp;rfl) | (simp;exact⟨rfl,rfl⟩)) ?_;simp[kM,g1,s6];apply hK;clear K' hK;apply aJ
     simp[au,aG,Post,aW,res1,Tryz.f90,uM,s6];exact zS true (by omega) (by simp) (by simp)
    ·have h1':(m.name=n)=True:=eq_true h1;have hd:jC L n v=jC (L.drop (i+1)) n v:=(by rw[ht,hst,hhit];simp[h2]);refine aQ fun K' hK=> ?_
     simp(maxSteps:=1000000) [s0,s1,s5,s8,g0,hi2,hgm,h1',h2];apply hK;clear K' hK;refine aVk (by simp) ?_;apply aj
     refine ah ?_;refine aS fun K' hK=> ?_
     simp[s8,hw];apply hK;clear K' hK;refine aj (ay ?_ ?_)
     ·exact⟨rfl,by simp[s0],by simp[s1],by simp[s5],by simp[s6],by simp[g0],by simp[g1],i+1,by simp[hw],by omega,hd⟩
     ·simp[s8,hw];omega
   ·have hd:jC L n v=jC (L.drop (i+1)) n v:=(by rw[ht,hst,hhit];simp[h1]);refine aQ fun K' hK=> ?_
    simp(maxSteps:=1000000) [s0,s1,s5,s8,g0,hi2,hgm,h1];apply hK;clear K' hK;refine aVk (by simp) ?_;apply aj
    refine ah ?_;refine aS fun K' hK=> ?_
    simp[s8,hw];apply hK;clear K' hK;refine aj (ay ?_ ?_)
    ·exact⟨rfl,by simp[s0],by simp[s1],by simp[s5],by simp[s6],by simp[g0],by simp[g1],i+1,by simp[hw],by omega,hd⟩
    ·simp[s8,hw];omega
  ·skip;apply bG
   refine aI (aH ?_);have hv:jC L n v=none:=(by rw[ht,List.drop_of_length_le (by omega)];rfl);rw[hv];refine aR fun K' hK=> ?_
   simp[s6,g1];apply hK;clear K' hK;apply aF
   simp[au,aG,Post,aW,res1,bF,bC,aP,bg,bf,okT,okA,ok1,rowOf,Tryz.f90,uM,s6]
set_option maxRecDepth 100000
set_option maxHeartbeats 400000
def qX (root first:Bool) (last:Bs) (d:Dep):Bool:=dU d root&&(first || ltB last d.name)
def OT (root first:Bool) (last:Bs) (b:Option Bs) (d:Dep):Option Bs:=if qX root first last d=true∧(∀x,b=some x→ltB d.name x=true)then some d.name else b
def lu (root first:Bool) (last:Bs) (ds:List Dep):Option Bs:=ds.foldl (OT root first last) none
theorem xX {root first:Bool} {last:Bs} {ds:List Dep} {i:Nat} (h:i<ds.length):lu root first last (ds.take (i+1))=OT root first last (lu root first last (ds.take i)) (nth ds i):=by
 unfold lu;rw[List.take_add_one,List.getElem?_eq_getElem h,bZ h];rw[List.foldl_append];rfl
def QY (root first:Bool) (last:Bs) (ds:List Dep):Option Bs→Prop
 | none=>∀d∈ds,qX root first last d=false
 | some x=>(∃d∈ds,qX root first last d=true∧d.name=x)∧∀d∈ds,qX root first last d=true→ltB d.name x=false
theorem Fe (root first:Bool) (last:Bs) (ds:List Dep):QY root first last ds (lu root first last ds):=by
 have:∀i,i≤ds.length→QY root first last (ds.take i) (lu root first last (ds.take i)):=by
  intro i;induction i with
  | zero=>intro _;exact fun d hd=>by simp at hd
  | succ i ih=>
   intro hi;have ih:=ih (by omega);have hst:ds.take (i+1)=ds.take i++[nth ds i]:=(by rw[List.take_add_one,List.getElem?_eq_getElem (by omega),←bZ (by omega)];rfl);rw[xX (by omega)];rw[hst];generalize nth ds i=d at*;generalize ds.take i=l at*;generalize lu root first last l=b at*;unfold OT;by_cases hc:qX root first last d=true
   ·cases b with
    | none=>
     rw[if_pos ⟨hc,fun x h=>by cases h⟩];refine⟨⟨d,by simp,hc,rfl⟩,fun e he hce=> ?_⟩;rcases List.mem_append.1 he with h | h
     ·rw[ih e h]at hce;cases hce
     ·have:e=d:=(by simpa using h);subst this;exact zq _
    | some x=>
     obtain⟨⟨y,hy,hcy,hyx⟩,hmin⟩:=ih;by_cases hlt:ltB d.name x=true
     ·rw[if_pos ⟨hc,fun z hz=>by injection hz with hz;subst hz;exact hlt⟩];refine⟨⟨d,by simp,hc,rfl⟩,fun e he hce=> ?_⟩;rcases List.mem_append.1 he with h | h
      ·rw[Bool.eq_false_iff];intro hed;have h1:=hmin e h hce;rw[BJ hed hlt]at h1;cases h1
      ·have:e=d:=(by simpa using h);subst this;exact zq _
     ·rw[if_neg (fun h=>hlt (h.2 x rfl))];refine⟨⟨y,by simp[hy],hcy,hyx⟩,fun e he hce=> ?_⟩;rcases List.mem_append.1 he with h | h
      ·exact hmin e h hce
      ·have:e=d:=(by simpa using h);subst this;simpa using hlt
   ·rw[if_neg (fun h=>hc h.1)];cases b with
    | none=>
     intro e he;rcases List.mem_append.1 he with h | h
     ·exact ih e h
     ·have:e=d:=(by simpa using h);subst this;simpa using hc
    | some x=>
     obtain⟨⟨y,hy,hcy,hyx⟩,hmin⟩:=ih;refine⟨⟨y,by simp[hy],hcy,hyx⟩,fun e he hce=> ?_⟩;rcases List.mem_append.1 he with h | h
     ·exact hmin e h hce
     ·have:e=d:=(by simpa using h);subst this;exact absurd hce hc
 have h:=this ds.length (Nat.le_refl _)
 rwa [List.take_length]at h
theorem NW (root:Bool) (ds:List Dep) (n:Bs):n∈cu (byM root ds)↔∃d∈ds,dU d root=true∧d.name=n:=by
 have:∀i,i≤ds.length→(n∈cu (byM root (ds.take i))↔∃d∈ds.take i,dU d root=true∧d.name=n):=by
  intro i;induction i with
  | zero=>intro _;simp[byM,cu]
  | succ i ih=>
   intro hi;have ih:=ih (by omega);have hst:ds.take (i+1)=ds.take i++[nth ds i]:=(by rw[List.take_add_one,List.getElem?_eq_getElem (by omega),←bZ (by omega)];rfl);rw[nZ root (by omega)];rw[hst];generalize nth ds i=d at*;generalize ds.take i=l at*;generalize byM root l=M at*;have hr:(∃e∈l++[d],dU e root=true∧e.name=n)↔(∃e∈l,dU e root=true∧e.name=n)∨(dU d root=true∧d.name=n):=by
    constructor
    ·rintro⟨e,he,h⟩;rcases List.mem_append.1 he with h1 | h1
     ·exact .inl ⟨e,h1,h⟩
     ·have:e=d:=(by simpa using h1);subst this;exact .inr h
    ·rintro(⟨e,he,h⟩ | h)
     ·exact⟨e,by simp[he],h⟩
     ·exact⟨d,by simp,h⟩
   rw[hr,←ih];unfold stepM;by_cases hc:dU d root=true
   ·by_cases hk:∀i,posM M d.name=some i→d.kind<(nth M i).kind
    ·rw[if_pos ⟨hc,hk⟩];rcases yg (M:=M) d with⟨h1,h2⟩ | ⟨h1,h2⟩
     ·rw[h2];exact⟨.inl,fun h=>h.elim id fun h=>by rw[←h.2];exact h1⟩
     ·rw[h2,List.mem_append];exact⟨fun h=>h.imp id fun h=>⟨hc,by simpa using Eq.symm (by simpa using h)⟩,fun h=>h.imp id fun h=>by simp[h.2]⟩
    ·rw[if_neg (fun h=>hk h.2)];have hin:d.name∈cu M:=by
      rcases Classical.em (d.name∈cu M)with h | h
      ·exact h
      ·exact absurd (fun i hi=>by rw[kF.2 h]at hi;cases hi) hk
     exact⟨.inl,fun h=>h.elim id fun h=>by rw[←h.2];exact hin⟩
   ·rw[if_neg (fun h=>hc h.1)];exact⟨.inl,fun h=>h.elim id fun h=>absurd h.1 hc⟩
 have h:=this ds.length (Nat.le_refl _)
 rwa [List.take_length]at h
def fO (root:Bool) (ds:List Dep):List Bs:=mQ (cu (byM root ds))
theorem rU {root:Bool} {ds:List Dep} {n:Bs} :n∈fO root ds↔∃d∈ds,dU d root=true∧d.name=n:=by
 rw[←NW];exact(fE _).mem_iff
theorem Ll (root:Bool) (ds:List Dep):(fO root ds).Pairwise fun a b=>ltB a b=true:=PI (AY root ds)
theorem wG {root:Bool} {ds:List Dep} {i j:Nat} (hij:i<j) (hj:j<(fO root ds).length):ltB (nth (fO root ds) i) (nth (fO root ds) j)=true:=by
 have:=List.pairwise_iff_getElem.1 (Ll root ds) i j (by omega) hj hij
 rwa [←bZ (by omega),←bZ hj]at this
theorem NY {root first:Bool} {last:Bs} {ds:List Dep} {k:Nat} (hlo:∀i,i<k→i<(fO root ds).length→(first || ltB last (nth (fO root ds) i))=false) (hhi:∀i,k≤i→i<(fO root ds).length→(first || ltB last (nth (fO root ds) i))=true):
  lu root first last ds=if k<(fO root ds).length then some (nth (fO root ds) k)else none:=by
 have hL:=Fe root first last ds;have cand:∀d∈ds,qX root first last d=true→∃i,k≤i∧i<(fO root ds).length∧nth (fO root ds) i=d.name:=by
  intro d hd hc;simp only[qX,Bool.and_eq_true]at hc;have hm:d.name∈fO root ds:=rU.2 ⟨d,hd,hc.1,rfl⟩;obtain⟨i,hi,he⟩:=List.mem_iff_getElem.1 hm;rw[←bZ hi]at he;refine⟨i,?_,hi,he⟩;rcases Nat.lt_or_ge i k with h | h
  ·have:=hlo i h hi;rw[he]at this;rw[this]at hc;cases hc.2
  ·exact h
 cases hN:lu root first last ds with
 | none=>
  rw[hN]at hL;by_cases hk:k<(fO root ds).length
  ·obtain⟨d,hd,hc,he⟩:=rU.1 (bM hk);have:=hL d hd;have h2:=hhi k (Nat.le_refl _) hk;rw[←he]at h2;simp only[qX,hc,h2]at this;cases this
  ·rw[if_neg hk]
 | some x=>
  rw[hN]at hL;obtain⟨⟨d,hd,hc,rfl⟩,hmin⟩:=hL;obtain⟨i,hki,hi,he⟩:=cand d hd hc;rw[if_pos (by omega)];obtain⟨e,hed,hec,hen⟩:=rU.1 (bM (show k<(fO root ds).length by omega));have h2:=hhi k (Nat.le_refl _) (by omega);rw[←hen]at h2;have h3:=hmin e hed (by simp only[qX,hec,h2];rfl);rw[hen,←he]at h3;rcases Nat.lt_or_ge k i with h | h
  ·rw[wG h hi]at h3;cases h3
  ·have:i=k:=(by omega);rw[←this,he]
theorem II (root:Bool) (last:Bs) (ds:List Dep):lu root true last ds=if 0<(fO root ds).length then some (nth (fO root ds) 0)else none:=
 NY (fun i h=>by omega) (fun i _ _=>rfl)
theorem Nq (root:Bool) (ds:List Dep) {k:Nat} (hk:k<(fO root ds).length):lu root false (nth (fO root ds) k) ds=if k+1<(fO root ds).length then some (nth (fO root ds) (k+1))else none:=
 NY (fun i h hi=>by
  simp only[Bool.false_or];rcases Nat.lt_or_ge i k with h1 | h1
  ·exact GR (wG h1 hk)
  ·have:i=k:=(by omega);rw[this];exact zq _) (fun i h hi=>by
  simp only[Bool.false_or];exact wG (by omega) hi)
set_option maxRecDepth 100000
set_option maxHeartbeats 4000000
theorem zh (m:Man) (hl:m.deps.length≤1000000000) (root first:Bool) (last:Bs):CallsOK Tryz.prog 131 [.agg m.cells,bV root,sV last,bV first] (.tup [sV ((lu root first last m.deps).getD ⟨#[]⟩),bV (lu root first last m.deps).isSome]) []:=by
 refine aN mixed Tryz.call131 Tryz.func131 rfl (by rw[Tryz.ntmps131];simp) ?_ rfl;rw[Tryz.ntmps131];refine aR fun K' hK=> ?_
 simp;apply hK;clear K' hK;refine aR fun K' hK=> ?_
 simp;apply hK;clear K' hK;refine aR fun K' hK=> ?_
 simp;apply hK;clear K' hK;apply aA;refine aR fun K' hK=> ?_
 simp;apply hK;clear K' hK;apply aB
 refine bH (fun s G nx=>s 1=bV root∧s 2=sV last∧s 3=bV first∧s 4=.ptr 0 0∧G 0=some (.var 27 m.cells)∧∃i:Nat,s 12=iV i∧i≤m.deps.length∧s 10=sV ((lu root first last (m.deps.take i)).getD ⟨#[]⟩)∧s 11=bV (lu root first last (m.deps.take i)).isSome) (fun s _ _=>match s 12 with | .v (.int _ n)=>m.deps.length-n.toNat | _=>0) ?_ ?_
 ·exact⟨by simp,by simp,by simp,by simp,by simp,0,by simp,by omega,by simp[lu],by simp[lu]⟩
 ·rintro s G nx hf ⟨s1,s2,s3,s4,g0,i,s12,hi,s10,s11⟩;have o12:=s12;have n0:¬0=nx:=(by have:=cO hf g0;omega);have hw:IntKind.i64.wrap (↑i+1)=((i+1:Nat):Int):=dh (by omega);apply aA;refine aR fun K' hK=> ?_
  simp[s4,s12,g0];apply hK;clear K' hK;refine aC fun A B hA hB=> ?_
  simp;refine⟨fun hi2=>hA ?_,fun hi2=>hB ?_⟩<;>clear hA hB A B<;>(try simp at hi2)<;>(try with_reducible refine aK ?_)
  ·have hst:=xX (root:=root) (first:=first) (last:=last) hi2;generalize hgd:nth m.deps i=d at*;have hcd:qX root first last d=(dU d root&&(first || ltB last d.name)):=rfl;generalize lu root first last (m.deps.take i)=b at*;have hsx:OT root first last b d=if qX root first last d=true∧(∀x,b=some x→ltB d.name x=true)then some d.name else b:=rfl;apply aB;refine aR fun K' hK=> ?_
   simp[s4,s12,g0,hi2,hgd];apply hK;clear K' hK;have inv:∀(u:Sl) (c:Option Bs),c=lu root first last (m.deps.take (i+1))→u 1=bV root→u 2=sV last→u 3=bV first→u 4=.ptr 0 0→u 12=iV i→u 10=sV (c.getD ⟨#[]⟩)→u 11=bV c.isSome→True:=fun _ _ _ _ _ _ _ _ _ _=>trivial;clear inv;have yes:(qX root first last d=true∧(∀x,b=some x→ltB d.name x=true))→lu root first last (m.deps.take (i+1))=some d.name:=fun h=>(by rw[hst,hsx,if_pos h]);have no:¬(qX root first last d=true∧(∀x,b=some x→ltB d.name x=true))→lu root first last (m.deps.take (i+1))=b:=fun h=>(by rw[hst,hsx,if_neg h]);refine aR fun K' hK=> ?_
   simp[n0];refine ak (jG d root) rfl (by first | rfl | (simp[s1];done) | (simp[s1];rfl) | (simp[s1];exact⟨rfl,rfl⟩)) ?_;by_cases hc:dU d root=true
   ·by_cases hfl:first=true∨ltB last d.name=true
    ·have hcand:qX root first last d=true:=(by rw[hcd,hc];simpa using hfl);cases b with
     | none=>
      have hy:=yes ⟨hcand,fun x h=>by cases h⟩;simp only[Option.getD_none,Option.isSome_none]at s10 s11;rcases hfl with hfl | hfl
      ·subst hfl;simp[hc,s1,s2,s3,s10,s11];apply hK;clear K' hK;refine aU (by simp) ?_;apply aA;refine aR fun K' hK=> ?_
       simp;apply hK;clear K' hK;refine aR fun K' hK=> ?_
       simp;apply hK;clear K' hK;apply aj
       refine ah ?_;refine aS fun K' hK=> ?_
       simp[s12,hw];apply hK;clear K' hK;refine aj (ay ?_ ?_)
       ·exact⟨by simp[s1],by simp[s2],by simp[s3],by simp[s4],by simp[n0,g0],i+1,by simp[hw],by omega,by simp[hy],by simp[hy]⟩
       ·simp[o12,s12,hw];omega
      ·cases first with
       | true=>
        simp[hc,s1,s2,s3,s10,s11];apply hK;clear K' hK;refine aU (by simp) ?_;apply aA;refine aR fun K' hK=> ?_
        simp;apply hK;clear K' hK;refine aR fun K' hK=> ?_
        simp;apply hK;clear K' hK;apply aj
        refine ah ?_;refine aS fun K' hK=> ?_
        simp[s12,hw];apply hK;clear K' hK;refine aj (ay ?_ ?_)
        ·exact⟨by simp[s1],by simp[s2],by simp[s3],by simp[s4],by simp[n0,g0],i+1,by simp[hw],by omega,by simp[hy],by simp[hy]⟩
        ·simp[o12,s12,hw];omega
       | false=>
        simp[hc,s1,s2,s3,s10,s11,hfl,n0];apply hK;clear K' hK;refine aU (by simp) ?_;apply aA;refine aR fun K' hK=> ?_
        simp;apply hK;clear K' hK;refine aR fun K' hK=> ?_
        simp;apply hK;clear K' hK;apply aj
        refine ah ?_;refine aS fun K' hK=> ?_
        simp[s12,hw];apply hK;clear K' hK;refine aj (ay ?_ ?_)
        ·exact⟨by simp[s1],by simp[s2],by simp[s3],by simp[s4],by simp[n0,g0],i+1,by simp[hw],by omega,by simp[hy],by simp[hy]⟩
        ·simp[o12,s12,hw];omega
     | some x=>
      simp only[Option.getD_some,Option.isSome_some]at s10 s11;by_cases hlt:ltB d.name x=true
      ·have hy:=yes ⟨hcand,fun z hz=>by injection hz with hz;subst hz;exact hlt⟩;cases first with
       | true=>
        simp[hc,s1,s2,s3,s10,s11,hlt,n0];apply hK;clear K' hK;refine aU (by simp) ?_;apply aA;refine aR fun K' hK=> ?_
        simp;apply hK;clear K' hK;refine aR fun K' hK=> ?_
        simp;apply hK;clear K' hK;apply aj
        refine ah ?_;refine aS fun K' hK=> ?_
        simp[s12,hw];apply hK;clear K' hK;refine aj (ay ?_ ?_)
        ·exact⟨by simp[s1],by simp[s2],by simp[s3],by simp[s4],by simp[n0,g0],i+1,by simp[hw],by omega,by simp[hy],by simp[hy]⟩
        ·simp[o12,s12,hw];omega
       | false=>
        have hfl:=hfl.resolve_left (by simp);simp[hc,s1,s2,s3,s10,s11,hlt,hfl,n0];apply hK;clear K' hK;refine aU (by simp) ?_;apply aA;refine aR fun K' hK=> ?_
        simp;apply hK;clear K' hK;refine aR fun K' hK=> ?_
        simp;apply hK;clear K' hK;apply aj
        refine ah ?_;refine aS fun K' hK=> ?_
        simp[s12,hw];apply hK;clear K' hK;refine aj (ay ?_ ?_)
        ·exact⟨by simp[s1],by simp[s2],by simp[s3],by simp[s4],by simp[n0,g0],i+1,by simp[hw],by omega,by simp[hy],by simp[hy]⟩
        ·simp[o12,s12,hw];omega
      ·have hn:=no fun h=>hlt (h.2 x rfl);have hlt':ltB d.name x=false:=(by simpa using hlt);cases first with
       | true=>
        simp[hc,s1,s2,s3,s10,s11,hlt',n0];apply hK;clear K' hK;refine aVk (by simp) ?_;apply aj
        refine ah ?_;refine aS fun K' hK=> ?_
        simp[s12,hw];apply hK;clear K' hK;refine aj (ay ?_ ?_)
        ·exact⟨by simp[s1],by simp[s2],by simp[s3],by simp[s4],by simp[n0,g0],i+1,by simp[hw],by omega,by simp[hn,s10],by simp[hn,s11]⟩
        ·simp[o12,s12,hw];omega
       | false=>
        have hfl:=hfl.resolve_left (by simp);simp[hc,s1,s2,s3,s10,s11,hlt',hfl,n0];apply hK;clear K' hK;refine aVk (by simp) ?_;apply aj
        refine ah ?_;refine aS fun K' hK=> ?_
        simp[s12,hw];apply hK;clear K' hK;refine aj (ay ?_ ?_)
        ·exact⟨by simp[s1],by simp[s2],by simp[s3],by simp[s4],by simp[n0,g0],i+1,by simp[hw],by omega,by simp[hn,s10],by simp[hn,s11]⟩
        ·simp[o12,s12,hw];omega
    ·have hf0:first=false:=(by cases first<;>simp_all);have hll:ltB last d.name=false:=by
      rw[Bool.eq_false_iff];exact fun h=>hfl (.inr h)
     subst hf0;have hn:=no fun h=>(by rw[hcd,hc,hll]at h;exact absurd h.1 (by decide));simp[hc,s1,s2,s3,hll,n0];apply hK;clear K' hK;refine aVk (by simp) ?_;apply aj
     refine ah ?_;refine aS fun K' hK=> ?_
     simp[s12,hw];apply hK;clear K' hK;refine aj (ay ?_ ?_)
     ·exact⟨by simp[s1],by simp[s2],by simp[s3],by simp[s4],by simp[n0,g0],i+1,by simp[hw],by omega,by simp[hn,s10],by simp[hn,s11]⟩
     ·simp[o12,s12,hw];omega
   ·have hc':dU d root=false:=(by simpa using hc);have hn:=no fun h=>(by rw[hcd,hc']at h;exact absurd h.1 (by simp));simp[hc'];apply hK;clear K' hK;refine aVk (by simp) ?_;apply aj
    refine ah ?_;refine aS fun K' hK=> ?_
    simp[s12,hw];apply hK;clear K' hK;refine aj (ay ?_ ?_)
    ·exact⟨by simp[s1],by simp[s2],by simp[s3],by simp[s4],by simp[n0,g0],i+1,by simp[hw],by omega,by simp[hn,s10],by simp[hn,s11]⟩
    ·simp[o12,s12,hw];omega
  ·skip;apply bG
   refine aI (aH ?_);rw[List.take_of_length_le (by omega)]at s10 s11;refine aR fun K' hK=> ?_
   simp[s10,s11];apply hK;clear K' hK;apply aF
   simp[au,aG,Post,aW,res1,bF,bC,aP,bg,bf,okT,okA,ok1,rowOf,Tryz.f131]
set_option maxRecDepth 100000
set_option maxHeartbeats 4000000
theorem O8 {M:List Dep} {d:Dep} :∃p,posM (zI M d) d.name=some p∧nth (zI M d) p=d:=by
 unfold zI;cases h:posM M d.name with
 | none=>
  refine⟨M.length,?_,yM⟩;unfold posM at*;rw[List.findIdx?_append,h];simp
 | some i=>
  obtain⟨h1,h2⟩:=lV h;refine⟨i,?_,by rw[uG h1,if_pos rfl]⟩;unfold posM at*;rw[List.findIdx?_eq_some_iff_getElem]at h⊢;obtain⟨a,b,c⟩:=h;refine⟨by simpa using a,by simp,fun j hj=> ?_⟩;have:=c j hj;rw[List.getElem_set_ne (by omega)];exact this
theorem IJ {M:List Dep} {d:Dep} {n:Bs} (hne:¬d.name=n):match posM M n with
  | none=>posM (zI M d) n=none
  | some p=>posM (zI M d) n=some p∧nth (zI M d) p=nth M p:=by
 unfold zI;cases hd:posM M d.name with
 | none=>
  cases h:posM M n with
  | none=>
   show posM (M++[d]) n=none;unfold posM at*;rw[List.findIdx?_append,h];simp[hne]
  | some p=>
   have hp:=(lV h).1;refine⟨?_,xQ hp⟩;unfold posM at*;rw[List.findIdx?_append,h];rfl
 | some i=>
  obtain⟨h1,h2⟩:=lV hd;cases h:posM M n with
  | none=>
   show posM (M.set i d) n=none;unfold posM at*;rw[List.findIdx?_eq_none_iff]at h⊢;intro x hx;rcases List.mem_or_eq_of_mem_set hx with hx | rfl
   ·exact h x hx
   ·simp[hne]
  | some p=>
   obtain⟨q1,q2⟩:=lV h;have hpi:¬p=i:=fun e=>hne (by rw[←q2,e,h2]);refine⟨?_,by rw[uG h1,if_neg hpi]⟩;unfold posM at*;rw[List.findIdx?_eq_some_iff_getElem]at h⊢;obtain⟨a,b,c⟩:=h;refine⟨by simpa using a,by rw[List.getElem_set_ne (fun e=>hpi e.symm)];exact b,fun j hj=> ?_⟩;rw[List.getElem_set];split
   ·simp[hne]
   ·exact c j hj
def AtE (root:Bool) (name:Bs) (ds:List Dep) (i:Nat):Option Nat→Prop
 | none=>posM (byM root (ds.take i)) name=none
 | some j=>j<i∧∃p,posM (byM root (ds.take i)) name=some p∧nth (byM root (ds.take i)) p=nth ds j
theorem OQ {root:Bool} {name:Bs} {ds:List Dep} {i:Nat} {b:Option Nat} (hi:i<ds.length) (h:AtE root name ds i b):
  AtE root name ds (i+1) (if(nth ds i).name=name∧dU (nth ds i) root=true∧(∀j,b=some j→(nth ds i).kind<(nth ds j).kind)then some i else b):=by
 unfold AtE at*;have hb:=nZ root hi;generalize byM root (ds.take i)=M at*;generalize hd:nth ds i=d at*;by_cases hn:d.name=name
 ·subst hn;by_cases hc:dU d root=true
  ·by_cases hk:∀j,b=some j→d.kind<(nth ds j).kind
   ·rw[if_pos ⟨rfl,hc,hk⟩];have:stepM root M d=zI M d:=by
     unfold stepM;rw[if_pos];refine⟨hc,fun p hp=> ?_⟩;cases b with
     | none=>simp only at h;rw[h]at hp;cases hp
     | some j=>
      obtain⟨_,p',h1,h2⟩:=h;rw[h1]at hp;injection hp with hp;subst hp;rw[h2];exact hk j rfl
    show i<i+1∧_;rw[hb,this,hd];exact⟨by omega,O8⟩
   ·rw[if_neg (fun h=>hk h.2.2)];have:stepM root M d=M:=by
     unfold stepM;rw[if_neg];rintro⟨_,h3⟩;refine hk fun j hj=> ?_;subst hj;obtain⟨_,p,h1,h2⟩:=h;rw[←h2];exact h3 p h1
    rw[hb,this];cases b with
    | none=>exact h
    | some j=>exact⟨by have:=h.1;omega,h.2⟩
  ·rw[if_neg (fun h=>hc h.2.1)];have:stepM root M d=M:=(by unfold stepM;rw[if_neg (fun h=>hc h.1)]);rw[hb,this];cases b with
   | none=>exact h
   | some j=>exact⟨by have:=h.1;omega,h.2⟩
 ·rw[if_neg (fun h=>hn h.1)];have hp:=IJ (M:=M) (d:=d) hn;have:∀X,(X=M∨X=zI M d)→stepM root M d=X→(match b with
    | none=>posM X name=none
    | some j=>j<i+1∧∃p,posM X name=some p∧nth X p=nth ds j):=by
   rintro X (rfl | rfl) _
   ·cases b with
    | none=>exact h
    | some j=>exact⟨by have:=h.1;omega,h.2⟩
   ·cases b with
    | none=>
     simp only at h⊢;rw[h]at hp;exact hp
    | some j=>
     obtain⟨hj,p,h1,h2⟩:=h;rw[h1]at hp;exact⟨by omega,p,hp.1,hp.2.trans h2⟩
  rw[hb];have hs:stepM root M d=M∨stepM root M d=zI M d:=by
   unfold stepM;split
   ·exact .inr rfl
   ·exact .inl rfl
  have:=this _ hs rfl;cases b with
  | none=>exact this
  | some j=>exact this
theorem Om {root:Bool} {name:Bs} {ds:List Dep} {b:Option Nat} (h:AtE root name ds ds.length b) (hm:name∈cu (byM root ds)):∃j,b=some j∧j<ds.length∧findD (byM root ds) name=nth ds j:=by
 unfold AtE at h;rw[List.take_length]at h;cases b with
 | none=>exact absurd hm (kF.1 h)
 | some j=>
  obtain⟨hj,p,h1,h2⟩:=h;exact⟨j,rfl,hj,by unfold findD;rw[h1];exact h2⟩
set_option maxRecDepth 100000
set_option maxHeartbeats 4000000
def atJ:Option Nat→Int
 | none=> -1
 | some j=>j
theorem JF (m:Man) (rules:List Ru) (root:Bool) (name:Bs) (hd:Dep.okL m.deps) (hrl:Ru.okL rules) (hm:name∈cu (byM root m.deps)):
  CallsOK Tryz.prog 132 [.agg m.cells,rowT Ru.cells rules,bV root,sV name] (.agg [iV (eU rules (findD (byM root m.deps) name)).kind,sV (eU rules (findD (byM root m.deps) name)).name,.row 0 (eU rules (findD (byM root m.deps) name)).range.length]) [(71,flat Alt.cells (eU rules (findD (byM root m.deps) name)).range)]:=by
 have hdl:=hd.1;refine aN mixed Tryz.call132 Tryz.func132 rfl (by rw[Tryz.ntmps132];simp) ?_ rfl;rw[Tryz.ntmps132];refine aR fun K' hK=> ?_
 simp;apply hK;clear K' hK;refine aR fun K' hK=> ?_
 simp;apply hK;clear K' hK;apply aA;refine uo ?_
 refine fC (fun s G nx=>2≤nx∧s 1=rowT Ru.cells rules∧s 3=sV name∧s 4=.ptr 0 0∧s 8=.ptr 1 0∧G 0=some (.var 27 m.cells)∧G 1=some (.var 35 [iV 0,sV ⟨#[]⟩,.v (.slice none 0 0)])∧∃b,s 9=iV (atJ b)∧AtE root name m.deps m.deps.length b) ?_ ?_
 ·skip;refine aR fun K' hK=> ?_
  simp;apply hK;clear K' hK;refine dL (aB ?_)
  refine bH (fun s G nx=>2≤nx∧s 1=rowT Ru.cells rules∧s 2=bV root∧s 3=sV name∧s 4=.ptr 0 0∧s 8=.ptr 1 0∧G 0=some (.var 27 m.cells)∧G 1=some (.var 35 [iV 0,sV ⟨#[]⟩,.v (.slice none 0 0)])∧∃(i:Nat) (b:Option Nat),s 10=iV i∧i≤m.deps.length∧s 9=iV (atJ b)∧AtE root name m.deps i b) (fun s _ _=>match s 10 with | .v (.int _ n)=>m.deps.length-n.toNat | _=>0) ?_ ?_
  ·exact⟨by omega,by simp,by simp,by simp,by simp,by simp,by simp,by simp,0,none,by simp,by omega,by simp[atJ],rfl⟩
  ·rintro s G nx hf ⟨hnx,s1,s2,s3,s4,s8,g0,g1,i,b,s10,hi,s9,hb⟩;have o10:=s10;have n0:¬0=nx:=(by omega);have n1:¬1=nx:=(by omega);have hw:IntKind.i64.wrap (↑i+1)=((i+1:Nat):Int):=dh (by omega);apply aA;refine aR fun K' hK=> ?_
   simp[s4,s10,g0];apply hK;clear K' hK;refine aC fun A B hA hB=> ?_
   simp;refine⟨fun hi2=>hA ?_,fun hi2=>hB ?_⟩<;>clear hA hB A B<;>(try simp at hi2)<;>(try with_reducible refine aK ?_)
   ·have hstep:=OQ hi2 hb;generalize hgd:nth m.deps i=d at*;apply aB;refine aR fun K' hK=> ?_
    simp[s4,s10,g0,hi2,hgd];apply hK;clear K' hK;have yes:(d.name=name∧dU d root=true∧(∀j,b=some j→d.kind<(nth m.deps j).kind))→AtE root name m.deps (i+1) (some i):=fun h=>(by rw[if_pos h]at hstep;exact hstep);have no:¬(d.name=name∧dU d root=true∧(∀j,b=some j→d.kind<(nth m.deps j).kind))→AtE root name m.deps (i+1) b:=fun h=>(by rw[if_neg h]at hstep;exact hstep);clear hstep;by_cases hn:d.name=name
    ·have hn':(d.name=name)=True:=eq_true hn;by_cases hc:dU d root=true
     ·cases b with
      | none=>
       have hy:=yes ⟨hn,hc,fun j h=>by cases h⟩;simp only[atJ]at s9;refine aQ fun K' hK=> ?_
       simp[s2,s3,hn',n0];refine ak (jG d root) rfl (by first | rfl | (simp;done) | (simp;rfl) | (simp;exact⟨rfl,rfl⟩)) ?_;simp[hc,s9];apply hK;clear K' hK;refine aU (by simp) ?_;refine aR fun K' hK=> ?_
       simp;apply hK;clear K' hK;apply aj
       refine ah ?_;refine aS fun K' hK=> ?_
       simp[s10,hw];apply hK;clear K' hK;refine aj (ay ?_ ?_)
       ·exact⟨by omega,by simp[s1],by simp[s2],by simp[s3],by simp[s4],by simp[s8],by simp[n0,g0],by simp[n1,g1],i+1,some i,by simp[hw],by omega,by simp[atJ,s10],hy⟩
       ·simp[o10,s10,hw];omega
      | some j=>
       have hj:j<m.deps.length:=(by have:=hb.1;omega);have hj0:¬(j:Int)<0:=(by omega);simp only[atJ]at s9;by_cases hk:d.kind<(nth m.deps j).kind
       ·have hy:=yes ⟨hn,hc,fun z hz=>by injection hz with hz;subst hz;exact hk⟩;refine aQ fun K' hK=> ?_
        simp[s2,s3,hn',n0];refine ak (jG d root) rfl (by first | rfl | (simp;done) | (simp;rfl) | (simp;exact⟨rfl,rfl⟩)) ?_;simp[hc,s4,s9,g0,n0,hj,hj0,hk];apply hK;clear K' hK;refine aU (by simp) ?_;refine aR fun K' hK=> ?_
        simp;apply hK;clear K' hK;apply aj
        refine ah ?_;refine aS fun K' hK=> ?_
        simp[s10,hw];apply hK;clear K' hK;refine aj (ay ?_ ?_)
        ·exact⟨by omega,by simp[s1],by simp[s2],by simp[s3],by simp[s4],by simp[s8],by simp[n0,g0],by simp[n1,g1],i+1,some i,by simp[hw],by omega,by simp[atJ,s10],hy⟩
        ·simp[o10,s10,hw];omega
       ·have hno:=no fun h=>hk (h.2.2 j rfl);refine aQ fun K' hK=> ?_
        simp[s2,s3,hn',n0];refine ak (jG d root) rfl (by first | rfl | (simp;done) | (simp;rfl) | (simp;exact⟨rfl,rfl⟩)) ?_;simp[hc,s4,s9,g0,n0,hj,hj0,hk];apply hK;clear K' hK;refine aVk (by simp) ?_;apply aj
        refine ah ?_;refine aS fun K' hK=> ?_
        simp[s10,hw];apply hK;clear K' hK;refine aj (ay ?_ ?_)
        ·exact⟨by omega,by simp[s1],by simp[s2],by simp[s3],by simp[s4],by simp[s8],by simp[n0,g0],by simp[n1,g1],i+1,some j,by simp[hw],by omega,by simp[atJ,s9],hno⟩
        ·simp[o10,s10,hw];omega
     ·have hc':dU d root=false:=(by simpa using hc);have hno:=no fun h=>hc h.2.1;refine aQ fun K' hK=> ?_
      simp[s2,s3,hn',n0];refine ak (jG d root) rfl (by first | rfl | (simp;done) | (simp;rfl) | (simp;exact⟨rfl,rfl⟩)) ?_;simp[hc'];apply hK;clear K' hK;refine aVk (by simp) ?_;apply aj
      refine ah ?_;refine aS fun K' hK=> ?_
      simp[s10,hw];apply hK;clear K' hK;refine aj (ay ?_ ?_)
      ·exact⟨by omega,by simp[s1],by simp[s2],by simp[s3],by simp[s4],by simp[s8],by simp[n0,g0],by simp[n1,g1],i+1,b,by simp[hw],by omega,by simp[s9],hno⟩
      ·simp[o10,s10,hw];omega
    ·have hno:=no fun h=>hn h.1;refine aQ fun K' hK=> ?_
     simp(maxSteps:=1000000) [s2,s3,hn,n0];apply hK;clear K' hK;refine aVk (by simp) ?_;apply aj
     refine ah ?_;refine aS fun K' hK=> ?_
     simp[s10,hw];apply hK;clear K' hK;refine aj (ay ?_ ?_)
     ·exact⟨by omega,by simp[s1],by simp[s2],by simp[s3],by simp[s4],by simp[s8],by simp[n0,g0],by simp[n1,g1],i+1,b,by simp[hw],by omega,by simp[s9],hno⟩
     ·simp[o10,s10,hw];omega
   ·skip;apply bG
    refine aI (aH ?_);have hie:i=m.deps.length:=(by omega);subst hie;with_reducible refine bP ?_
    exact⟨hnx,by simp[s1],by simp[s3],by simp[s4],by simp[s8],by simp[g0],by simp[g1],b,by simp[s9],hb⟩
 ·rintro s G nx ⟨hnx,s1,s3,s4,s8,g0,g1,b,s9,hb⟩;obtain⟨j,rfl,hj,hfd⟩:=Om hb hm;have hdn:(nth m.deps j).name=name:=by
   obtain⟨_,p,h1,h2⟩:=hb;rw[←h2];exact(lV h1).2
  rw[hfd];have hdd:=hd.2 _ (bM hj);generalize hgd:nth m.deps j=d at*;simp only[atJ]at s9;have n0:¬0=nx:=(by omega);have n1:¬1=nx:=(by omega);have n2:¬1=nx+1:=(by omega);have n3:¬nx=1:=(by omega);have z0:¬nx=0:=(by omega);have y1:¬nx=nx+1+1:=(by omega);have y2:¬nx=nx+1+1+1:=(by omega);have y3:¬nx+1+1=nx:=(by omega);have y4:¬nx+1+1+1=nx:=(by omega);have y5:¬nx+1=nx:=(by omega);have hatd:atF rules d.name=atF rules name:=(by rw[hdn]);have hRu:=Jr rules name hrl;unfold CW at hRu;refine aR fun K' hK=> ?_
  simp[s4,s9,g0,hj,hgd];apply hK;clear K' hK;refine aR fun K' hK=> ?_
  simp[n0];refine aO (uH d.range ⟨by omega,fun l hl=>by have:=hdd.2.2 l hl;omega⟩) (by first | rfl | (simp[Rg.cells,Dep.cells];done) | (simp[Rg.cells,Dep.cells];rfl) | (simp[Rg.cells,Dep.cells];exact⟨rfl,rfl⟩)) ?_;simp[bK,Rg.cells,Dep.cells];apply hK;clear K' hK;cases hat:atF rules name with
  | none=>
   rw[hat]at hRu hatd;have he:eU rules d=d:=(by unfold eU;rw[hatd]);rw[he];refine aR fun K' hK=> ?_
   simp[s1,s3];refine aO hRu (by first | rfl | (simp;done) | (simp;rfl) | (simp;exact⟨rfl,rfl⟩)) ?_;simp[dO];apply hK;clear K' hK;apply aA;refine aR fun K' hK=> ?_
   simp;apply hK;clear K' hK;refine aYk (by simp) ?_;refine aR fun K' hK=> ?_
   simp[s8,g1,n1,n2,n3,z0];apply hK;clear K' hK;apply aF
   simp[au,aG,Post,aW,res1,bF,bC,aP,bg,bf,okT,okA,ok1,rowOf,Tryz.f132,s8,n3,z0]
  | some q=>
   rw[hat]at hRu hatd;have he:eU rules d= {d with range:=(nth rules q).range} :=(by unfold eU;rw[hatd]);rw[he];refine aR fun K' hK=> ?_
   simp[s1,s3];refine aO hRu (by first | rfl | (simp;done) | (simp;rfl) | (simp;exact⟨rfl,rfl⟩)) ?_;simp[bK];apply hK;clear K' hK;apply aA;refine aR fun K' hK=> ?_
   simp;apply hK;clear K' hK;refine aX (by simp) ?_;refine aR fun K' hK=> ?_
   simp[y1,y2];apply hK;clear K' hK;refine aR fun K' hK=> ?_
   simp[s8,g1,n1,n2,n3,z0,y1,y2,y3,y4];apply hK;clear K' hK;apply aF
   simp[au,aG,Post,aW,res1,bF,bC,aP,bg,bf,okT,okA,ok1,rowOf,Tryz.f132,s8,n3,z0,y1,y2,y3,y4]
set_option maxRecDepth 100000
set_option maxHeartbeats 4000000
theorem zZ (m:Man) (rules:List Ru) (root:Bool) (hd:Dep.okL m.deps) (hdl:m.deps.length≤1000000000) (hrl:Ru.okL rules):CallsOK Tryz.prog 89 [.agg m.cells,rowT Ru.cells rules,bV root] (.row 0 (ofF m.deps rules root).length) [(35,flat Dep.cells (ofF m.deps rules root))]:=by
 refine aN mixed Tryz.call89 Tryz.func89 rfl (by rw[Tryz.ntmps89];simp) ?_ rfl;rw[Tryz.ntmps89];have hof:ofF m.deps rules root=(fO root m.deps).map fun n=>eU rules (findD (byM root m.deps) n):=rfl;have hSl:(fO root m.deps).length≤1000000000:=by
  have:=zW root m.deps;unfold fO;rw[(fE _).length_eq];simp only[cu,List.length_map];omega
 have hmem:∀k,k<(fO root m.deps).length→nth (fO root m.deps) k∈cu (byM root m.deps):=fun k hk=>(fE _).mem_iff.1 (bM hk);have hn0:=II root ⟨#[]⟩ m.deps;have hn1:=fun k hk=>Nq root m.deps (k:=k) hk;rw[hof];generalize hS:fO root m.deps=S at*;have hel:(S.map fun n=>eU rules (findD (byM root m.deps) n)).length=S.length:=(by simp);have c83:Tryz.prog.cellsOf 71=1:=(by kernel_rfl);refine aR fun K' hK=> ?_
 simp;apply hK;clear K' hK;refine aR fun K' hK=> ?_
 simp;apply hK;clear K' hK;refine aR fun K' hK=> ?_
 simp;refine ak (zh m hdl root true ⟨#[]⟩) rfl (by first | rfl | (simp;done) | (simp;rfl) | (simp;exact⟨rfl,rfl⟩)) ?_;rw[hn0];simp;apply hK;clear K' hK;apply aB
 refine bH (fun s G nx=>s 1=rowT Ru.cells rules∧s 2=bV root∧s 3=.ptr 0 0∧G 0=some (.var 27 m.cells)∧∃(k q:Nat),k≤S.length∧s 8=sV ((if k<S.length then some (nth S k)else none).getD ⟨#[]⟩)∧s 9=bV (decide (k<S.length))∧s 7=.row q k∧1≤q∧G q=some (.row 35 (flat Dep.cells ((S.take k).map fun n=>eU rules (findD (byM root m.deps) n))))) (fun s _ _=>match s 7 with | .row _ k=>S.length-k | _=>0) ?_ ?_
 ·refine⟨by simp,by simp,by simp,by simp,0,2,by omega,by simp,?_,by simp,by omega,by simp⟩;by_cases h0:0<S.length
  ·simp[h0]
  ·simp[h0]
 ·rintro s G nx hf ⟨s1,s2,s3,g0,k,q,hk,s8,s9,s7,hq,hG⟩;have o7:=s7;have hqn:q<nx:=cO hf hG;by_cases hk2:k<S.length
  ·have hst:((S.take (k+1)).map fun n=>eU rules (findD (byM root m.deps) n))=((S.take k).map fun n=>eU rules (findD (byM root m.deps) n))++[eU rules (findD (byM root m.deps) (nth S k))]:=by
    rw[List.take_add_one,List.getElem?_eq_getElem hk2,←bZ hk2,List.map_append];rfl
   have hE:=JF m rules root (nth S k) hd hrl (hmem k hk2);have hN:=zh m hdl root false (nth S k);rw[hn1 k hk2]at hN;have hec:(eU rules (findD (byM root m.deps) (nth S k))).cells=[iV (eU rules (findD (byM root m.deps) (nth S k))).kind,sV (eU rules (findD (byM root m.deps) (nth S k))).name,rowT Alt.cells (eU rules (findD (byM root m.deps) (nth S k))).range]:=rfl;generalize eU rules (findD (byM root m.deps) (nth S k))=e at*;rw[if_pos hk2,Option.getD_some]at s8;have htl:min k S.length=k:=(by omega);have b1:k+1≤9223372036854775807:=(by omega);have b2:(k+1)*48≤140737488355328:=(by omega);have hnl:(if k+1<S.length then some (nth S (k+1))else none).isSome=decide (k+1<S.length):=(by split<;>simp_all);rw[hnl]at hN;generalize hT2:(S.take k).map (fun n=>eU rules (findD (byM root m.deps) n))=T at*;have hTl:T.length=k:=(by rw[←hT2,List.length_map,List.length_take];omega);apply aA;refine aR fun K' hK=> ?_
   simp[s9,hk2];apply hK;clear K' hK;refine aXk (by simp) ?_;refine dL (aB ?_);refine aR fun K' hK=> ?_
   simp[s1,s2,s3,s8,g0];refine aO hE (by first | rfl | (simp;done) | (simp;rfl) | (simp;exact⟨rfl,rfl⟩)) ?_;simp[bK];apply hK;clear K' hK;refine fV (fun u H nz=>u 1=rowT Ru.cells rules∧u 2=bV root∧u 3=.ptr 0 0∧u 7=.row q k∧u 8=sV (nth S k)∧u 10=.ptr (nx+1) 0∧nz=nx+2∧H 0=some (.var 27 m.cells)∧H q=some (.row 35 (flat Dep.cells T))∧H nx=some (.row 71 (flat Alt.cells e.range))∧H (nx+1)=some (.var 35 [iV e.kind,sV e.name,.row nx e.range.length])) ?_ ?_
   ·have e0:¬0=nx:=(by omega);have e1:¬q=nx:=(by omega);have e2:¬q=nx+1:=(by omega);exact⟨by simp[s1],by simp[s2],by simp[s3],by simp[s7],by simp[s8],by simp,by omega,by simp[e0,g0],by simp[e1,e2,hG],by simp,by simp⟩
   rintro u H nz ⟨u1,u2,u3,u7,u8,u10,rfl,h0,hq2,k1,k2⟩;have hTr:bJ Tryz.prog H (.row nx e.range.length)=some (rowT Alt.cells e.range):=dN k1 c83 rfl;have e0:¬0=nx:=(by omega);have e1:¬q=nx:=(by omega);have e2:¬q=nx+2:=(by omega);have e3:¬nx+2=q:=(by omega);have e4:¬0=nx+2:=(by omega);have e5:¬0=nx+2+1:=(by omega);have e6:¬0=q:=(by omega);have w0:bT H (.row nx e.range.length) 0=some (.var 27 m.cells):=(by rw[dW (by omega)];exact h0);refine aR fun K' hK=> ?_
   simp[u7,u10,k2,hTr,hq2,e1,e2,e3,hTl,b1,b2,bQ,dA];apply hK;clear K' hK;refine aS fun K' hK=> ?_
   simp[u2,u3,u8,w0,e4,e5,e6];refine ak hN rfl (by first | rfl | (simp[w0,e4,e5,e6];done) | (simp[w0,e4,e5,e6];rfl) | (simp[w0,e4,e5,e6];exact⟨rfl,rfl⟩)) ?_;simp;apply hK;clear K' hK;apply aj
   refine ah ?_;refine aj (ay ?_ ?_)
   ·refine⟨by simp[u1],by simp[u2],by simp[u3],by simp[w0,e4,e5,e6],k+1,nx+2+1,by omega,by simp,by simp,by simp,by omega,?_⟩;rw[hst,←dV,hec];simp
   ·simp[o7];omega
  ·have hke:k=S.length:=(by omega);subst hke;rw[List.take_length]at hG;apply aA;refine aR fun K' hK=> ?_
   simp[s9];apply hK;clear K' hK;refine aY (by simp) ?_;apply bG
   refine aI (aH ?_);refine aR fun K' hK=> ?_
   simp[s7];apply hK;clear K' hK;apply aF
   simp[au,aG,Post,aW,res1,bF,bC,aP,bg,bf,okT,okA,ok1,rowOf,Tryz.f89,hG]
theorem PL (L:List Man) (hl:L.length≤1000000000) (hm:∀m∈L,Man.okS m):CallsOK Tryz.prog 18 [rowT Man.cells L] (.row 0 L.length) [(27,flat Man.cells L)]:=by
 refine aN mixed Tryz.call18 Tryz.func18 rfl (by rw[Tryz.ntmps18];simp) ?_ rfl;rw[Tryz.ntmps18];have c35:Tryz.prog.cellsOf 35=3:=(by kernel_rfl);have c96:Tryz.prog.cellsOf 134=2:=(by kernel_rfl);refine aR fun K' hK=> ?_
 simp;apply hK;clear K' hK;refine aR fun K' hK=> ?_
 simp;apply hK;clear K' hK;apply aA;refine aR fun K' hK=> ?_
 simp;apply hK;clear K' hK;apply aB
 refine bH (fun s G nx=>s 0=rowT Man.cells L∧∃(i q:Nat),s 4=iV i∧i≤L.length∧s 3=.row q i∧G q=some (.row 27 (flat Man.cells (L.take i)))) (fun s _ _=>match s 4 with | .v (.int _ n)=>L.length-n.toNat | _=>0) ?_ ?_
 ·exact⟨by simp,0,1,by simp,by omega,by simp,by simp⟩
 ·rintro s G nx hf ⟨s0,i,q,s4,hi,s3,hG⟩;have o4:=s4;have hw:IntKind.i64.wrap (↑i+1)=((i+1:Nat):Int):=dh (by omega);apply aA;refine aR fun K' hK=> ?_
  simp[s0,s4];apply hK;clear K' hK;refine aC fun A B hA hB=> ?_
  simp;refine⟨fun hi2=>hA ?_,fun hi2=>hB ?_⟩<;>clear hA hB A B<;>(try simp at hi2)<;>(try with_reducible refine aK ?_)
  ·have hst:L.take (i+1)=L.take i++[nth L i]:=(by rw[List.take_add_one,List.getElem?_eq_getElem hi2,←bZ hi2];rfl);have hmo:=hm _ (bM hi2);have hqn:q<nx:=cO hf hG;have htl:min i L.length=i:=(by omega);have b1:i+1≤9223372036854775807:=(by omega);have b2:(i+1)*104≤140737488355328:=(by omega);generalize hgm:nth L i=m at*;apply aB;refine aR fun K' hK=> ?_
   simp[s0,s4,hi2,hgm];refine aO (Gg m hmo) (by first | rfl | (simp;done) | (simp;rfl) | (simp;exact⟨rfl,rfl⟩)) ?_;simp[kM];apply hK;clear K' hK;refine fV (fun u H nz=>u 0=rowT Man.cells L∧u 3=.row q i∧u 4=iV i∧u 5=.ptr (nx+2) 0∧nz=nx+3∧H q=some (.row 27 (flat Man.cells (L.take i)))∧H nx=some (.row 35 (flat Dep.cells m.deps))∧H (nx+1)=some (.row 134 (flat Ru.cells m.rules))∧H (nx+2)=some (.var 27 (m.dX (.row nx m.deps.length) (.row (nx+1) m.rules.length)))) ?_ ?_
   ·have e1:¬q=nx:=(by omega);have e2:¬q=nx+1:=(by omega);have e3:¬q=nx+2:=(by omega);exact⟨by simp[s0],by simp[s3],by simp[s4],by simp,by omega,by simp[e1,e2,e3,hG],by simp,by simp,by simp[Nat.add_comm 1 nx]⟩
   rintro u H nz ⟨u0,u3,u4,u5,rfl,hG,k1,k2,k3⟩;have hT:=nS (show¬nx+1=nx by omega) k1 k2;have e1:¬q=nx:=(by omega);have e2:¬q=nx+1:=(by omega);have e3:¬q=nx+3:=(by omega);have e4:¬nx+3=q:=(by omega);have hq2:bT (bT H (.row nx m.deps.length)) (.row (nx+1) m.rules.length) q=some (.row 27 (flat Man.cells (L.take i))):=(by rw[dW (by omega),dW (by omega)];exact hG);refine aS fun K' hK=> ?_
   simp[u3,u5,k3,hT,hq2,e1,e2,e3,e4,htl,b1,b2,bQ,dA];apply hK;clear K' hK;apply aj
   refine ah ?_;refine aS fun K' hK=> ?_
   simp[u4,hw];apply hK;clear K' hK;refine aj (ay ?_ ?_)
   ·exact⟨by simp[u0],i+1,nx+3+1,by simp[hw],by omega,by simp,by rw[hst,←dV];simp⟩
   ·simp[o4,u4,hw];omega
  ·skip;apply bG
   refine aI (aH ?_);have hie:i=L.length:=(by omega);subst hie;rw[List.take_length]at hG;refine aR fun K' hK=> ?_
   simp[s3];apply hK;clear K' hK;apply aF
   simp[au,aG,Post,aW,res1,bF,bC,aP,bg,bf,okT,okA,ok1,rowOf,Tryz.f18,hG]
set_option maxRecDepth 100000
set_option maxHeartbeats 4000000
def Vb (N:Nat) (G:Hp) (x:AV) (acc:List Int):Prop:=(x=.v (.slice none 0 0)∧acc=[])∨∃r,x=.row r acc.length∧r<N∧G r=some (.row 3 (flat iC acc))∧acc≠[]
theorem Vb.keep {N N':Nat} {G G':Hp} {x:AV} {acc:List Int} (h:Vb N G x acc) (hN:N≤N') (hg:∀i,i<N→G' i=G i):Vb N' G' x acc:=by
 rcases h with h | ⟨r,h1,h2,h3,h4⟩
 ·exact .inl h
 ·exact .inr ⟨r,h1,by omega,by rw[hg r h2];exact h3,h4⟩
def Qi:Man:=⟨⟨#[]⟩,⟨0,0,0,⟨#[]⟩⟩,[],[]⟩
theorem Lu (rules:List Ru) (b:Bool):ofF [] rules b=[]:=by
 unfold ofF;have:(cu (byM b ([]:List Dep)))=[]:=rfl;rw[this];have:mQ []=[]:=List.eq_nil_of_length_eq_zero (by rw[(fE _).length_eq];rfl);rw[this];rfl
theorem TU (rules:List Ru) (b:Bool) (hr:Ru.okL rules):CallsOK Tryz.prog 26 [.agg Eo,rowT Ru.cells rules,.v (.bool b)] (.row 0 0) [(35,[])]:=by
 have h:=FN Qi rules b ⟨by simp[Qi],by simp[Qi]⟩ hr;have e:ofF Qi.deps rules b=[]:=Lu rules b;rw[e]at h;exact h.weak (.cons (.agg (.cons (.refl _) (.cons (.refl _) (.cons (.refl _) (.cons (.refl _) (.cons (.refl _) (.cons .nilRow (.cons .nilRow .nil)))))))) (.cons (.refl _) (.cons (.refl _) .nil)))
theorem BK {ds:List Dep} {rules:List Ru} {b:Bool} (h:ds.length≤1000000000):(ofF ds rules b).length≤1000000000:=by
 have h1:=zW b ds;unfold ofF;rw[List.length_map,(fE _).length_eq];simp only[cu,List.length_map];omega
set_option maxRecDepth 100000
set_option maxHeartbeats 4000000
def U9 (N:Nat) (G:Hp) (x:AV) (acc:List Man):Prop:=∃r,x=.row r acc.length∧r<N∧G r=some (.row 27 (flat Man.cells acc))
theorem U9.keep {N N':Nat} {G G':Hp} {x:AV} {acc:List Man} (h:U9 N G x acc) (hN:N≤N') (hg:∀i,i<N→G' i=G i):U9 N' G' x acc:=by
 obtain⟨r,h1,h2,h3⟩:=h;exact⟨r,h1,by omega,by rw[hg r h2];exact h3⟩
def VH (N:Nat) (G:Hp) (x:AV) (acc:List Int):Prop:=(x=.v (.slice none 0 0)∧acc=[])∨∃r,x=.row r acc.length∧r<N∧G r=some (.row 3 (flat iC acc))
theorem VH.keep {N N':Nat} {G G':Hp} {x:AV} {acc:List Int} (h:VH N G x acc) (hN:N≤N') (hg:∀i,i<N→G i=some (.row 3 (flat iC acc))→G' i=G i):VH N' G' x acc:=by
 rcases h with h | ⟨r,h1,h2,h3⟩
 ·exact .inl h
 ·exact .inr ⟨r,h1,by omega,by rw[hg r h2 h3];exact h3⟩
def oL (root:Man) (L:List Man) (t:List Pl):List Int:=if codeV root L t=0 then mY root L t else[]
theorem pV (root:Man) (L:List Man) (t:List Pl):(oL root L t=[]∧mg root L t=(.tup [.v (.slice none 0 0),iV (codeV root L t)],[]))∨mg root L t=(.tup [.row 0 (oL root L t).length,iV (codeV root L t)],[(3,flat iC (oL root L t))]):=by
 unfold mg oL;by_cases h:codeV root L t=0
 ·rw[if_pos h,if_pos h];by_cases w:mY root L t=[]
  ·rw[if_pos w,h];exact .inl ⟨w,rfl⟩
  ·rw[if_neg w,h];exact .inr rfl
 ·rw[if_neg h,if_neg h];exact .inr rfl
set_option maxRecDepth 100000
set_option maxHeartbeats 400000
theorem LW {l:List UInt8} (h:jm l=true):kH l=true∧H9 l=qy l:=by
 have hp:kH l=true∧l.length≤6:=by
  unfold jm at h;simp only[Bool.and_eq_true,decide_eq_true_eq]at h;exact⟨h.1,h.2.1⟩
 have h2:=hp.1;rw[wH]at h2;simp only[Bool.and_eq_true,Bool.not_eq_true',decide_eq_false_iff_not]at h2;refine⟨hp.1,?_⟩;rw[H9,if_pos h,Oq h2.1 h2.2 (by omega)]
theorem CG {l:List UInt8} (h:iR l=true) (hn:kH l=true):H9 l=qy l:=by
 unfold iR at h;simp only[Bool.and_eq_true,beq_iff_eq]at h;rw[hn]at h;exact(LW h.2.2.2.symm).2
def oK (a b:Bs):Int:=if kH (bsL a)=true∧kH (bsL b)=true then gB (H9 (bsL a)) (H9 (bsL b))else if kH (bsL a)=true then-1 else if kH (bsL b)=true then 1 else lX a b
theorem KZ {a b:Bs} (ha:iR (bsL a)=true) (hb:iR (bsL b)=true):oK a b=fZ a b:=by
 unfold oK fZ;by_cases h1:kH (bsL a)=true
 ·by_cases h2:kH (bsL b)=true
  ·rw[if_pos ⟨h1,h2⟩,if_pos h1,if_pos h2,CG ha h1,CG hb h2]
  ·rw[if_neg (fun h=>h2 h.2),if_pos h1,if_pos h1,if_neg h2]
 ·rw[if_neg (fun h=>h1 h.1),if_neg h1,if_neg h1]
set_option maxRecDepth 100000
set_option maxHeartbeats 4000000
theorem iD (a b:Int):CallsOK Tryz.prog 233 [iV a,iV b] (iV (gB a b)) []:=by
 refine aN mixed Tryz.call233 Tryz.func233 rfl (by rw[Tryz.ntmps233];simp) ?_ rfl;rw[Tryz.ntmps233];refine aR fun K' hK=> ?_
 simp;apply hK;clear K' hK;by_cases h1:a<b
 ·refine aA ?_;refine aR fun K' hK=> ?_
  simp[h1];apply hK;clear K' hK;refine aX (by simp[h1]) ?_;apply aA;refine aR fun K' hK=> ?_
  simp;apply hK;clear K' hK;apply aJ
  simp[au,aG,Post,aW,res1,bF,bC,aP,bg,bf,okT,okA,ok1,rowOf,Tryz.f233];simp[gB,h1]
 ·refine aA ?_;refine aR fun K' hK=> ?_
  simp[h1];apply hK;clear K' hK;refine aYk (by simp[h1]) ?_
  by_cases h2:b<a
  ·refine aA ?_;refine aR fun K' hK=> ?_
   simp[h2];apply hK;clear K' hK;refine aX (by simp[h2]) ?_;apply aA;refine aR fun K' hK=> ?_
   simp;apply hK;clear K' hK;apply aJ
   simp[au,aG,Post,aW,res1,bF,bC,aP,bg,bf,okT,okA,ok1,rowOf,Tryz.f233];simp[gB,h1,h2]
  ·refine aA ?_;refine aR fun K' hK=> ?_
   simp[h2];apply hK;clear K' hK;refine aYk (by simp[h2]) ?_;refine aR fun K' hK=> ?_
   simp;apply hK;clear K' hK;apply aF
   simp[au,aG,Post,aW,res1,bF,bC,aP,bg,bf,okT,okA,ok1,rowOf,Tryz.f233];simp[gB,h1,h2]
theorem wU (a b:Bs):CallsOK Tryz.prog 234 [sV a,sV b] (iV (if a=⟨#[]⟩∧b=⟨#[]⟩then 0 else 1)) []:=by
 refine aN mixed Tryz.call234 Tryz.func234 rfl (by rw[Tryz.ntmps234];simp) ?_ rfl;rw[Tryz.ntmps234];refine aR fun K' hK=> ?_
 simp;apply hK;clear K' hK;by_cases h1:a=⟨#[]⟩
 ·by_cases h2:b=⟨#[]⟩
  ·refine aA ?_;refine aR fun K' hK=> ?_
   simp[h1,h2];apply hK;clear K' hK;refine aX (by simp) ?_;apply aA;refine aR fun K' hK=> ?_
   simp;apply hK;clear K' hK;apply aJ
   simp[au,aG,Post,aW,res1,bF,bC,aP,bg,bf,okT,okA,ok1,rowOf,Tryz.f234];simp[h1,h2]
  ·refine aA ?_;refine aR fun K' hK=> ?_
   simp[h1,h2];apply hK;clear K' hK;refine aYk (by simp) ?_;refine aR fun K' hK=> ?_
   simp;apply hK;clear K' hK;apply aF
   simp[au,aG,Post,aW,res1,bF,bC,aP,bg,bf,okT,okA,ok1,rowOf,Tryz.f234];simp[h1,h2]
 ·refine aA ?_;refine aR fun K' hK=> ?_
  simp[h1];apply hK;clear K' hK;refine aYk (by simp) ?_;refine aR fun K' hK=> ?_
  simp;apply hK;clear K' hK;apply aF
  simp[au,aG,Post,aW,res1,bF,bC,aP,bg,bf,okT,okA,ok1,rowOf,Tryz.f234];simp[h1]
theorem Fv (a b:Bs) (ha:a.size≤4000000000) (hb:b.size≤4000000000):CallsOK Tryz.prog 235 [sV a,sV b] (iV (oK a b)) []:=by
 refine aN mixed Tryz.call235 Tryz.func235 rfl (by rw[Tryz.ntmps235];simp) ?_ rfl;rw[Tryz.ntmps235];refine aR fun K' hK=> ?_
 simp;apply hK;clear K' hK;apply aA;refine aR fun K' hK=> ?_
 simp;refine ak (iT a (by omega)) rfl (by simp) ?_;by_cases na:kH (bsL a)=true
 ·simp[na];refine ak (iT b (by omega)) rfl (by simp) ?_;by_cases nb:kH (bsL b)=true
  ·simp[nb];apply hK;clear K' hK;refine aX (by simp) ?_;apply aA;refine aR fun K' hK=> ?_
   simp;refine ak (o9 a (by omega)) rfl (by simp) ?_;simp;refine ak (o9 b (by omega)) rfl (by simp) ?_;simp;refine ak (iD (H9 (bsL a)) (H9 (bsL b))) rfl (by simp) ?_;simp;apply hK;clear K' hK;apply aJ
   simp[au,aG,Post,aW,res1,bF,bC,aP,bg,bf,okT,okA,ok1,rowOf,Tryz.f235];simp[oK,na,nb]
  ·simp[nb];apply hK;clear K' hK;refine aYk (by simp) ?_;apply aA;refine aR fun K' hK=> ?_
   simp;refine ak (iT a (by omega)) rfl (by simp) ?_;simp[na];apply hK;clear K' hK;refine aX (by simp) ?_;apply aA;refine aR fun K' hK=> ?_
   simp;apply hK;clear K' hK;apply aJ
   simp[au,aG,Post,aW,res1,bF,bC,aP,bg,bf,okT,okA,ok1,rowOf,Tryz.f235];simp[oK,na,nb]
 ·simp[na];apply hK;clear K' hK;refine aYk (by simp) ?_;apply aA;refine aR fun K' hK=> ?_
  simp;refine ak (iT a (by omega)) rfl (by simp) ?_;simp[na];apply hK;clear K' hK;refine aYk (by simp) ?_;apply aA;refine aR fun K' hK=> ?_
  simp;refine ak (iT b (by omega)) rfl (by simp) ?_;by_cases nb:kH (bsL b)=true
  ·simp[nb];apply hK;clear K' hK;refine aX (by simp) ?_;apply aA;refine aR fun K' hK=> ?_
   simp;apply hK;clear K' hK;apply aJ
   simp[au,aG,Post,aW,res1,bF,bC,aP,bg,bf,okT,okA,ok1,rowOf,Tryz.f235];simp[oK,na,nb]
  ·simp[nb];apply hK;clear K' hK;refine aYk (by simp) ?_
   by_cases h1:ltB a b=true
   ·refine aA ?_;refine aR fun K' hK=> ?_
    simp[h1];apply hK;clear K' hK;refine aX (by simp[h1]) ?_;apply aA;refine aR fun K' hK=> ?_
    simp;apply hK;clear K' hK;apply aJ
    simp[au,aG,Post,aW,res1,bF,bC,aP,bg,bf,okT,okA,ok1,rowOf,Tryz.f235];simp[oK,na,nb,lX,h1]
   ·refine aA ?_;refine aR fun K' hK=> ?_
    simp[h1];apply hK;clear K' hK;refine aYk (by simp[h1]) ?_
    by_cases h2:ltB b a=true
    ·refine aA ?_;refine aR fun K' hK=> ?_
     simp[h2];apply hK;clear K' hK;refine aX (by simp[h2]) ?_;apply aA;refine aR fun K' hK=> ?_
     simp;apply hK;clear K' hK;apply aJ
     simp[au,aG,Post,aW,res1,bF,bC,aP,bg,bf,okT,okA,ok1,rowOf,Tryz.f235];simp[oK,na,nb,lX,h1,h2]
    ·refine aA ?_;refine aR fun K' hK=> ?_
     simp[h2];apply hK;clear K' hK;refine aYk (by simp[h2]) ?_;refine aR fun K' hK=> ?_
     simp;apply hK;clear K' hK;apply aF
     simp[au,aG,Post,aW,res1,bF,bC,aP,bg,bf,okT,okA,ok1,rowOf,Tryz.f235];simp[oK,na,nb,lX,h1,h2]
theorem ND {v:Ver} (h:fD v=true) (hp:v.pre≠⟨#[]⟩):∀b∈strs (spl (bsL v.pre)),iR (bsL b)=true:=by
 intro b hb;simp only[fD,oI,Bool.and_eq_true,Bool.or_eq_true,decide_eq_true_eq]at h;rcases h.1 with h1 | h1
 ·exact absurd ((gK _).2 h1) hp
 ·rw[EU,Bool.and_eq_true,List.all_eq_true]at h1;obtain⟨l,hl,rfl⟩:=List.mem_map.1 hb;have:bsL (ofL l)=l:=(by simp[bsL,ofL]);rw[this];exact h1.2 l hl
set_option maxRecDepth 100000
set_option maxHeartbeats 4000000
theorem Nb {a b:Int} (h:a<b):gB a b= -1:=by unfold gB;rw[if_pos h]
theorem LU {a b:Int} (h:b<a):gB a b=1:=by unfold gB;rw[if_neg (by omega),if_pos h]
theorem size_pos {a:Bs} (h:¬a=⟨#[]⟩):0<a.size:=by
 rcases Nat.eq_zero_or_pos a.size with h2 | h2
 ·exact absurd (ByteArray.size_eq_zero_iff.1 h2) h
 ·exact h2
theorem MB:IntKind.i64.wrap 0=0:=by decide
theorem KC:IntKind.i64.wrap 1=1:=by decide
theorem FZ:IntKind.i64.wrap (-1)= -1:=by decide
theorem lS (a b:Ver) (ha:a.pre.size≤1000000) (hb:b.pre.size≤1000000):CallsOK Tryz.prog 203 [.agg a.cells,.agg b.cells] (iV (dS a b)) []:=by
 refine aN mixed Tryz.call203 Tryz.func203 rfl (by rw[Tryz.ntmps203];simp) ?_ rfl;rw[Tryz.ntmps203];refine aR fun K' hK=> ?_
 simp;apply hK;clear K' hK;apply aA;refine aR fun K' hK=> ?_
 simp;refine ak (iU a (by omega)) rfl (by simp) ?_;by_cases va:fD a=true
 ·simp[va];refine ak (iU b (by omega)) rfl (by simp) ?_;by_cases vb:fD b=true
  ·simp[vb];apply hK;clear K' hK;refine aYk (by simp) ?_
   have fin:dS a b=if mM a b≠0∨a.pre=b.pre then mM a b else if a.pre=⟨#[]⟩then 1 else if b.pre=⟨#[]⟩then-1 else ig (strs (spl (bsL a.pre))) (strs (spl (bsL b.pre))):=(by rw[dS,if_pos ⟨va,vb⟩]);by_cases e1:a.maj=b.maj
   ·refine aA ?_;refine aR fun K' hK=> ?_
    simp[e1];apply hK;clear K' hK;refine aYk (by simp[e1]) ?_
    by_cases e2:a.min=b.min
    ·refine aA ?_;refine aR fun K' hK=> ?_
     simp[e2];apply hK;clear K' hK;refine aYk (by simp[e2]) ?_
     by_cases e3:a.pat=b.pat
     ·refine aA ?_;refine aR fun K' hK=> ?_
      simp[e3];apply hK;clear K' hK;refine aYk (by simp[e3]) ?_
      have hcore:mM a b=0:=(by simp[mM,e1,e2,e3,iL]);by_cases p1:a.pre=⟨#[]⟩
      ·refine aA ?_;refine aR fun K' hK=> ?_
       simp[p1];apply hK;clear K' hK;refine aX (by simp[p1]) ?_;apply aA;refine aQ fun K' hK=> ?_
       simp;refine ak (iD b.pre.size a.pre.size) rfl (by simp) ?_;simp;refine ak (wU a.pre b.pre) rfl (by simp) ?_;by_cases p2:b.pre=⟨#[]⟩
       ·have hv:dS a b=0:=(by rw[fin,if_pos (.inr (by rw[p1,p2])),hcore]);simp[p1,p2,iL];apply hK;clear K' hK;apply aJ
        simp[au,aG,Post,aW,res1,bF,bC,aP,bg,bf,okT,okA,ok1,rowOf,Tryz.f203];simp[hv,MB,KC,FZ]
       ·have hv:dS a b=1:=(by rw[fin,if_neg (by simp[hcore,p1,Ne.symm p2]),if_pos p1]);have hs:gB b.pre.size a.pre.size=1:=LU (by have:=size_pos p2;rw[p1];show(0:Int)<_;omega);simp[p1,p2];rw[p1]at hs;simp[hs];apply hK;clear K' hK;apply aJ
        simp[au,aG,Post,aW,res1,bF,bC,aP,bg,bf,okT,okA,ok1,rowOf,Tryz.f203];simp[hv,MB,KC,FZ]
      ·by_cases p2:b.pre=⟨#[]⟩
       ·refine aA ?_;refine aR fun K' hK=> ?_
        simp[p1,p2];apply hK;clear K' hK;refine aX (by simp[p1,p2]) ?_;apply aA;refine aQ fun K' hK=> ?_
        simp;refine ak (iD b.pre.size a.pre.size) rfl (by simp) ?_;simp;refine ak (wU a.pre b.pre) rfl (by simp) ?_;have hv:dS a b= -1:=(by rw[fin,if_neg (by simp[hcore,p1,p2]),if_neg p1,if_pos p2]);have hs:gB b.pre.size a.pre.size= -1:=Nb (by have:=size_pos p1;rw[p2];show(0:Int)<_;omega);simp[p1,p2];rw[p2]at hs;simp[hs];apply hK;clear K' hK;apply aJ
        simp[au,aG,Post,aW,res1,bF,bC,aP,bg,bf,okT,okA,ok1,rowOf,Tryz.f203];simp[hv,MB,KC,FZ]
       ·refine aA ?_;refine aR fun K' hK=> ?_
        simp[p1,p2];apply hK;clear K' hK;refine aYk (by simp[p1,p2]) ?_;refine aR fun K' hK=> ?_
        simp;refine aO (Ap a.pre (by omega)) (by simp) ?_;simp[bK];apply hK;clear K' hK;refine aR fun K' hK=> ?_
        simp;refine aO (Ap b.pre (by omega)) (by simp) ?_;simp[bK];apply hK;clear K' hK;apply aA;refine aR fun K' hK=> ?_
        simp;apply hK;clear K' hK;have hpa:=ND va p1;have hpb:=ND vb p2;have hla:=Ad a.pre;have hlb:=Ad b.pre;have hsa:∀x∈strs (spl (bsL a.pre)),x.size≤4000000000:=fun x hx=>(by have:=qC hx;omega);have hsb:∀x∈strs (spl (bsL b.pre)),x.size≤4000000000:=fun x hx=>(by have:=qC hx;omega);have hv:dS a b=ig (strs (spl (bsL a.pre))) (strs (spl (bsL b.pre))):=by
         rw[fin];by_cases p3:a.pre=b.pre
         ·rw[if_pos (.inr p3),hcore,p3,sN]
         ·rw[if_neg (by simp[hcore,p3]),if_neg p1,if_neg p2]
        generalize strs (spl (bsL a.pre))=x at*;generalize strs (spl (bsL b.pre))=y at*;rw[hv];apply aB
        refine bH (fun s G nx=>s 5=.row 2 x.length∧s 6=.row 3 y.length∧G 2=some (.row 9 (flat sC x))∧G 3=some (.row 9 (flat sC y))∧∃i:Nat,s 7=iV i∧i≤x.length∧i≤y.length∧ig x y=ig (x.drop i) (y.drop i)) (fun s _ _=>match s 7 with | .v (.int _ n)=>x.length-n.toNat | _=>0) ?_ ?_
        ·exact⟨by simp,by simp,by simp,by simp,0,by simp,by omega,by omega,by simp⟩
        ·rintro s G nx hf ⟨s5,s6,g2,g3,i,s7,hi,hj,ht⟩;have hw:IntKind.i64.wrap (↑i+1)=((i+1:Nat):Int):=dh (by omega);by_cases hi2:i<x.length
         ·by_cases hj2:i<y.length
          ·refine aA ?_;refine aR fun K' hK=> ?_
           simp[s5,s6,s7,g2,g3,hi2,hj2];apply hK;clear K' hK;refine aXk (by simp[hi2,hj2]) ?_
           have hstep:=xO hi2 hj2;have e:oK (nth x i) (nth y i)=fZ (nth x i) (nth y i):=KZ (hpa _ (bM hi2)) (hpb _ (bM hj2));have h1:=hsa _ (bM hi2);have h2:=hsb _ (bM hj2);apply aB;refine aQ fun K' hK=> ?_
           simp[s5,s6,s7,g2,g3,hi2,hj2];refine ak (Fv (nth x i) (nth y i) h1 h2) rfl (by simp) ?_;simp;apply hK;clear K' hK;rw[e];by_cases h0:fZ (nth x i) (nth y i)=0
           ·skip;refine aR fun K' hK=> ?_
            simp[h0];apply hK;clear K' hK;refine aVk (by simp[h0]) ?_;apply aj
            refine ah ?_;refine aS fun K' hK=> ?_
            simp[s7,hw];apply hK;clear K' hK;refine aj (ay ?_ ?_)
            ·exact⟨by simp[s5],by simp[s6],by simp[g2],by simp[g3],i+1,by simp[hw],by omega,by omega,by rw[ht,hstep,if_pos h0]⟩
            ·simp[s7,hw];omega
           ·skip;refine aR fun K' hK=> ?_
            simp[h0];apply hK;clear K' hK;refine aU (by simp[h0]) ?_;apply aA;refine aR fun K' hK=> ?_
            simp;apply hK;clear K' hK;apply aJ
            simp[au,aG,Post,aW,res1,bF,bC,aP,bg,bf,okT,okA,ok1,rowOf,Tryz.f203];rw[ht,hstep,if_neg h0]
          ·have:y.length=i:=(by omega);apply aA;refine aR fun K' hK=> ?_
           simp[s5,s6,s7,g2,g3,hi2,hj2];apply hK;clear K' hK;refine aY (by simp[hi2,hj2]) ?_;apply bG
           refine aI (aH ?_);refine aR fun K' hK=> ?_
           simp[s5,s6,g2,g3];refine ak (iD x.length y.length) rfl (by simp) ?_;simp;apply hK;clear K' hK;apply aF
           simp[au,aG,Post,aW,res1,bF,bC,aP,bg,bf,okT,okA,ok1,rowOf,Tryz.f203];rw[ht,vK (by omega)]
         ·refine aA ?_;refine aR fun K' hK=> ?_
          simp[s5,s6,s7,g2,g3,hi2];apply hK;clear K' hK;refine aY (by simp[hi2]) ?_;apply bG
          refine aI (aH ?_);refine aR fun K' hK=> ?_
          simp[s5,s6,g2,g3];refine ak (iD x.length y.length) rfl (by simp) ?_;simp;apply hK;clear K' hK;apply aF
          simp[au,aG,Post,aW,res1,bF,bC,aP,bg,bf,okT,okA,ok1,rowOf,Tryz.f203];rw[ht,vK (by omega)]
     ·refine aA ?_;refine aR fun K' hK=> ?_
      simp[e3];apply hK;clear K' hK;refine aX (by simp[e3]) ?_;apply aA;refine aR fun K' hK=> ?_
      simp;refine ak (iD a.pat b.pat) rfl (by simp) ?_;simp;apply hK;clear K' hK;apply aJ
      simp[au,aG,Post,aW,res1,bF,bC,aP,bg,bf,okT,okA,ok1,rowOf,Tryz.f203];have:mM a b=gB a.pat b.pat:=(by simp[mM,e1,e2,iL]);rw[fin,if_pos (.inl (by rw[this];exact fun h=>e3 (qQ.1 h))),this]
    ·refine aA ?_;refine aR fun K' hK=> ?_
     simp[e2];apply hK;clear K' hK;refine aX (by simp[e2]) ?_;apply aA;refine aR fun K' hK=> ?_
     simp;refine ak (iD a.min b.min) rfl (by simp) ?_;simp;apply hK;clear K' hK;apply aJ
     simp[au,aG,Post,aW,res1,bF,bC,aP,bg,bf,okT,okA,ok1,rowOf,Tryz.f203];have h0:gB a.min b.min≠0:=fun h=>e2 (qQ.1 h);have:mM a b=gB a.min b.min:=(by simp[mM,e1,iL,h0]);rw[fin,if_pos (.inl (by rw[this];exact h0)),this]
   ·refine aA ?_;refine aR fun K' hK=> ?_
    simp[e1];apply hK;clear K' hK;refine aX (by simp[e1]) ?_;apply aA;refine aR fun K' hK=> ?_
    simp;refine ak (iD a.maj b.maj) rfl (by simp) ?_;simp;apply hK;clear K' hK;apply aJ
    simp[au,aG,Post,aW,res1,bF,bC,aP,bg,bf,okT,okA,ok1,rowOf,Tryz.f203];have h0:gB a.maj b.maj≠0:=fun h=>e1 (qQ.1 h);have:mM a b=gB a.maj b.maj:=(by simp[mM,h0]);rw[fin,if_pos (.inl (by rw[this];exact h0)),this]
  ·simp[vb];apply hK;clear K' hK;refine aX (by simp) ?_;apply aA;refine aR fun K' hK=> ?_
   simp;apply hK;clear K' hK;apply aJ
   simp[au,aG,Post,aW,res1,bF,bC,aP,bg,bf,okT,okA,ok1,rowOf,Tryz.f203];simp[dS,vb]
 ·simp[va];apply hK;clear K' hK;refine aX (by simp) ?_;apply aA;refine aR fun K' hK=> ?_
  simp;apply hK;clear K' hK;apply aJ
  simp[au,aG,Post,aW,res1,bF,bC,aP,bg,bf,okT,okA,ok1,rowOf,Tryz.f203];simp[dS,va]
set_option maxRecDepth 100000
set_option maxHeartbeats 4000000
theorem ET (b:Bd) (v:Ver) (hb:b.ver.pre.size≤1000000) (hv:v.pre.size≤1000000):CallsOK Tryz.prog 206 [.agg b.cells,.agg v.cells] (bV (holdB v b)) []:=by
 refine aN mixed Tryz.call206 Tryz.func206 rfl (by rw[Tryz.ntmps206];simp) ?_ rfl;rw[Tryz.ntmps206];refine aR fun K' hK=> ?_
 simp;apply hK;clear K' hK;refine aR fun K' hK=> ?_
 simp;refine ak (lS v b.ver hv hb) rfl (by simp) ?_;simp;apply hK;clear K' hK;apply aA;refine aR fun K' hK=> ?_
 simp;apply hK;clear K' hK;have hd:holdB v b=opN b.op (dS v b.ver):=rfl;generalize dS v b.ver=c at*;apply aB
 by_cases h1:b.op=1
 ·skip;refine aR fun K' hK=> ?_
  simp[h1];apply hK;clear K' hK;refine aU (by simp[h1]) ?_;apply aA;refine aR fun K' hK=> ?_
  simp;apply hK;clear K' hK;apply aJ
  simp[au,aG,Post,aW,res1,bF,bC,aP,bg,bf,okT,okA,ok1,rowOf,Tryz.f206];simp[hd,opN,h1]
 ·skip;refine aR fun K' hK=> ?_
  simp[h1];apply hK;clear K' hK;refine aV (by simp[h1]) ?_
  by_cases h2:b.op=2
  ·refine aA ?_;refine aR fun K' hK=> ?_
   simp[h2];apply hK;clear K' hK;refine aX (by simp[h2]) ?_;apply aA;refine aR fun K' hK=> ?_
   simp;apply hK;clear K' hK;apply aJ
   simp[au,aG,Post,aW,res1,bF,bC,aP,bg,bf,okT,okA,ok1,rowOf,Tryz.f206];simp[hd,opN,h2]
  ·refine aA ?_;refine aR fun K' hK=> ?_
   simp[h2];apply hK;clear K' hK;refine aY (by simp[h2]) ?_
   by_cases h3:b.op=3
   ·refine aA ?_;refine aR fun K' hK=> ?_
    simp[h3];apply hK;clear K' hK;refine aX (by simp[h3]) ?_;apply aA;refine aR fun K' hK=> ?_
    simp;apply hK;clear K' hK;apply aJ
    simp[au,aG,Post,aW,res1,bF,bC,aP,bg,bf,okT,okA,ok1,rowOf,Tryz.f206];simp[hd,opN,h3]
   ·refine aA ?_;refine aR fun K' hK=> ?_
    simp[h3];apply hK;clear K' hK;refine aY (by simp[h3]) ?_
    by_cases h4:b.op=4
    ·refine aA ?_;refine aR fun K' hK=> ?_
     simp[h4];apply hK;clear K' hK;refine aX (by simp[h4]) ?_;apply aA;refine aR fun K' hK=> ?_
     simp;apply hK;clear K' hK;apply aJ
     simp[au,aG,Post,aW,res1,bF,bC,aP,bg,bf,okT,okA,ok1,rowOf,Tryz.f206];simp[hd,opN,h4]
    ·refine aA ?_;refine aR fun K' hK=> ?_
     simp[h4];apply hK;clear K' hK;refine aYk (by simp[h4]) ?_;apply aj
     refine ah ?_;refine aR fun K' hK=> ?_
     simp;apply hK;clear K' hK;apply aF
     simp[au,aG,Post,aW,res1,bF,bC,aP,bg,bf,okT,okA,ok1,rowOf,Tryz.f206];simp[hd,opN,h1,h2,h3,h4]
theorem Ti (v:Ver) (b:Bd):mW v b=(decide (b.ver.pre≠⟨#[]⟩)&&(decide (b.ver.maj=v.maj)&&(decide (b.ver.min=v.min)&&decide (b.ver.pat=v.pat)))):=by
 rw[Bool.eq_iff_iff];unfold mW;cases v with | mk a c d e=>simp
theorem Ip (l:Alt) (v:Ver) (hl:Alt.sz l) (hv:v.pre.size≤1000000):CallsOK Tryz.prog 172 [rowT Bd.cells l,.agg v.cells] (bV (fB v l)) []:=by
 refine aN mixed Tryz.call172 Tryz.func172 rfl (by rw[Tryz.ntmps172];simp) ?_ rfl;rw[Tryz.ntmps172];have hll:=hl.1;refine aR fun K' hK=> ?_
 simp;apply hK;clear K' hK;refine aR fun K' hK=> ?_
 simp;apply hK;clear K' hK;apply aA;refine aR fun K' hK=> ?_
 simp;apply hK;clear K' hK;apply aB
 refine bH (fun s G nx=>G 0=some (.var 23 v.cells)∧s 3=.ptr 0 0∧s 0=rowT Bd.cells l∧∃j:Nat,s 6=iV j∧j≤l.length∧s 5=bV (decide (v.pre=⟨#[]⟩) || (l.take j).any (mW v))∧(l.take j).all (holdB v)=true) (fun s _ _=>match s 6 with | .v (.int _ n)=>l.length-n.toNat | _=>0) ?_ ?_
 ·exact⟨by simp,by simp,by simp,0,by simp,by omega,by simp,by simp⟩
 ·rintro s G nx hf ⟨g0,s3,s0,j,s6,hj,s5,hjt⟩;have n0:¬0=nx:=(by have:=cO hf g0;omega);have hwj:IntKind.i64.wrap (↑j+1)=((j+1:Nat):Int):=dh (by omega);apply aA;refine aR fun K' hK=> ?_
  simp[s0,s6];apply hK;clear K' hK;refine aC fun A B hA hB=> ?_
  simp;refine⟨fun hj2=>hA ?_,fun hj2=>hB ?_⟩<;>clear hA hB A B<;>(try simp at hj2)<;>(try with_reducible refine aK ?_)
  ·have hjstep:=iK (p:=holdB v) hj2;have hnstep:=vM (p:=mW v) hj2;have hjfalse:holdB v (nth l j)=false→fB v l=false:=fun h=>(by rw[fB,all_false hj2 h];rfl);have hbz:=hl.2 _ (bM hj2);have hnear:=Ti v (nth l j);generalize hgb:nth l j=b at*;apply aB;refine aR fun K' hK=> ?_
   simp[s0,s6,hj2,hgb];apply hK;clear K' hK;apply aA;refine aQ fun K' hK=> ?_
   simp[s0,s6,s3,g0,n0,hj2,hgb];refine ak (ET b v hbz hv) rfl (by simp) ?_;simp;apply hK;clear K' hK;by_cases c3:holdB v b=true
   ·skip;refine aYk (by simp[c3]) ?_
    generalize hnb:(decide (v.pre=⟨#[]⟩) || (l.take j).any (mW v))=nb at*;have fin:bV (nb || mW v b)=bV (decide (v.pre=⟨#[]⟩) || (l.take (j+1)).any (mW v)):=(by rw[hnstep,←Bool.or_assoc,hnb]);refine dL (fC (fun s G nx=>G 0=some (.var 23 v.cells)∧s 3=.ptr 0 0∧s 0=rowT Bd.cells l∧s 6=iV j∧s 5=bV (nb || mW v b)) ?_ ?_)
    ·rw[hnear];cases nb with
     | true=>
      refine aS fun K' hK=> ?_
      simp[s5];apply hK;clear K' hK;with_reducible refine bP ?_
      simp[s3,s0,s6,g0,n0]
     | false=>
      by_cases w0:b.ver.pre=⟨#[]⟩
      ·skip;refine aS fun K' hK=> ?_
       simp[s5,w0];apply hK;clear K' hK;with_reducible refine bP ?_
       simp[s3,s0,s6,g0,n0,w0]
      ·by_cases w1:b.ver.maj=v.maj
       ·by_cases w2:b.ver.min=v.min
        ·skip;refine aS fun K' hK=> ?_
         simp[s5,w0,w1,w2,s3,g0,n0];apply hK;clear K' hK;with_reducible refine bP ?_
         simp[s3,s0,s6,g0,n0,w0,w1,w2]
        ·skip;refine aS fun K' hK=> ?_
         simp[s5,w0,w1,w2,s3,g0,n0];apply hK;clear K' hK;with_reducible refine bP ?_
         simp[s3,s0,s6,g0,n0,w0,w1,w2]
       ·skip;refine aS fun K' hK=> ?_
        simp[s5,w0,w1,s3,g0,n0];apply hK;clear K' hK;with_reducible refine bP ?_
        simp[s3,s0,s6,g0,n0,w0,w1]
    ·clear s3 s0 g0 s5 hf n0;rintro s1 G1 nx1 ⟨g0,s3,s0,s6,s5⟩;apply aj
     refine ah ?_;refine aS fun K' hK=> ?_
     simp[s6,hwj];apply hK;clear K' hK;refine aj (ay ?_ ?_)
     ·exact⟨by simp[g0],by simp[s3],by simp[s0],j+1,by simp[hwj],by omega,by simp[s5];simpa using fin,by rw[hjstep,hjt,c3];rfl⟩
     ·simp[*];omega
   ·skip;refine aX (by simp[c3]) ?_;apply aA;refine aR fun K' hK=> ?_
    simp;apply hK;clear K' hK;apply aJ
    simp[au,aG,Post,aW,res1,bF,bC,aP,bg,bf,okT,okA,ok1,rowOf,Tryz.f172];rw[hjfalse (by simpa using c3)]
  ·skip;apply bG
   refine aI (aH ?_);rw[List.take_of_length_le (by omega)]at hjt s5;have hah:fB v l=(decide (v.pre=⟨#[]⟩) || l.any (mW v)):=(by rw[fB,hjt];rfl);rw[←hah]at s5;refine aR fun K' hK=> ?_
   simp[s5];apply hK;clear K' hK;apply aF
   simp[au,aG,Post,aW,res1,bF,bC,aP,bg,bf,okT,okA,ok1,rowOf,Tryz.f172]
theorem lT (r:Rg) (hr:Rg.sz r):CallsOK Tryz.prog 171 [.agg r.cells] (bV (tH r)) []:=by
 refine aN mixed Tryz.call171 Tryz.func171 rfl (by rw[Tryz.ntmps171];simp) ?_ rfl;rw[Tryz.ntmps171];have hl:=hr.1;refine aR fun K' hK=> ?_
 simp;apply hK;clear K' hK;by_cases z1:r.length<1
 ·have z1':(r.length:Int)<1:=(by omega);apply aA;refine aR fun K' hK=> ?_
  simp[Rg.cells,z1,z1'];apply hK;clear K' hK;refine aX (by simp) ?_;apply aA;refine aR fun K' hK=> ?_
  simp;apply hK;clear K' hK;apply aJ
  simp[au,aG,Post,aW,res1,bF,bC,aP,bg,bf,okT,okA,ok1,rowOf,Tryz.f171];have:¬1≤r.length:=(by omega);simp[tH,this]
 ·have z1':¬(r.length:Int)<1:=(by omega);by_cases z2:8<r.length
  ·have z2':(8:Int)<r.length:=(by omega);apply aA;refine aR fun K' hK=> ?_
   simp[Rg.cells,z1,z1',z2,z2'];apply hK;clear K' hK;refine aX (by simp) ?_;apply aA;refine aR fun K' hK=> ?_
   simp;apply hK;clear K' hK;apply aJ
   simp[au,aG,Post,aW,res1,bF,bC,aP,bg,bf,okT,okA,ok1,rowOf,Tryz.f171];have:¬r.length≤8:=(by omega);simp[tH,this]
  ·have z2':¬(8:Int)<r.length:=(by omega);apply aA;refine aR fun K' hK=> ?_
   simp[Rg.cells,z1,z1',z2,z2'];apply hK;clear K' hK;refine aYk (by simp) ?_;apply aA;refine aR fun K' hK=> ?_
   simp;apply hK;clear K' hK;apply aB
   refine bH (fun s G nx=>G 0=some (.var 33 [rowT Alt.cells r])∧s 1=.ptr 0 0∧∃i:Nat,s 3=iV i∧i≤r.length∧(r.take i).all qc=true) (fun s _ _=>match s 3 with | .v (.int _ n)=>r.length-n.toNat | _=>0) ?_ ?_
   ·exact⟨by simp[Rg.cells],by simp,0,by simp,by omega,by simp⟩
   ·rintro s G nx hf ⟨g0,s1,i,s3,hi,ht⟩;have o3:=s3;have n0:¬0=nx:=(by have:=cO hf g0;omega);have hw:IntKind.i64.wrap (↑i+1)=((i+1:Nat):Int):=dh (by omega);apply aA;refine aR fun K' hK=> ?_
    simp[s1,s3,g0];apply hK;clear K' hK;refine aC fun A B hA hB=> ?_
    simp;refine⟨fun hi2=>hA ?_,fun hi2=>hB ?_⟩<;>clear hA hB A B<;>(try simp at hi2)<;>(try with_reducible refine aK ?_)
    ·have hstep:=iK (p:=qc) hi2;have hA:=hr.2 _ (bM hi2);have hfalse:qc (nth r i)=false→tH r=false:=fun h=>(by rw[tH,all_false hi2 h];rfl);generalize hgl:nth r i=l at*;have hAl:=hA.1;apply aB
     by_cases k8:8<l.length
     ·have k8':(8:Int)<l.length:=(by omega);apply aA;refine aR fun K' hK=> ?_
      simp[s1,s3,g0,hi2,hgl,k8,k8'];apply hK;clear K' hK;refine aX (by simp) ?_;apply aA;refine aR fun K' hK=> ?_
      simp;apply hK;clear K' hK;apply aJ
      simp[au,aG,Post,aW,res1,bF,bC,aP,bg,bf,okT,okA,ok1,rowOf,Tryz.f171];have:qc l=false:=by
       have:¬l.length≤8:=(by omega);simp[qc,this]
      rw[hfalse this]
     ·have k8':¬(8:Int)<l.length:=(by omega);apply aA;refine aR fun K' hK=> ?_
      simp[s1,s3,g0,hi2,hgl,k8,k8'];apply hK;clear K' hK;refine aYk (by simp) ?_;refine aR fun K' hK=> ?_
      simp;apply hK;clear K' hK;refine dL (aB ?_)
      refine bH (fun s G nx=>G 0=some (.var 33 [rowT Alt.cells r])∧s 1=.ptr 0 0∧s 3=iV i∧∃j:Nat,s 4=iV j∧j≤l.length∧(l.take j).all JZ=true) (fun s _ _=>match s 4 with | .v (.int _ n)=>l.length-n.toNat | _=>0) ?_ ?_
      ·exact⟨by simp[g0],by simp[s1],by simp[s3],0,by simp,by omega,by simp⟩
      ·clear s1 s3 g0 hf n0;rintro s G nx hf ⟨g0,s1,s3,j,s4,hj,hjt⟩;have n0:¬0=nx:=(by have:=cO hf g0;omega);have hwj:IntKind.i64.wrap (↑j+1)=((j+1:Nat):Int):=dh (by omega);apply aA;refine aR fun K' hK=> ?_
       simp[s1,s3,s4,g0,hi2,hgl];apply hK;clear K' hK;refine aC fun A B hA hB=> ?_
       simp;refine⟨fun hj2=>hA ?_,fun hj2=>hB ?_⟩<;>clear hA hB A B<;>(try simp at hj2)<;>(try with_reducible refine aK ?_)
       ·have hjstep:=iK (p:=JZ) hj2;have hjfalse:JZ (nth l j)=false→tH r=false:=fun h=>hfalse (by rw[qc,all_false hj2 h];rfl);have hbz:=hA.2 _ (bM hj2);have hbd:JZ (nth l j)=(fD (nth l j).ver&&(decide (1≤(nth l j).op)&&decide ((nth l j).op≤5))):=rfl;generalize hgb:nth l j=b at*;apply aB;refine aR fun K' hK=> ?_
        simp[s1,s3,s4,g0,hi2,hgl,hj2,hgb];apply hK;clear K' hK;by_cases b1:b.op<1
        ·skip;refine aR fun K' hK=> ?_
         simp[b1];apply hK;clear K' hK;refine aU (by simp) ?_;apply aA;refine aR fun K' hK=> ?_
         simp;apply hK;clear K' hK;apply aJ
         simp[au,aG,Post,aW,res1,bF,bC,aP,bg,bf,okT,okA,ok1,rowOf,Tryz.f171];have:¬1≤b.op:=(by omega);rw[hjfalse (by simp[hbd,this])]
        ·by_cases b2:5<b.op
         ·skip;refine aR fun K' hK=> ?_
          simp[b1,b2];apply hK;clear K' hK;refine aU (by simp) ?_;apply aA;refine aR fun K' hK=> ?_
          simp;apply hK;clear K' hK;apply aJ
          simp[au,aG,Post,aW,res1,bF,bC,aP,bg,bf,okT,okA,ok1,rowOf,Tryz.f171];have:¬b.op≤5:=(by omega);rw[hjfalse (by simp[hbd,this])]
         ·skip;refine aR fun K' hK=> ?_
          simp[b1,b2];refine ak (iU b.ver (by omega)) rfl (by simp) ?_;simp;apply hK;clear K' hK;by_cases c3:fD b.ver=true
          ·skip;refine aVk (by simp[c3]) ?_;apply aj
           refine ah ?_;refine aS fun K' hK=> ?_
           simp[s4,hwj];apply hK;clear K' hK;refine aj (ay ?_ ?_)
           ·exact⟨by simp[g0,n0],by simp[s1],by simp[s3],j+1,by simp[hwj],by omega,by
             rw[hjstep,hjt,hbd,c3];simp;omega⟩
           ·simp[s4,hwj];omega
          ·skip;refine aU (by simp[c3]) ?_;apply aA;refine aR fun K' hK=> ?_
           simp;apply hK;clear K' hK;apply aJ
           simp[au,aG,Post,aW,res1,bF,bC,aP,bg,bf,okT,okA,ok1,rowOf,Tryz.f171];rw[hjfalse (by simp[hbd,c3])]
       ·skip;apply bG
        refine aI (aH ?_);rw[List.take_of_length_le (by omega)]at hjt;apply aj
        refine ah ?_;refine aS fun K' hK=> ?_
        simp[s3,hw];apply hK;clear K' hK;refine aj (ay ?_ ?_)
        ·exact⟨by simp[g0],by simp[s1],i+1,by simp[hw],by omega,by
          rw[hstep,ht,qc,hjt];simp;omega⟩
        ·simp[o3,s3,hw];omega
    ·skip;apply bG
     refine aI (aH ?_);rw[List.take_of_length_le (by omega)]at ht;refine aR fun K' hK=> ?_
     simp;apply hK;clear K' hK;apply aF
     simp[au,aG,Post,aW,res1,bF,bC,aP,bg,bf,okT,okA,ok1,rowOf,Tryz.f171];simp[tH,ht];omega
theorem yI (r:Rg) (v:Ver) (hr:Rg.sz r) (hv:v.pre.size≤1000000):CallsOK Tryz.prog 134 [.agg r.cells,.agg v.cells] (bV (dQ v r)) []:=by
 refine aN mixed Tryz.call134 Tryz.func134 rfl (by rw[Tryz.ntmps134];simp) ?_ rfl;rw[Tryz.ntmps134];have hl:=hr.1;refine aR fun K' hK=> ?_
 simp;apply hK;clear K' hK;apply aA;refine aR fun K' hK=> ?_
 simp[Rg.cells];refine ak (lT r hr) rfl (by simp[Rg.cells]) ?_;by_cases c1:tH r=true
 ·simp[c1];refine ak (iU v (by omega)) rfl (by simp) ?_;by_cases c2:fD v=true
  ·simp[c2];apply hK;clear K' hK;refine aYk (by simp) ?_;apply aA;refine aR fun K' hK=> ?_
   simp;apply hK;clear K' hK;apply aB
   refine bH (fun s G nx=>G 0=some (.var 33 [rowT Alt.cells r])∧G 1=some (.var 23 v.cells)∧s 2=.ptr 0 0∧s 3=.ptr 1 0∧∃i:Nat,s 5=iV i∧i≤r.length∧(r.take i).any (fB v)=false) (fun s _ _=>match s 5 with | .v (.int _ n)=>r.length-n.toNat | _=>0) ?_ ?_
   ·exact⟨by simp[Rg.cells],by simp,by simp,by simp,0,by simp,by omega,by simp⟩
   ·rintro s G nx hf ⟨g0,g1,s2,s3,i,s5,hi,ht⟩;have hw:IntKind.i64.wrap (↑i+1)=((i+1:Nat):Int):=dh (by omega);apply aA;refine aR fun K' hK=> ?_
    simp[s2,s5,g0];apply hK;clear K' hK;refine aC fun A B hA hB=> ?_
    simp;refine⟨fun hi2=>hA ?_,fun hi2=>hB ?_⟩<;>clear hA hB A B<;>(try simp at hi2)<;>(try with_reducible refine aK ?_)
    ·have hA:=hr.2 _ (bM hi2);apply aB;refine aQ fun K' hK=> ?_
     simp[s2,s3,s5,g0,g1,hi2];refine ak (Ip (nth r i) v hA hv) rfl (by simp) ?_;simp;apply hK;clear K' hK;by_cases c4:fB v (nth r i)=true
     ·skip;refine aU (by simp[c4]) ?_;apply aA;refine aR fun K' hK=> ?_
      simp;apply hK;clear K' hK;apply aJ
      simp[au,aG,Post,aW,res1,bF,bC,aP,bg,bf,okT,okA,ok1,rowOf,Tryz.f134];have:r.any (fB v)=true:=List.any_eq_true.2 ⟨_,bM hi2,c4⟩;simp[dQ,c1,c2,this]
     ·skip;refine aVk (by simp[c4]) ?_;apply aj
      refine ah ?_;refine aS fun K' hK=> ?_
      simp[s5,hw];apply hK;clear K' hK;refine aj (ay ?_ ?_)
      ·exact⟨by simp[g0],by simp[g1],by simp[s2],by simp[s3],i+1,by simp[hw],by omega,lW hi2 ht (by simpa using c4)⟩
      ·simp[s5,hw];omega
    ·skip;apply bG
     refine aI (aH ?_);rw[List.take_of_length_le (by omega)]at ht;refine aR fun K' hK=> ?_
     simp;apply hK;clear K' hK;apply aF
     simp[au,aG,Post,aW,res1,bF,bC,aP,bg,bf,okT,okA,ok1,rowOf,Tryz.f134];simp[dQ,ht]
  ·simp[c2];apply hK;clear K' hK;refine aX (by simp) ?_;apply aA;refine aR fun K' hK=> ?_
   simp;apply hK;clear K' hK;apply aJ
   simp[au,aG,Post,aW,res1,bF,bC,aP,bg,bf,okT,okA,ok1,rowOf,Tryz.f134];simp[dQ,c2]
 ·simp[c1];apply hK;clear K' hK;refine aX (by simp) ?_;apply aA;refine aR fun K' hK=> ?_
  simp;apply hK;clear K' hK;apply aJ
  simp[au,aG,Post,aW,res1,bF,bC,aP,bg,bf,okT,okA,ok1,rowOf,Tryz.f134];simp[dQ,c1]
set_option maxRecDepth 100000
set_option maxHeartbeats 4000000
theorem MC (d:Dep) (root:Bool) (hn:d.name.size≤1000000) (hr:Rg.sz d.range):CallsOK Tryz.prog 202 [.agg d.cells,bV root] (bV (kZ root d&&iM d.name d.range)) []:=by
 refine aN mixed Tryz.call202 Tryz.func202 rfl (by rw[Tryz.ntmps202];simp) ?_ rfl;rw[Tryz.ntmps202];refine aR fun K' hK=> ?_
 simp;apply hK;clear K' hK;have hk:∀b,kZ root d=b→(kZ root d&&iM d.name d.range)=(b&&(tH d.range&&jq (bsL d.name))):=fun b h=>(by rw[h];rfl);have fin:∀(K:Bool),kZ root d=K→True:=fun _ _=>trivial;by_cases k1:1≤d.kind
 ·by_cases k4:d.kind≤4
  ·by_cases k2:root=true∨d.kind≠2
   ·have hkb:kZ root d=true:=by
     simp only[kZ,Bool.and_eq_true,decide_eq_true_eq,Bool.or_eq_true,Bool.not_eq_true',decide_eq_false_iff_not];exact⟨⟨k1,k4⟩,k2⟩
    rw[hkb];refine fC (fun s G nx=>s 4=bV (jq (bsL d.name)&&tH d.range)) ?_ ?_
    ·cases root with
     | true=>
      refine aS fun K' hK=> ?_
      simp[k1,k4];refine ak (lF d.name (by omega)) rfl (by first | rfl | (simp;done) | (simp;rfl) | (simp;exact⟨rfl,rfl⟩)) ?_;by_cases hg:jq (bsL d.name)=true
      ·simp[hg];refine ak (lT d.range hr) rfl (by simp[Rg.cells]) ?_;simp;apply hK;clear K' hK;with_reducible refine bP ?_
       simp[hg]
      ·simp[hg];apply hK;clear K' hK;with_reducible refine bP ?_
       simp[hg]
     | false=>
      have k2':¬d.kind=2:=k2.resolve_left (by simp);refine aS fun K' hK=> ?_
      simp[k1,k4,k2'];refine ak (lF d.name (by omega)) rfl (by first | rfl | (simp;done) | (simp;rfl) | (simp;exact⟨rfl,rfl⟩)) ?_;by_cases hg:jq (bsL d.name)=true
      ·simp[hg];refine ak (lT d.range hr) rfl (by simp[Rg.cells]) ?_;simp;apply hK;clear K' hK;with_reducible refine bP ?_
       simp[hg]
      ·simp[hg];apply hK;clear K' hK;with_reducible refine bP ?_
       simp[hg]
    ·rintro s G nx s4;apply aF
     simp[au,aG,Post,aW,res1,bF,bC,aP,bg,bf,okT,okA,ok1,rowOf,Tryz.f202,s4];simp[iM,Bool.and_comm]
   ·have hr0:root=false:=(by cases root<;>simp_all);have hk2:d.kind=2:=by
     rcases Classical.em (d.kind=2)with h | h
     ·exact h
     ·exact absurd (.inr h) k2
    subst hr0;refine aR fun K' hK=> ?_
    simp[k1,k4,hk2];apply hK;clear K' hK;apply aF
    simp[au,aG,Post,aW,res1,bF,bC,aP,bg,bf,okT,okA,ok1,rowOf,Tryz.f202];simp[kZ,hk2]
  ·skip;refine aR fun K' hK=> ?_
   simp[k1,k4];apply hK;clear K' hK;apply aF
   simp[au,aG,Post,aW,res1,bF,bC,aP,bg,bf,okT,okA,ok1,rowOf,Tryz.f202];simp[kZ,k4]
 ·skip;refine aR fun K' hK=> ?_
  simp[k1];apply hK;clear K' hK;apply aF
  simp[au,aG,Post,aW,res1,bF,bC,aP,bg,bf,okT,okA,ok1,rowOf,Tryz.f202];simp[kZ,k1]
theorem Fz (a b:Man) (ha:a.ver.pre.size≤1000000) (hb:b.ver.pre.size≤1000000):CallsOK Tryz.prog 163 [.agg a.cells,.agg b.cells] (bV (decide (kL a b<0))) []:=by
 refine aN mixed Tryz.call163 Tryz.func163 rfl (by rw[Tryz.ntmps163];simp) ?_ rfl;rw[Tryz.ntmps163];refine aR fun K' hK=> ?_
 simp;apply hK;clear K' hK;by_cases h1:ltB a.name b.name=true
 ·skip;refine aR fun K' hK=> ?_
  simp[h1];apply hK;clear K' hK;apply aF
  simp[au,aG,Post,aW,res1,bF,bC,aP,bg,bf,okT,okA,ok1,rowOf,Tryz.f163];have:lX a.name b.name= -1:=(by simp[lX,h1]);simp[kL,orN,this]
 ·have h1':ltB a.name b.name=false:=(by simpa using h1);by_cases h2:a.name=b.name
  ·have h2':(a.name=b.name)=True:=eq_true h2;refine aR fun K' hK=> ?_
   simp[h1',h2'];refine ak (lS a.ver b.ver ha hb) rfl (by first | rfl | (simp;done) | (simp;rfl) | (simp;exact⟨rfl,rfl⟩)) ?_;simp;apply hK;clear K' hK;apply aF
   simp[au,aG,Post,aW,res1,bF,bC,aP,bg,bf,okT,okA,ok1,rowOf,Tryz.f163];have:lX a.name b.name=0:=wI.2 h2;simp only[kL,orN,this,if_true];split
   ·rename_i h;rw[h]
   ·rfl
  ·skip;refine aR fun K' hK=> ?_
   refine bI 6 fun K2 hK2=> ?_;simp[h1'];refine hK2 _ _ _ ?_;clear K2 hK2;refine bI 6 fun K2 hK2=> ?_;simp[h2];refine hK2 _ _ _ ?_;clear K2 hK2;simp[h2];apply hK;clear K' hK;apply aF
   simp[au,aG,Post,aW,res1,bF,bC,aP,bg,bf,okT,okA,ok1,rowOf,Tryz.f163];have h3:¬lX a.name b.name=0:=fun h=>h2 (wI.1 h);have h4:¬lX a.name b.name<0:=fun h=>h1 (qI.1 h);simp only[kL,orN,if_neg h3];omega
end Go.Proofs.YtmmbgjmigmchbaaGreatDoorAbs
