/- hoggetref05: bound, lets, Right, Holds. -/
import Derived.Test.YtgipehooceecpaaGreatDoorEa7
import Derived.Test.YtgipehooceecpaaGreatDoorRows
import Derived.Deep.DeepHandedRow
import Derived.Deep.DeepWitnessRowRef
import Derived.Lib.LaidIn
import Derived.Stop.LaidErr
import Derived.Shelf.Vars
import Derived.MakeChecks
import Derived.OpenShut
import Derived.ChangeBears2
import Derived.Test.YtgipehooceecpaaGreatDoorEa2
namespace Go.Proofs.YtgipehooceecpaaGreatDoorAbs
set_option linter.unusedSimpArgs false
set_option linter.unusedVariables false
open Go Go.RowKit Go.Proofs
set_option maxRecDepth 100000
set_option maxHeartbeats 4000000
@[simp] theorem o_makeFunc0 {P:Program} [Gl P] {s:Sl} {G:Hp} {nx:Nat} {f:FuncId} (caps:Array Operand):evOp P s G nx (.makeFunc (.func f) #[] caps)=some (.fn f (caps.toList.map (evX s)),G,nx):=by simp[evOp]
@[simp] theorem treeOf_fn {P:Program} {G:Hp} (f:FuncId) (cs:List AV):treeOf P G (.fn f cs)=none:=rfl
@[simp] theorem frzOf_fn {G:Hp} (f:FuncId) (cs:List AV):frzOf G (.fn f cs)=G:=rfl
@[simp] theorem isFn_fn (f:FuncId) (cs:List AV):isFn (.fn f cs)=true:=rfl
theorem rng3:[0,1,2]=List.range 3:=rfl
def AccI (G:Hp) (Z ny:Nat) (x:AV) (acc:List Int):Prop:=(x=.v (.slice none 0 0)∧acc=[])∨∃r,x=.row r acc.length∧G r=some (.row 3 (flat iC acc))∧Z<r∧r<ny∧acc≠[]
def valCodes (root:Man) (L:List Man) (t:List Pl):List Int:=[manCheck root true,idxCheck L,checkN t]
def fineV (root:Man) (L:List Man) (t:List Pl) (i:Int):Bool:=match manVal root L t i with
 | none=>false
 | some m=>(ofF m.deps root.rules (decide (i=0))).all (holdsV t i)
def wrongL (root:Man) (L:List Man) (t:List Pl):List Int:=(belowL t 0).filter fun i=> !fineV root L t i
def ValSz (root:Man) (L:List Man) (t:List Pl):Prop:=Man.sz root∧Man.okS root∧Idx.sz L∧(∀m∈L,Man.okS m)∧OKs t∧∀p∈t,p.ver.pre.size≤1000000
def codeV (root:Man) (L:List Man) (t:List Pl):Int:=orN (valCodes root L t)
def wrongR (root:Man) (L:List Man) (t:List Pl):AV×Js:=
 if codeV root L t=0 then(if wrongL root L t=[]then(.tup [.v (.slice none 0 0),iV 0],[])else(.tup [.row 0 (wrongL root L t).length,iV 0],[(3,flat iC (wrongL root L t))]))else(.tup [.row 0 0,iV (codeV root L t)],[(3,[])])
theorem manR_trees {G:Hp} {a b:Nat} {m:Man} (hba:¬b=a) (ka:G a=some (.row 35 (flat Dep.cells m.deps))) (kb:G b=some (.row 96 (flat Ru.cells m.rules))):treesOf Tryz.prog G (m.cellsR (.row a m.deps.length) (.row b m.rules.length))=some (m.cells,frzOf (frzOf G (.row a m.deps.length)) (.row b m.rules.length)):=by
 have c1:Tryz.prog.cellsOf 35=3:=(by kernel_rfl);have c2:Tryz.prog.cellsOf 96=2:=(by kernel_rfl);have h1:treeOf Tryz.prog G (.row a m.deps.length)=some (rowT Dep.cells m.deps):=treeOf_of ka c1 rfl;have h2:treeOf Tryz.prog (frzOf G (.row a m.deps.length)) (.row b m.rules.length)=some (rowT Ru.cells m.rules):=(treeOf_frzne hba).trans (treeOf_of kb c2 rfl);have f:∀(x:Value) (G:Hp),frzOf G (.v x)=G:=fun _ _=>rfl;simp only[Man.cellsR,treesOf,treeOf_v,f,h1,h2];rfl
theorem manVal_mem {root:Man} {L:List Man} {t:List Pl} {i:Int} {m:Man} (h:manVal root L t i=some m):m=root∨m∈L:=by
 unfold manVal at h;split at h
 ·split at h
  ·injection h with h;exact .inl h.symm
  ·exact .inr (List.mem_of_find?_eq_some h)
 ·cases h
theorem ofF_range {ds:List Dep} {rules:List Ru} {b:Bool} {d:Dep} (h:d∈ofF ds rules b):(∃e∈ds,d.range=e.range)∨∃e∈rules,d.range=e.range:=by
 obtain⟨n,hn,rfl⟩:=List.mem_map.1 h;have hn2:n∈namesOf (byM b ds):=(sortN_perm _).mem_iff.1 hn;have hfd:findD (byM b ds) n∈ds:=by
  cases hp:posM (byM b ds) n with
  | none=>exact absurd hn2 (posM_none.1 hp)
  | some j=>
   have:=posM_lt hp;simp only[findD,hp];exact byM_mem (nth_mem this.1)
 unfold edgeOf;cases ha:atF rules (findD (byM b ds) n).name with
 | none=>exact .inl ⟨_,hfd,rfl⟩
 | some i=>
  have:=(List.findIdx?_eq_some_iff_getElem.1 ha).1;exact .inr ⟨_,nth_mem this,rfl⟩
theorem wrong35_ok (root:Man) (L:List Man) (t:List Pl) (h:ValSz root L t):CallsOK Tryz.prog 35 [.agg root.cells,rowT Man.cells L,rowT Pl.cells t] (wrongR root L t).1 (wrongR root L t).2:=by
 obtain⟨hrz,hro,hLz,hLo,ht,hv⟩:=h;have hLl:=hLz.1;refine callsOK mixed Tryz.call35 Tryz.func35 rfl (by rw[Tryz.ntmps35];simp) ?_ ?_
 ·rw[Tryz.ntmps35];with_reducible refine aR fun K' hK=> ?_
  simp;refine hK _ _ _ ?_;clear K' hK;refine aw_scopeL ?_;refine aw_gen (fun s G nx=>s 3=.ptr 0 0∧s 4=.ptr 1 0∧s 5=.ptr 2 0∧nx=4∧G 0=some (.var 27 root.cells)∧G 1=some (.var 28 [rowT Man.cells L])∧G 2=some (.var 29 [rowT Pl.cells t])) ?_ ?_
  ·simp;exact⟨rfl,rfl⟩
  rintro s G nx ⟨s3,s4,s5,rfl,g0,g1,g2⟩;with_reducible refine aA ?_;refine aR fun K' hK=> ?_
  simp[s3,s4,s5,rng3];refine hK _ _ _ ?_;clear K' hK;with_reducible refine aw_block ?_
  refine aw_loop (fun s G nx=>s 3=.ptr 0 0∧s 4=.ptr 1 0∧s 5=.ptr 2 0∧G 0=some (.var 27 root.cells)∧G 1=some (.var 28 [rowT Man.cells L])∧G 2=some (.var 29 [rowT Pl.cells t])∧s 20=.row 4 3∧G 4=some (.var 97 [.fn 87 [.ptr 0 0],.fn 88 [.ptr 1 0],.fn 89 [.ptr 2 0]])∧s 21=iV 3∧∃i:Nat,s 22=iV i∧i≤3∧orN (valCodes root L t)=orN ((valCodes root L t).drop i)) (fun s _ _=>match s 22 with | .v (.int _ n)=>3-n.toNat | _=>0) ?_ ?_
  ·exact⟨by simp[s3],by simp[s4],by simp[s5],by simp[g0],by simp[g1],by simp[g2],by simp,by simp,by simp,0,by simp,by omega,by simp⟩
  ·clear s3 s4 s5 g0 g1 g2;rintro s G nx hf ⟨s3,s4,s5,g0,g1,g2,s20,g4,s21,i,s22,hi,ht2⟩;have hw:IntKind.i64.wrap (↑i+1)=((i+1:Nat):Int):=wrapS (by omega);with_reducible refine aR fun K' hK=> ?_
   simp[s21,s22];refine hK _ _ _ ?_;clear K' hK;with_reducible refine aC fun A B hA hB=> ?_
   simp;refine⟨fun hi2=>hA ?_,fun hi2=>hB ?_⟩<;>clear hA hB A B<;>(try simp at hi2)<;>(try with_reducible refine aK ?_)
   ·have hfin:∀c:Int,orN (valCodes root L t)=c→c≠0→wrongR root L t=(.tup [.row 0 0,iV c],[(3,[])]):=fun c h1 h2=>(by rw[wrongR,codeV,h1,if_neg h2]);have hcases:i=0∨i=1∨i=2:=(by omega);have w1:IntKind.i64.wrap 1=1:=wrap64 (by omega) (by omega);have w2:IntKind.i64.wrap 2=2:=wrap64 (by omega) (by omega);have w3:IntKind.i64.wrap 3=3:=wrap64 (by omega) (by omega);rcases hcases with rfl | rfl | rfl
    ·have hd:orN ((valCodes root L t).drop 0)=if manCheck root true=0 then orN ((valCodes root L t).drop 1)else manCheck root true:=rfl;with_reducible refine aw_block ?_;refine aR fun K' hK=> ?_
     simp[s20,s22,g4];refine hK _ _ _ ?_;clear K' hK;with_reducible refine aR fun K' hK=> ?_
     simp;refine acall_inlK (inlK mixed Tryz.call87 Tryz.func87 rfl (by rw[Tryz.ntmps87];simp) fun hf=> ?_);rw[Tryz.ntmps87];with_reducible refine aR fun K' hK=> ?_
     simp;refine hK _ _ _ ?_;clear K' hK;with_reducible refine aR fun K' hK=> ?_
     simp[g0];refine acall_flat (manCheck_ok root hrz true) rfl (by simp) ?_;simp;refine hK _ _ _ ?_;clear K' hK;with_reducible refine aw_retL ?_
     simp[blockK,loopK,Post,resA,res1,expT,expA,exp1,expM,expL,okT,okA,ok1,rowOf,Tryz.f87];refine hK _ _ _ ?_;clear K' hK;by_cases c:manCheck root true=0
     ·skip;with_reducible refine aR fun K' hK=> ?_
      simp[c];refine hK _ _ _ ?_;clear K' hK;with_reducible refine aVk (by simp[c]) ?_;refine aw_skipL ?_
      refine blockK_normal ?_;with_reducible refine aS fun K' hK=> ?_
      simp[s22,w1,w2,w3];refine hK _ _ _ ?_;clear K' hK;refine aw_skipL (loopK_normal ?_ ?_)
      ·exact⟨by simp[s3],by simp[s4],by simp[s5],g0,g1,g2,by simp[s20],g4,by simp[s21],1,by simp[w1,w2,w3],by omega,by rw[ht2,hd,if_pos c]⟩
      ·simp[s22,w1,w2,w3]
     ·skip;with_reducible refine aR fun K' hK=> ?_
      simp[c];refine hK _ _ _ ?_;clear K' hK;with_reducible refine aU (by simp[c]) ?_;refine aA ?_;refine aR fun K' hK=> ?_
      simp;refine hK _ _ _ ?_;clear K' hK;rw[hfin _ (by rw[ht2,hd,if_neg c]) c];with_reducible refine aw_ret ?_
      simp[blockK,loopK,Post,resA,res1,expT,expA,exp1,expM,expL,okT,okA,ok1,rowOf,Tryz.f35,scopeK]
    ·have hd:orN ((valCodes root L t).drop 1)=if idxCheck L=0 then orN ((valCodes root L t).drop 2)else idxCheck L:=rfl;with_reducible refine aw_block ?_;refine aR fun K' hK=> ?_
     simp[s20,s22,g4];refine hK _ _ _ ?_;clear K' hK;with_reducible refine aR fun K' hK=> ?_
     simp;refine acall_inlK (inlK mixed Tryz.call88 Tryz.func88 rfl (by rw[Tryz.ntmps88];simp) fun hf=> ?_);rw[Tryz.ntmps88];with_reducible refine aR fun K' hK=> ?_
     simp;refine hK _ _ _ ?_;clear K' hK;with_reducible refine aR fun K' hK=> ?_
     simp[g1];refine acall_flat (idxCheck_ok L hLz) rfl (by simp) ?_;simp;refine hK _ _ _ ?_;clear K' hK;with_reducible refine aw_retL ?_
     simp[blockK,loopK,Post,resA,res1,expT,expA,exp1,expM,expL,okT,okA,ok1,rowOf,Tryz.f88];refine hK _ _ _ ?_;clear K' hK;by_cases c:idxCheck L=0
     ·skip;with_reducible refine aR fun K' hK=> ?_
      simp[c];refine hK _ _ _ ?_;clear K' hK;with_reducible refine aVk (by simp[c]) ?_;refine aw_skipL ?_
      refine blockK_normal ?_;with_reducible refine aS fun K' hK=> ?_
      simp[s22,w1,w2,w3];refine hK _ _ _ ?_;clear K' hK;refine aw_skipL (loopK_normal ?_ ?_)
      ·exact⟨by simp[s3],by simp[s4],by simp[s5],g0,g1,g2,by simp[s20],g4,by simp[s21],2,by simp[w1,w2,w3],by omega,by rw[ht2,hd,if_pos c]⟩
      ·simp[s22,w1,w2,w3]
     ·skip;with_reducible refine aR fun K' hK=> ?_
      simp[c];refine hK _ _ _ ?_;clear K' hK;with_reducible refine aU (by simp[c]) ?_;refine aA ?_;refine aR fun K' hK=> ?_
      simp;refine hK _ _ _ ?_;clear K' hK;rw[hfin _ (by rw[ht2,hd,if_neg c]) c];with_reducible refine aw_ret ?_
      simp[blockK,loopK,Post,resA,res1,expT,expA,exp1,expM,expL,okT,okA,ok1,rowOf,Tryz.f35,scopeK]
    ·have hd:orN ((valCodes root L t).drop 2)=if checkN t=0 then orN ((valCodes root L t).drop 3)else checkN t:=rfl;with_reducible refine aw_block ?_;refine aR fun K' hK=> ?_
     simp[s20,s22,g4];refine hK _ _ _ ?_;clear K' hK;with_reducible refine aR fun K' hK=> ?_
     simp;refine acall_inlK (inlK mixed Tryz.call89 Tryz.func89 rfl (by rw[Tryz.ntmps89];simp) fun hf=> ?_);rw[Tryz.ntmps89];with_reducible refine aR fun K' hK=> ?_
     simp;refine hK _ _ _ ?_;clear K' hK;with_reducible refine aR fun K' hK=> ?_
     simp[g2];refine acall_flat (check18_ok t ht) rfl (by simp) ?_;simp;refine hK _ _ _ ?_;clear K' hK;with_reducible refine aw_retL ?_
     simp[blockK,loopK,Post,resA,res1,expT,expA,exp1,expM,expL,okT,okA,ok1,rowOf,Tryz.f89];refine hK _ _ _ ?_;clear K' hK;by_cases c:checkN t=0
     ·skip;with_reducible refine aR fun K' hK=> ?_
      simp[c];refine hK _ _ _ ?_;clear K' hK;with_reducible refine aVk (by simp[c]) ?_;refine aw_skipL ?_
      refine blockK_normal ?_;with_reducible refine aS fun K' hK=> ?_
      simp[s22,w1,w2,w3];refine hK _ _ _ ?_;clear K' hK;refine aw_skipL (loopK_normal ?_ ?_)
      ·exact⟨by simp[s3],by simp[s4],by simp[s5],g0,g1,g2,by simp[s20],g4,by simp[s21],3,by simp[w1,w2,w3],by omega,by rw[ht2,hd,if_pos c]⟩
      ·simp[s22,w1,w2,w3]
     ·skip;with_reducible refine aR fun K' hK=> ?_
      simp[c];refine hK _ _ _ ?_;clear K' hK;with_reducible refine aU (by simp[c]) ?_;refine aA ?_;refine aR fun K' hK=> ?_
      simp;refine hK _ _ _ ?_;clear K' hK;rw[hfin _ (by rw[ht2,hd,if_neg c]) c];with_reducible refine aw_ret ?_
      simp[blockK,loopK,Post,resA,res1,expT,expA,exp1,expM,expL,okT,okA,ok1,rowOf,Tryz.f35,scopeK]
   ·skip;with_reducible refine aw_exit ?_
    refine loopK_exit (blockK_exit ?_);have hi3:i=3:=(by omega);subst hi3;have hc0:codeV root L t=0:=(by rw[codeV,ht2];rfl);have hx0:checkN t=0:=by
     have h1:orN (valCodes root L t)=0:=hc0;have h2:orN (valCodes root L t)=if manCheck root true=0 then(if idxCheck L=0 then(if checkN t=0 then 0 else checkN t)else idxCheck L)else manCheck root true:=rfl;rw[h2]at h1;split at h1
     ·split at h1
      ·split at h1
       ·assumption
       ·exact h1
      ·rename_i h3;exact absurd h1 h3
     ·rename_i h3;exact absurd h1 h3
    have hn4:=fresh_lt hf g4;clear hn4;with_reducible refine aR fun K' hK=> ?_
    simp;refine hK _ _ _ ?_;clear K' hK;have n0:¬0=nx:=(by have:=fresh_lt hf g0;omega);have n1:¬1=nx:=(by have:=fresh_lt hf g1;omega);have n2:¬2=nx:=(by have:=fresh_lt hf g2;omega);have h4x:4<nx:=fresh_lt hf g4;refine aw_label ?_;with_reducible refine aA ?_;refine aR fun K' hK=> ?_
    simp[s5,g2,n2];refine acall_new (below28_ok t ht 0) (by simp) ?_;simp[addJ_one];refine acall_inlK (inlK mixed Tryz.call90 Tryz.func90 rfl (by rw[Tryz.ntmps90];simp) fun hf=> ?_);rw[Tryz.ntmps90];with_reducible refine aR fun K' hK=> ?_
    simp;refine hK _ _ _ ?_;clear K' hK;with_reducible refine aR fun K' hK=> ?_
    simp;refine hK _ _ _ ?_;clear K' hK;with_reducible refine aw_retL ?_
    simp[blockK,loopK,Post,resA,res1,expT,expA,exp1,expM,expL,okT,okA,ok1,rowOf,Tryz.f90];refine hK _ _ _ ?_;clear K' hK;refine aw_gen (fun s G ny=>s 3=.ptr 0 0∧s 4=.ptr 1 0∧s 5=.ptr 2 0∧s 11=.ptr nx 0∧s 34=.fn 142 [.ptr (nx+2) 0]∧ny=nx+3∧G 0=some (.var 27 root.cells)∧G 1=some (.var 28 [rowT Man.cells L])∧G 2=some (.var 29 [rowT Pl.cells t])∧G nx=some (.var 49 [.v (.slice none 0 0)])∧G (nx+1)=some (.row 3 (flat iC (belowL t 0)))∧G (nx+2)=some (.var 49 [.row (nx+1) (belowL t 0).length])) ?_ ?_
    ·have a0:¬0=nx+1:=(by omega);have a1:¬1=nx+1:=(by omega);have a2:¬2=nx+1:=(by omega);have a3:¬1=nx+2:=(by omega);have a4:¬2=nx+2:=(by omega);have a5:¬nx=0:=(by omega);have a6:¬nx=1:=(by omega);have a7:¬nx=nx+1+1:=(by omega);refine⟨by simp[s3],by simp[s4],by simp[s5],by simp,by simp,by omega,by simp[n0,g0],by simp[n1,a5,a3,g1],by simp[n2,n1,a4,a5,a6,g2],by simp[a7],by simp,by simp⟩
    clear s3 s4 s5 g0 g1 g2 g4 s20 s21 s22 ht2 hf hw hi hi2;rintro s G ny ⟨s3,s4,s5,s11,s34,hny,g0,g1,g2,gA,gR,gV⟩;generalize hA:nx=A at*;generalize hR:A+1=R at*;generalize hV:A+2=V at*;subst hny;generalize hZ:A+3=Z at*;have vZ:¬V=Z:=(by omega);have rZ:¬R=Z:=(by omega);have aZ:¬A=Z:=(by omega);have oZ0:¬0=Z:=(by omega);have oZ1:¬1=Z:=(by omega);have oZ2:¬2=Z:=(by omega);with_reducible refine aw_block ?_
    refine aw_range (f:=142) (fn:=Tryz.f142) mixed s34 Tryz.call142 Tryz.func142 rfl (by rw[Tryz.ntmps142];simp) rfl ?_;rw[Tryz.ntmps142];generalize hL:(Lp.mk s 72 _ _ _)=Lq;have hLs:Lq.s=s:=(by subst hL;rfl);have hbl:(belowL t 0).length≤1000000000:=by
     have htl:=ht.1;unfold belowL;split
     ·unfold belowK;rw[List.length_map];refine Nat.le_trans (List.length_filter_le _ _) ?_;rw[List.length_range];exact htl
     ·simp
    have hround:∀(p:Int) (x:AV) (acc:List Int) (K:AV→Hp→Nat→Prop) (G:Hp) (ny:Nat),acc.length≤1000000000→Z<ny→G 0=some (.var 27 root.cells)→G 1=some (.var 28 [rowT Man.cells L])→G 2=some (.var 29 [rowT Pl.cells t])→G A=some (.var 49 [x])→AccI G Z ny x acc→G Z=some (Lq.o .ready none)→
      (∀G' ny' x',ny≤ny'→(∀k,k<Z→k≠A→G' k=G k)→G' Z=some (Lq.o .ready none)→G' A=some (.var 49 [x'])→AccI G' Z ny' x' (acc++if fineV root L t p=true then[]else[p])→K (bV true) G' ny')→YldK Tryz.prog Z [iV p] K G ny:=by
     subst hL;clear g0 g1 g2 gA gR gV;intro p x acc K G ny hal hZn g0 g1 g2 gA hacc gZ k1;refine yldK mixed gZ rfl (by simp) rfl rfl fun hf=> ?_;with_reducible refine aS fun K' hK=> ?_
     simp;refine hK _ _ _ ?_;clear K' hK;refine⟨rfl,gZ,?_⟩;dsimp only;generalize (Lp.mk s 72 _ _ _)=Lq at gZ k1⊢;with_reducible refine aw_toS (aw_block ?_)
     have hmc:=manVal_ok root hro L hLl hLo t ht p;have hfine:fineV root L t p=match manVal root L t p with
      | none=>false
      | some m=>(ofF m.deps root.rules (decide (p=0))).all (holdsV t p):=rfl
     have hmem:=fun m (h:manVal root L t p=some m)=>manVal_mem h;generalize manVal root L t p=r at hmc hfine hmem;cases r with
     | none=>
      with_reducible refine aR fun K' hK=> ?_
      simp[s3,s4,s5,oZ0,oZ1,oZ2,g0,g1,g2];refine acall_new hmc (by simp) ?_;simp[manR,addJ_nil];refine hK _ _ _ ?_;clear K' hK;with_reducible refine aA ?_;refine aR fun K' hK=> ?_
      simp;refine hK _ _ _ ?_;clear K' hK;with_reducible refine aX (by simp) ?_
      have hfine:fineV root L t p=false:=hfine;have an:¬A=ny:=(by omega);have an1:¬A=ny+1:=(by omega);have an2:¬A=ny+2:=(by omega);have an3:¬A=ny+1+1:=(by omega);have zn:¬Z=ny:=(by omega);have za:¬Z=A:=(by omega);have zn1:¬Z=ny+1:=(by omega);have zn2:¬Z=ny+1+1:=(by omega);rcases hacc with⟨rfl,rfl⟩ | ⟨q,rfl,hq,hZq,hqn,hne⟩
      ·with_reducible refine aA ?_;refine aR fun K' hK=> ?_
       simp[s11,gA,aZ,an,an1,an3,treeOf_row,srcOf_row];refine hK _ _ _ ?_;clear K' hK;with_reducible refine aw_exit ?_
       (repeat first | with_reducible refine blockK_exit ?_ | with_reducible refine blockK_pass (by decide) ?_);refine aw_skipL (roundK_normal (by simp[zn,za,zn1,zn2]) ?_);refine k1 _ _ (.row (ny+1+1) 1) (by omega) (fun k hk hkA=>by repeat rw[Hp.upd_ne _ _ (by omega)]) (by simp) (by simp[aZ]) (.inr ⟨ny+1+1,by simp[hfine],?_,by omega,by omega,by simp[hfine]⟩);rw[hfine];rw[Hp.upd_ne _ _ (by omega),Hp.upd_ne _ _ (by omega),Hp.upd_self];rfl
      ·have b1:acc.length+1≤9223372036854775807:=(by omega);have b2:(acc.length+1)*8≤140737488355328:=(by omega);have qn:¬q=ny:=(by omega);have qn1:¬q=ny+1:=(by omega);have qZ:¬q=Z:=(by omega);have qA:¬q=A:=(by omega);have Aq:¬A=q:=(by omega);have Zq:¬Z=q:=(by omega);with_reducible refine aA ?_;refine aR fun K' hK=> ?_
       simp[s11,gA,hq,aZ,an,an1,an3,qn,qn1,qZ,qA,Aq,b1,b2,treeOf_row,srcOf_row];refine hK _ _ _ ?_;clear K' hK;with_reducible refine aw_exit ?_
       (repeat first | with_reducible refine blockK_exit ?_ | with_reducible refine blockK_pass (by decide) ?_);refine aw_skipL (roundK_normal (by simp[zn,za,zn1,zn2,Zq]) ?_);refine k1 _ _ (.row (ny+1+1) (acc.length+1)) (by omega) (fun k hk hkA=>by repeat rw[Hp.upd_ne _ _ (by omega)]) (by simp) (by simp[aZ]) (.inr ⟨ny+1+1,by simp[hfine],?_,by omega,by omega,by simp[hfine]⟩);rw[hfine,Hp.upd_ne _ _ (by omega),Hp.upd_ne _ _ (by omega),Hp.upd_self,if_neg (by simp),←flat_snoc];rfl
     | some m=>
      with_reducible refine aR fun K' hK=> ?_
      simp[s3,s4,s5,oZ0,oZ1,oZ2,g0,g1,g2];refine acall_new hmc (by simp) ?_;simp[manR,addJ_two,Nat.add_comm 1 ny];refine hK _ _ _ ?_;clear K' hK;with_reducible refine aA ?_;refine aR fun K' hK=> ?_
      simp;refine hK _ _ _ ?_;clear K' hK;with_reducible refine aYk (by simp) ?_
      refine aw_gen (fun u H nz=>u 3=.ptr 0 0∧u 4=.ptr 1 0∧u 5=.ptr 2 0∧u 11=.ptr A 0∧u 12=iV p∧u 13=.ptr (ny+2) 0∧nz=ny+3∧(∀k,k<Z→H k=G k)∧H Z=some (Lq.o .busy none)∧(∀k,Z<k→k<ny→H k=G k)∧H ny=some (.row 35 (flat Dep.cells m.deps))∧H (ny+1)=some (.row 96 (flat Ru.cells m.rules))∧H (ny+2)=some (.var 27 (m.cellsR (.row ny m.deps.length) (.row (ny+1) m.rules.length)))) ?_ ?_
      ·have zn:¬Z=ny:=(by omega);have zn1:¬Z=ny+1:=(by omega);have zn2:¬Z=ny+2:=(by omega);exact⟨by simp[s3],by simp[s4],by simp[s5],by simp[s11],by simp,by simp,by omega,fun k hk=>by repeat rw[Hp.upd_ne _ _ (by omega)],by simp[zn,zn1,zn2],fun k h1 h2=>by repeat rw[Hp.upd_ne _ _ (by omega)],by simp,by simp,by simp⟩
      clear hf;rintro u H nz ⟨u3,u4,u5,u11,u12,u13,rfl,hHl,hHZ,hHu,hkd,hku,hkm⟩;have hmz:Man.sz m∧Man.okS m:=by
       rcases hmem m rfl with rfl | hin
       ·exact⟨hrz,hro⟩
       ·exact⟨hLz.2 _ hin,hLo _ hin⟩
      have z0:¬0=ny:=(by omega);have z1:¬0=ny+1:=(by omega);have z2:¬0=ny+2:=(by omega);have h0:H 0=some (.var 27 root.cells):=(by rw[hHl 0 (by omega)];exact g0);have hT:=manR_trees (show¬ny+1=ny by omega) hkd hku;with_reducible refine aR fun K' hK=> ?_
      simp[u3,u12,u13,hkm,h0];refine acall_new (of10_ok m root.rules (decide (p=0)) hmz.2.1 hro.2) (by simp[hT]) ?_;simp[addJ_one,hT];refine hK _ _ _ ?_;clear K' hK;have hfine:fineV root L t p=(ofF m.deps root.rules (decide (p=0))).all (holdsV t p):=hfine;have hEz:∀d∈ofF m.deps root.rules (decide (p=0)),Rg.sz d.range:=fun d hd=>by
       rcases ofF_range hd with⟨e,he,h⟩ | ⟨e,he,h⟩
       ·rw[h];exact(hmz.1.2.2.1.2 e he).2
       ·rw[h];exact(hrz.2.2.2.2 e he).2
      have hEl:(ofF m.deps root.rules (decide (p=0))).length≤1000000000:=by
       have h1:=byM_len (decide (p=0)) m.deps;have h2:=hmz.1.2.2.1.1;unfold ofF;rw[List.length_map,(sortN_perm _).length_eq];simp only[namesOf,List.length_map];omega
      generalize ofF m.deps root.rules (decide (p=0))=E at*;with_reducible refine aw_toS (aw_block ?_)
      refine aw_loop (fun u H nz=>u 5=.ptr 2 0∧u 11=.ptr A 0∧u 12=iV p∧(∀k,k<Z→H k=G k)∧H Z=some (Lq.o .busy none)∧(∀k,Z<k→k<ny→H k=G k)∧u 55=.row (ny+3) E.length∧H (ny+3)=some (.row 35 (flat Dep.cells E))∧u 56=iV E.length∧ny+4≤nz∧∃j:Nat,u 57=iV j∧j≤E.length∧(E.take j).all (holdsV t p)=true) (fun s _ _=>match s 57 with | .v (.int _ n)=>E.length-n.toNat | _=>0) ?_ ?_
      ·have e1:¬Z=ny+3:=(by omega);have e2:¬Z=ny:=(by omega);have e3:¬Z=ny+1:=(by omega);exact⟨by simp[u5],by simp[u11],by simp[u12],fun k hk=>by rw[Hp.upd_ne _ _ (by omega),frzOf_ne (by omega),frzOf_ne (by omega)];exact hHl k hk,by simp[e1,e2,e3,hHZ],fun k h1 h2=>by rw[Hp.upd_ne _ _ (by omega),frzOf_ne (by omega),frzOf_ne (by omega)];exact hHu k h1 h2,by simp,by simp,by simp,by omega,0,by simp,by omega,by simp⟩
      ·clear u3 u4 u5 u11 u12 u13 hHl hHZ hHu hkd hku hkm h0;rintro u H nz hf ⟨u5,u11,u12,hHl,hHZ,hHu,u55,hkE,u56,hnz,j,u57,hj,hjt⟩;have hw:IntKind.i64.wrap (↑j+1)=((j+1:Nat):Int):=wrapS (by omega);with_reducible refine aR fun K' hK=> ?_
       simp[u56,u57];refine hK _ _ _ ?_;clear K' hK;with_reducible refine aC fun A B hA hB=> ?_
       simp;refine⟨fun hj2=>hA ?_,fun hj2=>hB ?_⟩<;>clear hA hB A B<;>(try simp at hj2)<;>(try with_reducible refine aK ?_)
       ·have hstep:=all_take1 (p:=holdsV t p) hj2;have hdz:=hEz _ (nth_mem hj2);have hfalse:holdsV t p (nth E j)=false→fineV root L t p=false:=fun h=>(by rw[hfine];exact all_false hj2 h);generalize hgd:nth E j=d at*;have h2:H 2=some (.var 29 [rowT Pl.cells t]):=(by rw[hHl 2 (by omega)];exact g2);have hn2:¬2=nz:=(by omega);have e3:¬ny+3=nz:=(by omega);with_reducible refine aw_block ?_;refine aR fun K' hK=> ?_
        simp[u55,u57,hj2,hkE,hgd];refine hK _ _ _ ?_;clear K' hK;with_reducible refine aR fun K' hK=> ?_
        simp[u5,u12,h2,hn2];refine acall_flat (holds30_ok t ht hv p d hdz) rfl (by first | rfl | (simp;done) | (simp;rfl) | (simp;exact⟨rfl,rfl⟩)) ?_;by_cases hd:holdsV t p d=true
        ·simp[hd];refine hK _ _ _ ?_;clear K' hK;with_reducible refine aVk (by simp) ?_;refine aw_skipL ?_
         refine blockK_normal ?_;with_reducible refine aS fun K' hK=> ?_
         simp[u57,hw];refine hK _ _ _ ?_;clear K' hK;refine aw_skipL (loopK_normal ?_ ?_)
         ·exact⟨by simp[u5],by simp[u11],by simp[u12],fun k hk=>by rw[Hp.upd_ne _ _ (by omega),Hp.upd_ne _ _ (by omega)];exact hHl k hk,by rw[Hp.upd_ne _ _ (by omega),Hp.upd_ne _ _ (by omega)];exact hHZ,fun k h1 h2=>by rw[Hp.upd_ne _ _ (by omega),Hp.upd_ne _ _ (by omega)];exact hHu k h1 h2,by simp[u55],by rw[Hp.upd_ne _ _ (by omega),Hp.upd_ne _ _ (by omega)];exact hkE,by simp[u56],by omega,j+1,by simp[hw],by omega,by rw[hstep,hjt,hd];rfl⟩
         ·simp[u57,hw];omega
        ·simp[hd];refine hK _ _ _ ?_;clear K' hK;with_reducible refine aU (by simp) ?_
         have hfine2:fineV root L t p=false:=hfalse (by simpa using hd);have hA2:H A=some (.var 49 [x]):=(by rw[hHl A (by omega)];exact gA);have an:¬A=nz:=(by omega);have an1:¬A=nz+1:=(by omega);have an3:¬A=nz+1+1:=(by omega);have zn:¬Z=nz:=(by omega);have za:¬Z=A:=(by omega);have zn1:¬Z=nz+1:=(by omega);have zn2:¬Z=nz+1+1:=(by omega);rcases hacc with⟨rfl,rfl⟩ | ⟨q,rfl,hq,hZq,hqn,hne⟩
         ·with_reducible refine aA ?_;refine aR fun K' hK=> ?_
          simp[u11,u12,hA2,an,an1,an3,treeOf_row,srcOf_row];refine hK _ _ _ ?_;clear K' hK;with_reducible refine aw_exit ?_
          (repeat first | with_reducible refine blockK_exit ?_ | with_reducible refine blockK_pass (by decide) ?_ | with_reducible refine loopK_exit ?_);refine aw_skipL (roundK_normal (by simp[zn,za,zn1,zn2,hHZ]) ?_);refine k1 _ _ (.row (nz+1+1) 1) (by omega) (fun k hk hkA=>by(repeat rw[Hp.upd_ne _ _ (by omega)]);exact hHl k hk) (by simp) (by simp[aZ]) (.inr ⟨nz+1+1,by simp[hfine2],?_,by omega,by omega,by simp[hfine2]⟩);rw[hfine2,Hp.upd_ne _ _ (by omega),Hp.upd_ne _ _ (by omega),Hp.upd_self];rfl
         ·have hq2:H q=some (.row 3 (flat iC acc)):=(by rw[hHu q hZq hqn];exact hq);have b1:acc.length+1≤9223372036854775807:=(by omega);have b2:(acc.length+1)*8≤140737488355328:=(by omega);have qn:¬q=nz:=(by omega);have qn1:¬q=nz+1:=(by omega);have qZ:¬q=Z:=(by omega);have qA:¬q=A:=(by omega);have Aq:¬A=q:=(by omega);have Zq:¬Z=q:=(by omega);with_reducible refine aA ?_;refine aR fun K' hK=> ?_
          simp[u11,u12,hA2,hq2,an,an1,an3,qn,qn1,qZ,qA,Aq,b1,b2,treeOf_row,srcOf_row];refine hK _ _ _ ?_;clear K' hK;with_reducible refine aw_exit ?_
          (repeat first | with_reducible refine blockK_exit ?_ | with_reducible refine blockK_pass (by decide) ?_ | with_reducible refine loopK_exit ?_);refine aw_skipL (roundK_normal (by simp[zn,za,zn1,zn2,Zq,hHZ]) ?_);refine k1 _ _ (.row (nz+1+1) (acc.length+1)) (by omega) (fun k hk hkA=>by(repeat rw[Hp.upd_ne _ _ (by omega)]);exact hHl k hk) (by simp) (by simp[aZ]) (.inr ⟨nz+1+1,by simp[hfine2],?_,by omega,by omega,by simp[hfine2]⟩);rw[hfine2,Hp.upd_ne _ _ (by omega),Hp.upd_ne _ _ (by omega),Hp.upd_self,if_neg (by simp),←flat_snoc];rfl
       ·skip;with_reducible refine aw_exit ?_
        refine loopK_exit (blockK_exit ?_);have hjE:j=E.length:=(by omega);subst hjE;rw[List.take_length]at hjt;have hfine2:fineV root L t p=true:=(by rw[hfine];exact hjt);with_reducible refine aw_skipL ?_
        refine blockK_normal ?_;refine aw_skipL (roundK_normal hHZ ?_);refine k1 _ _ x (by omega) (fun k hk hkA=>by rw[Hp.upd_ne _ _ (by omega)];exact hHl k hk) (by simp) (by rw[Hp.upd_ne _ _ (by omega),hHl A (by omega)];exact gA) ?_;rw[hfine2,if_pos rfl,List.append_nil];rcases hacc with h | ⟨q,hx,hq,hZq,hqn,hne⟩
        ·exact .inl h
        ·exact .inr ⟨q,hx,by rw[Hp.upd_ne _ _ (by omega),hHu q hZq hqn];exact hq,hZq,by omega,hne⟩
    with_reducible refine aR fun K' hK=> ?_
    simp[gV,vZ,rZ,gR];refine hK _ _ _ ?_;clear K' hK;with_reducible refine aw_toS (aw_block ?_)
    refine aw_loop (fun t' G' ny=>Z<ny∧t' 0=.yl Z∧t' 5=.row R (belowL t 0).length∧t' 6=iV (belowL t 0).length∧G' 0=some (.var 27 root.cells)∧G' 1=some (.var 28 [rowT Man.cells L])∧G' 2=some (.var 29 [rowT Pl.cells t])∧G' R=some (.row 3 (flat iC (belowL t 0)))∧G' Z=some (Lq.o .ready none)∧∃(i:Nat) (x:AV),t' 7=iV i∧i≤(belowL t 0).length∧G' A=some (.var 49 [x])∧AccI G' Z ny x (((belowL t 0).take i).filter fun p=> !fineV root L t p)) (fun s _ _=>match s 7 with | .v (.int _ n)=>(belowL t 0).length-n.toNat | _=>0) ?_ ?_
    ·exact⟨by omega,by simp,by simp,by simp,by simp[oZ0,g0],by simp[oZ1,g1],by simp[oZ2,g2],by simp[rZ,gR],by simp,0,_,by simp,by omega,by simp[aZ,gA],.inl ⟨rfl,by simp⟩⟩
    ·rintro t' G' ny-⟨hZn,u0,u5,u6,h0,h1,h2,hR',hZ',i,x,u7,hi,hA',hacc⟩;have hw:IntKind.i64.wrap (↑i+1)=((i+1:Nat):Int):=wrapS (by omega);with_reducible refine aR fun K' hK=> ?_
     simp[u6,u7];refine hK _ _ _ ?_;clear K' hK;with_reducible refine aC fun A B hA hB=> ?_
     simp;refine⟨fun hi2=>hA ?_,fun hi2=>hB ?_⟩<;>clear hA hB A B<;>(try simp at hi2)<;>(try with_reducible refine aK ?_)
     ·have hst:((belowL t 0).take (i+1)).filter (fun p=> !fineV root L t p)=((belowL t 0).take i).filter (fun p=> !fineV root L t p)++if fineV root L t (nth (belowL t 0) i)=true then[]else[nth (belowL t 0) i]:=by
       rw[List.take_add_one,List.getElem?_eq_getElem hi2,List.filter_append,←nth_eq hi2];congr 1;cases hf2:fineV root L t (nth (belowL t 0) i)<;>simp[hf2]
      with_reducible refine aw_block ?_;refine aR fun K' hK=> ?_
      simp[u5,u7,hi2,hR'];refine hK _ _ _ ?_;clear K' hK;with_reducible refine aR fun K' hK=> ?_
      simp[u0];refine⟨⟨_,_,_,_,_,_,_,hZ'⟩,hround (nth (belowL t 0) i) x _ _ _ _ (Nat.le_trans (List.length_filter_le _ _) (by rw[List.length_take];omega)) hZn h0 h1 h2 hA' hacc hZ' (fun G2 ny2 x' hn2 hG h5' hA2 hacc2=> ?_)⟩;simp;refine hK _ _ _ ?_;clear K' hK;with_reducible refine aVk (by simp) ?_;refine aw_skipL ?_
      refine blockK_normal ?_;with_reducible refine aS fun K' hK=> ?_
      simp[u7,hw];refine hK _ _ _ ?_;clear K' hK;refine aw_skipL (loopK_normal ?_ ?_)
      ·exact⟨by omega,by simp[u0],by simp[u5],by simp[u6],by rw[hG 0 (by omega) (by omega)];exact h0,by rw[hG 1 (by omega) (by omega)];exact h1,by rw[hG 2 (by omega) (by omega)];exact h2,by rw[hG R (by omega) (by omega)];exact hR',h5',i+1,x',by simp[hw],by omega,hA2,by rw[hst];exact hacc2⟩
      ·simp[u7,hw];omega
     ·skip;with_reducible refine aw_exit ?_
      refine loopK_exit (blockK_exit ?_);rw[List.take_of_length_le (by omega)]at hacc;have hacc:AccI G' Z ny x (wrongL root L t):=hacc;refine aw_skipL (rangeK_on (.inl rfl) hZ' ?_);rw[hLs];refine blockK_normal ?_;rcases hacc with⟨rfl,hnil⟩ | ⟨r,rfl,hr,hZr,hrn,hne⟩
      ·have hR1:wrongR root L t=(.tup [.v (.slice none 0 0),iV 0],[]):=(by rw[wrongR,if_pos hc0,if_pos hnil]);rw[hR1];with_reducible refine aR fun K' hK=> ?_
       simp[s11,aZ,hA'];refine hK _ _ _ ?_;clear K' hK;with_reducible refine aw_retL ?_
       simp[blockK,loopK,Post,resA,res1,expT,expA,exp1,expM,expL,okT,okA,ok1,rowOf,Tryz.f35,scopeK]
      ·have hR1:wrongR root L t=(.tup [.row 0 (wrongL root L t).length,iV 0],[(3,flat iC (wrongL root L t))]):=(by rw[wrongR,if_pos hc0,if_neg hne]);rw[hR1];have q1:¬r=Z:=(by omega);with_reducible refine aR fun K' hK=> ?_
       simp[s11,aZ,hA'];refine hK _ _ _ ?_;clear K' hK;with_reducible refine aw_retL ?_
       simp[blockK,loopK,Post,resA,res1,expT,expA,exp1,expM,expL,okT,okA,ok1,rowOf,Tryz.f35,scopeK,q1,hr]
 ·unfold wrongR;split
  ·split<;>rfl
  ·rfl
def validN (root:Man) (L:List Man) (t:List Pl):Bool:=decide (codeV root L t=0)&&decide (wrongL root L t=[])
theorem valid38_ok (root:Man) (L:List Man) (t:List Pl) (h:ValSz root L t):CallsOK Tryz.prog 38 [.agg root.cells,rowT Man.cells L,rowT Pl.cells t] (bV (validN root L t)) []:=by
 have hW:=wrong35_ok root L t h;refine callsOK mixed Tryz.call38 Tryz.func38 rfl (by rw[Tryz.ntmps38];simp) ?_ rfl;rw[Tryz.ntmps38];with_reducible refine aR fun K' hK=> ?_
 simp;refine hK _ _ _ ?_;clear K' hK;by_cases c:codeV root L t=0
 ·by_cases w:wrongL root L t=[]
  ·rw[wrongR,if_pos c,if_pos w]at hW;with_reducible refine aR fun K' hK=> ?_
   simp;refine acall_new hW (by simp) ?_;simp[addJ_nil];refine hK _ _ _ ?_;clear K' hK;with_reducible refine aR fun K' hK=> ?_
   simp;refine hK _ _ _ ?_;clear K' hK;with_reducible refine aw_retL ?_
   simp[blockK,loopK,Post,resA,res1,expT,expA,exp1,expM,expL,okT,okA,ok1,rowOf,Tryz.f38];simp[validN,c,w]
  ·rw[wrongR,if_pos c,if_neg w]at hW;have hl:¬(wrongL root L t).length=0:=fun e=>w (List.eq_nil_of_length_eq_zero e);with_reducible refine aR fun K' hK=> ?_
   simp;refine acall_new hW (by simp) ?_;simp[addJ_one];refine hK _ _ _ ?_;clear K' hK;with_reducible refine aR fun K' hK=> ?_
   simp[hl,w];refine hK _ _ _ ?_;clear K' hK;with_reducible refine aw_retL ?_
   simp[blockK,loopK,Post,resA,res1,expT,expA,exp1,expM,expL,okT,okA,ok1,rowOf,Tryz.f38];simp[validN,c,w]
 ·rw[wrongR,if_neg c]at hW;with_reducible refine aR fun K' hK=> ?_
  simp;refine acall_new hW (by simp) ?_;simp[addJ_one];refine hK _ _ _ ?_;clear K' hK;with_reducible refine aR fun K' hK=> ?_
  simp[c];refine hK _ _ _ ?_;clear K' hK;with_reducible refine aw_retL ?_
  simp[blockK,loopK,Post,resA,res1,expT,expA,exp1,expM,expL,okT,okA,ok1,rowOf,Tryz.f38];simp[validN,c]
set_option maxRecDepth 100000
set_option maxHeartbeats 4000000
def bigI (L:List Man):Bool:=decide (110<L.length) || L.any bigM
theorem big73_ok (L:List Man) (hl:L.length≤9223372036854775807):CallsOK Tryz.prog 73 [rowT Man.cells L] (bV (bigI L)) []:=by
 refine callsOK mixed Tryz.call73 Tryz.func73 rfl (by rw[Tryz.ntmps73];simp) ?_ rfl;rw[Tryz.ntmps73];with_reducible refine aR fun K' hK=> ?_
 simp;refine hK _ _ _ ?_;clear K' hK;with_reducible refine aA ?_;refine aR fun K' hK=> ?_
 simp;refine hK _ _ _ ?_;clear K' hK;with_reducible refine aC fun A B hA hB=> ?_
 simp;refine⟨fun h1=>hA ?_,fun h1=>hB ?_⟩<;>clear hA hB A B<;>(try simp at h1)<;>(try with_reducible refine aK ?_)
 ·with_reducible refine aA ?_;refine aR fun K' hK=> ?_
  simp;refine hK _ _ _ ?_;clear K' hK;with_reducible refine aw_ret ?_
  simp[blockK,loopK,Post,resA,res1,expT,expA,exp1,expM,expL,okT,okA,ok1,rowOf,Tryz.f73];simp[bigI];left;omega
 ·with_reducible refine aA ?_;refine aR fun K' hK=> ?_
  simp;refine hK _ _ _ ?_;clear K' hK;with_reducible refine aw_block ?_
  refine aw_loop (fun s G nx=>s 0=rowT Man.cells L∧∃i:Nat,s 3=iV i∧i≤L.length∧(L.take i).any bigM=false) (fun s _ _=>match s 3 with | .v (.int _ n)=>L.length-n.toNat | _=>0) ?_ ?_
  ·exact⟨by simp,0,by simp,by omega,by simp⟩
  ·rintro s G nx-⟨s0,i,s3,hi,ht⟩;have hw:IntKind.i64.wrap (↑i+1)=((i+1:Nat):Int):=wrapS (by omega);with_reducible refine aA ?_;refine aR fun K' hK=> ?_
   simp[s0,s3];refine hK _ _ _ ?_;clear K' hK;with_reducible refine aC fun A B hA hB=> ?_
   simp;refine⟨fun hi2=>hA ?_,fun hi2=>hB ?_⟩<;>clear hA hB A B<;>(try simp at hi2)<;>(try with_reducible refine aK ?_)
   ·skip;with_reducible refine aw_block ?_;refine aR fun K' hK=> ?_
    simp[s0,s3,hi2];refine acall_flat (big22_ok (nth L i)) rfl (by simp) ?_;simp;refine hK _ _ _ ?_;clear K' hK;by_cases c:bigM (nth L i)=true
    ·skip;with_reducible refine aU (by simp[c]) ?_;refine aA ?_;refine aR fun K' hK=> ?_
     simp;refine hK _ _ _ ?_;clear K' hK;with_reducible refine aw_ret ?_
     simp[blockK,loopK,Post,resA,res1,expT,expA,exp1,expM,expL,okT,okA,ok1,rowOf,Tryz.f73];simp only[bigI,Bool.or_eq_true,List.any_eq_true];exact .inr ⟨_,nth_mem hi2,c⟩
    ·skip;with_reducible refine aVk (by simp[c]) ?_;refine aw_skipL ?_
     refine blockK_normal ?_;with_reducible refine aS fun K' hK=> ?_
     simp[s3,hw];refine hK _ _ _ ?_;clear K' hK;refine aw_skipL (loopK_normal ?_ ?_)
     ·exact⟨by simp[s0],i+1,by simp[hw],by omega,any_take hi2 ht (by simpa using c)⟩
     ·simp[s3,hw];omega
   ·skip;with_reducible refine aw_exit ?_
    refine loopK_exit (blockK_exit ?_);rw[List.take_of_length_le (by omega)]at ht;with_reducible refine aR fun K' hK=> ?_
    simp;refine hK _ _ _ ?_;clear K' hK;with_reducible refine aw_retL ?_
    simp[blockK,loopK,Post,resA,res1,expT,expA,exp1,expM,expL,okT,okA,ok1,rowOf,Tryz.f73];simp only[bigI,ht,Bool.or_false,decide_eq_false_iff_not];omega
def bigW (root:Man) (L:List Man) (t:List Pl):Bool:=bigM root || (bigI L || bigT t)
theorem big21_ok (root:Man) (L:List Man) (t:List Pl) (hl:L.length≤9223372036854775807) (ht:t.length≤9223372036854775807):CallsOK Tryz.prog 21 [.agg root.cells,rowT Man.cells L,rowT Pl.cells t] (bV (bigW root L t)) []:=by
 refine callsOK mixed Tryz.call21 Tryz.func21 rfl (by rw[Tryz.ntmps21];simp) ?_ rfl;rw[Tryz.ntmps21];with_reducible refine aR fun K' hK=> ?_
 simp;refine hK _ _ _ ?_;clear K' hK;with_reducible refine aR fun K' hK=> ?_
 simp;refine acall_flat (big22_ok root) rfl (by simp) ?_;by_cases c1:bigM root=true
 ·simp[c1];refine hK _ _ _ ?_;clear K' hK;with_reducible refine aw_retL ?_
  simp[blockK,loopK,Post,resA,res1,expT,expA,exp1,expM,expL,okT,okA,ok1,rowOf,Tryz.f21];simp[bigW,c1]
 ·simp[c1];refine acall_flat (big73_ok L hl) rfl (by simp) ?_;by_cases c2:bigI L=true
  ·simp[c2];refine hK _ _ _ ?_;clear K' hK;with_reducible refine aw_retL ?_
   simp[blockK,loopK,Post,resA,res1,expT,expA,exp1,expM,expL,okT,okA,ok1,rowOf,Tryz.f21];simp[bigW,c2]
  ·simp[c2];refine acall_flat (big30_ok t ht) rfl (by simp) ?_;simp;refine hK _ _ _ ?_;clear K' hK;with_reducible refine aw_retL ?_
   simp[blockK,loopK,Post,resA,res1,expT,expA,exp1,expM,expL,okT,okA,ok1,rowOf,Tryz.f21];simp[bigW,c1,c2]
set_option maxRecDepth 100000
theorem op3:Opens Tryz.prog (fun _:Int=>True) (fun n=>[iV n]) 3:=(opens_int (k:=.i64) (by kernel_rfl)).map id (fun _ _=>trivial) fun _=>rfl
theorem op85:Opens Tryz.prog (fun _:Int=>True) (fun n=>[iV n]) 85:=(opens_int (k:=.i64) (by kernel_rfl)).map id (fun _ _=>trivial) fun _=>rfl
theorem op30:Opens Tryz.prog (fun _:Int=>True) (fun n=>[iV n]) 30:=(opens_int (k:=.i64) (by kernel_rfl)).map id (fun _ _=>trivial) fun _=>rfl
theorem op9:Opens Tryz.prog (fun s:Bs=>s.size≤maxLen) (fun n=>[sV n]) 9:=(opens_string (by kernel_rfl)).map id (fun _ h=>h) fun _=>rfl
theorem op23:Opens Tryz.prog (fun v:Ver=>v.pre.size≤maxLen) Ver.cells 23:=
 (opens_struct (opensF_cons 1 op3 (opensF_cons 1 op3 (opensF_cons 1 op3 (opensF_cons 1 op9 (opensF_nil (n:=4)) (by kernel_rfl)) (by kernel_rfl)) (by kernel_rfl)) (by kernel_rfl)) (by kernel_rfl) (by kernel_rfl)).map
  (fun x=>⟨x.1,x.2.1,x.2.2.1,x.2.2.2.1⟩) (fun _ h=>h.2.2.2.1) fun _=>rfl
theorem op58:Opens Tryz.prog (fun _=>True) Pl.cells 58:=
 (opens_struct (opensF_cons 1 op3 (opensF_cons 1 op9 (opensF_cons 4 op23 (opensF_nil (n:=6)) (by kernel_rfl)) (by kernel_rfl)) (by kernel_rfl)) (by kernel_rfl) (by kernel_rfl)).map
  (fun x=>⟨x.1,x.2.1,x.2.2.1⟩) (fun _ _=>trivial) fun _=>rfl
theorem op29:Opens Tryz.prog (fun l:List Pl=>l.length≤maxLen) (fun l:List Pl=>[rowT Pl.cells l]) 29:=(opens_slice op58 (by kernel_rfl) (by kernel_rfl)).map id (fun _ h=>h.1) fun _=>rfl
theorem op87:Opens Tryz.prog (fun _=>True) Bd.cells 87:=
 (opens_struct (opensF_cons 1 op85 (opensF_cons 4 op23 (opensF_nil (n:=5)) (by kernel_rfl)) (by kernel_rfl)) (by kernel_rfl) (by kernel_rfl)).map
  (fun x=>⟨x.1,x.2.1⟩) (fun _ _=>trivial) fun _=>rfl
theorem op83:Opens Tryz.prog (fun l:Alt=>l.length≤maxLen) Alt.cells 83:=(opens_slice op87 (by kernel_rfl) (by kernel_rfl)).map id (fun _ h=>h.1) fun _=>rfl
def Rg.okO (r:Rg):Prop:=r.length≤maxLen∧∀l∈r,l.length≤maxLen
theorem op31:Opens Tryz.prog Rg.okO Rg.cells 31:=(opens_slice op83 (by kernel_rfl) (by kernel_rfl)).map id (fun _ h=>h) fun _=>rfl
theorem op33:Opens Tryz.prog Rg.okO Rg.cells 33:=
 (opens_struct (opensF_cons 1 op31 (opensF_nil (n:=1)) (by kernel_rfl)) (by kernel_rfl) (by kernel_rfl)).map (fun x=>x.1) (fun _ h=>h.1) fun x=>by simp[Rg.cells]
def Dep.okO (d:Dep):Prop:=d.name.size≤maxLen∧Rg.okO d.range
theorem op35:Opens Tryz.prog Dep.okO Dep.cells 35:=
 (opens_struct (opensF_cons 1 op30 (opensF_cons 1 op9 (opensF_cons 1 op33 (opensF_nil (n:=3)) (by kernel_rfl)) (by kernel_rfl)) (by kernel_rfl)) (by kernel_rfl) (by kernel_rfl)).map
  (fun x=>⟨x.1,x.2.1,x.2.2.1⟩) (fun _ h=>⟨h.2.1,h.2.2.1⟩) fun _=>rfl
def Ru.okO (d:Ru):Prop:=d.name.size≤maxLen∧Rg.okO d.range
theorem op96:Opens Tryz.prog Ru.okO Ru.cells 96:=
 (opens_struct (opensF_cons 1 op9 (opensF_cons 1 op33 (opensF_nil (n:=2)) (by kernel_rfl)) (by kernel_rfl)) (by kernel_rfl) (by kernel_rfl)).map
  (fun x=>⟨x.1,x.2.1⟩) (fun _ h=>⟨h.1,h.2.1⟩) fun _=>rfl
theorem op24:Opens Tryz.prog (fun l:List Dep=>l.length≤maxLen∧∀d∈l,Dep.okO d) (fun l:List Dep=>[rowT Dep.cells l]) 24:=(opens_slice op35 (by kernel_rfl) (by kernel_rfl)).map id (fun _ h=>h) fun _=>rfl
theorem op25:Opens Tryz.prog (fun l:List Ru=>l.length≤maxLen∧∀d∈l,Ru.okO d) (fun l:List Ru=>[rowT Ru.cells l]) 25:=(opens_slice op96 (by kernel_rfl) (by kernel_rfl)).map id (fun _ h=>h) fun _=>rfl
theorem op27:Opens Tryz.prog (fun _:Man=>True) Man.cells 27:=
 (opens_struct (opensF_cons 1 op9 (opensF_cons 4 op23 (opensF_cons 1 op24 (opensF_cons 1 op25 (opensF_nil (n:=7)) (by kernel_rfl)) (by kernel_rfl)) (by kernel_rfl)) (by kernel_rfl)) (by kernel_rfl) (by kernel_rfl)).map
  (fun x=>⟨x.1,x.2.1,x.2.2.1,x.2.2.2.1⟩) (fun _ _=>trivial) fun _=>rfl
theorem op28:Opens Tryz.prog (fun l:List Man=>l.length≤maxLen) (fun l:List Man=>[rowT Man.cells l]) 28:=(opens_slice op27 (by kernel_rfl) (by kernel_rfl)).map id (fun _ h=>h.1) fun _=>rfl
set_option maxRecDepth 100000
theorem two_of {α:Type} :∀ {l:List α},l.length=2→∃a b,l=[a,b]
 | [a,b],_=>⟨a,b,rfl⟩
theorem five_of {α:Type} :∀ {l:List α},l.length=5→∃a b c d e,l=[a,b,c,d,e]
 | [a,b,c,d,e],_=>⟨a,b,c,d,e,rfl⟩
theorem ten_of {α:Type} :∀ {l:List α},l.length=10→∃a b c d e f g h i j,l=[a,b,c,d,e,f,g,h,i,j]
 | [a,b,c,d,e,f,g,h,i,j],_=>⟨a,b,c,d,e,f,g,h,i,j,rfl⟩
theorem pair212 {enc:TypeId×Value→Unit} {w:World} {base fuel:Nat} {sp:Nat→Bool} {held:Bool} {cs:List Value} {x:DataW Unit×List MemPlace} {n:Int} {b:List UInt8}
  (h:DataW.trod enc Tryz.prog w base sp held fuel 212 cs=some x) (hx:x.1=.agg [.lit (.int .i64 n),.lit (.string b)]):cs=[.int .i64 n,.string (ofL b)]:=by
 have hu:∃fs:Array Field,Tryz.prog.underlying 212=some (.struct fs)∧fs.size=2∧(fs[0]?.map fun f=>(f.type,f.offset))=some (85,0)∧(fs[1]?.map fun f=>(f.type,f.offset))=some (9,1):=by
  have hk:(match Tryz.prog.underlying 212 with | some (.struct fs)=>fs.size==2&&((fs[0]?.map fun f=>(f.type,f.offset))==some (85,0)&&(fs[1]?.map fun f=>(f.type,f.offset))==some (9,1)) | _=>false)=true:=(by kernel_rfl);split at hk
  ·rename_i fs hf;simp only[Bool.and_eq_true,beq_iff_eq]at hk;exact⟨fs,hf,hk.1,hk.2.1,hk.2.2⟩
  ·cases hk
 obtain⟨fs,hf,h2,f0,f1⟩:=hu;obtain⟨xs,m,rfl,rfl,hl,hxl,hat⟩:=DataW.trod_struct hf h;obtain⟨g0,hg0,e0⟩:=Option.map_eq_some_iff.1 f0;obtain⟨g1,hg1,e1⟩:=Option.map_eq_some_iff.1 f1;injection e0 with e00 e01;injection e1 with e10 e11;have a0:=hat 0 g0 hg0;have a1:=hat 1 g1 hg1;rw[e00,e01]at a0;rw[e10,e11]at a1;have c85:Tryz.prog.cellsOf 85=1:=(by kernel_rfl);have c9:Tryz.prog.cellsOf 9=1:=(by kernel_rfl);have c212:Tryz.prog.cellsOf 212=2:=(by kernel_rfl);have u85:Tryz.prog.underlying 85=some (.int .i64):=(by kernel_rfl);have u9:Tryz.prog.underlying 9=some .string:=(by kernel_rfl);rw[c85]at a0;rw[c9]at a1;rw[c212]at hl;injection hx with hx;rw[h2]at hxl;obtain⟨x0,x1,rfl⟩:=two_of hxl;obtain⟨p,q,rfl⟩:=two_of hl;simp at a0 a1 hx;obtain⟨k,hc0,hx0,_⟩:=DataW.trod_int u85 a0;obtain⟨s,hc1,hx1,_⟩:=DataW.trod_string u9 a1;subst hx0;subst hx1;simp at hc0 hc1 hx;subst hc0;subst hc1;obtain⟨rfl,h3⟩:=hx;rw[←h3];simp[ofL]
theorem signs_cells {enc:TypeId×Value→Unit} {w:World} {base fuel:Nat} {sp:Nat→Bool} {held:Bool} {cs:List Value} {p:List MemPlace}
  (h:DataW.trod enc Tryz.prog w base sp held fuel 213 cs=some (Proofs.YtgipehooceecpaaGreatDoor.Rows.laid_hogget_span_signs,p)):cs=signsV:=by
 have u213:Tryz.prog.underlying 213=some (.array 5 212):=(by kernel_rfl);have c212:Tryz.prog.cellsOf 212=2:=(by kernel_rfl);have c213:Tryz.prog.cellsOf 213=10:=(by kernel_rfl);obtain⟨xs,m,rfl,hx,hl,hxl,hat⟩:=DataW.trod_array u213 h;rw[c212]at hat;rw[c213]at hl;have hx1:=congrArg Prod.fst hx;simp only at hx1;unfold Proofs.YtgipehooceecpaaGreatDoor.Rows.laid_hogget_span_signs at hx1;injection hx1 with hx1;obtain⟨x0,x1,x2,x3,x4,rfl⟩:=five_of hxl;obtain⟨d0,d1,d2,d3,d4,d5,d6,d7,d8,d9,rfl⟩:=ten_of hl;simp at hx1;obtain⟨y0,y1,y2,y3,y4⟩:=hx1;have b0:=pair212 (hat 0 (by omega)) y0.symm;have b1:=pair212 (hat 1 (by omega)) y1.symm;have b2:=pair212 (hat 2 (by omega)) y2.symm;have b3:=pair212 (hat 3 (by omega)) y3.symm;have b4:=pair212 (hat 4 (by omega)) y4.symm;simp at b0 b1 b2 b3 b4;simp[signsV,b0,b1,b2,b3,b4,ofL]
set_option maxRecDepth 100000
theorem maxLen_le {n:Nat} (h:n≤maxLen):n≤9223372036854775807:=h
def laidL:List (String×DataW Unit):=Proofs.YtgipehooceecpaaGreatDoor.Rows.validAloneRow.laid
theorem var_ext {w w':World} (h:ExtC (fun _=>False) w w') {n:String} {cs:Array Value} (hv:w.var? Tryz.prog n=some cs):w'.var? Tryz.prog n=some cs:=by
 unfold World.var? at hv⊢;cases hg:Tryz.prog.globalNamed n with
 | none=>rw[hg]at hv;cases hv
 | some g=>
  rw[hg]at hv;simp only[Option.bind_some]at hv⊢;cases ho:w.heap[g]? with
  | none=>rw[ho]at hv;cases hv
  | some o=>
   rw[ho]at hv;cases o<;>simp at hv;subst hv;rw[h.same g _ ho rfl (fun h=>h)]
theorem cell_ext {w w':World} (h:ExtC (fun _=>False) w w') {a:Addr} {v:Value} (hv:w.cell? a=some v):w'.cell? a=some v:=by
 unfold World.cell? at hv⊢;cases ho:w.heap[a.block]? with
 | none=>rw[ho]at hv;cases hv
 | some o=>
  rw[ho]at hv;cases o<;>simp at hv;rw[h.same a.block _ ho rfl (fun h=>h)];simpa using hv
theorem gl_ext {w w':World} (h:ExtC (fun _=>False) w w') (hg:Gl.ok Tryz.prog w):Gl.ok Tryz.prog w':=by
 obtain⟨h1,⟨a,b,h2⟩,⟨c,d,h3⟩,⟨m,h4⟩,h5⟩:=hg;exact⟨var_ext h h1,⟨a,b,var_ext h h2⟩,⟨c,d,var_ext h h3⟩,⟨m,cell_ext h h4⟩,fun i v hv=>cell_ext h (h5 i v hv)⟩
theorem star: "*"++ "errors.errorString"= "*errors.errorString":=by decide
theorem row287 (u:TypeId) (h:Tryz.prog.typeName? 3 u=some "*errors.errorString"):u=287:=
 typeName_ptr_named (nm:= "errors.errorString") (by rw[star];kernel_rfl) (by kernel_rfl) (by decide) u (by rw[star];exact h)
theorem und223:∃ms,Tryz.prog.underlying 223=some (.interface ms):=by
 have h:(Tryz.prog.underlying 223).any (fun | .interface _=>true | _=>false)=true:=(by kernel_rfl);cases hu:Tryz.prog.underlying 223 with
 | none=>rw[hu]at h;cases h
 | some x=>rw[hu]at h;cases x<;>first | exact⟨_,rfl⟩ | cases h
theorem gl_of {W:World} (hL:laidMetH Tryz.prog laidL W) (hsh:W.ShapedOpen Tryz.prog):Gl.ok Tryz.prog W:=by
 rw[MakeChecks.laidMetH_plain _ _ _ (by kernel_rfl)]at hL;have h3:=hL.tail.tail;have h5:=h3.tail.tail;have h6:=h5.tail;have h7:=h6.tail;obtain⟨ms,hi⟩:=und223;obtain⟨a5,s5,v5,_⟩:=laid_sentinel h5 (g:=6) (ti:=223) (tp:=287) (te:=289) (ts:=9) (by kernel_rfl) (by kernel_rfl) hi row287 (by kernel_rfl) Tryz.underlying289 rfl rfl (by kernel_rfl) (by kernel_rfl) (by kernel_rfl);obtain⟨a6,s6,v6,_⟩:=laid_sentinel h6 (g:=5) (ti:=223) (tp:=287) (te:=289) (ts:=9) (by kernel_rfl) (by kernel_rfl) hi row287 (by kernel_rfl) Tryz.underlying289 rfl rfl (by kernel_rfl) (by kernel_rfl) (by kernel_rfl);refine⟨?_,⟨_,_,v6⟩,⟨_,_,v5⟩,?_,?_⟩
 ·exact Lib.tabIs_of_head (g:=2) (t:=260) (e:=210) (n:=20) (by kernel_rfl) (by kernel_rfl) (by kernel_rfl) (by kernel_rfl) (by kernel_rfl) (by kernel_rfl) h3
 ·exact cell_of_shapedOpen_int (t:=3) (zero:= #[.int .i64 0]) hsh (of_decide_eq_true (by kernel_rfl)) (by kernel_rfl) rfl (by kernel_rfl) (by kernel_rfl) (by kernel_rfl)
 ·have hg0:Tryz.prog.globalNamed "hogget/span.signs"=some 0:=(by kernel_rfl);have hty:(Tryz.prog.globals[0]?).map (·.type)=some 213:=(by kernel_rfl);obtain⟨ps,⟨g',t',cs,fuel,p,q,hg',ht',hvar,hd,_,_⟩,_⟩:=h7;obtain rfl:=Option.some.inj (hg0.symm.trans hg');obtain rfl:=Option.some.inj (hty.symm.trans ht');have hcs:=signs_cells hd;intro i v hv;rw[World.var?_cell hg0 hvar i];have:cs[i]? =cs.toList[i]? :=(by simp);rw[this,hcs];exact hv
def litsOf:DataW Unit→List Value
 | .agg l=>l.filterMap fun | .lit (.int k n)=>some (.int k n) | _=>none
 | _=>[]
def lits2Of:DataW Unit→List Value
 | .agg l=>l.flatMap litsOf
 | _=>[]
noncomputable def low:Nat:=(World.holding Tryz.prog default ⟨#[], #[],[]⟩).heap.size
noncomputable def laidWorld (os:Os):World:=
 let w0:=World.holding Tryz.prog os ⟨#[.cells #[.string ⟨#[118,97,108,117,101,32,111,117,116,32,111,102,32,114,97,110,103,101]⟩] 289,.cells #[.string ⟨#[105,110,118,97,108,105,100,32,115,121,110,116,97,120]⟩] 289], #[],[]⟩
 let put (h:Array Obj) (g:Nat) (cs:List Value):Array Obj:=h.modify g fun
  | .cells _ t frozen=> .cells cs.toArray t frozen
  | o=>o
 let h0:=put w0.heap 0 signsV
 let h1:=put h0 2 (litsOf Proofs.YtgipehooceecpaaGreatDoor.Rows.laid_internal_strconv_uint64pow10)
 let h2:=put h1 3 (litsOf Proofs.YtgipehooceecpaaGreatDoor.Rows.laid_unicode_utf8_first)
 let h3:=put h2 4 (lits2Of Proofs.YtgipehooceecpaaGreatDoor.Rows.laid_unicode_utf8_acceptRanges)
 let h4:=put h3 5 [.iface 287 (.pointer (some ⟨low+1,0,none⟩))]
 let h5:=put h4 6 [.iface 287 (.pointer (some ⟨low,0,none⟩))]
 let h6:=put h5 7 (litsOf Proofs.YtgipehooceecpaaGreatDoor.Rows.laid_math_bits_deBruijn32tab)
 let h7:=put h6 8 (litsOf Proofs.YtgipehooceecpaaGreatDoor.Rows.laid_math_bits_deBruijn64tab)
 {w0 with heap:=h7}
theorem laid_met (os:Os) (args:Array Value):laidMet Tryz.prog laidL ((laidWorld os).forCall (fun _ _=>0) ⟨#[],args,[]⟩).memory:=
 laidMet_of_run' 8 (by kernel_rfl) (by kernel_rfl)
set_option maxRecDepth 100000
set_option maxHeartbeats 400000
structure Cmp {α:Type} (f:α→α→Int):Prop where
 anti:∀a b,f b a= -f a b
 trans:∀a b c,f a b<0→f b c<0→f a c<0
 cong:∀a b c,f a b=0→f b c=f a c
def lexN {α:Type} (f g:α→α→Int) (a b:α):Int:=if f a b=0 then g a b else f a b
theorem Cmp.on {α β:Type} {f:α→α→Int} (hf:Cmp f) (k:β→α):Cmp (fun a b=>f (k a) (k b)):=
 ⟨fun a b=>hf.anti _ _,fun a b c=>hf.trans _ _ _,fun a b c=>hf.cong _ _ _⟩
theorem cmpI_anti (a b:Int):cmpI b a= -cmpI a b:=by
 unfold cmpI;rcases Int.lt_trichotomy a b with h | h | h
 ·rw[if_neg (by omega),if_pos h,if_pos h];rfl
 ·subst h;simp
 ·rw[if_pos h,if_neg (by omega),if_pos h]
theorem cmpI_neg {a b:Int} :cmpI a b<0↔a<b:=by
 unfold cmpI;rcases Int.lt_trichotomy a b with h | h | h
 ·rw[if_pos h];exact⟨fun _=>h,fun _=>by decide⟩
 ·rw[if_neg (by omega),if_neg (by omega)];exact⟨fun h=>by omega,fun h=>by omega⟩
 ·rw[if_neg (by omega),if_pos h];exact⟨fun h=>by omega,fun h=>by omega⟩
theorem cmpI_zero {a b:Int} :cmpI a b=0↔a=b:=by
 unfold cmpI;rcases Int.lt_trichotomy a b with h | h | h
 ·rw[if_pos h];exact⟨fun h=>by omega,fun h=>by omega⟩
 ·rw[if_neg (by omega),if_neg (by omega)];exact⟨fun _=>h,fun _=>rfl⟩
 ·rw[if_neg (by omega),if_pos h];exact⟨fun h=>by omega,fun h=>by omega⟩
theorem cmpB_neg {a b:Bs} :cmpB a b<0↔ltB a b=true:=by
 unfold cmpB;by_cases h:ltB a b=true
 ·rw[if_pos h];exact⟨fun _=>h,fun _=>by decide⟩
 ·rw[if_neg h];split
  ·exact⟨fun h=>by omega,fun e=>absurd e h⟩
  ·exact⟨fun h=>by omega,fun e=>absurd e h⟩
def clsP (a:Bs):Int:=if numP (bsL a)=true then 0 else 1
def numK (a:Bs):Int:=if numP (bsL a)=true then atoiN (bsL a)else 0
def txtK (a:Bs):Bs:=if numP (bsL a)=true then⟨#[]⟩else a
def lastP (a:Bs):Int:=if a=⟨#[]⟩then 1 else 0
def rowsP (a:Bs):List Bs:=if a=⟨#[]⟩then[]else strs (spl (bsL a))
def verL:Ver→Ver→Int:=lexN (fun a b=>cmpI a.maj b.maj) (lexN (fun a b=>cmpI a.min b.min) (lexN (fun a b=>cmpI a.pat b.pat) (lexN (fun a b=>cmpI (lastP a.pre) (lastP b.pre)) (fun a b=>rowsN (rowsP a.pre) (rowsP b.pre)))))
def manL:Man→Man→Int:=lexN (fun a b=>cmpB a.name b.name) (fun a b=>verL a.ver b.ver)
theorem bigR_sz {r:Rg} (h:bigR r=false):r.length≤20∧(∀l∈r,l.length≤20∧∀b∈l,b.ver.pre.size≤300):=by
 simp only[bigR,Bool.or_eq_false_iff,decide_eq_false_iff_not,List.any_eq_false]at h;refine⟨by omega,fun l hl=> ?_⟩;have h2:bigA l=false:=(by simpa using h.2 l hl);simp only[bigA,Bool.or_eq_false_iff,decide_eq_false_iff_not,List.any_eq_false]at h2;exact⟨by omega,fun b hb=>by
  have h3:bigB b=false:=(by simpa using h2.2 b hb);simp only[bigB,decide_eq_false_iff_not]at h3;omega⟩
theorem bigR_rsz {r:Rg} (h:bigR r=false):Rg.sz r:=by
 obtain⟨h1,h2⟩:=bigR_sz h;exact⟨by omega,fun l hl=>⟨by have:=(h2 l hl).1;omega,fun b hb=>by have:=(h2 l hl).2 b hb;omega⟩⟩
theorem bigM_dsz {m:Man} (h:bigM m=false):m.name.size≤300∧m.ver.pre.size≤300∧(m.deps.length≤40∧∀d∈m.deps,d.name.size≤300∧bigR d.range=false)∧(m.rules.length≤40∧∀d∈m.rules,d.name.size≤300∧bigR d.range=false):=by
 simp only[bigM,Bool.or_eq_false_iff,decide_eq_false_iff_not,List.any_eq_false]at h;obtain⟨⟨⟨⟨⟨h1,h2⟩,h3⟩,h4⟩,h5⟩,h6⟩:=h;refine⟨by omega,by omega,⟨by omega,fun d hd=> ?_⟩,by omega,fun d hd=> ?_⟩
 ·have:=h5 d hd;simp only[bigD,Bool.or_eq_true,decide_eq_true_eq,not_or,Bool.not_eq_true]at this;exact⟨by omega,this.2⟩
 ·have:=h6 d hd;simp only[bigU,Bool.or_eq_true,decide_eq_true_eq,not_or,Bool.not_eq_true]at this;exact⟨by omega,this.2⟩
theorem bigM_sz {m:Man} (h:bigM m=false):Man.sz m:=by
 obtain⟨h1,h2,⟨h3,h4⟩,h5,h6⟩:=bigM_dsz h;exact⟨by omega,by omega,⟨by omega,fun d hd=>⟨by have:=(h4 d hd).1;omega,bigR_rsz (h4 d hd).2⟩⟩,by omega,fun d hd=>⟨by have:=(h6 d hd).1;omega,bigR_rsz (h6 d hd).2⟩⟩
theorem bigT_len {t:List Pl} (h:bigT t=false):t.length≤210∧(t.length≤40∨200<t.length)∧∀p∈t,p.name.size≤300∧p.ver.pre.size≤300:=by
 simp only[bigT,Bool.or_eq_false_iff,decide_eq_false_iff_not,List.any_eq_false]at h;refine⟨by omega,by omega,fun p hp=> ?_⟩;have:=h.2 p hp;simp only[bigP,bigV,Bool.or_eq_true,decide_eq_true_eq,not_or]at this;exact⟨by omega,by omega⟩
theorem bigT_ok {t:List Pl} (h:bigT t=false):OKs t:=by
 obtain⟨h1,_,h3⟩:=bigT_len h;exact⟨by omega,fun p hp=>by have:=h3 p hp;omega⟩
theorem bigI_sz {L:List Man} (h:bigI L=false):L.length≤110∧∀m∈L,bigM m=false:=by
 simp only[bigI,Bool.or_eq_false_iff,decide_eq_false_iff_not,List.any_eq_false]at h;exact⟨by omega,fun m hm=>by simpa using h.2 m hm⟩
set_option maxRecDepth 100000
set_option maxHeartbeats 400000
theorem bigM_okS {m:Man} (h:bigM m=false):Man.okS m:=by
 obtain⟨h1,h2,⟨h3,h4⟩,h5,h6⟩:=bigM_dsz h;refine⟨⟨by omega,fun d hd=> ?_⟩,by omega,fun d hd=> ?_⟩
 ·obtain⟨a,b⟩:=h4 d hd;obtain⟨c,e⟩:=bigR_sz b;exact⟨by omega,by omega,fun l hl=>by have:=(e l hl).1;omega⟩
 ·obtain⟨a,b⟩:=h6 d hd;obtain⟨c,e⟩:=bigR_sz b;exact⟨by omega,fun l hl=>by have:=(e l hl).1;omega⟩
theorem bigW_sz {root:Man} {L:List Man} {t:List Pl} (h:bigW root L t=false):bigM root=false∧bigI L=false∧bigT t=false:=by
 simpa [bigW]using h
theorem valSz_of {root:Man} {L:List Man} {t:List Pl} (h1:bigM root=false) (h2:bigI L=false) (h3:bigT t=false):ValSz root L t:=by
 obtain⟨a,b⟩:=bigI_sz h2;obtain⟨c,_,d⟩:=bigT_len h3;exact⟨bigM_sz h1,bigM_okS h1,⟨by omega,fun m hm=>bigM_sz (b m hm)⟩,fun m hm=>bigM_okS (b m hm),bigT_ok h3,fun p hp=>by have:=d p hp;omega⟩
theorem codeV_zero {root:Man} {L:List Man} {t:List Pl} :codeV root L t=0↔manCheck root true=0∧idxCheck L=0∧checkN t=0:=by
 simp only[codeV,valCodes,orN];constructor
 ·intro h;split at h
  ·split at h
   ·split at h
    ·exact⟨by assumption,by assumption,by assumption⟩
    ·exact absurd h (by assumption)
   ·exact absurd h (by assumption)
  ·exact absurd h (by assumption)
 ·rintro⟨h1,h2,h3⟩;rw[if_pos h1,if_pos h2,if_pos h3]
def namedT (t:List Pl) (m:Man):Bool:=t.any fun p=>decide (p.name=m.name)
theorem below_all {t:List Pl} {n:Nat} (g:Good t) (hn:n<t.length):(n:Int)∈belowL t 0:=by
 have h:=below_mem (i:=0) g (by omega) hn;have hu:underF t n 0=true:=by
  have:∀(m:Nat) (j:Nat),j<m→j<t.length→underF t j 0=true:=by
   intro m;induction m with
   | zero=>exact fun j h=>by omega
   | succ m ih=>
    intro j hj hl;unfold underF;rw[up_step g.dn hl];by_cases h0:j=0
    ·subst h0;simp
    ·obtain⟨p0,p1⟩:=g.par j (by omega) hl;rw[if_neg (by omega)];have:=ih (parN t j).toNat (by omega) (by omega);unfold underF at this;rw[List.any_cons,this,Bool.or_true]
  exact this _ n (Nat.lt_succ_self n) hn
 obtain⟨x,hx,hxe⟩:=List.any_eq_true.1 (h.trans hu);simp only[decide_eq_true_eq]at hxe;rw[←hxe];exact hx
theorem wrong_mem {root:Man} {L:List Man} {t:List Pl} {n:Nat} (g:Good t) (hn:n<t.length):((wrongL root L t).any fun x=>decide (x=(n:Int)))= !fineV root L t n:=by
 rw[Bool.eq_iff_iff,List.any_eq_true];constructor
 ·rintro⟨x,hx,he⟩;simp only[decide_eq_true_eq]at he;subst he;exact(List.mem_filter.1 hx).2
 ·intro h;exact⟨n,List.mem_filter.2 ⟨below_all g hn,h⟩,by simp⟩
set_option maxRecDepth 100000
set_option maxHeartbeats 400000
def keptQ (q:Nat→Bool) (k:Nat):List Nat:=(List.range k).filter q
def rkQ (q:Nat→Bool) (j:Nat):Nat:=(keptQ q j).length
def renQ (q:Nat→Bool) (n:Int):Int:=if n<0 then n else rkQ q n.toNat
def keepP (t:List Pl) (q:Nat→Bool) (j:Nat):Pl:= {nth t j with par:=renQ q (parN t j)}
def keepT (t:List Pl) (q:Nat→Bool) (k:Nat):List Pl:=(keptQ q k).map (keepP t q)
structure Clo (t:List Pl) (q:Nat→Bool):Prop where
 zero:q 0=true
 par:∀j,1≤j→j<t.length→q j=true→q (parN t j).toNat=true
section
variable {q:Nat→Bool}
theorem rq_zero:rkQ q 0=0:=rfl
theorem kq_succ {k:Nat} :keptQ q (k+1)=keptQ q k++if q k=true then[k]else[]:=by
 unfold keptQ;rw[List.range_succ,List.filter_append];congr 1;cases h:q k<;>simp[h]
theorem rq_succ {k:Nat} :rkQ q (k+1)=rkQ q k+if q k=true then 1 else 0:=by
 unfold rkQ;rw[kq_succ,List.length_append];split<;>rfl
theorem rq_add {a:Nat} :∀d:Nat,rkQ q a≤rkQ q (a+d)∧rkQ q (a+d)≤rkQ q a+d
 | 0=>⟨Nat.le_refl _,Nat.le_refl _⟩
 | d+1=>by
  have:=rq_add (a:=a) d;rw[←Nat.add_assoc,rq_succ];split<;>omega
theorem rq_mono {j k:Nat} (h:j≤k):rkQ q j≤rkQ q k:=by
 have:=(rq_add (q:=q) (a:=j) (k-j)).1
 rwa [Nat.add_sub_cancel' h]at this
theorem rq_lt {j k:Nat} (hu:q j=true) (h:j<k):rkQ q j<rkQ q k:=by
 have h1:=rq_mono (q:=q) (j:=j+1) (k:=k) (by omega);rw[rq_succ,hu]at h1;simp at h1;omega
theorem kq_get:∀(m:Nat) {j:Nat},j<m→q j=true→(keptQ q m)[rkQ q j]? =some j
 | 0,j,h,_=>by omega
 | m+1,j,h,hu=>by
  rw[kq_succ];rcases Nat.lt_or_ge j m with h1 | h1
  ·rw[List.getElem?_append_left (rq_lt hu h1)];exact kq_get m h1 hu
  ·have:j=m:=(by omega);subst this;rw[if_pos hu,List.getElem?_append_right (show(keptQ q j).length≤rkQ q j from Nat.le_refl _)];simp[rkQ]
theorem kq_inv:∀(m:Nat) {x:Nat},x<rkQ q m→∃j,j<m∧q j=true∧rkQ q j=x
 | 0,x,h=>by simp[rq_zero]at h
 | m+1,x,h=>by
  by_cases h1:x<rkQ q m
  ·obtain⟨j,a,b,c⟩:=kq_inv m h1;exact⟨j,by omega,b,c⟩
  ·rw[rq_succ]at h;by_cases hu:q m=true
   ·rw[if_pos hu]at h;exact⟨m,by omega,hu,by omega⟩
   ·rw[if_neg hu]at h;omega
end
section
variable {t:List Pl} {q:Nat→Bool}
theorem keep_len {m:Nat} :(keepT t q m).length=rkQ q m:=by simp[keepT,rkQ]
theorem keep_get {m j:Nat} (h:j<m) (hu:q j=true):nth (keepT t q m) (rkQ q j)=keepP t q j:=by
 have hl:rkQ q j<(keepT t q m).length:=(by rw[keep_len];exact rq_lt hu h);rw[nth_eq hl];have h1:=kq_get m h hu;have h2:(keepT t q m)[rkQ q j]? =some (keepP t q j):=by
  unfold keepT;rw[List.getElem?_map,h1];rfl
 rw[List.getElem?_eq_getElem hl]at h2;injection h2
theorem renq_nn {n:Int} (h:0≤n):renQ q n=rkQ q n.toNat:=by
 unfold renQ;rw[if_neg (by omega)]
end
set_option linter.unusedSectionVars false
section
variable {t:List Pl} {q:Nat→Bool} (g:Good t) (c:Clo t q)
include g c
theorem keep_par {j:Nat} (hj:j<t.length) (hu:q j=true) (hj1:1≤j):parN (keepT t q t.length) (rkQ q j)=rkQ q (parN t j).toNat:=by
 show(nth (keepT t q t.length) (rkQ q j)).par=_;rw[keep_get hj hu];exact renq_nn (g.par j hj1 hj).1
theorem keep_root:nth (keepT t q t.length) 0=rootP:=by
 have:=keep_get (t:=t) (q:=q) g.pos c.zero;rw[rq_zero]at this;rw[this];unfold keepP;rw[g.root,root_par g.root];rfl
theorem keep_inv {x:Nat} (hx:1≤x) (hl:x<(keepT t q t.length).length):∃j,1≤j∧j<t.length∧q j=true∧rkQ q j=x:=by
 rw[keep_len]at hl;obtain⟨j,hj,hu,rfl⟩:=kq_inv _ hl;refine⟨j,?_,hj,hu,rfl⟩;rcases Nat.eq_zero_or_pos j with rfl | h
 ·rw[rq_zero]at hx;omega
 ·exact h
theorem keep_pars:∀x,1≤x→x<(keepT t q t.length).length→0≤parN (keepT t q t.length) x∧parN (keepT t q t.length) x<x:=by
 intro x hx hl;obtain⟨j,hj1,hj,hu,rfl⟩:=keep_inv g c hx hl;rw[keep_par g c hj hu hj1];have hp:=g.par j hj1 hj;have:=rq_lt (c.par j hj1 hj hu) (k:=j) (by omega);omega
theorem keep_dn:Dn (keepT t q t.length):=dn_of (root_par (keep_root g c)) (keep_pars g c)
theorem rq_in {j:Nat} (hj:j<t.length) (hu:q j=true):rkQ q j<(keepT t q t.length).length:=by rw[keep_len];exact rq_lt hu hj
theorem up_keep:∀(m:Nat) {j:Nat},j<m→j<t.length→q j=true→upN (keepT t q t.length) (rkQ q j)=(upN t j).map (rkQ q)
 | 0,j,h,_,_=>by omega
 | m+1,j,h,hj,hu=>by
  have hl:=rq_in g c hj hu;rcases Nat.eq_zero_or_pos j with rfl | hj1
  ·rw[up_zero (root_par g.root),rq_zero,up_zero (root_par (keep_root g c))];rfl
  ·have hp:=g.par j hj1 hj;rw[up_step (keep_dn g c) hl,up_step g.dn hj,keep_par g c hj hu hj1,if_neg (by omega),if_neg (by omega),List.map_cons,Int.toNat_natCast];rw[up_keep m (by omega) (by omega) (c.par j hj1 hj hu)]
end
set_option maxRecDepth 100000
set_option maxHeartbeats 400000
def edgesV (root:Man) (L:List Man) (t:List Pl) (n:Nat):List Dep:=match manVal root L t n with
 | none=>[]
 | some m=>ofF m.deps root.rules (decide ((n:Int)=0))
inductive Rch (root:Man) (L:List Man) (t:List Pl):Nat→Prop
 | zero:Rch root L t 0
 | par {n:Nat} :Rch root L t n→0≤parN t n→Rch root L t (parN t n).toNat
 | edge {n k:Nat} {d:Dep} :Rch root L t n→d∈edgesV root L t n→toN t n d=k→Rch root L t k
open Classical in
noncomputable def rchB (root:Man) (L:List Man) (t:List Pl) (n:Nat):Bool:=decide (Rch root L t n)
noncomputable def reachL (root:Man) (L:List Man) (t:List Pl):List Int:=if codeV root L t=0 then(keptQ (rchB root L t) t.length).map fun(n:Nat)=>(n:Int)else[]
noncomputable def pruneT (root:Man) (L:List Man) (t:List Pl):List Pl:=if codeV root L t=0 then keepT t (rchB root L t) t.length else[]
section
variable {root:Man} {L:List Man} {t:List Pl} {q:Nat→Bool} (g:Good t) (c:Clo t q)
include g c
end
section
variable {root:Man} {L:List Man} {t:List Pl} (g:Good t)
include g
end
theorem valid_iff {root:Man} {L:List Man} {t:List Pl} :validN root L t=true↔codeV root L t=0∧∀n,n<t.length→fineV root L t n=true:=by
 simp only[validN,Bool.and_eq_true,decide_eq_true_eq];constructor
 ·rintro⟨h1,h2⟩;refine⟨h1,fun n hn=> ?_⟩;have g:=check_iff.1 (codeV_zero.1 h1).2.2;have:=wrong_mem (root:=root) (L:=L) g hn;rw[h2]at this;simpa using this.symm
 ·rintro⟨h1,h2⟩;refine⟨h1,?_⟩;have g:=check_iff.1 (codeV_zero.1 h1).2.2;unfold wrongL;rw[List.filter_eq_nil_iff];intro x hx;have:∃n:Nat,n<t.length∧x=n:=by
   unfold belowL at hx;split at hx
   ·unfold belowK at hx;obtain⟨n,hn,rfl⟩:=List.mem_map.1 hx;exact⟨n,List.mem_range.1 (List.mem_filter.1 hn).1,rfl⟩
   ·cases hx
  obtain⟨n,hn,rfl⟩:=this;simp[h2 n hn]
set_option maxRecDepth 100000
set_option maxHeartbeats 400000
def qL (l:List Int) (n:Nat):Bool:=decide ((n:Int)∈l)
def keepAt (t:List Pl) (l:List Int) (n:Int):Bool:=decide (0≤n∧n<t.length)&&decide (parN t n.toNat= -1∨parN t n.toNat∈l)
def keepOk (t:List Pl) (l:List Int):Bool:=l.all (keepAt t l)&&decide ((0:Int)∈l)
def keepCode (t:List Pl) (l:List Int):Int:=if checkN t≠0 then checkN t else if keepOk t l=true then 0 else 151
def keepR (t:List Pl) (l:List Int):List Pl:=if keepCode t l=0 then keepT t (qL l) t.length else[]
section
variable {root:Man} {L:List Man} {t:List Pl} {q:Nat→Bool} (g:Good t) (c:Clo t q) (hq:∀j,Rch root L t j→q j=true)
include g c hq
end
set_option maxRecDepth 100000
set_option maxHeartbeats 400000
def gpN (t:List Pl) (n:Nat):Int:=parN t (parN t n).toNat
def twinP (t:List Pl) (n:Nat) (p:Pl):Bool:=decide (p.par=gpN t n∧p.name=(nth t n).name)
def liftCode (t:List Pl) (n:Int):Int:=if checkN t≠0 then checkN t else if¬(1≤n∧n<t.length)then 151 else if parN t n.toNat=0 then 151 else if t.any (twinP t n.toNat)=true then 152 else 0
def liftP (t:List Pl) (n:Nat):Pl:= {nth t n with par:=gpN t n}
def liftT (t:List Pl) (n:Nat):List Pl:=t.set n (liftP t n)
def liftR (t:List Pl) (n:Int):List Pl:=if liftCode t n=0 then liftT t n.toNat else[]
structure Lift (t:List Pl) (n:Nat):Prop where
 good:Good t
 one:1≤n
 lt:n<t.length
 par:1≤parN t n
 two:∀k,k<t.length→parN t k=gpN t n→(nth t k).name=(nth t n).name→False
theorem lift_iff {t:List Pl} {n:Int} :liftCode t n=0↔0≤n∧Lift t n.toNat:=by
 unfold liftCode;constructor
 ·intro h;split at h
  ·rename_i h1;exact absurd h h1
  rename_i h1;split at h
  ·cases h
  rename_i h2;split at h
  ·cases h
  rename_i h3;split at h
  ·cases h
  rename_i h4;have g:=check_iff.1 (Decidable.not_not.1 h1);have h2:=Decidable.not_not.1 h2;have hp:=g.par n.toNat (by omega) (by omega);refine⟨by omega,g,by omega,by omega,by omega,fun k hk e1 e2=>h4 ?_⟩;rw[List.any_eq_true];exact⟨nth t k,nth_mem hk,by simp only[twinP,decide_eq_true_eq];exact⟨e1,e2⟩⟩
 ·rintro⟨h0,h⟩;have hp:=h.par;have hl:=h.lt;have ho:=h.one;rw[if_neg (by rw[check_iff.2 h.good];simp),if_neg (by omega),if_neg (by omega),if_neg];intro h4;obtain⟨p,hp,he⟩:=List.any_eq_true.1 h4;obtain⟨k,hk,rfl⟩:=List.mem_iff_getElem.1 hp;simp only[twinP,decide_eq_true_eq]at he;refine h.two k hk ?_ ?_
  ·rw[←he.1];unfold parN;rw[nth_eq hk]
  ·rw[←he.2,nth_eq hk]
theorem lift_len {t:List Pl} {n:Nat} :(liftT t n).length=t.length:=by simp[liftT]
set_option linter.unusedSectionVars false
section
variable {t:List Pl} {n:Nat} (h:Lift t n)
include h
theorem lift_nth {j:Nat} :nth (liftT t n) j=if j=n then liftP t n else nth t j:=nth_setG h.lt
theorem lift_name {j:Nat} :(nth (liftT t n) j).name=(nth t j).name∧(nth (liftT t n) j).ver=(nth t j).ver:=by
 rw[lift_nth h];split
 ·rename_i e;subst e;exact⟨rfl,rfl⟩
 ·exact⟨rfl,rfl⟩
theorem lift_par {j:Nat} :parN (liftT t n) j=if j=n then gpN t n else parN t j:=by
 unfold parN;rw[lift_nth h];split<;>rfl
theorem gp_lt:0≤gpN t n∧gpN t n<parN t n:=by
 have hl:=h.lt;have p1:=h.good.par n h.one h.lt;have hp:=h.par;have p2:=h.good.par (parN t n).toNat (by omega) (by omega);unfold gpN;omega
theorem lift_root:nth (liftT t n) 0=rootP:=by
 have:=h.one;rw[lift_nth h,if_neg (by omega)];exact h.good.root
theorem lift_pars:∀j,1≤j→j<(liftT t n).length→0≤parN (liftT t n) j∧parN (liftT t n) j<j:=by
 intro j hj hl;rw[lift_len]at hl;rw[lift_par h];split
 ·rename_i e;subst e;have p1:=h.good.par j hj hl;have:=gp_lt h;omega
 ·exact h.good.par j hj hl
theorem lift_dn:Dn (liftT t n):=dn_of (root_par (lift_root h)) (lift_pars h)
theorem lift_up:∀(m:Nat) {j:Nat},j<m→j<t.length→(upN (liftT t n) j).length+(if underF t j n=true then 1 else 0)=(upN t j).length∧∀x∈upN (liftT t n) j,x∈upN t j
 | 0,j,hm,_=>by omega
 | m+1,j,hm,hj=>by
  have hj2:j<(liftT t n).length:=(by rw[lift_len];exact hj);have g:=h.good;have hd:=g.dn j hj;have ih:= @lift_up m;rw[up_step (lift_dn h) hj2,up_step g.dn hj,lift_par h,under_step g.dn hj];by_cases e:j=n
  ·subst e;have p1:=g.par j h.one hj;have hp:=h.par;have hg:=gp_lt h;have hq:(parN t j).toNat<t.length:=(by omega);have a1:¬gpN t j<0:=(by omega);have a2:¬parN t j<0:=(by omega);rw[if_pos rfl,if_neg a1,if_neg a2];have hn:underF t (gpN t j).toNat j=false:=by
    cases hu:underF t (gpN t j).toNat j with
    | false=>rfl
    | true=>have:=under_ge g (by omega) hu;omega
   obtain⟨a,b⟩:=ih (j:=(gpN t j).toNat) (by omega) (by omega);rw[hn]at a;have hs:upN t (parN t j).toNat=(parN t j).toNat::upN t (gpN t j).toNat:=by
    rw[up_step g.dn hq];have:parN t (parN t j).toNat=gpN t j:=rfl;rw[this,if_neg (by omega)]
   rw[hs];refine⟨by simp at a⊢;omega,fun x hx=> ?_⟩;rcases List.mem_cons.1 hx with rfl | hx
   ·simp
   ·have:=b x hx;simp[this]
  ·rw[if_neg e];by_cases h0:parN t j<0
   ·simp[h0];omega
   ·rw[if_neg h0,if_neg h0];obtain⟨a,b⟩:=ih (j:=(parN t j).toNat) (by omega) (by omega);have e':¬(j:Int)=n:=(by omega);refine⟨?_,fun x hx=> ?_⟩
    ·simp[e',h0]at a⊢;omega
    ·rcases List.mem_cons.1 hx with rfl | hx
     ·simp
     ·exact List.mem_cons_of_mem _ (b x hx)
end
def mT (t:List Pl):Nat:=((List.range t.length).map fun j=>(upN t j).length).sum
theorem sum_le {f k:Nat→Nat} :∀(l:List Nat),(∀j∈l,f j≤k j)→(l.map f).sum≤(l.map k).sum
 | [],_=>Nat.le_refl _
 | a::l,h=>by
  have:=sum_le l fun j hj=>h j (by simp[hj]);have:=h a (by simp);simp;omega
theorem sum_lt {f k:Nat→Nat} :∀(l:List Nat) {x:Nat},(∀j∈l,f j≤k j)→x∈l→f x<k x→(l.map f).sum<(l.map k).sum
 | [],x,_,hx,_=>by cases hx
 | a::l,x,h,hx,hlt=>by
  have h1:=h a (by simp);rcases List.mem_cons.1 hx with rfl | hx
  ·have:=sum_le l fun j hj=>h j (by simp[hj]);simp;omega
  ·have:=sum_lt l (fun j hj=>h j (by simp[hj])) hx hlt;simp;omega
theorem lift_less {t:List Pl} {n:Nat} (h:Lift t n):mT (liftT t n)<mT t:=by
 unfold mT;rw[lift_len];refine sum_lt _ (fun j hj=> ?_) (List.mem_range.2 h.lt) ?_
 ·have:=(lift_up h _ (Nat.lt_succ_self j) (List.mem_range.1 hj)).1;omega
 ·have:=(lift_up h _ (Nat.lt_succ_self n) h.lt).1;rw[under_self h.good h.lt]at this;simp at this;omega
theorem sum_filter {f:Nat→Nat} (q:Nat→Bool):∀(l:List Nat),((l.filter q).map f).sum=(l.map fun j=>if q j=true then f j else 0).sum
 | []=>rfl
 | a::l=>by
  have:=sum_filter (f:=f) q l;rw[List.filter_cons];cases h:q a<;>simp[this,h]
theorem keep_sum {t:List Pl} {q:Nat→Bool} (g:Good t) (c:Clo t q):mT (keepT t q t.length)=((keptQ q t.length).map fun j=>(upN t j).length).sum:=by
 have hlen:(keepT t q t.length).length=rkQ q t.length:=keep_len;unfold mT;rw[hlen];have e:(List.range (rkQ q t.length)).map (fun x=>(upN (keepT t q t.length) x).length)=(keptQ q t.length).map fun j=>(upN t j).length:=by
  refine List.ext_getElem (by simp[rkQ]) fun x ha hb=> ?_;rw[List.length_map,List.length_range]at ha;obtain⟨j,hj,hu,rfl⟩:=kq_inv _ ha;rw[List.getElem_map,List.getElem_range,List.getElem_map,up_keep g c _ (Nat.lt_succ_self j) hj hu,List.length_map];have h1:=kq_get t.length hj hu;rw[List.getElem?_eq_getElem (by simpa [rkQ]using ha)]at h1;injection h1 with h1;rw[h1]
 rw[e]
theorem keep_less {t:List Pl} {q:Nat→Bool} (g:Good t) (c:Clo t q) {n:Nat} (hn:n<t.length) (hu:q n=false):mT (keepT t q t.length)<mT t:=by
 rw[keep_sum g c];unfold keptQ mT;rw[sum_filter];refine sum_lt _ (fun j _=>by split<;>omega) (List.mem_range.2 hn) ?_;rw[hu];have:=up_pos (t:=t) (i:=n);simp;omega
theorem cut_keep {t:List Pl} {n:Int} (h:cutCode t n=0):cutR t n=keepT t (fun j=> !underF t j n) t.length∧Clo t (fun j=> !underF t j n):=by
 obtain⟨g,h1,h2⟩:=cutCode_inv h;refine⟨by unfold cutR;rw[if_pos h];rfl,by simp[under_root g h1],fun j hj1 hj hu=> ?_⟩;simp only[Bool.not_eq_true']at hu⊢;exact under_par g hj hj1 hu
theorem cut_less {t:List Pl} {n:Int} (h:cutCode t n=0):mT (cutR t n)<mT t:=by
 obtain⟨g,h1,h2⟩:=cutCode_inv h;obtain⟨e,c⟩:=cut_keep h;have hn:((n.toNat:Nat):Int)=n:=(by omega);rw[e];refine keep_less g c (n:=n.toNat) (by omega) ?_;have:=under_self g (j:=n.toNat) (by omega);rw[hn]at this;simp[this]
def cutsV (root:Man) (L:List Man) (t:List Pl) (n:Nat):Bool:=decide (cutCode t n=0)&&validN root L (cutR t n)
def liftsV (root:Man) (L:List Man) (t:List Pl) (n:Nat):Bool:=decide (liftCode t n=0)&&validN root L (liftR t n)
def firstN (k:Nat) (p:Nat→Bool):Option Nat:=(List.range k).find? p
def dedS (root:Man) (L:List Man) (t:List Pl):Option (List Pl):=match firstN t.length (cutsV root L t)with
 | some n=>some (cutR t n)
 | none=>match firstN t.length (liftsV root L t)with
  | some n=>some (liftR t n)
  | none=>none
def dedF (root:Man) (L:List Man):Nat→List Pl→List Pl
 | 0,t=>t
 | k+1,t=>match dedS root L t with
  | none=>t
  | some u=>dedF root L k u
def dedT (root:Man) (L:List Man) (t:List Pl):List Pl:=dedF root L (mT t) t
theorem firstN_some {k:Nat} {p:Nat→Bool} {n:Nat} (h:firstN k p=some n):n<k∧p n=true:=
 ⟨List.mem_range.1 (List.mem_of_find?_eq_some h),List.find?_some h⟩
theorem dedS_some {root:Man} {L:List Man} {t u:List Pl} (h:dedS root L t=some u):validN root L u=true∧mT u<mT t:=by
 unfold dedS at h;split at h
 ·rename_i n h1;injection h with h;subst h;have:=(firstN_some h1).2;simp only[cutsV,Bool.and_eq_true,decide_eq_true_eq]at this;exact⟨this.2,cut_less this.1⟩
 ·split at h
  ·rename_i n h1;injection h with h;subst h;have:=(firstN_some h1).2;simp only[liftsV,Bool.and_eq_true,decide_eq_true_eq]at this;refine⟨this.2,?_⟩;have hl:=(lift_iff.1 this.1).2;unfold liftR;rw[if_pos this.1];exact lift_less hl
  ·cases h
theorem dedF_more {root:Man} {L:List Man} :∀(k:Nat) {t:List Pl},mT t≤k→dedF root L k t=dedF root L (mT t) t
 | 0,t,h=>by rw[Nat.le_zero.1 h]
 | k+1,t,h=>by
  cases hd:dedS root L t with
  | none=>
   have a:∀m,dedF root L m t=t:=fun m=>by
    cases m with
    | zero=>rfl
    | succ m=>rw[dedF,hd]
   rw[a,a]
  | some u=>
   obtain⟨_,hl⟩:=dedS_some hd;obtain⟨m,hm⟩:∃m,mT t=m+1:=⟨mT t-1,by omega⟩;rw[hm,dedF,hd,dedF,hd];show dedF root L k u=dedF root L m u;rw[dedF_more k (by omega),←dedF_more m (t:=u) (by omega)]
 termination_by k=>k
theorem dedT_some {root:Man} {L:List Man} {t u:List Pl} (h:dedS root L t=some u):dedT root L t=dedT root L u:=by
 obtain⟨_,hl⟩:=dedS_some h;unfold dedT;obtain⟨m,hm⟩:∃m,mT t=m+1:=⟨mT t-1,by omega⟩;rw[hm,dedF,h];exact dedF_more m (by omega)
theorem dedT_none {root:Man} {L:List Man} {t:List Pl} (h:dedS root L t=none):dedT root L t=t:=by
 unfold dedT;cases mT t with
 | zero=>rfl
 | succ m=>rw[dedF,h]
def dedCode (root:Man) (L:List Man) (t:List Pl):Int:=if codeV root L t≠0 then codeV root L t else if wrongL root L t=[]then 0 else 1
def dedR (root:Man) (L:List Man) (t:List Pl):List Pl:=if dedCode root L t=0 then dedT root L t else[]
theorem dedCode_zero {root:Man} {L:List Man} {t:List Pl} :dedCode root L t=0↔validN root L t=true:=by
 unfold dedCode;simp only[validN,Bool.and_eq_true,decide_eq_true_eq];constructor
 ·intro h;split at h
  ·rename_i h1;exact absurd h h1
  ·rename_i h1;split at h
   ·rename_i h2;exact⟨Decidable.not_not.1 h1,h2⟩
   ·cases h
 ·rintro⟨h1,h2⟩;rw[if_neg (by simp[h1]),if_pos h2]
set_option maxRecDepth 100000
set_option maxHeartbeats 400000
section
variable {t:List Pl} {n:Nat} (h:Lift t n)
include h
end
set_option maxRecDepth 100000
set_option maxHeartbeats 4000000
def twinQ (q p:Pl):Bool:=decide (p.par=q.par∧p.name=q.name)
theorem twin113_ok (p q:Pl):CallsOK Tryz.prog 113 [.agg p.cells,.cp q.cells 0] (bV (twinQ q p)) []:=by
 refine callsOK mixed Tryz.call113 Tryz.func113 rfl (by rw[Tryz.ntmps113];simp) ?_ rfl;rw[Tryz.ntmps113];(repeat with_reducible refine aA ?_);(first | with_reducible refine aR fun K' hK=> ?_ | with_reducible refine aS fun K' hK=> ?_);simp;(first | refine hK _ _ _ ?_ | done);clear K' hK;by_cases h:p.par=q.par
 ·(repeat with_reducible refine aA ?_);(first | with_reducible refine aR fun K' hK=> ?_ | with_reducible refine aS fun K' hK=> ?_);simp[h];(first | refine hK _ _ _ ?_ | done);clear K' hK;(repeat with_reducible refine aA ?_);(first | with_reducible refine aw_ret ?_ | with_reducible refine aw_retL ?_ | with_reducible refine aw_skipL ?_);simp[blockK,loopK,Post,resA,res1,expT,expA,exp1,expM,expL,okT,okA,ok1,rowOf,Tryz.f113,twinQ,h]
 ·(repeat with_reducible refine aA ?_);(first | with_reducible refine aR fun K' hK=> ?_ | with_reducible refine aS fun K' hK=> ?_);simp[h];(first | refine hK _ _ _ ?_ | done);clear K' hK;(repeat with_reducible refine aA ?_);(first | with_reducible refine aw_ret ?_ | with_reducible refine aw_retL ?_ | with_reducible refine aw_skipL ?_);simp[blockK,loopK,Post,resA,res1,expT,expA,exp1,expM,expL,okT,okA,ok1,rowOf,Tryz.f113,twinQ,h]
theorem indexT_ok (t:List Pl) (q:Pl) (hl:t.length<4611686018427387904):CallsOK Tryz.prog 166 [rowT Pl.cells t,.fn 113 [.cp q.cells 0]] (iV (atI (t.findIdx? (twinQ q)))) []:=by
 refine callsOK mixed Tryz.call166 Tryz.func166 rfl (by rw[Tryz.ntmps166];simp) ?_ rfl;rw[Tryz.ntmps166];have tw:∀p,CallsOK Tryz.prog 113 [.agg p.cells,.cp q.cells 0] (bV (twinQ q p)) []:=fun p=>twin113_ok p q;generalize twinQ q=f at*;(repeat with_reducible refine aA ?_);(first | with_reducible refine aR fun K' hK=> ?_ | with_reducible refine aS fun K' hK=> ?_);simp;(first | refine hK _ _ _ ?_ | done);clear K' hK;(repeat with_reducible refine aA ?_);(first | with_reducible refine aR fun K' hK=> ?_ | with_reducible refine aS fun K' hK=> ?_);simp;(first | refine hK _ _ _ ?_ | done);clear K' hK;(repeat with_reducible refine aA ?_);(first | with_reducible refine aw_block ?_ | with_reducible refine aw_toS (aw_block ?_));refine aw_loop (fun s G nx=>s 0=rowT Pl.cells t∧s 1=.fn 113 [.cp q.cells 0]∧s 7=iV t.length∧∃i:Nat,s 8=iV i∧i≤t.length∧∀j,j<i→f (nth t j)=false) (fun s _ _=>match s 8 with | .v (.int _ n)=>t.length-n.toNat | _=>0) ?_ ?_
 ·exact⟨by simp,by simp,by simp,0,by simp,by omega,fun j h=>by omega⟩
 ·rintro s G nx-⟨s0,s1,s7,i,s8,hi,hno⟩;have hw:IntKind.i64.wrap (↑i+1)=((i+1:Nat):Int):=wrapS (by omega);(repeat with_reducible refine aA ?_);(first | with_reducible refine aR fun K' hK=> ?_ | with_reducible refine aS fun K' hK=> ?_);simp[s7,s8];(first | refine hK _ _ _ ?_ | done);clear K' hK;(repeat with_reducible refine aA ?_);(first | with_reducible refine aC fun A B hA hB=> ?_ | with_reducible refine aD fun A B hA hB=> ?_);simp;refine⟨fun hi2=>hA ?_,fun hi2=>hB ?_⟩<;>clear hA hB A B<;>(try simp at hi2)<;>(try with_reducible refine aK ?_)
  ·(repeat with_reducible refine aA ?_);(first | with_reducible refine aw_block ?_ | with_reducible refine aw_toS (aw_block ?_));(repeat with_reducible refine aA ?_);(first | with_reducible refine aR fun K' hK=> ?_ | with_reducible refine aS fun K' hK=> ?_);simp[s8];(first | refine hK _ _ _ ?_ | done);clear K' hK;(repeat with_reducible refine aA ?_);(first | with_reducible refine aR fun K' hK=> ?_ | with_reducible refine aS fun K' hK=> ?_);simp[s0,s1,hi2];refine acall_flat (tw (nth t i)) rfl (by first | rfl | (simp;done) | (simp;rfl) | (simp;exact⟨rfl,rfl⟩)) ?_;simp;(first | refine hK _ _ _ ?_ | done);clear K' hK;(repeat with_reducible refine aA ?_);(first | with_reducible refine aC fun A B hA hB=> ?_ | with_reducible refine aD fun A B hA hB=> ?_);simp;refine⟨fun hc=>hA ?_,fun hc=>hB ?_⟩<;>clear hA hB A B<;>(try simp at hc)<;>(try with_reducible refine aK ?_)
   ·(repeat with_reducible refine aA ?_);(first | with_reducible refine aR fun K' hK=> ?_ | with_reducible refine aS fun K' hK=> ?_);simp;(first | refine hK _ _ _ ?_ | done);clear K' hK;(repeat with_reducible refine aA ?_);(first | with_reducible refine aw_ret ?_ | with_reducible refine aw_retL ?_ | with_reducible refine aw_skipL ?_);simp[blockK,loopK,Post,resA,res1,expT,expA,exp1,expM,expL,okT,okA,ok1,rowOf,Tryz.f166];have:t.findIdx? f=some i:=by
     rw[List.findIdx?_eq_some_iff_getElem];refine⟨hi2,by rw[←nth_eq hi2];exact hc,fun j hj=> ?_⟩;rw[←nth_eq (by omega)];simpa using hno j hj
    simp[this,atI]
   ·(first | with_reducible refine aw_skipL ?_ | skip);refine blockK_normal ?_;(repeat with_reducible refine aA ?_);(first | with_reducible refine aR fun K' hK=> ?_ | with_reducible refine aS fun K' hK=> ?_);simp[s8,hw];(first | refine hK _ _ _ ?_ | done);clear K' hK;refine aw_skipL (loopK_normal ?_ ?_)
    ·refine⟨by simp[s0],by simp[s1],by simp[s7],i+1,by simp[hw],by omega,fun j hj=> ?_⟩;rcases Nat.lt_or_ge j i with h1 | h1
     ·exact hno j h1
     ·have:j=i:=(by omega);subst this;exact hc
    ·simp[s8,hw];omega
  ·(repeat with_reducible refine aA ?_);(first | with_reducible refine aw_exit ?_ | with_reducible refine aw_exitL ?_);refine loopK_exit (blockK_exit ?_);(repeat with_reducible refine aA ?_);(first | with_reducible refine aR fun K' hK=> ?_ | with_reducible refine aS fun K' hK=> ?_);simp;(first | refine hK _ _ _ ?_ | done);clear K' hK;(repeat with_reducible refine aA ?_);(first | with_reducible refine aw_ret ?_ | with_reducible refine aw_retL ?_ | with_reducible refine aw_skipL ?_);simp[blockK,loopK,Post,resA,res1,expT,expA,exp1,expM,expL,okT,okA,ok1,rowOf,Tryz.f166];have:t.findIdx? f=none:=by
    rw[List.findIdx?_eq_none_iff];intro d hd;obtain⟨j,hj,rfl⟩:=List.mem_iff_getElem.1 hd;rw[←nth_eq hj];exact hno j (by omega)
   simp[this,atI]
theorem has112_ok (t:List Pl) (q:Pl) (hl:t.length<4611686018427387904):CallsOK Tryz.prog 112 [rowT Pl.cells t,.fn 113 [.cp q.cells 0]] (bV (t.any (twinQ q))) []:=by
 refine callsOK mixed Tryz.call112 Tryz.func112 rfl (by rw[Tryz.ntmps112];simp) ?_ rfl;rw[Tryz.ntmps112];(repeat with_reducible refine aA ?_);(first | with_reducible refine aR fun K' hK=> ?_ | with_reducible refine aS fun K' hK=> ?_);simp;(first | refine hK _ _ _ ?_ | done);clear K' hK;(repeat with_reducible refine aA ?_);(first | with_reducible refine aR fun K' hK=> ?_ | with_reducible refine aS fun K' hK=> ?_);simp;refine acall_flat (indexT_ok t q hl) rfl (by first | rfl | (simp;done) | (simp;rfl) | (simp;exact⟨rfl,rfl⟩)) ?_;simp;(first | refine hK _ _ _ ?_ | done);clear K' hK;(repeat with_reducible refine aA ?_);(first | with_reducible refine aw_ret ?_ | with_reducible refine aw_retL ?_ | with_reducible refine aw_skipL ?_);simp[blockK,loopK,Post,resA,res1,expT,expA,exp1,expM,expL,okT,okA,ok1,rowOf,Tryz.f112];cases hf:t.findIdx? (twinQ q)with
 | none=>
  rw[List.findIdx?_eq_none_iff]at hf;have:t.any (twinQ q)=false:=List.any_eq_false.2 fun p hp=>(by simp[hf p hp]);simp[atI,this]
 | some i=>
  rw[List.findIdx?_eq_some_iff_getElem]at hf;obtain⟨hi,h,_⟩:=hf;have:t.any (twinQ q)=true:=List.any_eq_true.2 ⟨_,List.getElem_mem hi,h⟩;simp[atI,this]
theorem lift59_ok (t:List Pl) (ht:OKs t) (n:Int):CallsOK Tryz.prog 59 [rowT Pl.cells t,iV n] (.tup [.row 0 (liftR t n).length,iV (liftCode t n)]) [(58,flat Pl.cells (liftR t n))]:=by
 refine callsOK mixed Tryz.call59 Tryz.func59 rfl (by rw[Tryz.ntmps59];simp) ?_ rfl;rw[Tryz.ntmps59];have htl:=ht.1;(repeat with_reducible refine aA ?_);(first | with_reducible refine aR fun K' hK=> ?_ | with_reducible refine aS fun K' hK=> ?_);simp;(first | refine hK _ _ _ ?_ | done);clear K' hK;(repeat with_reducible refine aA ?_);(first | with_reducible refine aR fun K' hK=> ?_ | with_reducible refine aS fun K' hK=> ?_);simp;refine acall_flat (check18_ok t ht) rfl (by simp) ?_;simp;(first | refine hK _ _ _ ?_ | done);clear K' hK;by_cases c0:checkN t=0
 ·have g:Good t:=check_iff.1 c0;(repeat with_reducible refine aA ?_);(first | with_reducible refine aR fun K' hK=> ?_ | with_reducible refine aS fun K' hK=> ?_);simp[c0];(first | refine hK _ _ _ ?_ | done);clear K' hK;repeat with_reducible refine aA ?_
  (first | with_reducible refine aC fun A B hA hB=> ?_ | with_reducible refine aD fun A B hA hB=> ?_)
  simp[c0];refine⟨fun hc=>hA ?_,fun hc=>hB ?_⟩<;>clear hA hB A B<;>(try (simp at hc;done))<;>(try (exfalso;simp at hc;omega))<;>clear hc<;>(try with_reducible refine aK ?_);have bad:∀z:Int,z≠0→liftCode t n=z→∃x,x=x∧liftCode t n=z∧liftR t n=[]:=fun z hz h=>⟨z,rfl,h,by unfold liftR;rw[if_neg (by rw[h];exact hz)]⟩;by_cases n1:n<1
  ·obtain⟨_,_,e1,e2⟩:=bad 151 (by decide) (by unfold liftCode;rw[if_neg (by simp[c0]),if_pos (by omega)]);(repeat with_reducible refine aA ?_);(first | with_reducible refine aR fun K' hK=> ?_ | with_reducible refine aS fun K' hK=> ?_);simp[n1];(first | refine hK _ _ _ ?_ | done);clear K' hK;repeat with_reducible refine aA ?_
   (first | with_reducible refine aC fun A B hA hB=> ?_ | with_reducible refine aD fun A B hA hB=> ?_)
   simp;refine⟨fun hc=>hA ?_,fun hc=>hB ?_⟩<;>clear hA hB A B<;>(try (simp at hc;done))<;>(try (exfalso;simp at hc;omega))<;>clear hc<;>(try with_reducible refine aK ?_);(repeat with_reducible refine aA ?_);(first | with_reducible refine aR fun K' hK=> ?_ | with_reducible refine aS fun K' hK=> ?_);simp;(first | refine hK _ _ _ ?_ | done);clear K' hK;(repeat with_reducible refine aA ?_);(first | with_reducible refine aw_ret ?_ | with_reducible refine aw_retL ?_ | with_reducible refine aw_skipL ?_);simp[blockK,loopK,Post,resA,res1,expT,expA,exp1,expM,expL,okT,okA,ok1,rowOf,Tryz.f59];rw[e1,e2];exact⟨[1],⟨⟨rfl,rfl⟩,rfl⟩,rfl⟩
  by_cases n2:(t.length:Int)≤n
  ·obtain⟨_,_,e1,e2⟩:=bad 151 (by decide) (by unfold liftCode;rw[if_neg (by simp[c0]),if_pos (by omega)]);(repeat with_reducible refine aA ?_);(first | with_reducible refine aR fun K' hK=> ?_ | with_reducible refine aS fun K' hK=> ?_);simp[n1,n2];(first | refine hK _ _ _ ?_ | done);clear K' hK;repeat with_reducible refine aA ?_
   (first | with_reducible refine aC fun A B hA hB=> ?_ | with_reducible refine aD fun A B hA hB=> ?_)
   simp;refine⟨fun hc=>hA ?_,fun hc=>hB ?_⟩<;>clear hA hB A B<;>(try (simp at hc;done))<;>(try (exfalso;simp at hc;omega))<;>clear hc<;>(try with_reducible refine aK ?_);(repeat with_reducible refine aA ?_);(first | with_reducible refine aR fun K' hK=> ?_ | with_reducible refine aS fun K' hK=> ?_);simp;(first | refine hK _ _ _ ?_ | done);clear K' hK;(repeat with_reducible refine aA ?_);(first | with_reducible refine aw_ret ?_ | with_reducible refine aw_retL ?_ | with_reducible refine aw_skipL ?_);simp[blockK,loopK,Post,resA,res1,expT,expA,exp1,expM,expL,okT,okA,ok1,rowOf,Tryz.f59];rw[e1,e2];exact⟨[1],⟨⟨rfl,rfl⟩,rfl⟩,rfl⟩
  have n3:n.toNat<t.length:=(by omega);have n4:0≤n:=(by omega);have n5:n<t.length:=(by omega);have hp1:=g.par n.toNat (by omega) n3;have hpe:(nth t n.toNat).par=parN t n.toNat:=rfl;by_cases n6:parN t n.toNat=0
  ·obtain⟨_,_,e1,e2⟩:=bad 151 (by decide) (by unfold liftCode;rw[if_neg (by simp[c0]),if_neg (by omega),if_pos n6]);(repeat with_reducible refine aA ?_);(first | with_reducible refine aR fun K' hK=> ?_ | with_reducible refine aS fun K' hK=> ?_);simp[n1,n2,n3,n4,n5,hpe,n6];(first | refine hK _ _ _ ?_ | done);clear K' hK;repeat with_reducible refine aA ?_
   (first | with_reducible refine aC fun A B hA hB=> ?_ | with_reducible refine aD fun A B hA hB=> ?_)
   simp;refine⟨fun hc=>hA ?_,fun hc=>hB ?_⟩<;>clear hA hB A B<;>(try (simp at hc;done))<;>(try (exfalso;simp at hc;omega))<;>clear hc<;>(try with_reducible refine aK ?_);(repeat with_reducible refine aA ?_);(first | with_reducible refine aR fun K' hK=> ?_ | with_reducible refine aS fun K' hK=> ?_);simp;(first | refine hK _ _ _ ?_ | done);clear K' hK;(repeat with_reducible refine aA ?_);(first | with_reducible refine aw_ret ?_ | with_reducible refine aw_retL ?_ | with_reducible refine aw_skipL ?_);simp[blockK,loopK,Post,resA,res1,expT,expA,exp1,expM,expL,okT,okA,ok1,rowOf,Tryz.f59];rw[e1,e2];exact⟨[1],⟨⟨rfl,rfl⟩,rfl⟩,rfl⟩
  have p1:0≤parN t n.toNat:=(by omega);have p2:parN t n.toNat<t.length:=(by omega);have p3:(parN t n.toNat).toNat<t.length:=(by omega);have hge:(nth t (parN t n.toNat).toNat).par=gpN t n.toNat:=rfl;have hcell:iV (gpN t n.toNat)::(nth t n.toNat).cells.tail=(liftP t n.toNat).cells:=rfl;have hany:t.any (twinQ (liftP t n.toNat))=t.any (twinP t n.toNat):=rfl;have hH:=has112_ok t (liftP t n.toNat) (by omega);rw[hany]at hH;have hq:∀q:Pl,q.cells.mapM (fun a=>match a with | .v x=>some (.v x) | .sl n cs=>some (.sl n cs) | _=>none)=some q.cells:=fun q=>rfl
  (repeat with_reducible refine aA ?_);(first | with_reducible refine aR fun K' hK=> ?_ | with_reducible refine aS fun K' hK=> ?_);simp[n1,n2,n3,n4,n5,hpe,n6];(first | refine hK _ _ _ ?_ | done);clear K' hK;repeat with_reducible refine aA ?_
  (first | with_reducible refine aC fun A B hA hB=> ?_ | with_reducible refine aD fun A B hA hB=> ?_)
  simp;refine⟨fun hc=>hA ?_,fun hc=>hB ?_⟩<;>clear hA hB A B<;>(try (simp at hc;done))<;>(try (exfalso;simp at hc;omega))<;>clear hc<;>(try with_reducible refine aK ?_);(repeat with_reducible refine aA ?_);(first | with_reducible refine aR fun K' hK=> ?_ | with_reducible refine aS fun K' hK=> ?_);simp[n3,n4,n5];(first | refine hK _ _ _ ?_ | done);clear K' hK;(repeat with_reducible refine aA ?_);(first | with_reducible refine aR fun K' hK=> ?_ | with_reducible refine aS fun K' hK=> ?_);simp[hpe,p1,p2,p3,hge,hcell];(first | refine hK _ _ _ ?_ | done);clear K' hK;by_cases c1:t.any (twinP t n.toNat)=true
  ·obtain⟨_,_,e1,e2⟩:=bad 152 (by decide) (by unfold liftCode;rw[if_neg (by simp[c0]),if_neg (by omega),if_neg n6,if_pos c1]);(repeat with_reducible refine aA ?_);(first | with_reducible refine aR fun K' hK=> ?_ | with_reducible refine aS fun K' hK=> ?_);simp[hq];refine acall_flat hH rfl (by first | rfl | (simp[hq];done) | (simp[hq];rfl) | (simp[hq];exact⟨rfl,rfl⟩)) ?_;simp[c1];(first | refine hK _ _ _ ?_ | done);clear K' hK;repeat with_reducible refine aA ?_
   (first | with_reducible refine aC fun A B hA hB=> ?_ | with_reducible refine aD fun A B hA hB=> ?_)
   simp;refine⟨fun hc=>hA ?_,fun hc=>hB ?_⟩<;>clear hA hB A B<;>(try (simp at hc;done))<;>(try (exfalso;simp at hc;omega))<;>clear hc<;>(try with_reducible refine aK ?_);(repeat with_reducible refine aA ?_);(first | with_reducible refine aR fun K' hK=> ?_ | with_reducible refine aS fun K' hK=> ?_);simp;(first | refine hK _ _ _ ?_ | done);clear K' hK;(repeat with_reducible refine aA ?_);(first | with_reducible refine aw_ret ?_ | with_reducible refine aw_retL ?_ | with_reducible refine aw_skipL ?_);simp[blockK,loopK,Post,resA,res1,expT,expA,exp1,expM,expL,okT,okA,ok1,rowOf,Tryz.f59];rw[e1,e2];exact⟨[2],⟨⟨rfl,rfl⟩,rfl⟩,rfl⟩
  ·have e1:liftCode t n=0:=(by unfold liftCode;rw[if_neg (by simp[c0]),if_neg (by omega),if_neg n6,if_neg c1]);have e2:liftR t n=liftT t n.toNat:=(by unfold liftR;rw[if_pos e1]);rw[e1,e2];have hput:putO (flat Pl.cells t) 6 n.toNat 0 (liftP t n.toNat).cells=flat Pl.cells (liftT t n.toNat):=putO_flat n3 _;have hne:t≠[]:=List.ne_nil_of_length_pos g.pos;(repeat with_reducible refine aA ?_);(first | with_reducible refine aR fun K' hK=> ?_ | with_reducible refine aS fun K' hK=> ?_);simp[hq];refine acall_flat hH rfl (by first | rfl | (simp[hq];done) | (simp[hq];rfl) | (simp[hq];exact⟨rfl,rfl⟩)) ?_;simp[c1];(first | refine hK _ _ _ ?_ | done);clear K' hK;repeat with_reducible refine aA ?_
   (first | with_reducible refine aC fun A B hA hB=> ?_ | with_reducible refine aD fun A B hA hB=> ?_)
   simp;refine⟨fun hc=>hA ?_,fun hc=>hB ?_⟩<;>clear hA hB A B<;>(try (simp at hc;done))<;>(try (exfalso;simp at hc;omega))<;>clear hc<;>(try with_reducible refine aK ?_);(repeat with_reducible refine aA ?_);(first | with_reducible refine aR fun K' hK=> ?_ | with_reducible refine aS fun K' hK=> ?_);simp;refine acall_new (clone35_ok t (by omega) hne) (by first | rfl | (simp;done) | (simp;rfl) | (simp;exact⟨rfl,rfl⟩)) ?_;simp[addJ_one];(first | refine hK _ _ _ ?_ | done);clear K' hK;(repeat with_reducible refine aA ?_);(first | with_reducible refine aR fun K' hK=> ?_ | with_reducible refine aS fun K' hK=> ?_);simp[n3,n4,n5,hput];(first | refine hK _ _ _ ?_ | done);clear K' hK;(repeat with_reducible refine aA ?_);(first | with_reducible refine aR fun K' hK=> ?_ | with_reducible refine aS fun K' hK=> ?_);simp;(first | refine hK _ _ _ ?_ | done);clear K' hK;(repeat with_reducible refine aA ?_);(first | with_reducible refine aw_ret ?_ | with_reducible refine aw_retL ?_ | with_reducible refine aw_skipL ?_);simp[blockK,loopK,Post,resA,res1,expT,expA,exp1,expM,expL,okT,okA,ok1,rowOf,Tryz.f59];exact⟨[2],⟨lift_len.symm,rfl⟩,by simp[rowOf]⟩
 ·(repeat with_reducible refine aA ?_);(first | with_reducible refine aR fun K' hK=> ?_ | with_reducible refine aS fun K' hK=> ?_);simp[c0];(first | refine hK _ _ _ ?_ | done);clear K' hK;repeat with_reducible refine aA ?_
  (first | with_reducible refine aC fun A B hA hB=> ?_ | with_reducible refine aD fun A B hA hB=> ?_)
  simp[c0];refine⟨fun hc=>hA ?_,fun hc=>hB ?_⟩<;>clear hA hB A B<;>(try (simp at hc;done))<;>(try (exfalso;simp at hc;omega))<;>clear hc<;>(try with_reducible refine aK ?_);(repeat with_reducible refine aA ?_);(first | with_reducible refine aR fun K' hK=> ?_ | with_reducible refine aS fun K' hK=> ?_);simp;(first | refine hK _ _ _ ?_ | done);clear K' hK;(repeat with_reducible refine aA ?_);(first | with_reducible refine aw_ret ?_ | with_reducible refine aw_retL ?_ | with_reducible refine aw_skipL ?_);simp[blockK,loopK,Post,resA,res1,expT,expA,exp1,expM,expL,okT,okA,ok1,rowOf,Tryz.f59];have e1:liftCode t n=checkN t:=(by simp[liftCode,c0]);have e2:liftR t n=[]:=(by rw[liftR,e1,if_neg c0]);rw[e1,e2];exact⟨[1],⟨⟨rfl,rfl⟩,rfl⟩,rfl⟩
set_option maxRecDepth 100000
set_option maxHeartbeats 400000
def natZ (z:Int):Option Nat:=if 0≤z then some z.toNat else none
def leadsN (root:Man) (L:List Man) (t:List Pl) (n:Nat):List Nat:=(if 0<n then[(parN t n).toNat]else[])++((edgesV root L t n).map (toN t n)).filterMap natZ
def offN (on:List Bool):Nat:=on.countP (fun b=> !b)
structure Dfs (root:Man) (L:List Man) (t:List Pl) (on:List Bool) (w:List Nat):Prop where
 len:on.length=t.length
 zero:nth on 0=true
 sub:∀k,nth on k=true→Rch root L t k
 win:∀k∈w,nth on k=true
 don:∀k,nth on k=true→k∉w→∀j∈leadsN root L t k,nth on j=true
structure Rnd (root:Man) (L:List Man) (t:List Pl) (n M:Nat) (acc:List Nat) (on:List Bool) (w:List Nat):Prop where
 len:on.length=t.length
 zero:nth on 0=true
 sub:∀k,nth on k=true→Rch root L t k
 win:∀k∈w,nth on k=true
 ac:∀k∈acc,nth on k=true
 don:∀k,nth on k=true→k∉w→k≠n→∀j∈leadsN root L t k,nth on j=true
 msr:w.length+2*offN on≤M
set_option maxRecDepth 100000
set_option maxHeartbeats 4000000
theorem CallsOK.weakJs {P:Program} [Gl P] {f:FuncId} {xs:List AV} {r:AV} {J J':Js} (h:CallsOK P f xs r J) (hlen:J.length=J'.length)
  (hJ:∀(i:Nat) e cs,J[i]? =some (e,cs)→∃ds,J'[i]? =some (e,ds)∧WkTL cs ds):CallsOK P f xs r J':=by
 have e1:∀ {i:Nat} {o:AObj},ofJ J i=some o→∃e cs ds,J[i]? =some (e,cs)∧o=.row e cs∧J'[i]? =some (e,ds)∧ofJ J' i=some (.row e ds)∧WkTL cs ds:=by
  intro i o ho;unfold ofJ at ho⊢;cases hi:J[i]? with
  | none=>rw[hi]at ho;cases ho
  | some p=>
   rw[hi]at ho;simp only[Option.map_some,Option.some.injEq]at ho;obtain⟨ds,h1,h2⟩:=hJ i p.1 p.2 hi;exact⟨p.1,p.2,ds,rfl,ho.symm,h1,by rw[h1];rfl,h2⟩
 have e2:∀ {i:Nat} {o:AObj},ofJ J' i=some o→∃e cs ds,o=.row e ds∧ofJ J i=some (.row e cs)∧WkTL cs ds:=by
  intro i o ho;cases hi:J[i]? with
  | none=>
   have:J'[i]? =none:=(by rw[List.getElem?_eq_none_iff]at hi⊢;omega);unfold ofJ at ho;rw[this]at ho;cases ho
  | some p=>
   obtain⟨ds,h1,h2⟩:=hJ i p.1 p.2 hi;unfold ofJ at ho;rw[h1]at ho;simp only[Option.map_some,Option.some.injEq]at ho;exact⟨p.1,p.2,ds,ho.symm,by unfold ofJ;rw[hi];rfl,h2⟩
 refine⟨h.1,h.2.1,fun w us F hF hΓ hx=>(h.2.2 w us F hF hΓ hx).mono fun en w' hh=> ?_⟩;obtain⟨u,E',rfl,hv,hR,hEF,hb,hge⟩:=hh;refine⟨u,E',rfl,hv,⟨hR.inj,fun i b hi=> ?_,hR.lt,fun i o hi ha=> ?_,fun i=> ?_,fun b=> ?_,hR.nF,hR.Flt,hR.good⟩,hEF,hb,hge⟩
 ·obtain⟨o,h1,h2⟩:=hR.dom i b hi;obtain⟨e,cs,ds,_,rfl,_,h3,_⟩:=e1 h1;exact⟨_,h3,rfl⟩
 ·obtain⟨e,cs,ds,rfl,h1,hw⟩:=e2 hi;obtain⟨hl,hat⟩:=hw.at;rcases hR.obj i _ h1 rfl with⟨b,hb,us',q1,q2,q3⟩ | ⟨hN,e',he⟩
  ·refine .inl ⟨b,hb,us',q1,by omega,fun j c x hc hx=> ?_⟩;have hi:j<cs.length:=(by rw[hl];exact(List.getElem?_eq_some_iff.1 hc).1);exact hat j _ c (List.getElem?_eq_getElem hi) hc _ _ _ (q3 j _ x (List.getElem?_eq_getElem hi) hx)
  ·injection he with he1 he2;subst he2;cases ds with
   | nil=>exact .inr ⟨hN,e,rfl⟩
   | cons _ _=>simp at hl
 ·rw[hR.K i];exact⟨fun⟨o,h⟩=>by obtain⟨e,cs,ds,_,_,_,h3,_⟩:=e1 h;exact⟨_,h3⟩,fun⟨o,h⟩=>by obtain⟨e,cs,ds,_,h3,_⟩:=e2 h;exact⟨_,h3⟩⟩
 ·rw[hR.W b];exact⟨fun⟨i,o,h1,h2,h3⟩=>by obtain⟨e,cs,ds,_,rfl,_,h4,_⟩:=e1 h2;exact⟨i,_,h1,h4,rfl⟩,fun⟨i,o,h1,h2,h3⟩=>by obtain⟨e,cs,ds,rfl,h4,_⟩:=e2 h2;exact⟨i,_,h1,h4,rfl⟩⟩
def freeR:Rg:=[[]]
def v1:Ver:=⟨1,0,0,⟨#[]⟩⟩
def v2:Ver:=⟨2,0,0,⟨#[]⟩⟩
def twoR:Rg:=[[⟨5,v2⟩]]
set_option maxRecDepth 100000
set_option maxHeartbeats 4000000
def nA:Bs:=⟨#[97]⟩
def nB:Bs:=⟨#[98]⟩
def nC:Bs:=⟨#[99]⟩
def smallRoot:Man:=⟨⟨#[]⟩,⟨0,0,0,⟨#[]⟩⟩,[⟨1,nA,freeR⟩,⟨3,nB,twoR⟩],[]⟩
def smallX:List Man:=[⟨nA,v1,[⟨4,nC,freeR⟩],[]⟩,⟨nC,v1,[],[]⟩]
def gT1:List Pl:=[rootP,⟨0,nA,v1⟩]
def gT2:List Pl:=[rootP,⟨0,nA,v1⟩,⟨0,nC,v1⟩]
def gT3:List Pl:=[rootP,⟨0,nA,v1⟩,⟨0,nC,v1⟩,⟨0,nB,v1⟩]
theorem fine_at {root:Man} {L:List Man} {t:List Pl} {i:Int} {m:Man} {E:List Dep} (hm:manVal root L t i=some m) (ho:ofF m.deps root.rules (decide (i=0))=E):fineV root L t i=E.all (holdsV t i):=by
 unfold fineV;rw[hm];simp only[ho]
theorem of_small {ds:List Dep} {b:Bool} {S:List Bs} {E:List Dep} (h1:namesOf (byM b ds)=S) (h2:S.Pairwise leB') (h3:(S.map fun n=>edgeOf [] (findD (byM b ds) n))=E):ofF ds [] b=E:=by
 unfold ofF;rw[h1,sortN_self h2,h3]
instance (a b:Bs):Decidable (leB' a b):=by unfold leB';infer_instance
set_option maxRecDepth 100000
set_option maxHeartbeats 4000000
def smallA:List AV:=[sV ⟨#[]⟩,iV 0,iV 0,iV 0,sV ⟨#[]⟩,rowT Dep.cells smallRoot.deps,.v (.slice none 0 0)]
set_option maxRecDepth 100000
set_option maxHeartbeats 8000000
set_option maxRecDepth 100000
set_option maxHeartbeats 4000000
def RowI (N:Nat) (G:Hp) (x:AV) (acc:List Int):Prop:=(x=.v (.slice none 0 0)∧acc=[])∨∃r,x=.row r acc.length∧r<N∧G r=some (.row 3 (flat iC acc))∧acc≠[]
theorem RowI.keep {N N':Nat} {G G':Hp} {x:AV} {acc:List Int} (h:RowI N G x acc) (hN:N≤N') (hg:∀i,i<N→G' i=G i):RowI N' G' x acc:=by
 rcases h with h | ⟨r,h1,h2,h3,h4⟩
 ·exact .inl h
 ·exact .inr ⟨r,h1,by omega,by rw[hg r h2];exact h3,h4⟩
def man0:Man:=⟨⟨#[]⟩,⟨0,0,0,⟨#[]⟩⟩,[],[]⟩
theorem ofF_nil (rules:List Ru) (b:Bool):ofF [] rules b=[]:=by
 unfold ofF;have:(namesOf (byM b ([]:List Dep)))=[]:=rfl;rw[this];have:sortN []=[]:=List.eq_nil_of_length_eq_zero (by rw[(sortN_perm _).length_eq];rfl);rw[this];rfl
theorem ofF_lenle {ds:List Dep} {rules:List Ru} {b:Bool} (h:ds.length≤1000000000):(ofF ds rules b).length≤1000000000:=by
 have h1:=byM_len b ds;unfold ofF;rw[List.length_map,(sortN_perm _).length_eq];simp only[namesOf,List.length_map];omega
set_option maxRecDepth 100000
set_option maxHeartbeats 4000000
def planC (root:Man) (L:List Man) (t:List Pl):List AV:=root.cells++[rowT Man.cells L,rowT Pl.cells t]
@[simp] theorem planC_len (root:Man) (L:List Man) (t:List Pl):(planC root L t).length=9:=rfl
@[simp] theorem plan_root (root:Man) (L:List Man) (t:List Pl):getC (planC root L t) 0 7=some root.cells:=rfl
@[simp] theorem plan_rules (root:Man) (L:List Man) (t:List Pl):getC (planC root L t) 6 1=some [rowT Ru.cells root.rules]:=rfl
@[simp] theorem plan_x (root:Man) (L:List Man) (t:List Pl):getC (planC root L t) 7 1=some [rowT Man.cells L]:=rfl
@[simp] theorem plan_t (root:Man) (L:List Man) (t:List Pl):getC (planC root L t) 8 1=some [rowT Pl.cells t]:=rfl
set_option maxRecDepth 100000
set_option maxHeartbeats 4000000
def RowM (N:Nat) (G:Hp) (x:AV) (acc:List Man):Prop:=∃r,x=.row r acc.length∧r<N∧G r=some (.row 27 (flat Man.cells acc))
theorem RowM.keep {N N':Nat} {G G':Hp} {x:AV} {acc:List Man} (h:RowM N G x acc) (hN:N≤N') (hg:∀i,i<N→G' i=G i):RowM N' G' x acc:=by
 obtain⟨r,h1,h2,h3⟩:=h;exact⟨r,h1,by omega,by rw[hg r h2];exact h3⟩
def RowJ (N:Nat) (G:Hp) (x:AV) (acc:List Int):Prop:=(x=.v (.slice none 0 0)∧acc=[])∨∃r,x=.row r acc.length∧r<N∧G r=some (.row 3 (flat iC acc))
theorem RowJ.keep {N N':Nat} {G G':Hp} {x:AV} {acc:List Int} (h:RowJ N G x acc) (hN:N≤N') (hg:∀i,i<N→G i=some (.row 3 (flat iC acc))→G' i=G i):RowJ N' G' x acc:=by
 rcases h with h | ⟨r,h1,h2,h3⟩
 ·exact .inl h
 ·exact .inr ⟨r,h1,by omega,by rw[hg r h2 h3];exact h3⟩
def wrongO (root:Man) (L:List Man) (t:List Pl):List Int:=if codeV root L t=0 then wrongL root L t else[]
theorem wrongR_form (root:Man) (L:List Man) (t:List Pl):(wrongO root L t=[]∧wrongR root L t=(.tup [.v (.slice none 0 0),iV (codeV root L t)],[]))∨wrongR root L t=(.tup [.row 0 (wrongO root L t).length,iV (codeV root L t)],[(3,flat iC (wrongO root L t))]):=by
 unfold wrongR wrongO;by_cases h:codeV root L t=0
 ·rw[if_pos h,if_pos h];by_cases w:wrongL root L t=[]
  ·rw[if_pos w,h];exact .inl ⟨w,rfl⟩
  ·rw[if_neg w,h];exact .inr rfl
 ·rw[if_neg h,if_neg h];exact .inr rfl
set_option maxRecDepth 100000
set_option maxHeartbeats 4000000
@[simp] theorem ty120:tyI Tryz.prog 120=some (false,1):=by kernel_rfl
def bC (b:Bool):List AV:=[bV b]
instance:Wid bC 1:=⟨fun _=>rfl,by decide⟩
@[simp] theorem bC_eq (b:Bool):bC b=[bV b]:=rfl
@[simp] theorem evCut_own (P:Program) (G:Hp) (t:TypeId) (id n:Nat) (hi:Nat→Option Nat):evCut P G t (.row id n) hi=match G id,elI P t,hi n with
  | some (.row e' cs),some (e,k,_,_),some h=>if e'=e∧h≤n∧cs.length=n*k then some (.row id h,G.upd id (.row e' (cs.take (h*k))))else none
  | _,_,_=>none:=rfl
def intsN (w:List Nat):List Int:=w.map fun(k:Nat)=>(k:Int)
@[simp] theorem intsN_len (w:List Nat):(intsN w).length=w.length:=by simp[intsN]
def waitN (G:Hp):AV→Nat
 | .ptr p _=>match G p with
  | some (.var _ (.row _ n::_))=>n
  | _=>0
 | _=>0
def isOff:AV→Bool
 | .v (.bool false)=>true
 | _=>false
def offC (G:Hp) (ob:Nat):Nat:=match G ob with
 | some (.row _ cs)=>cs.countP isOff
 | _=>0
def InvR (root:Man) (L:List Man) (t:List Pl) (Lq:Lp) (n0 p Z n M:Nat) (acc:List Nat) (q:Nat) (G:Hp) (nx:Nat):Prop:=∃(on:List Bool) (w:List Nat),G p=some (.var 49 [.row q w.length])∧G q=some (.row 3 (flat iC (intsN w)))∧G n0=some (.row 4 (flat bC on))∧G (n0+1)=some (.var 123 [.row n0 t.length])∧G Z=some (Lq.o .ready none)∧n0+1<q∧p≠q∧Z≠q∧q<nx∧Z<nx∧Rnd root L t n M acc on w
noncomputable def reachR (root:Man) (L:List Man) (t:List Pl):AV×Js:=(.tup [.row 0 (reachL root L t).length,iV (codeV root L t)],[(3,flat iC (reachL root L t))])
set_option maxRecDepth 100000
set_option maxHeartbeats 4000000
def entB (S:List Int):List (Value×AV):=S.map fun k=>(.int .i64 k,bV true)
def putB (S:List Int) (k:Int):List Int:=if k∈S then S else S++[k]
def keepM (q:Nat→Bool) (k:Nat):List (Int×Int):=(-1,-1)::(keptQ q k).map fun(j:Nat)=>((j:Int),renQ q j)
set_option maxRecDepth 100000
set_option maxHeartbeats 4000000
theorem flatG_J {α:Type} {c:α→List AV} (h:∀a,(c a).all plainC=true) (t:TypeId) (l:List α):flatJ [(t,flat c l)]=true:=by
 have:(flat c l).all plainC=true:=by
  unfold flat;rw[List.all_flatMap];exact List.all_eq_true.2 fun a _=>h a
 simp only[flatJ,List.all_cons,this];rfl
theorem pl_J (t:TypeId) (l:List Pl):flatJ [(t,flat Pl.cells l)]=true:=flatG_J (fun _=>rfl) t l
set_option maxRecDepth 100000
set_option maxHeartbeats 4000000
def prRoot:Man:=⟨⟨#[]⟩,⟨0,0,0,⟨#[]⟩⟩,[⟨1,nA,freeR⟩],[]⟩
def prX:List Man:=[⟨nA,v1,[],[]⟩,⟨nB,v1,[],[]⟩]
def prT:List Pl:=[rootP,⟨0,nA,v1⟩,⟨0,nB,v1⟩,⟨1,nB,v1⟩]
def prK:List Pl:=[rootP,⟨0,nA,v1⟩,⟨1,nB,v1⟩]
theorem pr_big:bigM prRoot=false∧bigI prX=false∧bigT prT=false:=by decide+kernel
def prA:List AV:=[sV ⟨#[]⟩,iV 0,iV 0,iV 0,sV ⟨#[]⟩,rowT Dep.cells prRoot.deps,.v (.slice none 0 0)]
def prB (i:Nat):List AV:=[sV ⟨#[]⟩,iV 0,iV 0,iV 0,sV ⟨#[]⟩,.row i 1,.v (.slice none 0 0)]
theorem wk_pr {P:Program} [Gl P]:Wk P (.agg prA) (.agg prRoot.cells):=
 .agg (.cons (.refl _) (.cons (.refl _) (.cons (.refl _) (.cons (.refl _) (.cons (.refl _) (.cons (.refl _) (.cons .nilRow .nil)))))))
theorem pr_flat_d:flat Dep.cells prRoot.deps=[iV 1,sV nA,.sl 1 [.sl 0 []]]:=rfl
theorem pr_same:∀a:List Pl,a.length≤1000000000→CallsOK Tryz.prog 32 [rowT Pl.cells a,rowT Pl.cells a] (bV true) []:=fun a ha=>by
 have h:=same16_ok a a ha;simpa using h
set_option maxRecDepth 100000
set_option maxHeartbeats 4000000
set_option maxRecDepth 100000
set_option maxHeartbeats 4000000
theorem cut_mem {t:List Pl} {n:Int} {p:Pl} (h:p∈cutR t n):∃q∈t,p.name=q.name∧p.ver=q.ver:=by
 unfold cutR at h;split at h
 ·unfold cutT at h;obtain⟨j,hj,rfl⟩:=List.mem_map.1 h;unfold keptN at hj;exact⟨nth t j,nth_mem (List.mem_range.1 (List.mem_filter.1 hj).1),rfl,rfl⟩
 ·cases h
theorem cutR_len {t:List Pl} {n:Int} :(cutR t n).length≤t.length:=by
 unfold cutR;split
 ·rw[cut_len];exact kept_le
 ·simp
theorem cut_sz {root:Man} {L:List Man} {t:List Pl} {n:Int} (h:ValSz root L t):ValSz root L (cutR t n):=by
 obtain⟨a,b,c,d,e,f⟩:=h;refine⟨a,b,c,d,⟨Nat.le_trans cutR_len e.1,fun p hp=> ?_⟩,fun p hp=> ?_⟩
 ·obtain⟨q,hq,e1,e2⟩:=cut_mem hp;rw[e1,e2];exact e.2 q hq
 ·obtain⟨q,hq,e1,e2⟩:=cut_mem hp;rw[e2];exact f q hq
set_option maxRecDepth 100000
set_option maxHeartbeats 4000000
def cutsZ (root:Man) (L:List Man) (t:List Pl) (n:Int):Bool:=decide (cutCode t n=0)&&validN root L (cutR t n)
def liftsZ (root:Man) (L:List Man) (t:List Pl) (n:Int):Bool:=decide (liftCode t n=0)&&validN root L (liftR t n)
theorem liftR_mem {t:List Pl} {n:Int} {p:Pl} (h:p∈liftR t n):∃q∈t,p.name=q.name∧p.ver=q.ver:=by
 unfold liftR at h;split at h
 ·rename_i hc;have hl:=(lift_iff.1 hc).2;obtain⟨j,hj,rfl⟩:=List.mem_iff_getElem.1 h;rw[lift_len]at hj;have e:=lift_name hl (j:=j);rw[nth_eq (by rw[lift_len];exact hj)]at e;exact⟨nth t j,nth_mem hj,e.1,e.2⟩
 ·cases h
theorem liftR_len {t:List Pl} {n:Int} :(liftR t n).length≤t.length:=by
 unfold liftR;split
 ·rw[lift_len];exact Nat.le_refl _
 ·simp
theorem lift_sz {root:Man} {L:List Man} {t:List Pl} {n:Int} (h:ValSz root L t):ValSz root L (liftR t n):=by
 obtain⟨a,b,c,d,e,f⟩:=h;refine⟨a,b,c,d,⟨Nat.le_trans liftR_len e.1,fun p hp=> ?_⟩,fun p hp=> ?_⟩
 ·obtain⟨q,hq,e1,e2⟩:=liftR_mem hp;rw[e1,e2];exact e.2 q hq
 ·obtain⟨q,hq,e1,e2⟩:=liftR_mem hp;rw[e2];exact f q hq
def workC (root:Man) (L:List Man) (x:AV):List AV:=root.cells++[rowT Man.cells L,x]
@[simp] theorem workC_len (root:Man) (L:List Man) (x:AV):(workC root L x).length=9:=rfl
@[simp] theorem work_root (root:Man) (L:List Man) (x:AV):getC (workC root L x) 0 7=some root.cells:=rfl
@[simp] theorem work_x (root:Man) (L:List Man) (x:AV):getC (workC root L x) 7 1=some [rowT Man.cells L]:=rfl
@[simp] theorem work_t (root:Man) (L:List Man) (x:AV):getC (workC root L x) 8 1=some [x]:=rfl
def Way (f:FuncId) (root:Man) (L:List Man) (t:List Pl) (n:Int) (p:Bool) (R:List Pl):Prop:=
 ∀(W:Nat) (x:AV) (G:Hp) (nx:Nat) (K:AV→Hp→Nat→Prop),G W=some (.var 139 (workC root L x))→W<nx→(∀X:Hp,(∀k,k<nx→X k=G k)→seesA Tryz.prog X [x,iV n]=some [rowT Pl.cells t,iV n])→
  (∀X ny r,nx≤ny→(∀k,k<nx→X k=G k)→X r=some (.row 58 (flat Pl.cells R))→nx≤r→r<ny→K (.tup [.row r R.length,bV p]) X ny)→InlK Tryz.prog f [.ptr W 0,iV n] K G nx
theorem way_cut {root:Man} {L:List Man} {t:List Pl} (hsz:ValSz root L t) (n:Int):Way 116 root L t n (cutsZ root L t n) (cutR t n):=by
 intro W x G nx K hW hWn hx hK;refine inlK mixed Tryz.call116 Tryz.func116 rfl (by rw[Tryz.ntmps116];simp) fun hf=> ?_;rw[Tryz.ntmps116];have hC:=cut14_ok t hsz.2.2.2.2.1 n;have hV:=valid38_ok root L _ (cut_sz (n:=n) hsz);have hR:cutsZ root L t n=(decide (cutCode t n=0)&&validN root L (cutR t n)):=rfl;have c58:Tryz.prog.cellsOf 58=6:=(by kernel_rfl);have n1:¬W=nx:=(by omega);generalize cutR t n=u at*;(repeat with_reducible refine aA ?_);(first | with_reducible refine aR fun K' hK=> ?_ | with_reducible refine aS fun K' hK=> ?_);simp;(first | refine hK _ _ _ ?_ | done);clear K' hK;(repeat with_reducible refine aA ?_);(first | with_reducible refine aR fun K' hK=> ?_ | with_reducible refine aS fun K' hK=> ?_);simp[hW,n1];refine acall_keep hC ⟨rfl,pl_J _ _⟩ (hx _ fun k hk=>by rw[Hp.upd_ne _ _ (by omega)]) ?_;simp[addJ_one];(first | refine hK _ _ _ ?_ | done);clear K' hK;refine aw_gen (fun s X ny=>s 0=.ptr W 0∧s 6=.row (nx+1) u.length∧s 7=iV (cutCode t n)∧ny=nx+2∧X W=some (.var 139 (workC root L x))∧X (nx+1)=some (.row 58 (flat Pl.cells u))∧∀k,k<nx→X k=G k) ?_ ?_
 ·have n2:¬W=nx+1:=(by omega);exact⟨by simp,by simp,by simp,by simp,by simp[n1,n2,hW],by simp,fun k hk=>by rw[Hp.upd_ne _ _ (by omega),Hp.upd_ne _ _ (by omega)]⟩
 rintro s X ny ⟨s0,s6,s7,rfl,xW,xr,hX⟩;have hT:treeOf Tryz.prog X (.row (nx+1) u.length)=some (rowT Pl.cells u):=treeOf_of xr c58 rfl;have sV:seesA Tryz.prog X [.agg root.cells,rowT Man.cells L,.row (nx+1) u.length]=some [.agg root.cells,rowT Man.cells L,rowT Pl.cells u]:=by
  simp only[seesA,seeA,lookA,hT];rfl
 by_cases c0:cutCode t n=0
 ·(repeat with_reducible refine aA ?_);(first | with_reducible refine aQ fun K' hK=> ?_ | with_reducible refine aT fun K' hK=> ?_);simp[s0,s6,s7,c0,xW];refine acall_flat hV rfl sV ?_;simp;(first | refine hK _ _ _ ?_ | done);clear K' hK;(repeat with_reducible refine aA ?_);(first | with_reducible refine aw_ret ?_ | with_reducible refine aw_retL ?_ | with_reducible refine aw_skipL ?_);simp[blockK,loopK,Post,resA,res1,expT,expA,exp1,expM,expL,okT,okA,ok1,rowOf,Tryz.f116];have:=hK X (nx+2) (nx+1) (by omega) hX xr (by omega) (by omega);rw[hR]at this;simpa [c0]using this
 ·(repeat with_reducible refine aA ?_);(first | with_reducible refine aQ fun K' hK=> ?_ | with_reducible refine aT fun K' hK=> ?_);simp(maxSteps:=1000000) [s0,s6,s7,c0,xW];(first | refine hK _ _ _ ?_ | done);clear K' hK;(repeat with_reducible refine aA ?_);(first | with_reducible refine aw_ret ?_ | with_reducible refine aw_retL ?_ | with_reducible refine aw_skipL ?_);simp[blockK,loopK,Post,resA,res1,expT,expA,exp1,expM,expL,okT,okA,ok1,rowOf,Tryz.f116];have:=hK X (nx+2) (nx+1) (by omega) hX xr (by omega) (by omega);rw[hR]at this;simpa [c0]using this
theorem way_lift {root:Man} {L:List Man} {t:List Pl} (hsz:ValSz root L t) (n:Int):Way 118 root L t n (liftsZ root L t n) (liftR t n):=by
 intro W x G nx K hW hWn hx hK;refine inlK mixed Tryz.call118 Tryz.func118 rfl (by rw[Tryz.ntmps118];simp) fun hf=> ?_;rw[Tryz.ntmps118];have hC:=lift59_ok t hsz.2.2.2.2.1 n;have hV:=valid38_ok root L _ (lift_sz (n:=n) hsz);have hR:liftsZ root L t n=(decide (liftCode t n=0)&&validN root L (liftR t n)):=rfl;have c58:Tryz.prog.cellsOf 58=6:=(by kernel_rfl);have n1:¬W=nx:=(by omega);generalize liftR t n=u at*;(repeat with_reducible refine aA ?_);(first | with_reducible refine aR fun K' hK=> ?_ | with_reducible refine aS fun K' hK=> ?_);simp;(first | refine hK _ _ _ ?_ | done);clear K' hK;(repeat with_reducible refine aA ?_);(first | with_reducible refine aR fun K' hK=> ?_ | with_reducible refine aS fun K' hK=> ?_);simp[hW,n1];refine acall_keep hC ⟨rfl,pl_J _ _⟩ (hx _ fun k hk=>by rw[Hp.upd_ne _ _ (by omega)]) ?_;simp[addJ_one];(first | refine hK _ _ _ ?_ | done);clear K' hK;refine aw_gen (fun s X ny=>s 0=.ptr W 0∧s 6=.row (nx+1) u.length∧s 7=iV (liftCode t n)∧ny=nx+2∧X W=some (.var 139 (workC root L x))∧X (nx+1)=some (.row 58 (flat Pl.cells u))∧∀k,k<nx→X k=G k) ?_ ?_
 ·have n2:¬W=nx+1:=(by omega);exact⟨by simp,by simp,by simp,by simp,by simp[n1,n2,hW],by simp,fun k hk=>by rw[Hp.upd_ne _ _ (by omega),Hp.upd_ne _ _ (by omega)]⟩
 rintro s X ny ⟨s0,s6,s7,rfl,xW,xr,hX⟩;have hT:treeOf Tryz.prog X (.row (nx+1) u.length)=some (rowT Pl.cells u):=treeOf_of xr c58 rfl;have sV:seesA Tryz.prog X [.agg root.cells,rowT Man.cells L,.row (nx+1) u.length]=some [.agg root.cells,rowT Man.cells L,rowT Pl.cells u]:=by
  simp only[seesA,seeA,lookA,hT];rfl
 by_cases c0:liftCode t n=0
 ·(repeat with_reducible refine aA ?_);(first | with_reducible refine aQ fun K' hK=> ?_ | with_reducible refine aT fun K' hK=> ?_);simp[s0,s6,s7,c0,xW];refine acall_flat hV rfl sV ?_;simp;(first | refine hK _ _ _ ?_ | done);clear K' hK;(repeat with_reducible refine aA ?_);(first | with_reducible refine aw_ret ?_ | with_reducible refine aw_retL ?_ | with_reducible refine aw_skipL ?_);simp[blockK,loopK,Post,resA,res1,expT,expA,exp1,expM,expL,okT,okA,ok1,rowOf,Tryz.f118];have:=hK X (nx+2) (nx+1) (by omega) hX xr (by omega) (by omega);rw[hR]at this;simpa [c0]using this
 ·(repeat with_reducible refine aA ?_);(first | with_reducible refine aQ fun K' hK=> ?_ | with_reducible refine aT fun K' hK=> ?_);simp(maxSteps:=1000000) [s0,s6,s7,c0,xW];(first | refine hK _ _ _ ?_ | done);clear K' hK;(repeat with_reducible refine aA ?_);(first | with_reducible refine aw_ret ?_ | with_reducible refine aw_retL ?_ | with_reducible refine aw_skipL ?_);simp[blockK,loopK,Post,resA,res1,expT,expA,exp1,expM,expL,okT,okA,ok1,rowOf,Tryz.f118];have:=hK X (nx+2) (nx+1) (by omega) hX xr (by omega) (by omega);rw[hR]at this;simpa [c0]using this
theorem firstN_no {k:Nat} {p:Nat→Bool} (h:∀j,j<k→p j=false):firstN k p=none:=by
 unfold firstN;rw[List.find?_eq_none];intro x hx;rw[h x (List.mem_range.1 hx)];simp
theorem firstN_is {i:Nat} {p:Nat→Bool} (hp:p i=true) (hno:∀j,j<i→p j=false):∀ {k:Nat},i<k→firstN k p=some i
 | k+1,h=>by
  have hs:firstN (k+1) p=(firstN k p).or (if p k=true then some k else none):=by
   unfold firstN;rw[List.range_succ,List.find?_append];congr 1;cases hk:p k<;>simp[hk]
  rw[hs];rcases Nat.lt_or_ge i k with h1 | h1
  ·rw[firstN_is hp hno h1];rfl
  ·have:i=k:=(by omega);subst this;rw[firstN_no hno,hp];rfl
theorem first120 {root:Man} {L:List Man} {t:List Pl} {f:FuncId} {p:Nat→Bool} {R:Nat→List Pl} (hw:∀n:Nat,Way f root L t n (p n) (R n)) {k:Nat} (hk:k≤1000000000) {W:Nat} {x:AV} {G:Hp} {N0:Nat} {K:AV→Hp→Nat→Prop}
  (hW:G W=some (.var 139 (workC root L x))) (hWn:W<N0) (hx:∀(n:Int) (X:Hp),(∀k,k<N0→X k=G k)→seesA Tryz.prog X [x,iV n]=some [rowT Pl.cells t,iV n])
  (hS:∀n X ny r,firstN k p=some n→N0≤ny→(∀j,j<N0→X j=G j)→X r=some (.row 58 (flat Pl.cells (R n)))→N0≤r→r<ny→K (.tup [.row r (R n).length,bV true]) X ny)
  (hN:∀X ny r,firstN k p=none→N0≤ny→(∀j,j<N0→X j=G j)→K (.tup [.row r 0,bV false]) X ny):InlK Tryz.prog 120 [iV k,.mt f [.ptr W 0]] K G N0:=by
 refine inlK mixed Tryz.call120 Tryz.func120 rfl (by rw[Tryz.ntmps120];simp) fun hf=> ?_;rw[Tryz.ntmps120];(repeat with_reducible refine aA ?_);(first | with_reducible refine aR fun K' hK=> ?_ | with_reducible refine aS fun K' hK=> ?_);simp;(first | refine hK _ _ _ ?_ | done);clear K' hK;(repeat with_reducible refine aA ?_);(first | with_reducible refine aR fun K' hK=> ?_ | with_reducible refine aS fun K' hK=> ?_);simp;(first | refine hK _ _ _ ?_ | done);clear K' hK;(repeat with_reducible refine aA ?_);(first | with_reducible refine aw_block ?_ | with_reducible refine aw_toS (aw_block ?_));refine aw_loop (fun s X ny=>s 1=.mt f [.ptr W 0]∧s 10=iV k∧N0≤ny∧(∀j,j<N0→X j=G j)∧∃i:Nat,s 11=iV i∧i≤k∧∀j,j<i→p j=false) (fun s _ _=>match s 11 with | .v (.int _ n)=>k-n.toNat | _=>0) ?_ ?_
 ·exact⟨by simp,by simp,by omega,fun j hj=>by rw[Hp.upd_ne _ _ (by omega)],0,by simp,by omega,fun j hj=>by omega⟩
 rintro s X ny hf2 ⟨s1,s10,hny,hX,i,s11,hi,hno⟩;have hw2:IntKind.i64.wrap (↑i+1)=((i+1:Nat):Int):=wrapS (by omega);(repeat with_reducible refine aA ?_);(first | with_reducible refine aR fun K' hK=> ?_ | with_reducible refine aS fun K' hK=> ?_);simp[s10,s11];(first | refine hK _ _ _ ?_ | done);clear K' hK;(repeat with_reducible refine aA ?_);(first | with_reducible refine aC fun A B hA hB=> ?_ | with_reducible refine aD fun A B hA hB=> ?_);simp;refine⟨fun hi2=>hA ?_,fun hi2=>hB ?_⟩<;>clear hA hB A B<;>(try simp at hi2)<;>(try with_reducible refine aK ?_)
 ·(repeat with_reducible refine aA ?_);(first | with_reducible refine aw_block ?_ | with_reducible refine aw_toS (aw_block ?_));(repeat with_reducible refine aA ?_);(first | with_reducible refine aR fun K' hK=> ?_ | with_reducible refine aS fun K' hK=> ?_);simp[s11];(first | refine hK _ _ _ ?_ | done);clear K' hK;(repeat with_reducible refine aA ?_);(first | with_reducible refine aR fun K' hK=> ?_ | with_reducible refine aS fun K' hK=> ?_);simp[s1];refine acall_inlK (hw i W x _ _ _ ((hX W hWn).trans hW) (by omega) (fun Y hY=>hx i Y fun j hj=>(hY j (by omega)).trans (hX j hj)) ?_);rintro Y nz r hnz hY hYr hr1 hr2;simp[thenK];(first | refine hK _ _ _ ?_ | done);clear K' hK;cases hp:p i with
  | true=>
   (repeat with_reducible refine aA ?_);(first | with_reducible refine aR fun K' hK=> ?_ | with_reducible refine aS fun K' hK=> ?_);simp;(first | refine hK _ _ _ ?_ | done);clear K' hK;repeat with_reducible refine aA ?_
   (first | with_reducible refine aC fun A B hA hB=> ?_ | with_reducible refine aD fun A B hA hB=> ?_)
   simp;refine⟨fun hc=>hA ?_,fun hc=>hB ?_⟩<;>clear hA hB A B<;>(try (simp at hc;done))<;>(try (exfalso;simp at hc;omega))<;>clear hc<;>(try with_reducible refine aK ?_);(repeat with_reducible refine aA ?_);(first | with_reducible refine aR fun K' hK=> ?_ | with_reducible refine aS fun K' hK=> ?_);simp;(first | refine hK _ _ _ ?_ | done);clear K' hK;(repeat with_reducible refine aA ?_);(first | with_reducible refine aw_ret ?_ | with_reducible refine aw_retL ?_ | with_reducible refine aw_skipL ?_);simp[blockK,loopK,Post,resA,res1,expT,expA,exp1,expM,expL,okT,okA,ok1,rowOf,Tryz.f120];exact hS i Y nz r (firstN_is hp hno hi2) (by omega) (fun j hj=>(hY j (by omega)).trans (hX j hj)) hYr (by omega) hr2
  | false=>
   (repeat with_reducible refine aA ?_);(first | with_reducible refine aR fun K' hK=> ?_ | with_reducible refine aS fun K' hK=> ?_);simp;(first | refine hK _ _ _ ?_ | done);clear K' hK;repeat with_reducible refine aA ?_
   (first | with_reducible refine aC fun A B hA hB=> ?_ | with_reducible refine aD fun A B hA hB=> ?_)
   simp;refine⟨fun hc=>hA ?_,fun hc=>hB ?_⟩<;>clear hA hB A B<;>(try (simp at hc;done))<;>(try (exfalso;simp at hc;omega))<;>clear hc<;>(try with_reducible refine aK ?_);(first | with_reducible refine aw_skipL ?_ | skip);refine blockK_normal ?_;(repeat with_reducible refine aA ?_);(first | with_reducible refine aR fun K' hK=> ?_ | with_reducible refine aS fun K' hK=> ?_);simp[s11,hw2];(first | refine hK _ _ _ ?_ | done);clear K' hK;refine aw_skipL (loopK_normal ?_ ?_)
   ·exact⟨by simp[s1],by simp[s10],by omega,fun j hj=>(hY j (by omega)).trans (hX j hj),i+1,by simp[hw2],by omega,fun j hj=>by
     rcases Nat.lt_or_ge j i with h | h
     ·exact hno j h
     ·have:j=i:=(by omega);subst this;exact hp⟩
   ·simp[s11,hw2];omega
 ·(repeat with_reducible refine aA ?_);(first | with_reducible refine aw_exit ?_ | with_reducible refine aw_exitL ?_);refine loopK_exit (blockK_exit ?_);(repeat with_reducible refine aA ?_);(first | with_reducible refine aR fun K' hK=> ?_ | with_reducible refine aS fun K' hK=> ?_);simp;(first | refine hK _ _ _ ?_ | done);clear K' hK;(repeat with_reducible refine aA ?_);(first | with_reducible refine aR fun K' hK=> ?_ | with_reducible refine aS fun K' hK=> ?_);simp;(first | refine hK _ _ _ ?_ | done);clear K' hK;(repeat with_reducible refine aA ?_);(first | with_reducible refine aw_ret ?_ | with_reducible refine aw_retL ?_ | with_reducible refine aw_skipL ?_);simp[blockK,loopK,Post,resA,res1,expT,expA,exp1,expM,expL,okT,okA,ok1,rowOf,Tryz.f120];exact hN _ _ _ (firstN_no fun j hj=>hno j (by omega)) (by omega) (fun j hj=>by repeat first | exact hX j hj | rw[Hp.upd_ne _ _ (by omega)])
set_option maxRecDepth 100000
set_option maxHeartbeats 4000000
def RowG {α:Type} (c:α→List AV) (e:TypeId) (N:Nat) (G:Hp) (x:AV) (acc:List α):Prop:=(x=.v (.slice none 0 0)∧acc=[])∨∃r,x=.row r acc.length∧N≤r∧G r=some (.row e (flat c acc))
theorem CallsOK.nilRow {P:Program} [Gl P] {f:FuncId} {xs:List AV} (e:TypeId) (h:CallsOK P f xs (.agg [.v (.slice none 0 0)]) []):CallsOK P f xs (.agg [.row 0 0]) [(e,[])]:=by
 refine⟨rfl,h.2.1,fun w us F hF hΓ hx=>(h.2.2 w us F hF hΓ hx).mono fun en w' hh=> ?_⟩;obtain⟨u,E',rfl,hv,hR,hEF,hb,hge⟩:=hh;have hφ:∀i,E'.φ i=none:=fun i=>by
  cases h:E'.φ i with
  | none=>rfl
  | some b=>obtain⟨o,ho,_⟩:=hR.dom i b h;simp[ofJ]at ho
 have h0:∀ {i:Nat} {o:AObj},ofJ [(e,[])] i=some o↔i=0∧o=.row e []:=ofJ1;obtain⟨vs,rfl,hl,hvs,h1⟩:=hv.agg_inv;obtain⟨y,rfl⟩:∃y,vs=[y]:=by
  cases vs with
  | nil=>simp at hl
  | cons y ys=>cases ys with
   | nil=>exact⟨y,rfl⟩
   | cons _ _=>simp at hl
 obtain⟨rfl,_⟩:=(hvs 0 _ _ rfl rfl).v_inv;refine⟨_,{E' with K:=fun i=>i=0,N:=fun i=>i=0},rfl,.agg rfl (fun i c x hc hx=> ?_) h1,⟨fun i j b hi=>by rw[show E'.φ i=_ from hi]at*;have:=hφ i;simp_all,fun i b hi=>by have:=hφ i;simp_all,fun i b hi=>by have:=hφ i;simp_all,fun i o ho ha=> ?_,fun i=> ?_,fun b=> ?_,fun i b hi=>by have:=hφ i;simp_all,hR.Flt,hR.good⟩,hEF,hb,fun i b hi=>by have:=hφ i;simp_all⟩
 ·cases i with
  | zero=>
   simp only[List.getElem?_cons_zero,Option.some.injEq]at hc hx;subst hc;subst hx;exact .row rfl rfl (fun b hb=>by have:=hφ 0;simp_all) (fun _=>⟨rfl,rfl⟩)
  | succ i=>simp at hc
 ·obtain⟨rfl,rfl⟩:=h0.1 ho;exact .inr ⟨rfl,e,rfl⟩
 ·constructor
  ·intro h;exact⟨_,h0.2 ⟨h,rfl⟩⟩
  ·rintro⟨o,ho⟩;exact(h0.1 ho).1
 ·constructor
  ·intro h;obtain⟨i,o,h1,_⟩:=(hR.W b).1 h;have:=hφ i;simp_all
  ·rintro⟨i,o,h1,_⟩;have:=hφ i;simp_all
theorem own86_nil:CallsOK Tryz.prog 86 [.agg (Rg.cells [])] (.agg [.v (.slice none 0 0)]) []:=by
 refine callsOK mixed Tryz.call86 Tryz.func86 rfl (by rw[Tryz.ntmps86];simp) ?_ rfl;rw[Tryz.ntmps86];with_reducible refine aR fun K' hK=> ?_
 simp[Rg.cells];refine hK _ _ _ ?_;clear K' hK;with_reducible refine aR fun K' hK=> ?_
 simp;refine hK _ _ _ ?_;clear K' hK;with_reducible refine aA ?_;refine aR fun K' hK=> ?_
 simp;refine hK _ _ _ ?_;clear K' hK;with_reducible refine aw_block ?_
 refine aw_loop (fun s G nx=>s 1=.ptr 0 0∧s 2=.ptr 1 0∧s 3=.ptr 2 0∧G 0=some (.var 33 [rowT Alt.cells []])∧G 1=some (.var 33 [.v (.slice none 0 0)])∧G 2=some (.var 33 [.v (.slice none 0 0)])∧s 4=iV 0) (fun s _ _=>0) ?_ ?_
 ·exact⟨by simp,by simp,by simp,by simp,by simp,by simp,by simp⟩
 ·rintro s G nx hf ⟨s1,s2,s3,g0,g1,g2,s4⟩;with_reducible refine aA ?_;refine aR fun K' hK=> ?_
  simp[s1,s4,g0];refine hK _ _ _ ?_;clear K' hK;with_reducible refine aY (by simp) ?_;refine aw_exit ?_
  refine loopK_exit (blockK_exit ?_);with_reducible refine aR fun K' hK=> ?_
  simp[s2,s3,g1,g2];refine hK _ _ _ ?_;clear K' hK;with_reducible refine aw_retL ?_
  simp[blockK,loopK,Post,resA,res1,expT,expA,exp1,expM,expL,okT,okA,ok1,rowOf,Tryz.f86,s2]
theorem own86_cons (r:Rg) (hne:r≠[]) (hr:r.length<1000000000000∧∀l∈r,l.length<1000000000000):CallsOK Tryz.prog 86 [.agg r.cells] (.agg [.row 0 r.length]) [(83,flat Alt.cells r)]:=by
 refine callsOK mixed Tryz.call86 Tryz.func86 rfl (by rw[Tryz.ntmps86];simp) ?_ rfl;rw[Tryz.ntmps86];have hl:=hr.1;with_reducible refine aR fun K' hK=> ?_
 simp[Rg.cells];refine hK _ _ _ ?_;clear K' hK;with_reducible refine aR fun K' hK=> ?_
 simp;refine hK _ _ _ ?_;clear K' hK;with_reducible refine aA ?_;refine aR fun K' hK=> ?_
 simp;refine hK _ _ _ ?_;clear K' hK;with_reducible refine aw_block ?_
 refine aw_loop (fun s G nx=>3≤nx∧s 1=.ptr 0 0∧s 2=.ptr 1 0∧s 3=.ptr 2 0∧G 0=some (.var 33 [rowT Alt.cells r])∧G 1=some (.var 33 [.v (.slice none 0 0)])∧∃(i:Nat) (x:AV),s 4=iV i∧i≤r.length∧G 2=some (.var 33 [x])∧RowG Alt.cells 83 3 G x (r.take i)) (fun s _ _=>match s 4 with | .v (.int _ n)=>r.length-n.toNat | _=>0) ?_ ?_
 ·exact⟨by omega,by simp,by simp,by simp,by simp,by simp,0,_,by simp,by omega,by simp,.inl ⟨rfl,by simp⟩⟩
 ·rintro s G nx hf ⟨hnx,s1,s2,s3,g0,g1,i,x,s4,hi,g2,hx⟩;have o4:=s4;have hw:IntKind.i64.wrap (↑i+1)=((i+1:Nat):Int):=wrapS (by omega);with_reducible refine aA ?_;refine aR fun K' hK=> ?_
  simp[s1,s4,g0];refine hK _ _ _ ?_;clear K' hK;with_reducible refine aC fun A B hA hB=> ?_
  simp;refine⟨fun hi2=>hA ?_,fun hi2=>hB ?_⟩<;>clear hA hB A B<;>(try simp at hi2)<;>(try with_reducible refine aK ?_)
  ·have hA:=hr.2 _ (nth_mem hi2);have hst:r.take (i+1)=r.take i++[nth r i]:=(by rw[List.take_add_one,List.getElem?_eq_getElem hi2,←nth_eq hi2];rfl);have htl:(r.take i).length=i:=(by rw[List.length_take];omega);generalize hgl:nth r i=l at*;have b1:l.length≤9223372036854775807:=(by omega);have b2:l.length*48≤140737488355328:=(by omega);have b3:i+1≤9223372036854775807:=(by omega);have b4:(i+1)*24≤140737488355328:=(by omega);have hfl:(flat Bd.cells l).length=l.length*5:=flat_len;with_reducible refine aw_block ?_;refine aR fun K' hK=> ?_
   simp;refine hK _ _ _ ?_;clear K' hK;have n0:¬0=nx:=(by omega);have n1:¬1=nx:=(by omega);have n2:¬2=nx:=(by omega);with_reducible refine aR fun K' hK=> ?_
   simp[s1,s4,g0,n0,hi2,hgl,b1,b2,hfl,treeOf_row,srcOf_row];refine hK _ _ _ ?_;clear K' hK;have c87:Tryz.prog.cellsOf 87=5:=(by kernel_rfl);refine aw_gen (fun u H ny=>u 1=.ptr 0 0∧u 2=.ptr 1 0∧u 3=.ptr 2 0∧u 4=iV i∧u 5=.row (nx+1) l.length∧ny=nx+2∧(∀k,k<nx→H k=G k)∧H (nx+1)=some (.row 87 (flat Bd.cells l))) ?_ ?_
   ·exact⟨by simp[s1],by simp[s2],by simp[s3],by simp[s4],by simp,by omega,fun k hk=>by repeat rw[Hp.upd_ne _ _ (by omega)],by simp⟩
   rintro u H ny ⟨u1,u2,u3,u4,u5,rfl,hH,hr5⟩;have h0:H 0=some (.var 33 [rowT Alt.cells r]):=(by rw[hH 0 (by omega)];exact g0);have h1:H 1=some (.var 33 [.v (.slice none 0 0)]):=(by rw[hH 1 (by omega)];exact g1);have h2:H 2=some (.var 33 [x]):=(by rw[hH 2 (by omega)];exact g2);have hT:treeOf Tryz.prog H (.row (nx+1) l.length)=some (rowT Bd.cells l):=treeOf_of hr5 c87 rfl;have m0:¬0=nx+1:=(by omega);have z0:¬nx=0:=(by omega);have z1:¬nx=1:=(by omega);have w1:(frzOf H (.row (nx+1) l.length)) 1=H 1:=frzOf_ne (by omega);have w0:(frzOf H (.row (nx+1) l.length)) 0=H 0:=frzOf_ne (by omega);have m1:¬1=nx+1:=(by omega);have m2:¬2=nx+1:=(by omega);have m3:¬2=nx+2:=(by omega);have m4:¬0=nx+2:=(by omega);have m5:¬1=nx+2:=(by omega);have m6:¬2=nx+2+1:=(by omega);have m7:¬0=nx+2+1:=(by omega);have m8:¬1=nx+2+1:=(by omega);rcases hx with⟨rfl,hnil⟩ | ⟨q,rfl,hq,hG⟩
   ·rw[hnil]at htl hst;have hi0:i=0:=(by simpa using htl.symm);with_reducible refine aS fun K' hK=> ?_
    simp[u3,u5,h2,hT,m2,m3,z0,z1,b3,b4,treeOf_row,srcOf_row];refine hK _ _ _ ?_;clear K' hK;with_reducible refine aw_skipL ?_
    refine blockK_normal ?_;with_reducible refine aS fun K' hK=> ?_
    simp[u4,hw];refine hK _ _ _ ?_;clear K' hK;refine aw_skipL (loopK_normal ?_ ?_)
    ·exact⟨by omega,by simp[u1],by simp[u2],by simp[u3],by simp[m0,m4,m7,h0,w0],by simp[m1,m5,m8,h1,w1],i+1,.row (nx+2+1) 1,by simp[hw],by omega,by simp[m6],.inr ⟨nx+2+1,by rw[hst];rfl,by omega,by rw[hst];simp;rfl⟩⟩
    ·simp[o4,hw,u4];omega
   ·have hqn:q<nx:=fresh_lt hf hG;have hHq:H q=some (.row 83 (flat Alt.cells (r.take i))):=(by rw[hH q hqn];exact hG);have k1:¬q=nx+1:=(by omega);have k2:¬q=nx+2:=(by omega);have k3:¬nx+2=q:=(by omega);have k4:¬q=2:=(by omega);have k5:¬2=q:=(by omega);have k6:¬0=q:=(by omega);have k7:¬1=q:=(by omega);have htl':min i r.length=i:=(by omega);with_reducible refine aS fun K' hK=> ?_
    simp[htl',u3,u5,h2,hT,m2,m3,z0,z1,b3,b4,k1,k2,k3,k4,k5,hHq,treeOf_row,srcOf_row];refine hK _ _ _ ?_;clear K' hK;with_reducible refine aw_skipL ?_
    refine blockK_normal ?_;with_reducible refine aS fun K' hK=> ?_
    simp[u4,hw];refine hK _ _ _ ?_;clear K' hK;refine aw_skipL (loopK_normal ?_ ?_)
    ·exact⟨by omega,by simp[u1],by simp[u2],by simp[u3],by simp[m0,m4,m7,h0,k6,w0],by simp[m1,m5,m8,h1,k7,w1],i+1,.row (nx+2+1) (i+1),by simp[hw],by omega,by simp[m6],.inr ⟨nx+2+1,by rw[hst,List.length_append,htl];rfl,by omega,by rw[hst,←flat_snoc];simp;rfl⟩⟩
    ·simp[o4,hw,u4];omega
  ·skip;with_reducible refine aw_exit ?_
   refine loopK_exit (blockK_exit ?_);rw[List.take_of_length_le (by omega)]at hx;rcases hx with⟨rfl,rfl⟩ | ⟨q,rfl,hq,hG⟩
   ·exact absurd rfl hne
   ·have k1:¬q=1:=(by omega);with_reducible refine aR fun K' hK=> ?_
    simp[s2,s3,g1,g2];refine hK _ _ _ ?_;clear K' hK;with_reducible refine aw_retL ?_
    simp[blockK,loopK,Post,resA,res1,expT,expA,exp1,expM,expL,okT,okA,ok1,rowOf,Tryz.f86,k1,hG,s2]
theorem own86_ok (r:Rg) (hr:r.length<1000000000000∧∀l∈r,l.length<1000000000000):CallsOK Tryz.prog 86 [.agg r.cells] (.agg [.row 0 r.length]) [(83,flat Alt.cells r)]:=by
 by_cases h:r=[]
 ·subst h;exact own86_nil.nilRow 83
 ·exact own86_cons r h hr
set_option maxRecDepth 100000
set_option maxHeartbeats 4000000
theorem own34_ok (m:Man) (hm:Man.okS m):CallsOK Tryz.prog 34 [.agg m.cells] (.agg (m.cellsR (.row 0 m.deps.length) (.row 1 m.rules.length))) [(35,flat Dep.cells m.deps),(96,flat Ru.cells m.rules)]:=by
 refine callsOK mixed Tryz.call34 Tryz.func34 rfl (by rw[Tryz.ntmps34];simp) ?_ rfl;rw[Tryz.ntmps34];obtain⟨⟨hdl,hdd⟩,hrl,hrr⟩:=hm;have c83:Tryz.prog.cellsOf 83=1:=(by kernel_rfl);with_reducible refine aR fun K' hK=> ?_
 simp;refine hK _ _ _ ?_;clear K' hK;with_reducible refine aR fun K' hK=> ?_
 simp;refine hK _ _ _ ?_;clear K' hK;with_reducible refine aA ?_;refine aw_un ?_
 refine aw_cut (fun s G nx=>2≤nx∧s 1=.ptr 0 0∧s 2=.ptr 1 0∧G 0=some (.var 27 m.cells)∧G 1=some (.var 27 manN)∧∃q,s 3=.row q m.deps.length∧2≤q∧q<nx∧G q=some (.row 35 (flat Dep.cells m.deps))) ?_ ?_
 ·skip;with_reducible refine aR fun K' hK=> ?_
  simp;refine hK _ _ _ ?_;clear K' hK;with_reducible refine aw_toS (aw_block ?_)
  refine aw_loop (fun s G nx=>s 1=.ptr 0 0∧s 2=.ptr 1 0∧G 0=some (.var 27 m.cells)∧G 1=some (.var 27 manN)∧∃i q:Nat,s 4=iV i∧i≤m.deps.length∧s 3=.row q i∧2≤q∧G q=some (.row 35 (flat Dep.cells (m.deps.take i)))) (fun s _ _=>match s 4 with | .v (.int _ n)=>m.deps.length-n.toNat | _=>0) ?_ ?_
  ·exact⟨by simp,by simp,by simp,by simp,0,2,by simp,by omega,by simp,by omega,by simp⟩
  ·rintro s G nx hf ⟨s1,s2,g0,g1,i,q,s4,hi,s3,hq,hG⟩;have o4:=s4;have hw:IntKind.i64.wrap (↑i+1)=((i+1:Nat):Int):=wrapS (by omega);with_reducible refine aA ?_;refine aR fun K' hK=> ?_
   simp[s1,s4,g0];refine hK _ _ _ ?_;clear K' hK;with_reducible refine aC fun A B hA hB=> ?_
   simp;refine⟨fun hi2=>hA ?_,fun hi2=>hB ?_⟩<;>clear hA hB A B<;>(try simp at hi2)<;>(try with_reducible refine aK ?_)
   ·have hst:m.deps.take (i+1)=m.deps.take i++[nth m.deps i]:=(by rw[List.take_add_one,List.getElem?_eq_getElem hi2,←nth_eq hi2];rfl);have hdr:=(hdd _ (nth_mem hi2)).2;have hqn:q<nx:=fresh_lt hf hG;have htl:min i m.deps.length=i:=(by omega);have b1:i+1≤9223372036854775807:=(by omega);have b2:(i+1)*48≤140737488355328:=(by omega);generalize hgd:nth m.deps i=d at*;have hT:∀H:Hp,H nx=some (.row 83 (flat Alt.cells d.range))→treeOf Tryz.prog H (.row nx d.range.length)=some (rowT Alt.cells d.range):=fun H h=>treeOf_of h c83 rfl;have hT1:=hT (G.upd nx (.row 83 (flat Alt.cells d.range))) (by simp);have n0:¬0=nx:=(by omega);have n1:¬1=nx:=(by omega);have n2:¬q=nx:=(by omega);have n3:¬q=nx+1:=(by omega);have n4:¬nx+1=q:=(by omega);have n5:¬0=nx+1:=(by omega);have n6:¬1=nx+1:=(by omega);have n7:¬0=nx+1+1:=(by omega);have n8:¬1=nx+1+1:=(by omega);have n9:¬0=q:=(by omega);have na:¬1=q:=(by omega);with_reducible refine aw_block ?_;refine aT fun K' hK=> ?_
    simp[s1,s3,s4,g0,hi2,hgd];refine acall_new (own86_ok d.range ⟨by omega,fun l hl=>by have:=hdr.2 l hl;omega⟩) (by first | rfl | (simp[Rg.cells];done) | (simp[Rg.cells];rfl) | (simp[Rg.cells];exact⟨rfl,rfl⟩)) ?_;simp[addJ_one,Rg.cells,hT1,n2,n3,n4,hG,htl,b1,b2,treeOf_row,srcOf_row];have w0:frzOf (G.upd nx (.row 83 (flat Alt.cells d.range))) (.row nx d.range.length) 0=G 0:=(by rw[frzOf_ne (by omega),Hp.upd_ne _ _ (by omega)]);have w1:frzOf (G.upd nx (.row 83 (flat Alt.cells d.range))) (.row nx d.range.length) 1=G 1:=(by rw[frzOf_ne (by omega),Hp.upd_ne _ _ (by omega)]);refine hK _ _ _ ?_;clear K' hK;with_reducible refine aw_skipL ?_
    refine blockK_normal ?_;with_reducible refine aS fun K' hK=> ?_
    simp[s4,hw];refine hK _ _ _ ?_;clear K' hK;refine aw_skipL (loopK_normal ?_ ?_)
    ·exact⟨by simp[s1],by simp[s2],by simp[n5,n7,n9,w0,g0],by simp[show¬nx=0 by omega,n8,na,w1,g1],i+1,nx+1+1,by simp[hw],by omega,by simp,by omega,by rw[hst,←flat_snoc];simp;rfl⟩
    ·simp[o4,s4,hw];omega
   ·skip;with_reducible refine aw_exit ?_
    refine loopK_exit (blockK_exit ?_);have hie:i=m.deps.length:=(by omega);subst hie;rw[List.take_length]at hG;have hqn:q<nx:=fresh_lt hf hG;with_reducible refine aw_end ?_
    exact⟨by omega,by simp[s1],by simp[s2],by simp[g0],by simp[g1],q,by simp[s3],hq,hqn,hG⟩
 ·rintro s G nx ⟨hnx,s1,s2,g0,g1,q3,s3,hq3,hqn3,hG3⟩;with_reducible refine aR fun K' hK=> ?_
  simp;refine hK _ _ _ ?_;clear K' hK;with_reducible refine aA ?_;refine aw_un ?_
  refine aw_cut (fun s' G' nx'=>s' 1=.ptr 0 0∧s' 2=.ptr 1 0∧G' 0=some (.var 27 m.cells)∧G' 1=some (.var 27 manN)∧s' 3=.row q3 m.deps.length∧G' q3=some (.row 35 (flat Dep.cells m.deps))∧∃q,s' 5=.row q m.rules.length∧2≤q∧G' q=some (.row 96 (flat Ru.cells m.rules))) ?_ ?_
  ·skip;with_reducible refine aR fun K' hK=> ?_
   simp;refine hK _ _ _ ?_;clear K' hK;with_reducible refine aw_toS (aw_block ?_)
   have n0:¬0=nx:=(by omega);have n1:¬1=nx:=(by omega);have n3:¬q3=nx:=(by omega);refine aw_loop (fun s G nx=>s 1=.ptr 0 0∧s 2=.ptr 1 0∧G 0=some (.var 27 m.cells)∧G 1=some (.var 27 manN)∧s 3=.row q3 m.deps.length∧G q3=some (.row 35 (flat Dep.cells m.deps))∧∃i q:Nat,s 6=iV i∧i≤m.rules.length∧s 5=.row q i∧2≤q∧G q=some (.row 96 (flat Ru.cells (m.rules.take i)))) (fun s _ _=>match s 6 with | .v (.int _ n)=>m.rules.length-n.toNat | _=>0) ?_ ?_
   ·exact⟨by simp[s1],by simp[s2],by simp[g0,n0],by simp[g1,n1],by simp[s3],by simp[hG3,n3],0,nx,by simp,by omega,by simp,by omega,by simp⟩
   ·clear s1 s2 g0 g1 s3 hG3 hnx hqn3 n0 n1 n3 s G nx;rintro s G nx hf ⟨s1,s2,g0,g1,s3,hG3,i,q,s6,hi,s5,hq,hG⟩;have o6:=s6;have hw:IntKind.i64.wrap (↑i+1)=((i+1:Nat):Int):=wrapS (by omega);with_reducible refine aA ?_;refine aR fun K' hK=> ?_
    simp[s1,s6,g0];refine hK _ _ _ ?_;clear K' hK;with_reducible refine aC fun A B hA hB=> ?_
    simp;refine⟨fun hi2=>hA ?_,fun hi2=>hB ?_⟩<;>clear hA hB A B<;>(try simp at hi2)<;>(try with_reducible refine aK ?_)
    ·have hst:m.rules.take (i+1)=m.rules.take i++[nth m.rules i]:=(by rw[List.take_add_one,List.getElem?_eq_getElem hi2,←nth_eq hi2];rfl);have hdr:=hrr _ (nth_mem hi2);have hqn:q<nx:=fresh_lt hf hG;have hqn3:q3<nx:=fresh_lt hf hG3;have hqq:¬q3=q:=fun e=>(by subst e;rw[hG3]at hG;injection hG with hG;injection hG with hG;cases hG);have htl:min i m.rules.length=i:=(by omega);have b1:i+1≤9223372036854775807:=(by omega);have b2:(i+1)*40≤140737488355328:=(by omega);generalize hgd:nth m.rules i=d at*;have hT:∀H:Hp,H nx=some (.row 83 (flat Alt.cells d.range))→treeOf Tryz.prog H (.row nx d.range.length)=some (rowT Alt.cells d.range):=fun H h=>treeOf_of h c83 rfl;have hT1:=hT (G.upd nx (.row 83 (flat Alt.cells d.range))) (by simp);have n0:¬0=nx:=(by omega);have n1:¬1=nx:=(by omega);have n2:¬q=nx:=(by omega);have n3:¬q=nx+1:=(by omega);have n4:¬nx+1=q:=(by omega);have n5:¬0=nx+1:=(by omega);have n6:¬1=nx+1:=(by omega);have n7:¬0=nx+1+1:=(by omega);have n8:¬1=nx+1+1:=(by omega);have n9:¬0=q:=(by omega);have na:¬1=q:=(by omega);have nb:¬q3=nx+1:=(by omega);have nc:¬q3=nx+1+1:=(by omega);with_reducible refine aw_block ?_;refine aT fun K' hK=> ?_
     simp[s1,s5,s6,g0,hi2,hgd];refine acall_new (own86_ok d.range ⟨by omega,fun l hl=>by have:=hdr.2 l hl;omega⟩) (by first | rfl | (simp[Rg.cells];done) | (simp[Rg.cells];rfl) | (simp[Rg.cells];exact⟨rfl,rfl⟩)) ?_;simp[addJ_one,Rg.cells,hT1,n2,n3,n4,hG,htl,b1,b2,treeOf_row,srcOf_row];have w0:frzOf (G.upd nx (.row 83 (flat Alt.cells d.range))) (.row nx d.range.length) 0=G 0:=(by rw[frzOf_ne (by omega),Hp.upd_ne _ _ (by omega)]);have w1:frzOf (G.upd nx (.row 83 (flat Alt.cells d.range))) (.row nx d.range.length) 1=G 1:=(by rw[frzOf_ne (by omega),Hp.upd_ne _ _ (by omega)]);have w3:frzOf (G.upd nx (.row 83 (flat Alt.cells d.range))) (.row nx d.range.length) q3=G q3:=(by rw[frzOf_ne (by omega),Hp.upd_ne _ _ (by omega)]);refine hK _ _ _ ?_;clear K' hK;with_reducible refine aw_skipL ?_
     refine blockK_normal ?_;with_reducible refine aS fun K' hK=> ?_
     simp[s6,hw];refine hK _ _ _ ?_;clear K' hK;refine aw_skipL (loopK_normal ?_ ?_)
     ·exact⟨by simp[s1],by simp[s2],by simp[n5,n7,n9,w0,g0],by simp[show¬nx=0 by omega,n8,na,w1,g1],by simp[s3],by simp[nb,nc,hqq,w3,hG3],i+1,nx+1+1,by simp[hw],by omega,by simp,by omega,by rw[hst,←flat_snoc];simp;rfl⟩
     ·simp[o6,s6,hw];omega
    ·skip;with_reducible refine aw_exit ?_
     refine loopK_exit (blockK_exit ?_);have hie:i=m.rules.length:=(by omega);subst hie;rw[List.take_length]at hG;with_reducible refine aw_end ?_
     exact⟨by simp[s1],by simp[s2],by simp[g0],by simp[g1],by simp[s3],hG3,q,by simp[s5],hq,hG⟩
  ·clear s1 s2 g0 g1 s3 hG3 hnx hqn3 s G nx;rintro s G nx ⟨s1,s2,g0,g1,s3,hG3,q,s5,hq,hG⟩;have hqq:q3≠q:=fun e=>(by subst e;rw[hG3]at hG;injection hG with hG;injection hG with hG;cases hG);have k0:¬q3=0:=(by omega);have k1:¬q3=1:=(by omega);have k2:¬q=0:=(by omega);have k3:¬q=1:=(by omega);with_reducible refine aR fun K' hK=> ?_
   simp[s1,s3,g0,Man.cells];refine hK _ _ _ ?_;clear K' hK;with_reducible refine aR fun K' hK=> ?_
   simp[s1,s5,g0,Man.cells];refine hK _ _ _ ?_;clear K' hK;with_reducible refine aR fun K' hK=> ?_
   simp[s1,s2,g0,g1,Man.cells];refine hK _ _ _ ?_;clear K' hK;with_reducible refine aw_retL ?_
   simp[blockK,loopK,Post,resA,res1,expT,expA,exp1,expM,expL,okT,okA,ok1,rowOf,Tryz.f34,s2,k0,k1,k2,k3,hG,hG3,hqq,Ne.symm hqq];exact⟨[q3,q],⟨rfl,rfl⟩,by simp[Man.cellsR],by simp[rowOf,k0,k1,k2,k3,hG,hG3]⟩
set_option maxRecDepth 100000
set_option maxHeartbeats 4000000
theorem counts239_ok (d:Dep) (root:Bool):CallsOK Tryz.prog 239 [.agg d.cells,bV root] (bV (countsF d root)) []:=by
 refine callsOK mixed Tryz.call239 Tryz.func239 rfl (by rw[Tryz.ntmps239];simp) ?_ rfl;rw[Tryz.ntmps239];with_reducible refine aR fun K' hK=> ?_
 simp;refine hK _ _ _ ?_;clear K' hK;by_cases k1:d.kind=1
 ·skip;with_reducible refine aR fun K' hK=> ?_
  simp[k1];refine hK _ _ _ ?_;clear K' hK;with_reducible refine aw_retL ?_
  simp[blockK,loopK,Post,resA,res1,expT,expA,exp1,expM,expL,okT,okA,ok1,rowOf,Tryz.f239];simp[countsF,k1]
 ·by_cases k3:d.kind=3
  ·skip;with_reducible refine aR fun K' hK=> ?_
   simp[k3];refine hK _ _ _ ?_;clear K' hK;with_reducible refine aw_retL ?_
   simp[blockK,loopK,Post,resA,res1,expT,expA,exp1,expM,expL,okT,okA,ok1,rowOf,Tryz.f239];simp[countsF,k3]
  ·by_cases k4:d.kind=4
   ·skip;with_reducible refine aR fun K' hK=> ?_
    simp[k4];refine hK _ _ _ ?_;clear K' hK;with_reducible refine aw_retL ?_
    simp[blockK,loopK,Post,resA,res1,expT,expA,exp1,expM,expL,okT,okA,ok1,rowOf,Tryz.f239];simp[countsF,k4]
   ·by_cases k2:d.kind=2
    ·skip;with_reducible refine aR fun K' hK=> ?_
     simp[k2];refine hK _ _ _ ?_;clear K' hK;with_reducible refine aw_retL ?_
     simp[blockK,loopK,Post,resA,res1,expT,expA,exp1,expM,expL,okT,okA,ok1,rowOf,Tryz.f239];simp[countsF,k2]
    ·skip;with_reducible refine aR fun K' hK=> ?_
     simp[k1,k2,k3,k4];refine hK _ _ _ ?_;clear K' hK;with_reducible refine aw_retL ?_
     simp[blockK,loopK,Post,resA,res1,expT,expA,exp1,expM,expL,okT,okA,ok1,rowOf,Tryz.f239];simp[countsF,k1,k2,k3,k4]
theorem atF_some {rules:List Ru} {name:Bs} {i:Nat} (hi:i<rules.length) (h:(nth rules i).name=name) (hno:∀j,j<i→(nth rules j).name≠name):atF rules name=some i:=by
 unfold atF;rw[List.findIdx?_eq_some_iff_getElem];refine⟨hi,by rw[←nth_eq hi];simpa using h,fun j hj=> ?_⟩;rw[←nth_eq (by omega:j<rules.length)];simpa using hno j hj
theorem atF_none {rules:List Ru} {name:Bs} (hno:∀j,j<rules.length→(nth rules j).name≠name):atF rules name=none:=by
 unfold atF;rw[List.findIdx?_eq_none_iff];intro d hd;obtain⟨j,hj,rfl⟩:=List.mem_iff_getElem.1 hd;rw[←nth_eq hj];simpa using hno j hj
def ruleR (rules:List Ru) (name:Bs):AV×Js:=match atF rules name with
 | some i=>(.tup [.agg [.row 0 (nth rules i).range.length],bV true],[(83,flat Alt.cells (nth rules i).range)])
 | none=>(.tup [.agg [.v (.slice none 0 0)],bV false],[])
theorem rule240_ok (rules:List Ru) (name:Bs) (hl:Ru.okL rules):CallsOK Tryz.prog 240 [rowT Ru.cells rules,sV name] (ruleR rules name).1 (ruleR rules name).2:=by
 have hll:=hl.1;refine callsOK mixed Tryz.call240 Tryz.func240 rfl (by rw[Tryz.ntmps240];simp) ?_ (by unfold ruleR;split<;>rfl);rw[Tryz.ntmps240];with_reducible refine aR fun K' hK=> ?_
 simp;refine hK _ _ _ ?_;clear K' hK;with_reducible refine aA ?_;refine aR fun K' hK=> ?_
 simp;refine hK _ _ _ ?_;clear K' hK;with_reducible refine aw_block ?_
 refine aw_loop (fun s G nx=>nx=1∧s 0=rowT Ru.cells rules∧s 1=sV name∧s 4=.ptr 0 0∧G 0=some (.var 33 [.v (.slice none 0 0)])∧∃i:Nat,s 6=iV i∧i≤rules.length∧∀j,j<i→(nth rules j).name≠name) (fun s _ _=>match s 6 with | .v (.int _ n)=>rules.length-n.toNat | _=>0) ?_ ?_
 ·exact⟨by simp,by simp,by simp,by simp,by simp,0,by simp,by omega,fun j hj=>by omega⟩
 ·rintro s G nx hf ⟨rfl,s0,s1,s4,g0,i,s6,hi,hno⟩;have hw:IntKind.i64.wrap (↑i+1)=((i+1:Nat):Int):=wrapS (by omega);with_reducible refine aA ?_;refine aR fun K' hK=> ?_
  simp[s0,s6];refine hK _ _ _ ?_;clear K' hK;with_reducible refine aC fun A B hA hB=> ?_
  simp;refine⟨fun hi2=>hA ?_,fun hi2=>hB ?_⟩<;>clear hA hB A B<;>(try simp at hi2)<;>(try with_reducible refine aK ?_)
  ·have hdr:=hl.2 _ (nth_mem hi2);with_reducible refine aw_block ?_
   by_cases hn:(nth rules i).name=name
   ·have hv:ruleR rules name=(.tup [.agg [.row 0 (nth rules i).range.length],bV true],[(83,flat Alt.cells (nth rules i).range)]):=(by unfold ruleR;rw[atF_some hi2 hn hno]);rw[hv];with_reducible refine aR fun K' hK=> ?_
    simp[s0,s1,s6,hi2,hn];refine hK _ _ _ ?_;clear K' hK;with_reducible refine aU (by simp[hn]) ?_;refine aA ?_;refine aR fun K' hK=> ?_
    simp[s0,s4,s6,hi2,g0];refine acall_new (own86_ok (nth rules i).range ⟨by omega,fun l hl=>by have:=hdr.2 l hl;omega⟩) (by first | rfl | (simp[Rg.cells];done) | (simp[Rg.cells];rfl) | (simp[Rg.cells];exact⟨rfl,rfl⟩)) ?_;simp[addJ_one,g0,s4];refine hK _ _ _ ?_;clear K' hK;with_reducible refine aw_ret ?_
    simp[blockK,loopK,Post,resA,res1,expT,expA,exp1,expM,expL,okT,okA,ok1,rowOf,Tryz.f240,s4]
   ·skip;with_reducible refine aR fun K' hK=> ?_
    simp[s0,s1,s6,hi2,hn];refine hK _ _ _ ?_;clear K' hK;with_reducible refine aVk (by simp[hn]) ?_;refine aw_skipL ?_
    refine blockK_normal ?_;with_reducible refine aS fun K' hK=> ?_
    simp[s6,hw];refine hK _ _ _ ?_;clear K' hK;refine aw_skipL (loopK_normal ?_ ?_)
    ·exact⟨rfl,by simp[s0],by simp[s1],by simp[s4],by simp[g0],i+1,by simp[hw],by omega,fun j hj=>by
      by_cases h:j=i
      ·subst h;exact hn
      ·exact hno j (by omega)⟩
    ·simp[s6,hw];omega
  ·skip;with_reducible refine aw_exit ?_
   refine loopK_exit (blockK_exit ?_);have hv:ruleR rules name=(.tup [.agg [.v (.slice none 0 0)],bV false],[]):=(by unfold ruleR;rw[atF_none fun j hj=>hno j (by omega)]);rw[hv];with_reducible refine aR fun K' hK=> ?_
   simp[s4,g0];refine hK _ _ _ ?_;clear K' hK;with_reducible refine aw_retL ?_
   simp[blockK,loopK,Post,resA,res1,expT,expA,exp1,expM,expL,okT,okA,ok1,rowOf,Tryz.f240,s4]
theorem find78_ok (L:List Man) (hl:L.length≤1000000000) (hm:∀m∈L,Man.okS m) (n:Bs) (v:Ver):CallsOK Tryz.prog 78 [rowT Man.cells L,sV n,.agg v.cells] (manR (findM L n v)).1 (manR (findM L n v)).2:=by
 refine callsOK mixed Tryz.call78 Tryz.func78 rfl (by rw[Tryz.ntmps78];simp) ?_ (by cases findM L n v<;>rfl);rw[Tryz.ntmps78];with_reducible refine aR fun K' hK=> ?_
 simp;refine hK _ _ _ ?_;clear K' hK;with_reducible refine aA ?_;refine aR fun K' hK=> ?_
 simp;refine hK _ _ _ ?_;clear K' hK;with_reducible refine aw_block ?_
 refine aw_loop (fun s G nx=>nx=2∧s 0=rowT Man.cells L∧s 1=sV n∧s 5=.ptr 0 0∧s 6=.ptr 1 0∧G 0=some (.var 23 v.cells)∧G 1=some (.var 27 manN)∧∃i:Nat,s 8=iV i∧i≤L.length∧findM L n v=findM (L.drop i) n v) (fun s _ _=>match s 8 with | .v (.int _ n)=>L.length-n.toNat | _=>0) ?_ ?_
 ·exact⟨by simp,by simp,by simp,by simp,by simp,by simp,by simp,0,by simp,by omega,by simp⟩
 ·rintro s G nx hf ⟨rfl,s0,s1,s5,s6,g0,g1,i,s8,hi,ht⟩;have hw:IntKind.i64.wrap (↑i+1)=((i+1:Nat):Int):=wrapS (by omega);with_reducible refine aA ?_;refine aR fun K' hK=> ?_
  simp[s0,s8];refine hK _ _ _ ?_;clear K' hK;with_reducible refine aC fun A B hA hB=> ?_
  simp;refine⟨fun hi2=>hA ?_,fun hi2=>hB ?_⟩<;>clear hA hB A B<;>(try simp at hi2)<;>(try with_reducible refine aK ?_)
  ·have hst:=findM_drop (n:=n) (v:=v) hi2;have hmo:=hm _ (nth_mem hi2);generalize hgm:nth L i=m at*;have hhit:hitM n v m=(decide (m.name=n)&&decide (m.ver=v)):=rfl;with_reducible refine aw_block ?_
   by_cases h1:m.name=n
   ·by_cases h2:m.ver=v
    ·have h1':(m.name=n)=True:=eq_true h1;have h2':(m.ver=v)=True:=eq_true h2;have hv:findM L n v=some m:=(by rw[ht,hst,hhit];simp[h1,h2]);rw[hv];with_reducible refine aQ fun K' hK=> ?_
     simp(maxSteps:=1000000) [s0,s1,s5,s8,g0,hi2,hgm,h1',h2'];refine hK _ _ _ ?_;clear K' hK;with_reducible refine aU (by simp) ?_;refine aA ?_;refine aR fun K' hK=> ?_
     simp[s0,s8,s6,hi2,hgm,g1];refine acall_new (own34_ok m hmo) (by first | rfl | (simp;done) | (simp;rfl) | (simp;exact⟨rfl,rfl⟩)) ?_;simp[addJ_two,g1,s6];refine hK _ _ _ ?_;clear K' hK;with_reducible refine aw_ret ?_
     simp[blockK,loopK,Post,resA,res1,Tryz.f78,manR,s6];exact manR_end true (by omega) (by simp) (by simp)
    ·have h1':(m.name=n)=True:=eq_true h1;have hd:findM L n v=findM (L.drop (i+1)) n v:=(by rw[ht,hst,hhit];simp[h2]);with_reducible refine aQ fun K' hK=> ?_
     simp(maxSteps:=1000000) [s0,s1,s5,s8,g0,hi2,hgm,h1',h2];refine hK _ _ _ ?_;clear K' hK;with_reducible refine aVk (by simp) ?_;refine aw_skipL ?_
     refine blockK_normal ?_;with_reducible refine aS fun K' hK=> ?_
     simp[s8,hw];refine hK _ _ _ ?_;clear K' hK;refine aw_skipL (loopK_normal ?_ ?_)
     ·exact⟨rfl,by simp[s0],by simp[s1],by simp[s5],by simp[s6],by simp[g0],by simp[g1],i+1,by simp[hw],by omega,hd⟩
     ·simp[s8,hw];omega
   ·have hd:findM L n v=findM (L.drop (i+1)) n v:=(by rw[ht,hst,hhit];simp[h1]);with_reducible refine aQ fun K' hK=> ?_
    simp(maxSteps:=1000000) [s0,s1,s5,s8,g0,hi2,hgm,h1];refine hK _ _ _ ?_;clear K' hK;with_reducible refine aVk (by simp) ?_;refine aw_skipL ?_
    refine blockK_normal ?_;with_reducible refine aS fun K' hK=> ?_
    simp[s8,hw];refine hK _ _ _ ?_;clear K' hK;refine aw_skipL (loopK_normal ?_ ?_)
    ·exact⟨rfl,by simp[s0],by simp[s1],by simp[s5],by simp[s6],by simp[g0],by simp[g1],i+1,by simp[hw],by omega,hd⟩
    ·simp[s8,hw];omega
  ·skip;with_reducible refine aw_exit ?_
   refine loopK_exit (blockK_exit ?_);have hv:findM L n v=none:=(by rw[ht,List.drop_of_length_le (by omega)];rfl);rw[hv];with_reducible refine aR fun K' hK=> ?_
   simp[s6,g1];refine hK _ _ _ ?_;clear K' hK;with_reducible refine aw_retL ?_
   simp[blockK,loopK,Post,resA,res1,expT,expA,exp1,expM,expL,okT,okA,ok1,rowOf,Tryz.f78,manR,s6]
set_option maxRecDepth 100000
set_option maxHeartbeats 400000
def candD (root first:Bool) (last:Bs) (d:Dep):Bool:=countsF d root&&(first || ltB last d.name)
def stepX (root first:Bool) (last:Bs) (b:Option Bs) (d:Dep):Option Bs:=if candD root first last d=true∧(∀x,b=some x→ltB d.name x=true)then some d.name else b
def nextN (root first:Bool) (last:Bs) (ds:List Dep):Option Bs:=ds.foldl (stepX root first last) none
theorem nextN_take {root first:Bool} {last:Bs} {ds:List Dep} {i:Nat} (h:i<ds.length):nextN root first last (ds.take (i+1))=stepX root first last (nextN root first last (ds.take i)) (nth ds i):=by
 unfold nextN;rw[List.take_add_one,List.getElem?_eq_getElem h,nth_eq h];rw[List.foldl_append];rfl
def LeastN (root first:Bool) (last:Bs) (ds:List Dep):Option Bs→Prop
 | none=>∀d∈ds,candD root first last d=false
 | some x=>(∃d∈ds,candD root first last d=true∧d.name=x)∧∀d∈ds,candD root first last d=true→ltB d.name x=false
theorem nextN_least (root first:Bool) (last:Bs) (ds:List Dep):LeastN root first last ds (nextN root first last ds):=by
 have:∀i,i≤ds.length→LeastN root first last (ds.take i) (nextN root first last (ds.take i)):=by
  intro i;induction i with
  | zero=>intro _;exact fun d hd=>by simp at hd
  | succ i ih=>
   intro hi;have ih:=ih (by omega);have hst:ds.take (i+1)=ds.take i++[nth ds i]:=(by rw[List.take_add_one,List.getElem?_eq_getElem (by omega),←nth_eq (by omega)];rfl);rw[nextN_take (by omega)];rw[hst];generalize nth ds i=d at*;generalize ds.take i=l at*;generalize nextN root first last l=b at*;unfold stepX;by_cases hc:candD root first last d=true
   ·cases b with
    | none=>
     rw[if_pos ⟨hc,fun x h=>by cases h⟩];refine⟨⟨d,by simp,hc,rfl⟩,fun e he hce=> ?_⟩;rcases List.mem_append.1 he with h | h
     ·rw[ih e h]at hce;cases hce
     ·have:e=d:=(by simpa using h);subst this;exact ltB_irr _
    | some x=>
     obtain⟨⟨y,hy,hcy,hyx⟩,hmin⟩:=ih;by_cases hlt:ltB d.name x=true
     ·rw[if_pos ⟨hc,fun z hz=>by injection hz with hz;subst hz;exact hlt⟩];refine⟨⟨d,by simp,hc,rfl⟩,fun e he hce=> ?_⟩;rcases List.mem_append.1 he with h | h
      ·rw[Bool.eq_false_iff];intro hed;have h1:=hmin e h hce;rw[ltB_trans hed hlt]at h1;cases h1
      ·have:e=d:=(by simpa using h);subst this;exact ltB_irr _
     ·rw[if_neg (fun h=>hlt (h.2 x rfl))];refine⟨⟨y,by simp[hy],hcy,hyx⟩,fun e he hce=> ?_⟩;rcases List.mem_append.1 he with h | h
      ·exact hmin e h hce
      ·have:e=d:=(by simpa using h);subst this;simpa using hlt
   ·rw[if_neg (fun h=>hc h.1)];cases b with
    | none=>
     intro e he;rcases List.mem_append.1 he with h | h
     ·exact ih e h
     ·have:e=d:=(by simpa using h);subst this;simpa using hc
    | some x=>
     obtain⟨⟨y,hy,hcy,hyx⟩,hmin⟩:=ih;refine⟨⟨y,by simp[hy],hcy,hyx⟩,fun e he hce=> ?_⟩;rcases List.mem_append.1 he with h | h
     ·exact hmin e h hce
     ·have:e=d:=(by simpa using h);subst this;exact absurd hce hc
 have h:=this ds.length (Nat.le_refl _)
 rwa [List.take_length]at h
theorem byM_names (root:Bool) (ds:List Dep) (n:Bs):n∈namesOf (byM root ds)↔∃d∈ds,countsF d root=true∧d.name=n:=by
 have:∀i,i≤ds.length→(n∈namesOf (byM root (ds.take i))↔∃d∈ds.take i,countsF d root=true∧d.name=n):=by
  intro i;induction i with
  | zero=>intro _;simp[byM,namesOf]
  | succ i ih=>
   intro hi;have ih:=ih (by omega);have hst:ds.take (i+1)=ds.take i++[nth ds i]:=(by rw[List.take_add_one,List.getElem?_eq_getElem (by omega),←nth_eq (by omega)];rfl);rw[byM_take root (by omega)];rw[hst];generalize nth ds i=d at*;generalize ds.take i=l at*;generalize byM root l=M at*;have hr:(∃e∈l++[d],countsF e root=true∧e.name=n)↔(∃e∈l,countsF e root=true∧e.name=n)∨(countsF d root=true∧d.name=n):=by
    constructor
    ·rintro⟨e,he,h⟩;rcases List.mem_append.1 he with h1 | h1
     ·exact .inl ⟨e,h1,h⟩
     ·have:e=d:=(by simpa using h1);subst this;exact .inr h
    ·rintro(⟨e,he,h⟩ | h)
     ·exact⟨e,by simp[he],h⟩
     ·exact⟨d,by simp,h⟩
   rw[hr,←ih];unfold stepM;by_cases hc:countsF d root=true
   ·by_cases hk:∀i,posM M d.name=some i→d.kind<(nth M i).kind
    ·rw[if_pos ⟨hc,hk⟩];rcases putM_names (M:=M) d with⟨h1,h2⟩ | ⟨h1,h2⟩
     ·rw[h2];exact⟨.inl,fun h=>h.elim id fun h=>by rw[←h.2];exact h1⟩
     ·rw[h2,List.mem_append];exact⟨fun h=>h.imp id fun h=>⟨hc,by simpa using Eq.symm (by simpa using h)⟩,fun h=>h.imp id fun h=>by simp[h.2]⟩
    ·rw[if_neg (fun h=>hk h.2)];have hin:d.name∈namesOf M:=by
      rcases Classical.em (d.name∈namesOf M)with h | h
      ·exact h
      ·exact absurd (fun i hi=>by rw[posM_none.2 h]at hi;cases hi) hk
     exact⟨.inl,fun h=>h.elim id fun h=>by rw[←h.2];exact hin⟩
   ·rw[if_neg (fun h=>hc h.1)];exact⟨.inl,fun h=>h.elim id fun h=>absurd h.1 hc⟩
 have h:=this ds.length (Nat.le_refl _)
 rwa [List.take_length]at h
def namesS (root:Bool) (ds:List Dep):List Bs:=sortN (namesOf (byM root ds))
theorem namesS_mem {root:Bool} {ds:List Dep} {n:Bs} :n∈namesS root ds↔∃d∈ds,countsF d root=true∧d.name=n:=by
 rw[←byM_names];exact(sortN_perm _).mem_iff
theorem namesS_lt (root:Bool) (ds:List Dep):(namesS root ds).Pairwise fun a b=>ltB a b=true:=sortN_lt (byM_nodup root ds)
theorem namesS_at {root:Bool} {ds:List Dep} {i j:Nat} (hij:i<j) (hj:j<(namesS root ds).length):ltB (nth (namesS root ds) i) (nth (namesS root ds) j)=true:=by
 have:=List.pairwise_iff_getElem.1 (namesS_lt root ds) i j (by omega) hj hij
 rwa [←nth_eq (by omega),←nth_eq hj]at this
theorem next_at {root first:Bool} {last:Bs} {ds:List Dep} {k:Nat} (hlo:∀i,i<k→i<(namesS root ds).length→(first || ltB last (nth (namesS root ds) i))=false) (hhi:∀i,k≤i→i<(namesS root ds).length→(first || ltB last (nth (namesS root ds) i))=true):
  nextN root first last ds=if k<(namesS root ds).length then some (nth (namesS root ds) k)else none:=by
 have hL:=nextN_least root first last ds;have cand:∀d∈ds,candD root first last d=true→∃i,k≤i∧i<(namesS root ds).length∧nth (namesS root ds) i=d.name:=by
  intro d hd hc;simp only[candD,Bool.and_eq_true]at hc;have hm:d.name∈namesS root ds:=namesS_mem.2 ⟨d,hd,hc.1,rfl⟩;obtain⟨i,hi,he⟩:=List.mem_iff_getElem.1 hm;rw[←nth_eq hi]at he;refine⟨i,?_,hi,he⟩;rcases Nat.lt_or_ge i k with h | h
  ·have:=hlo i h hi;rw[he]at this;rw[this]at hc;cases hc.2
  ·exact h
 cases hN:nextN root first last ds with
 | none=>
  rw[hN]at hL;by_cases hk:k<(namesS root ds).length
  ·obtain⟨d,hd,hc,he⟩:=namesS_mem.1 (nth_mem hk);have:=hL d hd;have h2:=hhi k (Nat.le_refl _) hk;rw[←he]at h2;simp only[candD,hc,h2]at this;cases this
  ·rw[if_neg hk]
 | some x=>
  rw[hN]at hL;obtain⟨⟨d,hd,hc,rfl⟩,hmin⟩:=hL;obtain⟨i,hki,hi,he⟩:=cand d hd hc;rw[if_pos (by omega)];obtain⟨e,hed,hec,hen⟩:=namesS_mem.1 (nth_mem (show k<(namesS root ds).length by omega));have h2:=hhi k (Nat.le_refl _) (by omega);rw[←hen]at h2;have h3:=hmin e hed (by simp only[candD,hec,h2];rfl);rw[hen,←he]at h3;rcases Nat.lt_or_ge k i with h | h
  ·rw[namesS_at h hi]at h3;cases h3
  ·have:i=k:=(by omega);rw[←this,he]
theorem next_first (root:Bool) (last:Bs) (ds:List Dep):nextN root true last ds=if 0<(namesS root ds).length then some (nth (namesS root ds) 0)else none:=
 next_at (fun i h=>by omega) (fun i _ _=>rfl)
theorem next_then (root:Bool) (ds:List Dep) {k:Nat} (hk:k<(namesS root ds).length):nextN root false (nth (namesS root ds) k) ds=if k+1<(namesS root ds).length then some (nth (namesS root ds) (k+1))else none:=
 next_at (fun i h hi=>by
  simp only[Bool.false_or];rcases Nat.lt_or_ge i k with h1 | h1
  ·exact ltB_asym (namesS_at h1 hk)
  ·have:i=k:=(by omega);rw[this];exact ltB_irr _) (fun i h hi=>by
  simp only[Bool.false_or];exact namesS_at (by omega) hi)
set_option maxRecDepth 100000
set_option maxHeartbeats 4000000
theorem next211_ok (m:Man) (hl:m.deps.length≤1000000000) (root first:Bool) (last:Bs):CallsOK Tryz.prog 211 [.agg m.cells,bV root,sV last,bV first] (.tup [sV ((nextN root first last m.deps).getD ⟨#[]⟩),bV (nextN root first last m.deps).isSome]) []:=by
 refine callsOK mixed Tryz.call211 Tryz.func211 rfl (by rw[Tryz.ntmps211];simp) ?_ rfl;rw[Tryz.ntmps211];with_reducible refine aR fun K' hK=> ?_
 simp;refine hK _ _ _ ?_;clear K' hK;with_reducible refine aR fun K' hK=> ?_
 simp;refine hK _ _ _ ?_;clear K' hK;with_reducible refine aR fun K' hK=> ?_
 simp;refine hK _ _ _ ?_;clear K' hK;with_reducible refine aA ?_;refine aR fun K' hK=> ?_
 simp;refine hK _ _ _ ?_;clear K' hK;with_reducible refine aw_block ?_
 refine aw_loop (fun s G nx=>s 1=bV root∧s 2=sV last∧s 3=bV first∧s 4=.ptr 0 0∧G 0=some (.var 27 m.cells)∧∃i:Nat,s 12=iV i∧i≤m.deps.length∧s 10=sV ((nextN root first last (m.deps.take i)).getD ⟨#[]⟩)∧s 11=bV (nextN root first last (m.deps.take i)).isSome) (fun s _ _=>match s 12 with | .v (.int _ n)=>m.deps.length-n.toNat | _=>0) ?_ ?_
 ·exact⟨by simp,by simp,by simp,by simp,by simp,0,by simp,by omega,by simp[nextN],by simp[nextN]⟩
 ·rintro s G nx hf ⟨s1,s2,s3,s4,g0,i,s12,hi,s10,s11⟩;have o12:=s12;have n0:¬0=nx:=(by have:=fresh_lt hf g0;omega);have hw:IntKind.i64.wrap (↑i+1)=((i+1:Nat):Int):=wrapS (by omega);with_reducible refine aA ?_;refine aR fun K' hK=> ?_
  simp[s4,s12,g0];refine hK _ _ _ ?_;clear K' hK;with_reducible refine aC fun A B hA hB=> ?_
  simp;refine⟨fun hi2=>hA ?_,fun hi2=>hB ?_⟩<;>clear hA hB A B<;>(try simp at hi2)<;>(try with_reducible refine aK ?_)
  ·have hst:=nextN_take (root:=root) (first:=first) (last:=last) hi2;generalize hgd:nth m.deps i=d at*;have hcd:candD root first last d=(countsF d root&&(first || ltB last d.name)):=rfl;generalize nextN root first last (m.deps.take i)=b at*;have hsx:stepX root first last b d=if candD root first last d=true∧(∀x,b=some x→ltB d.name x=true)then some d.name else b:=rfl;with_reducible refine aw_block ?_;refine aR fun K' hK=> ?_
   simp[s4,s12,g0,hi2,hgd];refine hK _ _ _ ?_;clear K' hK;have inv:∀(u:Sl) (c:Option Bs),c=nextN root first last (m.deps.take (i+1))→u 1=bV root→u 2=sV last→u 3=bV first→u 4=.ptr 0 0→u 12=iV i→u 10=sV (c.getD ⟨#[]⟩)→u 11=bV c.isSome→True:=fun _ _ _ _ _ _ _ _ _ _=>trivial;clear inv;have yes:(candD root first last d=true∧(∀x,b=some x→ltB d.name x=true))→nextN root first last (m.deps.take (i+1))=some d.name:=fun h=>(by rw[hst,hsx,if_pos h]);have no:¬(candD root first last d=true∧(∀x,b=some x→ltB d.name x=true))→nextN root first last (m.deps.take (i+1))=b:=fun h=>(by rw[hst,hsx,if_neg h]);with_reducible refine aR fun K' hK=> ?_
   simp[n0];refine acall_flat (counts239_ok d root) rfl (by first | rfl | (simp[s1];done) | (simp[s1];rfl) | (simp[s1];exact⟨rfl,rfl⟩)) ?_;by_cases hc:countsF d root=true
   ·by_cases hfl:first=true∨ltB last d.name=true
    ·have hcand:candD root first last d=true:=(by rw[hcd,hc];simpa using hfl);cases b with
     | none=>
      have hy:=yes ⟨hcand,fun x h=>by cases h⟩;simp only[Option.getD_none,Option.isSome_none]at s10 s11;rcases hfl with hfl | hfl
      ·subst hfl;simp[hc,s1,s2,s3,s10,s11];refine hK _ _ _ ?_;clear K' hK;with_reducible refine aU (by simp) ?_;refine aA ?_;refine aR fun K' hK=> ?_
       simp;refine hK _ _ _ ?_;clear K' hK;with_reducible refine aR fun K' hK=> ?_
       simp;refine hK _ _ _ ?_;clear K' hK;with_reducible refine aw_skipL ?_
       refine blockK_normal ?_;with_reducible refine aS fun K' hK=> ?_
       simp[s12,hw];refine hK _ _ _ ?_;clear K' hK;refine aw_skipL (loopK_normal ?_ ?_)
       ·exact⟨by simp[s1],by simp[s2],by simp[s3],by simp[s4],by simp[n0,g0],i+1,by simp[hw],by omega,by simp[hy],by simp[hy]⟩
       ·simp[o12,s12,hw];omega
      ·cases first with
       | true=>
        simp[hc,s1,s2,s3,s10,s11];refine hK _ _ _ ?_;clear K' hK;with_reducible refine aU (by simp) ?_;refine aA ?_;refine aR fun K' hK=> ?_
        simp;refine hK _ _ _ ?_;clear K' hK;with_reducible refine aR fun K' hK=> ?_
        simp;refine hK _ _ _ ?_;clear K' hK;with_reducible refine aw_skipL ?_
        refine blockK_normal ?_;with_reducible refine aS fun K' hK=> ?_
        simp[s12,hw];refine hK _ _ _ ?_;clear K' hK;refine aw_skipL (loopK_normal ?_ ?_)
        ·exact⟨by simp[s1],by simp[s2],by simp[s3],by simp[s4],by simp[n0,g0],i+1,by simp[hw],by omega,by simp[hy],by simp[hy]⟩
        ·simp[o12,s12,hw];omega
       | false=>
        simp[hc,s1,s2,s3,s10,s11,hfl,n0];refine hK _ _ _ ?_;clear K' hK;with_reducible refine aU (by simp) ?_;refine aA ?_;refine aR fun K' hK=> ?_
        simp;refine hK _ _ _ ?_;clear K' hK;with_reducible refine aR fun K' hK=> ?_
        simp;refine hK _ _ _ ?_;clear K' hK;with_reducible refine aw_skipL ?_
        refine blockK_normal ?_;with_reducible refine aS fun K' hK=> ?_
        simp[s12,hw];refine hK _ _ _ ?_;clear K' hK;refine aw_skipL (loopK_normal ?_ ?_)
        ·exact⟨by simp[s1],by simp[s2],by simp[s3],by simp[s4],by simp[n0,g0],i+1,by simp[hw],by omega,by simp[hy],by simp[hy]⟩
        ·simp[o12,s12,hw];omega
     | some x=>
      simp only[Option.getD_some,Option.isSome_some]at s10 s11;by_cases hlt:ltB d.name x=true
      ·have hy:=yes ⟨hcand,fun z hz=>by injection hz with hz;subst hz;exact hlt⟩;cases first with
       | true=>
        simp[hc,s1,s2,s3,s10,s11,hlt,n0];refine hK _ _ _ ?_;clear K' hK;with_reducible refine aU (by simp) ?_;refine aA ?_;refine aR fun K' hK=> ?_
        simp;refine hK _ _ _ ?_;clear K' hK;with_reducible refine aR fun K' hK=> ?_
        simp;refine hK _ _ _ ?_;clear K' hK;with_reducible refine aw_skipL ?_
        refine blockK_normal ?_;with_reducible refine aS fun K' hK=> ?_
        simp[s12,hw];refine hK _ _ _ ?_;clear K' hK;refine aw_skipL (loopK_normal ?_ ?_)
        ·exact⟨by simp[s1],by simp[s2],by simp[s3],by simp[s4],by simp[n0,g0],i+1,by simp[hw],by omega,by simp[hy],by simp[hy]⟩
        ·simp[o12,s12,hw];omega
       | false=>
        have hfl:=hfl.resolve_left (by simp);simp[hc,s1,s2,s3,s10,s11,hlt,hfl,n0];refine hK _ _ _ ?_;clear K' hK;with_reducible refine aU (by simp) ?_;refine aA ?_;refine aR fun K' hK=> ?_
        simp;refine hK _ _ _ ?_;clear K' hK;with_reducible refine aR fun K' hK=> ?_
        simp;refine hK _ _ _ ?_;clear K' hK;with_reducible refine aw_skipL ?_
        refine blockK_normal ?_;with_reducible refine aS fun K' hK=> ?_
        simp[s12,hw];refine hK _ _ _ ?_;clear K' hK;refine aw_skipL (loopK_normal ?_ ?_)
        ·exact⟨by simp[s1],by simp[s2],by simp[s3],by simp[s4],by simp[n0,g0],i+1,by simp[hw],by omega,by simp[hy],by simp[hy]⟩
        ·simp[o12,s12,hw];omega
      ·have hn:=no fun h=>hlt (h.2 x rfl);have hlt':ltB d.name x=false:=(by simpa using hlt);cases first with
       | true=>
        simp[hc,s1,s2,s3,s10,s11,hlt',n0];refine hK _ _ _ ?_;clear K' hK;with_reducible refine aVk (by simp) ?_;refine aw_skipL ?_
        refine blockK_normal ?_;with_reducible refine aS fun K' hK=> ?_
        simp[s12,hw];refine hK _ _ _ ?_;clear K' hK;refine aw_skipL (loopK_normal ?_ ?_)
        ·exact⟨by simp[s1],by simp[s2],by simp[s3],by simp[s4],by simp[n0,g0],i+1,by simp[hw],by omega,by simp[hn,s10],by simp[hn,s11]⟩
        ·simp[o12,s12,hw];omega
       | false=>
        have hfl:=hfl.resolve_left (by simp);simp[hc,s1,s2,s3,s10,s11,hlt',hfl,n0];refine hK _ _ _ ?_;clear K' hK;with_reducible refine aVk (by simp) ?_;refine aw_skipL ?_
        refine blockK_normal ?_;with_reducible refine aS fun K' hK=> ?_
        simp[s12,hw];refine hK _ _ _ ?_;clear K' hK;refine aw_skipL (loopK_normal ?_ ?_)
        ·exact⟨by simp[s1],by simp[s2],by simp[s3],by simp[s4],by simp[n0,g0],i+1,by simp[hw],by omega,by simp[hn,s10],by simp[hn,s11]⟩
        ·simp[o12,s12,hw];omega
    ·have hf0:first=false:=(by cases first<;>simp_all);have hll:ltB last d.name=false:=by
      rw[Bool.eq_false_iff];exact fun h=>hfl (.inr h)
     subst hf0;have hn:=no fun h=>(by rw[hcd,hc,hll]at h;exact absurd h.1 (by decide));simp[hc,s1,s2,s3,hll,n0];refine hK _ _ _ ?_;clear K' hK;with_reducible refine aVk (by simp) ?_;refine aw_skipL ?_
     refine blockK_normal ?_;with_reducible refine aS fun K' hK=> ?_
     simp[s12,hw];refine hK _ _ _ ?_;clear K' hK;refine aw_skipL (loopK_normal ?_ ?_)
     ·exact⟨by simp[s1],by simp[s2],by simp[s3],by simp[s4],by simp[n0,g0],i+1,by simp[hw],by omega,by simp[hn,s10],by simp[hn,s11]⟩
     ·simp[o12,s12,hw];omega
   ·have hc':countsF d root=false:=(by simpa using hc);have hn:=no fun h=>(by rw[hcd,hc']at h;exact absurd h.1 (by simp));simp[hc'];refine hK _ _ _ ?_;clear K' hK;with_reducible refine aVk (by simp) ?_;refine aw_skipL ?_
    refine blockK_normal ?_;with_reducible refine aS fun K' hK=> ?_
    simp[s12,hw];refine hK _ _ _ ?_;clear K' hK;refine aw_skipL (loopK_normal ?_ ?_)
    ·exact⟨by simp[s1],by simp[s2],by simp[s3],by simp[s4],by simp[n0,g0],i+1,by simp[hw],by omega,by simp[hn,s10],by simp[hn,s11]⟩
    ·simp[o12,s12,hw];omega
  ·skip;with_reducible refine aw_exit ?_
   refine loopK_exit (blockK_exit ?_);rw[List.take_of_length_le (by omega)]at s10 s11;with_reducible refine aR fun K' hK=> ?_
   simp[s10,s11];refine hK _ _ _ ?_;clear K' hK;with_reducible refine aw_retL ?_
   simp[blockK,loopK,Post,resA,res1,expT,expA,exp1,expM,expL,okT,okA,ok1,rowOf,Tryz.f211]
set_option maxRecDepth 100000
set_option maxHeartbeats 4000000
theorem posM_put {M:List Dep} {d:Dep} :∃p,posM (putM M d) d.name=some p∧nth (putM M d) p=d:=by
 unfold putM;cases h:posM M d.name with
 | none=>
  refine⟨M.length,?_,nth_app_eq⟩;unfold posM at*;rw[List.findIdx?_append,h];simp
 | some i=>
  obtain⟨h1,h2⟩:=posM_lt h;refine⟨i,?_,by rw[nth_setG h1,if_pos rfl]⟩;unfold posM at*;rw[List.findIdx?_eq_some_iff_getElem]at h⊢;obtain⟨a,b,c⟩:=h;refine⟨by simpa using a,by simp,fun j hj=> ?_⟩;have:=c j hj;rw[List.getElem_set_ne (by omega)];exact this
theorem posM_other {M:List Dep} {d:Dep} {n:Bs} (hne:¬d.name=n):match posM M n with
  | none=>posM (putM M d) n=none
  | some p=>posM (putM M d) n=some p∧nth (putM M d) p=nth M p:=by
 unfold putM;cases hd:posM M d.name with
 | none=>
  cases h:posM M n with
  | none=>
   show posM (M++[d]) n=none;unfold posM at*;rw[List.findIdx?_append,h];simp[hne]
  | some p=>
   have hp:=(posM_lt h).1;refine⟨?_,nth_app_lt hp⟩;unfold posM at*;rw[List.findIdx?_append,h];rfl
 | some i=>
  obtain⟨h1,h2⟩:=posM_lt hd;cases h:posM M n with
  | none=>
   show posM (M.set i d) n=none;unfold posM at*;rw[List.findIdx?_eq_none_iff]at h⊢;intro x hx;rcases List.mem_or_eq_of_mem_set hx with hx | rfl
   ·exact h x hx
   ·simp[hne]
  | some p=>
   obtain⟨q1,q2⟩:=posM_lt h;have hpi:¬p=i:=fun e=>hne (by rw[←q2,e,h2]);refine⟨?_,by rw[nth_setG h1,if_neg hpi]⟩;unfold posM at*;rw[List.findIdx?_eq_some_iff_getElem]at h⊢;obtain⟨a,b,c⟩:=h;refine⟨by simpa using a,by rw[List.getElem_set_ne (fun e=>hpi e.symm)];exact b,fun j hj=> ?_⟩;rw[List.getElem_set];split
   ·simp[hne]
   ·exact c j hj
def AtE (root:Bool) (name:Bs) (ds:List Dep) (i:Nat):Option Nat→Prop
 | none=>posM (byM root (ds.take i)) name=none
 | some j=>j<i∧∃p,posM (byM root (ds.take i)) name=some p∧nth (byM root (ds.take i)) p=nth ds j
theorem atE_step {root:Bool} {name:Bs} {ds:List Dep} {i:Nat} {b:Option Nat} (hi:i<ds.length) (h:AtE root name ds i b):
  AtE root name ds (i+1) (if(nth ds i).name=name∧countsF (nth ds i) root=true∧(∀j,b=some j→(nth ds i).kind<(nth ds j).kind)then some i else b):=by
 unfold AtE at*;have hb:=byM_take root hi;generalize byM root (ds.take i)=M at*;generalize hd:nth ds i=d at*;by_cases hn:d.name=name
 ·subst hn;by_cases hc:countsF d root=true
  ·by_cases hk:∀j,b=some j→d.kind<(nth ds j).kind
   ·rw[if_pos ⟨rfl,hc,hk⟩];have:stepM root M d=putM M d:=by
     unfold stepM;rw[if_pos];refine⟨hc,fun p hp=> ?_⟩;cases b with
     | none=>simp only at h;rw[h]at hp;cases hp
     | some j=>
      obtain⟨_,p',h1,h2⟩:=h;rw[h1]at hp;injection hp with hp;subst hp;rw[h2];exact hk j rfl
    show i<i+1∧_;rw[hb,this,hd];exact⟨by omega,posM_put⟩
   ·rw[if_neg (fun h=>hk h.2.2)];have:stepM root M d=M:=by
     unfold stepM;rw[if_neg];rintro⟨_,h3⟩;refine hk fun j hj=> ?_;subst hj;obtain⟨_,p,h1,h2⟩:=h;rw[←h2];exact h3 p h1
    rw[hb,this];cases b with
    | none=>exact h
    | some j=>exact⟨by have:=h.1;omega,h.2⟩
  ·rw[if_neg (fun h=>hc h.2.1)];have:stepM root M d=M:=(by unfold stepM;rw[if_neg (fun h=>hc h.1)]);rw[hb,this];cases b with
   | none=>exact h
   | some j=>exact⟨by have:=h.1;omega,h.2⟩
 ·rw[if_neg (fun h=>hn h.1)];have hp:=posM_other (M:=M) (d:=d) hn;have:∀X,(X=M∨X=putM M d)→stepM root M d=X→(match b with
    | none=>posM X name=none
    | some j=>j<i+1∧∃p,posM X name=some p∧nth X p=nth ds j):=by
   rintro X (rfl | rfl) _
   ·cases b with
    | none=>exact h
    | some j=>exact⟨by have:=h.1;omega,h.2⟩
   ·cases b with
    | none=>
     simp only at h⊢;rw[h]at hp;exact hp
    | some j=>
     obtain⟨hj,p,h1,h2⟩:=h;rw[h1]at hp;exact⟨by omega,p,hp.1,hp.2.trans h2⟩
  rw[hb];have hs:stepM root M d=M∨stepM root M d=putM M d:=by
   unfold stepM;split
   ·exact .inr rfl
   ·exact .inl rfl
  have:=this _ hs rfl;cases b with
  | none=>exact this
  | some j=>exact this
theorem atE_find {root:Bool} {name:Bs} {ds:List Dep} {b:Option Nat} (h:AtE root name ds ds.length b) (hm:name∈namesOf (byM root ds)):∃j,b=some j∧j<ds.length∧findD (byM root ds) name=nth ds j:=by
 unfold AtE at h;rw[List.take_length]at h;cases b with
 | none=>exact absurd hm (posM_none.1 h)
 | some j=>
  obtain⟨hj,p,h1,h2⟩:=h;exact⟨j,rfl,hj,by unfold findD;rw[h1];exact h2⟩
set_option maxRecDepth 100000
set_option maxHeartbeats 4000000
def atJ:Option Nat→Int
 | none=> -1
 | some j=>j
theorem edge212_ok (m:Man) (rules:List Ru) (root:Bool) (name:Bs) (hd:Dep.okL m.deps) (hrl:Ru.okL rules) (hm:name∈namesOf (byM root m.deps)):
  CallsOK Tryz.prog 212 [.agg m.cells,rowT Ru.cells rules,bV root,sV name] (.agg [iV (edgeOf rules (findD (byM root m.deps) name)).kind,sV (edgeOf rules (findD (byM root m.deps) name)).name,.row 0 (edgeOf rules (findD (byM root m.deps) name)).range.length]) [(83,flat Alt.cells (edgeOf rules (findD (byM root m.deps) name)).range)]:=by
 have hdl:=hd.1;refine callsOK mixed Tryz.call212 Tryz.func212 rfl (by rw[Tryz.ntmps212];simp) ?_ rfl;rw[Tryz.ntmps212];with_reducible refine aR fun K' hK=> ?_
 simp;refine hK _ _ _ ?_;clear K' hK;with_reducible refine aR fun K' hK=> ?_
 simp;refine hK _ _ _ ?_;clear K' hK;with_reducible refine aA ?_;refine aw_un ?_
 refine aw_cut (fun s G nx=>2≤nx∧s 1=rowT Ru.cells rules∧s 3=sV name∧s 4=.ptr 0 0∧s 8=.ptr 1 0∧G 0=some (.var 27 m.cells)∧G 1=some (.var 35 [iV 0,sV ⟨#[]⟩,.v (.slice none 0 0)])∧∃b,s 9=iV (atJ b)∧AtE root name m.deps m.deps.length b) ?_ ?_
 ·skip;with_reducible refine aR fun K' hK=> ?_
  simp;refine hK _ _ _ ?_;clear K' hK;with_reducible refine aw_toS (aw_block ?_)
  refine aw_loop (fun s G nx=>2≤nx∧s 1=rowT Ru.cells rules∧s 2=bV root∧s 3=sV name∧s 4=.ptr 0 0∧s 8=.ptr 1 0∧G 0=some (.var 27 m.cells)∧G 1=some (.var 35 [iV 0,sV ⟨#[]⟩,.v (.slice none 0 0)])∧∃(i:Nat) (b:Option Nat),s 10=iV i∧i≤m.deps.length∧s 9=iV (atJ b)∧AtE root name m.deps i b) (fun s _ _=>match s 10 with | .v (.int _ n)=>m.deps.length-n.toNat | _=>0) ?_ ?_
  ·exact⟨by omega,by simp,by simp,by simp,by simp,by simp,by simp,by simp,0,none,by simp,by omega,by simp[atJ],rfl⟩
  ·rintro s G nx hf ⟨hnx,s1,s2,s3,s4,s8,g0,g1,i,b,s10,hi,s9,hb⟩;have o10:=s10;have n0:¬0=nx:=(by omega);have n1:¬1=nx:=(by omega);have hw:IntKind.i64.wrap (↑i+1)=((i+1:Nat):Int):=wrapS (by omega);with_reducible refine aA ?_;refine aR fun K' hK=> ?_
   simp[s4,s10,g0];refine hK _ _ _ ?_;clear K' hK;with_reducible refine aC fun A B hA hB=> ?_
   simp;refine⟨fun hi2=>hA ?_,fun hi2=>hB ?_⟩<;>clear hA hB A B<;>(try simp at hi2)<;>(try with_reducible refine aK ?_)
   ·have hstep:=atE_step hi2 hb;generalize hgd:nth m.deps i=d at*;with_reducible refine aw_block ?_;refine aR fun K' hK=> ?_
    simp[s4,s10,g0,hi2,hgd];refine hK _ _ _ ?_;clear K' hK;have yes:(d.name=name∧countsF d root=true∧(∀j,b=some j→d.kind<(nth m.deps j).kind))→AtE root name m.deps (i+1) (some i):=fun h=>(by rw[if_pos h]at hstep;exact hstep);have no:¬(d.name=name∧countsF d root=true∧(∀j,b=some j→d.kind<(nth m.deps j).kind))→AtE root name m.deps (i+1) b:=fun h=>(by rw[if_neg h]at hstep;exact hstep);clear hstep;by_cases hn:d.name=name
    ·have hn':(d.name=name)=True:=eq_true hn;by_cases hc:countsF d root=true
     ·cases b with
      | none=>
       have hy:=yes ⟨hn,hc,fun j h=>by cases h⟩;simp only[atJ]at s9;with_reducible refine aQ fun K' hK=> ?_
       simp[s2,s3,hn',n0];refine acall_flat (counts239_ok d root) rfl (by first | rfl | (simp;done) | (simp;rfl) | (simp;exact⟨rfl,rfl⟩)) ?_;simp[hc,s9];refine hK _ _ _ ?_;clear K' hK;with_reducible refine aU (by simp) ?_;refine aR fun K' hK=> ?_
       simp;refine hK _ _ _ ?_;clear K' hK;with_reducible refine aw_skipL ?_
       refine blockK_normal ?_;with_reducible refine aS fun K' hK=> ?_
       simp[s10,hw];refine hK _ _ _ ?_;clear K' hK;refine aw_skipL (loopK_normal ?_ ?_)
       ·exact⟨by omega,by simp[s1],by simp[s2],by simp[s3],by simp[s4],by simp[s8],by simp[n0,g0],by simp[n1,g1],i+1,some i,by simp[hw],by omega,by simp[atJ,s10],hy⟩
       ·simp[o10,s10,hw];omega
      | some j=>
       have hj:j<m.deps.length:=(by have:=hb.1;omega);have hj0:¬(j:Int)<0:=(by omega);simp only[atJ]at s9;by_cases hk:d.kind<(nth m.deps j).kind
       ·have hy:=yes ⟨hn,hc,fun z hz=>by injection hz with hz;subst hz;exact hk⟩;with_reducible refine aQ fun K' hK=> ?_
        simp[s2,s3,hn',n0];refine acall_flat (counts239_ok d root) rfl (by first | rfl | (simp;done) | (simp;rfl) | (simp;exact⟨rfl,rfl⟩)) ?_;simp[hc,s4,s9,g0,n0,hj,hj0,hk];refine hK _ _ _ ?_;clear K' hK;with_reducible refine aU (by simp) ?_;refine aR fun K' hK=> ?_
        simp;refine hK _ _ _ ?_;clear K' hK;with_reducible refine aw_skipL ?_
        refine blockK_normal ?_;with_reducible refine aS fun K' hK=> ?_
        simp[s10,hw];refine hK _ _ _ ?_;clear K' hK;refine aw_skipL (loopK_normal ?_ ?_)
        ·exact⟨by omega,by simp[s1],by simp[s2],by simp[s3],by simp[s4],by simp[s8],by simp[n0,g0],by simp[n1,g1],i+1,some i,by simp[hw],by omega,by simp[atJ,s10],hy⟩
        ·simp[o10,s10,hw];omega
       ·have hno:=no fun h=>hk (h.2.2 j rfl);with_reducible refine aQ fun K' hK=> ?_
        simp[s2,s3,hn',n0];refine acall_flat (counts239_ok d root) rfl (by first | rfl | (simp;done) | (simp;rfl) | (simp;exact⟨rfl,rfl⟩)) ?_;simp[hc,s4,s9,g0,n0,hj,hj0,hk];refine hK _ _ _ ?_;clear K' hK;with_reducible refine aVk (by simp) ?_;refine aw_skipL ?_
        refine blockK_normal ?_;with_reducible refine aS fun K' hK=> ?_
        simp[s10,hw];refine hK _ _ _ ?_;clear K' hK;refine aw_skipL (loopK_normal ?_ ?_)
        ·exact⟨by omega,by simp[s1],by simp[s2],by simp[s3],by simp[s4],by simp[s8],by simp[n0,g0],by simp[n1,g1],i+1,some j,by simp[hw],by omega,by simp[atJ,s9],hno⟩
        ·simp[o10,s10,hw];omega
     ·have hc':countsF d root=false:=(by simpa using hc);have hno:=no fun h=>hc h.2.1;with_reducible refine aQ fun K' hK=> ?_
      simp[s2,s3,hn',n0];refine acall_flat (counts239_ok d root) rfl (by first | rfl | (simp;done) | (simp;rfl) | (simp;exact⟨rfl,rfl⟩)) ?_;simp[hc'];refine hK _ _ _ ?_;clear K' hK;with_reducible refine aVk (by simp) ?_;refine aw_skipL ?_
      refine blockK_normal ?_;with_reducible refine aS fun K' hK=> ?_
      simp[s10,hw];refine hK _ _ _ ?_;clear K' hK;refine aw_skipL (loopK_normal ?_ ?_)
      ·exact⟨by omega,by simp[s1],by simp[s2],by simp[s3],by simp[s4],by simp[s8],by simp[n0,g0],by simp[n1,g1],i+1,b,by simp[hw],by omega,by simp[s9],hno⟩
      ·simp[o10,s10,hw];omega
    ·have hno:=no fun h=>hn h.1;with_reducible refine aQ fun K' hK=> ?_
     simp(maxSteps:=1000000) [s2,s3,hn,n0];refine hK _ _ _ ?_;clear K' hK;with_reducible refine aVk (by simp) ?_;refine aw_skipL ?_
     refine blockK_normal ?_;with_reducible refine aS fun K' hK=> ?_
     simp[s10,hw];refine hK _ _ _ ?_;clear K' hK;refine aw_skipL (loopK_normal ?_ ?_)
     ·exact⟨by omega,by simp[s1],by simp[s2],by simp[s3],by simp[s4],by simp[s8],by simp[n0,g0],by simp[n1,g1],i+1,b,by simp[hw],by omega,by simp[s9],hno⟩
     ·simp[o10,s10,hw];omega
   ·skip;with_reducible refine aw_exit ?_
    refine loopK_exit (blockK_exit ?_);have hie:i=m.deps.length:=(by omega);subst hie;with_reducible refine aw_end ?_
    exact⟨hnx,by simp[s1],by simp[s3],by simp[s4],by simp[s8],by simp[g0],by simp[g1],b,by simp[s9],hb⟩
 ·rintro s G nx ⟨hnx,s1,s3,s4,s8,g0,g1,b,s9,hb⟩;obtain⟨j,rfl,hj,hfd⟩:=atE_find hb hm;have hdn:(nth m.deps j).name=name:=by
   obtain⟨_,p,h1,h2⟩:=hb;rw[←h2];exact(posM_lt h1).2
  rw[hfd];have hdd:=hd.2 _ (nth_mem hj);generalize hgd:nth m.deps j=d at*;simp only[atJ]at s9;have n0:¬0=nx:=(by omega);have n1:¬1=nx:=(by omega);have n2:¬1=nx+1:=(by omega);have n3:¬nx=1:=(by omega);have z0:¬nx=0:=(by omega);have y1:¬nx=nx+1+1:=(by omega);have y2:¬nx=nx+1+1+1:=(by omega);have y3:¬nx+1+1=nx:=(by omega);have y4:¬nx+1+1+1=nx:=(by omega);have y5:¬nx+1=nx:=(by omega);have hatd:atF rules d.name=atF rules name:=(by rw[hdn]);have hRu:=rule240_ok rules name hrl;unfold ruleR at hRu;with_reducible refine aR fun K' hK=> ?_
  simp[s4,s9,g0,hj,hgd];refine hK _ _ _ ?_;clear K' hK;with_reducible refine aR fun K' hK=> ?_
  simp[n0];refine acall_new (own86_ok d.range ⟨by omega,fun l hl=>by have:=hdd.2.2 l hl;omega⟩) (by first | rfl | (simp[Rg.cells,Dep.cells];done) | (simp[Rg.cells,Dep.cells];rfl) | (simp[Rg.cells,Dep.cells];exact⟨rfl,rfl⟩)) ?_;simp[addJ_one,Rg.cells,Dep.cells];refine hK _ _ _ ?_;clear K' hK;cases hat:atF rules name with
  | none=>
   rw[hat]at hRu hatd;have he:edgeOf rules d=d:=(by unfold edgeOf;rw[hatd]);rw[he];with_reducible refine aR fun K' hK=> ?_
   simp[s1,s3];refine acall_new hRu (by first | rfl | (simp;done) | (simp;rfl) | (simp;exact⟨rfl,rfl⟩)) ?_;simp[addJ_nil];refine hK _ _ _ ?_;clear K' hK;with_reducible refine aA ?_;refine aR fun K' hK=> ?_
   simp;refine hK _ _ _ ?_;clear K' hK;with_reducible refine aYk (by simp) ?_;refine aR fun K' hK=> ?_
   simp[s8,g1,n1,n2,n3,z0];refine hK _ _ _ ?_;clear K' hK;with_reducible refine aw_retL ?_
   simp[blockK,loopK,Post,resA,res1,expT,expA,exp1,expM,expL,okT,okA,ok1,rowOf,Tryz.f212,s8,n3,z0]
  | some q=>
   rw[hat]at hRu hatd;have he:edgeOf rules d= {d with range:=(nth rules q).range} :=(by unfold edgeOf;rw[hatd]);rw[he];with_reducible refine aR fun K' hK=> ?_
   simp[s1,s3];refine acall_new hRu (by first | rfl | (simp;done) | (simp;rfl) | (simp;exact⟨rfl,rfl⟩)) ?_;simp[addJ_one];refine hK _ _ _ ?_;clear K' hK;with_reducible refine aA ?_;refine aR fun K' hK=> ?_
   simp;refine hK _ _ _ ?_;clear K' hK;with_reducible refine aX (by simp) ?_;refine aR fun K' hK=> ?_
   simp[y1,y2];refine hK _ _ _ ?_;clear K' hK;with_reducible refine aR fun K' hK=> ?_
   simp[s8,g1,n1,n2,n3,z0,y1,y2,y3,y4];refine hK _ _ _ ?_;clear K' hK;with_reducible refine aw_retL ?_
   simp[blockK,loopK,Post,resA,res1,expT,expA,exp1,expM,expL,okT,okA,ok1,rowOf,Tryz.f212,s8,n3,z0,y1,y2,y3,y4]
set_option maxRecDepth 100000
set_option maxHeartbeats 4000000
theorem of183_ok (m:Man) (rules:List Ru) (root:Bool) (hd:Dep.okL m.deps) (hdl:m.deps.length≤1000000000) (hrl:Ru.okL rules):CallsOK Tryz.prog 183 [.agg m.cells,rowT Ru.cells rules,bV root] (.row 0 (ofF m.deps rules root).length) [(35,flat Dep.cells (ofF m.deps rules root))]:=by
 refine callsOK mixed Tryz.call183 Tryz.func183 rfl (by rw[Tryz.ntmps183];simp) ?_ rfl;rw[Tryz.ntmps183];have hof:ofF m.deps rules root=(namesS root m.deps).map fun n=>edgeOf rules (findD (byM root m.deps) n):=rfl;have hSl:(namesS root m.deps).length≤1000000000:=by
  have:=byM_len root m.deps;unfold namesS;rw[(sortN_perm _).length_eq];simp only[namesOf,List.length_map];omega
 have hmem:∀k,k<(namesS root m.deps).length→nth (namesS root m.deps) k∈namesOf (byM root m.deps):=fun k hk=>(sortN_perm _).mem_iff.1 (nth_mem hk);have hn0:=next_first root ⟨#[]⟩ m.deps;have hn1:=fun k hk=>next_then root m.deps (k:=k) hk;rw[hof];generalize hS:namesS root m.deps=S at*;have hel:(S.map fun n=>edgeOf rules (findD (byM root m.deps) n)).length=S.length:=(by simp);have c83:Tryz.prog.cellsOf 83=1:=(by kernel_rfl);with_reducible refine aR fun K' hK=> ?_
 simp;refine hK _ _ _ ?_;clear K' hK;with_reducible refine aR fun K' hK=> ?_
 simp;refine hK _ _ _ ?_;clear K' hK;with_reducible refine aR fun K' hK=> ?_
 simp;refine acall_flat (next211_ok m hdl root true ⟨#[]⟩) rfl (by first | rfl | (simp;done) | (simp;rfl) | (simp;exact⟨rfl,rfl⟩)) ?_;rw[hn0];simp;refine hK _ _ _ ?_;clear K' hK;with_reducible refine aw_block ?_
 refine aw_loop (fun s G nx=>s 1=rowT Ru.cells rules∧s 2=bV root∧s 3=.ptr 0 0∧G 0=some (.var 27 m.cells)∧∃(k q:Nat),k≤S.length∧s 8=sV ((if k<S.length then some (nth S k)else none).getD ⟨#[]⟩)∧s 9=bV (decide (k<S.length))∧s 7=.row q k∧1≤q∧G q=some (.row 35 (flat Dep.cells ((S.take k).map fun n=>edgeOf rules (findD (byM root m.deps) n))))) (fun s _ _=>match s 7 with | .row _ k=>S.length-k | _=>0) ?_ ?_
 ·refine⟨by simp,by simp,by simp,by simp,0,2,by omega,by simp,?_,by simp,by omega,by simp⟩;by_cases h0:0<S.length
  ·simp[h0]
  ·simp[h0]
 ·rintro s G nx hf ⟨s1,s2,s3,g0,k,q,hk,s8,s9,s7,hq,hG⟩;have o7:=s7;have hqn:q<nx:=fresh_lt hf hG;by_cases hk2:k<S.length
  ·have hst:((S.take (k+1)).map fun n=>edgeOf rules (findD (byM root m.deps) n))=((S.take k).map fun n=>edgeOf rules (findD (byM root m.deps) n))++[edgeOf rules (findD (byM root m.deps) (nth S k))]:=by
    rw[List.take_add_one,List.getElem?_eq_getElem hk2,←nth_eq hk2,List.map_append];rfl
   have hE:=edge212_ok m rules root (nth S k) hd hrl (hmem k hk2);have hN:=next211_ok m hdl root false (nth S k);rw[hn1 k hk2]at hN;have hec:(edgeOf rules (findD (byM root m.deps) (nth S k))).cells=[iV (edgeOf rules (findD (byM root m.deps) (nth S k))).kind,sV (edgeOf rules (findD (byM root m.deps) (nth S k))).name,rowT Alt.cells (edgeOf rules (findD (byM root m.deps) (nth S k))).range]:=rfl;generalize edgeOf rules (findD (byM root m.deps) (nth S k))=e at*;rw[if_pos hk2,Option.getD_some]at s8;have htl:min k S.length=k:=(by omega);have b1:k+1≤9223372036854775807:=(by omega);have b2:(k+1)*48≤140737488355328:=(by omega);have hnl:(if k+1<S.length then some (nth S (k+1))else none).isSome=decide (k+1<S.length):=(by split<;>simp_all);rw[hnl]at hN;generalize hT2:(S.take k).map (fun n=>edgeOf rules (findD (byM root m.deps) n))=T at*;have hTl:T.length=k:=(by rw[←hT2,List.length_map,List.length_take];omega);with_reducible refine aA ?_;refine aR fun K' hK=> ?_
   simp[s9,hk2];refine hK _ _ _ ?_;clear K' hK;with_reducible refine aXk (by simp) ?_;refine aw_toS (aw_block ?_);refine aR fun K' hK=> ?_
   simp[s1,s2,s3,s8,g0];refine acall_new hE (by first | rfl | (simp;done) | (simp;rfl) | (simp;exact⟨rfl,rfl⟩)) ?_;simp[addJ_one];refine hK _ _ _ ?_;clear K' hK;refine aw_gen (fun u H nz=>u 1=rowT Ru.cells rules∧u 2=bV root∧u 3=.ptr 0 0∧u 7=.row q k∧u 8=sV (nth S k)∧u 10=.ptr (nx+1) 0∧nz=nx+2∧H 0=some (.var 27 m.cells)∧H q=some (.row 35 (flat Dep.cells T))∧H nx=some (.row 83 (flat Alt.cells e.range))∧H (nx+1)=some (.var 35 [iV e.kind,sV e.name,.row nx e.range.length])) ?_ ?_
   ·have e0:¬0=nx:=(by omega);have e1:¬q=nx:=(by omega);have e2:¬q=nx+1:=(by omega);exact⟨by simp[s1],by simp[s2],by simp[s3],by simp[s7],by simp[s8],by simp,by omega,by simp[e0,g0],by simp[e1,e2,hG],by simp,by simp⟩
   rintro u H nz ⟨u1,u2,u3,u7,u8,u10,rfl,h0,hq2,k1,k2⟩;have hTr:treeOf Tryz.prog H (.row nx e.range.length)=some (rowT Alt.cells e.range):=treeOf_of k1 c83 rfl;have e0:¬0=nx:=(by omega);have e1:¬q=nx:=(by omega);have e2:¬q=nx+2:=(by omega);have e3:¬nx+2=q:=(by omega);have e4:¬0=nx+2:=(by omega);have e5:¬0=nx+2+1:=(by omega);have e6:¬0=q:=(by omega);have w0:frzOf H (.row nx e.range.length) 0=some (.var 27 m.cells):=(by rw[frzOf_ne (by omega)];exact h0);with_reducible refine aR fun K' hK=> ?_
   simp[u7,u10,k2,hTr,hq2,e1,e2,e3,hTl,b1,b2,treeOf_row,srcOf_row];refine hK _ _ _ ?_;clear K' hK;with_reducible refine aS fun K' hK=> ?_
   simp[u2,u3,u8,w0,e4,e5,e6];refine acall_flat hN rfl (by first | rfl | (simp[w0,e4,e5,e6];done) | (simp[w0,e4,e5,e6];rfl) | (simp[w0,e4,e5,e6];exact⟨rfl,rfl⟩)) ?_;simp;refine hK _ _ _ ?_;clear K' hK;with_reducible refine aw_skipL ?_
   refine blockK_normal ?_;refine aw_skipL (loopK_normal ?_ ?_)
   ·refine⟨by simp[u1],by simp[u2],by simp[u3],by simp[w0,e4,e5,e6],k+1,nx+2+1,by omega,by simp,by simp,by simp,by omega,?_⟩;rw[hst,←flat_snoc,hec];simp
   ·simp[o7];omega
  ·have hke:k=S.length:=(by omega);subst hke;rw[List.take_length]at hG;with_reducible refine aA ?_;refine aR fun K' hK=> ?_
   simp[s9];refine hK _ _ _ ?_;clear K' hK;with_reducible refine aY (by simp) ?_;refine aw_exit ?_
   refine loopK_exit (blockK_exit ?_);with_reducible refine aR fun K' hK=> ?_
   simp[s7];refine hK _ _ _ ?_;clear K' hK;with_reducible refine aw_retL ?_
   simp[blockK,loopK,Post,resA,res1,expT,expA,exp1,expM,expL,okT,okA,ok1,rowOf,Tryz.f183,hG]
set_option maxRecDepth 100000
set_option maxHeartbeats 400000
theorem numP_atoi {l:List UInt8} (h:numOk l=true):numP l=true∧numR l=atoiN l:=by
 have hp:numP l=true∧l.length≤6:=by
  unfold numOk at h;simp only[Bool.and_eq_true,decide_eq_true_eq]at h;exact⟨h.1,h.2.1⟩
 have h2:=hp.1;rw[numP_eq]at h2;simp only[Bool.and_eq_true,Bool.not_eq_true',decide_eq_false_iff_not]at h2;refine⟨hp.1,?_⟩;rw[numR,if_pos h,atoi_num h2.1 h2.2 (by omega)]
theorem partF_num {l:List UInt8} (h:partF l=true) (hn:numP l=true):numR l=atoiN l:=by
 unfold partF at h;simp only[Bool.and_eq_true,beq_iff_eq]at h;rw[hn]at h;exact(numP_atoi h.2.2.2.symm).2
def partsR (a b:Bs):Int:=if numP (bsL a)=true∧numP (bsL b)=true then cmpI (numR (bsL a)) (numR (bsL b))else if numP (bsL a)=true then-1 else if numP (bsL b)=true then 1 else cmpB a b
theorem partsR_eq {a b:Bs} (ha:partF (bsL a)=true) (hb:partF (bsL b)=true):partsR a b=partsN a b:=by
 unfold partsR partsN;by_cases h1:numP (bsL a)=true
 ·by_cases h2:numP (bsL b)=true
  ·rw[if_pos ⟨h1,h2⟩,if_pos h1,if_pos h2,partF_num ha h1,partF_num hb h2]
  ·rw[if_neg (fun h=>h2 h.2),if_pos h1,if_pos h1,if_neg h2]
 ·rw[if_neg (fun h=>h1 h.1),if_neg h1,if_neg h1]
set_option maxRecDepth 100000
set_option maxHeartbeats 4000000
theorem order227_ok (a b:Int):CallsOK Tryz.prog 227 [iV a,iV b] (iV (cmpI a b)) []:=by
 refine callsOK mixed Tryz.call227 Tryz.func227 rfl (by rw[Tryz.ntmps227];simp) ?_ rfl;rw[Tryz.ntmps227];with_reducible refine aR fun K' hK=> ?_
 simp;refine hK _ _ _ ?_;clear K' hK;by_cases h1:a<b
 ·with_reducible refine aA ?_;refine aR fun K' hK=> ?_
  simp[h1];refine hK _ _ _ ?_;clear K' hK;with_reducible refine aX (by simp[h1]) ?_;refine aA ?_;refine aR fun K' hK=> ?_
  simp;refine hK _ _ _ ?_;clear K' hK;with_reducible refine aw_ret ?_
  simp[blockK,loopK,Post,resA,res1,expT,expA,exp1,expM,expL,okT,okA,ok1,rowOf,Tryz.f227];simp[cmpI,h1]
 ·with_reducible refine aA ?_;refine aR fun K' hK=> ?_
  simp[h1];refine hK _ _ _ ?_;clear K' hK;with_reducible refine aYk (by simp[h1]) ?_
  by_cases h2:b<a
  ·with_reducible refine aA ?_;refine aR fun K' hK=> ?_
   simp[h2];refine hK _ _ _ ?_;clear K' hK;with_reducible refine aX (by simp[h2]) ?_;refine aA ?_;refine aR fun K' hK=> ?_
   simp;refine hK _ _ _ ?_;clear K' hK;with_reducible refine aw_ret ?_
   simp[blockK,loopK,Post,resA,res1,expT,expA,exp1,expM,expL,okT,okA,ok1,rowOf,Tryz.f227];simp[cmpI,h1,h2]
  ·with_reducible refine aA ?_;refine aR fun K' hK=> ?_
   simp[h2];refine hK _ _ _ ?_;clear K' hK;with_reducible refine aYk (by simp[h2]) ?_;refine aR fun K' hK=> ?_
   simp;refine hK _ _ _ ?_;clear K' hK;with_reducible refine aw_retL ?_
   simp[blockK,loopK,Post,resA,res1,expT,expA,exp1,expM,expL,okT,okA,ok1,rowOf,Tryz.f227];simp[cmpI,h1,h2]
theorem small228_ok (a b:Bs):CallsOK Tryz.prog 228 [sV a,sV b] (iV (if a=⟨#[]⟩∧b=⟨#[]⟩then 0 else 1)) []:=by
 refine callsOK mixed Tryz.call228 Tryz.func228 rfl (by rw[Tryz.ntmps228];simp) ?_ rfl;rw[Tryz.ntmps228];with_reducible refine aR fun K' hK=> ?_
 simp;refine hK _ _ _ ?_;clear K' hK;by_cases h1:a=⟨#[]⟩
 ·by_cases h2:b=⟨#[]⟩
  ·with_reducible refine aA ?_;refine aR fun K' hK=> ?_
   simp[h1,h2];refine hK _ _ _ ?_;clear K' hK;with_reducible refine aX (by simp) ?_;refine aA ?_;refine aR fun K' hK=> ?_
   simp;refine hK _ _ _ ?_;clear K' hK;with_reducible refine aw_ret ?_
   simp[blockK,loopK,Post,resA,res1,expT,expA,exp1,expM,expL,okT,okA,ok1,rowOf,Tryz.f228];simp[h1,h2]
  ·with_reducible refine aA ?_;refine aR fun K' hK=> ?_
   simp[h1,h2];refine hK _ _ _ ?_;clear K' hK;with_reducible refine aYk (by simp) ?_;refine aR fun K' hK=> ?_
   simp;refine hK _ _ _ ?_;clear K' hK;with_reducible refine aw_retL ?_
   simp[blockK,loopK,Post,resA,res1,expT,expA,exp1,expM,expL,okT,okA,ok1,rowOf,Tryz.f228];simp[h1,h2]
 ·with_reducible refine aA ?_;refine aR fun K' hK=> ?_
  simp[h1];refine hK _ _ _ ?_;clear K' hK;with_reducible refine aYk (by simp) ?_;refine aR fun K' hK=> ?_
  simp;refine hK _ _ _ ?_;clear K' hK;with_reducible refine aw_retL ?_
  simp[blockK,loopK,Post,resA,res1,expT,expA,exp1,expM,expL,okT,okA,ok1,rowOf,Tryz.f228];simp[h1]
theorem parts229_ok (a b:Bs) (ha:a.size≤4000000000) (hb:b.size≤4000000000):CallsOK Tryz.prog 229 [sV a,sV b] (iV (partsR a b)) []:=by
 refine callsOK mixed Tryz.call229 Tryz.func229 rfl (by rw[Tryz.ntmps229];simp) ?_ rfl;rw[Tryz.ntmps229];with_reducible refine aR fun K' hK=> ?_
 simp;refine hK _ _ _ ?_;clear K' hK;with_reducible refine aA ?_;refine aR fun K' hK=> ?_
 simp;refine acall_flat (digits70_ok a (by omega)) rfl (by simp) ?_;by_cases na:numP (bsL a)=true
 ·simp[na];refine acall_flat (digits70_ok b (by omega)) rfl (by simp) ?_;by_cases nb:numP (bsL b)=true
  ·simp[nb];refine hK _ _ _ ?_;clear K' hK;with_reducible refine aX (by simp) ?_;refine aA ?_;refine aR fun K' hK=> ?_
   simp;refine acall_flat (number71_ok a (by omega)) rfl (by simp) ?_;simp;refine acall_flat (number71_ok b (by omega)) rfl (by simp) ?_;simp;refine acall_flat (order227_ok (numR (bsL a)) (numR (bsL b))) rfl (by simp) ?_;simp;refine hK _ _ _ ?_;clear K' hK;with_reducible refine aw_ret ?_
   simp[blockK,loopK,Post,resA,res1,expT,expA,exp1,expM,expL,okT,okA,ok1,rowOf,Tryz.f229];simp[partsR,na,nb]
  ·simp[nb];refine hK _ _ _ ?_;clear K' hK;with_reducible refine aYk (by simp) ?_;refine aA ?_;refine aR fun K' hK=> ?_
   simp;refine acall_flat (digits70_ok a (by omega)) rfl (by simp) ?_;simp[na];refine hK _ _ _ ?_;clear K' hK;with_reducible refine aX (by simp) ?_;refine aA ?_;refine aR fun K' hK=> ?_
   simp;refine hK _ _ _ ?_;clear K' hK;with_reducible refine aw_ret ?_
   simp[blockK,loopK,Post,resA,res1,expT,expA,exp1,expM,expL,okT,okA,ok1,rowOf,Tryz.f229];simp[partsR,na,nb]
 ·simp[na];refine hK _ _ _ ?_;clear K' hK;with_reducible refine aYk (by simp) ?_;refine aA ?_;refine aR fun K' hK=> ?_
  simp;refine acall_flat (digits70_ok a (by omega)) rfl (by simp) ?_;simp[na];refine hK _ _ _ ?_;clear K' hK;with_reducible refine aYk (by simp) ?_;refine aA ?_;refine aR fun K' hK=> ?_
  simp;refine acall_flat (digits70_ok b (by omega)) rfl (by simp) ?_;by_cases nb:numP (bsL b)=true
  ·simp[nb];refine hK _ _ _ ?_;clear K' hK;with_reducible refine aX (by simp) ?_;refine aA ?_;refine aR fun K' hK=> ?_
   simp;refine hK _ _ _ ?_;clear K' hK;with_reducible refine aw_ret ?_
   simp[blockK,loopK,Post,resA,res1,expT,expA,exp1,expM,expL,okT,okA,ok1,rowOf,Tryz.f229];simp[partsR,na,nb]
  ·simp[nb];refine hK _ _ _ ?_;clear K' hK;with_reducible refine aYk (by simp) ?_
   by_cases h1:ltB a b=true
   ·with_reducible refine aA ?_;refine aR fun K' hK=> ?_
    simp[h1];refine hK _ _ _ ?_;clear K' hK;with_reducible refine aX (by simp[h1]) ?_;refine aA ?_;refine aR fun K' hK=> ?_
    simp;refine hK _ _ _ ?_;clear K' hK;with_reducible refine aw_ret ?_
    simp[blockK,loopK,Post,resA,res1,expT,expA,exp1,expM,expL,okT,okA,ok1,rowOf,Tryz.f229];simp[partsR,na,nb,cmpB,h1]
   ·with_reducible refine aA ?_;refine aR fun K' hK=> ?_
    simp[h1];refine hK _ _ _ ?_;clear K' hK;with_reducible refine aYk (by simp[h1]) ?_
    by_cases h2:ltB b a=true
    ·with_reducible refine aA ?_;refine aR fun K' hK=> ?_
     simp[h2];refine hK _ _ _ ?_;clear K' hK;with_reducible refine aX (by simp[h2]) ?_;refine aA ?_;refine aR fun K' hK=> ?_
     simp;refine hK _ _ _ ?_;clear K' hK;with_reducible refine aw_ret ?_
     simp[blockK,loopK,Post,resA,res1,expT,expA,exp1,expM,expL,okT,okA,ok1,rowOf,Tryz.f229];simp[partsR,na,nb,cmpB,h1,h2]
    ·with_reducible refine aA ?_;refine aR fun K' hK=> ?_
     simp[h2];refine hK _ _ _ ?_;clear K' hK;with_reducible refine aYk (by simp[h2]) ?_;refine aR fun K' hK=> ?_
     simp;refine hK _ _ _ ?_;clear K' hK;with_reducible refine aw_retL ?_
     simp[blockK,loopK,Post,resA,res1,expT,expA,exp1,expM,expL,okT,okA,ok1,rowOf,Tryz.f229];simp[partsR,na,nb,cmpB,h1,h2]
theorem okParts {v:Ver} (h:verOk v=true) (hp:v.pre≠⟨#[]⟩):∀b∈strs (spl (bsL v.pre)),partF (bsL b)=true:=by
 intro b hb;simp only[verOk,preOk,Bool.and_eq_true,Bool.or_eq_true,decide_eq_true_eq]at h;rcases h.1 with h1 | h1
 ·exact absurd ((empty_iff _).2 h1) hp
 ·rw[dot_spl,Bool.and_eq_true,List.all_eq_true]at h1;obtain⟨l,hl,rfl⟩:=List.mem_map.1 hb;have:bsL (ofL l)=l:=(by simp[bsL,ofL]);rw[this];exact h1.2 l hl
set_option maxRecDepth 100000
set_option maxHeartbeats 4000000
theorem cmpI_lt {a b:Int} (h:a<b):cmpI a b= -1:=by unfold cmpI;rw[if_pos h]
theorem cmpI_gt {a b:Int} (h:b<a):cmpI a b=1:=by unfold cmpI;rw[if_neg (by omega),if_pos h]
theorem size_pos {a:Bs} (h:¬a=⟨#[]⟩):0<a.size:=by
 rcases Nat.eq_zero_or_pos a.size with h2 | h2
 ·exact absurd (ByteArray.size_eq_zero_iff.1 h2) h
 ·exact h2
theorem wrap_0:IntKind.i64.wrap 0=0:=by decide
theorem wrap_1:IntKind.i64.wrap 1=1:=by decide
theorem wrap_m1:IntKind.i64.wrap (-1)= -1:=by decide
theorem compare192_ok (a b:Ver) (ha:a.pre.size≤1000000) (hb:b.pre.size≤1000000):CallsOK Tryz.prog 192 [.agg a.cells,.agg b.cells] (iV (comparN a b)) []:=by
 refine callsOK mixed Tryz.call192 Tryz.func192 rfl (by rw[Tryz.ntmps192];simp) ?_ rfl;rw[Tryz.ntmps192];with_reducible refine aR fun K' hK=> ?_
 simp;refine hK _ _ _ ?_;clear K' hK;with_reducible refine aA ?_;refine aR fun K' hK=> ?_
 simp;refine acall_flat (right37_ok a (by omega)) rfl (by simp) ?_;by_cases va:verOk a=true
 ·simp[va];refine acall_flat (right37_ok b (by omega)) rfl (by simp) ?_;by_cases vb:verOk b=true
  ·simp[vb];refine hK _ _ _ ?_;clear K' hK;with_reducible refine aYk (by simp) ?_
   have fin:comparN a b=if coreN a b≠0∨a.pre=b.pre then coreN a b else if a.pre=⟨#[]⟩then 1 else if b.pre=⟨#[]⟩then-1 else rowsN (strs (spl (bsL a.pre))) (strs (spl (bsL b.pre))):=(by rw[comparN,if_pos ⟨va,vb⟩]);by_cases e1:a.maj=b.maj
   ·with_reducible refine aA ?_;refine aR fun K' hK=> ?_
    simp[e1];refine hK _ _ _ ?_;clear K' hK;with_reducible refine aYk (by simp[e1]) ?_
    by_cases e2:a.min=b.min
    ·with_reducible refine aA ?_;refine aR fun K' hK=> ?_
     simp[e2];refine hK _ _ _ ?_;clear K' hK;with_reducible refine aYk (by simp[e2]) ?_
     by_cases e3:a.pat=b.pat
     ·with_reducible refine aA ?_;refine aR fun K' hK=> ?_
      simp[e3];refine hK _ _ _ ?_;clear K' hK;with_reducible refine aYk (by simp[e3]) ?_
      have hcore:coreN a b=0:=(by simp[coreN,e1,e2,e3,cmpI_self]);by_cases p1:a.pre=⟨#[]⟩
      ·with_reducible refine aA ?_;refine aR fun K' hK=> ?_
       simp[p1];refine hK _ _ _ ?_;clear K' hK;with_reducible refine aX (by simp[p1]) ?_;refine aA ?_;refine aQ fun K' hK=> ?_
       simp;refine acall_flat (order227_ok b.pre.size a.pre.size) rfl (by simp) ?_;simp;refine acall_flat (small228_ok a.pre b.pre) rfl (by simp) ?_;by_cases p2:b.pre=⟨#[]⟩
       ·have hv:comparN a b=0:=(by rw[fin,if_pos (.inr (by rw[p1,p2])),hcore]);simp[p1,p2,cmpI_self];refine hK _ _ _ ?_;clear K' hK;with_reducible refine aw_ret ?_
        simp[blockK,loopK,Post,resA,res1,expT,expA,exp1,expM,expL,okT,okA,ok1,rowOf,Tryz.f192];simp[hv,wrap_0,wrap_1,wrap_m1]
       ·have hv:comparN a b=1:=(by rw[fin,if_neg (by simp[hcore,p1,Ne.symm p2]),if_pos p1]);have hs:cmpI b.pre.size a.pre.size=1:=cmpI_gt (by have:=size_pos p2;rw[p1];show(0:Int)<_;omega);simp[p1,p2];rw[p1]at hs;simp[hs];refine hK _ _ _ ?_;clear K' hK;with_reducible refine aw_ret ?_
        simp[blockK,loopK,Post,resA,res1,expT,expA,exp1,expM,expL,okT,okA,ok1,rowOf,Tryz.f192];simp[hv,wrap_0,wrap_1,wrap_m1]
      ·by_cases p2:b.pre=⟨#[]⟩
       ·with_reducible refine aA ?_;refine aR fun K' hK=> ?_
        simp[p1,p2];refine hK _ _ _ ?_;clear K' hK;with_reducible refine aX (by simp[p1,p2]) ?_;refine aA ?_;refine aQ fun K' hK=> ?_
        simp;refine acall_flat (order227_ok b.pre.size a.pre.size) rfl (by simp) ?_;simp;refine acall_flat (small228_ok a.pre b.pre) rfl (by simp) ?_;have hv:comparN a b= -1:=(by rw[fin,if_neg (by simp[hcore,p1,p2]),if_neg p1,if_pos p2]);have hs:cmpI b.pre.size a.pre.size= -1:=cmpI_lt (by have:=size_pos p1;rw[p2];show(0:Int)<_;omega);simp[p1,p2];rw[p2]at hs;simp[hs];refine hK _ _ _ ?_;clear K' hK;with_reducible refine aw_ret ?_
        simp[blockK,loopK,Post,resA,res1,expT,expA,exp1,expM,expL,okT,okA,ok1,rowOf,Tryz.f192];simp[hv,wrap_0,wrap_1,wrap_m1]
       ·with_reducible refine aA ?_;refine aR fun K' hK=> ?_
        simp[p1,p2];refine hK _ _ _ ?_;clear K' hK;with_reducible refine aYk (by simp[p1,p2]) ?_;refine aR fun K' hK=> ?_
        simp;refine acall_new (cut58_ok a.pre (by omega)) (by simp) ?_;simp[addJ_one];refine hK _ _ _ ?_;clear K' hK;with_reducible refine aR fun K' hK=> ?_
        simp;refine acall_new (cut58_ok b.pre (by omega)) (by simp) ?_;simp[addJ_one];refine hK _ _ _ ?_;clear K' hK;with_reducible refine aA ?_;refine aR fun K' hK=> ?_
        simp;refine hK _ _ _ ?_;clear K' hK;have hpa:=okParts va p1;have hpb:=okParts vb p2;have hla:=strs_le a.pre;have hlb:=strs_le b.pre;have hsa:∀x∈strs (spl (bsL a.pre)),x.size≤4000000000:=fun x hx=>(by have:=strs_size hx;omega);have hsb:∀x∈strs (spl (bsL b.pre)),x.size≤4000000000:=fun x hx=>(by have:=strs_size hx;omega);have hv:comparN a b=rowsN (strs (spl (bsL a.pre))) (strs (spl (bsL b.pre))):=by
         rw[fin];by_cases p3:a.pre=b.pre
         ·rw[if_pos (.inr p3),hcore,p3,rowsN_self]
         ·rw[if_neg (by simp[hcore,p3]),if_neg p1,if_neg p2]
        generalize strs (spl (bsL a.pre))=x at*;generalize strs (spl (bsL b.pre))=y at*;rw[hv];with_reducible refine aw_block ?_
        refine aw_loop (fun s G nx=>s 5=.row 2 x.length∧s 6=.row 3 y.length∧G 2=some (.row 9 (flat sC x))∧G 3=some (.row 9 (flat sC y))∧∃i:Nat,s 7=iV i∧i≤x.length∧i≤y.length∧rowsN x y=rowsN (x.drop i) (y.drop i)) (fun s _ _=>match s 7 with | .v (.int _ n)=>x.length-n.toNat | _=>0) ?_ ?_
        ·exact⟨by simp,by simp,by simp,by simp,0,by simp,by omega,by omega,by simp⟩
        ·rintro s G nx hf ⟨s5,s6,g2,g3,i,s7,hi,hj,ht⟩;have hw:IntKind.i64.wrap (↑i+1)=((i+1:Nat):Int):=wrapS (by omega);by_cases hi2:i<x.length
         ·by_cases hj2:i<y.length
          ·with_reducible refine aA ?_;refine aR fun K' hK=> ?_
           simp[s5,s6,s7,g2,g3,hi2,hj2];refine hK _ _ _ ?_;clear K' hK;with_reducible refine aXk (by simp[hi2,hj2]) ?_
           have hstep:=rowsN_drop hi2 hj2;have e:partsR (nth x i) (nth y i)=partsN (nth x i) (nth y i):=partsR_eq (hpa _ (nth_mem hi2)) (hpb _ (nth_mem hj2));have h1:=hsa _ (nth_mem hi2);have h2:=hsb _ (nth_mem hj2);with_reducible refine aw_block ?_;refine aQ fun K' hK=> ?_
           simp[s5,s6,s7,g2,g3,hi2,hj2];refine acall_flat (parts229_ok (nth x i) (nth y i) h1 h2) rfl (by simp) ?_;simp;refine hK _ _ _ ?_;clear K' hK;rw[e];by_cases h0:partsN (nth x i) (nth y i)=0
           ·skip;with_reducible refine aR fun K' hK=> ?_
            simp[h0];refine hK _ _ _ ?_;clear K' hK;with_reducible refine aVk (by simp[h0]) ?_;refine aw_skipL ?_
            refine blockK_normal ?_;with_reducible refine aS fun K' hK=> ?_
            simp[s7,hw];refine hK _ _ _ ?_;clear K' hK;refine aw_skipL (loopK_normal ?_ ?_)
            ·exact⟨by simp[s5],by simp[s6],by simp[g2],by simp[g3],i+1,by simp[hw],by omega,by omega,by rw[ht,hstep,if_pos h0]⟩
            ·simp[s7,hw];omega
           ·skip;with_reducible refine aR fun K' hK=> ?_
            simp[h0];refine hK _ _ _ ?_;clear K' hK;with_reducible refine aU (by simp[h0]) ?_;refine aA ?_;refine aR fun K' hK=> ?_
            simp;refine hK _ _ _ ?_;clear K' hK;with_reducible refine aw_ret ?_
            simp[blockK,loopK,Post,resA,res1,expT,expA,exp1,expM,expL,okT,okA,ok1,rowOf,Tryz.f192];rw[ht,hstep,if_neg h0]
          ·have:y.length=i:=(by omega);with_reducible refine aA ?_;refine aR fun K' hK=> ?_
           simp[s5,s6,s7,g2,g3,hi2,hj2];refine hK _ _ _ ?_;clear K' hK;with_reducible refine aY (by simp[hi2,hj2]) ?_;refine aw_exit ?_
           refine loopK_exit (blockK_exit ?_);with_reducible refine aR fun K' hK=> ?_
           simp[s5,s6,g2,g3];refine acall_flat (order227_ok x.length y.length) rfl (by simp) ?_;simp;refine hK _ _ _ ?_;clear K' hK;with_reducible refine aw_retL ?_
           simp[blockK,loopK,Post,resA,res1,expT,expA,exp1,expM,expL,okT,okA,ok1,rowOf,Tryz.f192];rw[ht,rowsN_end (by omega)]
         ·with_reducible refine aA ?_;refine aR fun K' hK=> ?_
          simp[s5,s6,s7,g2,g3,hi2];refine hK _ _ _ ?_;clear K' hK;with_reducible refine aY (by simp[hi2]) ?_;refine aw_exit ?_
          refine loopK_exit (blockK_exit ?_);with_reducible refine aR fun K' hK=> ?_
          simp[s5,s6,g2,g3];refine acall_flat (order227_ok x.length y.length) rfl (by simp) ?_;simp;refine hK _ _ _ ?_;clear K' hK;with_reducible refine aw_retL ?_
          simp[blockK,loopK,Post,resA,res1,expT,expA,exp1,expM,expL,okT,okA,ok1,rowOf,Tryz.f192];rw[ht,rowsN_end (by omega)]
     ·with_reducible refine aA ?_;refine aR fun K' hK=> ?_
      simp[e3];refine hK _ _ _ ?_;clear K' hK;with_reducible refine aX (by simp[e3]) ?_;refine aA ?_;refine aR fun K' hK=> ?_
      simp;refine acall_flat (order227_ok a.pat b.pat) rfl (by simp) ?_;simp;refine hK _ _ _ ?_;clear K' hK;with_reducible refine aw_ret ?_
      simp[blockK,loopK,Post,resA,res1,expT,expA,exp1,expM,expL,okT,okA,ok1,rowOf,Tryz.f192];have:coreN a b=cmpI a.pat b.pat:=(by simp[coreN,e1,e2,cmpI_self]);rw[fin,if_pos (.inl (by rw[this];exact fun h=>e3 (cmpI_zero.1 h))),this]
    ·with_reducible refine aA ?_;refine aR fun K' hK=> ?_
     simp[e2];refine hK _ _ _ ?_;clear K' hK;with_reducible refine aX (by simp[e2]) ?_;refine aA ?_;refine aR fun K' hK=> ?_
     simp;refine acall_flat (order227_ok a.min b.min) rfl (by simp) ?_;simp;refine hK _ _ _ ?_;clear K' hK;with_reducible refine aw_ret ?_
     simp[blockK,loopK,Post,resA,res1,expT,expA,exp1,expM,expL,okT,okA,ok1,rowOf,Tryz.f192];have h0:cmpI a.min b.min≠0:=fun h=>e2 (cmpI_zero.1 h);have:coreN a b=cmpI a.min b.min:=(by simp[coreN,e1,cmpI_self,h0]);rw[fin,if_pos (.inl (by rw[this];exact h0)),this]
   ·with_reducible refine aA ?_;refine aR fun K' hK=> ?_
    simp[e1];refine hK _ _ _ ?_;clear K' hK;with_reducible refine aX (by simp[e1]) ?_;refine aA ?_;refine aR fun K' hK=> ?_
    simp;refine acall_flat (order227_ok a.maj b.maj) rfl (by simp) ?_;simp;refine hK _ _ _ ?_;clear K' hK;with_reducible refine aw_ret ?_
    simp[blockK,loopK,Post,resA,res1,expT,expA,exp1,expM,expL,okT,okA,ok1,rowOf,Tryz.f192];have h0:cmpI a.maj b.maj≠0:=fun h=>e1 (cmpI_zero.1 h);have:coreN a b=cmpI a.maj b.maj:=(by simp[coreN,h0]);rw[fin,if_pos (.inl (by rw[this];exact h0)),this]
  ·simp[vb];refine hK _ _ _ ?_;clear K' hK;with_reducible refine aX (by simp) ?_;refine aA ?_;refine aR fun K' hK=> ?_
   simp;refine hK _ _ _ ?_;clear K' hK;with_reducible refine aw_ret ?_
   simp[blockK,loopK,Post,resA,res1,expT,expA,exp1,expM,expL,okT,okA,ok1,rowOf,Tryz.f192];simp[comparN,vb]
 ·simp[va];refine hK _ _ _ ?_;clear K' hK;with_reducible refine aX (by simp) ?_;refine aA ?_;refine aR fun K' hK=> ?_
  simp;refine hK _ _ _ ?_;clear K' hK;with_reducible refine aw_ret ?_
  simp[blockK,loopK,Post,resA,res1,expT,expA,exp1,expM,expL,okT,okA,ok1,rowOf,Tryz.f192];simp[comparN,va]
set_option maxRecDepth 100000
set_option maxHeartbeats 4000000
theorem bound155_ok (b:Bd) (v:Ver) (hb:b.ver.pre.size≤1000000) (hv:v.pre.size≤1000000):CallsOK Tryz.prog 155 [.agg b.cells,.agg v.cells] (bV (holdB v b)) []:=by
 refine callsOK mixed Tryz.call155 Tryz.func155 rfl (by rw[Tryz.ntmps155];simp) ?_ rfl;rw[Tryz.ntmps155];with_reducible refine aR fun K' hK=> ?_
 simp;refine hK _ _ _ ?_;clear K' hK;with_reducible refine aR fun K' hK=> ?_
 simp;refine acall_flat (compare192_ok v b.ver hv hb) rfl (by simp) ?_;simp;refine hK _ _ _ ?_;clear K' hK;with_reducible refine aA ?_;refine aR fun K' hK=> ?_
 simp;refine hK _ _ _ ?_;clear K' hK;have hd:holdB v b=opN b.op (comparN v b.ver):=rfl;generalize comparN v b.ver=c at*;with_reducible refine aw_block ?_
 by_cases h1:b.op=1
 ·skip;with_reducible refine aR fun K' hK=> ?_
  simp[h1];refine hK _ _ _ ?_;clear K' hK;with_reducible refine aU (by simp[h1]) ?_;refine aA ?_;refine aR fun K' hK=> ?_
  simp;refine hK _ _ _ ?_;clear K' hK;with_reducible refine aw_ret ?_
  simp[blockK,loopK,Post,resA,res1,expT,expA,exp1,expM,expL,okT,okA,ok1,rowOf,Tryz.f155];simp[hd,opN,h1]
 ·skip;with_reducible refine aR fun K' hK=> ?_
  simp[h1];refine hK _ _ _ ?_;clear K' hK;with_reducible refine aV (by simp[h1]) ?_
  by_cases h2:b.op=2
  ·with_reducible refine aA ?_;refine aR fun K' hK=> ?_
   simp[h2];refine hK _ _ _ ?_;clear K' hK;with_reducible refine aX (by simp[h2]) ?_;refine aA ?_;refine aR fun K' hK=> ?_
   simp;refine hK _ _ _ ?_;clear K' hK;with_reducible refine aw_ret ?_
   simp[blockK,loopK,Post,resA,res1,expT,expA,exp1,expM,expL,okT,okA,ok1,rowOf,Tryz.f155];simp[hd,opN,h2]
  ·with_reducible refine aA ?_;refine aR fun K' hK=> ?_
   simp[h2];refine hK _ _ _ ?_;clear K' hK;with_reducible refine aY (by simp[h2]) ?_
   by_cases h3:b.op=3
   ·with_reducible refine aA ?_;refine aR fun K' hK=> ?_
    simp[h3];refine hK _ _ _ ?_;clear K' hK;with_reducible refine aX (by simp[h3]) ?_;refine aA ?_;refine aR fun K' hK=> ?_
    simp;refine hK _ _ _ ?_;clear K' hK;with_reducible refine aw_ret ?_
    simp[blockK,loopK,Post,resA,res1,expT,expA,exp1,expM,expL,okT,okA,ok1,rowOf,Tryz.f155];simp[hd,opN,h3]
   ·with_reducible refine aA ?_;refine aR fun K' hK=> ?_
    simp[h3];refine hK _ _ _ ?_;clear K' hK;with_reducible refine aY (by simp[h3]) ?_
    by_cases h4:b.op=4
    ·with_reducible refine aA ?_;refine aR fun K' hK=> ?_
     simp[h4];refine hK _ _ _ ?_;clear K' hK;with_reducible refine aX (by simp[h4]) ?_;refine aA ?_;refine aR fun K' hK=> ?_
     simp;refine hK _ _ _ ?_;clear K' hK;with_reducible refine aw_ret ?_
     simp[blockK,loopK,Post,resA,res1,expT,expA,exp1,expM,expL,okT,okA,ok1,rowOf,Tryz.f155];simp[hd,opN,h4]
    ·with_reducible refine aA ?_;refine aR fun K' hK=> ?_
     simp[h4];refine hK _ _ _ ?_;clear K' hK;with_reducible refine aYk (by simp[h4]) ?_;refine aw_skipL ?_
     refine blockK_normal ?_;with_reducible refine aR fun K' hK=> ?_
     simp;refine hK _ _ _ ?_;clear K' hK;with_reducible refine aw_retL ?_
     simp[blockK,loopK,Post,resA,res1,expT,expA,exp1,expM,expL,okT,okA,ok1,rowOf,Tryz.f155];simp[hd,opN,h1,h2,h3,h4]
theorem near_eq (v:Ver) (b:Bd):nearB v b=(decide (b.ver.pre≠⟨#[]⟩)&&(decide (b.ver.maj=v.maj)&&(decide (b.ver.min=v.min)&&decide (b.ver.pat=v.pat)))):=by
 rw[Bool.eq_iff_iff];unfold nearB;cases v with | mk a c d e=>simp
theorem lets102_ok (l:Alt) (v:Ver) (hl:Alt.sz l) (hv:v.pre.size≤1000000):CallsOK Tryz.prog 102 [rowT Bd.cells l,.agg v.cells] (bV (altHolds v l)) []:=by
 refine callsOK mixed Tryz.call102 Tryz.func102 rfl (by rw[Tryz.ntmps102];simp) ?_ rfl;rw[Tryz.ntmps102];have hll:=hl.1;with_reducible refine aR fun K' hK=> ?_
 simp;refine hK _ _ _ ?_;clear K' hK;with_reducible refine aR fun K' hK=> ?_
 simp;refine hK _ _ _ ?_;clear K' hK;with_reducible refine aA ?_;refine aR fun K' hK=> ?_
 simp;refine hK _ _ _ ?_;clear K' hK;with_reducible refine aw_block ?_
 refine aw_loop (fun s G nx=>G 0=some (.var 23 v.cells)∧s 3=.ptr 0 0∧s 0=rowT Bd.cells l∧∃j:Nat,s 6=iV j∧j≤l.length∧s 5=bV (decide (v.pre=⟨#[]⟩) || (l.take j).any (nearB v))∧(l.take j).all (holdB v)=true) (fun s _ _=>match s 6 with | .v (.int _ n)=>l.length-n.toNat | _=>0) ?_ ?_
 ·exact⟨by simp,by simp,by simp,0,by simp,by omega,by simp,by simp⟩
 ·rintro s G nx hf ⟨g0,s3,s0,j,s6,hj,s5,hjt⟩;have n0:¬0=nx:=(by have:=fresh_lt hf g0;omega);have hwj:IntKind.i64.wrap (↑j+1)=((j+1:Nat):Int):=wrapS (by omega);with_reducible refine aA ?_;refine aR fun K' hK=> ?_
  simp[s0,s6];refine hK _ _ _ ?_;clear K' hK;with_reducible refine aC fun A B hA hB=> ?_
  simp;refine⟨fun hj2=>hA ?_,fun hj2=>hB ?_⟩<;>clear hA hB A B<;>(try simp at hj2)<;>(try with_reducible refine aK ?_)
  ·have hjstep:=all_take1 (p:=holdB v) hj2;have hnstep:=any_take1 (p:=nearB v) hj2;have hjfalse:holdB v (nth l j)=false→altHolds v l=false:=fun h=>(by rw[altHolds,all_false hj2 h];rfl);have hbz:=hl.2 _ (nth_mem hj2);have hnear:=near_eq v (nth l j);generalize hgb:nth l j=b at*;with_reducible refine aw_block ?_;refine aR fun K' hK=> ?_
   simp[s0,s6,hj2,hgb];refine hK _ _ _ ?_;clear K' hK;with_reducible refine aA ?_;refine aQ fun K' hK=> ?_
   simp[s0,s6,s3,g0,n0,hj2,hgb];refine acall_flat (bound155_ok b v hbz hv) rfl (by simp) ?_;simp;refine hK _ _ _ ?_;clear K' hK;by_cases c3:holdB v b=true
   ·skip;with_reducible refine aYk (by simp[c3]) ?_
    generalize hnb:(decide (v.pre=⟨#[]⟩) || (l.take j).any (nearB v))=nb at*;have fin:bV (nb || nearB v b)=bV (decide (v.pre=⟨#[]⟩) || (l.take (j+1)).any (nearB v)):=(by rw[hnstep,←Bool.or_assoc,hnb]);refine aw_toS (aw_cut (fun s G nx=>G 0=some (.var 23 v.cells)∧s 3=.ptr 0 0∧s 0=rowT Bd.cells l∧s 6=iV j∧s 5=bV (nb || nearB v b)) ?_ ?_)
    ·rw[hnear];cases nb with
     | true=>
      with_reducible refine aS fun K' hK=> ?_
      simp[s5];refine hK _ _ _ ?_;clear K' hK;with_reducible refine aw_end ?_
      simp[s3,s0,s6,g0,n0]
     | false=>
      by_cases w0:b.ver.pre=⟨#[]⟩
      ·skip;with_reducible refine aS fun K' hK=> ?_
       simp[s5,w0];refine hK _ _ _ ?_;clear K' hK;with_reducible refine aw_end ?_
       simp[s3,s0,s6,g0,n0,w0]
      ·by_cases w1:b.ver.maj=v.maj
       ·by_cases w2:b.ver.min=v.min
        ·skip;with_reducible refine aS fun K' hK=> ?_
         simp[s5,w0,w1,w2,s3,g0,n0];refine hK _ _ _ ?_;clear K' hK;with_reducible refine aw_end ?_
         simp[s3,s0,s6,g0,n0,w0,w1,w2]
        ·skip;with_reducible refine aS fun K' hK=> ?_
         simp[s5,w0,w1,w2,s3,g0,n0];refine hK _ _ _ ?_;clear K' hK;with_reducible refine aw_end ?_
         simp[s3,s0,s6,g0,n0,w0,w1,w2]
       ·skip;with_reducible refine aS fun K' hK=> ?_
        simp[s5,w0,w1,s3,g0,n0];refine hK _ _ _ ?_;clear K' hK;with_reducible refine aw_end ?_
        simp[s3,s0,s6,g0,n0,w0,w1]
    ·clear s3 s0 g0 s5 hf n0;rintro s1 G1 nx1 ⟨g0,s3,s0,s6,s5⟩;with_reducible refine aw_skipL ?_
     refine blockK_normal ?_;with_reducible refine aS fun K' hK=> ?_
     simp[s6,hwj];refine hK _ _ _ ?_;clear K' hK;refine aw_skipL (loopK_normal ?_ ?_)
     ·exact⟨by simp[g0],by simp[s3],by simp[s0],j+1,by simp[hwj],by omega,by simp[s5];simpa using fin,by rw[hjstep,hjt,c3];rfl⟩
     ·simp[*];omega
   ·skip;with_reducible refine aX (by simp[c3]) ?_;refine aA ?_;refine aR fun K' hK=> ?_
    simp;refine hK _ _ _ ?_;clear K' hK;with_reducible refine aw_ret ?_
    simp[blockK,loopK,Post,resA,res1,expT,expA,exp1,expM,expL,okT,okA,ok1,rowOf,Tryz.f102];rw[hjfalse (by simpa using c3)]
  ·skip;with_reducible refine aw_exit ?_
   refine loopK_exit (blockK_exit ?_);rw[List.take_of_length_le (by omega)]at hjt s5;have hah:altHolds v l=(decide (v.pre=⟨#[]⟩) || l.any (nearB v)):=(by rw[altHolds,hjt];rfl);rw[←hah]at s5;with_reducible refine aR fun K' hK=> ?_
   simp[s5];refine hK _ _ _ ?_;clear K' hK;with_reducible refine aw_retL ?_
   simp[blockK,loopK,Post,resA,res1,expT,expA,exp1,expM,expL,okT,okA,ok1,rowOf,Tryz.f102]
theorem right100_ok (r:Rg) (hr:Rg.sz r):CallsOK Tryz.prog 100 [.agg r.cells] (bV (rgOk r)) []:=by
 refine callsOK mixed Tryz.call100 Tryz.func100 rfl (by rw[Tryz.ntmps100];simp) ?_ rfl;rw[Tryz.ntmps100];have hl:=hr.1;with_reducible refine aR fun K' hK=> ?_
 simp;refine hK _ _ _ ?_;clear K' hK;by_cases z1:r.length<1
 ·have z1':(r.length:Int)<1:=(by omega);with_reducible refine aA ?_;refine aR fun K' hK=> ?_
  simp[Rg.cells,z1,z1'];refine hK _ _ _ ?_;clear K' hK;with_reducible refine aX (by simp) ?_;refine aA ?_;refine aR fun K' hK=> ?_
  simp;refine hK _ _ _ ?_;clear K' hK;with_reducible refine aw_ret ?_
  simp[blockK,loopK,Post,resA,res1,expT,expA,exp1,expM,expL,okT,okA,ok1,rowOf,Tryz.f100];have:¬1≤r.length:=(by omega);simp[rgOk,this]
 ·have z1':¬(r.length:Int)<1:=(by omega);by_cases z2:8<r.length
  ·have z2':(8:Int)<r.length:=(by omega);with_reducible refine aA ?_;refine aR fun K' hK=> ?_
   simp[Rg.cells,z1,z1',z2,z2'];refine hK _ _ _ ?_;clear K' hK;with_reducible refine aX (by simp) ?_;refine aA ?_;refine aR fun K' hK=> ?_
   simp;refine hK _ _ _ ?_;clear K' hK;with_reducible refine aw_ret ?_
   simp[blockK,loopK,Post,resA,res1,expT,expA,exp1,expM,expL,okT,okA,ok1,rowOf,Tryz.f100];have:¬r.length≤8:=(by omega);simp[rgOk,this]
  ·have z2':¬(8:Int)<r.length:=(by omega);with_reducible refine aA ?_;refine aR fun K' hK=> ?_
   simp[Rg.cells,z1,z1',z2,z2'];refine hK _ _ _ ?_;clear K' hK;with_reducible refine aYk (by simp) ?_;refine aA ?_;refine aR fun K' hK=> ?_
   simp;refine hK _ _ _ ?_;clear K' hK;with_reducible refine aw_block ?_
   refine aw_loop (fun s G nx=>G 0=some (.var 33 [rowT Alt.cells r])∧s 1=.ptr 0 0∧∃i:Nat,s 3=iV i∧i≤r.length∧(r.take i).all altOk=true) (fun s _ _=>match s 3 with | .v (.int _ n)=>r.length-n.toNat | _=>0) ?_ ?_
   ·exact⟨by simp[Rg.cells],by simp,0,by simp,by omega,by simp⟩
   ·rintro s G nx hf ⟨g0,s1,i,s3,hi,ht⟩;have o3:=s3;have n0:¬0=nx:=(by have:=fresh_lt hf g0;omega);have hw:IntKind.i64.wrap (↑i+1)=((i+1:Nat):Int):=wrapS (by omega);with_reducible refine aA ?_;refine aR fun K' hK=> ?_
    simp[s1,s3,g0];refine hK _ _ _ ?_;clear K' hK;with_reducible refine aC fun A B hA hB=> ?_
    simp;refine⟨fun hi2=>hA ?_,fun hi2=>hB ?_⟩<;>clear hA hB A B<;>(try simp at hi2)<;>(try with_reducible refine aK ?_)
    ·have hstep:=all_take1 (p:=altOk) hi2;have hA:=hr.2 _ (nth_mem hi2);have hfalse:altOk (nth r i)=false→rgOk r=false:=fun h=>(by rw[rgOk,all_false hi2 h];rfl);generalize hgl:nth r i=l at*;have hAl:=hA.1;with_reducible refine aw_block ?_
     by_cases k8:8<l.length
     ·have k8':(8:Int)<l.length:=(by omega);with_reducible refine aA ?_;refine aR fun K' hK=> ?_
      simp[s1,s3,g0,hi2,hgl,k8,k8'];refine hK _ _ _ ?_;clear K' hK;with_reducible refine aX (by simp) ?_;refine aA ?_;refine aR fun K' hK=> ?_
      simp;refine hK _ _ _ ?_;clear K' hK;with_reducible refine aw_ret ?_
      simp[blockK,loopK,Post,resA,res1,expT,expA,exp1,expM,expL,okT,okA,ok1,rowOf,Tryz.f100];have:altOk l=false:=by
       have:¬l.length≤8:=(by omega);simp[altOk,this]
      rw[hfalse this]
     ·have k8':¬(8:Int)<l.length:=(by omega);with_reducible refine aA ?_;refine aR fun K' hK=> ?_
      simp[s1,s3,g0,hi2,hgl,k8,k8'];refine hK _ _ _ ?_;clear K' hK;with_reducible refine aYk (by simp) ?_;refine aR fun K' hK=> ?_
      simp;refine hK _ _ _ ?_;clear K' hK;with_reducible refine aw_toS (aw_block ?_)
      refine aw_loop (fun s G nx=>G 0=some (.var 33 [rowT Alt.cells r])∧s 1=.ptr 0 0∧s 3=iV i∧∃j:Nat,s 4=iV j∧j≤l.length∧(l.take j).all bdOk=true) (fun s _ _=>match s 4 with | .v (.int _ n)=>l.length-n.toNat | _=>0) ?_ ?_
      ·exact⟨by simp[g0],by simp[s1],by simp[s3],0,by simp,by omega,by simp⟩
      ·clear s1 s3 g0 hf n0;rintro s G nx hf ⟨g0,s1,s3,j,s4,hj,hjt⟩;have n0:¬0=nx:=(by have:=fresh_lt hf g0;omega);have hwj:IntKind.i64.wrap (↑j+1)=((j+1:Nat):Int):=wrapS (by omega);with_reducible refine aA ?_;refine aR fun K' hK=> ?_
       simp[s1,s3,s4,g0,hi2,hgl];refine hK _ _ _ ?_;clear K' hK;with_reducible refine aC fun A B hA hB=> ?_
       simp;refine⟨fun hj2=>hA ?_,fun hj2=>hB ?_⟩<;>clear hA hB A B<;>(try simp at hj2)<;>(try with_reducible refine aK ?_)
       ·have hjstep:=all_take1 (p:=bdOk) hj2;have hjfalse:bdOk (nth l j)=false→rgOk r=false:=fun h=>hfalse (by rw[altOk,all_false hj2 h];rfl);have hbz:=hA.2 _ (nth_mem hj2);have hbd:bdOk (nth l j)=(verOk (nth l j).ver&&(decide (1≤(nth l j).op)&&decide ((nth l j).op≤5))):=rfl;generalize hgb:nth l j=b at*;with_reducible refine aw_block ?_;refine aR fun K' hK=> ?_
        simp[s1,s3,s4,g0,hi2,hgl,hj2,hgb];refine hK _ _ _ ?_;clear K' hK;by_cases b1:b.op<1
        ·skip;with_reducible refine aR fun K' hK=> ?_
         simp[b1];refine hK _ _ _ ?_;clear K' hK;with_reducible refine aU (by simp) ?_;refine aA ?_;refine aR fun K' hK=> ?_
         simp;refine hK _ _ _ ?_;clear K' hK;with_reducible refine aw_ret ?_
         simp[blockK,loopK,Post,resA,res1,expT,expA,exp1,expM,expL,okT,okA,ok1,rowOf,Tryz.f100];have:¬1≤b.op:=(by omega);rw[hjfalse (by simp[hbd,this])]
        ·by_cases b2:5<b.op
         ·skip;with_reducible refine aR fun K' hK=> ?_
          simp[b1,b2];refine hK _ _ _ ?_;clear K' hK;with_reducible refine aU (by simp) ?_;refine aA ?_;refine aR fun K' hK=> ?_
          simp;refine hK _ _ _ ?_;clear K' hK;with_reducible refine aw_ret ?_
          simp[blockK,loopK,Post,resA,res1,expT,expA,exp1,expM,expL,okT,okA,ok1,rowOf,Tryz.f100];have:¬b.op≤5:=(by omega);rw[hjfalse (by simp[hbd,this])]
         ·skip;with_reducible refine aR fun K' hK=> ?_
          simp[b1,b2];refine acall_flat (right37_ok b.ver (by omega)) rfl (by simp) ?_;simp;refine hK _ _ _ ?_;clear K' hK;by_cases c3:verOk b.ver=true
          ·skip;with_reducible refine aVk (by simp[c3]) ?_;refine aw_skipL ?_
           refine blockK_normal ?_;with_reducible refine aS fun K' hK=> ?_
           simp[s4,hwj];refine hK _ _ _ ?_;clear K' hK;refine aw_skipL (loopK_normal ?_ ?_)
           ·exact⟨by simp[g0,n0],by simp[s1],by simp[s3],j+1,by simp[hwj],by omega,by
             rw[hjstep,hjt,hbd,c3];simp;omega⟩
           ·simp[s4,hwj];omega
          ·skip;with_reducible refine aU (by simp[c3]) ?_;refine aA ?_;refine aR fun K' hK=> ?_
           simp;refine hK _ _ _ ?_;clear K' hK;with_reducible refine aw_ret ?_
           simp[blockK,loopK,Post,resA,res1,expT,expA,exp1,expM,expL,okT,okA,ok1,rowOf,Tryz.f100];rw[hjfalse (by simp[hbd,c3])]
       ·skip;with_reducible refine aw_exit ?_
        refine loopK_exit (blockK_exit ?_);rw[List.take_of_length_le (by omega)]at hjt;with_reducible refine aw_skipL ?_
        refine blockK_normal ?_;with_reducible refine aS fun K' hK=> ?_
        simp[s3,hw];refine hK _ _ _ ?_;clear K' hK;refine aw_skipL (loopK_normal ?_ ?_)
        ·exact⟨by simp[g0],by simp[s1],i+1,by simp[hw],by omega,by
          rw[hstep,ht,altOk,hjt];simp;omega⟩
        ·simp[o3,s3,hw];omega
    ·skip;with_reducible refine aw_exit ?_
     refine loopK_exit (blockK_exit ?_);rw[List.take_of_length_le (by omega)]at ht;with_reducible refine aR fun K' hK=> ?_
     simp;refine hK _ _ _ ?_;clear K' hK;with_reducible refine aw_retL ?_
     simp[blockK,loopK,Post,resA,res1,expT,expA,exp1,expM,expL,okT,okA,ok1,rowOf,Tryz.f100];simp[rgOk,ht];omega
theorem holds44_ok (r:Rg) (v:Ver) (hr:Rg.sz r) (hv:v.pre.size≤1000000):CallsOK Tryz.prog 44 [.agg r.cells,.agg v.cells] (bV (rgHolds v r)) []:=by
 refine callsOK mixed Tryz.call44 Tryz.func44 rfl (by rw[Tryz.ntmps44];simp) ?_ rfl;rw[Tryz.ntmps44];have hl:=hr.1;with_reducible refine aR fun K' hK=> ?_
 simp;refine hK _ _ _ ?_;clear K' hK;with_reducible refine aA ?_;refine aR fun K' hK=> ?_
 simp[Rg.cells];refine acall_flat (right100_ok r hr) rfl (by simp[Rg.cells]) ?_;by_cases c1:rgOk r=true
 ·simp[c1];refine acall_flat (right37_ok v (by omega)) rfl (by simp) ?_;by_cases c2:verOk v=true
  ·simp[c2];refine hK _ _ _ ?_;clear K' hK;with_reducible refine aYk (by simp) ?_;refine aA ?_;refine aR fun K' hK=> ?_
   simp;refine hK _ _ _ ?_;clear K' hK;with_reducible refine aw_block ?_
   refine aw_loop (fun s G nx=>G 0=some (.var 33 [rowT Alt.cells r])∧G 1=some (.var 23 v.cells)∧s 2=.ptr 0 0∧s 3=.ptr 1 0∧∃i:Nat,s 5=iV i∧i≤r.length∧(r.take i).any (altHolds v)=false) (fun s _ _=>match s 5 with | .v (.int _ n)=>r.length-n.toNat | _=>0) ?_ ?_
   ·exact⟨by simp[Rg.cells],by simp,by simp,by simp,0,by simp,by omega,by simp⟩
   ·rintro s G nx hf ⟨g0,g1,s2,s3,i,s5,hi,ht⟩;have hw:IntKind.i64.wrap (↑i+1)=((i+1:Nat):Int):=wrapS (by omega);with_reducible refine aA ?_;refine aR fun K' hK=> ?_
    simp[s2,s5,g0];refine hK _ _ _ ?_;clear K' hK;with_reducible refine aC fun A B hA hB=> ?_
    simp;refine⟨fun hi2=>hA ?_,fun hi2=>hB ?_⟩<;>clear hA hB A B<;>(try simp at hi2)<;>(try with_reducible refine aK ?_)
    ·have hA:=hr.2 _ (nth_mem hi2);with_reducible refine aw_block ?_;refine aQ fun K' hK=> ?_
     simp[s2,s3,s5,g0,g1,hi2];refine acall_flat (lets102_ok (nth r i) v hA hv) rfl (by simp) ?_;simp;refine hK _ _ _ ?_;clear K' hK;by_cases c4:altHolds v (nth r i)=true
     ·skip;with_reducible refine aU (by simp[c4]) ?_;refine aA ?_;refine aR fun K' hK=> ?_
      simp;refine hK _ _ _ ?_;clear K' hK;with_reducible refine aw_ret ?_
      simp[blockK,loopK,Post,resA,res1,expT,expA,exp1,expM,expL,okT,okA,ok1,rowOf,Tryz.f44];have:r.any (altHolds v)=true:=List.any_eq_true.2 ⟨_,nth_mem hi2,c4⟩;simp[rgHolds,c1,c2,this]
     ·skip;with_reducible refine aVk (by simp[c4]) ?_;refine aw_skipL ?_
      refine blockK_normal ?_;with_reducible refine aS fun K' hK=> ?_
      simp[s5,hw];refine hK _ _ _ ?_;clear K' hK;refine aw_skipL (loopK_normal ?_ ?_)
      ·exact⟨by simp[g0],by simp[g1],by simp[s2],by simp[s3],i+1,by simp[hw],by omega,any_take hi2 ht (by simpa using c4)⟩
      ·simp[s5,hw];omega
    ·skip;with_reducible refine aw_exit ?_
     refine loopK_exit (blockK_exit ?_);rw[List.take_of_length_le (by omega)]at ht;with_reducible refine aR fun K' hK=> ?_
     simp;refine hK _ _ _ ?_;clear K' hK;with_reducible refine aw_retL ?_
     simp[blockK,loopK,Post,resA,res1,expT,expA,exp1,expM,expL,okT,okA,ok1,rowOf,Tryz.f44];simp[rgHolds,ht]
  ·simp[c2];refine hK _ _ _ ?_;clear K' hK;with_reducible refine aX (by simp) ?_;refine aA ?_;refine aR fun K' hK=> ?_
   simp;refine hK _ _ _ ?_;clear K' hK;with_reducible refine aw_ret ?_
   simp[blockK,loopK,Post,resA,res1,expT,expA,exp1,expM,expL,okT,okA,ok1,rowOf,Tryz.f44];simp[rgHolds,c2]
 ·simp[c1];refine hK _ _ _ ?_;clear K' hK;with_reducible refine aX (by simp) ?_;refine aA ?_;refine aR fun K' hK=> ?_
  simp;refine hK _ _ _ ?_;clear K' hK;with_reducible refine aw_ret ?_
  simp[blockK,loopK,Post,resA,res1,expT,expA,exp1,expM,expL,okT,okA,ok1,rowOf,Tryz.f44];simp[rgHolds,c1]
end Go.Proofs.YtgipehooceecpaaGreatDoorAbs
