/- The reference's order of versions is that of the program. -/
import Derived.Test.YtgipehooceecpaaGreatDoorRa7
import Derived.Test.YtgipehooceecpaaGreatDoorRows
import Derived.Deep.DeepHandedRow
import Derived.Deep.DeepWitnessRowRef
import Derived.Lib.LaidIn
import Derived.Stop.LaidErr
import Derived.Shelf.Vars
import Derived.MakeChecks
import Derived.OpenShut
import Derived.ChangeBears2
import Derived.Test.YtgipehooceecpaaGreatDoorRa6
import Derived.Test.YtgipehooceecpaaGreatDoorRa2
namespace Go.Proofs.YtgipehooceecpaaGreatDoorAbs
set_option linter.unusedSimpArgs false
set_option linter.unusedVariables false
open Go Go.RowKit Go.Proofs
set_option maxRecDepth 100000
set_option maxHeartbeats 4000000
@[simp] theorem o_makeFunc0 {P:Program} [Gl P] {s:Sl} {G:Hp} {nx:Nat} {f:FuncId} (caps:Array Operand):evOp P s G nx (.makeFunc (.func f) #[] caps)=some (.fn f (caps.toList.map (evX s)),G,nx):=by simp[evOp]
@[simp] theorem treeOf_fn {P:Program} {G:Hp} (f:FuncId) (cs:List AV):treeOf P G (.fn f cs)=none:=rfl
@[simp] theorem frzOf_fn {G:Hp} (f:FuncId) (cs:List AV):frzOf G (.fn f cs)=G:=rfl
@[simp] theorem isFn_fn (f:FuncId) (cs:List AV):isFn (.fn f cs)=true:=rfl
theorem rng3:[0,1,2]=List.range 3:=rfl
def AccI (G:Hp) (Z ny:Nat) (x:AV) (acc:List Int):Prop:=(x=.v (.slice none 0 0)∧acc=[])∨∃r,x=.row r acc.length∧G r=some (.row 3 (flat iC acc))∧Z<r∧r<ny∧acc≠[]
def valCodes (root:Man) (L:List Man) (t:List Pl):List Int:=[manCheck root true,idxCheck L,checkN t]
def fineV (root:Man) (L:List Man) (t:List Pl) (i:Int):Bool:=match manVal root L t i with
 | none=>false
 | some m=>(ofF m.deps root.rules (decide (i=0))).all (holdsV t i)
def wrongL (root:Man) (L:List Man) (t:List Pl):List Int:=(belowL t 0).filter fun i=> !fineV root L t i
def ValSz (root:Man) (L:List Man) (t:List Pl):Prop:=Man.sz root∧Man.okS root∧Idx.sz L∧(∀m∈L,Man.okS m)∧OKs t∧∀p∈t,p.ver.pre.size≤1000000
def codeV (root:Man) (L:List Man) (t:List Pl):Int:=orN (valCodes root L t)
def wrongR (root:Man) (L:List Man) (t:List Pl):AV×Js:=
 if codeV root L t=0 then(if wrongL root L t=[]then(.tup [.v (.slice none 0 0),iV 0],[])else(.tup [.row 0 (wrongL root L t).length,iV 0],[(3,flat iC (wrongL root L t))]))else(.tup [.row 0 0,iV (codeV root L t)],[(3,[])])
theorem manR_trees {G:Hp} {a b:Nat} {m:Man} (hba:¬b=a) (ka:G a=some (.row 35 (flat Dep.cells m.deps))) (kb:G b=some (.row 96 (flat Ru.cells m.rules))):treesOf Tryz.prog G (m.cellsR (.row a m.deps.length) (.row b m.rules.length))=some (m.cells,frzOf (frzOf G (.row a m.deps.length)) (.row b m.rules.length)):=by
 have c1:Tryz.prog.cellsOf 35=3:=(by kernel_rfl);have c2:Tryz.prog.cellsOf 96=2:=(by kernel_rfl);have h1:treeOf Tryz.prog G (.row a m.deps.length)=some (rowT Dep.cells m.deps):=treeOf_of ka c1 rfl;have h2:treeOf Tryz.prog (frzOf G (.row a m.deps.length)) (.row b m.rules.length)=some (rowT Ru.cells m.rules):=(treeOf_frzne hba).trans (treeOf_of kb c2 rfl);have f:∀(x:Value) (G:Hp),frzOf G (.v x)=G:=fun _ _=>rfl;simp only[Man.cellsR,treesOf,treeOf_v,f,h1,h2];rfl
theorem manVal_mem {root:Man} {L:List Man} {t:List Pl} {i:Int} {m:Man} (h:manVal root L t i=some m):m=root∨m∈L:=by
 unfold manVal at h;split at h
 ·split at h
  ·injection h with h;exact .inl h.symm
  ·exact .inr (List.mem_of_find?_eq_some h)
 ·cases h
theorem ofF_range {ds:List Dep} {rules:List Ru} {b:Bool} {d:Dep} (h:d∈ofF ds rules b):(∃e∈ds,d.range=e.range)∨∃e∈rules,d.range=e.range:=by
 obtain⟨n,hn,rfl⟩:=List.mem_map.1 h;have hn2:n∈namesOf (byM b ds):=(sortN_perm _).mem_iff.1 hn;have hfd:findD (byM b ds) n∈ds:=by
  cases hp:posM (byM b ds) n with
  | none=>exact absurd hn2 (posM_none.1 hp)
  | some j=>
   have:=posM_lt hp;simp only[findD,hp];exact byM_mem (nth_mem this.1)
 unfold edgeOf;cases ha:atF rules (findD (byM b ds) n).name with
 | none=>exact .inl ⟨_,hfd,rfl⟩
 | some i=>
  have:=(List.findIdx?_eq_some_iff_getElem.1 ha).1;exact .inr ⟨_,nth_mem this,rfl⟩
theorem wrong35_ok (root:Man) (L:List Man) (t:List Pl) (h:ValSz root L t):CallsOK Tryz.prog 35 [.agg root.cells,rowT Man.cells L,rowT Pl.cells t] (wrongR root L t).1 (wrongR root L t).2:=by
 obtain⟨hrz,hro,hLz,hLo,ht,hv⟩:=h;have hLl:=hLz.1;refine callsOK mixed Tryz.call35 Tryz.func35 rfl (by rw[Tryz.ntmps35];simp) ?_ ?_
 ·rw[Tryz.ntmps35];with_reducible refine aR fun K' hK=> ?_
  simp;refine hK _ _ _ ?_;clear K' hK;refine aw_scopeL ?_;refine aw_gen (fun s G nx=>s 3=.ptr 0 0∧s 4=.ptr 1 0∧s 5=.ptr 2 0∧nx=4∧G 0=some (.var 27 root.cells)∧G 1=some (.var 28 [rowT Man.cells L])∧G 2=some (.var 29 [rowT Pl.cells t])) ?_ ?_
  ·simp;exact⟨rfl,rfl⟩
  rintro s G nx ⟨s3,s4,s5,rfl,g0,g1,g2⟩;with_reducible refine aA ?_;refine aR fun K' hK=> ?_
  simp[s3,s4,s5,rng3];refine hK _ _ _ ?_;clear K' hK;with_reducible refine aw_block ?_
  refine aw_loop (fun s G nx=>s 3=.ptr 0 0∧s 4=.ptr 1 0∧s 5=.ptr 2 0∧G 0=some (.var 27 root.cells)∧G 1=some (.var 28 [rowT Man.cells L])∧G 2=some (.var 29 [rowT Pl.cells t])∧s 20=.row 4 3∧G 4=some (.var 97 [.fn 87 [.ptr 0 0],.fn 88 [.ptr 1 0],.fn 89 [.ptr 2 0]])∧s 21=iV 3∧∃i:Nat,s 22=iV i∧i≤3∧orN (valCodes root L t)=orN ((valCodes root L t).drop i)) (fun s _ _=>match s 22 with | .v (.int _ n)=>3-n.toNat | _=>0) ?_ ?_
  ·exact⟨by simp[s3],by simp[s4],by simp[s5],by simp[g0],by simp[g1],by simp[g2],by simp,by simp,by simp,0,by simp,by omega,by simp⟩
  ·clear s3 s4 s5 g0 g1 g2;rintro s G nx hf ⟨s3,s4,s5,g0,g1,g2,s20,g4,s21,i,s22,hi,ht2⟩;have hw:IntKind.i64.wrap (↑i+1)=((i+1:Nat):Int):=wrapS (by omega);with_reducible refine aR fun K' hK=> ?_
   simp[s21,s22];refine hK _ _ _ ?_;clear K' hK;with_reducible refine aC fun A B hA hB=> ?_
   simp;refine⟨fun hi2=>hA ?_,fun hi2=>hB ?_⟩<;>clear hA hB A B<;>(try simp at hi2)<;>(try with_reducible refine aK ?_)
   ·have hfin:∀c:Int,orN (valCodes root L t)=c→c≠0→wrongR root L t=(.tup [.row 0 0,iV c],[(3,[])]):=fun c h1 h2=>(by rw[wrongR,codeV,h1,if_neg h2]);have hcases:i=0∨i=1∨i=2:=(by omega);have w1:IntKind.i64.wrap 1=1:=wrap64 (by omega) (by omega);have w2:IntKind.i64.wrap 2=2:=wrap64 (by omega) (by omega);have w3:IntKind.i64.wrap 3=3:=wrap64 (by omega) (by omega);rcases hcases with rfl | rfl | rfl
    ·have hd:orN ((valCodes root L t).drop 0)=if manCheck root true=0 then orN ((valCodes root L t).drop 1)else manCheck root true:=rfl;with_reducible refine aw_block ?_;refine aR fun K' hK=> ?_
     simp[s20,s22,g4];refine hK _ _ _ ?_;clear K' hK;with_reducible refine aR fun K' hK=> ?_
     simp;refine acall_inlK (inlK mixed Tryz.call87 Tryz.func87 rfl (by rw[Tryz.ntmps87];simp) fun hf=> ?_);rw[Tryz.ntmps87];with_reducible refine aR fun K' hK=> ?_
     simp;refine hK _ _ _ ?_;clear K' hK;with_reducible refine aR fun K' hK=> ?_
     simp[g0];refine acall_flat (manCheck_ok root hrz true) rfl (by simp) ?_;simp;refine hK _ _ _ ?_;clear K' hK;with_reducible refine aw_retL ?_
     simp[blockK,loopK,Post,resA,res1,expT,expA,exp1,expM,expL,okT,okA,ok1,rowOf,Tryz.f87];refine hK _ _ _ ?_;clear K' hK;by_cases c:manCheck root true=0
     ·skip;with_reducible refine aR fun K' hK=> ?_
      simp[c];refine hK _ _ _ ?_;clear K' hK;with_reducible refine aVk (by simp[c]) ?_;refine aw_skipL ?_
      refine blockK_normal ?_;with_reducible refine aS fun K' hK=> ?_
      simp[s22,w1,w2,w3];refine hK _ _ _ ?_;clear K' hK;refine aw_skipL (loopK_normal ?_ ?_)
      ·exact⟨by simp[s3],by simp[s4],by simp[s5],g0,g1,g2,by simp[s20],g4,by simp[s21],1,by simp[w1,w2,w3],by omega,by rw[ht2,hd,if_pos c]⟩
      ·simp[s22,w1,w2,w3]
     ·skip;with_reducible refine aR fun K' hK=> ?_
      simp[c];refine hK _ _ _ ?_;clear K' hK;with_reducible refine aU (by simp[c]) ?_;refine aA ?_;refine aR fun K' hK=> ?_
      simp;refine hK _ _ _ ?_;clear K' hK;rw[hfin _ (by rw[ht2,hd,if_neg c]) c];with_reducible refine aw_ret ?_
      simp[blockK,loopK,Post,resA,res1,expT,expA,exp1,expM,expL,okT,okA,ok1,rowOf,Tryz.f35,scopeK]
    ·have hd:orN ((valCodes root L t).drop 1)=if idxCheck L=0 then orN ((valCodes root L t).drop 2)else idxCheck L:=rfl;with_reducible refine aw_block ?_;refine aR fun K' hK=> ?_
     simp[s20,s22,g4];refine hK _ _ _ ?_;clear K' hK;with_reducible refine aR fun K' hK=> ?_
     simp;refine acall_inlK (inlK mixed Tryz.call88 Tryz.func88 rfl (by rw[Tryz.ntmps88];simp) fun hf=> ?_);rw[Tryz.ntmps88];with_reducible refine aR fun K' hK=> ?_
     simp;refine hK _ _ _ ?_;clear K' hK;with_reducible refine aR fun K' hK=> ?_
     simp[g1];refine acall_flat (idxCheck_ok L hLz) rfl (by simp) ?_;simp;refine hK _ _ _ ?_;clear K' hK;with_reducible refine aw_retL ?_
     simp[blockK,loopK,Post,resA,res1,expT,expA,exp1,expM,expL,okT,okA,ok1,rowOf,Tryz.f88];refine hK _ _ _ ?_;clear K' hK;by_cases c:idxCheck L=0
     ·skip;with_reducible refine aR fun K' hK=> ?_
      simp[c];refine hK _ _ _ ?_;clear K' hK;with_reducible refine aVk (by simp[c]) ?_;refine aw_skipL ?_
      refine blockK_normal ?_;with_reducible refine aS fun K' hK=> ?_
      simp[s22,w1,w2,w3];refine hK _ _ _ ?_;clear K' hK;refine aw_skipL (loopK_normal ?_ ?_)
      ·exact⟨by simp[s3],by simp[s4],by simp[s5],g0,g1,g2,by simp[s20],g4,by simp[s21],2,by simp[w1,w2,w3],by omega,by rw[ht2,hd,if_pos c]⟩
      ·simp[s22,w1,w2,w3]
     ·skip;with_reducible refine aR fun K' hK=> ?_
      simp[c];refine hK _ _ _ ?_;clear K' hK;with_reducible refine aU (by simp[c]) ?_;refine aA ?_;refine aR fun K' hK=> ?_
      simp;refine hK _ _ _ ?_;clear K' hK;rw[hfin _ (by rw[ht2,hd,if_neg c]) c];with_reducible refine aw_ret ?_
      simp[blockK,loopK,Post,resA,res1,expT,expA,exp1,expM,expL,okT,okA,ok1,rowOf,Tryz.f35,scopeK]
    ·have hd:orN ((valCodes root L t).drop 2)=if checkN t=0 then orN ((valCodes root L t).drop 3)else checkN t:=rfl;with_reducible refine aw_block ?_;refine aR fun K' hK=> ?_
     simp[s20,s22,g4];refine hK _ _ _ ?_;clear K' hK;with_reducible refine aR fun K' hK=> ?_
     simp;refine acall_inlK (inlK mixed Tryz.call89 Tryz.func89 rfl (by rw[Tryz.ntmps89];simp) fun hf=> ?_);rw[Tryz.ntmps89];with_reducible refine aR fun K' hK=> ?_
     simp;refine hK _ _ _ ?_;clear K' hK;with_reducible refine aR fun K' hK=> ?_
     simp[g2];refine acall_flat (check18_ok t ht) rfl (by simp) ?_;simp;refine hK _ _ _ ?_;clear K' hK;with_reducible refine aw_retL ?_
     simp[blockK,loopK,Post,resA,res1,expT,expA,exp1,expM,expL,okT,okA,ok1,rowOf,Tryz.f89];refine hK _ _ _ ?_;clear K' hK;by_cases c:checkN t=0
     ·skip;with_reducible refine aR fun K' hK=> ?_
      simp[c];refine hK _ _ _ ?_;clear K' hK;with_reducible refine aVk (by simp[c]) ?_;refine aw_skipL ?_
      refine blockK_normal ?_;with_reducible refine aS fun K' hK=> ?_
      simp[s22,w1,w2,w3];refine hK _ _ _ ?_;clear K' hK;refine aw_skipL (loopK_normal ?_ ?_)
      ·exact⟨by simp[s3],by simp[s4],by simp[s5],g0,g1,g2,by simp[s20],g4,by simp[s21],3,by simp[w1,w2,w3],by omega,by rw[ht2,hd,if_pos c]⟩
      ·simp[s22,w1,w2,w3]
     ·skip;with_reducible refine aR fun K' hK=> ?_
      simp[c];refine hK _ _ _ ?_;clear K' hK;with_reducible refine aU (by simp[c]) ?_;refine aA ?_;refine aR fun K' hK=> ?_
      simp;refine hK _ _ _ ?_;clear K' hK;rw[hfin _ (by rw[ht2,hd,if_neg c]) c];with_reducible refine aw_ret ?_
      simp[blockK,loopK,Post,resA,res1,expT,expA,exp1,expM,expL,okT,okA,ok1,rowOf,Tryz.f35,scopeK]
   ·skip;with_reducible refine aw_exit ?_
    refine loopK_exit (blockK_exit ?_);have hi3:i=3:=(by omega);subst hi3;have hc0:codeV root L t=0:=(by rw[codeV,ht2];rfl);have hx0:checkN t=0:=by
     have h1:orN (valCodes root L t)=0:=hc0;have h2:orN (valCodes root L t)=if manCheck root true=0 then(if idxCheck L=0 then(if checkN t=0 then 0 else checkN t)else idxCheck L)else manCheck root true:=rfl;rw[h2]at h1;split at h1
     ·split at h1
      ·split at h1
       ·assumption
       ·exact h1
      ·rename_i h3;exact absurd h1 h3
     ·rename_i h3;exact absurd h1 h3
    have hn4:=fresh_lt hf g4;clear hn4;with_reducible refine aR fun K' hK=> ?_
    simp;refine hK _ _ _ ?_;clear K' hK;have n0:¬0=nx:=(by have:=fresh_lt hf g0;omega);have n1:¬1=nx:=(by have:=fresh_lt hf g1;omega);have n2:¬2=nx:=(by have:=fresh_lt hf g2;omega);have h4x:4<nx:=fresh_lt hf g4;refine aw_label ?_;with_reducible refine aA ?_;refine aR fun K' hK=> ?_
    simp[s5,g2,n2];refine acall_new (below28_ok t ht 0) (by simp) ?_;simp[addJ_one];refine acall_inlK (inlK mixed Tryz.call90 Tryz.func90 rfl (by rw[Tryz.ntmps90];simp) fun hf=> ?_);rw[Tryz.ntmps90];with_reducible refine aR fun K' hK=> ?_
    simp;refine hK _ _ _ ?_;clear K' hK;with_reducible refine aR fun K' hK=> ?_
    simp;refine hK _ _ _ ?_;clear K' hK;with_reducible refine aw_retL ?_
    simp[blockK,loopK,Post,resA,res1,expT,expA,exp1,expM,expL,okT,okA,ok1,rowOf,Tryz.f90];refine hK _ _ _ ?_;clear K' hK;refine aw_gen (fun s G ny=>s 3=.ptr 0 0∧s 4=.ptr 1 0∧s 5=.ptr 2 0∧s 11=.ptr nx 0∧s 34=.fn 142 [.ptr (nx+2) 0]∧ny=nx+3∧G 0=some (.var 27 root.cells)∧G 1=some (.var 28 [rowT Man.cells L])∧G 2=some (.var 29 [rowT Pl.cells t])∧G nx=some (.var 49 [.v (.slice none 0 0)])∧G (nx+1)=some (.row 3 (flat iC (belowL t 0)))∧G (nx+2)=some (.var 49 [.row (nx+1) (belowL t 0).length])) ?_ ?_
    ·have a0:¬0=nx+1:=(by omega);have a1:¬1=nx+1:=(by omega);have a2:¬2=nx+1:=(by omega);have a3:¬1=nx+2:=(by omega);have a4:¬2=nx+2:=(by omega);have a5:¬nx=0:=(by omega);have a6:¬nx=1:=(by omega);have a7:¬nx=nx+1+1:=(by omega);refine⟨by simp[s3],by simp[s4],by simp[s5],by simp,by simp,by omega,by simp[n0,g0],by simp[n1,a5,a3,g1],by simp[n2,n1,a4,a5,a6,g2],by simp[a7],by simp,by simp⟩
    clear s3 s4 s5 g0 g1 g2 g4 s20 s21 s22 ht2 hf hw hi hi2;rintro s G ny ⟨s3,s4,s5,s11,s34,hny,g0,g1,g2,gA,gR,gV⟩;generalize hA:nx=A at*;generalize hR:A+1=R at*;generalize hV:A+2=V at*;subst hny;generalize hZ:A+3=Z at*;have vZ:¬V=Z:=(by omega);have rZ:¬R=Z:=(by omega);have aZ:¬A=Z:=(by omega);have oZ0:¬0=Z:=(by omega);have oZ1:¬1=Z:=(by omega);have oZ2:¬2=Z:=(by omega);with_reducible refine aw_block ?_
    refine aw_range (f:=142) (fn:=Tryz.f142) mixed s34 Tryz.call142 Tryz.func142 rfl (by rw[Tryz.ntmps142];simp) rfl ?_;rw[Tryz.ntmps142];generalize hL:(Lp.mk s 72 _ _ _)=Lq;have hLs:Lq.s=s:=(by subst hL;rfl);have hbl:(belowL t 0).length≤1000000000:=by
     have htl:=ht.1;unfold belowL;split
     ·unfold belowK;rw[List.length_map];refine Nat.le_trans (List.length_filter_le _ _) ?_;rw[List.length_range];exact htl
     ·simp
    have hround:∀(p:Int) (x:AV) (acc:List Int) (K:AV→Hp→Nat→Prop) (G:Hp) (ny:Nat),acc.length≤1000000000→Z<ny→G 0=some (.var 27 root.cells)→G 1=some (.var 28 [rowT Man.cells L])→G 2=some (.var 29 [rowT Pl.cells t])→G A=some (.var 49 [x])→AccI G Z ny x acc→G Z=some (Lq.o .ready none)→
      (∀G' ny' x',ny≤ny'→(∀k,k<Z→k≠A→G' k=G k)→G' Z=some (Lq.o .ready none)→G' A=some (.var 49 [x'])→AccI G' Z ny' x' (acc++if fineV root L t p=true then[]else[p])→K (bV true) G' ny')→YldK Tryz.prog Z [iV p] K G ny:=by
     subst hL;clear g0 g1 g2 gA gR gV;intro p x acc K G ny hal hZn g0 g1 g2 gA hacc gZ k1;refine yldK mixed gZ rfl (by simp) rfl rfl fun hf=> ?_;with_reducible refine aS fun K' hK=> ?_
     simp;refine hK _ _ _ ?_;clear K' hK;refine⟨rfl,gZ,?_⟩;dsimp only;generalize (Lp.mk s 72 _ _ _)=Lq at gZ k1⊢;with_reducible refine aw_toS (aw_block ?_)
     have hmc:=manVal_ok root hro L hLl hLo t ht p;have hfine:fineV root L t p=match manVal root L t p with
      | none=>false
      | some m=>(ofF m.deps root.rules (decide (p=0))).all (holdsV t p):=rfl
     have hmem:=fun m (h:manVal root L t p=some m)=>manVal_mem h;generalize manVal root L t p=r at hmc hfine hmem;cases r with
     | none=>
      with_reducible refine aR fun K' hK=> ?_
      simp[s3,s4,s5,oZ0,oZ1,oZ2,g0,g1,g2];refine acall_new hmc (by simp) ?_;simp[manR,addJ_nil];refine hK _ _ _ ?_;clear K' hK;with_reducible refine aA ?_;refine aR fun K' hK=> ?_
      simp;refine hK _ _ _ ?_;clear K' hK;with_reducible refine aX (by simp) ?_
      have hfine:fineV root L t p=false:=hfine;have an:¬A=ny:=(by omega);have an1:¬A=ny+1:=(by omega);have an2:¬A=ny+2:=(by omega);have an3:¬A=ny+1+1:=(by omega);have zn:¬Z=ny:=(by omega);have za:¬Z=A:=(by omega);have zn1:¬Z=ny+1:=(by omega);have zn2:¬Z=ny+1+1:=(by omega);rcases hacc with⟨rfl,rfl⟩ | ⟨q,rfl,hq,hZq,hqn,hne⟩
      ·with_reducible refine aA ?_;refine aR fun K' hK=> ?_
       simp[s11,gA,aZ,an,an1,an3,treeOf_row,srcOf_row];refine hK _ _ _ ?_;clear K' hK;with_reducible refine aw_exit ?_
       (repeat first | with_reducible refine blockK_exit ?_ | with_reducible refine blockK_pass (by decide) ?_);refine aw_skipL (roundK_normal (by simp[zn,za,zn1,zn2]) ?_);refine k1 _ _ (.row (ny+1+1) 1) (by omega) (fun k hk hkA=>by repeat rw[Hp.upd_ne _ _ (by omega)]) (by simp) (by simp[aZ]) (.inr ⟨ny+1+1,by simp[hfine],?_,by omega,by omega,by simp[hfine]⟩);rw[hfine];rw[Hp.upd_ne _ _ (by omega),Hp.upd_ne _ _ (by omega),Hp.upd_self];rfl
      ·have b1:acc.length+1≤9223372036854775807:=(by omega);have b2:(acc.length+1)*8≤140737488355328:=(by omega);have qn:¬q=ny:=(by omega);have qn1:¬q=ny+1:=(by omega);have qZ:¬q=Z:=(by omega);have qA:¬q=A:=(by omega);have Aq:¬A=q:=(by omega);have Zq:¬Z=q:=(by omega);with_reducible refine aA ?_;refine aR fun K' hK=> ?_
       simp[s11,gA,hq,aZ,an,an1,an3,qn,qn1,qZ,qA,Aq,b1,b2,treeOf_row,srcOf_row];refine hK _ _ _ ?_;clear K' hK;with_reducible refine aw_exit ?_
       (repeat first | with_reducible refine blockK_exit ?_ | with_reducible refine blockK_pass (by decide) ?_);refine aw_skipL (roundK_normal (by simp[zn,za,zn1,zn2,Zq]) ?_);refine k1 _ _ (.row (ny+1+1) (acc.length+1)) (by omega) (fun k hk hkA=>by repeat rw[Hp.upd_ne _ _ (by omega)]) (by simp) (by simp[aZ]) (.inr ⟨ny+1+1,by simp[hfine],?_,by omega,by omega,by simp[hfine]⟩);rw[hfine,Hp.upd_ne _ _ (by omega),Hp.upd_ne _ _ (by omega),Hp.upd_self,if_neg (by simp),←flat_snoc];rfl
     | some m=>
      with_reducible refine aR fun K' hK=> ?_
      simp[s3,s4,s5,oZ0,oZ1,oZ2,g0,g1,g2];refine acall_new hmc (by simp) ?_;simp[manR,addJ_two,Nat.add_comm 1 ny];refine hK _ _ _ ?_;clear K' hK;with_reducible refine aA ?_;refine aR fun K' hK=> ?_
      simp;refine hK _ _ _ ?_;clear K' hK;with_reducible refine aYk (by simp) ?_
      refine aw_gen (fun u H nz=>u 3=.ptr 0 0∧u 4=.ptr 1 0∧u 5=.ptr 2 0∧u 11=.ptr A 0∧u 12=iV p∧u 13=.ptr (ny+2) 0∧nz=ny+3∧(∀k,k<Z→H k=G k)∧H Z=some (Lq.o .busy none)∧(∀k,Z<k→k<ny→H k=G k)∧H ny=some (.row 35 (flat Dep.cells m.deps))∧H (ny+1)=some (.row 96 (flat Ru.cells m.rules))∧H (ny+2)=some (.var 27 (m.cellsR (.row ny m.deps.length) (.row (ny+1) m.rules.length)))) ?_ ?_
      ·have zn:¬Z=ny:=(by omega);have zn1:¬Z=ny+1:=(by omega);have zn2:¬Z=ny+2:=(by omega);exact⟨by simp[s3],by simp[s4],by simp[s5],by simp[s11],by simp,by simp,by omega,fun k hk=>by repeat rw[Hp.upd_ne _ _ (by omega)],by simp[zn,zn1,zn2],fun k h1 h2=>by repeat rw[Hp.upd_ne _ _ (by omega)],by simp,by simp,by simp⟩
      clear hf;rintro u H nz ⟨u3,u4,u5,u11,u12,u13,rfl,hHl,hHZ,hHu,hkd,hku,hkm⟩;have hmz:Man.sz m∧Man.okS m:=by
       rcases hmem m rfl with rfl | hin
       ·exact⟨hrz,hro⟩
       ·exact⟨hLz.2 _ hin,hLo _ hin⟩
      have z0:¬0=ny:=(by omega);have z1:¬0=ny+1:=(by omega);have z2:¬0=ny+2:=(by omega);have h0:H 0=some (.var 27 root.cells):=(by rw[hHl 0 (by omega)];exact g0);have hT:=manR_trees (show¬ny+1=ny by omega) hkd hku;with_reducible refine aR fun K' hK=> ?_
      simp[u3,u12,u13,hkm,h0];refine acall_new (of10_ok m root.rules (decide (p=0)) hmz.2.1 hro.2) (by simp[hT]) ?_;simp[addJ_one,hT];refine hK _ _ _ ?_;clear K' hK;have hfine:fineV root L t p=(ofF m.deps root.rules (decide (p=0))).all (holdsV t p):=hfine;have hEz:∀d∈ofF m.deps root.rules (decide (p=0)),Rg.sz d.range:=fun d hd=>by
       rcases ofF_range hd with⟨e,he,h⟩ | ⟨e,he,h⟩
       ·rw[h];exact(hmz.1.2.2.1.2 e he).2
       ·rw[h];exact(hrz.2.2.2.2 e he).2
      have hEl:(ofF m.deps root.rules (decide (p=0))).length≤1000000000:=by
       have h1:=byM_len (decide (p=0)) m.deps;have h2:=hmz.1.2.2.1.1;unfold ofF;rw[List.length_map,(sortN_perm _).length_eq];simp only[namesOf,List.length_map];omega
      generalize ofF m.deps root.rules (decide (p=0))=E at*;with_reducible refine aw_toS (aw_block ?_)
      refine aw_loop (fun u H nz=>u 5=.ptr 2 0∧u 11=.ptr A 0∧u 12=iV p∧(∀k,k<Z→H k=G k)∧H Z=some (Lq.o .busy none)∧(∀k,Z<k→k<ny→H k=G k)∧u 55=.row (ny+3) E.length∧H (ny+3)=some (.row 35 (flat Dep.cells E))∧u 56=iV E.length∧ny+4≤nz∧∃j:Nat,u 57=iV j∧j≤E.length∧(E.take j).all (holdsV t p)=true) (fun s _ _=>match s 57 with | .v (.int _ n)=>E.length-n.toNat | _=>0) ?_ ?_
      ·have e1:¬Z=ny+3:=(by omega);have e2:¬Z=ny:=(by omega);have e3:¬Z=ny+1:=(by omega);exact⟨by simp[u5],by simp[u11],by simp[u12],fun k hk=>by rw[Hp.upd_ne _ _ (by omega),frzOf_ne (by omega),frzOf_ne (by omega)];exact hHl k hk,by simp[e1,e2,e3,hHZ],fun k h1 h2=>by rw[Hp.upd_ne _ _ (by omega),frzOf_ne (by omega),frzOf_ne (by omega)];exact hHu k h1 h2,by simp,by simp,by simp,by omega,0,by simp,by omega,by simp⟩
      ·clear u3 u4 u5 u11 u12 u13 hHl hHZ hHu hkd hku hkm h0;rintro u H nz hf ⟨u5,u11,u12,hHl,hHZ,hHu,u55,hkE,u56,hnz,j,u57,hj,hjt⟩;have hw:IntKind.i64.wrap (↑j+1)=((j+1:Nat):Int):=wrapS (by omega);with_reducible refine aR fun K' hK=> ?_
       simp[u56,u57];refine hK _ _ _ ?_;clear K' hK;with_reducible refine aC fun A B hA hB=> ?_
       simp;refine⟨fun hj2=>hA ?_,fun hj2=>hB ?_⟩<;>clear hA hB A B<;>(try simp at hj2)<;>(try with_reducible refine aK ?_)
       ·have hstep:=all_take1 (p:=holdsV t p) hj2;have hdz:=hEz _ (nth_mem hj2);have hfalse:holdsV t p (nth E j)=false→fineV root L t p=false:=fun h=>(by rw[hfine];exact all_false hj2 h);generalize hgd:nth E j=d at*;have h2:H 2=some (.var 29 [rowT Pl.cells t]):=(by rw[hHl 2 (by omega)];exact g2);have hn2:¬2=nz:=(by omega);have e3:¬ny+3=nz:=(by omega);with_reducible refine aw_block ?_;refine aR fun K' hK=> ?_
        simp[u55,u57,hj2,hkE,hgd];refine hK _ _ _ ?_;clear K' hK;with_reducible refine aR fun K' hK=> ?_
        simp[u5,u12,h2,hn2];refine acall_flat (holds30_ok t ht hv p d hdz) rfl (by first | rfl | (simp;done) | (simp;rfl) | (simp;exact⟨rfl,rfl⟩)) ?_;by_cases hd:holdsV t p d=true
        ·simp[hd];refine hK _ _ _ ?_;clear K' hK;with_reducible refine aVk (by simp) ?_;refine aw_skipL ?_
         refine blockK_normal ?_;with_reducible refine aS fun K' hK=> ?_
         simp[u57,hw];refine hK _ _ _ ?_;clear K' hK;refine aw_skipL (loopK_normal ?_ ?_)
         ·exact⟨by simp[u5],by simp[u11],by simp[u12],fun k hk=>by rw[Hp.upd_ne _ _ (by omega),Hp.upd_ne _ _ (by omega)];exact hHl k hk,by rw[Hp.upd_ne _ _ (by omega),Hp.upd_ne _ _ (by omega)];exact hHZ,fun k h1 h2=>by rw[Hp.upd_ne _ _ (by omega),Hp.upd_ne _ _ (by omega)];exact hHu k h1 h2,by simp[u55],by rw[Hp.upd_ne _ _ (by omega),Hp.upd_ne _ _ (by omega)];exact hkE,by simp[u56],by omega,j+1,by simp[hw],by omega,by rw[hstep,hjt,hd];rfl⟩
         ·simp[u57,hw];omega
        ·simp[hd];refine hK _ _ _ ?_;clear K' hK;with_reducible refine aU (by simp) ?_
         have hfine2:fineV root L t p=false:=hfalse (by simpa using hd);have hA2:H A=some (.var 49 [x]):=(by rw[hHl A (by omega)];exact gA);have an:¬A=nz:=(by omega);have an1:¬A=nz+1:=(by omega);have an3:¬A=nz+1+1:=(by omega);have zn:¬Z=nz:=(by omega);have za:¬Z=A:=(by omega);have zn1:¬Z=nz+1:=(by omega);have zn2:¬Z=nz+1+1:=(by omega);rcases hacc with⟨rfl,rfl⟩ | ⟨q,rfl,hq,hZq,hqn,hne⟩
         ·with_reducible refine aA ?_;refine aR fun K' hK=> ?_
          simp[u11,u12,hA2,an,an1,an3,treeOf_row,srcOf_row];refine hK _ _ _ ?_;clear K' hK;with_reducible refine aw_exit ?_
          (repeat first | with_reducible refine blockK_exit ?_ | with_reducible refine blockK_pass (by decide) ?_ | with_reducible refine loopK_exit ?_);refine aw_skipL (roundK_normal (by simp[zn,za,zn1,zn2,hHZ]) ?_);refine k1 _ _ (.row (nz+1+1) 1) (by omega) (fun k hk hkA=>by(repeat rw[Hp.upd_ne _ _ (by omega)]);exact hHl k hk) (by simp) (by simp[aZ]) (.inr ⟨nz+1+1,by simp[hfine2],?_,by omega,by omega,by simp[hfine2]⟩);rw[hfine2,Hp.upd_ne _ _ (by omega),Hp.upd_ne _ _ (by omega),Hp.upd_self];rfl
         ·have hq2:H q=some (.row 3 (flat iC acc)):=(by rw[hHu q hZq hqn];exact hq);have b1:acc.length+1≤9223372036854775807:=(by omega);have b2:(acc.length+1)*8≤140737488355328:=(by omega);have qn:¬q=nz:=(by omega);have qn1:¬q=nz+1:=(by omega);have qZ:¬q=Z:=(by omega);have qA:¬q=A:=(by omega);have Aq:¬A=q:=(by omega);have Zq:¬Z=q:=(by omega);with_reducible refine aA ?_;refine aR fun K' hK=> ?_
          simp[u11,u12,hA2,hq2,an,an1,an3,qn,qn1,qZ,qA,Aq,b1,b2,treeOf_row,srcOf_row];refine hK _ _ _ ?_;clear K' hK;with_reducible refine aw_exit ?_
          (repeat first | with_reducible refine blockK_exit ?_ | with_reducible refine blockK_pass (by decide) ?_ | with_reducible refine loopK_exit ?_);refine aw_skipL (roundK_normal (by simp[zn,za,zn1,zn2,Zq,hHZ]) ?_);refine k1 _ _ (.row (nz+1+1) (acc.length+1)) (by omega) (fun k hk hkA=>by(repeat rw[Hp.upd_ne _ _ (by omega)]);exact hHl k hk) (by simp) (by simp[aZ]) (.inr ⟨nz+1+1,by simp[hfine2],?_,by omega,by omega,by simp[hfine2]⟩);rw[hfine2,Hp.upd_ne _ _ (by omega),Hp.upd_ne _ _ (by omega),Hp.upd_self,if_neg (by simp),←flat_snoc];rfl
       ·skip;with_reducible refine aw_exit ?_
        refine loopK_exit (blockK_exit ?_);have hjE:j=E.length:=(by omega);subst hjE;rw[List.take_length]at hjt;have hfine2:fineV root L t p=true:=(by rw[hfine];exact hjt);with_reducible refine aw_skipL ?_
        refine blockK_normal ?_;refine aw_skipL (roundK_normal hHZ ?_);refine k1 _ _ x (by omega) (fun k hk hkA=>by rw[Hp.upd_ne _ _ (by omega)];exact hHl k hk) (by simp) (by rw[Hp.upd_ne _ _ (by omega),hHl A (by omega)];exact gA) ?_;rw[hfine2,if_pos rfl,List.append_nil];rcases hacc with h | ⟨q,hx,hq,hZq,hqn,hne⟩
        ·exact .inl h
        ·exact .inr ⟨q,hx,by rw[Hp.upd_ne _ _ (by omega),hHu q hZq hqn];exact hq,hZq,by omega,hne⟩
    with_reducible refine aR fun K' hK=> ?_
    simp[gV,vZ,rZ,gR];refine hK _ _ _ ?_;clear K' hK;with_reducible refine aw_toS (aw_block ?_)
    refine aw_loop (fun t' G' ny=>Z<ny∧t' 0=.yl Z∧t' 5=.row R (belowL t 0).length∧t' 6=iV (belowL t 0).length∧G' 0=some (.var 27 root.cells)∧G' 1=some (.var 28 [rowT Man.cells L])∧G' 2=some (.var 29 [rowT Pl.cells t])∧G' R=some (.row 3 (flat iC (belowL t 0)))∧G' Z=some (Lq.o .ready none)∧∃(i:Nat) (x:AV),t' 7=iV i∧i≤(belowL t 0).length∧G' A=some (.var 49 [x])∧AccI G' Z ny x (((belowL t 0).take i).filter fun p=> !fineV root L t p)) (fun s _ _=>match s 7 with | .v (.int _ n)=>(belowL t 0).length-n.toNat | _=>0) ?_ ?_
    ·exact⟨by omega,by simp,by simp,by simp,by simp[oZ0,g0],by simp[oZ1,g1],by simp[oZ2,g2],by simp[rZ,gR],by simp,0,_,by simp,by omega,by simp[aZ,gA],.inl ⟨rfl,by simp⟩⟩
    ·rintro t' G' ny-⟨hZn,u0,u5,u6,h0,h1,h2,hR',hZ',i,x,u7,hi,hA',hacc⟩;have hw:IntKind.i64.wrap (↑i+1)=((i+1:Nat):Int):=wrapS (by omega);with_reducible refine aR fun K' hK=> ?_
     simp[u6,u7];refine hK _ _ _ ?_;clear K' hK;with_reducible refine aC fun A B hA hB=> ?_
     simp;refine⟨fun hi2=>hA ?_,fun hi2=>hB ?_⟩<;>clear hA hB A B<;>(try simp at hi2)<;>(try with_reducible refine aK ?_)
     ·have hst:((belowL t 0).take (i+1)).filter (fun p=> !fineV root L t p)=((belowL t 0).take i).filter (fun p=> !fineV root L t p)++if fineV root L t (nth (belowL t 0) i)=true then[]else[nth (belowL t 0) i]:=by
       rw[List.take_add_one,List.getElem?_eq_getElem hi2,List.filter_append,←nth_eq hi2];congr 1;cases hf2:fineV root L t (nth (belowL t 0) i)<;>simp[hf2]
      with_reducible refine aw_block ?_;refine aR fun K' hK=> ?_
      simp[u5,u7,hi2,hR'];refine hK _ _ _ ?_;clear K' hK;with_reducible refine aR fun K' hK=> ?_
      simp[u0];refine⟨⟨_,_,_,_,_,_,_,hZ'⟩,hround (nth (belowL t 0) i) x _ _ _ _ (Nat.le_trans (List.length_filter_le _ _) (by rw[List.length_take];omega)) hZn h0 h1 h2 hA' hacc hZ' (fun G2 ny2 x' hn2 hG h5' hA2 hacc2=> ?_)⟩;simp;refine hK _ _ _ ?_;clear K' hK;with_reducible refine aVk (by simp) ?_;refine aw_skipL ?_
      refine blockK_normal ?_;with_reducible refine aS fun K' hK=> ?_
      simp[u7,hw];refine hK _ _ _ ?_;clear K' hK;refine aw_skipL (loopK_normal ?_ ?_)
      ·exact⟨by omega,by simp[u0],by simp[u5],by simp[u6],by rw[hG 0 (by omega) (by omega)];exact h0,by rw[hG 1 (by omega) (by omega)];exact h1,by rw[hG 2 (by omega) (by omega)];exact h2,by rw[hG R (by omega) (by omega)];exact hR',h5',i+1,x',by simp[hw],by omega,hA2,by rw[hst];exact hacc2⟩
      ·simp[u7,hw];omega
     ·skip;with_reducible refine aw_exit ?_
      refine loopK_exit (blockK_exit ?_);rw[List.take_of_length_le (by omega)]at hacc;have hacc:AccI G' Z ny x (wrongL root L t):=hacc;refine aw_skipL (rangeK_on (.inl rfl) hZ' ?_);rw[hLs];refine blockK_normal ?_;rcases hacc with⟨rfl,hnil⟩ | ⟨r,rfl,hr,hZr,hrn,hne⟩
      ·have hR1:wrongR root L t=(.tup [.v (.slice none 0 0),iV 0],[]):=(by rw[wrongR,if_pos hc0,if_pos hnil]);rw[hR1];with_reducible refine aR fun K' hK=> ?_
       simp[s11,aZ,hA'];refine hK _ _ _ ?_;clear K' hK;with_reducible refine aw_retL ?_
       simp[blockK,loopK,Post,resA,res1,expT,expA,exp1,expM,expL,okT,okA,ok1,rowOf,Tryz.f35,scopeK]
      ·have hR1:wrongR root L t=(.tup [.row 0 (wrongL root L t).length,iV 0],[(3,flat iC (wrongL root L t))]):=(by rw[wrongR,if_pos hc0,if_neg hne]);rw[hR1];have q1:¬r=Z:=(by omega);with_reducible refine aR fun K' hK=> ?_
       simp[s11,aZ,hA'];refine hK _ _ _ ?_;clear K' hK;with_reducible refine aw_retL ?_
       simp[blockK,loopK,Post,resA,res1,expT,expA,exp1,expM,expL,okT,okA,ok1,rowOf,Tryz.f35,scopeK,q1,hr]
 ·unfold wrongR;split
  ·split<;>rfl
  ·rfl
def validN (root:Man) (L:List Man) (t:List Pl):Bool:=decide (codeV root L t=0)&&decide (wrongL root L t=[])
set_option maxRecDepth 100000
set_option maxHeartbeats 4000000
def bigI (L:List Man):Bool:=decide (110<L.length) || L.any bigM
theorem big73_ok (L:List Man) (hl:L.length≤9223372036854775807):CallsOK Tryz.prog 73 [rowT Man.cells L] (bV (bigI L)) []:=by
 refine callsOK mixed Tryz.call73 Tryz.func73 rfl (by rw[Tryz.ntmps73];simp) ?_ rfl;rw[Tryz.ntmps73];with_reducible refine aR fun K' hK=> ?_
 simp;refine hK _ _ _ ?_;clear K' hK;with_reducible refine aA ?_;refine aR fun K' hK=> ?_
 simp;refine hK _ _ _ ?_;clear K' hK;with_reducible refine aC fun A B hA hB=> ?_
 simp;refine⟨fun h1=>hA ?_,fun h1=>hB ?_⟩<;>clear hA hB A B<;>(try simp at h1)<;>(try with_reducible refine aK ?_)
 ·with_reducible refine aA ?_;refine aR fun K' hK=> ?_
  simp;refine hK _ _ _ ?_;clear K' hK;with_reducible refine aw_ret ?_
  simp[blockK,loopK,Post,resA,res1,expT,expA,exp1,expM,expL,okT,okA,ok1,rowOf,Tryz.f73];simp[bigI];left;omega
 ·with_reducible refine aA ?_;refine aR fun K' hK=> ?_
  simp;refine hK _ _ _ ?_;clear K' hK;with_reducible refine aw_block ?_
  refine aw_loop (fun s G nx=>s 0=rowT Man.cells L∧∃i:Nat,s 3=iV i∧i≤L.length∧(L.take i).any bigM=false) (fun s _ _=>match s 3 with | .v (.int _ n)=>L.length-n.toNat | _=>0) ?_ ?_
  ·exact⟨by simp,0,by simp,by omega,by simp⟩
  ·rintro s G nx-⟨s0,i,s3,hi,ht⟩;have hw:IntKind.i64.wrap (↑i+1)=((i+1:Nat):Int):=wrapS (by omega);with_reducible refine aA ?_;refine aR fun K' hK=> ?_
   simp[s0,s3];refine hK _ _ _ ?_;clear K' hK;with_reducible refine aC fun A B hA hB=> ?_
   simp;refine⟨fun hi2=>hA ?_,fun hi2=>hB ?_⟩<;>clear hA hB A B<;>(try simp at hi2)<;>(try with_reducible refine aK ?_)
   ·skip;with_reducible refine aw_block ?_;refine aR fun K' hK=> ?_
    simp[s0,s3,hi2];refine acall_flat (big22_ok (nth L i)) rfl (by simp) ?_;simp;refine hK _ _ _ ?_;clear K' hK;by_cases c:bigM (nth L i)=true
    ·skip;with_reducible refine aU (by simp[c]) ?_;refine aA ?_;refine aR fun K' hK=> ?_
     simp;refine hK _ _ _ ?_;clear K' hK;with_reducible refine aw_ret ?_
     simp[blockK,loopK,Post,resA,res1,expT,expA,exp1,expM,expL,okT,okA,ok1,rowOf,Tryz.f73];simp only[bigI,Bool.or_eq_true,List.any_eq_true];exact .inr ⟨_,nth_mem hi2,c⟩
    ·skip;with_reducible refine aVk (by simp[c]) ?_;refine aw_skipL ?_
     refine blockK_normal ?_;with_reducible refine aS fun K' hK=> ?_
     simp[s3,hw];refine hK _ _ _ ?_;clear K' hK;refine aw_skipL (loopK_normal ?_ ?_)
     ·exact⟨by simp[s0],i+1,by simp[hw],by omega,any_take hi2 ht (by simpa using c)⟩
     ·simp[s3,hw];omega
   ·skip;with_reducible refine aw_exit ?_
    refine loopK_exit (blockK_exit ?_);rw[List.take_of_length_le (by omega)]at ht;with_reducible refine aR fun K' hK=> ?_
    simp;refine hK _ _ _ ?_;clear K' hK;with_reducible refine aw_retL ?_
    simp[blockK,loopK,Post,resA,res1,expT,expA,exp1,expM,expL,okT,okA,ok1,rowOf,Tryz.f73];simp only[bigI,ht,Bool.or_false,decide_eq_false_iff_not];omega
def bigW (root:Man) (L:List Man) (t:List Pl):Bool:=bigM root || (bigI L || bigT t)
theorem big21_ok (root:Man) (L:List Man) (t:List Pl) (hl:L.length≤9223372036854775807) (ht:t.length≤9223372036854775807):CallsOK Tryz.prog 21 [.agg root.cells,rowT Man.cells L,rowT Pl.cells t] (bV (bigW root L t)) []:=by
 refine callsOK mixed Tryz.call21 Tryz.func21 rfl (by rw[Tryz.ntmps21];simp) ?_ rfl;rw[Tryz.ntmps21];with_reducible refine aR fun K' hK=> ?_
 simp;refine hK _ _ _ ?_;clear K' hK;with_reducible refine aR fun K' hK=> ?_
 simp;refine acall_flat (big22_ok root) rfl (by simp) ?_;by_cases c1:bigM root=true
 ·simp[c1];refine hK _ _ _ ?_;clear K' hK;with_reducible refine aw_retL ?_
  simp[blockK,loopK,Post,resA,res1,expT,expA,exp1,expM,expL,okT,okA,ok1,rowOf,Tryz.f21];simp[bigW,c1]
 ·simp[c1];refine acall_flat (big73_ok L hl) rfl (by simp) ?_;by_cases c2:bigI L=true
  ·simp[c2];refine hK _ _ _ ?_;clear K' hK;with_reducible refine aw_retL ?_
   simp[blockK,loopK,Post,resA,res1,expT,expA,exp1,expM,expL,okT,okA,ok1,rowOf,Tryz.f21];simp[bigW,c2]
  ·simp[c2];refine acall_flat (big30_ok t ht) rfl (by simp) ?_;simp;refine hK _ _ _ ?_;clear K' hK;with_reducible refine aw_retL ?_
   simp[blockK,loopK,Post,resA,res1,expT,expA,exp1,expM,expL,okT,okA,ok1,rowOf,Tryz.f21];simp[bigW,c1,c2]
set_option maxRecDepth 100000
theorem op3:Opens Tryz.prog (fun _:Int=>True) (fun n=>[iV n]) 3:=(opens_int (k:=.i64) (by kernel_rfl)).map id (fun _ _=>trivial) fun _=>rfl
theorem op85:Opens Tryz.prog (fun _:Int=>True) (fun n=>[iV n]) 85:=(opens_int (k:=.i64) (by kernel_rfl)).map id (fun _ _=>trivial) fun _=>rfl
theorem op30:Opens Tryz.prog (fun _:Int=>True) (fun n=>[iV n]) 30:=(opens_int (k:=.i64) (by kernel_rfl)).map id (fun _ _=>trivial) fun _=>rfl
theorem op9:Opens Tryz.prog (fun s:Bs=>s.size≤maxLen) (fun n=>[sV n]) 9:=(opens_string (by kernel_rfl)).map id (fun _ h=>h) fun _=>rfl
theorem op23:Opens Tryz.prog (fun v:Ver=>v.pre.size≤maxLen) Ver.cells 23:=
 (opens_struct (opensF_cons 1 op3 (opensF_cons 1 op3 (opensF_cons 1 op3 (opensF_cons 1 op9 (opensF_nil (n:=4)) (by kernel_rfl)) (by kernel_rfl)) (by kernel_rfl)) (by kernel_rfl)) (by kernel_rfl) (by kernel_rfl)).map
  (fun x=>⟨x.1,x.2.1,x.2.2.1,x.2.2.2.1⟩) (fun _ h=>h.2.2.2.1) fun _=>rfl
theorem op58:Opens Tryz.prog (fun _=>True) Pl.cells 58:=
 (opens_struct (opensF_cons 1 op3 (opensF_cons 1 op9 (opensF_cons 4 op23 (opensF_nil (n:=6)) (by kernel_rfl)) (by kernel_rfl)) (by kernel_rfl)) (by kernel_rfl) (by kernel_rfl)).map
  (fun x=>⟨x.1,x.2.1,x.2.2.1⟩) (fun _ _=>trivial) fun _=>rfl
theorem op29:Opens Tryz.prog (fun l:List Pl=>l.length≤maxLen) (fun l:List Pl=>[rowT Pl.cells l]) 29:=(opens_slice op58 (by kernel_rfl) (by kernel_rfl)).map id (fun _ h=>h.1) fun _=>rfl
theorem op49:Opens Tryz.prog (fun l:List Int=>l.length≤maxLen) (fun l:List Int=>[rowT iC l]) 49:=(opens_slice (show Opens Tryz.prog (fun _:Int=>True) iC 3 from op3) (by kernel_rfl) (by kernel_rfl)).map id (fun _ h=>h.1) fun _=>rfl
theorem op87:Opens Tryz.prog (fun _=>True) Bd.cells 87:=
 (opens_struct (opensF_cons 1 op85 (opensF_cons 4 op23 (opensF_nil (n:=5)) (by kernel_rfl)) (by kernel_rfl)) (by kernel_rfl) (by kernel_rfl)).map
  (fun x=>⟨x.1,x.2.1⟩) (fun _ _=>trivial) fun _=>rfl
theorem op83:Opens Tryz.prog (fun l:Alt=>l.length≤maxLen) Alt.cells 83:=(opens_slice op87 (by kernel_rfl) (by kernel_rfl)).map id (fun _ h=>h.1) fun _=>rfl
def Rg.okO (r:Rg):Prop:=r.length≤maxLen∧∀l∈r,l.length≤maxLen
theorem op31:Opens Tryz.prog Rg.okO Rg.cells 31:=(opens_slice op83 (by kernel_rfl) (by kernel_rfl)).map id (fun _ h=>h) fun _=>rfl
theorem op33:Opens Tryz.prog Rg.okO Rg.cells 33:=
 (opens_struct (opensF_cons 1 op31 (opensF_nil (n:=1)) (by kernel_rfl)) (by kernel_rfl) (by kernel_rfl)).map (fun x=>x.1) (fun _ h=>h.1) fun x=>by simp[Rg.cells]
def Dep.okO (d:Dep):Prop:=d.name.size≤maxLen∧Rg.okO d.range
theorem op35:Opens Tryz.prog Dep.okO Dep.cells 35:=
 (opens_struct (opensF_cons 1 op30 (opensF_cons 1 op9 (opensF_cons 1 op33 (opensF_nil (n:=3)) (by kernel_rfl)) (by kernel_rfl)) (by kernel_rfl)) (by kernel_rfl) (by kernel_rfl)).map
  (fun x=>⟨x.1,x.2.1,x.2.2.1⟩) (fun _ h=>⟨h.2.1,h.2.2.1⟩) fun _=>rfl
def Ru.okO (d:Ru):Prop:=d.name.size≤maxLen∧Rg.okO d.range
theorem op96:Opens Tryz.prog Ru.okO Ru.cells 96:=
 (opens_struct (opensF_cons 1 op9 (opensF_cons 1 op33 (opensF_nil (n:=2)) (by kernel_rfl)) (by kernel_rfl)) (by kernel_rfl) (by kernel_rfl)).map
  (fun x=>⟨x.1,x.2.1⟩) (fun _ h=>⟨h.1,h.2.1⟩) fun _=>rfl
theorem op24:Opens Tryz.prog (fun l:List Dep=>l.length≤maxLen∧∀d∈l,Dep.okO d) (fun l:List Dep=>[rowT Dep.cells l]) 24:=(opens_slice op35 (by kernel_rfl) (by kernel_rfl)).map id (fun _ h=>h) fun _=>rfl
theorem op25:Opens Tryz.prog (fun l:List Ru=>l.length≤maxLen∧∀d∈l,Ru.okO d) (fun l:List Ru=>[rowT Ru.cells l]) 25:=(opens_slice op96 (by kernel_rfl) (by kernel_rfl)).map id (fun _ h=>h) fun _=>rfl
theorem op27:Opens Tryz.prog (fun _:Man=>True) Man.cells 27:=
 (opens_struct (opensF_cons 1 op9 (opensF_cons 4 op23 (opensF_cons 1 op24 (opensF_cons 1 op25 (opensF_nil (n:=7)) (by kernel_rfl)) (by kernel_rfl)) (by kernel_rfl)) (by kernel_rfl)) (by kernel_rfl) (by kernel_rfl)).map
  (fun x=>⟨x.1,x.2.1,x.2.2.1,x.2.2.2.1⟩) (fun _ _=>trivial) fun _=>rfl
theorem op28:Opens Tryz.prog (fun l:List Man=>l.length≤maxLen) (fun l:List Man=>[rowT Man.cells l]) 28:=(opens_slice op27 (by kernel_rfl) (by kernel_rfl)).map id (fun _ h=>h.1) fun _=>rfl
set_option maxRecDepth 100000
theorem two_of {α:Type} :∀ {l:List α},l.length=2→∃a b,l=[a,b]
 | [a,b],_=>⟨a,b,rfl⟩
theorem five_of {α:Type} :∀ {l:List α},l.length=5→∃a b c d e,l=[a,b,c,d,e]
 | [a,b,c,d,e],_=>⟨a,b,c,d,e,rfl⟩
theorem ten_of {α:Type} :∀ {l:List α},l.length=10→∃a b c d e f g h i j,l=[a,b,c,d,e,f,g,h,i,j]
 | [a,b,c,d,e,f,g,h,i,j],_=>⟨a,b,c,d,e,f,g,h,i,j,rfl⟩
theorem pair212 {enc:TypeId×Value→Unit} {w:World} {base fuel:Nat} {sp:Nat→Bool} {held:Bool} {cs:List Value} {x:DataW Unit×List MemPlace} {n:Int} {b:List UInt8}
  (h:DataW.trod enc Tryz.prog w base sp held fuel 212 cs=some x) (hx:x.1=.agg [.lit (.int .i64 n),.lit (.string b)]):cs=[.int .i64 n,.string (ofL b)]:=by
 have hu:∃fs:Array Field,Tryz.prog.underlying 212=some (.struct fs)∧fs.size=2∧(fs[0]?.map fun f=>(f.type,f.offset))=some (85,0)∧(fs[1]?.map fun f=>(f.type,f.offset))=some (9,1):=by
  have hk:(match Tryz.prog.underlying 212 with | some (.struct fs)=>fs.size==2&&((fs[0]?.map fun f=>(f.type,f.offset))==some (85,0)&&(fs[1]?.map fun f=>(f.type,f.offset))==some (9,1)) | _=>false)=true:=(by kernel_rfl);split at hk
  ·rename_i fs hf;simp only[Bool.and_eq_true,beq_iff_eq]at hk;exact⟨fs,hf,hk.1,hk.2.1,hk.2.2⟩
  ·cases hk
 obtain⟨fs,hf,h2,f0,f1⟩:=hu;obtain⟨xs,m,rfl,rfl,hl,hxl,hat⟩:=DataW.trod_struct hf h;obtain⟨g0,hg0,e0⟩:=Option.map_eq_some_iff.1 f0;obtain⟨g1,hg1,e1⟩:=Option.map_eq_some_iff.1 f1;injection e0 with e00 e01;injection e1 with e10 e11;have a0:=hat 0 g0 hg0;have a1:=hat 1 g1 hg1;rw[e00,e01]at a0;rw[e10,e11]at a1;have c85:Tryz.prog.cellsOf 85=1:=(by kernel_rfl);have c9:Tryz.prog.cellsOf 9=1:=(by kernel_rfl);have c212:Tryz.prog.cellsOf 212=2:=(by kernel_rfl);have u85:Tryz.prog.underlying 85=some (.int .i64):=(by kernel_rfl);have u9:Tryz.prog.underlying 9=some .string:=(by kernel_rfl);rw[c85]at a0;rw[c9]at a1;rw[c212]at hl;injection hx with hx;rw[h2]at hxl;obtain⟨x0,x1,rfl⟩:=two_of hxl;obtain⟨p,q,rfl⟩:=two_of hl;simp at a0 a1 hx;obtain⟨k,hc0,hx0,_⟩:=DataW.trod_int u85 a0;obtain⟨s,hc1,hx1,_⟩:=DataW.trod_string u9 a1;subst hx0;subst hx1;simp at hc0 hc1 hx;subst hc0;subst hc1;obtain⟨rfl,h3⟩:=hx;rw[←h3];simp[ofL]
theorem signs_cells {enc:TypeId×Value→Unit} {w:World} {base fuel:Nat} {sp:Nat→Bool} {held:Bool} {cs:List Value} {p:List MemPlace}
  (h:DataW.trod enc Tryz.prog w base sp held fuel 213 cs=some (Proofs.YtgipehooceecpaaGreatDoor.Rows.laid_hogget_span_signs,p)):cs=signsV:=by
 have u213:Tryz.prog.underlying 213=some (.array 5 212):=(by kernel_rfl);have c212:Tryz.prog.cellsOf 212=2:=(by kernel_rfl);have c213:Tryz.prog.cellsOf 213=10:=(by kernel_rfl);obtain⟨xs,m,rfl,hx,hl,hxl,hat⟩:=DataW.trod_array u213 h;rw[c212]at hat;rw[c213]at hl;have hx1:=congrArg Prod.fst hx;simp only at hx1;unfold Proofs.YtgipehooceecpaaGreatDoor.Rows.laid_hogget_span_signs at hx1;injection hx1 with hx1;obtain⟨x0,x1,x2,x3,x4,rfl⟩:=five_of hxl;obtain⟨d0,d1,d2,d3,d4,d5,d6,d7,d8,d9,rfl⟩:=ten_of hl;simp at hx1;obtain⟨y0,y1,y2,y3,y4⟩:=hx1;have b0:=pair212 (hat 0 (by omega)) y0.symm;have b1:=pair212 (hat 1 (by omega)) y1.symm;have b2:=pair212 (hat 2 (by omega)) y2.symm;have b3:=pair212 (hat 3 (by omega)) y3.symm;have b4:=pair212 (hat 4 (by omega)) y4.symm;simp at b0 b1 b2 b3 b4;simp[signsV,b0,b1,b2,b3,b4,ofL]
set_option maxRecDepth 100000
theorem maxLen_le {n:Nat} (h:n≤maxLen):n≤9223372036854775807:=h
def laidL:List (String×DataW Unit):=Proofs.YtgipehooceecpaaGreatDoor.Rows.validAloneRow.laid
theorem var_ext {w w':World} (h:ExtC (fun _=>False) w w') {n:String} {cs:Array Value} (hv:w.var? Tryz.prog n=some cs):w'.var? Tryz.prog n=some cs:=by
 unfold World.var? at hv⊢;cases hg:Tryz.prog.globalNamed n with
 | none=>rw[hg]at hv;cases hv
 | some g=>
  rw[hg]at hv;simp only[Option.bind_some]at hv⊢;cases ho:w.heap[g]? with
  | none=>rw[ho]at hv;cases hv
  | some o=>
   rw[ho]at hv;cases o<;>simp at hv;subst hv;rw[h.same g _ ho rfl (fun h=>h)]
theorem cell_ext {w w':World} (h:ExtC (fun _=>False) w w') {a:Addr} {v:Value} (hv:w.cell? a=some v):w'.cell? a=some v:=by
 unfold World.cell? at hv⊢;cases ho:w.heap[a.block]? with
 | none=>rw[ho]at hv;cases hv
 | some o=>
  rw[ho]at hv;cases o<;>simp at hv;rw[h.same a.block _ ho rfl (fun h=>h)];simpa using hv
theorem gl_ext {w w':World} (h:ExtC (fun _=>False) w w') (hg:Gl.ok Tryz.prog w):Gl.ok Tryz.prog w':=by
 obtain⟨h1,⟨a,b,h2⟩,⟨c,d,h3⟩,⟨m,h4⟩,h5⟩:=hg;exact⟨var_ext h h1,⟨a,b,var_ext h h2⟩,⟨c,d,var_ext h h3⟩,⟨m,cell_ext h h4⟩,fun i v hv=>cell_ext h (h5 i v hv)⟩
theorem star: "*"++ "errors.errorString"= "*errors.errorString":=by decide
theorem row287 (u:TypeId) (h:Tryz.prog.typeName? 3 u=some "*errors.errorString"):u=287:=
 typeName_ptr_named (nm:= "errors.errorString") (by rw[star];kernel_rfl) (by kernel_rfl) (by decide) u (by rw[star];exact h)
theorem und223:∃ms,Tryz.prog.underlying 223=some (.interface ms):=by
 have h:(Tryz.prog.underlying 223).any (fun | .interface _=>true | _=>false)=true:=(by kernel_rfl);cases hu:Tryz.prog.underlying 223 with
 | none=>rw[hu]at h;cases h
 | some x=>rw[hu]at h;cases x<;>first | exact⟨_,rfl⟩ | cases h
theorem gl_of {W:World} (hL:laidMetH Tryz.prog laidL W) (hsh:W.ShapedOpen Tryz.prog):Gl.ok Tryz.prog W:=by
 rw[MakeChecks.laidMetH_plain _ _ _ (by kernel_rfl)]at hL;have h3:=hL.tail.tail;have h5:=h3.tail.tail;have h6:=h5.tail;have h7:=h6.tail;obtain⟨ms,hi⟩:=und223;obtain⟨a5,s5,v5,_⟩:=laid_sentinel h5 (g:=6) (ti:=223) (tp:=287) (te:=289) (ts:=9) (by kernel_rfl) (by kernel_rfl) hi row287 (by kernel_rfl) Tryz.underlying289 rfl rfl (by kernel_rfl) (by kernel_rfl) (by kernel_rfl);obtain⟨a6,s6,v6,_⟩:=laid_sentinel h6 (g:=5) (ti:=223) (tp:=287) (te:=289) (ts:=9) (by kernel_rfl) (by kernel_rfl) hi row287 (by kernel_rfl) Tryz.underlying289 rfl rfl (by kernel_rfl) (by kernel_rfl) (by kernel_rfl);refine⟨?_,⟨_,_,v6⟩,⟨_,_,v5⟩,?_,?_⟩
 ·exact Lib.tabIs_of_head (g:=2) (t:=260) (e:=210) (n:=20) (by kernel_rfl) (by kernel_rfl) (by kernel_rfl) (by kernel_rfl) (by kernel_rfl) (by kernel_rfl) h3
 ·exact cell_of_shapedOpen_int (t:=3) (zero:= #[.int .i64 0]) hsh (of_decide_eq_true (by kernel_rfl)) (by kernel_rfl) rfl (by kernel_rfl) (by kernel_rfl) (by kernel_rfl)
 ·have hg0:Tryz.prog.globalNamed "hogget/span.signs"=some 0:=(by kernel_rfl);have hty:(Tryz.prog.globals[0]?).map (·.type)=some 213:=(by kernel_rfl);obtain⟨ps,⟨g',t',cs,fuel,p,q,hg',ht',hvar,hd,_,_⟩,_⟩:=h7;obtain rfl:=Option.some.inj (hg0.symm.trans hg');obtain rfl:=Option.some.inj (hty.symm.trans ht');have hcs:=signs_cells hd;intro i v hv;rw[World.var?_cell hg0 hvar i];have:cs[i]? =cs.toList[i]? :=(by simp);rw[this,hcs];exact hv
def litsOf:DataW Unit→List Value
 | .agg l=>l.filterMap fun | .lit (.int k n)=>some (.int k n) | _=>none
 | _=>[]
def lits2Of:DataW Unit→List Value
 | .agg l=>l.flatMap litsOf
 | _=>[]
noncomputable def low:Nat:=(World.holding Tryz.prog default ⟨#[], #[],[]⟩).heap.size
noncomputable def laidWorld (os:Os):World:=
 let w0:=World.holding Tryz.prog os ⟨#[.cells #[.string ⟨#[118,97,108,117,101,32,111,117,116,32,111,102,32,114,97,110,103,101]⟩] 289,.cells #[.string ⟨#[105,110,118,97,108,105,100,32,115,121,110,116,97,120]⟩] 289], #[],[]⟩
 let put (h:Array Obj) (g:Nat) (cs:List Value):Array Obj:=h.modify g fun
  | .cells _ t frozen=> .cells cs.toArray t frozen
  | o=>o
 let h0:=put w0.heap 0 signsV
 let h1:=put h0 2 (litsOf Proofs.YtgipehooceecpaaGreatDoor.Rows.laid_internal_strconv_uint64pow10)
 let h2:=put h1 3 (litsOf Proofs.YtgipehooceecpaaGreatDoor.Rows.laid_unicode_utf8_first)
 let h3:=put h2 4 (lits2Of Proofs.YtgipehooceecpaaGreatDoor.Rows.laid_unicode_utf8_acceptRanges)
 let h4:=put h3 5 [.iface 287 (.pointer (some ⟨low+1,0,none⟩))]
 let h5:=put h4 6 [.iface 287 (.pointer (some ⟨low,0,none⟩))]
 let h6:=put h5 7 (litsOf Proofs.YtgipehooceecpaaGreatDoor.Rows.laid_math_bits_deBruijn32tab)
 let h7:=put h6 8 (litsOf Proofs.YtgipehooceecpaaGreatDoor.Rows.laid_math_bits_deBruijn64tab)
 {w0 with heap:=h7}
theorem laid_met (os:Os) (args:Array Value):laidMet Tryz.prog laidL ((laidWorld os).forCall (fun _ _=>0) ⟨#[],args,[]⟩).memory:=
 laidMet_of_run' 8 (by kernel_rfl) (by kernel_rfl)
set_option maxRecDepth 100000
set_option maxHeartbeats 400000
structure Cmp {α:Type} (f:α→α→Int):Prop where
 anti:∀a b,f b a= -f a b
 trans:∀a b c,f a b<0→f b c<0→f a c<0
 cong:∀a b c,f a b=0→f b c=f a c
def lexN {α:Type} (f g:α→α→Int) (a b:α):Int:=if f a b=0 then g a b else f a b
theorem Cmp.on {α β:Type} {f:α→α→Int} (hf:Cmp f) (k:β→α):Cmp (fun a b=>f (k a) (k b)):=
 ⟨fun a b=>hf.anti _ _,fun a b c=>hf.trans _ _ _,fun a b c=>hf.cong _ _ _⟩
theorem cmpI_anti (a b:Int):cmpI b a= -cmpI a b:=by
 unfold cmpI;rcases Int.lt_trichotomy a b with h | h | h
 ·rw[if_neg (by omega),if_pos h,if_pos h];rfl
 ·subst h;simp
 ·rw[if_pos h,if_neg (by omega),if_pos h]
theorem cmpI_neg {a b:Int} :cmpI a b<0↔a<b:=by
 unfold cmpI;rcases Int.lt_trichotomy a b with h | h | h
 ·rw[if_pos h];exact⟨fun _=>h,fun _=>by decide⟩
 ·rw[if_neg (by omega),if_neg (by omega)];exact⟨fun h=>by omega,fun h=>by omega⟩
 ·rw[if_neg (by omega),if_pos h];exact⟨fun h=>by omega,fun h=>by omega⟩
theorem cmpI_zero {a b:Int} :cmpI a b=0↔a=b:=by
 unfold cmpI;rcases Int.lt_trichotomy a b with h | h | h
 ·rw[if_pos h];exact⟨fun h=>by omega,fun h=>by omega⟩
 ·rw[if_neg (by omega),if_neg (by omega)];exact⟨fun _=>h,fun _=>rfl⟩
 ·rw[if_neg (by omega),if_pos h];exact⟨fun h=>by omega,fun h=>by omega⟩
theorem cmpB_neg {a b:Bs} :cmpB a b<0↔ltB a b=true:=by
 unfold cmpB;by_cases h:ltB a b=true
 ·rw[if_pos h];exact⟨fun _=>h,fun _=>by decide⟩
 ·rw[if_neg h];split
  ·exact⟨fun h=>by omega,fun e=>absurd e h⟩
  ·exact⟨fun h=>by omega,fun e=>absurd e h⟩
def clsP (a:Bs):Int:=if numP (bsL a)=true then 0 else 1
def numK (a:Bs):Int:=if numP (bsL a)=true then atoiN (bsL a)else 0
def txtK (a:Bs):Bs:=if numP (bsL a)=true then⟨#[]⟩else a
def lastP (a:Bs):Int:=if a=⟨#[]⟩then 1 else 0
def rowsP (a:Bs):List Bs:=if a=⟨#[]⟩then[]else strs (spl (bsL a))
def verL:Ver→Ver→Int:=lexN (fun a b=>cmpI a.maj b.maj) (lexN (fun a b=>cmpI a.min b.min) (lexN (fun a b=>cmpI a.pat b.pat) (lexN (fun a b=>cmpI (lastP a.pre) (lastP b.pre)) (fun a b=>rowsN (rowsP a.pre) (rowsP b.pre)))))
def manL:Man→Man→Int:=lexN (fun a b=>cmpB a.name b.name) (fun a b=>verL a.ver b.ver)
theorem bigR_sz {r:Rg} (h:bigR r=false):r.length≤20∧(∀l∈r,l.length≤20∧∀b∈l,b.ver.pre.size≤300):=by
 simp only[bigR,Bool.or_eq_false_iff,decide_eq_false_iff_not,List.any_eq_false]at h;refine⟨by omega,fun l hl=> ?_⟩;have h2:bigA l=false:=(by simpa using h.2 l hl);simp only[bigA,Bool.or_eq_false_iff,decide_eq_false_iff_not,List.any_eq_false]at h2;exact⟨by omega,fun b hb=>by
  have h3:bigB b=false:=(by simpa using h2.2 b hb);simp only[bigB,decide_eq_false_iff_not]at h3;omega⟩
theorem bigR_rsz {r:Rg} (h:bigR r=false):Rg.sz r:=by
 obtain⟨h1,h2⟩:=bigR_sz h;exact⟨by omega,fun l hl=>⟨by have:=(h2 l hl).1;omega,fun b hb=>by have:=(h2 l hl).2 b hb;omega⟩⟩
theorem bigM_dsz {m:Man} (h:bigM m=false):m.name.size≤300∧m.ver.pre.size≤300∧(m.deps.length≤40∧∀d∈m.deps,d.name.size≤300∧bigR d.range=false)∧(m.rules.length≤40∧∀d∈m.rules,d.name.size≤300∧bigR d.range=false):=by
 simp only[bigM,Bool.or_eq_false_iff,decide_eq_false_iff_not,List.any_eq_false]at h;obtain⟨⟨⟨⟨⟨h1,h2⟩,h3⟩,h4⟩,h5⟩,h6⟩:=h;refine⟨by omega,by omega,⟨by omega,fun d hd=> ?_⟩,by omega,fun d hd=> ?_⟩
 ·have:=h5 d hd;simp only[bigD,Bool.or_eq_true,decide_eq_true_eq,not_or,Bool.not_eq_true]at this;exact⟨by omega,this.2⟩
 ·have:=h6 d hd;simp only[bigU,Bool.or_eq_true,decide_eq_true_eq,not_or,Bool.not_eq_true]at this;exact⟨by omega,this.2⟩
theorem bigM_sz {m:Man} (h:bigM m=false):Man.sz m:=by
 obtain⟨h1,h2,⟨h3,h4⟩,h5,h6⟩:=bigM_dsz h;exact⟨by omega,by omega,⟨by omega,fun d hd=>⟨by have:=(h4 d hd).1;omega,bigR_rsz (h4 d hd).2⟩⟩,by omega,fun d hd=>⟨by have:=(h6 d hd).1;omega,bigR_rsz (h6 d hd).2⟩⟩
theorem bigT_len {t:List Pl} (h:bigT t=false):t.length≤210∧(t.length≤40∨200<t.length)∧∀p∈t,p.name.size≤300∧p.ver.pre.size≤300:=by
 simp only[bigT,Bool.or_eq_false_iff,decide_eq_false_iff_not,List.any_eq_false]at h;refine⟨by omega,by omega,fun p hp=> ?_⟩;have:=h.2 p hp;simp only[bigP,bigV,Bool.or_eq_true,decide_eq_true_eq,not_or]at this;exact⟨by omega,by omega⟩
theorem bigT_ok {t:List Pl} (h:bigT t=false):OKs t:=by
 obtain⟨h1,_,h3⟩:=bigT_len h;exact⟨by omega,fun p hp=>by have:=h3 p hp;omega⟩
theorem bigI_sz {L:List Man} (h:bigI L=false):L.length≤110∧∀m∈L,bigM m=false:=by
 simp only[bigI,Bool.or_eq_false_iff,decide_eq_false_iff_not,List.any_eq_false]at h;exact⟨by omega,fun m hm=>by simpa using h.2 m hm⟩
set_option maxRecDepth 100000
set_option maxHeartbeats 400000
theorem bigM_okS {m:Man} (h:bigM m=false):Man.okS m:=by
 obtain⟨h1,h2,⟨h3,h4⟩,h5,h6⟩:=bigM_dsz h;refine⟨⟨by omega,fun d hd=> ?_⟩,by omega,fun d hd=> ?_⟩
 ·obtain⟨a,b⟩:=h4 d hd;obtain⟨c,e⟩:=bigR_sz b;exact⟨by omega,by omega,fun l hl=>by have:=(e l hl).1;omega⟩
 ·obtain⟨a,b⟩:=h6 d hd;obtain⟨c,e⟩:=bigR_sz b;exact⟨by omega,fun l hl=>by have:=(e l hl).1;omega⟩
theorem bigW_sz {root:Man} {L:List Man} {t:List Pl} (h:bigW root L t=false):bigM root=false∧bigI L=false∧bigT t=false:=by
 simpa [bigW]using h
theorem valSz_of {root:Man} {L:List Man} {t:List Pl} (h1:bigM root=false) (h2:bigI L=false) (h3:bigT t=false):ValSz root L t:=by
 obtain⟨a,b⟩:=bigI_sz h2;obtain⟨c,_,d⟩:=bigT_len h3;exact⟨bigM_sz h1,bigM_okS h1,⟨by omega,fun m hm=>bigM_sz (b m hm)⟩,fun m hm=>bigM_okS (b m hm),bigT_ok h3,fun p hp=>by have:=d p hp;omega⟩
theorem codeV_zero {root:Man} {L:List Man} {t:List Pl} :codeV root L t=0↔manCheck root true=0∧idxCheck L=0∧checkN t=0:=by
 simp only[codeV,valCodes,orN];constructor
 ·intro h;split at h
  ·split at h
   ·split at h
    ·exact⟨by assumption,by assumption,by assumption⟩
    ·exact absurd h (by assumption)
   ·exact absurd h (by assumption)
  ·exact absurd h (by assumption)
 ·rintro⟨h1,h2,h3⟩;rw[if_pos h1,if_pos h2,if_pos h3]
def namedT (t:List Pl) (m:Man):Bool:=t.any fun p=>decide (p.name=m.name)
theorem below_all {t:List Pl} {n:Nat} (g:Good t) (hn:n<t.length):(n:Int)∈belowL t 0:=by
 have h:=below_mem (i:=0) g (by omega) hn;have hu:underF t n 0=true:=by
  have:∀(m:Nat) (j:Nat),j<m→j<t.length→underF t j 0=true:=by
   intro m;induction m with
   | zero=>exact fun j h=>by omega
   | succ m ih=>
    intro j hj hl;unfold underF;rw[up_step g.dn hl];by_cases h0:j=0
    ·subst h0;simp
    ·obtain⟨p0,p1⟩:=g.par j (by omega) hl;rw[if_neg (by omega)];have:=ih (parN t j).toNat (by omega) (by omega);unfold underF at this;rw[List.any_cons,this,Bool.or_true]
  exact this _ n (Nat.lt_succ_self n) hn
 obtain⟨x,hx,hxe⟩:=List.any_eq_true.1 (h.trans hu);simp only[decide_eq_true_eq]at hxe;rw[←hxe];exact hx
set_option maxRecDepth 100000
set_option maxHeartbeats 400000
def keptQ (q:Nat→Bool) (k:Nat):List Nat:=(List.range k).filter q
def rkQ (q:Nat→Bool) (j:Nat):Nat:=(keptQ q j).length
def renQ (q:Nat→Bool) (n:Int):Int:=if n<0 then n else rkQ q n.toNat
def keepP (t:List Pl) (q:Nat→Bool) (j:Nat):Pl:= {nth t j with par:=renQ q (parN t j)}
def keepT (t:List Pl) (q:Nat→Bool) (k:Nat):List Pl:=(keptQ q k).map (keepP t q)
structure Clo (t:List Pl) (q:Nat→Bool):Prop where
 zero:q 0=true
 par:∀j,1≤j→j<t.length→q j=true→q (parN t j).toNat=true
section
variable {q:Nat→Bool}
theorem rq_zero:rkQ q 0=0:=rfl
theorem kq_succ {k:Nat} :keptQ q (k+1)=keptQ q k++if q k=true then[k]else[]:=by
 unfold keptQ;rw[List.range_succ,List.filter_append];congr 1;cases h:q k<;>simp[h]
theorem rq_succ {k:Nat} :rkQ q (k+1)=rkQ q k+if q k=true then 1 else 0:=by
 unfold rkQ;rw[kq_succ,List.length_append];split<;>rfl
theorem rq_add {a:Nat} :∀d:Nat,rkQ q a≤rkQ q (a+d)∧rkQ q (a+d)≤rkQ q a+d
 | 0=>⟨Nat.le_refl _,Nat.le_refl _⟩
 | d+1=>by
  have:=rq_add (a:=a) d;rw[←Nat.add_assoc,rq_succ];split<;>omega
theorem rq_le {a:Nat} :rkQ q a≤a:=by
 have:=(rq_add (q:=q) (a:=0) a).2;rw[Nat.zero_add,rq_zero]at this;omega
end
section
variable {t:List Pl} {q:Nat→Bool}
theorem keep_len {m:Nat} :(keepT t q m).length=rkQ q m:=by simp[keepT,rkQ]
theorem renq_nn {n:Int} (h:0≤n):renQ q n=rkQ q n.toNat:=by
 unfold renQ;rw[if_neg (by omega)]
end
set_option linter.unusedSectionVars false
section
variable {t:List Pl} {q:Nat→Bool} (g:Good t) (c:Clo t q)
include g c
end
set_option maxRecDepth 100000
set_option maxHeartbeats 400000
def edgesV (root:Man) (L:List Man) (t:List Pl) (n:Nat):List Dep:=match manVal root L t n with
 | none=>[]
 | some m=>ofF m.deps root.rules (decide ((n:Int)=0))
inductive Rch (root:Man) (L:List Man) (t:List Pl):Nat→Prop
 | zero:Rch root L t 0
 | par {n:Nat} :Rch root L t n→0≤parN t n→Rch root L t (parN t n).toNat
 | edge {n k:Nat} {d:Dep} :Rch root L t n→d∈edgesV root L t n→toN t n d=k→Rch root L t k
open Classical in
noncomputable def rchB (root:Man) (L:List Man) (t:List Pl) (n:Nat):Bool:=decide (Rch root L t n)
theorem rchB_iff {root:Man} {L:List Man} {t:List Pl} {n:Nat} :rchB root L t n=true↔Rch root L t n:=by simp[rchB]
theorem rch_clo {root:Man} {L:List Man} {t:List Pl} (g:Good t):Clo t (rchB root L t):=
 ⟨rchB_iff.2 .zero,fun j h1 hj h=>rchB_iff.2 (.par (rchB_iff.1 h) (g.par j h1 hj).1)⟩
theorem rch_lt {root:Man} {L:List Man} {t:List Pl} (g:Good t) {n:Nat} (h:Rch root L t n):n<t.length:=by
 induction h with
 | zero=>exact g.pos
 | par h h0 ih=>
  have:=g.dn _ ih;omega
 | edge h hd hk ih=>
  rename_i n k d;have:=toN_lt t n d;omega
noncomputable def reachL (root:Man) (L:List Man) (t:List Pl):List Int:=if codeV root L t=0 then(keptQ (rchB root L t) t.length).map fun(n:Nat)=>(n:Int)else[]
noncomputable def pruneT (root:Man) (L:List Man) (t:List Pl):List Pl:=if codeV root L t=0 then keepT t (rchB root L t) t.length else[]
section
variable {root:Man} {L:List Man} {t:List Pl} {q:Nat→Bool} (g:Good t) (c:Clo t q)
include g c
end
section
variable {root:Man} {L:List Man} {t:List Pl} (g:Good t)
include g
end
set_option maxRecDepth 100000
set_option maxHeartbeats 400000
def qL (l:List Int) (n:Nat):Bool:=decide ((n:Int)∈l)
def keepAt (t:List Pl) (l:List Int) (n:Int):Bool:=decide (0≤n∧n<t.length)&&decide (parN t n.toNat= -1∨parN t n.toNat∈l)
def keepOk (t:List Pl) (l:List Int):Bool:=l.all (keepAt t l)&&decide ((0:Int)∈l)
def keepCode (t:List Pl) (l:List Int):Int:=if checkN t≠0 then checkN t else if keepOk t l=true then 0 else 151
def keepR (t:List Pl) (l:List Int):List Pl:=if keepCode t l=0 then keepT t (qL l) t.length else[]
theorem keepOk_iff {t:List Pl} {l:List Int} (g:Good t):keepOk t l=true↔(∀n∈l,0≤n∧n<t.length)∧Clo t (qL l):=by
 simp only[keepOk,keepAt,Bool.and_eq_true,List.all_eq_true,decide_eq_true_eq];constructor
 ·rintro⟨h1,h2⟩;refine⟨fun n hn=>(h1 n hn).1,by simpa [qL]using h2,fun j hj1 hj h=> ?_⟩;have:=(h1 j (by simpa [qL]using h)).2;rw[Int.toNat_natCast]at this;have hp:=g.par j hj1 hj;rcases this with h | h
  ·omega
  ·have e:(((parN t j).toNat:Nat):Int)=parN t j:=(by omega);simp only[qL,e,decide_eq_true_eq];exact h
 ·rintro⟨h1,h2⟩;refine⟨fun n hn=>⟨h1 n hn,?_⟩,by simpa [qL]using h2.zero⟩;have hb:=h1 n hn;rcases Nat.eq_zero_or_pos n.toNat with h | h
  ·left;rw[h,root_par g.root]
  ·right;have hq:qL l n.toNat=true:=by
    have:((n.toNat:Nat):Int)=n:=(by omega);simp only[qL,this,decide_eq_true_eq];exact hn
   have:=h2.par n.toNat h (by omega) hq;have hp:=g.par n.toNat h (by omega);have e:(((parN t n.toNat).toNat:Nat):Int)=parN t n.toNat:=(by omega);simpa only[qL,e,decide_eq_true_eq]using this
theorem kq_congr {q r:Nat→Bool} {k:Nat} (h:∀j,j<k→q j=r j):keptQ q k=keptQ r k:=
 List.filter_congr fun j hj=>h j (List.mem_range.1 hj)
theorem keepT_congr {t:List Pl} {q r:Nat→Bool} (g:Good t) (h:∀j,j<t.length→q j=r j):keepT t q t.length=keepT t r t.length:=by
 unfold keepT;rw[kq_congr h];refine List.map_congr_left fun j hj=> ?_;have hj2:j<t.length:=by
  unfold keptQ at hj;exact List.mem_range.1 (List.mem_filter.1 hj).1
 unfold keepP;have hd:=g.dn j hj2;have:renQ q (parN t j)=renQ r (parN t j):=by
  unfold renQ rkQ;split
  ·rfl
  ·rw[kq_congr fun i hi=>h i (by omega)]
 rw[this]
theorem qL_ints {q:Nat→Bool} {m j:Nat} (hj:j<m):qL ((keptQ q m).map fun(n:Nat)=>(n:Int)) j=q j:=by
 rw[Bool.eq_iff_iff];simp only[qL,decide_eq_true_eq,List.mem_map];constructor
 ·rintro⟨k,hk,he⟩;have:k=j:=(by omega);subst this;unfold keptQ at hk;exact(List.mem_filter.1 hk).2
 ·intro h;refine⟨j,?_,rfl⟩;unfold keptQ;exact List.mem_filter.2 ⟨List.mem_range.2 hj,h⟩
theorem keep_reach {root:Man} {L:List Man} {t:List Pl} (h:codeV root L t=0):keepCode t (reachL root L t)=0∧keepR t (reachL root L t)=pruneT root L t:=by
 have hc:=(codeV_zero.1 h).2.2;have g:Good t:=check_iff.1 hc;have c:=rch_clo (root:=root) (L:=L) g;have hq:∀j,j<t.length→qL (reachL root L t) j=rchB root L t j:=fun j hj=>by
  unfold reachL;rw[if_pos h];exact qL_ints hj
 have h1:keepCode t (reachL root L t)=0:=by
  unfold keepCode;rw[if_neg (by rw[hc];simp),if_pos];refine(keepOk_iff g).2 ⟨fun n hn=> ?_,(hq 0 g.pos).trans c.zero,fun j h1 hj hu=> ?_⟩
  ·unfold reachL at hn;rw[if_pos h]at hn;obtain⟨k,hk,rfl⟩:=List.mem_map.1 hn;unfold keptQ at hk;have:=List.mem_range.1 (List.mem_filter.1 hk).1;omega
  ·rw[hq j hj]at hu;have hp:=g.par j h1 hj;rw[hq _ (by omega)];exact c.par j h1 hj hu
 refine⟨h1,?_⟩;unfold keepR pruneT;rw[if_pos h1,if_pos h];exact keepT_congr g hq
section
variable {root:Man} {L:List Man} {t:List Pl} {q:Nat→Bool} (g:Good t) (c:Clo t q) (hq:∀j,Rch root L t j→q j=true)
include g c hq
end
theorem rch_up {root:Man} {L:List Man} {t:List Pl} (g:Good t):∀(m:Nat) {j x:Nat},j<m→Rch root L t j→x∈upN t j→Rch root L t x
 | 0,j,x,h,_,_=>by omega
 | m+1,j,x,hm,h,hx=>by
  have hj:=rch_lt g h;rw[up_step g.dn hj]at hx;rcases List.mem_cons.1 hx with rfl | hx
  ·exact h
  ·split at hx
   ·cases hx
   ·rename_i h0;have:=g.dn j hj;exact rch_up g m (by omega) (.par h (by omega)) hx
theorem rch_eq {root:Man} {L:List Man} {t:List Pl} (g:Good t) (q:Nat→Bool) (h0:q 0=true) (hs:∀k,q k=true→Rch root L t k) (hp:∀n,q n=true→0≤parN t n→q (parN t n).toNat=true) (he:∀n d,q n=true→d∈edgesV root L t n→∀k:Nat,toN t n d=k→q k=true) (j:Nat):rchB root L t j=q j:=by
 rw[Bool.eq_iff_iff,rchB_iff];refine⟨fun h=> ?_,hs j⟩;induction h with
 | zero=>exact h0
 | par h h1 ih=>exact hp _ ih h1
 | edge h hd hk ih=>exact he _ _ ih hd _ hk
set_option maxRecDepth 100000
set_option maxHeartbeats 4000000
def entB (S:List Int):List (Value×AV):=S.map fun k=>(.int .i64 k,bV true)
theorem findB (k:Int):∀(S:List Int) (i:Nat),∃r,findI Tryz.prog 3 (.int .i64) (.int .i64 k) (entB S) i=some r∧(k∈S→∃j,r=some (i+j)∧S[j]? =some k)∧(k∉S→r=none)
 | [],i=>⟨none,rfl,fun h=>by simp at h,fun _=>rfl⟩
 | a::S,i=>by
  have hs:sameK Tryz.prog 3 (.int .i64) (.int .i64 k) (.int .i64 a)=some (decide (a=k)):=by
   simp[sameK,Instr.sameNow];rw[Bool.eq_iff_iff,beq_iff_eq,decide_eq_true_eq];exact⟨fun h=>h.symm,fun h=>h.symm⟩
  simp only[entB,List.map_cons,findI,hs];by_cases h:a=k
  ·exact⟨some i,by simp[h],fun _=>⟨0,rfl,by simp[h]⟩,fun hn=>absurd (by simp[h]) hn⟩
  ·obtain⟨r,h1,h2,h3⟩:=findB k S (i+1);refine⟨r,by simpa [h,entB]using h1,fun hm=> ?_,fun hm=>h3 (fun hp=>hm (by simp[hp]))⟩;rcases List.mem_cons.1 hm with e | hp
   ·exact absurd e.symm h
   obtain⟨j,hj,hl⟩:=h2 hp;exact⟨j+1,by rw[hj];congr 1;omega,by simpa using hl⟩
theorem lookupB {G:Hp} {id:Nat} {S:List Int} (hG:G id=some (.map (entB S))) (k:Int):evLookup Tryz.prog G 129 (.mp id) (iV k) false=some (bV (decide (k∈S))):=by
 obtain⟨r,h1,h2,h3⟩:=findB k S 0;have hc:conc (iV k)=some (.int .i64 k):=rfl;have hk:keyOK Tryz.prog (.int .i64) (.int .i64 k)=true:=rfl;simp only[evLookup,mp129,hc,hG,zv4,hk,if_true,h1];by_cases hm:k∈S
 ·obtain⟨j,rfl,hl⟩:=h2 hm;have:(entB S)[j]? =some (.int .i64 k,bV true):=(by simp[entB,hl]);simp[this,hm]
 ·rw[h3 hm];simp[hm]
def putB (S:List Int) (k:Int):List Int:=if k∈S then S else S++[k]
theorem updateB {G:Hp} {id:Nat} {S:List Int} (hG:G id=some (.map (entB S))) (k:Int):evMapUpdate Tryz.prog G 129 (.mp id) (iV k) (bV true)=some (G.upd id (.map (entB (putB S k)))):=by
 obtain⟨r,h1,h2,h3⟩:=findB k S 0;have hc:conc (iV k)=some (.int .i64 k):=rfl;have hk:keyOK Tryz.prog (.int .i64) (.int .i64 k)=true:=rfl;have ha:keyA (.int .i64 k)=true:=rfl;simp only[evMapUpdate,mp129,hc,hG,hk,if_true,h1];by_cases hm:k∈S
 ·obtain⟨j,rfl,hl⟩:=h2 hm;have e:(entB S).set j (.int .i64 k,bV true)=entB S:=by
   have hj:=(List.getElem?_eq_some_iff.1 hl);obtain⟨hj,hv⟩:=hj;refine List.ext_getElem (by simp) fun i a b=> ?_;rw[List.getElem_set];split
   ·rename_i e;subst e;simp[entB,hv]
   ·rfl
  simp only[Nat.zero_add,ha,if_true,e,putB,if_pos hm]
 ·rw[h3 hm];simp only[putB,if_neg hm];simp[entB]
theorem mem_puts {x:Int} :∀(l S:List Int),x∈l.foldl putB S↔x∈S∨x∈l
 | [],S=>by simp
 | a::l,S=>by
  rw[List.foldl_cons,mem_puts l];unfold putB;split
  ·rename_i h;simp only[List.mem_cons];constructor
   ·rintro(h1 | h1)
    ·exact .inl h1
    ·exact .inr (.inr h1)
   ·rintro(h1 | rfl | h1)
    ·exact .inl h1
    ·exact .inl h
    ·exact .inr h1
  ·simp only[List.mem_append,List.mem_cons,List.not_mem_nil,or_false,or_assoc]
theorem puts_step {l S:List Int} {i:Nat} (hi:i<l.length):(l.take (i+1)).foldl putB S=putB ((l.take i).foldl putB S) (nth l i):=by
 rw[List.take_add_one,List.getElem?_eq_getElem hi,←nth_eq hi];simp
def keepM (q:Nat→Bool) (k:Nat):List (Int×Int):=(-1,-1)::(keptQ q k).map fun(j:Nat)=>((j:Int),renQ q j)
theorem keepM_val {q:Nat→Bool} {k:Nat} :∀p∈keepM q k,p.2=renQ q p.1:=by
 intro p hp;rcases List.mem_cons.1 hp with rfl | hp
 ·simp[renQ]
 ·obtain⟨j,_,rfl⟩:=List.mem_map.1 hp;rfl
theorem keepM_new {q:Nat→Bool} {k:Nat} :∀p∈keepM q k,p.1≠(k:Int):=by
 intro p hp;rcases List.mem_cons.1 hp with rfl | hp
 ·show(-1:Int)≠k;omega
 ·obtain⟨j,hj,rfl⟩:=List.mem_map.1 hp;have:=List.mem_range.1 (List.mem_filter.1 hj).1;simp;omega
theorem keepM_par {t:List Pl} {q:Nat→Bool} (g:Good t) (c:Clo t q) {k:Nat} (hk:k<t.length) (hu:q k=true):getI (keepM q (k+1)) (parN t k)=renQ q (parN t k):=by
 refine getI_eq keepM_val ?_;rcases Nat.eq_zero_or_pos k with rfl | h1
 ·exact⟨(-1,-1),List.mem_cons_self ..,(root_par g.root).symm⟩
 ·have hp:=g.par k h1 hk;refine⟨(parN t k,renQ q (parN t k)),List.mem_cons_of_mem _ (List.mem_map.2 ⟨(parN t k).toNat,List.mem_filter.2 ⟨List.mem_range.2 (by omega),c.par k h1 hk hu⟩,?_⟩),rfl⟩;rw[Int.toNat_of_nonneg (by omega)]
theorem keep56_ok (t:List Pl) (ht:OKs t) (l:List Int) (hl:l.length≤1000000000):CallsOK Tryz.prog 56 [rowT Pl.cells t,rowT iC l] (.tup [.row 0 (keepR t l).length,iV (keepCode t l)]) [(58,flat Pl.cells (keepR t l))]:=by
 have htl:=ht.1;refine callsOK mixed Tryz.call56 Tryz.func56 rfl (by rw[Tryz.ntmps56];simp) ?_ rfl;rw[Tryz.ntmps56];(repeat with_reducible refine aA ?_);(first | with_reducible refine aR fun K' hK=> ?_ | with_reducible refine aS fun K' hK=> ?_);simp;(first | refine hK _ _ _ ?_ | done);clear K' hK;(repeat with_reducible refine aA ?_);(first | with_reducible refine aR fun K' hK=> ?_ | with_reducible refine aS fun K' hK=> ?_);simp;refine acall_flat (check18_ok t ht) rfl (by simp) ?_;simp;(first | refine hK _ _ _ ?_ | done);clear K' hK;by_cases c0:checkN t=0
 ·have g:Good t:=check_iff.1 c0;(repeat with_reducible refine aA ?_);(first | with_reducible refine aR fun K' hK=> ?_ | with_reducible refine aS fun K' hK=> ?_);simp[c0];(first | refine hK _ _ _ ?_ | done);clear K' hK;repeat with_reducible refine aA ?_
  (first | with_reducible refine aC fun A B hA hB=> ?_ | with_reducible refine aD fun A B hA hB=> ?_)
  simp[c0];refine⟨fun hc=>hA ?_,fun hc=>hB ?_⟩<;>clear hA hB A B<;>(try (simp at hc;done))<;>(try (exfalso;simp at hc;omega))<;>clear hc<;>(try with_reducible refine aK ?_);have up0:=updateB (G:=(Hp.upd (fun _=>none) 0 (.row 58 [])).upd 1 (.map [])) (id:=1) (S:=[]) rfl (-1);(repeat with_reducible refine aA ?_);(first | with_reducible refine aR fun K' hK=> ?_ | with_reducible refine aS fun K' hK=> ?_);simp[up0];(first | refine hK _ _ _ ?_ | done);clear K' hK;(repeat with_reducible refine aA ?_);(first | with_reducible refine aR fun K' hK=> ?_ | with_reducible refine aS fun K' hK=> ?_);simp;(first | refine hK _ _ _ ?_ | done);clear K' hK;(repeat with_reducible refine aA ?_);(first | with_reducible refine aw_block ?_ | with_reducible refine aw_toS (aw_block ?_));refine aw_loop (fun s G nx=>s 0=rowT Pl.cells t∧s 1=rowT iC l∧s 7=.mp 1∧s 23=rowT iC l∧s 24=iV l.length∧2≤nx∧∃i:Nat,s 25=iV i∧i≤l.length∧G 1=some (.map (entB ((l.take i).foldl putB [-1])))) (fun s _ _=>match s 25 with | .v (.int _ n)=>l.length-n.toNat | _=>0) ?_ ?_
  ·exact⟨by simp,by simp,by simp,by simp,by simp,by omega,0,by simp,by omega,by simp[putB]⟩
  ·rintro s G nx-⟨s0,s1,s7,s23,s24,hnx,i,s25,hi,g1⟩;have hw:IntKind.i64.wrap (↑i+1)=((i+1:Nat):Int):=wrapS (by omega);(repeat with_reducible refine aA ?_);(first | with_reducible refine aR fun K' hK=> ?_ | with_reducible refine aS fun K' hK=> ?_);simp[s24,s25];(first | refine hK _ _ _ ?_ | done);clear K' hK;(repeat with_reducible refine aA ?_);(first | with_reducible refine aC fun A B hA hB=> ?_ | with_reducible refine aD fun A B hA hB=> ?_);simp;refine⟨fun hi2=>hA ?_,fun hi2=>hB ?_⟩<;>clear hA hB A B<;>(try simp at hi2)<;>(try with_reducible refine aK ?_)
   ·have up:=updateB g1 (nth l i);have hst:=puts_step (S:=[-1]) hi2;(repeat with_reducible refine aA ?_);(first | with_reducible refine aw_block ?_ | with_reducible refine aw_toS (aw_block ?_));(repeat with_reducible refine aA ?_);(first | with_reducible refine aR fun K' hK=> ?_ | with_reducible refine aS fun K' hK=> ?_);simp[s23,s25,hi2];(first | refine hK _ _ _ ?_ | done);clear K' hK;(repeat with_reducible refine aA ?_);(first | with_reducible refine aR fun K' hK=> ?_ | with_reducible refine aS fun K' hK=> ?_);simp[s7,up];(first | refine hK _ _ _ ?_ | done);clear K' hK;(first | with_reducible refine aw_skipL ?_ | skip);refine blockK_normal ?_;(repeat with_reducible refine aA ?_);(first | with_reducible refine aR fun K' hK=> ?_ | with_reducible refine aS fun K' hK=> ?_);simp[s25,hw];(first | refine hK _ _ _ ?_ | done);clear K' hK;refine aw_skipL (loopK_normal ?_ ?_)
    ·exact⟨by simp[s0],by simp[s1],by simp[s7],by simp[s23],by simp[s24],by omega,i+1,by simp[hw],by omega,by simp[hst]⟩
    ·simp[s25,hw];omega
   ·(repeat with_reducible refine aA ?_);(first | with_reducible refine aw_exit ?_ | with_reducible refine aw_exitL ?_);refine loopK_exit (blockK_exit ?_);have hie:i=l.length:=(by omega);subst hie;rw[List.take_length]at g1;have hS:∀x,x∈l.foldl putB [-1]↔x= -1∨x∈l:=fun x=>(by rw[mem_puts];simp);generalize l.foldl putB [-1]=S at*;clear s23 s24 s25 hw hi;(repeat with_reducible refine aA ?_);(first | with_reducible refine aR fun K' hK=> ?_ | with_reducible refine aS fun K' hK=> ?_);simp[s1];(first | refine hK _ _ _ ?_ | done);clear K' hK;(repeat with_reducible refine aA ?_);(first | with_reducible refine aw_block ?_ | with_reducible refine aw_toS (aw_block ?_));refine aw_loop (fun s G nx=>s 0=rowT Pl.cells t∧s 7=.mp 1∧s 32=rowT iC l∧s 33=iV l.length∧2≤nx∧G 1=some (.map (entB S))∧∃i:Nat,s 34=iV i∧i≤l.length∧(l.take i).all (keepAt t l)=true) (fun s _ _=>match s 34 with | .v (.int _ n)=>l.length-n.toNat | _=>0) ?_ ?_
    ·exact⟨by simp[s0],by simp[s7],by simp[s1],by simp,by omega,g1,0,by simp,by omega,by simp⟩
    ·clear g1 s0 s1 s7 hnx s G nx;rintro s G nx-⟨s0,s7,s32,s33,hnx,g1,i,s34,hi,hall⟩;have hw:IntKind.i64.wrap (↑i+1)=((i+1:Nat):Int):=wrapS (by omega);(repeat with_reducible refine aA ?_);(first | with_reducible refine aR fun K' hK=> ?_ | with_reducible refine aS fun K' hK=> ?_);simp[s33,s34];(first | refine hK _ _ _ ?_ | done);clear K' hK;(repeat with_reducible refine aA ?_);(first | with_reducible refine aC fun A B hA hB=> ?_ | with_reducible refine aD fun A B hA hB=> ?_);simp;refine⟨fun hi2=>hA ?_,fun hi2=>hB ?_⟩<;>clear hA hB A B<;>(try simp at hi2)<;>(try with_reducible refine aK ?_)
     ·have hst:=all_take1 (p:=keepAt t l) hi2;rw[hall,Bool.true_and]at hst;have bad:keepAt t l (nth l i)=false→keepCode t l=151∧keepR t l=[]:=fun hb=>by
       have h1:keepOk t l=false:=by
        unfold keepOk;rw[all_false hi2 hb];rfl
       have h2:keepCode t l=151:=(by unfold keepCode;rw[if_neg (by simp[c0]),if_neg (by simp[h1])]);exact⟨h2,by unfold keepR;rw[h2];rfl⟩
      (repeat with_reducible refine aA ?_);(first | with_reducible refine aw_block ?_ | with_reducible refine aw_toS (aw_block ?_));(repeat with_reducible refine aA ?_);(first | with_reducible refine aR fun K' hK=> ?_ | with_reducible refine aS fun K' hK=> ?_);simp[s32,s34,hi2];(first | refine hK _ _ _ ?_ | done);clear K' hK;generalize nth l i=x at*;by_cases x0:x<0
      ·(repeat with_reducible refine aA ?_);(first | with_reducible refine aR fun K' hK=> ?_ | with_reducible refine aS fun K' hK=> ?_);simp[x0];(first | refine hK _ _ _ ?_ | done);clear K' hK;repeat with_reducible refine aA ?_
       (first | with_reducible refine aC fun A B hA hB=> ?_ | with_reducible refine aD fun A B hA hB=> ?_)
       simp;refine⟨fun hc=>hA ?_,fun hc=>hB ?_⟩<;>clear hA hB A B<;>(try (simp at hc;done))<;>(try (exfalso;simp at hc;omega))<;>clear hc<;>(try with_reducible refine aK ?_);(repeat with_reducible refine aA ?_);(first | with_reducible refine aR fun K' hK=> ?_ | with_reducible refine aS fun K' hK=> ?_);simp;(first | refine hK _ _ _ ?_ | done);clear K' hK;(repeat with_reducible refine aA ?_);(first | with_reducible refine aw_ret ?_ | with_reducible refine aw_retL ?_ | with_reducible refine aw_skipL ?_);simp[blockK,loopK,Post,resA,res1,expT,expA,exp1,expM,expL,okT,okA,ok1,rowOf,Tryz.f56];obtain⟨e1,e2⟩:=bad (by simp[keepAt];omega);rw[e1,e2];exact⟨[nx],⟨⟨rfl,rfl⟩,rfl⟩,by simp[rowOf]⟩
      ·by_cases x1:(t.length:Int)≤x
       ·(repeat with_reducible refine aA ?_);(first | with_reducible refine aR fun K' hK=> ?_ | with_reducible refine aS fun K' hK=> ?_);simp[s0,x0,x1];(first | refine hK _ _ _ ?_ | done);clear K' hK;repeat with_reducible refine aA ?_
        (first | with_reducible refine aC fun A B hA hB=> ?_ | with_reducible refine aD fun A B hA hB=> ?_)
        simp;refine⟨fun hc=>hA ?_,fun hc=>hB ?_⟩<;>clear hA hB A B<;>(try (simp at hc;done))<;>(try (exfalso;simp at hc;omega))<;>clear hc<;>(try with_reducible refine aK ?_);(repeat with_reducible refine aA ?_);(first | with_reducible refine aR fun K' hK=> ?_ | with_reducible refine aS fun K' hK=> ?_);simp;(first | refine hK _ _ _ ?_ | done);clear K' hK;(repeat with_reducible refine aA ?_);(first | with_reducible refine aw_ret ?_ | with_reducible refine aw_retL ?_ | with_reducible refine aw_skipL ?_);simp[blockK,loopK,Post,resA,res1,expT,expA,exp1,expM,expL,okT,okA,ok1,rowOf,Tryz.f56];obtain⟨e1,e2⟩:=bad (by simp[keepAt];omega);rw[e1,e2];exact⟨[nx],⟨⟨rfl,rfl⟩,rfl⟩,by simp[rowOf]⟩
       ·have x2:x.toNat<t.length:=(by omega);have x3:0≤x:=(by omega);have x4:x<t.length:=(by omega);have lk:=lookupB g1 (parN t x.toNat);have hpe:(nth t x.toNat).par=parN t x.toNat:=rfl;have hkx:keepAt t l x=decide (parN t x.toNat∈S):=by
         simp only[keepAt,hS,x3,x4];simp
        (repeat with_reducible refine aA ?_);(first | with_reducible refine aR fun K' hK=> ?_ | with_reducible refine aS fun K' hK=> ?_);simp[s0,s7,x0,x1,x2,x3,x4,hpe,lk];(first | refine hK _ _ _ ?_ | done);clear K' hK;by_cases xm:parN t x.toNat∈S
        ·repeat with_reducible refine aA ?_
         (first | with_reducible refine aC fun A B hA hB=> ?_ | with_reducible refine aD fun A B hA hB=> ?_)
         simp[xm];refine⟨fun hc=>hA ?_,fun hc=>hB ?_⟩<;>clear hA hB A B<;>(try (simp at hc;done))<;>(try (exfalso;simp at hc;omega))<;>clear hc<;>(try with_reducible refine aK ?_);(first | with_reducible refine aw_skipL ?_ | skip);refine blockK_normal ?_;(repeat with_reducible refine aA ?_);(first | with_reducible refine aR fun K' hK=> ?_ | with_reducible refine aS fun K' hK=> ?_);simp[s34,hw];(first | refine hK _ _ _ ?_ | done);clear K' hK;refine aw_skipL (loopK_normal ?_ ?_)
         ·exact⟨by simp[s0],by simp[s7],by simp[s32],by simp[s33],by omega,g1,i+1,by simp[hw],by omega,by rw[hst,hkx];simp[xm]⟩
         ·simp[s34,hw];omega
        ·repeat with_reducible refine aA ?_
         (first | with_reducible refine aC fun A B hA hB=> ?_ | with_reducible refine aD fun A B hA hB=> ?_)
         simp[xm];refine⟨fun hc=>hA ?_,fun hc=>hB ?_⟩<;>clear hA hB A B<;>(try (simp at hc;done))<;>(try (exfalso;simp at hc;omega))<;>clear hc<;>(try with_reducible refine aK ?_);(repeat with_reducible refine aA ?_);(first | with_reducible refine aR fun K' hK=> ?_ | with_reducible refine aS fun K' hK=> ?_);simp;(first | refine hK _ _ _ ?_ | done);clear K' hK;(repeat with_reducible refine aA ?_);(first | with_reducible refine aw_ret ?_ | with_reducible refine aw_retL ?_ | with_reducible refine aw_skipL ?_);simp[blockK,loopK,Post,resA,res1,expT,expA,exp1,expM,expL,okT,okA,ok1,rowOf,Tryz.f56];obtain⟨e1,e2⟩:=bad (by rw[hkx];simp[xm]);rw[e1,e2];exact⟨[nx],⟨⟨rfl,rfl⟩,rfl⟩,by simp[rowOf]⟩
     ·(repeat with_reducible refine aA ?_);(first | with_reducible refine aw_exit ?_ | with_reducible refine aw_exitL ?_);refine loopK_exit (blockK_exit ?_);have hie:i=l.length:=(by omega);subst hie;rw[List.take_length]at hall;clear s32 s33 s34 hw hi;have lk:=lookupB g1 0;have hk0:keepOk t l=decide ((0:Int)∈S):=by
       simp only[keepOk,hall,hS,Bool.true_and];simp
      by_cases x0:(0:Int)∈S
      ·have hok:keepOk t l=true:=(by rw[hk0];simp[x0]);obtain⟨hrng,c⟩:=(keepOk_iff g).1 hok;have e1:keepCode t l=0:=(by unfold keepCode;rw[if_neg (by simp[c0]),if_pos hok]);have e2:keepR t l=keepT t (qL l) t.length:=(by unfold keepR;rw[if_pos e1]);rw[e1,e2];have hq:∀k:Nat,decide ((k:Int)∈S)=qL l k:=fun k=>by
        unfold qL;rw[Bool.eq_iff_iff,decide_eq_true_eq,decide_eq_true_eq,hS];constructor
        ·rintro(h | h)
         ·omega
         ·exact h
        ·exact .inr
       generalize qL l=q at*;(repeat with_reducible refine aA ?_);(first | with_reducible refine aR fun K' hK=> ?_ | with_reducible refine aS fun K' hK=> ?_);simp[s7,lk,x0];(first | refine hK _ _ _ ?_ | done);clear K' hK;repeat with_reducible refine aA ?_
       (first | with_reducible refine aC fun A B hA hB=> ?_ | with_reducible refine aD fun A B hA hB=> ?_)
       simp;refine⟨fun hc=>hA ?_,fun hc=>hB ?_⟩<;>clear hA hB A B<;>(try (simp at hc;done))<;>(try (exfalso;simp at hc;omega))<;>clear hc<;>(try with_reducible refine aK ?_);have up1:=updateI (G:=(G.upd nx (.map []))) (id:=nx) (M:=[]) (by simp[entI]) (k:= -1) (by simp) (-1);(repeat with_reducible refine aA ?_);(first | with_reducible refine aR fun K' hK=> ?_ | with_reducible refine aS fun K' hK=> ?_);simp[up1];(first | refine hK _ _ _ ?_ | done);clear K' hK;(repeat with_reducible refine aA ?_);(first | with_reducible refine aR fun K' hK=> ?_ | with_reducible refine aS fun K' hK=> ?_);simp;(first | refine hK _ _ _ ?_ | done);clear K' hK;(repeat with_reducible refine aA ?_);(first | with_reducible refine aR fun K' hK=> ?_ | with_reducible refine aS fun K' hK=> ?_);simp[s0];(first | refine hK _ _ _ ?_ | done);clear K' hK;have nB:¬(1:Nat)=nx:=(by omega);have nB1:¬(1:Nat)=nx+1:=(by omega);have nB2:¬nx=nx+1:=(by omega);refine aw_gen (fun u H ny=>u 7=.mp 1∧u 12=.mp nx∧u 62=rowT Pl.cells t∧u 63=iV t.length∧u 64=iV 0∧u 13=.row (nx+1) 0∧ny=nx+2∧H 1=some (.map (entB S))∧H nx=some (.map (entI (keepM q 0)))∧H (nx+1)=some (.row 58 [])) ?_ ?_
       ·exact⟨by simp[s7],by simp,by simp[s0],by simp,by simp,by simp,by omega,by simp[nB,show¬nx=0 by omega,g1],by simp[nB2,keepM,keptQ],by simp⟩
       clear s0 s7 g1 lk up1 nB nB1 nB2;rintro u H ny ⟨u7,u12,u62,u63,u64,u13,rfl,h1,hB,hr⟩;generalize hBe:nx=B at*;clear hBe;(repeat with_reducible refine aA ?_);(first | with_reducible refine aw_block ?_ | with_reducible refine aw_toS (aw_block ?_));refine aw_loop (fun s G nx=>s 7=.mp 1∧s 12=.mp B∧s 62=rowT Pl.cells t∧s 63=iV t.length∧G 1=some (.map (entB S))∧∃k r:Nat,s 64=iV k∧k≤t.length∧G B=some (.map (entI (keepM q k)))∧s 13=.row r (keepT t q k).length∧G r=some (.row 58 (flat Pl.cells (keepT t q k)))∧¬r=B∧¬r=1∧r<nx∧B<nx) (fun s _ _=>match s 64 with | .v (.int _ n)=>t.length-n.toNat | _=>0) ?_ ?_
       ·exact⟨u7,u12,u62,u63,h1,0,B+1,by simp[u64],by omega,hB,by simp[u13,keepT,keptQ],by simp[hr,keepT,keptQ],by omega,by omega,by omega,by omega⟩
       clear u7 u12 u62 u63 u64 u13 h1 hB hr u H;rintro s G nx-⟨s7,s12,s62,s63,g1,k,r,s64,hk,gB,s13,gr,hrB,hr1,hrn,hBn⟩;have hw:IntKind.i64.wrap (↑k+1)=((k+1:Nat):Int):=wrapS (by omega);(repeat with_reducible refine aA ?_);(first | with_reducible refine aR fun K' hK=> ?_ | with_reducible refine aS fun K' hK=> ?_);simp[s63,s64];(first | refine hK _ _ _ ?_ | done);clear K' hK;(repeat with_reducible refine aA ?_);(first | with_reducible refine aC fun A B hA hB=> ?_ | with_reducible refine aD fun A B hA hB=> ?_);simp;refine⟨fun hi2=>hA ?_,fun hi2=>hB ?_⟩<;>clear hA hB A B<;>(try simp at hi2)<;>(try with_reducible refine aK ?_)
       ·(repeat with_reducible refine aA ?_);(first | with_reducible refine aw_block ?_ | with_reducible refine aw_toS (aw_block ?_));have n1:¬1=nx:=(by omega);have nB:¬B=nx:=(by omega);have nr:¬r=nx:=(by omega);(repeat with_reducible refine aA ?_);(first | with_reducible refine aR fun K' hK=> ?_ | with_reducible refine aS fun K' hK=> ?_);simp[s62,s64,hi2];(first | refine hK _ _ _ ?_ | done);clear K' hK;have lk:∀X:Hp,X 1=some (.map (entB S))→evLookup Tryz.prog X 129 (.mp 1) (iV k) false=some (bV (q k)):=fun X hX=>(by rw[lookupB hX,hq]);(repeat with_reducible refine aA ?_);(first | with_reducible refine aR fun K' hK=> ?_ | with_reducible refine aS fun K' hK=> ?_);simp[s7,lk,n1,g1];(first | refine hK _ _ _ ?_ | done);clear K' hK;have hk1:=kq_succ (q:=q) (k:=k);cases hqk:q k with
        | false=>
         rw[hqk]at hk1;have hk1:keptQ q (k+1)=keptQ q k:=(by rw[hk1];simp);repeat with_reducible refine aA ?_
         (first | with_reducible refine aC fun A B hA hB=> ?_ | with_reducible refine aD fun A B hA hB=> ?_)
         simp;refine⟨fun hc=>hA ?_,fun hc=>hB ?_⟩<;>clear hA hB A B<;>(try (simp at hc;done))<;>(try (exfalso;simp at hc;omega))<;>clear hc<;>(try with_reducible refine aK ?_);(first | with_reducible refine aw_skipL ?_ | skip);refine blockK_normal ?_;(repeat with_reducible refine aA ?_);(first | with_reducible refine aR fun K' hK=> ?_ | with_reducible refine aS fun K' hK=> ?_);simp[s64,hw];(first | refine hK _ _ _ ?_ | done);clear K' hK;refine aw_skipL (loopK_normal ?_ ?_)
         ·have e2:keepT t q (k+1)=keepT t q k:=(by rw[keepT,hk1];rfl);have e3:keepM q (k+1)=keepM q k:=(by rw[keepM,hk1];rfl);exact⟨by simp[s7],by simp[s12],by simp[s62],by simp[s63],by simp[n1,g1],k+1,r,by simp[hw],by omega,by rw[e3];simp[nB,gB],by rw[e2];simp[s13],by rw[e2];simp[nr,gr],hrB,hr1,by omega,by omega⟩
         ·simp[s64,hw];omega
        | true=>
         rw[hqk]at hk1;have hk1:keptQ q (k+1)=keptQ q k++[k]:=(by rw[hk1];simp);have hL:(keepT t q k).length=rkQ q k:=keep_len;have hle:rkQ q k≤k:=rq_le;have hren:renQ q k=(keepT t q k).length:=(by rw[renq_nn (by omega),Int.toNat_natCast,hL]);have hM1:keepM q k++[((k:Int),((keepT t q k).length:Int))]=keepM q (k+1):=by
          rw[keepM,keepM,hk1,List.map_append,←hren];rfl
         have hcell:iV (renQ q (parN t k))::(nth t k).cells.tail=(keepP t q k).cells:=rfl;have hpp:(nth t k).par=parN t k:=rfl;have hT:keepT t q (k+1)=keepT t q k++[keepP t q k]:=(by rw[keepT,keepT,hk1,List.map_append];rfl);generalize hp:nth t k=p at*;have up:∀X:Hp,X B=some (.map (entI (keepM q k)))→evMapUpdate Tryz.prog X 130 (.mp B) (iV k) (iV (keepT t q k).length)=some (X.upd B (.map (entI (keepM q (k+1))))):=fun X hX=>(by rw[updateI hX keepM_new,hM1]);have nx2:¬nx=B:=(by omega);have nr1:¬r=nx+1:=(by omega);have nxr:¬nx=r:=(by omega);have nr2:¬B=r:=fun h=>hrB h.symm;have n11:¬1=nx+1:=(by omega);have n12:¬1=nx+1+1:=(by omega);have n13:¬1=r:=fun h=>hr1 h.symm;have n14:¬1=B:=(by omega);have nB1:¬B=nx+1:=(by omega);have nB3:¬B=nx+1+1:=(by omega);repeat with_reducible refine aA ?_
         (first | with_reducible refine aC fun A B hA hB=> ?_ | with_reducible refine aD fun A B hA hB=> ?_)
         simp;refine⟨fun hc=>hA ?_,fun hc=>hB ?_⟩<;>clear hA hB A B<;>(try (simp at hc;done))<;>(try (exfalso;simp at hc;omega))<;>clear hc<;>(try with_reducible refine aK ?_);(repeat with_reducible refine aA ?_);(first | with_reducible refine aR fun K' hK=> ?_ | with_reducible refine aS fun K' hK=> ?_);simp[s12,s13,gr,nr,nB,gB,up];(first | refine hK _ _ _ ?_ | done);clear K' hK;have lk2:∀X:Hp,X B=some (.map (entI (keepM q (k+1))))→evLookup Tryz.prog X 130 (.mp B) (iV (parN t k)) false=some (iV (renQ q (parN t k))):=fun X hX=>(by rw[lookupI hX,keepM_par g c hi2 hqk]);(repeat with_reducible refine aA ?_);(first | with_reducible refine aR fun K' hK=> ?_ | with_reducible refine aS fun K' hK=> ?_);simp[s12,nx2,hpp,lk2,hcell];(first | refine hK _ _ _ ?_ | done);clear K' hK;have b1:(keepT t q k).length+1≤9223372036854775807:=(by omega);have b2:((keepT t q k).length+1)*64≤140737488355328:=(by omega);(repeat with_reducible refine aA ?_);(first | with_reducible refine aR fun K' hK=> ?_ | with_reducible refine aS fun K' hK=> ?_);simp[s13,nx2,nB,gr,nr,nxr,nr1,hrB,nr2,b1,b2,treeOf_row,srcOf_row];(first | refine hK _ _ _ ?_ | done);clear K' hK;(first | with_reducible refine aw_skipL ?_ | skip);refine blockK_normal ?_;(repeat with_reducible refine aA ?_);(first | with_reducible refine aR fun K' hK=> ?_ | with_reducible refine aS fun K' hK=> ?_);simp[s64,hw];(first | refine hK _ _ _ ?_ | done);clear K' hK;refine aw_skipL (loopK_normal ?_ ?_)
         ·exact⟨by simp[s7],by simp[s12],by simp[s62],by simp[s63],by simp[n1,n11,n12,n13,n14,g1,show¬nx=0 by omega],k+1,nx+1+1,by simp[hw],by omega,by simp[nB,nB1,nB3,nr2],by rw[hT];simp,by rw[hT,Hp.upd_self,←flat_snoc],by omega,by omega,by omega,by omega⟩
         ·simp[s64,hw];omega
       ·(repeat with_reducible refine aA ?_);(first | with_reducible refine aw_exit ?_ | with_reducible refine aw_exitL ?_);refine loopK_exit (blockK_exit ?_);have:k=t.length:=(by omega);subst this;(repeat with_reducible refine aA ?_);(first | with_reducible refine aR fun K' hK=> ?_ | with_reducible refine aS fun K' hK=> ?_);simp[s13];(first | refine hK _ _ _ ?_ | done);clear K' hK;(repeat with_reducible refine aA ?_);(first | with_reducible refine aw_ret ?_ | with_reducible refine aw_retL ?_ | with_reducible refine aw_skipL ?_);simp[blockK,loopK,Post,resA,res1,expT,expA,exp1,expM,expL,okT,okA,ok1,rowOf,Tryz.f56,gr]
      ·have e1:keepCode t l=151:=(by unfold keepCode;rw[if_neg (by simp[c0]),if_neg (by simp[hk0,x0])]);have e2:keepR t l=[]:=(by unfold keepR;rw[e1];rfl);rw[e1,e2];(repeat with_reducible refine aA ?_);(first | with_reducible refine aR fun K' hK=> ?_ | with_reducible refine aS fun K' hK=> ?_);simp[s7,lk,x0];(first | refine hK _ _ _ ?_ | done);clear K' hK;repeat with_reducible refine aA ?_
       (first | with_reducible refine aC fun A B hA hB=> ?_ | with_reducible refine aD fun A B hA hB=> ?_)
       simp;refine⟨fun hc=>hA ?_,fun hc=>hB ?_⟩<;>clear hA hB A B<;>(try (simp at hc;done))<;>(try (exfalso;simp at hc;omega))<;>clear hc<;>(try with_reducible refine aK ?_);(repeat with_reducible refine aA ?_);(first | with_reducible refine aR fun K' hK=> ?_ | with_reducible refine aS fun K' hK=> ?_);simp;(first | refine hK _ _ _ ?_ | done);clear K' hK;(repeat with_reducible refine aA ?_);(first | with_reducible refine aw_ret ?_ | with_reducible refine aw_retL ?_ | with_reducible refine aw_skipL ?_);simp[blockK,loopK,Post,resA,res1,expT,expA,exp1,expM,expL,okT,okA,ok1,rowOf,Tryz.f56]
 ·(repeat with_reducible refine aA ?_);(first | with_reducible refine aR fun K' hK=> ?_ | with_reducible refine aS fun K' hK=> ?_);simp[c0];(first | refine hK _ _ _ ?_ | done);clear K' hK;repeat with_reducible refine aA ?_
  (first | with_reducible refine aC fun A B hA hB=> ?_ | with_reducible refine aD fun A B hA hB=> ?_)
  simp[c0];refine⟨fun hc=>hA ?_,fun hc=>hB ?_⟩<;>clear hA hB A B<;>(try (simp at hc;done))<;>(try (exfalso;simp at hc;omega))<;>clear hc<;>(try with_reducible refine aK ?_);(repeat with_reducible refine aA ?_);(first | with_reducible refine aR fun K' hK=> ?_ | with_reducible refine aS fun K' hK=> ?_);simp;(first | refine hK _ _ _ ?_ | done);clear K' hK;(repeat with_reducible refine aA ?_);(first | with_reducible refine aw_ret ?_ | with_reducible refine aw_retL ?_ | with_reducible refine aw_skipL ?_);simp[blockK,loopK,Post,resA,res1,expT,expA,exp1,expM,expL,okT,okA,ok1,rowOf,Tryz.f56];have e1:keepCode t l=checkN t:=(by simp[keepCode,c0]);have e2:keepR t l=[]:=(by rw[keepR,e1,if_neg c0]);rw[e1,e2];exact⟨[1],⟨⟨rfl,rfl⟩,rfl⟩,rfl⟩
set_option maxRecDepth 100000
set_option maxHeartbeats 4000000
theorem own55_ok (l:List Int) (hl:l.length≤1000000000):CallsOK Tryz.prog 55 [rowT iC l] (.row 0 l.length) [(3,flat iC l)]:=by
 refine callsOK mixed Tryz.call55 Tryz.func55 rfl (by rw[Tryz.ntmps55];simp) ?_ rfl;rw[Tryz.ntmps55];have h1:l.length≤9223372036854775807:=(by omega);have h2:l.length*8≤140737488355328:=(by omega);(repeat with_reducible refine aA ?_);(first | with_reducible refine aR fun K' hK=> ?_ | with_reducible refine aS fun K' hK=> ?_);simp;(first | refine hK _ _ _ ?_ | done);clear K' hK;(repeat with_reducible refine aA ?_);(first | with_reducible refine aR fun K' hK=> ?_ | with_reducible refine aS fun K' hK=> ?_);simp;(first | refine hK _ _ _ ?_ | done);clear K' hK;(repeat with_reducible refine aA ?_);(first | with_reducible refine aR fun K' hK=> ?_ | with_reducible refine aS fun K' hK=> ?_);simp[h1,h2,treeOf_row,srcOf_row];(first | refine hK _ _ _ ?_ | done);clear K' hK;(repeat with_reducible refine aA ?_);(first | with_reducible refine aR fun K' hK=> ?_ | with_reducible refine aS fun K' hK=> ?_);simp;(first | refine hK _ _ _ ?_ | done);clear K' hK;(repeat with_reducible refine aA ?_);(first | with_reducible refine aw_ret ?_ | with_reducible refine aw_retL ?_ | with_reducible refine aw_skipL ?_);simp[blockK,loopK,Post,resA,res1,expT,expA,exp1,expM,expL,okT,okA,ok1,rowOf,Tryz.f55]
theorem has111_ok (l:List Int) (hl:l.length≤1000000000) (n:Int):CallsOK Tryz.prog 111 [rowT iC l,iV n] (bV (decide (n∈l))) []:=by
 refine callsOK mixed Tryz.call111 Tryz.func111 rfl (by rw[Tryz.ntmps111];simp) ?_ rfl;rw[Tryz.ntmps111];(repeat with_reducible refine aA ?_);(first | with_reducible refine aR fun K' hK=> ?_ | with_reducible refine aS fun K' hK=> ?_);simp;(first | refine hK _ _ _ ?_ | done);clear K' hK;(repeat with_reducible refine aA ?_);(first | with_reducible refine aR fun K' hK=> ?_ | with_reducible refine aS fun K' hK=> ?_);simp;(first | refine hK _ _ _ ?_ | done);clear K' hK;(repeat with_reducible refine aA ?_);(first | with_reducible refine aw_block ?_ | with_reducible refine aw_toS (aw_block ?_));refine aw_loop (fun s G nx=>s 0=rowT iC l∧s 1=iV n∧∃i:Nat,s 5=iV i∧i≤l.length∧n∉l.take i) (fun s _ _=>match s 5 with | .v (.int _ n)=>l.length-n.toNat | _=>0) ?_ ?_
 ·exact⟨by simp,by simp,0,by simp,by omega,by simp⟩
 ·rintro s G nx-⟨s0,s1,i,s5,hi,hno⟩;have hw:IntKind.i64.wrap (↑i+1)=((i+1:Nat):Int):=wrapS (by omega);(repeat with_reducible refine aA ?_);(first | with_reducible refine aR fun K' hK=> ?_ | with_reducible refine aS fun K' hK=> ?_);simp[s0,s5];(first | refine hK _ _ _ ?_ | done);clear K' hK;(repeat with_reducible refine aA ?_);(first | with_reducible refine aC fun A B hA hB=> ?_ | with_reducible refine aD fun A B hA hB=> ?_);simp;refine⟨fun hi2=>hA ?_,fun hi2=>hB ?_⟩<;>clear hA hB A B<;>(try simp at hi2)<;>(try with_reducible refine aK ?_)
  ·have hstep:l.take (i+1)=l.take i++[nth l i]:=by
    rw[List.take_add_one,List.getElem?_eq_getElem hi2,←nth_eq hi2];rfl
   (repeat with_reducible refine aA ?_);(first | with_reducible refine aw_block ?_ | with_reducible refine aw_toS (aw_block ?_));(repeat with_reducible refine aA ?_);(first | with_reducible refine aR fun K' hK=> ?_ | with_reducible refine aS fun K' hK=> ?_);simp[s0,s1,s5,hi2];(first | refine hK _ _ _ ?_ | done);clear K' hK;by_cases he:nth l i=n
   ·repeat with_reducible refine aA ?_
    (first | with_reducible refine aC fun A B hA hB=> ?_ | with_reducible refine aD fun A B hA hB=> ?_)
    simp[he];refine⟨fun hc=>hA ?_,fun hc=>hB ?_⟩<;>clear hA hB A B<;>(try (simp at hc;done))<;>(try (exfalso;simp at hc;omega))<;>clear hc<;>(try with_reducible refine aK ?_);(repeat with_reducible refine aA ?_);(first | with_reducible refine aR fun K' hK=> ?_ | with_reducible refine aS fun K' hK=> ?_);simp;(first | refine hK _ _ _ ?_ | done);clear K' hK;(repeat with_reducible refine aA ?_);(first | with_reducible refine aw_ret ?_ | with_reducible refine aw_retL ?_ | with_reducible refine aw_skipL ?_);simp[blockK,loopK,Post,resA,res1,expT,expA,exp1,expM,expL,okT,okA,ok1,rowOf,Tryz.f111];rw[←he];exact nth_mem hi2
   ·repeat with_reducible refine aA ?_
    (first | with_reducible refine aC fun A B hA hB=> ?_ | with_reducible refine aD fun A B hA hB=> ?_)
    simp[he];refine⟨fun hc=>hA ?_,fun hc=>hB ?_⟩<;>clear hA hB A B<;>(try (simp at hc;done))<;>(try (exfalso;simp at hc;omega))<;>clear hc<;>(try with_reducible refine aK ?_);(first | with_reducible refine aw_skipL ?_ | skip);refine blockK_normal ?_;(repeat with_reducible refine aA ?_);(first | with_reducible refine aR fun K' hK=> ?_ | with_reducible refine aS fun K' hK=> ?_);simp[s5,hw];(first | refine hK _ _ _ ?_ | done);clear K' hK;refine aw_skipL (loopK_normal ?_ ?_)
    ·exact⟨by simp[s0],by simp[s1],i+1,by simp[hw],by omega,by rw[hstep];simp[hno];exact fun e=>he e.symm⟩
    ·simp[s5,hw];omega
  ·(repeat with_reducible refine aA ?_);(first | with_reducible refine aw_exit ?_ | with_reducible refine aw_exitL ?_);refine loopK_exit (blockK_exit ?_);have hie:i=l.length:=(by omega);subst hie;rw[List.take_length]at hno;(repeat with_reducible refine aA ?_);(first | with_reducible refine aR fun K' hK=> ?_ | with_reducible refine aS fun K' hK=> ?_);simp;(first | refine hK _ _ _ ?_ | done);clear K' hK;(repeat with_reducible refine aA ?_);(first | with_reducible refine aw_ret ?_ | with_reducible refine aw_retL ?_ | with_reducible refine aw_skipL ?_);simp[blockK,loopK,Post,resA,res1,expT,expA,exp1,expM,expL,okT,okA,ok1,rowOf,Tryz.f111];exact hno
theorem keepP_root {t:List Pl} {q:Nat→Bool} (g:Good t):keepP t q 0=nth t 0:=by
 unfold keepP;have:renQ q (parN t 0)=(nth t 0).par:=(by rw[root_par g.root,g.root];rfl);rw[this]
theorem kept108_ok (t:List Pl) (g:Good t) (l:List Int) (hl:l.length≤1000000000) (c:Clo t (qL l)):CallsOK Tryz.prog 108 [rowT Pl.cells t,rowT iC l] (.row 0 (keepT t (qL l) t.length).length) [(58,flat Pl.cells (keepT t (qL l) t.length))]:=by
 refine callsOK mixed Tryz.call108 Tryz.func108 rfl (by rw[Tryz.ntmps108];simp) ?_ rfl;rw[Tryz.ntmps108];have htl:=g.le;have hmk:∀(X:Hp) (m:Nat),evMake Tryz.prog X m 49 (iV t.length) (iV t.length)=some (.row m t.length,X.upd m (.row 3 (flat iC (List.replicate t.length 0))),m+1):=fun X m=>by
  simp only[evMake,el49];rw[if_pos ⟨trivial,by omega,by omega,by omega⟩,Int.toNat_natCast,made_iC]
 have hh:∀k:Nat,CallsOK Tryz.prog 111 [rowT iC l,iV k] (bV (qL l k)) []:=fun k=>has111_ok l hl k;generalize qL l=q at*;(repeat with_reducible refine aA ?_);(first | with_reducible refine aR fun K' hK=> ?_ | with_reducible refine aS fun K' hK=> ?_);simp;(first | refine hK _ _ _ ?_ | done);clear K' hK;(repeat with_reducible refine aA ?_);(first | with_reducible refine aR fun K' hK=> ?_ | with_reducible refine aS fun K' hK=> ?_);simp[hmk];(first | refine hK _ _ _ ?_ | done);clear K' hK;(repeat with_reducible refine aA ?_);(first | with_reducible refine aR fun K' hK=> ?_ | with_reducible refine aS fun K' hK=> ?_);simp;(first | refine hK _ _ _ ?_ | done);clear K' hK;(repeat with_reducible refine aA ?_);(first | with_reducible refine aR fun K' hK=> ?_ | with_reducible refine aS fun K' hK=> ?_);simp;(first | refine hK _ _ _ ?_ | done);clear K' hK;(repeat with_reducible refine aA ?_);(first | with_reducible refine aw_block ?_ | with_reducible refine aw_toS (aw_block ?_));refine aw_loop (fun s G nx=>s 0=rowT Pl.cells t∧s 1=rowT iC l∧s 5=.row 1 t.length∧∃(k r:Nat) (u:List Int),s 7=iV k∧k≤t.length∧u.length=t.length∧G 1=some (.row 3 (flat iC u))∧(∀j,j<k→q j=true→nth u j=rkQ q j)∧s 6=.row r (keepT t q k).length∧G r=some (.row 58 (flat Pl.cells (keepT t q k)))∧¬r=1∧r<nx∧1<nx) (fun s _ _=>match s 7 with | .v (.int _ n)=>t.length-n.toNat | _=>0) ?_ ?_
 ·exact⟨by simp,by simp,by simp,0,2,List.replicate t.length 0,by simp,by omega,by simp,by simp,fun j hj=>by omega,by simp[keepT,keptQ],by simp[keepT,keptQ],by omega,by omega,by omega⟩
 ·rintro s G nx-⟨s0,s1,s5,k,r,u,s7,hk,hu,g1,hnu,s6,gr,hr1,hrn,h1n⟩;have hw:IntKind.i64.wrap (↑k+1)=((k+1:Nat):Int):=wrapS (by omega);(repeat with_reducible refine aA ?_);(first | with_reducible refine aR fun K' hK=> ?_ | with_reducible refine aS fun K' hK=> ?_);simp[s0,s7];(first | refine hK _ _ _ ?_ | done);clear K' hK;(repeat with_reducible refine aA ?_);(first | with_reducible refine aC fun A B hA hB=> ?_ | with_reducible refine aD fun A B hA hB=> ?_);simp;refine⟨fun hi2=>hA ?_,fun hi2=>hB ?_⟩<;>clear hA hB A B<;>(try simp at hi2)<;>(try with_reducible refine aK ?_)
  ·have hk1:=kq_succ (q:=q) (k:=k);(repeat with_reducible refine aA ?_);(first | with_reducible refine aw_block ?_ | with_reducible refine aw_toS (aw_block ?_));(repeat with_reducible refine aA ?_);(first | with_reducible refine aR fun K' hK=> ?_ | with_reducible refine aS fun K' hK=> ?_);simp[s1,s7];refine acall_flat (hh k) rfl (by first | rfl | (simp;done) | (simp;rfl) | (simp;exact⟨rfl,rfl⟩)) ?_;simp;(first | refine hK _ _ _ ?_ | done);clear K' hK;cases hqk:q k with
   | false=>
    rw[hqk]at hk1;have hk1:keptQ q (k+1)=keptQ q k:=(by rw[hk1];simp);have e2:keepT t q (k+1)=keepT t q k:=(by rw[keepT,hk1];rfl);have hnu2:∀j,j<k+1→q j=true→nth u j=rkQ q j:=fun j hj hq=>by
     rcases Nat.lt_or_ge j k with h | h
     ·exact hnu j h hq
     ·have:j=k:=(by omega);subst this;rw[hqk]at hq;cases hq
    repeat with_reducible refine aA ?_
    (first | with_reducible refine aC fun A B hA hB=> ?_ | with_reducible refine aD fun A B hA hB=> ?_)
    simp;refine⟨fun hc=>hA ?_,fun hc=>hB ?_⟩<;>clear hA hB A B<;>(try (simp at hc;done))<;>(try (exfalso;simp at hc;omega))<;>clear hc<;>(try with_reducible refine aK ?_);(repeat with_reducible refine aA ?_);(first | with_reducible refine aw_exit ?_ | with_reducible refine aw_exitL ?_);(repeat first | with_reducible refine blockK_exit ?_ | with_reducible refine blockK_pass (by decide) ?_);(repeat with_reducible refine aA ?_);(first | with_reducible refine aR fun K' hK=> ?_ | with_reducible refine aS fun K' hK=> ?_);simp[s7,hw];(first | refine hK _ _ _ ?_ | done);clear K' hK;refine aw_skipL (loopK_normal ?_ ?_)
    ·exact⟨by simp[s0],by simp[s1],by simp[s5],k+1,r,u,by simp[hw],by omega,hu,g1,hnu2,by rw[e2];simp[s6],by rw[e2];exact gr,hr1,hrn,h1n⟩
    ·simp[s7,hw];omega
   | true=>
    rw[hqk]at hk1;have hk1:keptQ q (k+1)=keptQ q k++[k]:=(by rw[hk1];simp);have hT:keepT t q (k+1)=keepT t q k++[keepP t q k]:=(by rw[keepT,keepT,hk1,List.map_append];rfl);have hL:(keepT t q k).length=rkQ q k:=keep_len;have hle:rkQ q k≤k:=rq_le;repeat with_reducible refine aA ?_
    (first | with_reducible refine aC fun A B hA hB=> ?_ | with_reducible refine aD fun A B hA hB=> ?_)
    simp;refine⟨fun hc=>hA ?_,fun hc=>hB ?_⟩<;>clear hA hB A B<;>(try (simp at hc;done))<;>(try (exfalso;simp at hc;omega))<;>clear hc<;>(try with_reducible refine aK ?_);(repeat with_reducible refine aA ?_);(first | with_reducible refine aR fun K' hK=> ?_ | with_reducible refine aS fun K' hK=> ?_);simp[s0,s7,hi2];(first | refine hK _ _ _ ?_ | done);clear K' hK;have hpe:(nth t k).par=parN t k:=rfl;have n1:¬1=nx:=(by omega);have nr:¬r=nx:=(by omega);have nx1:¬nx=1:=(by omega);have nxr:¬nx=r:=(by omega);have hk4:(k:Int)<t.length:=(by omega);(repeat with_reducible refine aA ?_);with_reducible refine aw_un ?_
    refine aw_cut (fun s' G' nx'=>s' 0=rowT Pl.cells t∧s' 1=rowT iC l∧s' 5=.row 1 t.length∧s' 6=.row r (keepT t q k).length∧s' 7=iV k∧s' 8=.ptr nx 0∧nx'=nx+1∧G' 1=some (.row 3 (flat iC u))∧G' r=some (.row 58 (flat Pl.cells (keepT t q k)))∧G' nx=some (.var 58 (keepP t q k).cells)) ?_ ?_
    ·rcases Nat.eq_zero_or_pos k with rfl | hk0
     ·(repeat with_reducible refine aA ?_);(first | with_reducible refine aR fun K' hK=> ?_ | with_reducible refine aS fun K' hK=> ?_);simp[s7];(first | refine hK _ _ _ ?_ | done);clear K' hK;repeat with_reducible refine aA ?_
      (first | with_reducible refine aC fun A B hA hB=> ?_ | with_reducible refine aD fun A B hA hB=> ?_)
      simp;refine⟨fun hc=>hA ?_,fun hc=>hB ?_⟩<;>clear hA hB A B<;>(try (simp at hc;done))<;>(try (exfalso;simp at hc;omega))<;>clear hc<;>(try with_reducible refine aK ?_);with_reducible refine aw_end ?_
      rw[keepP_root g];exact⟨by simp[s0],by simp[s1],by simp[s5],by simp[s6],by simp[s7],by simp,by simp,by simp[n1,g1],by simp[nr,gr],by simp⟩
     ·have hk0':(0:Int)<k:=(by omega);have hp:=g.par k hk0 hi2;have hpu:(parN t k).toNat<u.length:=(by omega);have hp2:parN t k<t.length:=(by omega);have hq1:=hnu (parN t k).toNat (by omega) (c.par k hk0 hi2 hqk);have hcell:iV (rkQ q (parN t k).toNat:Nat)::(nth t k).cells.tail=(keepP t q k).cells:=by
       unfold keepP;rw[renq_nn hp.1];rfl
      (repeat with_reducible refine aA ?_);(first | with_reducible refine aR fun K' hK=> ?_ | with_reducible refine aS fun K' hK=> ?_);simp[s7,hk0'];(first | refine hK _ _ _ ?_ | done);clear K' hK;repeat with_reducible refine aA ?_
      (first | with_reducible refine aC fun A B hA hB=> ?_ | with_reducible refine aD fun A B hA hB=> ?_)
      simp;refine⟨fun hc=>hA ?_,fun hc=>hB ?_⟩<;>clear hA hB A B<;>(try (simp at hc;done))<;>(try (exfalso;simp at hc;omega))<;>clear hc<;>(try with_reducible refine aK ?_);(repeat with_reducible refine aA ?_);(first | with_reducible refine aR fun K' hK=> ?_ | with_reducible refine aS fun K' hK=> ?_);simp[s5,n1,g1,hpe,hp.1,hp2,hpu,hq1,hcell];(first | refine hK _ _ _ ?_ | done);clear K' hK;with_reducible refine aw_end ?_
      exact⟨by simp[s0],by simp[s1],by simp[s5],by simp[s6],by simp[s7],by simp,by simp,by simp[n1,g1],by simp[nr,gr],by simp⟩
    have o7:=s7;clear s0 s1 s5 s6 s7 g1 gr;rintro s G ny ⟨s0,s1,s5,s6,s7,s8,rfl,g1,gr,gx⟩;have hku:k<u.length:=(by omega);have hput:putO (flat iC u) 1 k 0 [iV (keepT t q k).length]=flat iC (u.set k ((keepT t q k).length:Int)):=putO_flat hku ((keepT t q k).length:Int);have b1:(keepT t q k).length+1≤9223372036854775807:=(by omega);have b2:((keepT t q k).length+1)*64≤140737488355328:=(by omega);have nr1:¬r=nx+1:=(by omega);have hr1':¬1=r:=fun e=>hr1 e.symm;have hnu2:∀j,j<k+1→q j=true→nth (u.set k ((keepT t q k).length:Int)) j=rkQ q j:=fun j hj hq=>by
     rw[nth_setG hku];by_cases e:j=k
     ·rw[if_pos e,e,hL]
     ·rw[if_neg e];exact hnu j (by omega) hq
    (repeat with_reducible refine aA ?_);(first | with_reducible refine aR fun K' hK=> ?_ | with_reducible refine aS fun K' hK=> ?_);simp[s5,s6,s7,g1,gr,hku,hk4,hput];(first | refine hK _ _ _ ?_ | done);clear K' hK;(repeat with_reducible refine aA ?_);(first | with_reducible refine aR fun K' hK=> ?_ | with_reducible refine aS fun K' hK=> ?_);simp[s6,s8,gx,gr,nx1,nxr,nr,nr1,hr1,b1,b2,treeOf_row,srcOf_row];(first | refine hK _ _ _ ?_ | done);clear K' hK;(first | with_reducible refine aw_skipL ?_ | skip);refine blockK_normal ?_;(repeat with_reducible refine aA ?_);(first | with_reducible refine aR fun K' hK=> ?_ | with_reducible refine aS fun K' hK=> ?_);simp[s7,hw];(first | refine hK _ _ _ ?_ | done);clear K' hK;refine aw_skipL (loopK_normal ?_ ?_)
    ·exact⟨by simp[s0],by simp[s1],by simp[s5],k+1,nx+1+1,u.set k ((keepT t q k).length:Int),by simp[hw],by omega,by simp[hu],by simp[hr1',n1,show¬nx=0 by omega],hnu2,by rw[hT];simp,by rw[hT,Hp.upd_self,←flat_snoc],by omega,by omega,by omega⟩
    ·simp[o7,hw];omega
  ·(repeat with_reducible refine aA ?_);(first | with_reducible refine aw_exit ?_ | with_reducible refine aw_exitL ?_);refine loopK_exit (blockK_exit ?_);have hke:k=t.length:=(by omega);subst hke;(repeat with_reducible refine aA ?_);(first | with_reducible refine aR fun K' hK=> ?_ | with_reducible refine aS fun K' hK=> ?_);simp[s6];(first | refine hK _ _ _ ?_ | done);clear K' hK;(repeat with_reducible refine aA ?_);(first | with_reducible refine aw_ret ?_ | with_reducible refine aw_retL ?_ | with_reducible refine aw_skipL ?_);simp[blockK,loopK,Post,resA,res1,expT,expA,exp1,expM,expL,okT,okA,ok1,rowOf,Tryz.f108,gr]
set_option maxRecDepth 100000
set_option maxHeartbeats 400000
def natZ (z:Int):Option Nat:=if 0≤z then some z.toNat else none
def leadsN (root:Man) (L:List Man) (t:List Pl) (n:Nat):List Nat:=(if 0<n then[(parN t n).toNat]else[])++((edgesV root L t n).map (toN t n)).filterMap natZ
theorem lead_rch {root:Man} {L:List Man} {t:List Pl} (g:Good t) {n k:Nat} (h:Rch root L t n) (hk:k∈leadsN root L t n):Rch root L t k:=by
 unfold leadsN at hk;rcases List.mem_append.1 hk with hk | hk
 ·split at hk
  ·rename_i h0;have:=(g.par n h0 (rch_lt g h)).1;simp at hk;subst hk;exact .par h this
  ·simp at hk
 ·obtain⟨z,hz,hzk⟩:=List.mem_filterMap.1 hk;obtain⟨d,hd,rfl⟩:=List.mem_map.1 hz;unfold natZ at hzk;split at hzk
  ·simp at hzk;exact .edge h hd (by omega)
  ·cases hzk
theorem rch_on {root:Man} {L:List Man} {t:List Pl} (g:Good t) {q:Nat→Prop} (h0:q 0) (hc:∀n,q n→∀k∈leadsN root L t n,q k) {n:Nat} (h:Rch root L t n):q n:=by
 induction h with
 | zero=>exact h0
 | par h h1 ih=>
  rename_i m;refine hc m ih _ ?_;unfold leadsN;refine List.mem_append.2 (.inl ?_);have hm:0<m:=by
   rcases Nat.eq_zero_or_pos m with rfl | h
   ·have:=(good_par (check_iff.2 g)).1;unfold parN at this h1;omega
   ·exact h
  rw[if_pos hm];simp
 | edge h hd hk ih=>
  rename_i m k d;refine hc m ih _ ?_;unfold leadsN;refine List.mem_append.2 (.inr (List.mem_filterMap.2 ⟨_,List.mem_map.2 ⟨d,hd,rfl⟩,?_⟩));rw[hk];simp[natZ]
def offN (on:List Bool):Nat:=on.countP (fun b=> !b)
theorem off_set:∀ {on:List Bool} {k:Nat},k<on.length→nth on k=false→offN (on.set k true)+1=offN on
 | [],k,h,_=>by simp at h
 | b::l,0,_,h=>by
  have:b=false:=h;subst this;simp[offN]
 | b::l,k+1,h,h1=>by
  have ih:=off_set (on:=l) (k:=k) (by simpa using h) h1;unfold offN at*;rw[List.set_cons_succ,List.countP_cons,List.countP_cons];omega
theorem nth_setB {on:List Bool} {k j:Nat} (hk:k<on.length):nth (on.set k true) j=if j=k then true else nth on j:=by
 unfold nth;rw[List.getD_eq_getElem?_getD,List.getD_eq_getElem?_getD,List.getElem?_set];by_cases h:k=j
 ·subst h;simp[hk]
 ·have h':¬j=k:=fun e=>h e.symm;simp[h,h']
structure Dfs (root:Man) (L:List Man) (t:List Pl) (on:List Bool) (w:List Nat):Prop where
 len:on.length=t.length
 zero:nth on 0=true
 sub:∀k,nth on k=true→Rch root L t k
 win:∀k∈w,nth on k=true
 don:∀k,nth on k=true→k∉w→∀j∈leadsN root L t k,nth on j=true
structure Rnd (root:Man) (L:List Man) (t:List Pl) (n M:Nat) (acc:List Nat) (on:List Bool) (w:List Nat):Prop where
 len:on.length=t.length
 zero:nth on 0=true
 sub:∀k,nth on k=true→Rch root L t k
 win:∀k∈w,nth on k=true
 ac:∀k∈acc,nth on k=true
 don:∀k,nth on k=true→k∉w→k≠n→∀j∈leadsN root L t k,nth on j=true
 msr:w.length+2*offN on≤M
theorem dfs_start {root:Man} {L:List Man} {t:List Pl} (g:Good t):Dfs root L t ((List.replicate t.length false).set 0 true) [0]:=by
 have hp:=g.pos;have h0:∀k,nth ((List.replicate t.length false).set 0 true) k=true→k=0:=fun k h=>by
  rw[nth_setB (by simpa using hp)]at h;split at h
  ·assumption
  ·exfalso;unfold nth at h;rw[List.getD_eq_getElem?_getD,List.getElem?_replicate]at h;split at h<;>simp at h
 refine⟨by simp,by rw[nth_setB (by simpa using hp),if_pos rfl],fun k h=> ?_,fun k h=> ?_,fun k h h1=> ?_⟩
 ·rw[h0 k h];exact .zero
 ·simp at h;subst h;rw[nth_setB (by simpa using hp),if_pos rfl]
 ·rw[h0 k h]at h1;simp at h1
theorem rnd_start {root:Man} {L:List Man} {t:List Pl} {n:Nat} {on:List Bool} {w:List Nat} (h:Dfs root L t on (w++[n])):Rnd root L t n (w.length+2*offN on) [] on w:=
 ⟨h.len,h.zero,h.sub,fun k hk=>h.win k (by simp[hk]),fun k hk=>by simp at hk,fun k h1 h2 h3=>h.don k h1 (by simp[h2,h3]),Nat.le_refl _⟩
theorem rnd_skip {root:Man} {L:List Man} {t:List Pl} {n M k:Nat} {acc:List Nat} {on:List Bool} {w:List Nat} (h:Rnd root L t n M acc on w) (hk:nth on k=true):Rnd root L t n M (acc++[k]) on w:=
 ⟨h.len,h.zero,h.sub,h.win,fun j hj=>by
  rcases List.mem_append.1 hj with hj | hj
  ·exact h.ac j hj
  ·simp at hj;subst hj;exact hk,h.don,h.msr⟩
theorem rnd_put {root:Man} {L:List Man} {t:List Pl} {n M k:Nat} {acc:List Nat} {on:List Bool} {w:List Nat} (h:Rnd root L t n M acc on w) (hk:nth on k=false) (hl:k<t.length) (hr:Rch root L t k):Rnd root L t n M (acc++[k]) (on.set k true) (w++[k]):=by
 have hl2:k<on.length:=(by rw[h.len];exact hl);have up:∀j,nth on j=true→nth (on.set k true) j=true:=fun j hj=>(by rw[nth_setB hl2,hj];simp);have self:nth (on.set k true) k=true:=(by rw[nth_setB hl2,if_pos rfl]);refine⟨by rw[List.length_set];exact h.len,up _ h.zero,fun j hj=> ?_,fun j hj=> ?_,fun j hj=> ?_,fun j h1 h2 h3 i hi=> ?_,?_⟩
 ·rw[nth_setB hl2]at hj;split at hj
  ·rename_i e;subst e;exact hr
  ·exact h.sub j hj
 ·rcases List.mem_append.1 hj with hj | hj
  ·exact up j (h.win j hj)
  ·simp at hj;subst hj;exact self
 ·rcases List.mem_append.1 hj with hj | hj
  ·exact up j (h.ac j hj)
  ·simp at hj;subst hj;exact self
 ·have hne:j≠k:=fun e=>h2 (by simp[e]);rw[nth_setB hl2,if_neg hne]at h1;exact up i (h.don j h1 (fun hw=>h2 (by simp[hw])) h3 i hi)
 ·have:=off_set hl2 hk;have:=h.msr;rw[List.length_append,List.length_singleton];omega
theorem rnd_end {root:Man} {L:List Man} {t:List Pl} {n M:Nat} {on:List Bool} {w:List Nat} (h:Rnd root L t n M (leadsN root L t n) on w):Dfs root L t on w:=by
 refine⟨h.len,h.zero,h.sub,h.win,fun k h1 h2 j hj=> ?_⟩;by_cases e:k=n
 ·subst e;exact h.ac j hj
 ·exact h.don k h1 h2 e j hj
theorem dfs_end {root:Man} {L:List Man} {t:List Pl} {on:List Bool} (g:Good t) (h:Dfs root L t on []):on=(List.range t.length).map (rchB root L t):=by
 have hk:∀k,nth on k=rchB root L t k:=fun k=>by
  rw[Bool.eq_iff_iff,rchB_iff];exact⟨h.sub k,fun hr=>rch_on (q:=fun k=>nth on k=true) g h.zero (fun n hn k hk=>h.don n hn (by simp) k hk) hr⟩
 refine List.ext_getElem (by simp[h.len]) fun k h1 h2=> ?_;rw[List.getElem_map,List.getElem_range,←hk,nth_eq h1]
set_option maxRecDepth 100000
set_option maxHeartbeats 4000000
theorem CallsOK.weakJs {P:Program} [Gl P] {f:FuncId} {xs:List AV} {r:AV} {J J':Js} (h:CallsOK P f xs r J) (hlen:J.length=J'.length)
  (hJ:∀(i:Nat) e cs,J[i]? =some (e,cs)→∃ds,J'[i]? =some (e,ds)∧WkTL cs ds):CallsOK P f xs r J':=by
 have e1:∀ {i:Nat} {o:AObj},ofJ J i=some o→∃e cs ds,J[i]? =some (e,cs)∧o=.row e cs∧J'[i]? =some (e,ds)∧ofJ J' i=some (.row e ds)∧WkTL cs ds:=by
  intro i o ho;unfold ofJ at ho⊢;cases hi:J[i]? with
  | none=>rw[hi]at ho;cases ho
  | some p=>
   rw[hi]at ho;simp only[Option.map_some,Option.some.injEq]at ho;obtain⟨ds,h1,h2⟩:=hJ i p.1 p.2 hi;exact⟨p.1,p.2,ds,rfl,ho.symm,h1,by rw[h1];rfl,h2⟩
 have e2:∀ {i:Nat} {o:AObj},ofJ J' i=some o→∃e cs ds,o=.row e ds∧ofJ J i=some (.row e cs)∧WkTL cs ds:=by
  intro i o ho;cases hi:J[i]? with
  | none=>
   have:J'[i]? =none:=(by rw[List.getElem?_eq_none_iff]at hi⊢;omega);unfold ofJ at ho;rw[this]at ho;cases ho
  | some p=>
   obtain⟨ds,h1,h2⟩:=hJ i p.1 p.2 hi;unfold ofJ at ho;rw[h1]at ho;simp only[Option.map_some,Option.some.injEq]at ho;exact⟨p.1,p.2,ds,ho.symm,by unfold ofJ;rw[hi];rfl,h2⟩
 refine⟨h.1,h.2.1,fun w us F hF hΓ hx=>(h.2.2 w us F hF hΓ hx).mono fun en w' hh=> ?_⟩;obtain⟨u,E',rfl,hv,hR,hEF,hb,hge⟩:=hh;refine⟨u,E',rfl,hv,⟨hR.inj,fun i b hi=> ?_,hR.lt,fun i o hi ha=> ?_,fun i=> ?_,fun b=> ?_,hR.nF,hR.Flt,hR.good⟩,hEF,hb,hge⟩
 ·obtain⟨o,h1,h2⟩:=hR.dom i b hi;obtain⟨e,cs,ds,_,rfl,_,h3,_⟩:=e1 h1;exact⟨_,h3,rfl⟩
 ·obtain⟨e,cs,ds,rfl,h1,hw⟩:=e2 hi;obtain⟨hl,hat⟩:=hw.at;rcases hR.obj i _ h1 rfl with⟨b,hb,us',q1,q2,q3⟩ | ⟨hN,e',he⟩
  ·refine .inl ⟨b,hb,us',q1,by omega,fun j c x hc hx=> ?_⟩;have hi:j<cs.length:=(by rw[hl];exact(List.getElem?_eq_some_iff.1 hc).1);exact hat j _ c (List.getElem?_eq_getElem hi) hc _ _ _ (q3 j _ x (List.getElem?_eq_getElem hi) hx)
  ·injection he with he1 he2;subst he2;cases ds with
   | nil=>exact .inr ⟨hN,e,rfl⟩
   | cons _ _=>simp at hl
 ·rw[hR.K i];exact⟨fun⟨o,h⟩=>by obtain⟨e,cs,ds,_,_,_,h3,_⟩:=e1 h;exact⟨_,h3⟩,fun⟨o,h⟩=>by obtain⟨e,cs,ds,_,h3,_⟩:=e2 h;exact⟨_,h3⟩⟩
 ·rw[hR.W b];exact⟨fun⟨i,o,h1,h2,h3⟩=>by obtain⟨e,cs,ds,_,rfl,_,h4,_⟩:=e1 h2;exact⟨i,_,h1,h4,rfl⟩,fun⟨i,o,h1,h2,h3⟩=>by obtain⟨e,cs,ds,rfl,h4,_⟩:=e2 h2;exact⟨i,_,h1,h4,rfl⟩⟩
def freeR:Rg:=[[]]
def v1:Ver:=⟨1,0,0,⟨#[]⟩⟩
def v2:Ver:=⟨2,0,0,⟨#[]⟩⟩
def twoR:Rg:=[[⟨5,v2⟩]]
set_option maxRecDepth 100000
set_option maxHeartbeats 4000000
def nA:Bs:=⟨#[97]⟩
def nB:Bs:=⟨#[98]⟩
def nC:Bs:=⟨#[99]⟩
def smallRoot:Man:=⟨⟨#[]⟩,⟨0,0,0,⟨#[]⟩⟩,[⟨1,nA,freeR⟩,⟨3,nB,twoR⟩],[]⟩
def smallX:List Man:=[⟨nA,v1,[⟨4,nC,freeR⟩],[]⟩,⟨nC,v1,[],[]⟩]
def gT1:List Pl:=[rootP,⟨0,nA,v1⟩]
def gT2:List Pl:=[rootP,⟨0,nA,v1⟩,⟨0,nC,v1⟩]
def gT3:List Pl:=[rootP,⟨0,nA,v1⟩,⟨0,nC,v1⟩,⟨0,nB,v1⟩]
theorem of_small {ds:List Dep} {b:Bool} {S:List Bs} {E:List Dep} (h1:namesOf (byM b ds)=S) (h2:S.Pairwise leB') (h3:(S.map fun n=>edgeOf [] (findD (byM b ds) n))=E):ofF ds [] b=E:=by
 unfold ofF;rw[h1,sortN_self h2,h3]
instance (a b:Bs):Decidable (leB' a b):=by unfold leB';infer_instance
set_option maxRecDepth 100000
set_option maxHeartbeats 4000000
def smallA:List AV:=[sV ⟨#[]⟩,iV 0,iV 0,iV 0,sV ⟨#[]⟩,rowT Dep.cells smallRoot.deps,.v (.slice none 0 0)]
set_option maxRecDepth 100000
set_option maxHeartbeats 8000000
set_option maxRecDepth 100000
set_option maxHeartbeats 4000000
def RowI (N:Nat) (G:Hp) (x:AV) (acc:List Int):Prop:=(x=.v (.slice none 0 0)∧acc=[])∨∃r,x=.row r acc.length∧r<N∧G r=some (.row 3 (flat iC acc))∧acc≠[]
theorem RowI.keep {N N':Nat} {G G':Hp} {x:AV} {acc:List Int} (h:RowI N G x acc) (hN:N≤N') (hg:∀i,i<N→G' i=G i):RowI N' G' x acc:=by
 rcases h with h | ⟨r,h1,h2,h3,h4⟩
 ·exact .inl h
 ·exact .inr ⟨r,h1,by omega,by rw[hg r h2];exact h3,h4⟩
def man0:Man:=⟨⟨#[]⟩,⟨0,0,0,⟨#[]⟩⟩,[],[]⟩
theorem ofF_nil (rules:List Ru) (b:Bool):ofF [] rules b=[]:=by
 unfold ofF;have:(namesOf (byM b ([]:List Dep)))=[]:=rfl;rw[this];have:sortN []=[]:=List.eq_nil_of_length_eq_zero (by rw[(sortN_perm _).length_eq];rfl);rw[this];rfl
theorem ofF_lenle {ds:List Dep} {rules:List Ru} {b:Bool} (h:ds.length≤1000000000):(ofF ds rules b).length≤1000000000:=by
 have h1:=byM_len b ds;unfold ofF;rw[List.length_map,(sortN_perm _).length_eq];simp only[namesOf,List.length_map];omega
set_option maxRecDepth 100000
set_option maxHeartbeats 4000000
def planC (root:Man) (L:List Man) (t:List Pl):List AV:=root.cells++[rowT Man.cells L,rowT Pl.cells t]
@[simp] theorem planC_len (root:Man) (L:List Man) (t:List Pl):(planC root L t).length=9:=rfl
@[simp] theorem plan_root (root:Man) (L:List Man) (t:List Pl):getC (planC root L t) 0 7=some root.cells:=rfl
@[simp] theorem plan_rules (root:Man) (L:List Man) (t:List Pl):getC (planC root L t) 6 1=some [rowT Ru.cells root.rules]:=rfl
@[simp] theorem plan_x (root:Man) (L:List Man) (t:List Pl):getC (planC root L t) 7 1=some [rowT Man.cells L]:=rfl
@[simp] theorem plan_t (root:Man) (L:List Man) (t:List Pl):getC (planC root L t) 8 1=some [rowT Pl.cells t]:=rfl
theorem leads_at {root:Man} {L:List Man} {t:List Pl} {n j:Nat} (hj:j<(edgesV root L t n).length):((edgesV root L t n).take (j+1)).map (toN t n)=((edgesV root L t n).take j).map (toN t n)++[toN t n (nth (edgesV root L t n) j)]:=by
 rw[List.take_add_one,List.getElem?_eq_getElem hj,←nth_eq hj,Option.toList_some,List.map_append];rfl
theorem edgesV_len {root:Man} {L:List Man} {t:List Pl} {n:Nat} (hr:Man.sz root) (hL:Idx.sz L):(edgesV root L t n).length≤1000000000:=by
 unfold edgesV;cases hm:manVal root L t n with
 | none=>simp
 | some m=>
  have hmz:Man.sz m:=by
   rcases manVal_mem hm with rfl | h
   ·exact hr
   ·exact hL.2 _ h
  exact ofF_lenle hmz.2.2.1.1
theorem leads105 {root:Man} {L:List Man} {t:List Pl} (hsz:ValSz root L t) (g:Good t) {n:Nat} (hn:n<t.length) {Z N0:Nat} {K:AV→Hp→Nat→Prop} (Inv:List Nat→Nat→Hp→Nat→Prop)
  (hlt:∀acc q G nx,Inv acc q G nx→q<nx)
  (hst:∀acc q G nx G' nx',Inv acc q G nx→nx≤nx'→(∀k,k<nx→G' k=G k)→Inv acc q G' nx')
  (hy:∀acc q k G nx (K':AV→Hp→Nat→Prop),k∈leadsN root L t n→Inv acc q G nx→(∀G' nx' q',nx≤nx'→Inv (acc++[k]) q' G' nx'→(q'=q∨nx≤q')→(∀j,N0≤j→j<nx→j≠q→G' j=G j)→K' (bV true) G' nx')→IsLp G Z∧YldK Tryz.prog Z [iV k] K' G nx)
  {G:Hp} {q:Nat} (h0:Inv [] q G N0) (hK:∀G' nx' q',N0≤nx'→Inv (leadsN root L t n) q' G' nx'→K (.tup []) G' nx'):InlK Tryz.prog 105 [.agg (planC root L t),iV n,.yl Z] K G N0:=by
 refine inlK mixed Tryz.call105 Tryz.func105 rfl (by rw[Tryz.ntmps105];simp) fun hf=> ?_;rw[Tryz.ntmps105];obtain⟨hrz,hro,hLz,hLo,ht,hv⟩:=id hsz;have hM:=manVal_ok root hro L hLz.1 hLo t ht n;have hmm:∀m,manVal root L t n=some m→Man.sz m∧Man.okS m:=fun m hm=>by
  rcases manVal_mem hm with rfl | h
  ·exact⟨hrz,hro⟩
  ·exact⟨hLz.2 _ h,hLo _ h⟩
 have hE:edgesV root L t n=match manVal root L t n with
  | none=>[]
  | some m=>ofF m.deps root.rules (decide ((n:Int)=0)):=rfl
 have hq:=hlt _ _ _ _ h0;have hl1:∀z∈(if 0<n then[(parN t n).toNat]else[]),z∈leadsN root L t n:=fun z hz=>List.mem_append.2 (.inl hz);(repeat with_reducible refine aA ?_);(first | with_reducible refine aR fun K' hK=> ?_ | with_reducible refine aS fun K' hK=> ?_);simp;(first | refine hK _ _ _ ?_ | done);clear K' hK;(repeat with_reducible refine aA ?_);with_reducible refine aw_un ?_
 refine aw_cut (fun s G' nx'=>s 1=iV n∧s 2=.yl Z∧s 3=.ptr N0 0∧N0<nx'∧G' N0=some (.var 122 (planC root L t))∧∃q',N0≠q'∧Inv (if 0<n then[(parN t n).toNat]else[]) q' G' nx') ?_ ?_
 ·rcases Nat.eq_zero_or_pos n with rfl | hpos
  ·(repeat with_reducible refine aA ?_);(first | with_reducible refine aR fun K' hK=> ?_ | with_reducible refine aS fun K' hK=> ?_);simp;(first | refine hK _ _ _ ?_ | done);clear K' hK;repeat with_reducible refine aA ?_
   (first | with_reducible refine aC fun A B hA hB=> ?_ | with_reducible refine aD fun A B hA hB=> ?_)
   simp;refine⟨fun hc=>hA ?_,fun hc=>hB ?_⟩<;>clear hA hB A B<;>(try (simp at hc;done))<;>(try (exfalso;simp at hc;omega))<;>clear hc<;>(try with_reducible refine aK ?_);with_reducible refine aw_end ?_
   exact⟨by simp,by simp,by simp,by omega,by simp,q,by omega,by simpa using hst _ _ _ _ _ _ h0 (by omega) (fun k hk=>by rw[Hp.upd_ne _ _ (by omega)])⟩
  ·have hpos2:(0:Int)<n:=(by omega);have hp0:=(g.par n hpos hn).1;have hpe:(nth t n).par=((parN t n).toNat:Int):=(by show parN t n=_;omega);have hni:(n:Int)<t.length:=(by omega);rw[if_pos hpos];rw[if_pos hpos]at hl1;(repeat with_reducible refine aA ?_);(first | with_reducible refine aR fun K' hK=> ?_ | with_reducible refine aS fun K' hK=> ?_);simp[hpos,hpos2,hn,hni];rw[hpe];refine hy [] q _ _ _ _ (hl1 _ (by simp)) (hst _ _ _ _ _ _ h0 (by omega) (fun k hk=>by rw[Hp.upd_ne _ _ (by omega)])) (fun G2 ny q2 hny hI hq2 hG=> ?_);have hGa:G2 N0=some (.var 122 (planC root L t)):=(by rw[hG N0 (by omega) (by omega) (by omega)];simp);simp;(first | refine hK _ _ _ ?_ | done);clear K' hK;repeat with_reducible refine aA ?_
   (first | with_reducible refine aC fun A B hA hB=> ?_ | with_reducible refine aD fun A B hA hB=> ?_)
   simp;refine⟨fun hc=>hA ?_,fun hc=>hB ?_⟩<;>clear hA hB A B<;>(try (simp at hc;done))<;>(try (exfalso;simp at hc;omega))<;>clear hc<;>(try with_reducible refine aK ?_);with_reducible refine aw_end ?_
   exact⟨by simp,by simp,by simp,by omega,hGa,q2,by rcases hq2 with h | h<;>omega,by simpa using hI⟩
 clear hf h0 hq;rintro s G1 n1 ⟨s1,s2,s3,hn1,ga,q1,hq1,hI1⟩;have hq1n:=hlt _ _ _ _ hI1;generalize hP:(if 0<n then[(parN t n).toNat]else[])=PL at*;have hLd:leadsN root L t n=PL++((edgesV root L t n).map (toN t n)).filterMap natZ:=(by unfold leadsN;rw[hP]);clear hP;have hEat:=fun j=>leads_at (root:=root) (L:=L) (t:=t) (n:=n) (j:=j);have hEl:=edgesV_len (root:=root) (L:=L) (t:=t) (n:=n) hrz hLz;generalize manVal root L t n=mv at*;cases mv with
 | none=>
  (repeat with_reducible refine aA ?_);(first | with_reducible refine aR fun K' hK=> ?_ | with_reducible refine aS fun K' hK=> ?_);simp[s1,s3,ga];refine acall_new hM (by first | rfl | (simp;done) | (simp;rfl) | (simp;exact⟨rfl,rfl⟩)) ?_;simp[manR,addJ_nil];(first | refine hK _ _ _ ?_ | done);clear K' hK;(repeat with_reducible refine aA ?_);(first | with_reducible refine aR fun K' hK=> ?_ | with_reducible refine aS fun K' hK=> ?_);simp;(first | refine hK _ _ _ ?_ | done);clear K' hK;repeat with_reducible refine aA ?_
  (first | with_reducible refine aC fun A B hA hB=> ?_ | with_reducible refine aD fun A B hA hB=> ?_)
  simp;refine⟨fun hc=>hA ?_,fun hc=>hB ?_⟩<;>clear hA hB A B<;>(try (simp at hc;done))<;>(try (exfalso;simp at hc;omega))<;>clear hc<;>(try with_reducible refine aK ?_);have hE:edgesV root L t n=[]:=hE;rw[hE]at hLd;(repeat with_reducible refine aA ?_);(first | with_reducible refine aw_ret ?_ | with_reducible refine aw_retL ?_ | with_reducible refine aw_skipL ?_);simp[blockK,loopK,Post,resA,res1,expT,expA,exp1,expM,expL,okT,okA,ok1,rowOf,Tryz.f105];refine hK _ _ q1 (by omega) ?_;rw[hLd];simp only[List.map_nil,List.filterMap_nil,List.append_nil];exact hst _ _ _ _ _ _ hI1 (by omega) (fun k hk=>by rw[Hp.upd_ne _ _ (show¬k=n1 by omega),Hp.upd_ne _ _ (show¬k=n1 by omega)])
 | some m=>
  obtain⟨mz,mo⟩:=hmm m rfl;have hE:edgesV root L t n=ofF m.deps root.rules (decide ((n:Int)=0)):=hE;have hdec:decide ((n:Int)=0)=decide (n=0):=(by simp);rw[hdec]at hE;(repeat with_reducible refine aA ?_);(first | with_reducible refine aR fun K' hK=> ?_ | with_reducible refine aS fun K' hK=> ?_);simp[s1,s3,ga];refine acall_new hM (by first | rfl | (simp;done) | (simp;rfl) | (simp;exact⟨rfl,rfl⟩)) ?_;simp[manR,addJ_two];(first | refine hK _ _ _ ?_ | done);clear K' hK;(repeat with_reducible refine aA ?_);(first | with_reducible refine aR fun K' hK=> ?_ | with_reducible refine aS fun K' hK=> ?_);simp;(first | refine hK _ _ _ ?_ | done);clear K' hK;repeat with_reducible refine aA ?_
  (first | with_reducible refine aC fun A B hA hB=> ?_ | with_reducible refine aD fun A B hA hB=> ?_)
  simp;refine⟨fun hc=>hA ?_,fun hc=>hB ?_⟩<;>clear hA hB A B<;>(try (simp at hc;done))<;>(try (exfalso;simp at hc;omega))<;>clear hc<;>(try with_reducible refine aK ?_);have a0:¬N0=n1:=(by omega);have a1:¬N0=n1+1:=(by omega);have a2:¬N0=n1+2:=(by omega);refine aw_gen (fun u H nz=>u 1=iV n∧u 2=.yl Z∧u 3=.ptr N0 0∧u 6=.ptr (n1+2) 0∧nz=n1+3∧(∀k,k<n1→H k=G1 k)∧H n1=some (.row 35 (flat Dep.cells m.deps))∧H (n1+1)=some (.row 96 (flat Ru.cells m.rules))∧H (n1+2)=some (.var 27 (m.cellsR (.row n1 m.deps.length) (.row (n1+1) m.rules.length)))) ?_ ?_
  ·exact⟨by simp[s1],by simp[s2],by simp[s3],by simp[Nat.add_comm],by omega,fun k hk=>by repeat rw[Hp.upd_ne _ _ (by omega)],by simp,by simp,by simp[Nat.add_comm 1 n1]⟩
  clear s1 s2 s3;rintro u H nz ⟨u1,u2,u3,u6,rfl,hH,k1,k2,k3⟩;have hT:=manR_trees (show¬n1+1=n1 by omega) k1 k2;have h0:H N0=some (.var 122 (planC root L t)):=(by rw[hH N0 (by omega)];exact ga);(repeat with_reducible refine aA ?_);(first | with_reducible refine aR fun K' hK=> ?_ | with_reducible refine aS fun K' hK=> ?_);simp[u1,u3,u6,k3,h0];refine acall_new (of10_ok m root.rules (decide ((n:Int)=0)) mo.1 hro.2) (by simp[hT]) ?_;simp[addJ_one,hT];(first | refine hK _ _ _ ?_ | done);clear K' hK;rw[←hE];generalize edgesV root L t n=E at*;have a3:¬N0=n1+3:=(by omega);have hI2:Inv PL q1 ((frzOf (frzOf H (.row n1 m.deps.length)) (.row (n1+1) m.rules.length)).upd (n1+3) (.row 35 (flat Dep.cells E))) (n1+3+1):=hst _ _ _ _ _ _ hI1 (by omega) (fun k hk=>by rw[Hp.upd_ne _ _ (by omega),frzOf_ne (by omega),frzOf_ne (by omega),hH k hk]);(repeat with_reducible refine aA ?_);(first | with_reducible refine aw_block ?_ | with_reducible refine aw_toS (aw_block ?_));refine aw_loop (fun s G nx=>s 1=iV n∧s 2=.yl Z∧s 3=.ptr N0 0∧G N0=some (.var 122 (planC root L t))∧s 43=.row (n1+3) E.length∧s 44=iV E.length∧G (n1+3)=some (.row 35 (flat Dep.cells E))∧n1+3<nx∧∃(j q':Nat),s 45=iV j∧j≤E.length∧N0≠q'∧n1+3≠q'∧Inv (PL++((E.take j).map (toN t n)).filterMap natZ) q' G nx) (fun s _ _=>match s 45 with | .v (.int _ n)=>E.length-n.toNat | _=>0) ?_ ?_
  ·exact⟨by simp[u1],by simp[u2],by simp[u3],by simp[a0,a1,a3,h0],by simp,by simp,by simp,by omega,0,q1,by simp,by omega,by omega,by omega,by simpa using hI2⟩
  clear u1 u2 u3 u6 hH k1 k2 k3 hT h0 hI1 hI2 ga;rintro s G nx-⟨s1,s2,s3,ga,s43,s44,gE,hnx,j,q2,s45,hj,hq2,hq3,hI⟩;have hw:IntKind.i64.wrap (↑j+1)=((j+1:Nat):Int):=wrapS (by omega);have hq2n:=hlt _ _ _ _ hI;(repeat with_reducible refine aA ?_);(first | with_reducible refine aR fun K' hK=> ?_ | with_reducible refine aS fun K' hK=> ?_);simp[s44,s45];(first | refine hK _ _ _ ?_ | done);clear K' hK;(repeat with_reducible refine aA ?_);(first | with_reducible refine aC fun A B hA hB=> ?_ | with_reducible refine aD fun A B hA hB=> ?_);simp;refine⟨fun hj2=>hA ?_,fun hj2=>hB ?_⟩<;>clear hA hB A B<;>(try simp at hj2)<;>(try with_reducible refine aK ?_)
  ·have hstep:=hEat j hj2;have b1:¬N0=nx:=(by omega);have b2:¬n1+3=nx:=(by omega);have hto:=to28_ok t ht n (nth E j);have htl:∀k:Nat,toN t n (nth E j)=k→k∈leadsN root L t n:=fun k hk=>by
    rw[hLd];exact List.mem_append.2 (.inr (List.mem_filterMap.2 ⟨_,List.mem_map.2 ⟨_,nth_mem hj2,rfl⟩,by rw[hk];simp[natZ]⟩))
   generalize hz:toN t n (nth E j)=z at*;(repeat with_reducible refine aA ?_);(first | with_reducible refine aw_block ?_ | with_reducible refine aw_toS (aw_block ?_));(repeat with_reducible refine aA ?_);(first | with_reducible refine aR fun K' hK=> ?_ | with_reducible refine aS fun K' hK=> ?_);simp[s43,s45,gE,hj2];(first | refine hK _ _ _ ?_ | done);clear K' hK;(repeat with_reducible refine aA ?_);(first | with_reducible refine aR fun K' hK=> ?_ | with_reducible refine aS fun K' hK=> ?_);simp[s1,s3,ga,b1];refine acall_flat hto rfl (by first | rfl | (simp;done) | (simp;rfl) | (simp;exact⟨rfl,rfl⟩)) ?_;simp;(first | refine hK _ _ _ ?_ | done);clear K' hK;by_cases hz0:0≤z
   ·obtain⟨k,rfl⟩:∃k:Nat,z=k:=⟨z.toNat,by omega⟩;have hz2:(0:Int)≤k:=(by omega);(repeat with_reducible refine aA ?_);(first | with_reducible refine aR fun K' hK=> ?_ | with_reducible refine aS fun K' hK=> ?_);simp[s2,hz2];refine hy _ q2 _ _ _ _ (htl k rfl) (hst _ _ _ _ _ _ hI (by omega) (fun i hi=>by rw[Hp.upd_ne _ _ (show¬i=nx by omega),Hp.upd_ne _ _ (show¬i=nx by omega)])) (fun G2 ny q3 hny hI3 hq3e hG=> ?_);have hGa:G2 N0=some (.var 122 (planC root L t)):=(by rw[hG N0 (by omega) (by omega) (by omega),Hp.upd_ne _ _ b1,Hp.upd_ne _ _ b1];exact ga);have hGe:G2 (n1+3)=some (.row 35 (flat Dep.cells E)):=(by rw[hG (n1+3) (by omega) (by omega) (by omega),Hp.upd_ne _ _ b2,Hp.upd_ne _ _ b2];exact gE);simp;(first | refine hK _ _ _ ?_ | done);clear K' hK;repeat with_reducible refine aA ?_
    (first | with_reducible refine aC fun A B hA hB=> ?_ | with_reducible refine aD fun A B hA hB=> ?_)
    simp;refine⟨fun hc=>hA ?_,fun hc=>hB ?_⟩<;>clear hA hB A B<;>(try (simp at hc;done))<;>(try (exfalso;simp at hc;omega))<;>clear hc<;>(try with_reducible refine aK ?_);(first | with_reducible refine aw_skipL ?_ | skip);refine blockK_normal ?_;(repeat with_reducible refine aA ?_);(first | with_reducible refine aR fun K' hK=> ?_ | with_reducible refine aS fun K' hK=> ?_);simp[s45,hw];(first | refine hK _ _ _ ?_ | done);clear K' hK;refine aw_skipL (loopK_normal ?_ ?_)
    ·exact⟨by simp[s1],by simp[s2],by simp[s3],hGa,by simp[s43],by simp[s44],hGe,by omega,j+1,q3,by simp[hw],by omega,by rcases hq3e with h | h<;>omega,by rcases hq3e with h | h<;>omega,by
      rw[hstep,List.filterMap_append,←List.append_assoc];simpa [natZ]using hI3⟩
    ·simp[s45,hw];omega
   ·have hz2:¬(0:Int)≤z:=hz0;(repeat with_reducible refine aA ?_);(first | with_reducible refine aR fun K' hK=> ?_ | with_reducible refine aS fun K' hK=> ?_);simp[s2,hz2];(first | refine hK _ _ _ ?_ | done);clear K' hK;repeat with_reducible refine aA ?_
    (first | with_reducible refine aC fun A B hA hB=> ?_ | with_reducible refine aD fun A B hA hB=> ?_)
    simp;refine⟨fun hc=>hA ?_,fun hc=>hB ?_⟩<;>clear hA hB A B<;>(try (simp at hc;done))<;>(try (exfalso;simp at hc;omega))<;>clear hc<;>(try with_reducible refine aK ?_);(first | with_reducible refine aw_skipL ?_ | skip);refine blockK_normal ?_;(repeat with_reducible refine aA ?_);(first | with_reducible refine aR fun K' hK=> ?_ | with_reducible refine aS fun K' hK=> ?_);simp[s45,hw];(first | refine hK _ _ _ ?_ | done);clear K' hK;refine aw_skipL (loopK_normal ?_ ?_)
    ·exact⟨by simp[s1],by simp[s2],by simp[s3],by simp[b1,ga],by simp[s43],by simp[s44],by simp[b2,gE],by omega,j+1,q2,by simp[hw],by omega,by omega,by omega,by
      rw[hstep,List.filterMap_append];have e:[z].filterMap natZ=[]:=(by simp[natZ,hz0]);rw[e,List.append_nil];exact hst _ _ _ _ _ _ hI (by omega) (fun i hi=>by rw[Hp.upd_ne _ _ (show¬i=nx by omega),Hp.upd_ne _ _ (show¬i=nx by omega)])⟩
    ·simp[s45,hw];omega
  ·(repeat with_reducible refine aA ?_);(first | with_reducible refine aw_exit ?_ | with_reducible refine aw_exitL ?_);refine loopK_exit (blockK_exit ?_);have hjE:j=E.length:=(by omega);subst hjE;rw[List.take_length,←hLd]at hI;(repeat with_reducible refine aA ?_);(first | with_reducible refine aw_ret ?_ | with_reducible refine aw_retL ?_ | with_reducible refine aw_skipL ?_);simp[blockK,loopK,Post,resA,res1,expT,expA,exp1,expM,expL,okT,okA,ok1,rowOf,Tryz.f105];exact hK _ _ q2 (by omega) hI
set_option maxRecDepth 100000
set_option maxHeartbeats 4000000
def RowM (N:Nat) (G:Hp) (x:AV) (acc:List Man):Prop:=∃r,x=.row r acc.length∧r<N∧G r=some (.row 27 (flat Man.cells acc))
theorem RowM.keep {N N':Nat} {G G':Hp} {x:AV} {acc:List Man} (h:RowM N G x acc) (hN:N≤N') (hg:∀i,i<N→G' i=G i):RowM N' G' x acc:=by
 obtain⟨r,h1,h2,h3⟩:=h;exact⟨r,h1,by omega,by rw[hg r h2];exact h3⟩
def RowJ (N:Nat) (G:Hp) (x:AV) (acc:List Int):Prop:=(x=.v (.slice none 0 0)∧acc=[])∨∃r,x=.row r acc.length∧r<N∧G r=some (.row 3 (flat iC acc))
theorem RowJ.keep {N N':Nat} {G G':Hp} {x:AV} {acc:List Int} (h:RowJ N G x acc) (hN:N≤N') (hg:∀i,i<N→G i=some (.row 3 (flat iC acc))→G' i=G i):RowJ N' G' x acc:=by
 rcases h with h | ⟨r,h1,h2,h3⟩
 ·exact .inl h
 ·exact .inr ⟨r,h1,by omega,by rw[hg r h2 h3];exact h3⟩
def wrongO (root:Man) (L:List Man) (t:List Pl):List Int:=if codeV root L t=0 then wrongL root L t else[]
theorem wrongR_form (root:Man) (L:List Man) (t:List Pl):(wrongO root L t=[]∧wrongR root L t=(.tup [.v (.slice none 0 0),iV (codeV root L t)],[]))∨wrongR root L t=(.tup [.row 0 (wrongO root L t).length,iV (codeV root L t)],[(3,flat iC (wrongO root L t))]):=by
 unfold wrongR wrongO;by_cases h:codeV root L t=0
 ·rw[if_pos h,if_pos h];by_cases w:wrongL root L t=[]
  ·rw[if_pos w,h];exact .inl ⟨w,rfl⟩
  ·rw[if_neg w,h];exact .inr rfl
 ·rw[if_neg h,if_neg h];exact .inr rfl
set_option maxRecDepth 100000
set_option maxHeartbeats 4000000
@[simp] theorem ty120:tyI Tryz.prog 120=some (false,1):=by kernel_rfl
def bC (b:Bool):List AV:=[bV b]
instance:Wid bC 1:=⟨fun _=>rfl,by decide⟩
@[simp] theorem bC_eq (b:Bool):bC b=[bV b]:=rfl
theorem made_bC (n:Nat):madeA [.bool false] (n*1)=flat bC (List.replicate n false):=by
 have h:∀n:Nat,flat bC (List.replicate n false)=List.replicate n (bV false):=fun n=>by
  induction n with
  | zero=>rfl
  | succ n ih=>rw[List.replicate_succ,List.replicate_succ,←ih];rfl
 rw[h];simp[madeA,madeCells,Nat.mod_one,Function.comp_def,List.map_const,List.map_const']
@[simp] theorem evCut_own (P:Program) (G:Hp) (t:TypeId) (id n:Nat) (hi:Nat→Option Nat):evCut P G t (.row id n) hi=match G id,elI P t,hi n with
  | some (.row e' cs),some (e,k,_,_),some h=>if e'=e∧h≤n∧cs.length=n*k then some (.row id h,G.upd id (.row e' (cs.take (h*k))))else none
  | _,_,_=>none:=rfl
def intsN (w:List Nat):List Int:=w.map fun(k:Nat)=>(k:Int)
@[simp] theorem intsN_len (w:List Nat):(intsN w).length=w.length:=by simp[intsN]
theorem intsN_snoc (w:List Nat) (k:Nat):intsN (w++[k])=intsN w++[(k:Int)]:=by simp[intsN]
def waitN (G:Hp):AV→Nat
 | .ptr p _=>match G p with
  | some (.var _ (.row _ n::_))=>n
  | _=>0
 | _=>0
def isOff:AV→Bool
 | .v (.bool false)=>true
 | _=>false
def offC (G:Hp) (ob:Nat):Nat:=match G ob with
 | some (.row _ cs)=>cs.countP isOff
 | _=>0
theorem off_flat (on:List Bool):(flat bC on).countP isOff=offN on:=by
 induction on with
 | nil=>rfl
 | cons b l ih=>
  have h:flat bC (b::l)=bV b::flat bC l:=rfl;rw[h,List.countP_cons,ih];unfold offN;rw[List.countP_cons];cases b<;>rfl
theorem off_rep (n:Nat):offN (List.replicate n false)=n:=by
 induction n with
 | zero=>rfl
 | succ n ih=>
  unfold offN at*;rw[List.replicate_succ,List.countP_cons,ih];rfl
def InvR (root:Man) (L:List Man) (t:List Pl) (Lq:Lp) (n0 p Z n M:Nat) (acc:List Nat) (q:Nat) (G:Hp) (nx:Nat):Prop:=∃(on:List Bool) (w:List Nat),G p=some (.var 49 [.row q w.length])∧G q=some (.row 3 (flat iC (intsN w)))∧G n0=some (.row 4 (flat bC on))∧G (n0+1)=some (.var 123 [.row n0 t.length])∧G Z=some (Lq.o .ready none)∧n0+1<q∧p≠q∧Z≠q∧q<nx∧Z<nx∧Rnd root L t n M acc on w
noncomputable def reachR (root:Man) (L:List Man) (t:List Pl):AV×Js:=(.tup [.row 0 (reachL root L t).length,iV (codeV root L t)],[(3,flat iC (reachL root L t))])
theorem reached49_ok (root:Man) (L:List Man) (t:List Pl) (h:ValSz root L t):CallsOK Tryz.prog 49 [.agg root.cells,rowT Man.cells L,rowT Pl.cells t] (reachR root L t).1 (reachR root L t).2:=by
 have hsz:=h;obtain⟨hrz,hro,hLz,hLo,ht,hv⟩:=h;have htl:=ht.1;refine callsOK mixed Tryz.call49 Tryz.func49 rfl (by rw[Tryz.ntmps49];simp) ?_ rfl;rw[Tryz.ntmps49];have hW:=wrong35_ok root L t hsz;have hfm:=wrongR_form root L t;(repeat with_reducible refine aA ?_);(first | with_reducible refine aR fun K' hK=> ?_ | with_reducible refine aS fun K' hK=> ?_);simp;(first | refine hK _ _ _ ?_ | done);clear K' hK;(repeat with_reducible refine aA ?_);first | refine aw_cut (fun s G nx=>s 1=rowT Man.cells L∧s 2=rowT Pl.cells t∧s 3=.ptr 0 0∧G 0=some (.var 27 root.cells)∧s 9=iV (codeV root L t)∧0<nx) ?_ ?_ | refine aw_toS (aw_cut (fun s G nx=>s 1=rowT Man.cells L∧s 2=rowT Pl.cells t∧s 3=.ptr 0 0∧G 0=some (.var 27 root.cells)∧s 9=iV (codeV root L t)∧0<nx) ?_ ?_)
 ·rcases hfm with⟨hw0,hfm⟩ | hfm
  ·rw[hfm]at hW;(repeat with_reducible refine aA ?_);(first | with_reducible refine aR fun K' hK=> ?_ | with_reducible refine aS fun K' hK=> ?_);simp;refine acall_new hW (by first | rfl | (simp;done) | (simp;rfl) | (simp;exact⟨rfl,rfl⟩)) ?_;simp[addJ_nil];(first | refine hK _ _ _ ?_ | done);clear K' hK;with_reducible refine aw_end ?_
   exact⟨by simp,by simp,by simp,by simp,by simp,by omega⟩
  ·rw[hfm]at hW;(repeat with_reducible refine aA ?_);(first | with_reducible refine aR fun K' hK=> ?_ | with_reducible refine aS fun K' hK=> ?_);simp;refine acall_new hW (by first | rfl | (simp;done) | (simp;rfl) | (simp;exact⟨rfl,rfl⟩)) ?_;simp[addJ_one];(first | refine hK _ _ _ ?_ | done);clear K' hK;with_reducible refine aw_end ?_
   exact⟨by simp,by simp,by simp,by simp,by simp,by omega⟩
 clear hW hfm;rintro s G n0 ⟨s1,s2,s3,g0,s9,hn0⟩;by_cases hc:codeV root L t=0
 ·have g:Good t:=check_iff.1 (codeV_zero.1 hc).2.2;have hpos:=g.pos;have hpos2:(0:Int)<t.length:=(by omega);have hR:reachL root L t=intsN (keptQ (rchB root L t) t.length):=(by unfold reachL;rw[if_pos hc];rfl);unfold reachR;rw[hR,hc];rw[hc]at s9;(repeat with_reducible refine aA ?_);(first | with_reducible refine aR fun K' hK=> ?_ | with_reducible refine aS fun K' hK=> ?_);simp[s9];(first | refine hK _ _ _ ?_ | done);clear K' hK;repeat with_reducible refine aA ?_
  (first | with_reducible refine aC fun A B hA hB=> ?_ | with_reducible refine aD fun A B hA hB=> ?_)
  simp;refine⟨fun hc=>hA ?_,fun hc=>hB ?_⟩<;>clear hA hB A B<;>(try (simp at hc;done))<;>(try (exfalso;simp at hc;omega))<;>clear hc<;>(try with_reducible refine aK ?_);(repeat with_reducible refine aA ?_);(first | with_reducible refine aR fun K' hK=> ?_ | with_reducible refine aS fun K' hK=> ?_);simp[s1,s2,s3,g0];(first | refine hK _ _ _ ?_ | done);clear K' hK;have hmk:∀(X:Hp) (m:Nat),evMake Tryz.prog X m 123 (iV t.length) (iV t.length)=some (.row m t.length,X.upd m (.row 4 (flat bC (List.replicate t.length false))),m+1):=fun X m=>by
   simp only[evMake,el123];rw[if_pos ⟨trivial,by omega,by omega,by omega⟩,Int.toNat_natCast,made_bC]
  (repeat with_reducible refine aA ?_);(first | with_reducible refine aR fun K' hK=> ?_ | with_reducible refine aS fun K' hK=> ?_);simp[s2,hmk];(first | refine hK _ _ _ ?_ | done);clear K' hK;have hp0:putO (flat bC (List.replicate t.length false)) 1 0 0 [bV true]=flat bC ((List.replicate t.length false).set 0 true):=putO_flat (by simpa using hpos) true;have hl0:0<(List.replicate t.length false).length:=(by simpa using hpos);(repeat with_reducible refine aA ?_);(first | with_reducible refine aR fun K' hK=> ?_ | with_reducible refine aS fun K' hK=> ?_);simp[hpos,hpos2,hp0,hl0];(first | refine hK _ _ _ ?_ | done);clear K' hK;(repeat with_reducible refine aA ?_);(first | with_reducible refine aR fun K' hK=> ?_ | with_reducible refine aS fun K' hK=> ?_);simp;(first | refine hK _ _ _ ?_ | done);clear K' hK;have m1:¬n0=n0+1+1:=(by omega);have m2:¬n0=n0+1+1+1:=(by omega);refine aw_gen (fun u H nz=>u 2=rowT Pl.cells t∧u 10=.mt 105 [.agg (planC root L t)]∧u 11=.ptr (n0+1) 0∧H (n0+1)=some (.var 123 [.row n0 t.length])∧n0+1<nz∧∃(on:List Bool) (w:List Nat) (p q:Nat),u 12=.ptr p 0∧H p=some (.var 49 [.row q w.length])∧H q=some (.row 3 (flat iC (intsN w)))∧H n0=some (.row 4 (flat bC on))∧n0+1<p∧n0+1<q∧p≠q∧p<nz∧q<nz∧Dfs root L t on w∧w.length+2*offN on≤2*t.length+1) ?_ ?_
  ·refine⟨by simp[s2],by simp;rfl,by simp,by simp,by omega,(List.replicate t.length false).set 0 true,[0],n0+3,n0+2,by simp,by simp,by simp[intsN];rfl,by simp[m1,m2],by omega,by omega,by omega,by omega,by omega,dfs_start g,?_⟩;have:=off_set (on:=List.replicate t.length false) (k:=0) (by simpa using hpos) (by simp[nth,hpos]);rw[off_rep]at this;simp;omega
  clear s1 s2 s3 g0 s9 hn0 hmk hp0 hl0 s G;rintro s G nx ⟨s2,s10,s11,ga,hnx,on,w,p,q,s12,gp,gq,gb,hp1,hq1,hpq,hpx,hqx,hD,hm⟩;(repeat with_reducible refine aA ?_);(first | with_reducible refine aw_block ?_ | with_reducible refine aw_toS (aw_block ?_));refine aw_loop (fun u H nz=>u 2=rowT Pl.cells t∧u 10=.mt 105 [.agg (planC root L t)]∧u 11=.ptr (n0+1) 0∧H (n0+1)=some (.var 123 [.row n0 t.length])∧n0+1<nz∧∃(on:List Bool) (w:List Nat) (p q:Nat),u 12=.ptr p 0∧H p=some (.var 49 [.row q w.length])∧H q=some (.row 3 (flat iC (intsN w)))∧H n0=some (.row 4 (flat bC on))∧n0+1<p∧n0+1<q∧p≠q∧p<nz∧q<nz∧Dfs root L t on w∧w.length+2*offN on≤2*t.length+1) (fun s G _=>waitN G (s 12)+2*offC G n0) ?_ ?_
  ·exact⟨s2,s10,s11,ga,hnx,on,w,p,q,s12,gp,gq,gb,hp1,hq1,hpq,hpx,hqx,hD,hm⟩
  ·clear s2 s10 s11 ga hnx s12 gp gq gb hp1 hq1 hpq hpx hqx hD hm on w p q;rintro s G nx-⟨s2,s10,s11,ga,hnx,on,w,p,q,s12,gp,gq,gb,hp1,hq1,hpq,hpx,hqx,hD,hm⟩;have hmsr:waitN G (s 12)+2*offC G n0=w.length+2*offN on:=(by rw[s12];simp only[waitN,gp,offC,gb,off_flat]);rw[hmsr];clear hmsr;rcases List.eq_nil_or_concat w with rfl | ⟨w0,n,rfl⟩
   ·(repeat with_reducible refine aA ?_);(first | with_reducible refine aR fun K' hK=> ?_ | with_reducible refine aS fun K' hK=> ?_);simp[s12,gp,gq,List.length_nil];(first | refine hK _ _ _ ?_ | done);clear K' hK;repeat with_reducible refine aA ?_
    (first | with_reducible refine aC fun A B hA hB=> ?_ | with_reducible refine aD fun A B hA hB=> ?_)
    simp;refine⟨fun hc=>hA ?_,fun hc=>hB ?_⟩<;>clear hA hB A B<;>(try (simp at hc;done))<;>(try (exfalso;simp at hc;omega))<;>clear hc<;>(try with_reducible refine aK ?_);(repeat with_reducible refine aA ?_);(first | with_reducible refine aw_exit ?_ | with_reducible refine aw_exitL ?_);refine loopK_exit (blockK_exit ?_);have hon:=dfs_end g hD;have hol:on.length=t.length:=hD.len;have hni:∀i,i<t.length→nth on i=rchB root L t i:=fun i hi=>(by rw[hon,nth_eq (by simpa using hi)];simp);clear hD hm gp gq hp1 hq1 hpq hpx hqx s12 hon;have m0:¬n0=nx:=(by omega);have ma:¬n0+1=nx:=(by omega);(repeat with_reducible refine aA ?_);(first | with_reducible refine aR fun K' hK=> ?_ | with_reducible refine aS fun K' hK=> ?_);simp;(first | refine hK _ _ _ ?_ | done);clear K' hK;(repeat with_reducible refine aA ?_);(first | with_reducible refine aR fun K' hK=> ?_ | with_reducible refine aS fun K' hK=> ?_);simp[s11,ga,gb,ma,m0];(first | refine hK _ _ _ ?_ | done);clear K' hK;(repeat with_reducible refine aA ?_);(first | with_reducible refine aw_block ?_ | with_reducible refine aw_toS (aw_block ?_));refine aw_loop (fun u H nz=>u 70=.row n0 t.length∧u 71=iV t.length∧H n0=some (.row 4 (flat bC on))∧∃(i q:Nat),u 72=iV i∧i≤t.length∧u 15=.row q (intsN (keptQ (rchB root L t) i)).length∧H q=some (.row 3 (flat iC (intsN (keptQ (rchB root L t) i))))∧n0≠q) (fun s _ _=>match s 72 with | .v (.int _ n)=>t.length-n.toNat | _=>0) ?_ ?_
    ·exact⟨by simp,by simp[hol],by simp[m0,gb],0,nx,by simp,by omega,by simp[intsN,keptQ],by simp[intsN,keptQ],by omega⟩
    ·clear s2 s10 s11 ga gb hnx m0 ma;rintro s G nx hf ⟨s70,s71,gb,i,q,s72,hi,s15,gq,hqb⟩;have hw:IntKind.i64.wrap (↑i+1)=((i+1:Nat):Int):=wrapS (by omega);have hbx:n0<nx:=fresh_lt hf gb;have hqx:q<nx:=fresh_lt hf gq;(repeat with_reducible refine aA ?_);(first | with_reducible refine aR fun K' hK=> ?_ | with_reducible refine aS fun K' hK=> ?_);simp[s71,s72];(first | refine hK _ _ _ ?_ | done);clear K' hK;(repeat with_reducible refine aA ?_);(first | with_reducible refine aC fun A B hA hB=> ?_ | with_reducible refine aD fun A B hA hB=> ?_);simp;refine⟨fun hi2=>hA ?_,fun hi2=>hB ?_⟩<;>clear hA hB A B<;>(try simp at hi2)<;>(try with_reducible refine aK ?_)
     ·have hi3:i<on.length:=(by omega);have hi4:(i:Int)<on.length:=(by omega);have hsn:=kq_succ (q:=rchB root L t) (k:=i);have hr:=hni i hi2;have hkl:(intsN (keptQ (rchB root L t) i)).length≤i:=(by rw[intsN_len];exact rq_le);generalize keptQ (rchB root L t) i=acc at*;generalize rchB root L t i=r at*;(repeat with_reducible refine aA ?_);(first | with_reducible refine aw_block ?_ | with_reducible refine aw_toS (aw_block ?_));(repeat with_reducible refine aA ?_);(first | with_reducible refine aR fun K' hK=> ?_ | with_reducible refine aS fun K' hK=> ?_);simp[s70,s72,gb,hi3,hi4,hr,hi2];(first | refine hK _ _ _ ?_ | done);clear K' hK;(repeat with_reducible refine aA ?_);(first | with_reducible refine aR fun K' hK=> ?_ | with_reducible refine aS fun K' hK=> ?_);simp;(first | refine hK _ _ _ ?_ | done);clear K' hK;cases r with
      | false=>
       repeat with_reducible refine aA ?_
       (first | with_reducible refine aC fun A B hA hB=> ?_ | with_reducible refine aD fun A B hA hB=> ?_)
       simp;refine⟨fun hc=>hA ?_,fun hc=>hB ?_⟩<;>clear hA hB A B<;>(try (simp at hc;done))<;>(try (exfalso;simp at hc;omega))<;>clear hc<;>(try with_reducible refine aK ?_);(first | with_reducible refine aw_skipL ?_ | skip);refine blockK_normal ?_;(repeat with_reducible refine aA ?_);(first | with_reducible refine aR fun K' hK=> ?_ | with_reducible refine aS fun K' hK=> ?_);simp[s72,hw];(first | refine hK _ _ _ ?_ | done);clear K' hK;refine aw_skipL (loopK_normal ?_ ?_)
       ·exact⟨by simp[s70],by simp[s71],by simp[gb],i+1,q,by simp[hw],by omega,by simp[s15,hsn],by simp[gq,hsn],by omega⟩
       ·simp[s72,hw];omega
      | true=>
       rw[intsN_len]at hkl;have b1:acc.length≤9223372036854775806:=(by omega);have b2:(acc.length+1)*8≤140737488355328:=(by omega);have n1:¬q=nx:=(by omega);have n2:¬nx=q:=(by omega);have n3:¬n0=nx:=(by omega);have n4:¬n0=nx+1:=(by omega);have hsn2:intsN (keptQ (rchB root L t) (i+1))=intsN acc++[(i:Int)]:=(by rw[hsn,if_pos rfl,intsN_snoc]);repeat with_reducible refine aA ?_
       (first | with_reducible refine aC fun A B hA hB=> ?_ | with_reducible refine aD fun A B hA hB=> ?_)
       simp;refine⟨fun hc=>hA ?_,fun hc=>hB ?_⟩<;>clear hA hB A B<;>(try (simp at hc;done))<;>(try (exfalso;simp at hc;omega))<;>clear hc<;>(try with_reducible refine aK ?_);(repeat with_reducible refine aA ?_);(first | with_reducible refine aR fun K' hK=> ?_ | with_reducible refine aS fun K' hK=> ?_);simp[s15,gq,b1,b2,n1,n2,treeOf_row,srcOf_row];(first | refine hK _ _ _ ?_ | done);clear K' hK;(first | with_reducible refine aw_skipL ?_ | skip);refine blockK_normal ?_;(repeat with_reducible refine aA ?_);(first | with_reducible refine aR fun K' hK=> ?_ | with_reducible refine aS fun K' hK=> ?_);simp[s72,hw];(first | refine hK _ _ _ ?_ | done);clear K' hK;refine aw_skipL (loopK_normal ?_ ?_)
       ·exact⟨by simp[s70],by simp[s71],by simp[gb,n3,n4,hqb],i+1,nx+1,by simp[hw],by omega,by simp[hsn2],by simp[hsn2,←flat_snoc];rfl,by omega⟩
       ·simp[s72,hw];omega
     ·(repeat with_reducible refine aA ?_);(first | with_reducible refine aw_exit ?_ | with_reducible refine aw_exitL ?_);refine loopK_exit (blockK_exit ?_);have hie:i=t.length:=(by omega);subst hie;(repeat with_reducible refine aA ?_);(first | with_reducible refine aR fun K' hK=> ?_ | with_reducible refine aS fun K' hK=> ?_);simp[s15];(first | refine hK _ _ _ ?_ | done);clear K' hK;(repeat with_reducible refine aA ?_);(first | with_reducible refine aw_ret ?_ | with_reducible refine aw_retL ?_ | with_reducible refine aw_skipL ?_);simp[blockK,loopK,Post,resA,res1,expT,expA,exp1,expM,expL,okT,okA,ok1,rowOf,Tryz.f49,gq]
   ·rw[List.concat_eq_append]at*;have hwl:(w0++[n]).length=w0.length+1:=(by simp);rw[hwl]at gp hm⊢;have hRn:Rch root L t n:=hD.sub n (hD.win n (by simp));have hn:=rch_lt g hRn;have hil:(intsN (w0++[n])).length=w0.length+1:=(by simp[intsN]);have hi1:w0.length<(intsN (w0++[n])).length:=(by omega);have hi2:(w0.length:Int)<w0.length+1:=(by omega);have hgn:nth (intsN (w0++[n])) w0.length=n:=by
     rw[intsN_snoc];have:=nth_app_eq (l:=intsN w0) (a:=(n:Int)) (m:=[])
     rwa [intsN_len]at this
    have hcut:(flat iC (intsN (w0++[n]))).take w0.length=flat iC (intsN w0):=by
     have h1:flat iC (intsN (w0++[n]))=flat iC (intsN w0)++flat iC [(n:Int)]:=(by rw[intsN_snoc,flat_app]);have h2:w0.length=(flat iC (intsN w0)).length:=(by rw[flat_len (w:=1)];simp);rw[h1,h2,List.take_left]
    have hof:w0.length≤9000000000:=(by omega);have hw1:IntKind.i64.wrap (w0.length:Int)=w0.length:=wrap64 (by omega) (by omega);(repeat with_reducible refine aA ?_);(first | with_reducible refine aR fun K' hK=> ?_ | with_reducible refine aS fun K' hK=> ?_);simp[s12,gp,gq];(first | refine hK _ _ _ ?_ | done);clear K' hK;repeat with_reducible refine aA ?_
    (first | with_reducible refine aC fun A B hA hB=> ?_ | with_reducible refine aD fun A B hA hB=> ?_)
    simp;refine⟨fun hc=>hA ?_,fun hc=>hB ?_⟩<;>clear hA hB A B<;>(try (simp at hc;done))<;>(try (exfalso;simp at hc;omega))<;>clear hc<;>(try with_reducible refine aK ?_);(repeat with_reducible refine aA ?_);(first | with_reducible refine aw_block ?_ | with_reducible refine aw_toS (aw_block ?_));(repeat with_reducible refine aA ?_);(first | with_reducible refine aR fun K' hK=> ?_ | with_reducible refine aS fun K' hK=> ?_);simp[s12,gp,gq,hil,hi1,hi2,hgn,hw1];(first | refine hK _ _ _ ?_ | done);clear K' hK;have hqp:¬q=p:=(by omega);have hx1:¬n0=p:=(by omega);have hx2:¬n0=q:=(by omega);have hx3:¬n0+1=p:=(by omega);have hx4:¬n0+1=q:=(by omega);have hqp2:¬p=q:=(by omega);have hp6:¬p=nx:=(by omega);have hp7:¬p=nx+1:=(by omega);have hq6:¬q=nx:=(by omega);have hq7:¬q=nx+1:=(by omega);(repeat with_reducible refine aA ?_);(first | with_reducible refine aR fun K' hK=> ?_ | with_reducible refine aS fun K' hK=> ?_);simp[s12,gp,gq,hil,hi1,hi2,hgn,hw1,hcut,bnd_some,hqp,hqp2];(first | refine hK _ _ _ ?_ | done);clear K' hK;(repeat with_reducible refine aA ?_);(first | with_reducible refine aR fun K' hK=> ?_ | with_reducible refine aS fun K' hK=> ?_);simp[s10];refine acall_inlK (inlK mixed Tryz.call106 Tryz.func106 rfl (by rw[Tryz.ntmps106];simp) fun hf=> ?_);rw[Tryz.ntmps106];(repeat with_reducible refine aA ?_);(first | with_reducible refine aR fun K' hK=> ?_ | with_reducible refine aS fun K' hK=> ?_);simp;(first | refine hK _ _ _ ?_ | done);clear K' hK;(repeat with_reducible refine aA ?_);(first | with_reducible refine aR fun K' hK=> ?_ | with_reducible refine aS fun K' hK=> ?_);simp;(first | refine hK _ _ _ ?_ | done);clear K' hK;(repeat with_reducible refine aA ?_);(first | with_reducible refine aw_ret ?_ | with_reducible refine aw_retL ?_ | with_reducible refine aw_skipL ?_);simp[blockK,loopK,Post,resA,res1,expT,expA,exp1,expM,expL,okT,okA,ok1,rowOf,Tryz.f106];(first | refine hK _ _ _ ?_ | done);clear K' hK;refine aw_gen (fun u H nz=>u 2=rowT Pl.cells t∧u 10=.mt 105 [.agg (planC root L t)]∧u 11=.ptr (n0+1) 0∧u 12=.ptr p 0∧u 55=.fn 161 [.ptr (nx+1) 0,.ptr nx 0]∧nz=nx+2∧H nx=some (.var 3 [iV n])∧H (nx+1)=some (.var 120 [.mt 105 [.agg (planC root L t)]])∧H p=some (.var 49 [.row q w0.length])∧H q=some (.row 3 (flat iC (intsN w0)))∧H n0=some (.row 4 (flat bC on))∧H (n0+1)=some (.var 123 [.row n0 t.length])) ?_ ?_
    ·have k1:¬n0=nx:=(by omega);have k2:¬n0=nx+1:=(by omega);have k3:¬n0+1=nx:=(by omega);have k4:¬n0+1=nx+1:=(by omega);have k5:¬n0=nx+1+1:=(by omega);have k6:¬nx+1=nx:=(by omega);have k7:¬nx=nx+1:=(by omega);exact⟨by simp[s2],by simp[s10],by simp[s11],by simp[s12],by simp,by simp,by simp[k7],by simp[s10],by simp[hqp,hqp2,hp6,hp7],by simp[hqp,hqp2,hq6,hq7],by simp[hx1,hx2,k1,k2,gb],by simp[hx3,hx4,k3,ga,show¬n0=nx by omega]⟩
    have hR0:=rnd_start hD;clear s2 s10 s11 s12 gp gq gb ga hgn hcut hi1 hi2 hil hw1 hD;rintro u H nz ⟨s2,s10,s11,s12,s55,rfl,gn,gm,gp,gq,gb,ga⟩;generalize hZ:nx+2=Z at*;generalize hM:w0.length+2*offN on=M at*;(repeat with_reducible refine aA ?_);(first | with_reducible refine aw_block ?_ | with_reducible refine aw_toS (aw_block ?_));refine aw_range (f:=161) (fn:=Tryz.f161) mixed s55 Tryz.call161 Tryz.func161 rfl (by rw[Tryz.ntmps161];simp) rfl ?_;rw[Tryz.ntmps161];generalize hL:(Lp.mk u 84 _ _ _)=Lq;have hLs:Lq.s=u:=(by subst hL;rfl);clear hp6 hp7 hq6 hq7 hqp hqp2 hx1 hx2 hx3 hx4 hwl;have hMb:M≤2*t.length:=(by omega);have hround:∀(acc:List Nat) (q2 k:Nat) (G3:Hp) (ny:Nat) (K':AV→Hp→Nat→Prop),k∈leadsN root L t n→InvR root L t Lq n0 p Z n M acc q2 G3 ny→(∀G' nx' q',ny≤nx'→InvR root L t Lq n0 p Z n M (acc++[k]) q' G' nx'→(q'=q2∨ny≤q')→(∀j,Z+1≤j→j<ny→j≠q2→G' j=G3 j)→K' (bV true) G' nx')→IsLp G3 Z∧YldK Tryz.prog Z [iV k] K' G3 ny:=by
     subst hL;clear hf gn gm gp gq gb ga hR0 hpq hqx hq1 hm hM q on;rintro acc q k G3 ny K' hk ⟨on,w,gp,gq,gb,ga,gZ,hq1,hpq,hZq,hqn,hZn,hR⟩ k1;refine⟨⟨_,_,_,_,_,_,_,gZ⟩,?_⟩;have hkr:=lead_rch g hRn hk;have hkl:=rch_lt g hkr;have hol:on.length=t.length:=hR.len;have hko:k<on.length:=(by omega);have hki:(k:Int)<t.length:=(by omega);refine yldK mixed gZ rfl (by simp) rfl rfl fun hf=> ?_;(repeat with_reducible refine aA ?_);(first | with_reducible refine aR fun K' hK=> ?_ | with_reducible refine aS fun K' hK=> ?_);simp;(first | refine hK _ _ _ ?_ | done);clear K' hK;refine⟨rfl,gZ,?_⟩;dsimp only;generalize (Lp.mk u 84 _ _ _)=Lq at gZ k1⊢;(repeat with_reducible refine aA ?_);(first | with_reducible refine aw_block ?_ | with_reducible refine aw_toS (aw_block ?_));have z1:¬n0+1=Z:=(by omega);have z2:¬n0=Z:=(by omega);have z3:¬p=Z:=(by omega);have z4:¬q=Z:=(by omega);cases hb:nth on k with
     | true=>
      (repeat with_reducible refine aA ?_);(first | with_reducible refine aR fun K' hK=> ?_ | with_reducible refine aS fun K' hK=> ?_);simp[s11,ga,gb,z1,z2,hki,hko,hb];(first | refine hK _ _ _ ?_ | done);clear K' hK;repeat with_reducible refine aA ?_
      (first | with_reducible refine aC fun A B hA hB=> ?_ | with_reducible refine aD fun A B hA hB=> ?_)
      simp;refine⟨fun hc=>hA ?_,fun hc=>hB ?_⟩<;>clear hA hB A B<;>(try (simp at hc;done))<;>(try (exfalso;simp at hc;omega))<;>clear hc<;>(try with_reducible refine aK ?_);(first | with_reducible refine aw_skipL ?_ | skip);refine blockK_normal ?_;refine aw_skipL ?_;refine roundK_normal (by simp) ?_;refine k1 _ _ q (Nat.le_refl _) ⟨on,w,by simp[z3,gp],by simp[z4,gq],by simp[z2,gb],by simp[z1,ga],by simp,hq1,hpq,hZq,hqn,hZn,rnd_skip hR hb⟩ (.inl rfl) (fun j h1 h2 h3=>by rw[Hp.upd_ne _ _ (by omega),Hp.upd_ne _ _ (by omega)])
     | false=>
      have hR2:=rnd_put hR hb hkl hkr;have hof2:=hR2.msr;have hM2:=hR.msr;have hwb:w.length≤M:=(by omega);have b1:w.length≤9223372036854775806:=(by omega);have b2:(w.length+1)*8≤140737488355328:=(by omega);have hput:putO (flat bC on) 1 k 0 [bV true]=flat bC (on.set k true):=putO_flat hko true;have q1:¬q=ny:=(by omega);have q2:¬q=p:=(by omega);have q3:¬n0=p:=(by omega);have q4:¬n0=q:=(by omega);have q5:¬n0=ny:=(by omega);have q6:¬n0=ny+1:=(by omega);have q7:¬n0+1=p:=(by omega);have q8:¬n0+1=q:=(by omega);have q9:¬n0+1=ny:=(by omega);have q10:¬p=n0:=(by omega);have q11:¬q=n0:=(by omega);have q12:¬p=ny:=(by omega);have q13:¬p=ny+1:=(by omega);have q14:¬Z=ny:=(by omega);have q15:¬Z=ny+1:=(by omega);have q16:¬Z=p:=(by omega);have q17:¬Z=n0:=(by omega);have q18:¬Z=q:=(by omega);have q19:¬ny=p:=(by omega);have q20:¬ny=q:=(by omega);have q21:¬ny+1=p:=(by omega);have q22:¬ny+1=Z:=(by omega);have hsn:flat iC (intsN w)++[iV k]=flat iC (intsN (w++[k])):=(by rw[intsN_snoc,←flat_snoc];rfl);(repeat with_reducible refine aA ?_);(first | with_reducible refine aR fun K' hK=> ?_ | with_reducible refine aS fun K' hK=> ?_);simp[s11,ga,gb,z1,z2,hki,hko,hb];(first | refine hK _ _ _ ?_ | done);clear K' hK;repeat with_reducible refine aA ?_
      (first | with_reducible refine aC fun A B hA hB=> ?_ | with_reducible refine aD fun A B hA hB=> ?_)
      simp;refine⟨fun hc=>hA ?_,fun hc=>hB ?_⟩<;>clear hA hB A B<;>(try (simp at hc;done))<;>(try (exfalso;simp at hc;omega))<;>clear hc<;>(try with_reducible refine aK ?_);(repeat with_reducible refine aA ?_);(first | with_reducible refine aR fun K' hK=> ?_ | with_reducible refine aS fun K' hK=> ?_);simp[s11,ga,gb,z1,z2,hki,hko,hput];(first | refine hK _ _ _ ?_ | done);clear K' hK;(repeat with_reducible refine aA ?_);(first | with_reducible refine aR fun K' hK=> ?_ | with_reducible refine aS fun K' hK=> ?_);simp[s12,gp,gq,z3,z4,q1,q2,q13,hpq,q10,q11,q12,b1,b2,treeOf_row,srcOf_row];(first | refine hK _ _ _ ?_ | done);clear K' hK;(first | with_reducible refine aw_skipL ?_ | skip);refine blockK_normal ?_;refine aw_skipL ?_;refine roundK_normal (by simp[q14,q15,q16,q17,q18]) ?_;refine k1 _ _ (ny+1) (by omega) ⟨on.set k true,w++[k],by simp[z3],by simp[q21,q22,hsn],by simp[z2,q3,q4,q5,q6],by simp[z1,q7,q8,q9,ga,show¬n0=ny by omega],by simp,by omega,by omega,by omega,by omega,by omega,hR2⟩ (.inr (by omega)) (fun j h1 h2 h3=>by repeat rw[Hp.upd_ne _ _ (by omega)])
    have gnn:¬nx=Z:=(by omega);have gmm:¬nx+1=Z:=(by omega);have gpp:¬p=Z:=(by omega);have gqq:¬q=Z:=(by omega);have gaa:¬n0+1=Z:=(by omega);have gbb:¬n0=Z:=(by omega);(repeat with_reducible refine aA ?_);(first | with_reducible refine aR fun K' hK=> ?_ | with_reducible refine aS fun K' hK=> ?_);simp[gn,gm,gnn,gmm];refine acall_inlK (leads105 hsz g hn (Z:=Z) (InvR root L t Lq n0 p Z n M) ?_ ?_ hround (q:=q) ?_ ?_)
    ·rintro acc q2 G2 n2 ⟨on2,w2,e1,e2,e3,e4,e5,e6,e7,e8,e9,e10,e11⟩;exact e9
    ·rintro acc q2 G2 n2 G3 n3 ⟨on2,w2,e1,e2,e3,e4,e5,e6,e7,e8,e9,e10,e11⟩ hn3 hG;exact⟨on2,w2,by rw[hG p (by omega)];exact e1,by rw[hG q2 e9];exact e2,by rw[hG n0 (by omega)];exact e3,by rw[hG (n0+1) (by omega)];exact e4,by rw[hG Z e10];exact e5,e6,e7,e8,by omega,by omega,e11⟩
    ·exact⟨on,w0,by simp[gpp,gp],by simp[gqq,gq],by simp[gbb,gb],by simp[gaa,ga],by simp,hq1,hpq,by omega,by omega,by omega,hR0⟩
    ·rintro G' ny q' hny ⟨on2,w2,e1,e2,e3,e4,e5,e6,e7,e8,e9,e10,e11⟩;have hMe:=e11.msr;refine hK _ _ _ ?_;clear K' hK hround;refine rangeK_on (.inl rfl) e5 ?_;rw[hLs];refine blockK_normal ?_;refine aw_skipL ?_;refine blockK_normal ?_;have f1:¬p=ny:=(by omega);have f2:¬q'=ny:=(by omega);have f3:¬n0=ny:=(by omega);have f4:¬n0+1=ny:=(by omega);have f5:¬p=Z:=(by omega);have f6:¬q'=Z:=(by omega);have f7:¬n0=Z:=(by omega);have f8:¬n0+1=Z:=(by omega);(repeat with_reducible refine aA ?_);(first | with_reducible refine aR fun K' hK=> ?_ | with_reducible refine aS fun K' hK=> ?_);simp[s12,e1,f5];(first | refine hK _ _ _ ?_ | done);clear K' hK;(repeat with_reducible refine aA ?_);(first | with_reducible refine aR fun K' hK=> ?_ | with_reducible refine aS fun K' hK=> ?_);simp;(first | refine hK _ _ _ ?_ | done);clear K' hK;refine aw_skipL (loopK_normal ?_ ?_)
     ·exact⟨by simp[s2],by simp[s10],by simp[s11],by simp[f3,f4,f8,e4],by omega,on2,w2,ny,q',by simp,by simp,by simp[f2,f6,e2],by simp[f3,f7,e3],by omega,by omega,by omega,by omega,by omega,rnd_end e11,by omega⟩
     ·simp only[waitN,offC];simp[f3,f7,e3,off_flat];omega
 ·have hR:reachL root L t=[]:=(by unfold reachL;rw[if_neg hc]);unfold reachR;rw[hR];(repeat with_reducible refine aA ?_);(first | with_reducible refine aR fun K' hK=> ?_ | with_reducible refine aS fun K' hK=> ?_);simp[s9,hc];(first | refine hK _ _ _ ?_ | done);clear K' hK;repeat with_reducible refine aA ?_
  (first | with_reducible refine aC fun A B hA hB=> ?_ | with_reducible refine aD fun A B hA hB=> ?_)
  simp;refine⟨fun hc=>hA ?_,fun hc=>hB ?_⟩<;>clear hA hB A B<;>(try (simp at hc;done))<;>(try (exfalso;simp at hc;omega))<;>clear hc<;>(try with_reducible refine aK ?_);(repeat with_reducible refine aA ?_);(first | with_reducible refine aR fun K' hK=> ?_ | with_reducible refine aS fun K' hK=> ?_);simp[s9];(first | refine hK _ _ _ ?_ | done);clear K' hK;(repeat with_reducible refine aA ?_);(first | with_reducible refine aw_ret ?_ | with_reducible refine aw_retL ?_ | with_reducible refine aw_skipL ?_);simp[blockK,loopK,Post,resA,res1,expT,expA,exp1,expM,expL,okT,okA,ok1,rowOf,Tryz.f49]
set_option maxRecDepth 100000
set_option maxHeartbeats 4000000
def RowG {α:Type} (c:α→List AV) (e:TypeId) (N:Nat) (G:Hp) (x:AV) (acc:List α):Prop:=(x=.v (.slice none 0 0)∧acc=[])∨∃r,x=.row r acc.length∧N≤r∧G r=some (.row e (flat c acc))
theorem CallsOK.nilRow {P:Program} [Gl P] {f:FuncId} {xs:List AV} (e:TypeId) (h:CallsOK P f xs (.agg [.v (.slice none 0 0)]) []):CallsOK P f xs (.agg [.row 0 0]) [(e,[])]:=by
 refine⟨rfl,h.2.1,fun w us F hF hΓ hx=>(h.2.2 w us F hF hΓ hx).mono fun en w' hh=> ?_⟩;obtain⟨u,E',rfl,hv,hR,hEF,hb,hge⟩:=hh;have hφ:∀i,E'.φ i=none:=fun i=>by
  cases h:E'.φ i with
  | none=>rfl
  | some b=>obtain⟨o,ho,_⟩:=hR.dom i b h;simp[ofJ]at ho
 have h0:∀ {i:Nat} {o:AObj},ofJ [(e,[])] i=some o↔i=0∧o=.row e []:=ofJ1;obtain⟨vs,rfl,hl,hvs,h1⟩:=hv.agg_inv;obtain⟨y,rfl⟩:∃y,vs=[y]:=by
  cases vs with
  | nil=>simp at hl
  | cons y ys=>cases ys with
   | nil=>exact⟨y,rfl⟩
   | cons _ _=>simp at hl
 obtain⟨rfl,_⟩:=(hvs 0 _ _ rfl rfl).v_inv;refine⟨_,{E' with K:=fun i=>i=0,N:=fun i=>i=0},rfl,.agg rfl (fun i c x hc hx=> ?_) h1,⟨fun i j b hi=>by rw[show E'.φ i=_ from hi]at*;have:=hφ i;simp_all,fun i b hi=>by have:=hφ i;simp_all,fun i b hi=>by have:=hφ i;simp_all,fun i o ho ha=> ?_,fun i=> ?_,fun b=> ?_,fun i b hi=>by have:=hφ i;simp_all,hR.Flt,hR.good⟩,hEF,hb,fun i b hi=>by have:=hφ i;simp_all⟩
 ·cases i with
  | zero=>
   simp only[List.getElem?_cons_zero,Option.some.injEq]at hc hx;subst hc;subst hx;exact .row rfl rfl (fun b hb=>by have:=hφ 0;simp_all) (fun _=>⟨rfl,rfl⟩)
  | succ i=>simp at hc
 ·obtain⟨rfl,rfl⟩:=h0.1 ho;exact .inr ⟨rfl,e,rfl⟩
 ·constructor
  ·intro h;exact⟨_,h0.2 ⟨h,rfl⟩⟩
  ·rintro⟨o,ho⟩;exact(h0.1 ho).1
 ·constructor
  ·intro h;obtain⟨i,o,h1,_⟩:=(hR.W b).1 h;have:=hφ i;simp_all
  ·rintro⟨i,o,h1,_⟩;have:=hφ i;simp_all
theorem own86_nil:CallsOK Tryz.prog 86 [.agg (Rg.cells [])] (.agg [.v (.slice none 0 0)]) []:=by
 refine callsOK mixed Tryz.call86 Tryz.func86 rfl (by rw[Tryz.ntmps86];simp) ?_ rfl;rw[Tryz.ntmps86];with_reducible refine aR fun K' hK=> ?_
 simp[Rg.cells];refine hK _ _ _ ?_;clear K' hK;with_reducible refine aR fun K' hK=> ?_
 simp;refine hK _ _ _ ?_;clear K' hK;with_reducible refine aA ?_;refine aR fun K' hK=> ?_
 simp;refine hK _ _ _ ?_;clear K' hK;with_reducible refine aw_block ?_
 refine aw_loop (fun s G nx=>s 1=.ptr 0 0∧s 2=.ptr 1 0∧s 3=.ptr 2 0∧G 0=some (.var 33 [rowT Alt.cells []])∧G 1=some (.var 33 [.v (.slice none 0 0)])∧G 2=some (.var 33 [.v (.slice none 0 0)])∧s 4=iV 0) (fun s _ _=>0) ?_ ?_
 ·exact⟨by simp,by simp,by simp,by simp,by simp,by simp,by simp⟩
 ·rintro s G nx hf ⟨s1,s2,s3,g0,g1,g2,s4⟩;with_reducible refine aA ?_;refine aR fun K' hK=> ?_
  simp[s1,s4,g0];refine hK _ _ _ ?_;clear K' hK;with_reducible refine aY (by simp) ?_;refine aw_exit ?_
  refine loopK_exit (blockK_exit ?_);with_reducible refine aR fun K' hK=> ?_
  simp[s2,s3,g1,g2];refine hK _ _ _ ?_;clear K' hK;with_reducible refine aw_retL ?_
  simp[blockK,loopK,Post,resA,res1,expT,expA,exp1,expM,expL,okT,okA,ok1,rowOf,Tryz.f86,s2]
theorem own86_cons (r:Rg) (hne:r≠[]) (hr:r.length<1000000000000∧∀l∈r,l.length<1000000000000):CallsOK Tryz.prog 86 [.agg r.cells] (.agg [.row 0 r.length]) [(83,flat Alt.cells r)]:=by
 refine callsOK mixed Tryz.call86 Tryz.func86 rfl (by rw[Tryz.ntmps86];simp) ?_ rfl;rw[Tryz.ntmps86];have hl:=hr.1;with_reducible refine aR fun K' hK=> ?_
 simp[Rg.cells];refine hK _ _ _ ?_;clear K' hK;with_reducible refine aR fun K' hK=> ?_
 simp;refine hK _ _ _ ?_;clear K' hK;with_reducible refine aA ?_;refine aR fun K' hK=> ?_
 simp;refine hK _ _ _ ?_;clear K' hK;with_reducible refine aw_block ?_
 refine aw_loop (fun s G nx=>3≤nx∧s 1=.ptr 0 0∧s 2=.ptr 1 0∧s 3=.ptr 2 0∧G 0=some (.var 33 [rowT Alt.cells r])∧G 1=some (.var 33 [.v (.slice none 0 0)])∧∃(i:Nat) (x:AV),s 4=iV i∧i≤r.length∧G 2=some (.var 33 [x])∧RowG Alt.cells 83 3 G x (r.take i)) (fun s _ _=>match s 4 with | .v (.int _ n)=>r.length-n.toNat | _=>0) ?_ ?_
 ·exact⟨by omega,by simp,by simp,by simp,by simp,by simp,0,_,by simp,by omega,by simp,.inl ⟨rfl,by simp⟩⟩
 ·rintro s G nx hf ⟨hnx,s1,s2,s3,g0,g1,i,x,s4,hi,g2,hx⟩;have o4:=s4;have hw:IntKind.i64.wrap (↑i+1)=((i+1:Nat):Int):=wrapS (by omega);with_reducible refine aA ?_;refine aR fun K' hK=> ?_
  simp[s1,s4,g0];refine hK _ _ _ ?_;clear K' hK;with_reducible refine aC fun A B hA hB=> ?_
  simp;refine⟨fun hi2=>hA ?_,fun hi2=>hB ?_⟩<;>clear hA hB A B<;>(try simp at hi2)<;>(try with_reducible refine aK ?_)
  ·have hA:=hr.2 _ (nth_mem hi2);have hst:r.take (i+1)=r.take i++[nth r i]:=(by rw[List.take_add_one,List.getElem?_eq_getElem hi2,←nth_eq hi2];rfl);have htl:(r.take i).length=i:=(by rw[List.length_take];omega);generalize hgl:nth r i=l at*;have b1:l.length≤9223372036854775807:=(by omega);have b2:l.length*48≤140737488355328:=(by omega);have b3:i+1≤9223372036854775807:=(by omega);have b4:(i+1)*24≤140737488355328:=(by omega);have hfl:(flat Bd.cells l).length=l.length*5:=flat_len;with_reducible refine aw_block ?_;refine aR fun K' hK=> ?_
   simp;refine hK _ _ _ ?_;clear K' hK;have n0:¬0=nx:=(by omega);have n1:¬1=nx:=(by omega);have n2:¬2=nx:=(by omega);with_reducible refine aR fun K' hK=> ?_
   simp[s1,s4,g0,n0,hi2,hgl,b1,b2,hfl,treeOf_row,srcOf_row];refine hK _ _ _ ?_;clear K' hK;have c87:Tryz.prog.cellsOf 87=5:=(by kernel_rfl);refine aw_gen (fun u H ny=>u 1=.ptr 0 0∧u 2=.ptr 1 0∧u 3=.ptr 2 0∧u 4=iV i∧u 5=.row (nx+1) l.length∧ny=nx+2∧(∀k,k<nx→H k=G k)∧H (nx+1)=some (.row 87 (flat Bd.cells l))) ?_ ?_
   ·exact⟨by simp[s1],by simp[s2],by simp[s3],by simp[s4],by simp,by omega,fun k hk=>by repeat rw[Hp.upd_ne _ _ (by omega)],by simp⟩
   rintro u H ny ⟨u1,u2,u3,u4,u5,rfl,hH,hr5⟩;have h0:H 0=some (.var 33 [rowT Alt.cells r]):=(by rw[hH 0 (by omega)];exact g0);have h1:H 1=some (.var 33 [.v (.slice none 0 0)]):=(by rw[hH 1 (by omega)];exact g1);have h2:H 2=some (.var 33 [x]):=(by rw[hH 2 (by omega)];exact g2);have hT:treeOf Tryz.prog H (.row (nx+1) l.length)=some (rowT Bd.cells l):=treeOf_of hr5 c87 rfl;have m0:¬0=nx+1:=(by omega);have z0:¬nx=0:=(by omega);have z1:¬nx=1:=(by omega);have w1:(frzOf H (.row (nx+1) l.length)) 1=H 1:=frzOf_ne (by omega);have w0:(frzOf H (.row (nx+1) l.length)) 0=H 0:=frzOf_ne (by omega);have m1:¬1=nx+1:=(by omega);have m2:¬2=nx+1:=(by omega);have m3:¬2=nx+2:=(by omega);have m4:¬0=nx+2:=(by omega);have m5:¬1=nx+2:=(by omega);have m6:¬2=nx+2+1:=(by omega);have m7:¬0=nx+2+1:=(by omega);have m8:¬1=nx+2+1:=(by omega);rcases hx with⟨rfl,hnil⟩ | ⟨q,rfl,hq,hG⟩
   ·rw[hnil]at htl hst;have hi0:i=0:=(by simpa using htl.symm);with_reducible refine aS fun K' hK=> ?_
    simp[u3,u5,h2,hT,m2,m3,z0,z1,b3,b4,treeOf_row,srcOf_row];refine hK _ _ _ ?_;clear K' hK;with_reducible refine aw_skipL ?_
    refine blockK_normal ?_;with_reducible refine aS fun K' hK=> ?_
    simp[u4,hw];refine hK _ _ _ ?_;clear K' hK;refine aw_skipL (loopK_normal ?_ ?_)
    ·exact⟨by omega,by simp[u1],by simp[u2],by simp[u3],by simp[m0,m4,m7,h0,w0],by simp[m1,m5,m8,h1,w1],i+1,.row (nx+2+1) 1,by simp[hw],by omega,by simp[m6],.inr ⟨nx+2+1,by rw[hst];rfl,by omega,by rw[hst];simp;rfl⟩⟩
    ·simp[o4,hw,u4];omega
   ·have hqn:q<nx:=fresh_lt hf hG;have hHq:H q=some (.row 83 (flat Alt.cells (r.take i))):=(by rw[hH q hqn];exact hG);have k1:¬q=nx+1:=(by omega);have k2:¬q=nx+2:=(by omega);have k3:¬nx+2=q:=(by omega);have k4:¬q=2:=(by omega);have k5:¬2=q:=(by omega);have k6:¬0=q:=(by omega);have k7:¬1=q:=(by omega);have htl':min i r.length=i:=(by omega);with_reducible refine aS fun K' hK=> ?_
    simp[htl',u3,u5,h2,hT,m2,m3,z0,z1,b3,b4,k1,k2,k3,k4,k5,hHq,treeOf_row,srcOf_row];refine hK _ _ _ ?_;clear K' hK;with_reducible refine aw_skipL ?_
    refine blockK_normal ?_;with_reducible refine aS fun K' hK=> ?_
    simp[u4,hw];refine hK _ _ _ ?_;clear K' hK;refine aw_skipL (loopK_normal ?_ ?_)
    ·exact⟨by omega,by simp[u1],by simp[u2],by simp[u3],by simp[m0,m4,m7,h0,k6,w0],by simp[m1,m5,m8,h1,k7,w1],i+1,.row (nx+2+1) (i+1),by simp[hw],by omega,by simp[m6],.inr ⟨nx+2+1,by rw[hst,List.length_append,htl];rfl,by omega,by rw[hst,←flat_snoc];simp;rfl⟩⟩
    ·simp[o4,hw,u4];omega
  ·skip;with_reducible refine aw_exit ?_
   refine loopK_exit (blockK_exit ?_);rw[List.take_of_length_le (by omega)]at hx;rcases hx with⟨rfl,rfl⟩ | ⟨q,rfl,hq,hG⟩
   ·exact absurd rfl hne
   ·have k1:¬q=1:=(by omega);with_reducible refine aR fun K' hK=> ?_
    simp[s2,s3,g1,g2];refine hK _ _ _ ?_;clear K' hK;with_reducible refine aw_retL ?_
    simp[blockK,loopK,Post,resA,res1,expT,expA,exp1,expM,expL,okT,okA,ok1,rowOf,Tryz.f86,k1,hG,s2]
theorem own86_ok (r:Rg) (hr:r.length<1000000000000∧∀l∈r,l.length<1000000000000):CallsOK Tryz.prog 86 [.agg r.cells] (.agg [.row 0 r.length]) [(83,flat Alt.cells r)]:=by
 by_cases h:r=[]
 ·subst h;exact own86_nil.nilRow 83
 ·exact own86_cons r h hr
set_option maxRecDepth 100000
set_option maxHeartbeats 4000000
theorem own34_ok (m:Man) (hm:Man.okS m):CallsOK Tryz.prog 34 [.agg m.cells] (.agg (m.cellsR (.row 0 m.deps.length) (.row 1 m.rules.length))) [(35,flat Dep.cells m.deps),(96,flat Ru.cells m.rules)]:=by
 refine callsOK mixed Tryz.call34 Tryz.func34 rfl (by rw[Tryz.ntmps34];simp) ?_ rfl;rw[Tryz.ntmps34];obtain⟨⟨hdl,hdd⟩,hrl,hrr⟩:=hm;have c83:Tryz.prog.cellsOf 83=1:=(by kernel_rfl);with_reducible refine aR fun K' hK=> ?_
 simp;refine hK _ _ _ ?_;clear K' hK;with_reducible refine aR fun K' hK=> ?_
 simp;refine hK _ _ _ ?_;clear K' hK;with_reducible refine aA ?_;refine aw_un ?_
 refine aw_cut (fun s G nx=>2≤nx∧s 1=.ptr 0 0∧s 2=.ptr 1 0∧G 0=some (.var 27 m.cells)∧G 1=some (.var 27 manN)∧∃q,s 3=.row q m.deps.length∧2≤q∧q<nx∧G q=some (.row 35 (flat Dep.cells m.deps))) ?_ ?_
 ·skip;with_reducible refine aR fun K' hK=> ?_
  simp;refine hK _ _ _ ?_;clear K' hK;with_reducible refine aw_toS (aw_block ?_)
  refine aw_loop (fun s G nx=>s 1=.ptr 0 0∧s 2=.ptr 1 0∧G 0=some (.var 27 m.cells)∧G 1=some (.var 27 manN)∧∃i q:Nat,s 4=iV i∧i≤m.deps.length∧s 3=.row q i∧2≤q∧G q=some (.row 35 (flat Dep.cells (m.deps.take i)))) (fun s _ _=>match s 4 with | .v (.int _ n)=>m.deps.length-n.toNat | _=>0) ?_ ?_
  ·exact⟨by simp,by simp,by simp,by simp,0,2,by simp,by omega,by simp,by omega,by simp⟩
  ·rintro s G nx hf ⟨s1,s2,g0,g1,i,q,s4,hi,s3,hq,hG⟩;have o4:=s4;have hw:IntKind.i64.wrap (↑i+1)=((i+1:Nat):Int):=wrapS (by omega);with_reducible refine aA ?_;refine aR fun K' hK=> ?_
   simp[s1,s4,g0];refine hK _ _ _ ?_;clear K' hK;with_reducible refine aC fun A B hA hB=> ?_
   simp;refine⟨fun hi2=>hA ?_,fun hi2=>hB ?_⟩<;>clear hA hB A B<;>(try simp at hi2)<;>(try with_reducible refine aK ?_)
   ·have hst:m.deps.take (i+1)=m.deps.take i++[nth m.deps i]:=(by rw[List.take_add_one,List.getElem?_eq_getElem hi2,←nth_eq hi2];rfl);have hdr:=(hdd _ (nth_mem hi2)).2;have hqn:q<nx:=fresh_lt hf hG;have htl:min i m.deps.length=i:=(by omega);have b1:i+1≤9223372036854775807:=(by omega);have b2:(i+1)*48≤140737488355328:=(by omega);generalize hgd:nth m.deps i=d at*;have hT:∀H:Hp,H nx=some (.row 83 (flat Alt.cells d.range))→treeOf Tryz.prog H (.row nx d.range.length)=some (rowT Alt.cells d.range):=fun H h=>treeOf_of h c83 rfl;have hT1:=hT (G.upd nx (.row 83 (flat Alt.cells d.range))) (by simp);have n0:¬0=nx:=(by omega);have n1:¬1=nx:=(by omega);have n2:¬q=nx:=(by omega);have n3:¬q=nx+1:=(by omega);have n4:¬nx+1=q:=(by omega);have n5:¬0=nx+1:=(by omega);have n6:¬1=nx+1:=(by omega);have n7:¬0=nx+1+1:=(by omega);have n8:¬1=nx+1+1:=(by omega);have n9:¬0=q:=(by omega);have na:¬1=q:=(by omega);with_reducible refine aw_block ?_;refine aT fun K' hK=> ?_
    simp[s1,s3,s4,g0,hi2,hgd];refine acall_new (own86_ok d.range ⟨by omega,fun l hl=>by have:=hdr.2 l hl;omega⟩) (by first | rfl | (simp[Rg.cells];done) | (simp[Rg.cells];rfl) | (simp[Rg.cells];exact⟨rfl,rfl⟩)) ?_;simp[addJ_one,Rg.cells,hT1,n2,n3,n4,hG,htl,b1,b2,treeOf_row,srcOf_row];have w0:frzOf (G.upd nx (.row 83 (flat Alt.cells d.range))) (.row nx d.range.length) 0=G 0:=(by rw[frzOf_ne (by omega),Hp.upd_ne _ _ (by omega)]);have w1:frzOf (G.upd nx (.row 83 (flat Alt.cells d.range))) (.row nx d.range.length) 1=G 1:=(by rw[frzOf_ne (by omega),Hp.upd_ne _ _ (by omega)]);refine hK _ _ _ ?_;clear K' hK;with_reducible refine aw_skipL ?_
    refine blockK_normal ?_;with_reducible refine aS fun K' hK=> ?_
    simp[s4,hw];refine hK _ _ _ ?_;clear K' hK;refine aw_skipL (loopK_normal ?_ ?_)
    ·exact⟨by simp[s1],by simp[s2],by simp[n5,n7,n9,w0,g0],by simp[show¬nx=0 by omega,n8,na,w1,g1],i+1,nx+1+1,by simp[hw],by omega,by simp,by omega,by rw[hst,←flat_snoc];simp;rfl⟩
    ·simp[o4,s4,hw];omega
   ·skip;with_reducible refine aw_exit ?_
    refine loopK_exit (blockK_exit ?_);have hie:i=m.deps.length:=(by omega);subst hie;rw[List.take_length]at hG;have hqn:q<nx:=fresh_lt hf hG;with_reducible refine aw_end ?_
    exact⟨by omega,by simp[s1],by simp[s2],by simp[g0],by simp[g1],q,by simp[s3],hq,hqn,hG⟩
 ·rintro s G nx ⟨hnx,s1,s2,g0,g1,q3,s3,hq3,hqn3,hG3⟩;with_reducible refine aR fun K' hK=> ?_
  simp;refine hK _ _ _ ?_;clear K' hK;with_reducible refine aA ?_;refine aw_un ?_
  refine aw_cut (fun s' G' nx'=>s' 1=.ptr 0 0∧s' 2=.ptr 1 0∧G' 0=some (.var 27 m.cells)∧G' 1=some (.var 27 manN)∧s' 3=.row q3 m.deps.length∧G' q3=some (.row 35 (flat Dep.cells m.deps))∧∃q,s' 5=.row q m.rules.length∧2≤q∧G' q=some (.row 96 (flat Ru.cells m.rules))) ?_ ?_
  ·skip;with_reducible refine aR fun K' hK=> ?_
   simp;refine hK _ _ _ ?_;clear K' hK;with_reducible refine aw_toS (aw_block ?_)
   have n0:¬0=nx:=(by omega);have n1:¬1=nx:=(by omega);have n3:¬q3=nx:=(by omega);refine aw_loop (fun s G nx=>s 1=.ptr 0 0∧s 2=.ptr 1 0∧G 0=some (.var 27 m.cells)∧G 1=some (.var 27 manN)∧s 3=.row q3 m.deps.length∧G q3=some (.row 35 (flat Dep.cells m.deps))∧∃i q:Nat,s 6=iV i∧i≤m.rules.length∧s 5=.row q i∧2≤q∧G q=some (.row 96 (flat Ru.cells (m.rules.take i)))) (fun s _ _=>match s 6 with | .v (.int _ n)=>m.rules.length-n.toNat | _=>0) ?_ ?_
   ·exact⟨by simp[s1],by simp[s2],by simp[g0,n0],by simp[g1,n1],by simp[s3],by simp[hG3,n3],0,nx,by simp,by omega,by simp,by omega,by simp⟩
   ·clear s1 s2 g0 g1 s3 hG3 hnx hqn3 n0 n1 n3 s G nx;rintro s G nx hf ⟨s1,s2,g0,g1,s3,hG3,i,q,s6,hi,s5,hq,hG⟩;have o6:=s6;have hw:IntKind.i64.wrap (↑i+1)=((i+1:Nat):Int):=wrapS (by omega);with_reducible refine aA ?_;refine aR fun K' hK=> ?_
    simp[s1,s6,g0];refine hK _ _ _ ?_;clear K' hK;with_reducible refine aC fun A B hA hB=> ?_
    simp;refine⟨fun hi2=>hA ?_,fun hi2=>hB ?_⟩<;>clear hA hB A B<;>(try simp at hi2)<;>(try with_reducible refine aK ?_)
    ·have hst:m.rules.take (i+1)=m.rules.take i++[nth m.rules i]:=(by rw[List.take_add_one,List.getElem?_eq_getElem hi2,←nth_eq hi2];rfl);have hdr:=hrr _ (nth_mem hi2);have hqn:q<nx:=fresh_lt hf hG;have hqn3:q3<nx:=fresh_lt hf hG3;have hqq:¬q3=q:=fun e=>(by subst e;rw[hG3]at hG;injection hG with hG;injection hG with hG;cases hG);have htl:min i m.rules.length=i:=(by omega);have b1:i+1≤9223372036854775807:=(by omega);have b2:(i+1)*40≤140737488355328:=(by omega);generalize hgd:nth m.rules i=d at*;have hT:∀H:Hp,H nx=some (.row 83 (flat Alt.cells d.range))→treeOf Tryz.prog H (.row nx d.range.length)=some (rowT Alt.cells d.range):=fun H h=>treeOf_of h c83 rfl;have hT1:=hT (G.upd nx (.row 83 (flat Alt.cells d.range))) (by simp);have n0:¬0=nx:=(by omega);have n1:¬1=nx:=(by omega);have n2:¬q=nx:=(by omega);have n3:¬q=nx+1:=(by omega);have n4:¬nx+1=q:=(by omega);have n5:¬0=nx+1:=(by omega);have n6:¬1=nx+1:=(by omega);have n7:¬0=nx+1+1:=(by omega);have n8:¬1=nx+1+1:=(by omega);have n9:¬0=q:=(by omega);have na:¬1=q:=(by omega);have nb:¬q3=nx+1:=(by omega);have nc:¬q3=nx+1+1:=(by omega);with_reducible refine aw_block ?_;refine aT fun K' hK=> ?_
     simp[s1,s5,s6,g0,hi2,hgd];refine acall_new (own86_ok d.range ⟨by omega,fun l hl=>by have:=hdr.2 l hl;omega⟩) (by first | rfl | (simp[Rg.cells];done) | (simp[Rg.cells];rfl) | (simp[Rg.cells];exact⟨rfl,rfl⟩)) ?_;simp[addJ_one,Rg.cells,hT1,n2,n3,n4,hG,htl,b1,b2,treeOf_row,srcOf_row];have w0:frzOf (G.upd nx (.row 83 (flat Alt.cells d.range))) (.row nx d.range.length) 0=G 0:=(by rw[frzOf_ne (by omega),Hp.upd_ne _ _ (by omega)]);have w1:frzOf (G.upd nx (.row 83 (flat Alt.cells d.range))) (.row nx d.range.length) 1=G 1:=(by rw[frzOf_ne (by omega),Hp.upd_ne _ _ (by omega)]);have w3:frzOf (G.upd nx (.row 83 (flat Alt.cells d.range))) (.row nx d.range.length) q3=G q3:=(by rw[frzOf_ne (by omega),Hp.upd_ne _ _ (by omega)]);refine hK _ _ _ ?_;clear K' hK;with_reducible refine aw_skipL ?_
     refine blockK_normal ?_;with_reducible refine aS fun K' hK=> ?_
     simp[s6,hw];refine hK _ _ _ ?_;clear K' hK;refine aw_skipL (loopK_normal ?_ ?_)
     ·exact⟨by simp[s1],by simp[s2],by simp[n5,n7,n9,w0,g0],by simp[show¬nx=0 by omega,n8,na,w1,g1],by simp[s3],by simp[nb,nc,hqq,w3,hG3],i+1,nx+1+1,by simp[hw],by omega,by simp,by omega,by rw[hst,←flat_snoc];simp;rfl⟩
     ·simp[o6,s6,hw];omega
    ·skip;with_reducible refine aw_exit ?_
     refine loopK_exit (blockK_exit ?_);have hie:i=m.rules.length:=(by omega);subst hie;rw[List.take_length]at hG;with_reducible refine aw_end ?_
     exact⟨by simp[s1],by simp[s2],by simp[g0],by simp[g1],by simp[s3],hG3,q,by simp[s5],hq,hG⟩
  ·clear s1 s2 g0 g1 s3 hG3 hnx hqn3 s G nx;rintro s G nx ⟨s1,s2,g0,g1,s3,hG3,q,s5,hq,hG⟩;have hqq:q3≠q:=fun e=>(by subst e;rw[hG3]at hG;injection hG with hG;injection hG with hG;cases hG);have k0:¬q3=0:=(by omega);have k1:¬q3=1:=(by omega);have k2:¬q=0:=(by omega);have k3:¬q=1:=(by omega);with_reducible refine aR fun K' hK=> ?_
   simp[s1,s3,g0,Man.cells];refine hK _ _ _ ?_;clear K' hK;with_reducible refine aR fun K' hK=> ?_
   simp[s1,s5,g0,Man.cells];refine hK _ _ _ ?_;clear K' hK;with_reducible refine aR fun K' hK=> ?_
   simp[s1,s2,g0,g1,Man.cells];refine hK _ _ _ ?_;clear K' hK;with_reducible refine aw_retL ?_
   simp[blockK,loopK,Post,resA,res1,expT,expA,exp1,expM,expL,okT,okA,ok1,rowOf,Tryz.f34,s2,k0,k1,k2,k3,hG,hG3,hqq,Ne.symm hqq];exact⟨[q3,q],⟨rfl,rfl⟩,by simp[Man.cellsR],by simp[rowOf,k0,k1,k2,k3,hG,hG3]⟩
set_option maxRecDepth 100000
set_option maxHeartbeats 4000000
theorem counts239_ok (d:Dep) (root:Bool):CallsOK Tryz.prog 239 [.agg d.cells,bV root] (bV (countsF d root)) []:=by
 refine callsOK mixed Tryz.call239 Tryz.func239 rfl (by rw[Tryz.ntmps239];simp) ?_ rfl;rw[Tryz.ntmps239];with_reducible refine aR fun K' hK=> ?_
 simp;refine hK _ _ _ ?_;clear K' hK;by_cases k1:d.kind=1
 ·skip;with_reducible refine aR fun K' hK=> ?_
  simp[k1];refine hK _ _ _ ?_;clear K' hK;with_reducible refine aw_retL ?_
  simp[blockK,loopK,Post,resA,res1,expT,expA,exp1,expM,expL,okT,okA,ok1,rowOf,Tryz.f239];simp[countsF,k1]
 ·by_cases k3:d.kind=3
  ·skip;with_reducible refine aR fun K' hK=> ?_
   simp[k3];refine hK _ _ _ ?_;clear K' hK;with_reducible refine aw_retL ?_
   simp[blockK,loopK,Post,resA,res1,expT,expA,exp1,expM,expL,okT,okA,ok1,rowOf,Tryz.f239];simp[countsF,k3]
  ·by_cases k4:d.kind=4
   ·skip;with_reducible refine aR fun K' hK=> ?_
    simp[k4];refine hK _ _ _ ?_;clear K' hK;with_reducible refine aw_retL ?_
    simp[blockK,loopK,Post,resA,res1,expT,expA,exp1,expM,expL,okT,okA,ok1,rowOf,Tryz.f239];simp[countsF,k4]
   ·by_cases k2:d.kind=2
    ·skip;with_reducible refine aR fun K' hK=> ?_
     simp[k2];refine hK _ _ _ ?_;clear K' hK;with_reducible refine aw_retL ?_
     simp[blockK,loopK,Post,resA,res1,expT,expA,exp1,expM,expL,okT,okA,ok1,rowOf,Tryz.f239];simp[countsF,k2]
    ·skip;with_reducible refine aR fun K' hK=> ?_
     simp[k1,k2,k3,k4];refine hK _ _ _ ?_;clear K' hK;with_reducible refine aw_retL ?_
     simp[blockK,loopK,Post,resA,res1,expT,expA,exp1,expM,expL,okT,okA,ok1,rowOf,Tryz.f239];simp[countsF,k1,k2,k3,k4]
theorem atF_some {rules:List Ru} {name:Bs} {i:Nat} (hi:i<rules.length) (h:(nth rules i).name=name) (hno:∀j,j<i→(nth rules j).name≠name):atF rules name=some i:=by
 unfold atF;rw[List.findIdx?_eq_some_iff_getElem];refine⟨hi,by rw[←nth_eq hi];simpa using h,fun j hj=> ?_⟩;rw[←nth_eq (by omega:j<rules.length)];simpa using hno j hj
theorem atF_none {rules:List Ru} {name:Bs} (hno:∀j,j<rules.length→(nth rules j).name≠name):atF rules name=none:=by
 unfold atF;rw[List.findIdx?_eq_none_iff];intro d hd;obtain⟨j,hj,rfl⟩:=List.mem_iff_getElem.1 hd;rw[←nth_eq hj];simpa using hno j hj
def ruleR (rules:List Ru) (name:Bs):AV×Js:=match atF rules name with
 | some i=>(.tup [.agg [.row 0 (nth rules i).range.length],bV true],[(83,flat Alt.cells (nth rules i).range)])
 | none=>(.tup [.agg [.v (.slice none 0 0)],bV false],[])
theorem rule240_ok (rules:List Ru) (name:Bs) (hl:Ru.okL rules):CallsOK Tryz.prog 240 [rowT Ru.cells rules,sV name] (ruleR rules name).1 (ruleR rules name).2:=by
 have hll:=hl.1;refine callsOK mixed Tryz.call240 Tryz.func240 rfl (by rw[Tryz.ntmps240];simp) ?_ (by unfold ruleR;split<;>rfl);rw[Tryz.ntmps240];with_reducible refine aR fun K' hK=> ?_
 simp;refine hK _ _ _ ?_;clear K' hK;with_reducible refine aA ?_;refine aR fun K' hK=> ?_
 simp;refine hK _ _ _ ?_;clear K' hK;with_reducible refine aw_block ?_
 refine aw_loop (fun s G nx=>nx=1∧s 0=rowT Ru.cells rules∧s 1=sV name∧s 4=.ptr 0 0∧G 0=some (.var 33 [.v (.slice none 0 0)])∧∃i:Nat,s 6=iV i∧i≤rules.length∧∀j,j<i→(nth rules j).name≠name) (fun s _ _=>match s 6 with | .v (.int _ n)=>rules.length-n.toNat | _=>0) ?_ ?_
 ·exact⟨by simp,by simp,by simp,by simp,by simp,0,by simp,by omega,fun j hj=>by omega⟩
 ·rintro s G nx hf ⟨rfl,s0,s1,s4,g0,i,s6,hi,hno⟩;have hw:IntKind.i64.wrap (↑i+1)=((i+1:Nat):Int):=wrapS (by omega);with_reducible refine aA ?_;refine aR fun K' hK=> ?_
  simp[s0,s6];refine hK _ _ _ ?_;clear K' hK;with_reducible refine aC fun A B hA hB=> ?_
  simp;refine⟨fun hi2=>hA ?_,fun hi2=>hB ?_⟩<;>clear hA hB A B<;>(try simp at hi2)<;>(try with_reducible refine aK ?_)
  ·have hdr:=hl.2 _ (nth_mem hi2);with_reducible refine aw_block ?_
   by_cases hn:(nth rules i).name=name
   ·have hv:ruleR rules name=(.tup [.agg [.row 0 (nth rules i).range.length],bV true],[(83,flat Alt.cells (nth rules i).range)]):=(by unfold ruleR;rw[atF_some hi2 hn hno]);rw[hv];with_reducible refine aR fun K' hK=> ?_
    simp[s0,s1,s6,hi2,hn];refine hK _ _ _ ?_;clear K' hK;with_reducible refine aU (by simp[hn]) ?_;refine aA ?_;refine aR fun K' hK=> ?_
    simp[s0,s4,s6,hi2,g0];refine acall_new (own86_ok (nth rules i).range ⟨by omega,fun l hl=>by have:=hdr.2 l hl;omega⟩) (by first | rfl | (simp[Rg.cells];done) | (simp[Rg.cells];rfl) | (simp[Rg.cells];exact⟨rfl,rfl⟩)) ?_;simp[addJ_one,g0,s4];refine hK _ _ _ ?_;clear K' hK;with_reducible refine aw_ret ?_
    simp[blockK,loopK,Post,resA,res1,expT,expA,exp1,expM,expL,okT,okA,ok1,rowOf,Tryz.f240,s4]
   ·skip;with_reducible refine aR fun K' hK=> ?_
    simp[s0,s1,s6,hi2,hn];refine hK _ _ _ ?_;clear K' hK;with_reducible refine aVk (by simp[hn]) ?_;refine aw_skipL ?_
    refine blockK_normal ?_;with_reducible refine aS fun K' hK=> ?_
    simp[s6,hw];refine hK _ _ _ ?_;clear K' hK;refine aw_skipL (loopK_normal ?_ ?_)
    ·exact⟨rfl,by simp[s0],by simp[s1],by simp[s4],by simp[g0],i+1,by simp[hw],by omega,fun j hj=>by
      by_cases h:j=i
      ·subst h;exact hn
      ·exact hno j (by omega)⟩
    ·simp[s6,hw];omega
  ·skip;with_reducible refine aw_exit ?_
   refine loopK_exit (blockK_exit ?_);have hv:ruleR rules name=(.tup [.agg [.v (.slice none 0 0)],bV false],[]):=(by unfold ruleR;rw[atF_none fun j hj=>hno j (by omega)]);rw[hv];with_reducible refine aR fun K' hK=> ?_
   simp[s4,g0];refine hK _ _ _ ?_;clear K' hK;with_reducible refine aw_retL ?_
   simp[blockK,loopK,Post,resA,res1,expT,expA,exp1,expM,expL,okT,okA,ok1,rowOf,Tryz.f240,s4]
theorem find78_ok (L:List Man) (hl:L.length≤1000000000) (hm:∀m∈L,Man.okS m) (n:Bs) (v:Ver):CallsOK Tryz.prog 78 [rowT Man.cells L,sV n,.agg v.cells] (manR (findM L n v)).1 (manR (findM L n v)).2:=by
 refine callsOK mixed Tryz.call78 Tryz.func78 rfl (by rw[Tryz.ntmps78];simp) ?_ (by cases findM L n v<;>rfl);rw[Tryz.ntmps78];with_reducible refine aR fun K' hK=> ?_
 simp;refine hK _ _ _ ?_;clear K' hK;with_reducible refine aA ?_;refine aR fun K' hK=> ?_
 simp;refine hK _ _ _ ?_;clear K' hK;with_reducible refine aw_block ?_
 refine aw_loop (fun s G nx=>nx=2∧s 0=rowT Man.cells L∧s 1=sV n∧s 5=.ptr 0 0∧s 6=.ptr 1 0∧G 0=some (.var 23 v.cells)∧G 1=some (.var 27 manN)∧∃i:Nat,s 8=iV i∧i≤L.length∧findM L n v=findM (L.drop i) n v) (fun s _ _=>match s 8 with | .v (.int _ n)=>L.length-n.toNat | _=>0) ?_ ?_
 ·exact⟨by simp,by simp,by simp,by simp,by simp,by simp,by simp,0,by simp,by omega,by simp⟩
 ·rintro s G nx hf ⟨rfl,s0,s1,s5,s6,g0,g1,i,s8,hi,ht⟩;have hw:IntKind.i64.wrap (↑i+1)=((i+1:Nat):Int):=wrapS (by omega);with_reducible refine aA ?_;refine aR fun K' hK=> ?_
  simp[s0,s8];refine hK _ _ _ ?_;clear K' hK;with_reducible refine aC fun A B hA hB=> ?_
  simp;refine⟨fun hi2=>hA ?_,fun hi2=>hB ?_⟩<;>clear hA hB A B<;>(try simp at hi2)<;>(try with_reducible refine aK ?_)
  ·have hst:=findM_drop (n:=n) (v:=v) hi2;have hmo:=hm _ (nth_mem hi2);generalize hgm:nth L i=m at*;have hhit:hitM n v m=(decide (m.name=n)&&decide (m.ver=v)):=rfl;with_reducible refine aw_block ?_
   by_cases h1:m.name=n
   ·by_cases h2:m.ver=v
    ·have h1':(m.name=n)=True:=eq_true h1;have h2':(m.ver=v)=True:=eq_true h2;have hv:findM L n v=some m:=(by rw[ht,hst,hhit];simp[h1,h2]);rw[hv];with_reducible refine aQ fun K' hK=> ?_
     simp(maxSteps:=1000000) [s0,s1,s5,s8,g0,hi2,hgm,h1',h2'];refine hK _ _ _ ?_;clear K' hK;with_reducible refine aU (by simp) ?_;refine aA ?_;refine aR fun K' hK=> ?_
     simp[s0,s8,s6,hi2,hgm,g1];refine acall_new (own34_ok m hmo) (by first | rfl | (simp;done) | (simp;rfl) | (simp;exact⟨rfl,rfl⟩)) ?_;simp[addJ_two,g1,s6];refine hK _ _ _ ?_;clear K' hK;with_reducible refine aw_ret ?_
     simp[blockK,loopK,Post,resA,res1,Tryz.f78,manR,s6];exact manR_end true (by omega) (by simp) (by simp)
    ·have h1':(m.name=n)=True:=eq_true h1;have hd:findM L n v=findM (L.drop (i+1)) n v:=(by rw[ht,hst,hhit];simp[h2]);with_reducible refine aQ fun K' hK=> ?_
     simp(maxSteps:=1000000) [s0,s1,s5,s8,g0,hi2,hgm,h1',h2];refine hK _ _ _ ?_;clear K' hK;with_reducible refine aVk (by simp) ?_;refine aw_skipL ?_
     refine blockK_normal ?_;with_reducible refine aS fun K' hK=> ?_
     simp[s8,hw];refine hK _ _ _ ?_;clear K' hK;refine aw_skipL (loopK_normal ?_ ?_)
     ·exact⟨rfl,by simp[s0],by simp[s1],by simp[s5],by simp[s6],by simp[g0],by simp[g1],i+1,by simp[hw],by omega,hd⟩
     ·simp[s8,hw];omega
   ·have hd:findM L n v=findM (L.drop (i+1)) n v:=(by rw[ht,hst,hhit];simp[h1]);with_reducible refine aQ fun K' hK=> ?_
    simp(maxSteps:=1000000) [s0,s1,s5,s8,g0,hi2,hgm,h1];refine hK _ _ _ ?_;clear K' hK;with_reducible refine aVk (by simp) ?_;refine aw_skipL ?_
    refine blockK_normal ?_;with_reducible refine aS fun K' hK=> ?_
    simp[s8,hw];refine hK _ _ _ ?_;clear K' hK;refine aw_skipL (loopK_normal ?_ ?_)
    ·exact⟨rfl,by simp[s0],by simp[s1],by simp[s5],by simp[s6],by simp[g0],by simp[g1],i+1,by simp[hw],by omega,hd⟩
    ·simp[s8,hw];omega
  ·skip;with_reducible refine aw_exit ?_
   refine loopK_exit (blockK_exit ?_);have hv:findM L n v=none:=(by rw[ht,List.drop_of_length_le (by omega)];rfl);rw[hv];with_reducible refine aR fun K' hK=> ?_
   simp[s6,g1];refine hK _ _ _ ?_;clear K' hK;with_reducible refine aw_retL ?_
   simp[blockK,loopK,Post,resA,res1,expT,expA,exp1,expM,expL,okT,okA,ok1,rowOf,Tryz.f78,manR,s6]
set_option maxRecDepth 100000
set_option maxHeartbeats 400000
def candD (root first:Bool) (last:Bs) (d:Dep):Bool:=countsF d root&&(first || ltB last d.name)
def stepX (root first:Bool) (last:Bs) (b:Option Bs) (d:Dep):Option Bs:=if candD root first last d=true∧(∀x,b=some x→ltB d.name x=true)then some d.name else b
def nextN (root first:Bool) (last:Bs) (ds:List Dep):Option Bs:=ds.foldl (stepX root first last) none
theorem nextN_take {root first:Bool} {last:Bs} {ds:List Dep} {i:Nat} (h:i<ds.length):nextN root first last (ds.take (i+1))=stepX root first last (nextN root first last (ds.take i)) (nth ds i):=by
 unfold nextN;rw[List.take_add_one,List.getElem?_eq_getElem h,nth_eq h];rw[List.foldl_append];rfl
def LeastN (root first:Bool) (last:Bs) (ds:List Dep):Option Bs→Prop
 | none=>∀d∈ds,candD root first last d=false
 | some x=>(∃d∈ds,candD root first last d=true∧d.name=x)∧∀d∈ds,candD root first last d=true→ltB d.name x=false
theorem nextN_least (root first:Bool) (last:Bs) (ds:List Dep):LeastN root first last ds (nextN root first last ds):=by
 have:∀i,i≤ds.length→LeastN root first last (ds.take i) (nextN root first last (ds.take i)):=by
  intro i;induction i with
  | zero=>intro _;exact fun d hd=>by simp at hd
  | succ i ih=>
   intro hi;have ih:=ih (by omega);have hst:ds.take (i+1)=ds.take i++[nth ds i]:=(by rw[List.take_add_one,List.getElem?_eq_getElem (by omega),←nth_eq (by omega)];rfl);rw[nextN_take (by omega)];rw[hst];generalize nth ds i=d at*;generalize ds.take i=l at*;generalize nextN root first last l=b at*;unfold stepX;by_cases hc:candD root first last d=true
   ·cases b with
    | none=>
     rw[if_pos ⟨hc,fun x h=>by cases h⟩];refine⟨⟨d,by simp,hc,rfl⟩,fun e he hce=> ?_⟩;rcases List.mem_append.1 he with h | h
     ·rw[ih e h]at hce;cases hce
     ·have:e=d:=(by simpa using h);subst this;exact ltB_irr _
    | some x=>
     obtain⟨⟨y,hy,hcy,hyx⟩,hmin⟩:=ih;by_cases hlt:ltB d.name x=true
     ·rw[if_pos ⟨hc,fun z hz=>by injection hz with hz;subst hz;exact hlt⟩];refine⟨⟨d,by simp,hc,rfl⟩,fun e he hce=> ?_⟩;rcases List.mem_append.1 he with h | h
      ·rw[Bool.eq_false_iff];intro hed;have h1:=hmin e h hce;rw[ltB_trans hed hlt]at h1;cases h1
      ·have:e=d:=(by simpa using h);subst this;exact ltB_irr _
     ·rw[if_neg (fun h=>hlt (h.2 x rfl))];refine⟨⟨y,by simp[hy],hcy,hyx⟩,fun e he hce=> ?_⟩;rcases List.mem_append.1 he with h | h
      ·exact hmin e h hce
      ·have:e=d:=(by simpa using h);subst this;simpa using hlt
   ·rw[if_neg (fun h=>hc h.1)];cases b with
    | none=>
     intro e he;rcases List.mem_append.1 he with h | h
     ·exact ih e h
     ·have:e=d:=(by simpa using h);subst this;simpa using hc
    | some x=>
     obtain⟨⟨y,hy,hcy,hyx⟩,hmin⟩:=ih;refine⟨⟨y,by simp[hy],hcy,hyx⟩,fun e he hce=> ?_⟩;rcases List.mem_append.1 he with h | h
     ·exact hmin e h hce
     ·have:e=d:=(by simpa using h);subst this;exact absurd hce hc
 have h:=this ds.length (Nat.le_refl _)
 rwa [List.take_length]at h
theorem byM_names (root:Bool) (ds:List Dep) (n:Bs):n∈namesOf (byM root ds)↔∃d∈ds,countsF d root=true∧d.name=n:=by
 have:∀i,i≤ds.length→(n∈namesOf (byM root (ds.take i))↔∃d∈ds.take i,countsF d root=true∧d.name=n):=by
  intro i;induction i with
  | zero=>intro _;simp[byM,namesOf]
  | succ i ih=>
   intro hi;have ih:=ih (by omega);have hst:ds.take (i+1)=ds.take i++[nth ds i]:=(by rw[List.take_add_one,List.getElem?_eq_getElem (by omega),←nth_eq (by omega)];rfl);rw[byM_take root (by omega)];rw[hst];generalize nth ds i=d at*;generalize ds.take i=l at*;generalize byM root l=M at*;have hr:(∃e∈l++[d],countsF e root=true∧e.name=n)↔(∃e∈l,countsF e root=true∧e.name=n)∨(countsF d root=true∧d.name=n):=by
    constructor
    ·rintro⟨e,he,h⟩;rcases List.mem_append.1 he with h1 | h1
     ·exact .inl ⟨e,h1,h⟩
     ·have:e=d:=(by simpa using h1);subst this;exact .inr h
    ·rintro(⟨e,he,h⟩ | h)
     ·exact⟨e,by simp[he],h⟩
     ·exact⟨d,by simp,h⟩
   rw[hr,←ih];unfold stepM;by_cases hc:countsF d root=true
   ·by_cases hk:∀i,posM M d.name=some i→d.kind<(nth M i).kind
    ·rw[if_pos ⟨hc,hk⟩];rcases putM_names (M:=M) d with⟨h1,h2⟩ | ⟨h1,h2⟩
     ·rw[h2];exact⟨.inl,fun h=>h.elim id fun h=>by rw[←h.2];exact h1⟩
     ·rw[h2,List.mem_append];exact⟨fun h=>h.imp id fun h=>⟨hc,by simpa using Eq.symm (by simpa using h)⟩,fun h=>h.imp id fun h=>by simp[h.2]⟩
    ·rw[if_neg (fun h=>hk h.2)];have hin:d.name∈namesOf M:=by
      rcases Classical.em (d.name∈namesOf M)with h | h
      ·exact h
      ·exact absurd (fun i hi=>by rw[posM_none.2 h]at hi;cases hi) hk
     exact⟨.inl,fun h=>h.elim id fun h=>by rw[←h.2];exact hin⟩
   ·rw[if_neg (fun h=>hc h.1)];exact⟨.inl,fun h=>h.elim id fun h=>absurd h.1 hc⟩
 have h:=this ds.length (Nat.le_refl _)
 rwa [List.take_length]at h
def namesS (root:Bool) (ds:List Dep):List Bs:=sortN (namesOf (byM root ds))
theorem namesS_mem {root:Bool} {ds:List Dep} {n:Bs} :n∈namesS root ds↔∃d∈ds,countsF d root=true∧d.name=n:=by
 rw[←byM_names];exact(sortN_perm _).mem_iff
theorem namesS_lt (root:Bool) (ds:List Dep):(namesS root ds).Pairwise fun a b=>ltB a b=true:=sortN_lt (byM_nodup root ds)
theorem namesS_at {root:Bool} {ds:List Dep} {i j:Nat} (hij:i<j) (hj:j<(namesS root ds).length):ltB (nth (namesS root ds) i) (nth (namesS root ds) j)=true:=by
 have:=List.pairwise_iff_getElem.1 (namesS_lt root ds) i j (by omega) hj hij
 rwa [←nth_eq (by omega),←nth_eq hj]at this
theorem next_at {root first:Bool} {last:Bs} {ds:List Dep} {k:Nat} (hlo:∀i,i<k→i<(namesS root ds).length→(first || ltB last (nth (namesS root ds) i))=false) (hhi:∀i,k≤i→i<(namesS root ds).length→(first || ltB last (nth (namesS root ds) i))=true):
  nextN root first last ds=if k<(namesS root ds).length then some (nth (namesS root ds) k)else none:=by
 have hL:=nextN_least root first last ds;have cand:∀d∈ds,candD root first last d=true→∃i,k≤i∧i<(namesS root ds).length∧nth (namesS root ds) i=d.name:=by
  intro d hd hc;simp only[candD,Bool.and_eq_true]at hc;have hm:d.name∈namesS root ds:=namesS_mem.2 ⟨d,hd,hc.1,rfl⟩;obtain⟨i,hi,he⟩:=List.mem_iff_getElem.1 hm;rw[←nth_eq hi]at he;refine⟨i,?_,hi,he⟩;rcases Nat.lt_or_ge i k with h | h
  ·have:=hlo i h hi;rw[he]at this;rw[this]at hc;cases hc.2
  ·exact h
 cases hN:nextN root first last ds with
 | none=>
  rw[hN]at hL;by_cases hk:k<(namesS root ds).length
  ·obtain⟨d,hd,hc,he⟩:=namesS_mem.1 (nth_mem hk);have:=hL d hd;have h2:=hhi k (Nat.le_refl _) hk;rw[←he]at h2;simp only[candD,hc,h2]at this;cases this
  ·rw[if_neg hk]
 | some x=>
  rw[hN]at hL;obtain⟨⟨d,hd,hc,rfl⟩,hmin⟩:=hL;obtain⟨i,hki,hi,he⟩:=cand d hd hc;rw[if_pos (by omega)];obtain⟨e,hed,hec,hen⟩:=namesS_mem.1 (nth_mem (show k<(namesS root ds).length by omega));have h2:=hhi k (Nat.le_refl _) (by omega);rw[←hen]at h2;have h3:=hmin e hed (by simp only[candD,hec,h2];rfl);rw[hen,←he]at h3;rcases Nat.lt_or_ge k i with h | h
  ·rw[namesS_at h hi]at h3;cases h3
  ·have:i=k:=(by omega);rw[←this,he]
theorem next_first (root:Bool) (last:Bs) (ds:List Dep):nextN root true last ds=if 0<(namesS root ds).length then some (nth (namesS root ds) 0)else none:=
 next_at (fun i h=>by omega) (fun i _ _=>rfl)
theorem next_then (root:Bool) (ds:List Dep) {k:Nat} (hk:k<(namesS root ds).length):nextN root false (nth (namesS root ds) k) ds=if k+1<(namesS root ds).length then some (nth (namesS root ds) (k+1))else none:=
 next_at (fun i h hi=>by
  simp only[Bool.false_or];rcases Nat.lt_or_ge i k with h1 | h1
  ·exact ltB_asym (namesS_at h1 hk)
  ·have:i=k:=(by omega);rw[this];exact ltB_irr _) (fun i h hi=>by
  simp only[Bool.false_or];exact namesS_at (by omega) hi)
set_option maxRecDepth 100000
set_option maxHeartbeats 4000000
theorem next211_ok (m:Man) (hl:m.deps.length≤1000000000) (root first:Bool) (last:Bs):CallsOK Tryz.prog 211 [.agg m.cells,bV root,sV last,bV first] (.tup [sV ((nextN root first last m.deps).getD ⟨#[]⟩),bV (nextN root first last m.deps).isSome]) []:=by
 refine callsOK mixed Tryz.call211 Tryz.func211 rfl (by rw[Tryz.ntmps211];simp) ?_ rfl;rw[Tryz.ntmps211];with_reducible refine aR fun K' hK=> ?_
 simp;refine hK _ _ _ ?_;clear K' hK;with_reducible refine aR fun K' hK=> ?_
 simp;refine hK _ _ _ ?_;clear K' hK;with_reducible refine aR fun K' hK=> ?_
 simp;refine hK _ _ _ ?_;clear K' hK;with_reducible refine aA ?_;refine aR fun K' hK=> ?_
 simp;refine hK _ _ _ ?_;clear K' hK;with_reducible refine aw_block ?_
 refine aw_loop (fun s G nx=>s 1=bV root∧s 2=sV last∧s 3=bV first∧s 4=.ptr 0 0∧G 0=some (.var 27 m.cells)∧∃i:Nat,s 12=iV i∧i≤m.deps.length∧s 10=sV ((nextN root first last (m.deps.take i)).getD ⟨#[]⟩)∧s 11=bV (nextN root first last (m.deps.take i)).isSome) (fun s _ _=>match s 12 with | .v (.int _ n)=>m.deps.length-n.toNat | _=>0) ?_ ?_
 ·exact⟨by simp,by simp,by simp,by simp,by simp,0,by simp,by omega,by simp[nextN],by simp[nextN]⟩
 ·rintro s G nx hf ⟨s1,s2,s3,s4,g0,i,s12,hi,s10,s11⟩;have o12:=s12;have n0:¬0=nx:=(by have:=fresh_lt hf g0;omega);have hw:IntKind.i64.wrap (↑i+1)=((i+1:Nat):Int):=wrapS (by omega);with_reducible refine aA ?_;refine aR fun K' hK=> ?_
  simp[s4,s12,g0];refine hK _ _ _ ?_;clear K' hK;with_reducible refine aC fun A B hA hB=> ?_
  simp;refine⟨fun hi2=>hA ?_,fun hi2=>hB ?_⟩<;>clear hA hB A B<;>(try simp at hi2)<;>(try with_reducible refine aK ?_)
  ·have hst:=nextN_take (root:=root) (first:=first) (last:=last) hi2;generalize hgd:nth m.deps i=d at*;have hcd:candD root first last d=(countsF d root&&(first || ltB last d.name)):=rfl;generalize nextN root first last (m.deps.take i)=b at*;have hsx:stepX root first last b d=if candD root first last d=true∧(∀x,b=some x→ltB d.name x=true)then some d.name else b:=rfl;with_reducible refine aw_block ?_;refine aR fun K' hK=> ?_
   simp[s4,s12,g0,hi2,hgd];refine hK _ _ _ ?_;clear K' hK;have inv:∀(u:Sl) (c:Option Bs),c=nextN root first last (m.deps.take (i+1))→u 1=bV root→u 2=sV last→u 3=bV first→u 4=.ptr 0 0→u 12=iV i→u 10=sV (c.getD ⟨#[]⟩)→u 11=bV c.isSome→True:=fun _ _ _ _ _ _ _ _ _ _=>trivial;clear inv;have yes:(candD root first last d=true∧(∀x,b=some x→ltB d.name x=true))→nextN root first last (m.deps.take (i+1))=some d.name:=fun h=>(by rw[hst,hsx,if_pos h]);have no:¬(candD root first last d=true∧(∀x,b=some x→ltB d.name x=true))→nextN root first last (m.deps.take (i+1))=b:=fun h=>(by rw[hst,hsx,if_neg h]);with_reducible refine aR fun K' hK=> ?_
   simp[n0];refine acall_flat (counts239_ok d root) rfl (by first | rfl | (simp[s1];done) | (simp[s1];rfl) | (simp[s1];exact⟨rfl,rfl⟩)) ?_;by_cases hc:countsF d root=true
   ·by_cases hfl:first=true∨ltB last d.name=true
    ·have hcand:candD root first last d=true:=(by rw[hcd,hc];simpa using hfl);cases b with
     | none=>
      have hy:=yes ⟨hcand,fun x h=>by cases h⟩;simp only[Option.getD_none,Option.isSome_none]at s10 s11;rcases hfl with hfl | hfl
      ·subst hfl;simp[hc,s1,s2,s3,s10,s11];refine hK _ _ _ ?_;clear K' hK;with_reducible refine aU (by simp) ?_;refine aA ?_;refine aR fun K' hK=> ?_
       simp;refine hK _ _ _ ?_;clear K' hK;with_reducible refine aR fun K' hK=> ?_
       simp;refine hK _ _ _ ?_;clear K' hK;with_reducible refine aw_skipL ?_
       refine blockK_normal ?_;with_reducible refine aS fun K' hK=> ?_
       simp[s12,hw];refine hK _ _ _ ?_;clear K' hK;refine aw_skipL (loopK_normal ?_ ?_)
       ·exact⟨by simp[s1],by simp[s2],by simp[s3],by simp[s4],by simp[n0,g0],i+1,by simp[hw],by omega,by simp[hy],by simp[hy]⟩
       ·simp[o12,s12,hw];omega
      ·cases first with
       | true=>
        simp[hc,s1,s2,s3,s10,s11];refine hK _ _ _ ?_;clear K' hK;with_reducible refine aU (by simp) ?_;refine aA ?_;refine aR fun K' hK=> ?_
        simp;refine hK _ _ _ ?_;clear K' hK;with_reducible refine aR fun K' hK=> ?_
        simp;refine hK _ _ _ ?_;clear K' hK;with_reducible refine aw_skipL ?_
        refine blockK_normal ?_;with_reducible refine aS fun K' hK=> ?_
        simp[s12,hw];refine hK _ _ _ ?_;clear K' hK;refine aw_skipL (loopK_normal ?_ ?_)
        ·exact⟨by simp[s1],by simp[s2],by simp[s3],by simp[s4],by simp[n0,g0],i+1,by simp[hw],by omega,by simp[hy],by simp[hy]⟩
        ·simp[o12,s12,hw];omega
       | false=>
        simp[hc,s1,s2,s3,s10,s11,hfl,n0];refine hK _ _ _ ?_;clear K' hK;with_reducible refine aU (by simp) ?_;refine aA ?_;refine aR fun K' hK=> ?_
        simp;refine hK _ _ _ ?_;clear K' hK;with_reducible refine aR fun K' hK=> ?_
        simp;refine hK _ _ _ ?_;clear K' hK;with_reducible refine aw_skipL ?_
        refine blockK_normal ?_;with_reducible refine aS fun K' hK=> ?_
        simp[s12,hw];refine hK _ _ _ ?_;clear K' hK;refine aw_skipL (loopK_normal ?_ ?_)
        ·exact⟨by simp[s1],by simp[s2],by simp[s3],by simp[s4],by simp[n0,g0],i+1,by simp[hw],by omega,by simp[hy],by simp[hy]⟩
        ·simp[o12,s12,hw];omega
     | some x=>
      simp only[Option.getD_some,Option.isSome_some]at s10 s11;by_cases hlt:ltB d.name x=true
      ·have hy:=yes ⟨hcand,fun z hz=>by injection hz with hz;subst hz;exact hlt⟩;cases first with
       | true=>
        simp[hc,s1,s2,s3,s10,s11,hlt,n0];refine hK _ _ _ ?_;clear K' hK;with_reducible refine aU (by simp) ?_;refine aA ?_;refine aR fun K' hK=> ?_
        simp;refine hK _ _ _ ?_;clear K' hK;with_reducible refine aR fun K' hK=> ?_
        simp;refine hK _ _ _ ?_;clear K' hK;with_reducible refine aw_skipL ?_
        refine blockK_normal ?_;with_reducible refine aS fun K' hK=> ?_
        simp[s12,hw];refine hK _ _ _ ?_;clear K' hK;refine aw_skipL (loopK_normal ?_ ?_)
        ·exact⟨by simp[s1],by simp[s2],by simp[s3],by simp[s4],by simp[n0,g0],i+1,by simp[hw],by omega,by simp[hy],by simp[hy]⟩
        ·simp[o12,s12,hw];omega
       | false=>
        have hfl:=hfl.resolve_left (by simp);simp[hc,s1,s2,s3,s10,s11,hlt,hfl,n0];refine hK _ _ _ ?_;clear K' hK;with_reducible refine aU (by simp) ?_;refine aA ?_;refine aR fun K' hK=> ?_
        simp;refine hK _ _ _ ?_;clear K' hK;with_reducible refine aR fun K' hK=> ?_
        simp;refine hK _ _ _ ?_;clear K' hK;with_reducible refine aw_skipL ?_
        refine blockK_normal ?_;with_reducible refine aS fun K' hK=> ?_
        simp[s12,hw];refine hK _ _ _ ?_;clear K' hK;refine aw_skipL (loopK_normal ?_ ?_)
        ·exact⟨by simp[s1],by simp[s2],by simp[s3],by simp[s4],by simp[n0,g0],i+1,by simp[hw],by omega,by simp[hy],by simp[hy]⟩
        ·simp[o12,s12,hw];omega
      ·have hn:=no fun h=>hlt (h.2 x rfl);have hlt':ltB d.name x=false:=(by simpa using hlt);cases first with
       | true=>
        simp[hc,s1,s2,s3,s10,s11,hlt',n0];refine hK _ _ _ ?_;clear K' hK;with_reducible refine aVk (by simp) ?_;refine aw_skipL ?_
        refine blockK_normal ?_;with_reducible refine aS fun K' hK=> ?_
        simp[s12,hw];refine hK _ _ _ ?_;clear K' hK;refine aw_skipL (loopK_normal ?_ ?_)
        ·exact⟨by simp[s1],by simp[s2],by simp[s3],by simp[s4],by simp[n0,g0],i+1,by simp[hw],by omega,by simp[hn,s10],by simp[hn,s11]⟩
        ·simp[o12,s12,hw];omega
       | false=>
        have hfl:=hfl.resolve_left (by simp);simp[hc,s1,s2,s3,s10,s11,hlt',hfl,n0];refine hK _ _ _ ?_;clear K' hK;with_reducible refine aVk (by simp) ?_;refine aw_skipL ?_
        refine blockK_normal ?_;with_reducible refine aS fun K' hK=> ?_
        simp[s12,hw];refine hK _ _ _ ?_;clear K' hK;refine aw_skipL (loopK_normal ?_ ?_)
        ·exact⟨by simp[s1],by simp[s2],by simp[s3],by simp[s4],by simp[n0,g0],i+1,by simp[hw],by omega,by simp[hn,s10],by simp[hn,s11]⟩
        ·simp[o12,s12,hw];omega
    ·have hf0:first=false:=(by cases first<;>simp_all);have hll:ltB last d.name=false:=by
      rw[Bool.eq_false_iff];exact fun h=>hfl (.inr h)
     subst hf0;have hn:=no fun h=>(by rw[hcd,hc,hll]at h;exact absurd h.1 (by decide));simp[hc,s1,s2,s3,hll,n0];refine hK _ _ _ ?_;clear K' hK;with_reducible refine aVk (by simp) ?_;refine aw_skipL ?_
     refine blockK_normal ?_;with_reducible refine aS fun K' hK=> ?_
     simp[s12,hw];refine hK _ _ _ ?_;clear K' hK;refine aw_skipL (loopK_normal ?_ ?_)
     ·exact⟨by simp[s1],by simp[s2],by simp[s3],by simp[s4],by simp[n0,g0],i+1,by simp[hw],by omega,by simp[hn,s10],by simp[hn,s11]⟩
     ·simp[o12,s12,hw];omega
   ·have hc':countsF d root=false:=(by simpa using hc);have hn:=no fun h=>(by rw[hcd,hc']at h;exact absurd h.1 (by simp));simp[hc'];refine hK _ _ _ ?_;clear K' hK;with_reducible refine aVk (by simp) ?_;refine aw_skipL ?_
    refine blockK_normal ?_;with_reducible refine aS fun K' hK=> ?_
    simp[s12,hw];refine hK _ _ _ ?_;clear K' hK;refine aw_skipL (loopK_normal ?_ ?_)
    ·exact⟨by simp[s1],by simp[s2],by simp[s3],by simp[s4],by simp[n0,g0],i+1,by simp[hw],by omega,by simp[hn,s10],by simp[hn,s11]⟩
    ·simp[o12,s12,hw];omega
  ·skip;with_reducible refine aw_exit ?_
   refine loopK_exit (blockK_exit ?_);rw[List.take_of_length_le (by omega)]at s10 s11;with_reducible refine aR fun K' hK=> ?_
   simp[s10,s11];refine hK _ _ _ ?_;clear K' hK;with_reducible refine aw_retL ?_
   simp[blockK,loopK,Post,resA,res1,expT,expA,exp1,expM,expL,okT,okA,ok1,rowOf,Tryz.f211]
set_option maxRecDepth 100000
set_option maxHeartbeats 4000000
theorem posM_put {M:List Dep} {d:Dep} :∃p,posM (putM M d) d.name=some p∧nth (putM M d) p=d:=by
 unfold putM;cases h:posM M d.name with
 | none=>
  refine⟨M.length,?_,nth_app_eq⟩;unfold posM at*;rw[List.findIdx?_append,h];simp
 | some i=>
  obtain⟨h1,h2⟩:=posM_lt h;refine⟨i,?_,by rw[nth_setG h1,if_pos rfl]⟩;unfold posM at*;rw[List.findIdx?_eq_some_iff_getElem]at h⊢;obtain⟨a,b,c⟩:=h;refine⟨by simpa using a,by simp,fun j hj=> ?_⟩;have:=c j hj;rw[List.getElem_set_ne (by omega)];exact this
theorem posM_other {M:List Dep} {d:Dep} {n:Bs} (hne:¬d.name=n):match posM M n with
  | none=>posM (putM M d) n=none
  | some p=>posM (putM M d) n=some p∧nth (putM M d) p=nth M p:=by
 unfold putM;cases hd:posM M d.name with
 | none=>
  cases h:posM M n with
  | none=>
   show posM (M++[d]) n=none;unfold posM at*;rw[List.findIdx?_append,h];simp[hne]
  | some p=>
   have hp:=(posM_lt h).1;refine⟨?_,nth_app_lt hp⟩;unfold posM at*;rw[List.findIdx?_append,h];rfl
 | some i=>
  obtain⟨h1,h2⟩:=posM_lt hd;cases h:posM M n with
  | none=>
   show posM (M.set i d) n=none;unfold posM at*;rw[List.findIdx?_eq_none_iff]at h⊢;intro x hx;rcases List.mem_or_eq_of_mem_set hx with hx | rfl
   ·exact h x hx
   ·simp[hne]
  | some p=>
   obtain⟨q1,q2⟩:=posM_lt h;have hpi:¬p=i:=fun e=>hne (by rw[←q2,e,h2]);refine⟨?_,by rw[nth_setG h1,if_neg hpi]⟩;unfold posM at*;rw[List.findIdx?_eq_some_iff_getElem]at h⊢;obtain⟨a,b,c⟩:=h;refine⟨by simpa using a,by rw[List.getElem_set_ne (fun e=>hpi e.symm)];exact b,fun j hj=> ?_⟩;rw[List.getElem_set];split
   ·simp[hne]
   ·exact c j hj
def AtE (root:Bool) (name:Bs) (ds:List Dep) (i:Nat):Option Nat→Prop
 | none=>posM (byM root (ds.take i)) name=none
 | some j=>j<i∧∃p,posM (byM root (ds.take i)) name=some p∧nth (byM root (ds.take i)) p=nth ds j
theorem atE_step {root:Bool} {name:Bs} {ds:List Dep} {i:Nat} {b:Option Nat} (hi:i<ds.length) (h:AtE root name ds i b):
  AtE root name ds (i+1) (if(nth ds i).name=name∧countsF (nth ds i) root=true∧(∀j,b=some j→(nth ds i).kind<(nth ds j).kind)then some i else b):=by
 unfold AtE at*;have hb:=byM_take root hi;generalize byM root (ds.take i)=M at*;generalize hd:nth ds i=d at*;by_cases hn:d.name=name
 ·subst hn;by_cases hc:countsF d root=true
  ·by_cases hk:∀j,b=some j→d.kind<(nth ds j).kind
   ·rw[if_pos ⟨rfl,hc,hk⟩];have:stepM root M d=putM M d:=by
     unfold stepM;rw[if_pos];refine⟨hc,fun p hp=> ?_⟩;cases b with
     | none=>simp only at h;rw[h]at hp;cases hp
     | some j=>
      obtain⟨_,p',h1,h2⟩:=h;rw[h1]at hp;injection hp with hp;subst hp;rw[h2];exact hk j rfl
    show i<i+1∧_;rw[hb,this,hd];exact⟨by omega,posM_put⟩
   ·rw[if_neg (fun h=>hk h.2.2)];have:stepM root M d=M:=by
     unfold stepM;rw[if_neg];rintro⟨_,h3⟩;refine hk fun j hj=> ?_;subst hj;obtain⟨_,p,h1,h2⟩:=h;rw[←h2];exact h3 p h1
    rw[hb,this];cases b with
    | none=>exact h
    | some j=>exact⟨by have:=h.1;omega,h.2⟩
  ·rw[if_neg (fun h=>hc h.2.1)];have:stepM root M d=M:=(by unfold stepM;rw[if_neg (fun h=>hc h.1)]);rw[hb,this];cases b with
   | none=>exact h
   | some j=>exact⟨by have:=h.1;omega,h.2⟩
 ·rw[if_neg (fun h=>hn h.1)];have hp:=posM_other (M:=M) (d:=d) hn;have:∀X,(X=M∨X=putM M d)→stepM root M d=X→(match b with
    | none=>posM X name=none
    | some j=>j<i+1∧∃p,posM X name=some p∧nth X p=nth ds j):=by
   rintro X (rfl | rfl) _
   ·cases b with
    | none=>exact h
    | some j=>exact⟨by have:=h.1;omega,h.2⟩
   ·cases b with
    | none=>
     simp only at h⊢;rw[h]at hp;exact hp
    | some j=>
     obtain⟨hj,p,h1,h2⟩:=h;rw[h1]at hp;exact⟨by omega,p,hp.1,hp.2.trans h2⟩
  rw[hb];have hs:stepM root M d=M∨stepM root M d=putM M d:=by
   unfold stepM;split
   ·exact .inr rfl
   ·exact .inl rfl
  have:=this _ hs rfl;cases b with
  | none=>exact this
  | some j=>exact this
theorem atE_find {root:Bool} {name:Bs} {ds:List Dep} {b:Option Nat} (h:AtE root name ds ds.length b) (hm:name∈namesOf (byM root ds)):∃j,b=some j∧j<ds.length∧findD (byM root ds) name=nth ds j:=by
 unfold AtE at h;rw[List.take_length]at h;cases b with
 | none=>exact absurd hm (posM_none.1 h)
 | some j=>
  obtain⟨hj,p,h1,h2⟩:=h;exact⟨j,rfl,hj,by unfold findD;rw[h1];exact h2⟩
set_option maxRecDepth 100000
set_option maxHeartbeats 4000000
def atJ:Option Nat→Int
 | none=> -1
 | some j=>j
theorem edge212_ok (m:Man) (rules:List Ru) (root:Bool) (name:Bs) (hd:Dep.okL m.deps) (hrl:Ru.okL rules) (hm:name∈namesOf (byM root m.deps)):
  CallsOK Tryz.prog 212 [.agg m.cells,rowT Ru.cells rules,bV root,sV name] (.agg [iV (edgeOf rules (findD (byM root m.deps) name)).kind,sV (edgeOf rules (findD (byM root m.deps) name)).name,.row 0 (edgeOf rules (findD (byM root m.deps) name)).range.length]) [(83,flat Alt.cells (edgeOf rules (findD (byM root m.deps) name)).range)]:=by
 have hdl:=hd.1;refine callsOK mixed Tryz.call212 Tryz.func212 rfl (by rw[Tryz.ntmps212];simp) ?_ rfl;rw[Tryz.ntmps212];with_reducible refine aR fun K' hK=> ?_
 simp;refine hK _ _ _ ?_;clear K' hK;with_reducible refine aR fun K' hK=> ?_
 simp;refine hK _ _ _ ?_;clear K' hK;with_reducible refine aA ?_;refine aw_un ?_
 refine aw_cut (fun s G nx=>2≤nx∧s 1=rowT Ru.cells rules∧s 3=sV name∧s 4=.ptr 0 0∧s 8=.ptr 1 0∧G 0=some (.var 27 m.cells)∧G 1=some (.var 35 [iV 0,sV ⟨#[]⟩,.v (.slice none 0 0)])∧∃b,s 9=iV (atJ b)∧AtE root name m.deps m.deps.length b) ?_ ?_
 ·skip;with_reducible refine aR fun K' hK=> ?_
  simp;refine hK _ _ _ ?_;clear K' hK;with_reducible refine aw_toS (aw_block ?_)
  refine aw_loop (fun s G nx=>2≤nx∧s 1=rowT Ru.cells rules∧s 2=bV root∧s 3=sV name∧s 4=.ptr 0 0∧s 8=.ptr 1 0∧G 0=some (.var 27 m.cells)∧G 1=some (.var 35 [iV 0,sV ⟨#[]⟩,.v (.slice none 0 0)])∧∃(i:Nat) (b:Option Nat),s 10=iV i∧i≤m.deps.length∧s 9=iV (atJ b)∧AtE root name m.deps i b) (fun s _ _=>match s 10 with | .v (.int _ n)=>m.deps.length-n.toNat | _=>0) ?_ ?_
  ·exact⟨by omega,by simp,by simp,by simp,by simp,by simp,by simp,by simp,0,none,by simp,by omega,by simp[atJ],rfl⟩
  ·rintro s G nx hf ⟨hnx,s1,s2,s3,s4,s8,g0,g1,i,b,s10,hi,s9,hb⟩;have o10:=s10;have n0:¬0=nx:=(by omega);have n1:¬1=nx:=(by omega);have hw:IntKind.i64.wrap (↑i+1)=((i+1:Nat):Int):=wrapS (by omega);with_reducible refine aA ?_;refine aR fun K' hK=> ?_
   simp[s4,s10,g0];refine hK _ _ _ ?_;clear K' hK;with_reducible refine aC fun A B hA hB=> ?_
   simp;refine⟨fun hi2=>hA ?_,fun hi2=>hB ?_⟩<;>clear hA hB A B<;>(try simp at hi2)<;>(try with_reducible refine aK ?_)
   ·have hstep:=atE_step hi2 hb;generalize hgd:nth m.deps i=d at*;with_reducible refine aw_block ?_;refine aR fun K' hK=> ?_
    simp[s4,s10,g0,hi2,hgd];refine hK _ _ _ ?_;clear K' hK;have yes:(d.name=name∧countsF d root=true∧(∀j,b=some j→d.kind<(nth m.deps j).kind))→AtE root name m.deps (i+1) (some i):=fun h=>(by rw[if_pos h]at hstep;exact hstep);have no:¬(d.name=name∧countsF d root=true∧(∀j,b=some j→d.kind<(nth m.deps j).kind))→AtE root name m.deps (i+1) b:=fun h=>(by rw[if_neg h]at hstep;exact hstep);clear hstep;by_cases hn:d.name=name
    ·have hn':(d.name=name)=True:=eq_true hn;by_cases hc:countsF d root=true
     ·cases b with
      | none=>
       have hy:=yes ⟨hn,hc,fun j h=>by cases h⟩;simp only[atJ]at s9;with_reducible refine aQ fun K' hK=> ?_
       simp[s2,s3,hn',n0];refine acall_flat (counts239_ok d root) rfl (by first | rfl | (simp;done) | (simp;rfl) | (simp;exact⟨rfl,rfl⟩)) ?_;simp[hc,s9];refine hK _ _ _ ?_;clear K' hK;with_reducible refine aU (by simp) ?_;refine aR fun K' hK=> ?_
       simp;refine hK _ _ _ ?_;clear K' hK;with_reducible refine aw_skipL ?_
       refine blockK_normal ?_;with_reducible refine aS fun K' hK=> ?_
       simp[s10,hw];refine hK _ _ _ ?_;clear K' hK;refine aw_skipL (loopK_normal ?_ ?_)
       ·exact⟨by omega,by simp[s1],by simp[s2],by simp[s3],by simp[s4],by simp[s8],by simp[n0,g0],by simp[n1,g1],i+1,some i,by simp[hw],by omega,by simp[atJ,s10],hy⟩
       ·simp[o10,s10,hw];omega
      | some j=>
       have hj:j<m.deps.length:=(by have:=hb.1;omega);have hj0:¬(j:Int)<0:=(by omega);simp only[atJ]at s9;by_cases hk:d.kind<(nth m.deps j).kind
       ·have hy:=yes ⟨hn,hc,fun z hz=>by injection hz with hz;subst hz;exact hk⟩;with_reducible refine aQ fun K' hK=> ?_
        simp[s2,s3,hn',n0];refine acall_flat (counts239_ok d root) rfl (by first | rfl | (simp;done) | (simp;rfl) | (simp;exact⟨rfl,rfl⟩)) ?_;simp[hc,s4,s9,g0,n0,hj,hj0,hk];refine hK _ _ _ ?_;clear K' hK;with_reducible refine aU (by simp) ?_;refine aR fun K' hK=> ?_
        simp;refine hK _ _ _ ?_;clear K' hK;with_reducible refine aw_skipL ?_
        refine blockK_normal ?_;with_reducible refine aS fun K' hK=> ?_
        simp[s10,hw];refine hK _ _ _ ?_;clear K' hK;refine aw_skipL (loopK_normal ?_ ?_)
        ·exact⟨by omega,by simp[s1],by simp[s2],by simp[s3],by simp[s4],by simp[s8],by simp[n0,g0],by simp[n1,g1],i+1,some i,by simp[hw],by omega,by simp[atJ,s10],hy⟩
        ·simp[o10,s10,hw];omega
       ·have hno:=no fun h=>hk (h.2.2 j rfl);with_reducible refine aQ fun K' hK=> ?_
        simp[s2,s3,hn',n0];refine acall_flat (counts239_ok d root) rfl (by first | rfl | (simp;done) | (simp;rfl) | (simp;exact⟨rfl,rfl⟩)) ?_;simp[hc,s4,s9,g0,n0,hj,hj0,hk];refine hK _ _ _ ?_;clear K' hK;with_reducible refine aVk (by simp) ?_;refine aw_skipL ?_
        refine blockK_normal ?_;with_reducible refine aS fun K' hK=> ?_
        simp[s10,hw];refine hK _ _ _ ?_;clear K' hK;refine aw_skipL (loopK_normal ?_ ?_)
        ·exact⟨by omega,by simp[s1],by simp[s2],by simp[s3],by simp[s4],by simp[s8],by simp[n0,g0],by simp[n1,g1],i+1,some j,by simp[hw],by omega,by simp[atJ,s9],hno⟩
        ·simp[o10,s10,hw];omega
     ·have hc':countsF d root=false:=(by simpa using hc);have hno:=no fun h=>hc h.2.1;with_reducible refine aQ fun K' hK=> ?_
      simp[s2,s3,hn',n0];refine acall_flat (counts239_ok d root) rfl (by first | rfl | (simp;done) | (simp;rfl) | (simp;exact⟨rfl,rfl⟩)) ?_;simp[hc'];refine hK _ _ _ ?_;clear K' hK;with_reducible refine aVk (by simp) ?_;refine aw_skipL ?_
      refine blockK_normal ?_;with_reducible refine aS fun K' hK=> ?_
      simp[s10,hw];refine hK _ _ _ ?_;clear K' hK;refine aw_skipL (loopK_normal ?_ ?_)
      ·exact⟨by omega,by simp[s1],by simp[s2],by simp[s3],by simp[s4],by simp[s8],by simp[n0,g0],by simp[n1,g1],i+1,b,by simp[hw],by omega,by simp[s9],hno⟩
      ·simp[o10,s10,hw];omega
    ·have hno:=no fun h=>hn h.1;with_reducible refine aQ fun K' hK=> ?_
     simp(maxSteps:=1000000) [s2,s3,hn,n0];refine hK _ _ _ ?_;clear K' hK;with_reducible refine aVk (by simp) ?_;refine aw_skipL ?_
     refine blockK_normal ?_;with_reducible refine aS fun K' hK=> ?_
     simp[s10,hw];refine hK _ _ _ ?_;clear K' hK;refine aw_skipL (loopK_normal ?_ ?_)
     ·exact⟨by omega,by simp[s1],by simp[s2],by simp[s3],by simp[s4],by simp[s8],by simp[n0,g0],by simp[n1,g1],i+1,b,by simp[hw],by omega,by simp[s9],hno⟩
     ·simp[o10,s10,hw];omega
   ·skip;with_reducible refine aw_exit ?_
    refine loopK_exit (blockK_exit ?_);have hie:i=m.deps.length:=(by omega);subst hie;with_reducible refine aw_end ?_
    exact⟨hnx,by simp[s1],by simp[s3],by simp[s4],by simp[s8],by simp[g0],by simp[g1],b,by simp[s9],hb⟩
 ·rintro s G nx ⟨hnx,s1,s3,s4,s8,g0,g1,b,s9,hb⟩;obtain⟨j,rfl,hj,hfd⟩:=atE_find hb hm;have hdn:(nth m.deps j).name=name:=by
   obtain⟨_,p,h1,h2⟩:=hb;rw[←h2];exact(posM_lt h1).2
  rw[hfd];have hdd:=hd.2 _ (nth_mem hj);generalize hgd:nth m.deps j=d at*;simp only[atJ]at s9;have n0:¬0=nx:=(by omega);have n1:¬1=nx:=(by omega);have n2:¬1=nx+1:=(by omega);have n3:¬nx=1:=(by omega);have z0:¬nx=0:=(by omega);have y1:¬nx=nx+1+1:=(by omega);have y2:¬nx=nx+1+1+1:=(by omega);have y3:¬nx+1+1=nx:=(by omega);have y4:¬nx+1+1+1=nx:=(by omega);have y5:¬nx+1=nx:=(by omega);have hatd:atF rules d.name=atF rules name:=(by rw[hdn]);have hRu:=rule240_ok rules name hrl;unfold ruleR at hRu;with_reducible refine aR fun K' hK=> ?_
  simp[s4,s9,g0,hj,hgd];refine hK _ _ _ ?_;clear K' hK;with_reducible refine aR fun K' hK=> ?_
  simp[n0];refine acall_new (own86_ok d.range ⟨by omega,fun l hl=>by have:=hdd.2.2 l hl;omega⟩) (by first | rfl | (simp[Rg.cells,Dep.cells];done) | (simp[Rg.cells,Dep.cells];rfl) | (simp[Rg.cells,Dep.cells];exact⟨rfl,rfl⟩)) ?_;simp[addJ_one,Rg.cells,Dep.cells];refine hK _ _ _ ?_;clear K' hK;cases hat:atF rules name with
  | none=>
   rw[hat]at hRu hatd;have he:edgeOf rules d=d:=(by unfold edgeOf;rw[hatd]);rw[he];with_reducible refine aR fun K' hK=> ?_
   simp[s1,s3];refine acall_new hRu (by first | rfl | (simp;done) | (simp;rfl) | (simp;exact⟨rfl,rfl⟩)) ?_;simp[addJ_nil];refine hK _ _ _ ?_;clear K' hK;with_reducible refine aA ?_;refine aR fun K' hK=> ?_
   simp;refine hK _ _ _ ?_;clear K' hK;with_reducible refine aYk (by simp) ?_;refine aR fun K' hK=> ?_
   simp[s8,g1,n1,n2,n3,z0];refine hK _ _ _ ?_;clear K' hK;with_reducible refine aw_retL ?_
   simp[blockK,loopK,Post,resA,res1,expT,expA,exp1,expM,expL,okT,okA,ok1,rowOf,Tryz.f212,s8,n3,z0]
  | some q=>
   rw[hat]at hRu hatd;have he:edgeOf rules d= {d with range:=(nth rules q).range} :=(by unfold edgeOf;rw[hatd]);rw[he];with_reducible refine aR fun K' hK=> ?_
   simp[s1,s3];refine acall_new hRu (by first | rfl | (simp;done) | (simp;rfl) | (simp;exact⟨rfl,rfl⟩)) ?_;simp[addJ_one];refine hK _ _ _ ?_;clear K' hK;with_reducible refine aA ?_;refine aR fun K' hK=> ?_
   simp;refine hK _ _ _ ?_;clear K' hK;with_reducible refine aX (by simp) ?_;refine aR fun K' hK=> ?_
   simp[y1,y2];refine hK _ _ _ ?_;clear K' hK;with_reducible refine aR fun K' hK=> ?_
   simp[s8,g1,n1,n2,n3,z0,y1,y2,y3,y4];refine hK _ _ _ ?_;clear K' hK;with_reducible refine aw_retL ?_
   simp[blockK,loopK,Post,resA,res1,expT,expA,exp1,expM,expL,okT,okA,ok1,rowOf,Tryz.f212,s8,n3,z0,y1,y2,y3,y4]
set_option maxRecDepth 100000
set_option maxHeartbeats 4000000
theorem of183_ok (m:Man) (rules:List Ru) (root:Bool) (hd:Dep.okL m.deps) (hdl:m.deps.length≤1000000000) (hrl:Ru.okL rules):CallsOK Tryz.prog 183 [.agg m.cells,rowT Ru.cells rules,bV root] (.row 0 (ofF m.deps rules root).length) [(35,flat Dep.cells (ofF m.deps rules root))]:=by
 refine callsOK mixed Tryz.call183 Tryz.func183 rfl (by rw[Tryz.ntmps183];simp) ?_ rfl;rw[Tryz.ntmps183];have hof:ofF m.deps rules root=(namesS root m.deps).map fun n=>edgeOf rules (findD (byM root m.deps) n):=rfl;have hSl:(namesS root m.deps).length≤1000000000:=by
  have:=byM_len root m.deps;unfold namesS;rw[(sortN_perm _).length_eq];simp only[namesOf,List.length_map];omega
 have hmem:∀k,k<(namesS root m.deps).length→nth (namesS root m.deps) k∈namesOf (byM root m.deps):=fun k hk=>(sortN_perm _).mem_iff.1 (nth_mem hk);have hn0:=next_first root ⟨#[]⟩ m.deps;have hn1:=fun k hk=>next_then root m.deps (k:=k) hk;rw[hof];generalize hS:namesS root m.deps=S at*;have hel:(S.map fun n=>edgeOf rules (findD (byM root m.deps) n)).length=S.length:=(by simp);have c83:Tryz.prog.cellsOf 83=1:=(by kernel_rfl);with_reducible refine aR fun K' hK=> ?_
 simp;refine hK _ _ _ ?_;clear K' hK;with_reducible refine aR fun K' hK=> ?_
 simp;refine hK _ _ _ ?_;clear K' hK;with_reducible refine aR fun K' hK=> ?_
 simp;refine acall_flat (next211_ok m hdl root true ⟨#[]⟩) rfl (by first | rfl | (simp;done) | (simp;rfl) | (simp;exact⟨rfl,rfl⟩)) ?_;rw[hn0];simp;refine hK _ _ _ ?_;clear K' hK;with_reducible refine aw_block ?_
 refine aw_loop (fun s G nx=>s 1=rowT Ru.cells rules∧s 2=bV root∧s 3=.ptr 0 0∧G 0=some (.var 27 m.cells)∧∃(k q:Nat),k≤S.length∧s 8=sV ((if k<S.length then some (nth S k)else none).getD ⟨#[]⟩)∧s 9=bV (decide (k<S.length))∧s 7=.row q k∧1≤q∧G q=some (.row 35 (flat Dep.cells ((S.take k).map fun n=>edgeOf rules (findD (byM root m.deps) n))))) (fun s _ _=>match s 7 with | .row _ k=>S.length-k | _=>0) ?_ ?_
 ·refine⟨by simp,by simp,by simp,by simp,0,2,by omega,by simp,?_,by simp,by omega,by simp⟩;by_cases h0:0<S.length
  ·simp[h0]
  ·simp[h0]
 ·rintro s G nx hf ⟨s1,s2,s3,g0,k,q,hk,s8,s9,s7,hq,hG⟩;have o7:=s7;have hqn:q<nx:=fresh_lt hf hG;by_cases hk2:k<S.length
  ·have hst:((S.take (k+1)).map fun n=>edgeOf rules (findD (byM root m.deps) n))=((S.take k).map fun n=>edgeOf rules (findD (byM root m.deps) n))++[edgeOf rules (findD (byM root m.deps) (nth S k))]:=by
    rw[List.take_add_one,List.getElem?_eq_getElem hk2,←nth_eq hk2,List.map_append];rfl
   have hE:=edge212_ok m rules root (nth S k) hd hrl (hmem k hk2);have hN:=next211_ok m hdl root false (nth S k);rw[hn1 k hk2]at hN;have hec:(edgeOf rules (findD (byM root m.deps) (nth S k))).cells=[iV (edgeOf rules (findD (byM root m.deps) (nth S k))).kind,sV (edgeOf rules (findD (byM root m.deps) (nth S k))).name,rowT Alt.cells (edgeOf rules (findD (byM root m.deps) (nth S k))).range]:=rfl;generalize edgeOf rules (findD (byM root m.deps) (nth S k))=e at*;rw[if_pos hk2,Option.getD_some]at s8;have htl:min k S.length=k:=(by omega);have b1:k+1≤9223372036854775807:=(by omega);have b2:(k+1)*48≤140737488355328:=(by omega);have hnl:(if k+1<S.length then some (nth S (k+1))else none).isSome=decide (k+1<S.length):=(by split<;>simp_all);rw[hnl]at hN;generalize hT2:(S.take k).map (fun n=>edgeOf rules (findD (byM root m.deps) n))=T at*;have hTl:T.length=k:=(by rw[←hT2,List.length_map,List.length_take];omega);with_reducible refine aA ?_;refine aR fun K' hK=> ?_
   simp[s9,hk2];refine hK _ _ _ ?_;clear K' hK;with_reducible refine aXk (by simp) ?_;refine aw_toS (aw_block ?_);refine aR fun K' hK=> ?_
   simp[s1,s2,s3,s8,g0];refine acall_new hE (by first | rfl | (simp;done) | (simp;rfl) | (simp;exact⟨rfl,rfl⟩)) ?_;simp[addJ_one];refine hK _ _ _ ?_;clear K' hK;refine aw_gen (fun u H nz=>u 1=rowT Ru.cells rules∧u 2=bV root∧u 3=.ptr 0 0∧u 7=.row q k∧u 8=sV (nth S k)∧u 10=.ptr (nx+1) 0∧nz=nx+2∧H 0=some (.var 27 m.cells)∧H q=some (.row 35 (flat Dep.cells T))∧H nx=some (.row 83 (flat Alt.cells e.range))∧H (nx+1)=some (.var 35 [iV e.kind,sV e.name,.row nx e.range.length])) ?_ ?_
   ·have e0:¬0=nx:=(by omega);have e1:¬q=nx:=(by omega);have e2:¬q=nx+1:=(by omega);exact⟨by simp[s1],by simp[s2],by simp[s3],by simp[s7],by simp[s8],by simp,by omega,by simp[e0,g0],by simp[e1,e2,hG],by simp,by simp⟩
   rintro u H nz ⟨u1,u2,u3,u7,u8,u10,rfl,h0,hq2,k1,k2⟩;have hTr:treeOf Tryz.prog H (.row nx e.range.length)=some (rowT Alt.cells e.range):=treeOf_of k1 c83 rfl;have e0:¬0=nx:=(by omega);have e1:¬q=nx:=(by omega);have e2:¬q=nx+2:=(by omega);have e3:¬nx+2=q:=(by omega);have e4:¬0=nx+2:=(by omega);have e5:¬0=nx+2+1:=(by omega);have e6:¬0=q:=(by omega);have w0:frzOf H (.row nx e.range.length) 0=some (.var 27 m.cells):=(by rw[frzOf_ne (by omega)];exact h0);with_reducible refine aR fun K' hK=> ?_
   simp[u7,u10,k2,hTr,hq2,e1,e2,e3,hTl,b1,b2,treeOf_row,srcOf_row];refine hK _ _ _ ?_;clear K' hK;with_reducible refine aS fun K' hK=> ?_
   simp[u2,u3,u8,w0,e4,e5,e6];refine acall_flat hN rfl (by first | rfl | (simp[w0,e4,e5,e6];done) | (simp[w0,e4,e5,e6];rfl) | (simp[w0,e4,e5,e6];exact⟨rfl,rfl⟩)) ?_;simp;refine hK _ _ _ ?_;clear K' hK;with_reducible refine aw_skipL ?_
   refine blockK_normal ?_;refine aw_skipL (loopK_normal ?_ ?_)
   ·refine⟨by simp[u1],by simp[u2],by simp[u3],by simp[w0,e4,e5,e6],k+1,nx+2+1,by omega,by simp,by simp,by simp,by omega,?_⟩;rw[hst,←flat_snoc,hec];simp
   ·simp[o7];omega
  ·have hke:k=S.length:=(by omega);subst hke;rw[List.take_length]at hG;with_reducible refine aA ?_;refine aR fun K' hK=> ?_
   simp[s9];refine hK _ _ _ ?_;clear K' hK;with_reducible refine aY (by simp) ?_;refine aw_exit ?_
   refine loopK_exit (blockK_exit ?_);with_reducible refine aR fun K' hK=> ?_
   simp[s7];refine hK _ _ _ ?_;clear K' hK;with_reducible refine aw_retL ?_
   simp[blockK,loopK,Post,resA,res1,expT,expA,exp1,expM,expL,okT,okA,ok1,rowOf,Tryz.f183,hG]
set_option maxRecDepth 100000
set_option maxHeartbeats 400000
theorem numP_atoi {l:List UInt8} (h:numOk l=true):numP l=true∧numR l=atoiN l:=by
 have hp:numP l=true∧l.length≤6:=by
  unfold numOk at h;simp only[Bool.and_eq_true,decide_eq_true_eq]at h;exact⟨h.1,h.2.1⟩
 have h2:=hp.1;rw[numP_eq]at h2;simp only[Bool.and_eq_true,Bool.not_eq_true',decide_eq_false_iff_not]at h2;refine⟨hp.1,?_⟩;rw[numR,if_pos h,atoi_num h2.1 h2.2 (by omega)]
theorem partF_num {l:List UInt8} (h:partF l=true) (hn:numP l=true):numR l=atoiN l:=by
 unfold partF at h;simp only[Bool.and_eq_true,beq_iff_eq]at h;rw[hn]at h;exact(numP_atoi h.2.2.2.symm).2
def partsR (a b:Bs):Int:=if numP (bsL a)=true∧numP (bsL b)=true then cmpI (numR (bsL a)) (numR (bsL b))else if numP (bsL a)=true then-1 else if numP (bsL b)=true then 1 else cmpB a b
theorem partsR_eq {a b:Bs} (ha:partF (bsL a)=true) (hb:partF (bsL b)=true):partsR a b=partsN a b:=by
 unfold partsR partsN;by_cases h1:numP (bsL a)=true
 ·by_cases h2:numP (bsL b)=true
  ·rw[if_pos ⟨h1,h2⟩,if_pos h1,if_pos h2,partF_num ha h1,partF_num hb h2]
  ·rw[if_neg (fun h=>h2 h.2),if_pos h1,if_pos h1,if_neg h2]
 ·rw[if_neg (fun h=>h1 h.1),if_neg h1,if_neg h1]
end Go.Proofs.YtgipehooceecpaaGreatDoorAbs
