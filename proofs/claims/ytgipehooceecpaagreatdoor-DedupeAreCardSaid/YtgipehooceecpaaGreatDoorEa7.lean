/- valid.Manifest, To, Holds. -/
import Derived.Test.YtgipehooceecpaaGreatDoorEa6
import Derived.Test.YtgipehooceecpaaGreatDoorEa3
import Derived.Shelf.SlIter.Nil
import Derived.Shelf.SortM.Plain
import Derived.Shelf.SortM.SortNone
import Derived.Ground.GgzProg
import Derived.Ground.SlgmProg
import Derived.Test.YtgipehooceecpaaGreatDoorProg
import Derived.Test.YtgipehooceecpaaGreatDoorEa2
import Derived.Sort.Walk0
import Derived.Sort.KeysCollected
namespace Go.Proofs.YtgipehooceecpaaGreatDoorAbs
set_option linter.unusedSimpArgs false
set_option linter.unusedVariables false
open Go Go.RowKit Go.Proofs
set_option maxRecDepth 100000
set_option maxHeartbeats 400000
theorem libRow {P:Program} [Gl P] {f:FuncId} {xs vs:List Value} {e:TypeId} (hent:∀args w,(callFunc f args).run P w=.ok (.enter f args) w) (hv:∀v∈vs,v.oneCell'=true)
  (hc:P.cellsOf e=1) (hne:vs≠[]) (hmax:vs.length≤1000000000)
  (h:∀w,Gl.ok P w→Calls P f xs.toArray w fun r w'=>r=.returned (.slice (some ⟨w.heap.size,0,none⟩) vs.length vs.length)∧w'=w.alloc (.cells vs.toArray e)):CallsOK P f (xs.map .v) (.row 0 vs.length) [(e,vs.map .v)]:=by
 refine⟨rfl,hent,fun w us F hF hΓ hx=> ?_⟩;rw[all2_v hx];refine(h w (hΓ w (ExtC.refl _ _))).mono ?_;rintro r w' ⟨rfl,rfl⟩;have hb:Below w.heap.size w (w.alloc (.cells vs.toArray e)):=(Below.refl _ w).alloc (Nat.le_refl _) _;have hcur:(w.alloc (.cells vs.toArray e)).heap[w.heap.size]? =some (.cells vs.toArray e):=World.alloc_heap_new _ _;have hA:=Rel.app (w':=w.alloc (.cells vs.toArray e)) (G:=fun _=>none) (nx:=0) (e:=e) (all:=vs.map .v) (rel_zero hF hΓ) rfl (id:=none) (b:=some w.heap.size) (fun j hj=>by cases hj) (fun x hx=>by injection hx with hx;exact .inl (Nat.le_of_eq hx)) (Ext.of_below _ hb) (fun x hx _=>hb.block x hx)
  (fun x hx=>by injection hx with hx;subst hx;exact(Array.getElem?_eq_some_iff.1 hcur).1) (fun x hx=>by
   injection hx with hx;subst hx;refine⟨vs,hcur,by simp,fun i a u ha hu=> ?_⟩;rw[List.getElem?_map,hu]at ha;injection ha with ha;subst ha;exact .v (hv u (List.mem_of_getElem? hu))) (fun h=>by cases h)
 have hJ:ofJ [(e,vs.map AV.v)]=((killId (fun _=>none) none).upd 0 (.row e (vs.map .v)):Hp):=by
  funext i;cases i with
  | zero=>rfl
  | succ i=>simp[ofJ,Hp.upd,killId]
 refine⟨_,(En.zero F).app 0 none (some w.heap.size),rfl,?_,by rw[hJ];exact hA.1,rfl,hb,fun i b h=> ?_⟩
 ·refine .row (show((En.zero F).app 0 none (some w.heap.size)).K 0 from .inl rfl) rfl (fun b hb=> ?_) (fun hN=> ?_)
  ·simp[En.app]at hb;subst hb;exact⟨vs.length,e,rfl,by omega,by simp only[maxLen];omega,by rw[World.shape?,hcur];simp[hc]⟩
  ·simp[En.app]at hN
 ·simp[En.app,En.zero]at h;omega
theorem isNaN230_ok (a:Int):CallsOK Tryz.prog 230 [iV a] (bV false) []:=by
 refine callsOK mixed Tryz.call230 Tryz.func230 rfl (by rw[Tryz.ntmps230];simp) ?_ rfl;rw[Tryz.ntmps230];with_reducible refine aR fun K' hK=> ?_
 simp;refine hK _ _ _ ?_;clear K' hK;with_reducible refine aR fun K' hK=> ?_
 simp;refine hK _ _ _ ?_;clear K' hK;with_reducible refine aw_retL ?_
 simp[blockK,loopK,Post,resA,res1,expT,expA,exp1,expM,expL,okT,okA,ok1,rowOf,Tryz.f230]
theorem cmpI_ok (a b:Int):CallsOK Tryz.prog 196 [iV a,iV b] (iV (cmpI a b)) []:=by
 refine callsOK mixed Tryz.call196 Tryz.func196 rfl (by rw[Tryz.ntmps196];simp) ?_ rfl;rw[Tryz.ntmps196];with_reducible refine aR fun K' hK=> ?_
 simp;refine hK _ _ _ ?_;clear K' hK;with_reducible refine aR fun K' hK=> ?_
 simp;refine acall_flat (isNaN230_ok a) rfl (by simp) ?_;simp;refine hK _ _ _ ?_;clear K' hK;with_reducible refine aR fun K' hK=> ?_
 simp;refine acall_flat (isNaN230_ok b) rfl (by simp) ?_;simp;refine hK _ _ _ ?_;clear K' hK;with_reducible refine aA ?_;refine aR fun K' hK=> ?_
 simp;refine hK _ _ _ ?_;clear K' hK;with_reducible refine aYk (by simp) ?_;refine aA ?_;refine aR fun K' hK=> ?_
 simp;refine hK _ _ _ ?_;clear K' hK;with_reducible refine aYk (by simp) ?_;refine aA ?_;refine aR fun K' hK=> ?_
 simp;refine hK _ _ _ ?_;clear K' hK;with_reducible refine aC fun A B hA hB=> ?_
 simp;refine⟨fun h1=>hA ?_,fun h1=>hB ?_⟩<;>clear hA hB A B<;>(try simp at h1)<;>(try with_reducible refine aK ?_)
 ·with_reducible refine aA ?_;refine aR fun K' hK=> ?_
  simp;refine hK _ _ _ ?_;clear K' hK;with_reducible refine aw_ret ?_
  simp[blockK,loopK,Post,resA,res1,expT,expA,exp1,expM,expL,okT,okA,ok1,rowOf,Tryz.f196];simp[cmpI,h1]
 ·with_reducible refine aA ?_;refine aR fun K' hK=> ?_
  simp;refine hK _ _ _ ?_;clear K' hK;with_reducible refine aC fun A B hA hB=> ?_
  simp;refine⟨fun h2=>hA ?_,fun h2=>hB ?_⟩<;>clear hA hB A B<;>(try simp at h2)<;>(try with_reducible refine aK ?_)
  ·with_reducible refine aA ?_;refine aR fun K' hK=> ?_
   simp;refine hK _ _ _ ?_;clear K' hK;with_reducible refine aw_ret ?_
   simp[blockK,loopK,Post,resA,res1,expT,expA,exp1,expM,expL,okT,okA,ok1,rowOf,Tryz.f196];simp[cmpI,h1,h2]
  ·skip;with_reducible refine aR fun K' hK=> ?_
   simp;refine hK _ _ _ ?_;clear K' hK;with_reducible refine aw_retL ?_
   simp[blockK,loopK,Post,resA,res1,expT,expA,exp1,expM,expL,okT,okA,ok1,rowOf,Tryz.f196];simp only[cmpI];rw[if_neg (by omega),if_neg (by omega)]
theorem isNaN195_ok (a:Bs):CallsOK Tryz.prog 195 [sV a] (bV false) []:=by
 refine callsOK mixed Tryz.call195 Tryz.func195 rfl (by rw[Tryz.ntmps195];simp) ?_ rfl;rw[Tryz.ntmps195];with_reducible refine aR fun K' hK=> ?_
 simp;refine hK _ _ _ ?_;clear K' hK;with_reducible refine aR fun K' hK=> ?_
 simp;refine hK _ _ _ ?_;clear K' hK;with_reducible refine aw_retL ?_
 simp[blockK,loopK,Post,resA,res1,expT,expA,exp1,expM,expL,okT,okA,ok1,rowOf,Tryz.f195]
theorem cmpB_ok (a b:Bs):CallsOK Tryz.prog 159 [sV a,sV b] (iV (cmpB a b)) []:=by
 refine callsOK mixed Tryz.call159 Tryz.func159 rfl (by rw[Tryz.ntmps159];simp) ?_ rfl;rw[Tryz.ntmps159];with_reducible refine aR fun K' hK=> ?_
 simp;refine hK _ _ _ ?_;clear K' hK;with_reducible refine aR fun K' hK=> ?_
 simp;refine acall_flat (isNaN195_ok a) rfl (by simp) ?_;simp;refine hK _ _ _ ?_;clear K' hK;with_reducible refine aR fun K' hK=> ?_
 simp;refine acall_flat (isNaN195_ok b) rfl (by simp) ?_;simp;refine hK _ _ _ ?_;clear K' hK;with_reducible refine aA ?_;refine aR fun K' hK=> ?_
 simp;refine hK _ _ _ ?_;clear K' hK;with_reducible refine aYk (by simp) ?_;refine aA ?_;refine aR fun K' hK=> ?_
 simp;refine hK _ _ _ ?_;clear K' hK;with_reducible refine aYk (by simp) ?_;refine aA ?_;refine aR fun K' hK=> ?_
 simp;refine hK _ _ _ ?_;clear K' hK;with_reducible refine aC fun A B hA hB=> ?_
 simp;refine⟨fun h1=>hA ?_,fun h1=>hB ?_⟩<;>clear hA hB A B<;>(try simp at h1)<;>(try with_reducible refine aK ?_)
 ·with_reducible refine aA ?_;refine aR fun K' hK=> ?_
  simp;refine hK _ _ _ ?_;clear K' hK;with_reducible refine aw_ret ?_
  simp[blockK,loopK,Post,resA,res1,expT,expA,exp1,expM,expL,okT,okA,ok1,rowOf,Tryz.f159];simp[cmpB,h1]
 ·with_reducible refine aA ?_;refine aR fun K' hK=> ?_
  simp;refine hK _ _ _ ?_;clear K' hK;with_reducible refine aC fun A B hA hB=> ?_
  simp;refine⟨fun h2=>hA ?_,fun h2=>hB ?_⟩<;>clear hA hB A B<;>(try simp at h2)<;>(try with_reducible refine aK ?_)
  ·with_reducible refine aA ?_;refine aR fun K' hK=> ?_
   simp;refine hK _ _ _ ?_;clear K' hK;with_reducible refine aw_ret ?_
   simp[blockK,loopK,Post,resA,res1,expT,expA,exp1,expM,expL,okT,okA,ok1,rowOf,Tryz.f159];simp[cmpB,h1,h2]
  ·skip;with_reducible refine aR fun K' hK=> ?_
   simp;refine hK _ _ _ ?_;clear K' hK;with_reducible refine aw_retL ?_
   simp[blockK,loopK,Post,resA,res1,expT,expA,exp1,expM,expL,okT,okA,ok1,rowOf,Tryz.f159];simp[cmpB,h1,h2]
theorem splC:∀(k:Nat) (l:List UInt8),l.count 46≤k→(spl l).length=l.count 46+1∧Lib.count l [46]=l.count 46
 | k,l,h=>by
  by_cases hm:(46:UInt8)∈l
  ·obtain⟨a,r,h1,rfl⟩:=first_at hm;have hc:(a++46::r).count 46=r.count 46+1:=by
    rw[List.count_append,List.count_eq_zero_of_not_mem h1,List.count_cons_self];omega
   match k,h with
   | 0,h=>omega
   | k+1,h=>
    obtain⟨i1,i2⟩:=splC k r (by omega);have hi:Lib.index (a++46::r) [46]=a.length:=(by rw[Lib.index_one,ib_in h1]);rw[Lib.count_hit (by simp) hi,spl_in h1,List.length_singleton,show(a++46::r).drop (a.length+1)=r by simp,i2,hc,List.length_cons,i1];omega
  ·have hc:l.count 46=0:=List.count_eq_zero_of_not_mem hm;have hi:Lib.index l [46]= -1:=(by rw[Lib.index_one,ib_out hm]);rw[Lib.count_miss hi,spl_out hm,hc];simp
theorem split_ok (s:Bs) (hs:s.size≤1000000):CallsOK Tryz.prog 198 [sV s,sV ⟨#[46]⟩] (.row 0 (strs (spl (bsL s))).length) [(9,flat sC (strs (spl (bsL s))))]:=by
 have e0:(Lib.splitB ⟨#[46]⟩ 0 (Lib.countB s ⟨#[46]⟩) s).map bsL=spl (bsL s):=by
  have:=Lib.splitB_data ⟨#[46]⟩ 0 (Lib.countB s ⟨#[46]⟩) s;rw[show(fun x:ByteArray=>x.data.toList)=bsL from rfl]at this;rw[this];refine split_go _ _ ?_;exact Nat.le_of_eq (splC _ _ (Nat.le_refl _)).2.symm
 have e1:strs (spl (bsL s))=Lib.splitB ⟨#[46]⟩ 0 (Lib.countB s ⟨#[46]⟩) s:=by
  rw[←e0,strs,List.map_map]
  conv=>rhs;rw[←List.map_id (Lib.splitB _ _ _ _)]
  exact List.map_congr_left fun x _=>ofL_bsL x
 have hlen:Lib.countB s ⟨#[46]⟩+1=(strs (spl (bsL s))).length:=by
  have h:=splC _ (bsL s) (Nat.le_refl _);rw[strs,List.length_map,h.1];exact congrArg (· +1) h.2
 have hl:(strs (spl (bsL s))).length≤s.size+1:=by
  have h1:=(splC _ (bsL s) (Nat.le_refl _)).1;have h2:=List.count_le_length (a:=(46:UInt8)) (l:=bsL s);rw[bsL_len]at h2;simp only[strs,List.length_map];omega
 have h:=libRow (f:=198) (xs:=[.string s,.string ⟨#[46]⟩]) (vs:=(strs (spl (bsL s))).map Value.string) (e:=9) Tryz.call198 (by simp[Value.oneCell']) (by kernel_rfl) (by simp[←List.length_pos_iff];omega) (by simp;omega) fun w hw=>by
  obtain⟨m,hm⟩:=hw.2.2.2.1;refine(Tryz.strings_Split s ⟨#[46]⟩ m w (by omega) hm (by decide)).mono ?_;rintro e w' ⟨rfl,rfl⟩;rw[←e1,hlen];simp
 have e2:((strs (spl (bsL s))).map Value.string).map AV.v=flat sC (strs (spl (bsL s))):=by
  unfold flat;generalize strs (spl (bsL s))=L;induction L with
  | nil=>rfl
  | cons a L ih=>rw[List.map_cons,List.map_cons,List.flatMap_cons,ih];rfl
 rw[e2,List.length_map]at h;exact h
theorem parts_ok (a b:Bs) (ha:a.size≤4000000000) (hb:b.size≤4000000000):CallsOK Tryz.prog 199 [sV a,sV b] (iV (partsN a b)) []:=by
 refine callsOK mixed Tryz.call199 Tryz.func199 rfl (by rw[Tryz.ntmps199];simp) ?_ rfl;rw[Tryz.ntmps199];with_reducible refine aR fun K' hK=> ?_
 simp;refine hK _ _ _ ?_;clear K' hK;with_reducible refine aR fun K' hK=> ?_
 simp;refine acall_flat (number87_ok a ha) rfl (by simp) ?_;simp;refine hK _ _ _ ?_;clear K' hK;with_reducible refine aR fun K' hK=> ?_
 simp;refine acall_flat (number87_ok b hb) rfl (by simp) ?_;simp;refine hK _ _ _ ?_;clear K' hK;with_reducible refine aw_block ?_
 by_cases h1:numP (bsL a)=true
 ·by_cases h2:numP (bsL b)=true
  ·skip;with_reducible refine aR fun K' hK=> ?_
   simp[h1,h2];refine hK _ _ _ ?_;clear K' hK;with_reducible refine aU (by simp[h1,h2]) ?_;refine aA ?_;refine aR fun K' hK=> ?_
   simp;refine acall_flat (cmpI_ok (atoiN (bsL a)) (atoiN (bsL b))) rfl (by simp) ?_;simp;refine hK _ _ _ ?_;clear K' hK;with_reducible refine aw_ret ?_
   simp[blockK,loopK,Post,resA,res1,expT,expA,exp1,expM,expL,okT,okA,ok1,rowOf,Tryz.f199];simp[partsN,h1,h2]
  ·skip;with_reducible refine aR fun K' hK=> ?_
   simp[h1,h2];refine hK _ _ _ ?_;clear K' hK;with_reducible refine aV (by simp[h1,h2]) ?_;refine aA ?_;refine aR fun K' hK=> ?_
   simp[h1,h2];refine hK _ _ _ ?_;clear K' hK;with_reducible refine aX (by simp[h1,h2]) ?_;refine aA ?_;refine aR fun K' hK=> ?_
   simp;refine hK _ _ _ ?_;clear K' hK;with_reducible refine aw_ret ?_
   simp[blockK,loopK,Post,resA,res1,expT,expA,exp1,expM,expL,okT,okA,ok1,rowOf,Tryz.f199];simp[partsN,h1,h2]
 ·by_cases h2:numP (bsL b)=true
  ·skip;with_reducible refine aR fun K' hK=> ?_
   simp[h1,h2];refine hK _ _ _ ?_;clear K' hK;with_reducible refine aV (by simp[h1,h2]) ?_;refine aA ?_;refine aR fun K' hK=> ?_
   simp[h1,h2];refine hK _ _ _ ?_;clear K' hK;with_reducible refine aY (by simp[h1,h2]) ?_;refine aA ?_;refine aR fun K' hK=> ?_
   simp[h1,h2];refine hK _ _ _ ?_;clear K' hK;with_reducible refine aX (by simp[h1,h2]) ?_;refine aA ?_;refine aR fun K' hK=> ?_
   simp;refine hK _ _ _ ?_;clear K' hK;with_reducible refine aw_ret ?_
   simp[blockK,loopK,Post,resA,res1,expT,expA,exp1,expM,expL,okT,okA,ok1,rowOf,Tryz.f199];simp[partsN,h1,h2]
  ·skip;with_reducible refine aR fun K' hK=> ?_
   simp[h1,h2];refine hK _ _ _ ?_;clear K' hK;with_reducible refine aV (by simp[h1,h2]) ?_;refine aA ?_;refine aR fun K' hK=> ?_
   simp[h1,h2];refine hK _ _ _ ?_;clear K' hK;with_reducible refine aY (by simp[h1,h2]) ?_;refine aA ?_;refine aR fun K' hK=> ?_
   simp[h1,h2];refine hK _ _ _ ?_;clear K' hK;with_reducible refine aYk (by simp[h1,h2]) ?_;refine aw_skipL ?_
   refine blockK_normal ?_;with_reducible refine aR fun K' hK=> ?_
   simp;refine acall_flat (cmpB_ok a b) rfl (by simp) ?_;simp;refine hK _ _ _ ?_;clear K' hK;with_reducible refine aw_retL ?_
   simp[blockK,loopK,Post,resA,res1,expT,expA,exp1,expM,expL,okT,okA,ok1,rowOf,Tryz.f199];simp[partsN,h1,h2]
set_option maxRecDepth 100000
set_option maxHeartbeats 1000000
def orN:List Int→Int
 | []=>0
 | a::l=>if a=0 then orN l else a
theorem orN_drop {l:List Int} {i:Nat} (h:i<l.length):orN (l.drop i)=if nth l i=0 then orN (l.drop (i+1))else nth l i:=by
 rw[List.drop_eq_getElem_cons h,orN,nth_eq h]
theorem or_ok (l:List Int) (hl:l.length<4611686018427387904):CallsOK Tryz.prog 157 [rowT iC l] (iV (orN l)) []:=by
 refine callsOK mixed Tryz.call157 Tryz.func157 rfl (by rw[Tryz.ntmps157];simp) ?_ rfl;rw[Tryz.ntmps157];with_reducible refine aR fun K' hK=> ?_
 simp;refine hK _ _ _ ?_;clear K' hK;with_reducible refine aR fun K' hK=> ?_
 simp;refine hK _ _ _ ?_;clear K' hK;with_reducible refine aA ?_;refine aR fun K' hK=> ?_
 simp;refine hK _ _ _ ?_;clear K' hK;with_reducible refine aw_block ?_
 refine aw_loop (fun s G nx=>s 6=rowT iC l∧s 3=iV 0∧s 7=iV l.length∧∃i:Nat,s 8=iV i∧i≤l.length∧orN l=orN (l.drop i)) (fun s _ _=>match s 8 with | .v (.int _ n)=>l.length-n.toNat | _=>0) ?_ ?_
 ·exact⟨by simp,by simp,by simp,0,by simp,by omega,by simp⟩
 ·rintro s G nx-⟨s6,s3,s7,i,s8,hi,ht⟩;have hw:IntKind.i64.wrap (↑i+1)=((i+1:Nat):Int):=wrapS (by omega);with_reducible refine aR fun K' hK=> ?_
  simp[s7,s8];refine hK _ _ _ ?_;clear K' hK;with_reducible refine aC fun A B hA hB=> ?_
  simp;refine⟨fun hi2=>hA ?_,fun hi2=>hB ?_⟩<;>clear hA hB A B<;>(try simp at hi2)<;>(try with_reducible refine aK ?_)
  ·have hstep:=orN_drop hi2;with_reducible refine aw_block ?_;refine aR fun K' hK=> ?_
   simp[s6,s8,hi2];refine hK _ _ _ ?_;clear K' hK;by_cases h0:nth l i=0
   ·skip;with_reducible refine aR fun K' hK=> ?_
    simp[s3,h0];refine hK _ _ _ ?_;clear K' hK;with_reducible refine aVk (by simp[h0]) ?_;refine aw_skipL ?_
    refine blockK_normal ?_;with_reducible refine aS fun K' hK=> ?_
    simp[s8,hw];refine hK _ _ _ ?_;clear K' hK;refine aw_skipL (loopK_normal ?_ ?_)
    ·exact⟨by simp[s6],by simp[s3],by simp[s7],i+1,by simp[hw],by omega,by rw[ht,hstep,if_pos h0]⟩
    ·simp[s8,hw];omega
   ·skip;with_reducible refine aR fun K' hK=> ?_
    simp[s3,h0];refine hK _ _ _ ?_;clear K' hK;with_reducible refine aU (by simp[h0]) ?_;refine aA ?_;refine aR fun K' hK=> ?_
    simp;refine hK _ _ _ ?_;clear K' hK;with_reducible refine aw_ret ?_
    simp[blockK,loopK,Post,resA,res1,expT,expA,exp1,expM,expL,okT,okA,ok1,rowOf,Tryz.f157];rw[ht,hstep,if_neg h0]
  ·skip;with_reducible refine aw_exit ?_
   refine loopK_exit (blockK_exit ?_);with_reducible refine aR fun K' hK=> ?_
   simp[s3];refine hK _ _ _ ?_;clear K' hK;with_reducible refine aw_retL ?_
   simp[blockK,loopK,Post,resA,res1,expT,expA,exp1,expM,expL,okT,okA,ok1,rowOf,Tryz.f157];rw[ht,List.drop_of_length_le (by omega)];rfl
theorem rowsN_drop {x y:List Bs} {i:Nat} (hx:i<x.length) (hy:i<y.length):rowsN (x.drop i) (y.drop i)=if partsN (nth x i) (nth y i)=0 then rowsN (x.drop (i+1)) (y.drop (i+1))else partsN (nth x i) (nth y i):=by
 rw[List.drop_eq_getElem_cons hx,List.drop_eq_getElem_cons hy,rowsN,nth_eq hx,nth_eq hy]
theorem rowsN_end {x y:List Bs} {i:Nat} (h:x.length=i∧i≤y.length∨y.length=i∧i≤x.length):rowsN (x.drop i) (y.drop i)=cmpI x.length y.length:=by
 have e:rowsN (x.drop i) (y.drop i)=cmpI (x.drop i).length (y.drop i).length:=by
  rcases h with⟨h,_⟩ | ⟨h,_⟩
  ·rw[List.drop_of_length_le (l:=x) (by omega)];cases y.drop i<;>rfl
  ·rw[List.drop_of_length_le (l:=y) (by omega)];cases x.drop i<;>rfl
 rw[e,List.length_drop,List.length_drop];unfold cmpI;congr 1
 ·simp only[eq_iff_iff];omega
 ·congr 1;simp only[eq_iff_iff];omega
theorem rows_ok (x y:List Bs) (hx:x.length<1000000000) (hy:y.length<1000000000) (hxs:∀b∈x,b.size≤4000000000) (hys:∀b∈y,b.size≤4000000000):CallsOK Tryz.prog 197 [rowT sC x,rowT sC y,.fn 199 []] (iV (rowsN x y)) []:=by
 refine callsOK mixed Tryz.call197 Tryz.func197 rfl (by rw[Tryz.ntmps197];simp) ?_ rfl;rw[Tryz.ntmps197];obtain⟨m,hm,hmx,hmy,hme⟩:∃m:Nat,(if y.length<x.length then(y.length:Int)else(x.length:Int))=(m:Int)∧m≤x.length∧m≤y.length∧(x.length=m∨y.length=m):=⟨min x.length y.length,by split<;>omega,by omega,by omega,by omega⟩;with_reducible refine aR fun K' hK=> ?_
 simp;refine hK _ _ _ ?_;clear K' hK;with_reducible refine aA ?_;refine aR fun K' hK=> ?_
 simp[hm];refine hK _ _ _ ?_;clear K' hK;with_reducible refine aw_block ?_
 refine aw_loop (fun s G nx=>s 0=rowT sC x∧s 1=rowT sC y∧s 2=.fn 199 []∧s 13=iV m∧∃i:Nat,s 14=iV i∧i≤m∧rowsN x y=rowsN (x.drop i) (y.drop i)) (fun s _ _=>match s 14 with | .v (.int _ n)=>m-n.toNat | _=>0) ?_ ?_
 ·exact⟨by simp,by simp,by simp,by simp[hm],0,by simp,by omega,by simp⟩
 ·rintro s G nx-⟨s0,s1,s2,s13,i,s14,hi,ht⟩;have hw:IntKind.i64.wrap (↑i+1)=((i+1:Nat):Int):=wrapS (by omega);with_reducible refine aR fun K' hK=> ?_
  simp[s13,s14];refine hK _ _ _ ?_;clear K' hK;with_reducible refine aC fun A B hA hB=> ?_
  simp;refine⟨fun hi2=>hA ?_,fun hi2=>hB ?_⟩<;>clear hA hB A B<;>(try simp at hi2)<;>(try with_reducible refine aK ?_)
  ·have hix:i<x.length:=(by omega);have hiy:i<y.length:=(by omega);have hstep:=rowsN_drop hix hiy;with_reducible refine aw_block ?_;refine aR fun K' hK=> ?_
   simp[s14];refine hK _ _ _ ?_;clear K' hK;with_reducible refine aQ fun K' hK=> ?_
   simp[s0,s1,s2,hix,hiy];refine acall_flat (parts_ok (nth x i) (nth y i) (hxs _ (nth_mem hix)) (hys _ (nth_mem hiy))) rfl (by simp) ?_;simp;refine hK _ _ _ ?_;clear K' hK;by_cases h0:partsN (nth x i) (nth y i)=0
   ·skip;with_reducible refine aR fun K' hK=> ?_
    simp[h0];refine hK _ _ _ ?_;clear K' hK;with_reducible refine aVk (by simp[h0]) ?_;refine aw_skipL ?_
    refine blockK_normal ?_;with_reducible refine aS fun K' hK=> ?_
    simp[s14,hw];refine hK _ _ _ ?_;clear K' hK;refine aw_skipL (loopK_normal ?_ ?_)
    ·exact⟨by simp[s0],by simp[s1],by simp[s2],by simp[s13],i+1,by simp[hw],by omega,by rw[ht,hstep,if_pos h0]⟩
    ·simp[s14,hw];omega
   ·skip;with_reducible refine aR fun K' hK=> ?_
    simp[h0];refine hK _ _ _ ?_;clear K' hK;with_reducible refine aU (by simp[h0]) ?_;refine aA ?_;refine aR fun K' hK=> ?_
    simp;refine hK _ _ _ ?_;clear K' hK;with_reducible refine aw_ret ?_
    simp[blockK,loopK,Post,resA,res1,expT,expA,exp1,expM,expL,okT,okA,ok1,rowOf,Tryz.f197];rw[ht,hstep,if_neg h0]
  ·skip;with_reducible refine aw_exit ?_
   refine loopK_exit (blockK_exit ?_);with_reducible refine aR fun K' hK=> ?_
   simp[s0,s1];refine acall_flat (cmpI_ok x.length y.length) rfl (by simp) ?_;simp;refine hK _ _ _ ?_;clear K' hK;with_reducible refine aw_retL ?_
   simp[blockK,loopK,Post,resA,res1,expT,expA,exp1,expM,expL,okT,okA,ok1,rowOf,Tryz.f197];rw[ht,rowsN_end (by omega)]
theorem vright_ok (v:Ver) (hs:v.pre.size≤4000000000):CallsOK Tryz.prog 174 [.agg v.cells] (bV (verOk v)) []:=right65_ok v hs
theorem strs_size {s:Bs} {b:Bs} (h:b∈strs (spl (bsL s))):b.size≤s.size:=by
 obtain⟨l,hl,rfl⟩:=List.mem_map.1 h;have:∀(t:List UInt8) (l:List UInt8),l∈spl t→l.length≤t.length:=by
  intro t;induction t with
  | nil=>intro l hl;simp[spl]at hl;simp[hl]
  | cons c t ih=>
   intro l hl;rw[spl]at hl;split at hl
   ·rcases List.mem_cons.1 hl with rfl | h
    ·simp
    ·have:=ih l h;simp;omega
   ·cases hs:spl t with
    | nil=>rw[hs]at hl;simp at hl;subst hl;simp
    | cons p ps=>
     rw[hs]at hl ih;rcases List.mem_cons.1 hl with rfl | h
     ·have:=ih p (List.mem_cons_self ..);simp;omega
     ·have:=ih l (List.mem_cons_of_mem _ h);simp;omega
 have:=this _ _ hl;rw[bsL_len]at this;show l.toArray.size≤_;simpa using this
theorem orN3 (a b:Ver):orN [cmpI a.maj b.maj,cmpI a.min b.min,cmpI a.pat b.pat]=coreN a b:=by
 simp only[orN,coreN];by_cases h1:cmpI a.maj b.maj=0
 ·by_cases h2:cmpI a.min b.min=0
  ·by_cases h3:cmpI a.pat b.pat=0<;>simp[h1,h2,h3]
  ·simp[h1,h2]
 ·simp[h1]
theorem strs_le (s:Bs):(strs (spl (bsL s))).length≤s.size+1:=by
 have h1:=(splC _ (bsL s) (Nat.le_refl _)).1;have h2:=List.count_le_length (a:=(46:UInt8)) (l:=bsL s);rw[bsL_len]at h2;simp only[strs,List.length_map];omega
theorem compare_ok (a b:Ver) (ha:a.pre.size≤1000000) (hb:b.pre.size≤1000000):CallsOK Tryz.prog 160 [.agg a.cells,.agg b.cells] (iV (comparN a b)) []:=by
 refine callsOK mixed Tryz.call160 Tryz.func160 rfl (by rw[Tryz.ntmps160];simp) ?_ rfl;rw[Tryz.ntmps160];with_reducible refine aR fun K' hK=> ?_
 simp;refine hK _ _ _ ?_;clear K' hK;with_reducible refine aA ?_;refine aR fun K' hK=> ?_
 simp;refine acall_flat (vright_ok a (by omega)) rfl (by simp) ?_;by_cases va:verOk a=true
 ·by_cases vb:verOk b=true
  ·simp[va];refine acall_flat (vright_ok b (by omega)) rfl (by simp) ?_;simp[vb];refine hK _ _ _ ?_;clear K' hK;with_reducible refine aYk (by simp) ?_;refine aQ fun K' hK=> ?_
   simp;refine acall_flat (cmpI_ok a.maj b.maj) rfl (by simp) ?_;simp;refine acall_flat (cmpI_ok a.min b.min) rfl (by simp) ?_;simp;refine acall_flat (cmpI_ok a.pat b.pat) rfl (by simp) ?_;simp;refine acall_flat (or_ok [cmpI a.maj b.maj,cmpI a.min b.min,cmpI a.pat b.pat] (by simp)) rfl (by simp[treeOf_row];rfl) ?_;simp;refine hK _ _ _ ?_;clear K' hK;rw[orN3];with_reducible refine aw_block ?_
   have fin:comparN a b=if coreN a b≠0∨a.pre=b.pre then coreN a b else if a.pre=⟨#[]⟩then 1 else if b.pre=⟨#[]⟩then-1 else rowsN (strs (spl (bsL a.pre))) (strs (spl (bsL b.pre))):=(by rw[comparN,if_pos ⟨va,vb⟩]);by_cases hc:coreN a b=0
   ·by_cases hp:a.pre=b.pre
    ·skip;with_reducible refine aR fun K' hK=> ?_
     simp[hc,hp];refine hK _ _ _ ?_;clear K' hK;with_reducible refine aU (by simp[hc,hp]) ?_;refine aA ?_;refine aR fun K' hK=> ?_
     simp;refine hK _ _ _ ?_;clear K' hK;with_reducible refine aw_ret ?_
     simp[blockK,loopK,Post,resA,res1,expT,expA,exp1,expM,expL,okT,okA,ok1,rowOf,Tryz.f160];rw[fin,if_pos (.inr hp)];exact hc.symm
    ·skip;with_reducible refine aR fun K' hK=> ?_
     simp[hc,hp];refine hK _ _ _ ?_;clear K' hK;with_reducible refine aV (by simp[hc,hp]) ?_
     by_cases a0:a.pre=⟨#[]⟩
     ·with_reducible refine aA ?_;refine aR fun K' hK=> ?_
      simp[a0];refine hK _ _ _ ?_;clear K' hK;with_reducible refine aX (by simp[a0]) ?_;refine aA ?_;refine aR fun K' hK=> ?_
      simp;refine hK _ _ _ ?_;clear K' hK;with_reducible refine aw_ret ?_
      simp[blockK,loopK,Post,resA,res1,expT,expA,exp1,expM,expL,okT,okA,ok1,rowOf,Tryz.f160];rw[fin,if_neg (fun h=>h.elim (· hc) hp),if_pos a0]
     ·with_reducible refine aA ?_;refine aR fun K' hK=> ?_
      simp[a0];refine hK _ _ _ ?_;clear K' hK;with_reducible refine aY (by simp[a0]) ?_
      by_cases b0:b.pre=⟨#[]⟩
      ·with_reducible refine aA ?_;refine aR fun K' hK=> ?_
       simp[b0];refine hK _ _ _ ?_;clear K' hK;with_reducible refine aX (by simp[b0]) ?_;refine aA ?_;refine aR fun K' hK=> ?_
       simp;refine hK _ _ _ ?_;clear K' hK;with_reducible refine aw_ret ?_
       simp[blockK,loopK,Post,resA,res1,expT,expA,exp1,expM,expL,okT,okA,ok1,rowOf,Tryz.f160];rw[fin,if_neg (fun h=>h.elim (· hc) hp),if_neg a0,if_pos b0]
      ·with_reducible refine aA ?_;refine aR fun K' hK=> ?_
       simp[b0];refine hK _ _ _ ?_;clear K' hK;with_reducible refine aYk (by simp[b0]) ?_;refine aw_skipL ?_
       refine blockK_normal ?_;with_reducible refine aQ fun K' hK=> ?_
       simp;refine acall_new (split_ok a.pre ha) (by simp) ?_;simp[addJ_one];refine acall_new (split_ok b.pre hb) (by simp) ?_;simp[addJ_one];refine acall_flat (rows_ok (strs (spl (bsL a.pre))) (strs (spl (bsL b.pre))) (by have:=strs_le a.pre;omega) (by have:=strs_le b.pre;omega) (fun x hx=>by have:=strs_size hx;omega) (fun x hx=>by have:=strs_size hx;omega)) rfl (by first | rfl | (simp;done) | (simp;rfl) | (simp;exact⟨rfl,rfl⟩)) ?_;simp;refine hK _ _ _ ?_;clear K' hK;with_reducible refine aw_retL ?_
       simp[blockK,loopK,Post,resA,res1,expT,expA,exp1,expM,expL,okT,okA,ok1,rowOf,Tryz.f160];rw[fin,if_neg (fun h=>h.elim (· hc) hp),if_neg a0,if_neg b0]
   ·skip;with_reducible refine aR fun K' hK=> ?_
    simp[hc];refine hK _ _ _ ?_;clear K' hK;with_reducible refine aU (by simp[hc]) ?_;refine aA ?_;refine aR fun K' hK=> ?_
    simp;refine hK _ _ _ ?_;clear K' hK;with_reducible refine aw_ret ?_
    simp[blockK,loopK,Post,resA,res1,expT,expA,exp1,expM,expL,okT,okA,ok1,rowOf,Tryz.f160];rw[fin,if_pos (.inl hc)]
  ·simp[va];refine acall_flat (vright_ok b (by omega)) rfl (by simp) ?_;simp[vb];refine hK _ _ _ ?_;clear K' hK;with_reducible refine aX (by simp) ?_;refine aA ?_;refine aR fun K' hK=> ?_
   simp;refine hK _ _ _ ?_;clear K' hK;with_reducible refine aw_ret ?_
   simp[blockK,loopK,Post,resA,res1,expT,expA,exp1,expM,expL,okT,okA,ok1,rowOf,Tryz.f160];simp[comparN,vb]
 ·simp[va];refine hK _ _ _ ?_;clear K' hK;with_reducible refine aX (by simp) ?_;refine aA ?_;refine aR fun K' hK=> ?_
  simp;refine hK _ _ _ ?_;clear K' hK;with_reducible refine aw_ret ?_
  simp[blockK,loopK,Post,resA,res1,expT,expA,exp1,expM,expL,okT,okA,ok1,rowOf,Tryz.f160];simp[comparN,va]
set_option maxRecDepth 100000
structure Bd where
 op:Int
 ver:Ver
 deriving DecidableEq,Inhabited
abbrev Alt:=List Bd
abbrev Rg:=List Alt
structure Dep where
 kind:Int
 name:Bs
 range:Rg
 deriving DecidableEq,Inhabited
structure Ru where
 name:Bs
 range:Rg
 deriving DecidableEq,Inhabited
structure Man where
 name:Bs
 ver:Ver
 deps:List Dep
 rules:List Ru
 deriving DecidableEq,Inhabited
def Bd.val (b:Bd):Value:=.agg #[.int .i64 b.op,.int .i64 b.ver.maj,.int .i64 b.ver.min,.int .i64 b.ver.pat,.string b.ver.pre]
def Bd.cells (b:Bd):List AV:=[iV b.op,iV b.ver.maj,iV b.ver.min,iV b.ver.pat,sV b.ver.pre]
def Alt.cells (l:Alt):List AV:=[rowT Bd.cells l]
def Rg.cells (r:Rg):List AV:=[rowT Alt.cells r]
def Dep.cells (d:Dep):List AV:=[iV d.kind,sV d.name,rowT Alt.cells d.range]
def Ru.cells (d:Ru):List AV:=[sV d.name,rowT Alt.cells d.range]
def Man.cells (m:Man):List AV:=[sV m.name,iV m.ver.maj,iV m.ver.min,iV m.ver.pat,sV m.ver.pre,rowT Dep.cells m.deps,rowT Ru.cells m.rules]
instance:Wid Bd.cells 5:=⟨fun _=>rfl,by decide⟩
instance:Wid Alt.cells 1:=⟨fun _=>rfl,by decide⟩
instance:Wid Dep.cells 3:=⟨fun _=>rfl,by decide⟩
instance:Wid Ru.cells 2:=⟨fun _=>rfl,by decide⟩
instance:Wid Man.cells 7:=⟨fun _=>rfl,by decide⟩
section
variable {G:Hp}
@[simp] theorem bd_looks (P:Program) (d:Bd):looksA P G d.cells=some d.cells:=rfl
@[simp] theorem bd_trees (P:Program) (d:Bd):treesOf P G d.cells=some (d.cells,G):=rfl
@[simp] theorem dep_looks (P:Program) (d:Dep):looksA P G d.cells=some d.cells:=rfl
@[simp] theorem dep_trees (P:Program) (d:Dep):treesOf P G d.cells=some (d.cells,G):=rfl
@[simp] theorem ru_looks (P:Program) (d:Ru):looksA P G d.cells=some d.cells:=rfl
@[simp] theorem ru_trees (P:Program) (d:Ru):treesOf P G d.cells=some (d.cells,G):=rfl
@[simp] theorem man_looks (P:Program) (d:Man):looksA P G d.cells=some d.cells:=rfl
@[simp] theorem man_trees (P:Program) (d:Man):treesOf P G d.cells=some (d.cells,G):=rfl
@[simp] theorem rg_looks (P:Program) (d:Rg):looksA P G d.cells=some d.cells:=rfl
@[simp] theorem rg_trees (P:Program) (d:Rg):treesOf P G d.cells=some (d.cells,G):=rfl
@[simp] theorem alt_looks (P:Program) (d:Alt):looksA P G d.cells=some d.cells:=rfl
@[simp] theorem alt_trees (P:Program) (d:Alt):treesOf P G d.cells=some (d.cells,G):=rfl
@[simp] theorem dep_one (d:Dep):d.cells.all AV.one=true:=rfl
@[simp] theorem dep_len (d:Dep):d.cells.length=3:=rfl
@[simp] theorem ru_one (d:Ru):d.cells.all AV.one=true:=rfl
@[simp] theorem ru_len (d:Ru):d.cells.length=2:=rfl
@[simp] theorem man_one (d:Man):d.cells.all AV.one=true:=rfl
@[simp] theorem man_len (d:Man):d.cells.length=7:=rfl
@[simp] theorem bd_one (d:Bd):d.cells.all AV.one=true:=rfl
@[simp] theorem bd_len (d:Bd):d.cells.length=5:=rfl
@[simp] theorem rg_one (d:Rg):d.cells.all AV.one=true:=rfl
@[simp] theorem rg_len (d:Rg):d.cells.length=1:=rfl
@[simp] theorem bd_all (b:Bd):getC b.cells 0 5=some b.cells:=rfl
@[simp] theorem bd_op (b:Bd):getC b.cells 0 1=some [iV b.op]:=rfl
@[simp] theorem bd_ver (b:Bd):getC b.cells 1 4=some b.ver.cells:=rfl
@[simp] theorem bd_conc (b:Bd):conc (.agg b.cells)=some b.val:=rfl
@[simp] theorem rg_all (r:Rg):getC r.cells 0 1=some [rowT Alt.cells r]:=rfl
@[simp] theorem alt_all (l:Alt):getC l.cells 0 1=some [rowT Bd.cells l]:=rfl
@[simp] theorem dep_all (d:Dep):getC d.cells 0 3=some d.cells:=rfl
@[simp] theorem dep_kind (d:Dep):getC d.cells 0 1=some [iV d.kind]:=rfl
@[simp] theorem dep_name (d:Dep):getC d.cells 1 1=some [sV d.name]:=rfl
@[simp] theorem dep_range (d:Dep):getC d.cells 2 1=some [rowT Alt.cells d.range]:=rfl
@[simp] theorem ru_all (d:Ru):getC d.cells 0 2=some d.cells:=rfl
@[simp] theorem ru_name (d:Ru):getC d.cells 0 1=some [sV d.name]:=rfl
@[simp] theorem ru_range (d:Ru):getC d.cells 1 1=some [rowT Alt.cells d.range]:=rfl
@[simp] theorem man_all (m:Man):getC m.cells 0 7=some m.cells:=rfl
@[simp] theorem man_name (m:Man):getC m.cells 0 1=some [sV m.name]:=rfl
@[simp] theorem man_ver (m:Man):getC m.cells 1 4=some m.ver.cells:=rfl
@[simp] theorem man_deps (m:Man):getC m.cells 5 1=some [rowT Dep.cells m.deps]:=rfl
@[simp] theorem man_rules (m:Man):getC m.cells 6 1=some [rowT Ru.cells m.rules]:=rfl
@[simp] theorem bd_take (d:Bd):List.take 5 d.cells=d.cells:=rfl
@[simp] theorem dep_take (d:Dep):List.take 3 d.cells=d.cells:=rfl
@[simp] theorem ru_take (d:Ru):List.take 2 d.cells=d.cells:=rfl
@[simp] theorem man_take (d:Man):List.take 7 d.cells=d.cells:=rfl
@[simp] theorem rg_take (d:Rg):List.take 1 d.cells=d.cells:=rfl
end
theorem eqBd' (a b:Bd):evBin Tryz.prog .neq 87 a.val b.val=some (.bool (!((a.op==b.op)&&(((a.ver.maj==b.ver.maj)&&((a.ver.min==b.ver.min)&&((a.ver.pat==b.ver.pat)&&((a.ver.pre.toList==b.ver.pre.toList)&&true))))&&true)))):=by kernel_rfl
@[simp] theorem eqBd (a b:Bd):evBin Tryz.prog .neq 87 a.val b.val=some (.bool (!decide (a=b))):=by
 rw[eqBd',beq_toList];have:((a.op==b.op)&&(((a.ver.maj==b.ver.maj)&&((a.ver.min==b.ver.min)&&((a.ver.pat==b.ver.pat)&&(decide (a.ver.pre=b.ver.pre)&&true))))&&true))=decide (a=b):=by
  rw[Bool.eq_iff_iff];cases a with | mk a1 a2=>cases a2;cases b with | mk b1 b2=>cases b2;simp
 rw[this]
set_option maxRecDepth 100000
set_option maxHeartbeats 1000000
def opN (op c:Int):Bool:=if op=1 then decide (c=0)else if op=2 then decide (c<0)else if op=3 then decide (c≤0)else if op=4 then decide (0<c)else decide (0≤c)
def holdB (v:Ver) (b:Bd):Bool:=opN b.op (comparN v b.ver)
def nearB (v:Ver) (b:Bd):Bool:=decide (b.ver.pre≠⟨#[]⟩∧ {b.ver with pre:=v.pre} =v)
theorem sg176_ok (c:Int):CallsOK Tryz.prog 176 [iV c] (bV (decide (0≤c))) []:=by
 refine callsOK mixed Tryz.call176 Tryz.func176 rfl (by rw[Tryz.ntmps176];simp) ?_ rfl;rw[Tryz.ntmps176];with_reducible refine aR fun K' hK=> ?_
 simp;refine hK _ _ _ ?_;clear K' hK;with_reducible refine aR fun K' hK=> ?_
 simp;refine hK _ _ _ ?_;clear K' hK;with_reducible refine aw_retL ?_
 simp[blockK,loopK,Post,resA,res1,expT,expA,exp1,expM,expL,okT,okA,ok1,rowOf,Tryz.f176]
theorem sg177_ok (c:Int):CallsOK Tryz.prog 177 [iV c] (bV (decide (c=0))) []:=by
 refine callsOK mixed Tryz.call177 Tryz.func177 rfl (by rw[Tryz.ntmps177];simp) ?_ rfl;rw[Tryz.ntmps177];with_reducible refine aR fun K' hK=> ?_
 simp;refine hK _ _ _ ?_;clear K' hK;with_reducible refine aR fun K' hK=> ?_
 simp;refine hK _ _ _ ?_;clear K' hK;with_reducible refine aw_retL ?_
 simp[blockK,loopK,Post,resA,res1,expT,expA,exp1,expM,expL,okT,okA,ok1,rowOf,Tryz.f177]
theorem sg178_ok (c:Int):CallsOK Tryz.prog 178 [iV c] (bV (decide (c<0))) []:=by
 refine callsOK mixed Tryz.call178 Tryz.func178 rfl (by rw[Tryz.ntmps178];simp) ?_ rfl;rw[Tryz.ntmps178];with_reducible refine aR fun K' hK=> ?_
 simp;refine hK _ _ _ ?_;clear K' hK;with_reducible refine aR fun K' hK=> ?_
 simp;refine hK _ _ _ ?_;clear K' hK;with_reducible refine aw_retL ?_
 simp[blockK,loopK,Post,resA,res1,expT,expA,exp1,expM,expL,okT,okA,ok1,rowOf,Tryz.f178]
theorem sg179_ok (c:Int):CallsOK Tryz.prog 179 [iV c] (bV (decide (c≤0))) []:=by
 refine callsOK mixed Tryz.call179 Tryz.func179 rfl (by rw[Tryz.ntmps179];simp) ?_ rfl;rw[Tryz.ntmps179];with_reducible refine aR fun K' hK=> ?_
 simp;refine hK _ _ _ ?_;clear K' hK;with_reducible refine aR fun K' hK=> ?_
 simp;refine hK _ _ _ ?_;clear K' hK;with_reducible refine aw_retL ?_
 simp[blockK,loopK,Post,resA,res1,expT,expA,exp1,expM,expL,okT,okA,ok1,rowOf,Tryz.f179]
theorem sg180_ok (c:Int):CallsOK Tryz.prog 180 [iV c] (bV (decide (0<c))) []:=by
 refine callsOK mixed Tryz.call180 Tryz.func180 rfl (by rw[Tryz.ntmps180];simp) ?_ rfl;rw[Tryz.ntmps180];with_reducible refine aR fun K' hK=> ?_
 simp;refine hK _ _ _ ?_;clear K' hK;with_reducible refine aR fun K' hK=> ?_
 simp;refine hK _ _ _ ?_;clear K' hK;with_reducible refine aw_retL ?_
 simp[blockK,loopK,Post,resA,res1,expT,expA,exp1,expM,expL,okT,okA,ok1,rowOf,Tryz.f180]
theorem holds139_ok (b:Bd) (v:Ver) (hb:b.ver.pre.size≤1000000) (hv:v.pre.size≤1000000):CallsOK Tryz.prog 139 [.agg b.cells,.agg v.cells] (bV (holdB v b)) []:=by
 refine callsOK mixed Tryz.call139 Tryz.func139 rfl (by rw[Tryz.ntmps139];simp) ?_ rfl;rw[Tryz.ntmps139];with_reducible refine aR fun K' hK=> ?_
 simp;refine hK _ _ _ ?_;clear K' hK;with_reducible refine aR fun K' hK=> ?_
 simp;refine hK _ _ _ ?_;clear K' hK;with_reducible refine aA ?_;refine aR fun K' hK=> ?_
 simp;refine hK _ _ _ ?_;clear K' hK;with_reducible refine aw_block ?_
 by_cases h1:b.op=1
 ·skip;with_reducible refine aR fun K' hK=> ?_
  simp[h1];refine hK _ _ _ ?_;clear K' hK;with_reducible refine aU (by simp[h1]) ?_;refine aR fun K' hK=> ?_
  simp;refine hK _ _ _ ?_;clear K' hK;with_reducible refine aw_skipL ?_
  refine blockK_normal ?_;with_reducible refine aR fun K' hK=> ?_
  simp;refine acall_flat (compare_ok v b.ver hv hb) rfl (by simp) ?_;simp;refine acall_flat (sg177_ok (comparN v b.ver)) rfl (by simp) ?_;simp;refine hK _ _ _ ?_;clear K' hK;with_reducible refine aw_retL ?_
  simp[blockK,loopK,Post,resA,res1,expT,expA,exp1,expM,expL,okT,okA,ok1,rowOf,Tryz.f139];simp[holdB,opN,h1]
 ·skip;with_reducible refine aR fun K' hK=> ?_
  simp[h1];refine hK _ _ _ ?_;clear K' hK;with_reducible refine aV (by simp[h1]) ?_
  by_cases h2:b.op=2
  ·with_reducible refine aA ?_;refine aR fun K' hK=> ?_
   simp[h1,h2];refine hK _ _ _ ?_;clear K' hK;with_reducible refine aX (by simp[h1,h2]) ?_;refine aR fun K' hK=> ?_
   simp;refine hK _ _ _ ?_;clear K' hK;with_reducible refine aw_skipL ?_
   refine blockK_normal ?_;with_reducible refine aR fun K' hK=> ?_
   simp;refine acall_flat (compare_ok v b.ver hv hb) rfl (by simp) ?_;simp;refine acall_flat (sg178_ok (comparN v b.ver)) rfl (by simp) ?_;simp;refine hK _ _ _ ?_;clear K' hK;with_reducible refine aw_retL ?_
   simp[blockK,loopK,Post,resA,res1,expT,expA,exp1,expM,expL,okT,okA,ok1,rowOf,Tryz.f139];simp[holdB,opN,h1,h2]
  ·with_reducible refine aA ?_;refine aR fun K' hK=> ?_
   simp[h1,h2];refine hK _ _ _ ?_;clear K' hK;with_reducible refine aY (by simp[h1,h2]) ?_
   by_cases h3:b.op=3
   ·with_reducible refine aA ?_;refine aR fun K' hK=> ?_
    simp[h1,h2,h3];refine hK _ _ _ ?_;clear K' hK;with_reducible refine aX (by simp[h1,h2,h3]) ?_;refine aR fun K' hK=> ?_
    simp;refine hK _ _ _ ?_;clear K' hK;with_reducible refine aw_skipL ?_
    refine blockK_normal ?_;with_reducible refine aR fun K' hK=> ?_
    simp;refine acall_flat (compare_ok v b.ver hv hb) rfl (by simp) ?_;simp;refine acall_flat (sg179_ok (comparN v b.ver)) rfl (by simp) ?_;simp;refine hK _ _ _ ?_;clear K' hK;with_reducible refine aw_retL ?_
    simp[blockK,loopK,Post,resA,res1,expT,expA,exp1,expM,expL,okT,okA,ok1,rowOf,Tryz.f139];simp[holdB,opN,h1,h2,h3]
   ·with_reducible refine aA ?_;refine aR fun K' hK=> ?_
    simp[h1,h2,h3];refine hK _ _ _ ?_;clear K' hK;with_reducible refine aY (by simp[h1,h2,h3]) ?_
    by_cases h4:b.op=4
    ·with_reducible refine aA ?_;refine aR fun K' hK=> ?_
     simp[h1,h2,h3,h4];refine hK _ _ _ ?_;clear K' hK;with_reducible refine aX (by simp[h1,h2,h3,h4]) ?_;refine aR fun K' hK=> ?_
     simp;refine hK _ _ _ ?_;clear K' hK;with_reducible refine aw_skipL ?_
     refine blockK_normal ?_;with_reducible refine aR fun K' hK=> ?_
     simp;refine acall_flat (compare_ok v b.ver hv hb) rfl (by simp) ?_;simp;refine acall_flat (sg180_ok (comparN v b.ver)) rfl (by simp) ?_;simp;refine hK _ _ _ ?_;clear K' hK;with_reducible refine aw_retL ?_
     simp[blockK,loopK,Post,resA,res1,expT,expA,exp1,expM,expL,okT,okA,ok1,rowOf,Tryz.f139];simp[holdB,opN,h1,h2,h3,h4]
    ·with_reducible refine aA ?_;refine aR fun K' hK=> ?_
     simp[h1,h2,h3,h4];refine hK _ _ _ ?_;clear K' hK;with_reducible refine aYk (by simp[h1,h2,h3,h4]) ?_;refine aw_skipL ?_
     refine blockK_normal ?_;with_reducible refine aR fun K' hK=> ?_
     simp;refine acall_flat (compare_ok v b.ver hv hb) rfl (by simp) ?_;simp;refine acall_flat (sg176_ok (comparN v b.ver)) rfl (by simp) ?_;simp;refine hK _ _ _ ?_;clear K' hK;with_reducible refine aw_retL ?_
     simp[blockK,loopK,Post,resA,res1,expT,expA,exp1,expM,expL,okT,okA,ok1,rowOf,Tryz.f139];simp[holdB,opN,h1,h2,h3,h4]
@[simp] theorem ver_put3 (d:Ver) (p:Bs):List.take 3 d.cells++sV p::List.drop 4 d.cells=({d with pre:=p} :Ver).cells:=rfl
theorem eql23' (a b:Ver):evBin Tryz.prog .eql 23 a.val b.val=some (.bool ((a.maj==b.maj)&&((a.min==b.min)&&((a.pat==b.pat)&&((a.pre.toList==b.pre.toList)&&true))))):=by kernel_rfl
@[simp] theorem eql23 (a b:Ver):evBin Tryz.prog .eql 23 a.val b.val=some (.bool (decide (a=b))):=by
 rw[eql23',beq_toList];congr 2;rw[Bool.eq_iff_iff];cases a;cases b;simp
theorem near140_ok (b:Bd) (v:Ver):CallsOK Tryz.prog 140 [.agg b.cells,.agg v.cells] (bV (nearB v b)) []:=by
 refine callsOK mixed Tryz.call140 Tryz.func140 rfl (by rw[Tryz.ntmps140];simp) ?_ rfl;rw[Tryz.ntmps140];with_reducible refine aR fun K' hK=> ?_
 simp;refine hK _ _ _ ?_;clear K' hK;with_reducible refine aR fun K' hK=> ?_
 simp;refine hK _ _ _ ?_;clear K' hK;by_cases h:b.ver.pre=⟨#[]⟩
 ·skip;with_reducible refine aR fun K' hK=> ?_
  simp[h];refine hK _ _ _ ?_;clear K' hK;with_reducible refine aR fun K' hK=> ?_
  simp;refine hK _ _ _ ?_;clear K' hK;with_reducible refine aR fun K' hK=> ?_
  simp;refine hK _ _ _ ?_;clear K' hK;with_reducible refine aw_retL ?_
  simp[blockK,loopK,Post,resA,res1,expT,expA,exp1,expM,expL,okT,okA,ok1,rowOf,Tryz.f140];simp[nearB,h]
 ·skip;with_reducible refine aR fun K' hK=> ?_
  simp[h];refine hK _ _ _ ?_;clear K' hK;with_reducible refine aR fun K' hK=> ?_
  simp;refine hK _ _ _ ?_;clear K' hK;with_reducible refine aR fun K' hK=> ?_
  simp;refine hK _ _ _ ?_;clear K' hK;with_reducible refine aw_retL ?_
  simp[blockK,loopK,Post,resA,res1,expT,expA,exp1,expM,expL,okT,okA,ok1,rowOf,Tryz.f140];simp[nearB,h]
set_option maxRecDepth 100000
set_option maxHeartbeats 1000000
def bdOk (b:Bd):Bool:=verOk b.ver&&(decide (1≤b.op)&&decide (b.op≤5))
def altOk (l:Alt):Bool:=l.all bdOk&&decide (l.length≤8)
def rgOk (r:Rg):Bool:=r.all altOk&&(decide (1≤r.length)&&decide (r.length≤8))
def Alt.sz (l:Alt):Prop:=l.length≤1000000000∧∀b∈l,b.ver.pre.size≤1000000
def Rg.sz (r:Rg):Prop:=r.length≤1000000000∧∀l∈r,Alt.sz l
theorem right138_ok (r:Rg) (hr:Rg.sz r):CallsOK Tryz.prog 138 [.agg r.cells] (bV (rgOk r)) []:=by
 refine callsOK mixed Tryz.call138 Tryz.func138 rfl (by rw[Tryz.ntmps138];simp) ?_ rfl;rw[Tryz.ntmps138];have hl:=hr.1;with_reducible refine aR fun K' hK=> ?_
 simp;refine hK _ _ _ ?_;clear K' hK;with_reducible refine aA ?_;refine aR fun K' hK=> ?_
 simp[Rg.cells];refine hK _ _ _ ?_;clear K' hK;with_reducible refine aw_block ?_
 refine aw_loop (fun s G nx=>G 0=some (.var 33 [rowT Alt.cells r])∧s 1=.ptr 0 0∧s 10=rowT Alt.cells r∧s 11=iV r.length∧∃i:Nat,s 12=iV i∧i≤r.length∧(r.take i).all altOk=true) (fun s _ _=>match s 12 with | .v (.int _ n)=>r.length-n.toNat | _=>0) ?_ ?_
 ·exact⟨by simp[Rg.cells],by simp,by simp[Rg.cells],by simp[Rg.cells],0,by simp,by omega,by simp⟩
 ·rintro s G nx hf ⟨g0,s1,s10,s11,i,s12,hi,ht⟩;have o12:=s12;have n0:¬0=nx:=(by have:=fresh_lt hf g0;omega);have hw:IntKind.i64.wrap (↑i+1)=((i+1:Nat):Int):=wrapS (by omega);with_reducible refine aR fun K' hK=> ?_
  simp[s11,s12];refine hK _ _ _ ?_;clear K' hK;with_reducible refine aC fun A B hA hB=> ?_
  simp;refine⟨fun hi2=>hA ?_,fun hi2=>hB ?_⟩<;>clear hA hB A B<;>(try simp at hi2)<;>(try with_reducible refine aK ?_)
  ·have hstep:=all_take1 (p:=altOk) hi2;have hA:=hr.2 _ (nth_mem hi2);have hfalse:altOk (nth r i)=false→rgOk r=false:=fun h=>(by rw[rgOk,all_false hi2 h];rfl);generalize hgl:nth r i=l at*;have hAl:=hA.1;with_reducible refine aw_block ?_;refine aR fun K' hK=> ?_
   simp[s10,s12,hi2,hgl];refine hK _ _ _ ?_;clear K' hK;with_reducible refine aA ?_;refine aR fun K' hK=> ?_
   simp;refine hK _ _ _ ?_;clear K' hK;with_reducible refine aw_block ?_
   refine aw_loop (fun s G nx=>G 0=some (.var 33 [rowT Alt.cells r])∧s 1=.ptr 0 0∧s 10=rowT Alt.cells r∧s 11=iV r.length∧s 12=iV i∧s 4=rowT Bd.cells l∧s 16=rowT Bd.cells l∧s 17=iV l.length∧∃j:Nat,s 18=iV j∧j≤l.length∧(l.take j).all bdOk=true) (fun s _ _=>match s 18 with | .v (.int _ n)=>l.length-n.toNat | _=>0) ?_ ?_
   ·exact⟨by simp[g0],by simp[s1],by simp[s10],by simp[s11],by simp[s12],by simp,by simp,by simp,0,by simp,by omega,by simp⟩
   ·clear s1 s10 s11 s12 g0 hf n0;rintro s G nx hf ⟨g0,s1,s10,s11,s12,s4,s16,s17,j,s18,hj,hjt⟩;have n0:¬0=nx:=(by have:=fresh_lt hf g0;omega);have hwj:IntKind.i64.wrap (↑j+1)=((j+1:Nat):Int):=wrapS (by omega);with_reducible refine aR fun K' hK=> ?_
    simp[s17,s18];refine hK _ _ _ ?_;clear K' hK;with_reducible refine aC fun A B hA hB=> ?_
    simp;refine⟨fun hj2=>hA ?_,fun hj2=>hB ?_⟩<;>clear hA hB A B<;>(try simp at hj2)<;>(try with_reducible refine aK ?_)
    ·have hjstep:=all_take1 (p:=bdOk) hj2;have hjfalse:bdOk (nth l j)=false→rgOk r=false:=fun h=>hfalse (by rw[altOk,all_false hj2 h];rfl);have hbz:=hA.2 _ (nth_mem hj2);generalize hgb:nth l j=b at*;with_reducible refine aw_block ?_;refine aR fun K' hK=> ?_
     simp[s16,s18,hj2,hgb];refine hK _ _ _ ?_;clear K' hK;with_reducible refine aR fun K' hK=> ?_
     simp;refine acall_flat (print51_ok b.ver (by omega)) rfl (by simp) ?_;simp;refine hK _ _ _ ?_;clear K' hK;by_cases c1:verOk b.ver=true
     ·by_cases c2:b.op<1
      ·skip;with_reducible refine aR fun K' hK=> ?_
       simp[c1,c2];refine hK _ _ _ ?_;clear K' hK;with_reducible refine aU (by simp) ?_;refine aA ?_;refine aR fun K' hK=> ?_
       simp;refine hK _ _ _ ?_;clear K' hK;with_reducible refine aw_ret ?_
       simp[blockK,loopK,Post,resA,res1,expT,expA,exp1,expM,expL,okT,okA,ok1,rowOf,Tryz.f138];exact hjfalse (by simp[bdOk];omega)
      ·by_cases c3:5<b.op
       ·skip;with_reducible refine aR fun K' hK=> ?_
        simp[c1,c2,c3];refine hK _ _ _ ?_;clear K' hK;with_reducible refine aU (by simp) ?_;refine aA ?_;refine aR fun K' hK=> ?_
        simp;refine hK _ _ _ ?_;clear K' hK;with_reducible refine aw_ret ?_
        simp[blockK,loopK,Post,resA,res1,expT,expA,exp1,expM,expL,okT,okA,ok1,rowOf,Tryz.f138];exact hjfalse (by simp[bdOk];omega)
       ·skip;with_reducible refine aR fun K' hK=> ?_
        simp[c1,c2,c3];refine hK _ _ _ ?_;clear K' hK;with_reducible refine aVk (by simp) ?_;refine aw_skipL ?_
        refine blockK_normal ?_;with_reducible refine aS fun K' hK=> ?_
        simp[s18,hwj];refine hK _ _ _ ?_;clear K' hK;refine aw_skipL (loopK_normal ?_ ?_)
        ·exact⟨by simp[n0,g0],by simp[s1],by simp[s10],by simp[s11],by simp[s12],by simp[s4],by simp[s16],by simp[s17],j+1,by simp[hwj],by omega,by rw[hjstep,hjt];simp[bdOk,c1];omega⟩
        ·simp[s18,hwj];omega
     ·skip;with_reducible refine aR fun K' hK=> ?_
      simp[c1];refine hK _ _ _ ?_;clear K' hK;with_reducible refine aU (by simp) ?_;refine aA ?_;refine aR fun K' hK=> ?_
      simp;refine hK _ _ _ ?_;clear K' hK;with_reducible refine aw_ret ?_
      simp[blockK,loopK,Post,resA,res1,expT,expA,exp1,expM,expL,okT,okA,ok1,rowOf,Tryz.f138];exact hjfalse (by simp[bdOk,c1])
    ·skip;with_reducible refine aw_exit ?_
     refine loopK_exit (blockK_exit ?_);with_reducible refine aR fun K' hK=> ?_
     simp[s4];refine hK _ _ _ ?_;clear K' hK;rw[List.take_of_length_le (by omega)]at hjt;with_reducible refine aD fun A B hA hB=> ?_
     simp;refine⟨fun c8=>hA ?_,fun c8=>hB ?_⟩<;>clear hA hB A B<;>(try simp at c8)<;>(try with_reducible refine aK ?_)
     ·with_reducible refine aA ?_;refine aR fun K' hK=> ?_
      simp;refine hK _ _ _ ?_;clear K' hK;with_reducible refine aw_ret ?_
      simp[blockK,loopK,Post,resA,res1,expT,expA,exp1,expM,expL,okT,okA,ok1,rowOf,Tryz.f138];exact hfalse (by have c9:¬l.length≤8:=(by omega);simp[altOk,c9])
     ·with_reducible refine aw_skipL ?_
      refine blockK_normal ?_;with_reducible refine aS fun K' hK=> ?_
      simp[s12,hw];refine hK _ _ _ ?_;clear K' hK;refine aw_skipL (loopK_normal ?_ ?_)
      ·exact⟨by simp[g0],by simp[s1],by simp[s10],by simp[s11],i+1,by simp[hw],by omega,by rw[hstep,ht];simp only[altOk,hjt,Bool.true_and,decide_eq_true_eq];omega⟩
      ·simp[o12,s12,hw];omega
  ·skip;with_reducible refine aw_exit ?_
   refine loopK_exit (blockK_exit ?_);rw[List.take_of_length_le (by omega)]at ht;by_cases c1:1≤r.length
   ·have c2:(1:Int)≤(r.length:Int):=(by omega);with_reducible refine aR fun K' hK=> ?_
    simp[s1,g0,c2];refine hK _ _ _ ?_;clear K' hK;with_reducible refine aw_retL ?_
    simp[blockK,loopK,Post,resA,res1,expT,expA,exp1,expM,expL,okT,okA,ok1,rowOf,Tryz.f138];simp[rgOk,ht,c1];omega
   ·have c2:¬(1:Int)≤(r.length:Int):=(by omega);with_reducible refine aR fun K' hK=> ?_
    simp[s1,g0,c2];refine hK _ _ _ ?_;clear K' hK;with_reducible refine aw_retL ?_
    simp[blockK,loopK,Post,resA,res1,expT,expA,exp1,expM,expL,okT,okA,ok1,rowOf,Tryz.f138];simp[rgOk,c1]
def altHolds (v:Ver) (l:Alt):Bool:=l.all (holdB v)&&(decide (v.pre=⟨#[]⟩) || l.any (nearB v))
def rgHolds (v:Ver) (r:Rg):Bool:=verOk v&&(rgOk r&&r.any (altHolds v))
theorem holds84_ok (r:Rg) (v:Ver) (hr:Rg.sz r) (hv:v.pre.size≤1000000):CallsOK Tryz.prog 84 [.agg r.cells,.agg v.cells] (bV (rgHolds v r)) []:=by
 refine callsOK mixed Tryz.call84 Tryz.func84 rfl (by rw[Tryz.ntmps84];simp) ?_ rfl;rw[Tryz.ntmps84];have hl:=hr.1;with_reducible refine aR fun K' hK=> ?_
 simp;refine hK _ _ _ ?_;clear K' hK;refine aw_scopeL ?_;with_reducible refine aA ?_;refine aR fun K' hK=> ?_
 simp;refine acall_flat (print51_ok v (by omega)) rfl (by simp) ?_;simp;refine hK _ _ _ ?_;clear K' hK;by_cases c1:verOk v=true
 ·with_reducible refine aA ?_;refine aR fun K' hK=> ?_
  simp[c1];refine acall_flat (right138_ok r hr) rfl (by simp[Rg.cells]) ?_;by_cases c2:rgOk r=true
  ·simp[c2];refine hK _ _ _ ?_;clear K' hK;with_reducible refine aYk (by simp) ?_
   refine aw_label ?_;with_reducible refine aA ?_;refine aR fun K' hK=> ?_
   simp[Rg.cells];refine hK _ _ _ ?_;clear K' hK;with_reducible refine aw_block ?_
   refine aw_loop (fun s G nx=>G 1=some (.var 23 v.cells)∧s 3=.ptr 1 0∧s 25=rowT Alt.cells r∧s 26=iV r.length∧∃i:Nat,s 27=iV i∧i≤r.length∧(r.take i).any (altHolds v)=false) (fun s _ _=>match s 27 with | .v (.int _ n)=>r.length-n.toNat | _=>0) ?_ ?_
   ·exact⟨by simp,by simp,by simp[Rg.cells],by simp[Rg.cells],0,by simp,by omega,by simp⟩
   ·rintro s G nx hf ⟨g1,s3,s25,s26,i,s27,hi,ht⟩;have o27:=s27;have n1:¬1=nx:=(by have:=fresh_lt hf g1;omega);have hw:IntKind.i64.wrap (↑i+1)=((i+1:Nat):Int):=wrapS (by omega);with_reducible refine aR fun K' hK=> ?_
    simp[s26,s27];refine hK _ _ _ ?_;clear K' hK;with_reducible refine aC fun A B hA hB=> ?_
    simp;refine⟨fun hi2=>hA ?_,fun hi2=>hB ?_⟩<;>clear hA hB A B<;>(try simp at hi2)<;>(try with_reducible refine aK ?_)
    ·have hA:=hr.2 _ (nth_mem hi2);have htrue:altHolds v (nth r i)=true→r.any (altHolds v)=true:=fun h=>List.any_eq_true.2 ⟨_,nth_mem hi2,h⟩;have hfalse:altHolds v (nth r i)=false→(r.take (i+1)).any (altHolds v)=false:=any_take hi2 ht;generalize hgl:nth r i=l at*;have hAl:=hA.1;with_reducible refine aw_block ?_;refine aR fun K' hK=> ?_
     simp[s25,s27,hi2,hgl];refine hK _ _ _ ?_;clear K' hK;with_reducible refine aR fun K' hK=> ?_
     simp[s3,g1];refine hK _ _ _ ?_;clear K' hK;with_reducible refine aA ?_;refine aR fun K' hK=> ?_
     simp;refine hK _ _ _ ?_;clear K' hK;with_reducible refine aw_block ?_
     refine aw_loop (fun s G nx=>G 1=some (.var 23 v.cells)∧s 3=.ptr 1 0∧s 25=rowT Alt.cells r∧s 26=iV r.length∧s 27=iV i∧s 34=rowT Bd.cells l∧s 35=iV l.length∧∃j:Nat,s 36=iV j∧j≤l.length∧s 9=bV (decide (v.pre=⟨#[]⟩) || (l.take j).any (nearB v))∧(l.take j).all (holdB v)=true) (fun s _ _=>match s 36 with | .v (.int _ n)=>l.length-n.toNat | _=>0) ?_ ?_
     ·exact⟨by simp[g1],by simp[s3],by simp[s25],by simp[s26],by simp[s27],by simp,by simp,0,by simp,by omega,by simp,by simp⟩
     ·clear s3 s25 s26 s27 g1 hf n1;rintro s G nx hf ⟨g1,s3,s25,s26,s27,s34,s35,j,s36,hj,s9,hjt⟩;have n1:¬1=nx:=(by have:=fresh_lt hf g1;omega);have hwj:IntKind.i64.wrap (↑j+1)=((j+1:Nat):Int):=wrapS (by omega);with_reducible refine aR fun K' hK=> ?_
      simp[s35,s36];refine hK _ _ _ ?_;clear K' hK;with_reducible refine aC fun A B hA hB=> ?_
      simp;refine⟨fun hj2=>hA ?_,fun hj2=>hB ?_⟩<;>clear hA hB A B<;>(try simp at hj2)<;>(try with_reducible refine aK ?_)
      ·have hjstep:=all_take1 (p:=holdB v) hj2;have hnstep:=any_take1 (p:=nearB v) hj2;have hjfalse:holdB v (nth l j)=false→altHolds v l=false:=fun h=>(by rw[altHolds,all_false hj2 h];rfl);have hbz:=hA.2 _ (nth_mem hj2);generalize hgb:nth l j=b at*;with_reducible refine aw_block ?_;refine aR fun K' hK=> ?_
       simp[s34,s36,hj2,hgb];refine hK _ _ _ ?_;clear K' hK;with_reducible refine aA ?_;refine aR fun K' hK=> ?_
       simp[s3,g1,n1];refine acall_flat (holds139_ok b v hbz hv) rfl (by simp) ?_;simp;refine hK _ _ _ ?_;clear K' hK;by_cases c3:holdB v b=true
       ·skip;with_reducible refine aYk (by simp[c3]) ?_
        generalize hnb:(decide (v.pre=⟨#[]⟩) || (l.take j).any (nearB v))=nb at*;cases nb with
        | true=>
         with_reducible refine aS fun K' hK=> ?_
         simp[s9];refine hK _ _ _ ?_;clear K' hK;with_reducible refine aw_skipL ?_
         refine blockK_normal ?_;with_reducible refine aS fun K' hK=> ?_
         simp[s36,hwj];refine hK _ _ _ ?_;clear K' hK;refine aw_skipL (loopK_normal ?_ ?_)
         ·exact⟨by simp[n1,g1],by simp[s3],by simp[s25],by simp[s26],by simp[s27],by simp[s34],by simp[s35],j+1,by simp[hwj],by omega,by rw[hnstep,←Bool.or_assoc,hnb];simp,by rw[hjstep,hjt,c3];rfl⟩
         ·simp[s36,hwj];omega
        | false=>
         with_reducible refine aS fun K' hK=> ?_
         simp[s9,s3,g1,n1];refine acall_flat (near140_ok b v) rfl (by simp) ?_;simp;refine hK _ _ _ ?_;clear K' hK;with_reducible refine aw_skipL ?_
         refine blockK_normal ?_;with_reducible refine aS fun K' hK=> ?_
         simp[s36,hwj];refine hK _ _ _ ?_;clear K' hK;refine aw_skipL (loopK_normal ?_ ?_)
         ·exact⟨by simp[n1,g1],by simp[s3],by simp[s25],by simp[s26],by simp[s27],by simp[s34],by simp[s35],j+1,by simp[hwj],by omega,by rw[hnstep,←Bool.or_assoc,hnb];simp,by rw[hjstep,hjt,c3];rfl⟩
         ·simp[s36,hwj];omega
       ·skip;with_reducible refine aX (by simp[c3]) ?_;refine aw_exit ?_
        (repeat first | with_reducible refine blockK_exit ?_ | with_reducible refine blockK_pass (by decide) ?_ | with_reducible refine loopK_exit ?_);with_reducible refine aS fun K' hK=> ?_
        simp[s27,hw];refine hK _ _ _ ?_;clear K' hK;refine aw_skipL (loopK_normal ?_ ?_)
        ·exact⟨by simp[n1,g1],by simp[s3],by simp[s25],by simp[s26],i+1,by simp[hw],by omega,hfalse (hjfalse (by simpa using c3))⟩
        ·simp[o27,s27,hw];omega
      ·skip;with_reducible refine aw_exit ?_
       refine loopK_exit (blockK_exit ?_);rw[List.take_of_length_le (by omega)]at hjt s9;have hah:altHolds v l=(decide (v.pre=⟨#[]⟩) || l.any (nearB v)):=(by rw[altHolds,hjt];rfl);rw[←hah]at s9;by_cases c4:altHolds v l=true
       ·skip;with_reducible refine aR fun K' hK=> ?_
        simp[s9,c4];refine hK _ _ _ ?_;clear K' hK;with_reducible refine aU (by simp) ?_;refine aA ?_;refine aR fun K' hK=> ?_
        simp;refine hK _ _ _ ?_;clear K' hK;with_reducible refine aw_ret ?_
        simp[blockK,loopK,Post,resA,res1,expT,expA,exp1,expM,expL,okT,okA,ok1,rowOf,Tryz.f84,scopeK];simp[rgHolds,c1,c2,htrue c4]
       ·skip;with_reducible refine aR fun K' hK=> ?_
        simp[s9,c4];refine hK _ _ _ ?_;clear K' hK;with_reducible refine aVk (by simp) ?_;refine aw_skipL ?_
        refine blockK_normal ?_;with_reducible refine aS fun K' hK=> ?_
        simp[s27,hw];refine hK _ _ _ ?_;clear K' hK;refine aw_skipL (loopK_normal ?_ ?_)
        ·exact⟨by simp[g1],by simp[s3],by simp[s25],by simp[s26],i+1,by simp[hw],by omega,hfalse (by simpa using c4)⟩
        ·simp[o27,s27,hw];omega
    ·skip;with_reducible refine aw_exit ?_
     refine loopK_exit (blockK_exit ?_);rw[List.take_of_length_le (by omega)]at ht;with_reducible refine aR fun K' hK=> ?_
     simp;refine hK _ _ _ ?_;clear K' hK;with_reducible refine aw_retL ?_
     simp[blockK,loopK,Post,resA,res1,expT,expA,exp1,expM,expL,okT,okA,ok1,rowOf,Tryz.f84,scopeK];simp[rgHolds,ht]
  ·simp[c2];refine hK _ _ _ ?_;clear K' hK;with_reducible refine aX (by simp) ?_;refine aA ?_;refine aR fun K' hK=> ?_
   simp;refine hK _ _ _ ?_;clear K' hK;with_reducible refine aw_ret ?_
   simp[blockK,loopK,Post,resA,res1,expT,expA,exp1,expM,expL,okT,okA,ok1,rowOf,Tryz.f84,scopeK];simp[rgHolds,c2]
 ·with_reducible refine aA ?_;refine aR fun K' hK=> ?_
  simp[c1];refine hK _ _ _ ?_;clear K' hK;with_reducible refine aX (by simp) ?_;refine aA ?_;refine aR fun K' hK=> ?_
  simp;refine hK _ _ _ ?_;clear K' hK;with_reducible refine aw_ret ?_
  simp[blockK,loopK,Post,resA,res1,expT,expA,exp1,expM,expL,okT,okA,ok1,rowOf,Tryz.f84,scopeK];simp[rgHolds,c1]
set_option maxRecDepth 100000
set_option maxHeartbeats 1000000
theorem prV_size (v:Ver):(prV v).size≤v.pre.size+70:=by
 unfold prV;by_cases h:verOk v=true
 ·have hh:preOk (bsL v.pre)=true∧inR v.maj=true∧inR v.min=true∧inR v.pat=true:=(by simpa [verOk]using h);have h1:=inR_int hh.2.1;have h2:=inR_int hh.2.2.1;have h3:=inR_int hh.2.2.2;have s1:(ofL (Lib.itoa v.maj)).size≤21:=(by rw[ofL_size];exact Lib.itoa_length_le _ (by omega) (by omega));have s2:(ofL (Lib.itoa v.min)).size≤21:=(by rw[ofL_size];exact Lib.itoa_length_le _ (by omega) (by omega));have s3:(ofL (Lib.itoa v.pat)).size≤21:=(by rw[ofL_size];exact Lib.itoa_length_le _ (by omega) (by omega));have hc:(prCore v).size≤65:=by
   simp only[prCore,ByteArray.size_append];have:(⟨#[46]⟩:Bs).size=1:=rfl;omega
  rw[if_pos h];split
  ·omega
  ·simp only[ByteArray.size_append];have:(⟨#[45]⟩:Bs).size=1:=rfl;omega
 ·rw[if_neg h];show 0≤_;omega
def signsL:List (Int×Bs):=[(3,⟨#[60,61]⟩),(5,⟨#[62,61]⟩),(2,⟨#[60]⟩),(4,⟨#[62]⟩),(1,⟨#[61]⟩)]
theorem sign_ix:∀k:Nat,k<5→evIndexS Tryz.prog 213 (.agg (signsV.map AV.v)) (iV k)=some (.agg [iV (nth signsL k).1,sV (nth signsL k).2])∧(nth signsL k).2.size≤2
 | 0,_=>⟨by kernel_rfl,by decide⟩
 | 1,_=>⟨by kernel_rfl,by decide⟩
 | 2,_=>⟨by kernel_rfl,by decide⟩
 | 3,_=>⟨by kernel_rfl,by decide⟩
 | 4,_=>⟨by kernel_rfl,by decide⟩
 | k+5,h=>by omega
def bdS (b:Bd) (k:Nat):List Bs:=((signsL.take k).filter fun p=>decide (p.1=b.op)).map fun p=>p.2++prV b.ver
theorem bdS_step (b:Bd) {k:Nat} (hk:k<5):bdS b (k+1)=bdS b k++if(nth signsL k).1=b.op then[(nth signsL k).2++prV b.ver]else[]:=by
 unfold bdS;rw[List.take_add_one,List.getElem?_eq_getElem (show k<signsL.length from hk),List.filter_append,List.map_append,←nth_eq];congr 1;by_cases h:(nth signsL k).1=b.op<;>simp[h]
theorem bdS_len (b:Bd) (k:Nat):(bdS b k).length≤5:=by
 unfold bdS;rw[List.length_map];refine Nat.le_trans (List.length_filter_le _ _) ?_;rw[List.length_take];exact Nat.min_le_right _ _
theorem bdS_size {b:Bd} (hb:b.ver.pre.size≤1000000) {k:Nat} {x:Bs} (h:x∈bdS b k):x.size≤1000100:=by
 obtain⟨p,hp,rfl⟩:=List.mem_map.1 h;have h1:=List.mem_of_mem_take (List.mem_filter.1 hp).1;have h2:∀p∈signsL,p.2.size≤2:=(by decide);have:=h2 p h1;have:=prV_size b.ver;simp only[ByteArray.size_append];omega
def bdsS (l:Alt):List Bs:=l.flatMap fun b=>bdS b 5
def starS (L:List Bs):List Bs:=if L=[]then[⟨#[42]⟩]else L
def altS (l:Alt):Bs:=ofL (Lib.join ((starS (bdsS l)).map bsL) [32])
def prR (r:Rg):Bs:=if rgOk r=true then ofL (Lib.join ((r.map altS).map bsL) [32,124,124,32])else⟨#[]⟩
theorem bdsS_take {l:Alt} {j:Nat} (h:j<l.length):bdsS (l.take (j+1))=bdsS (l.take j)++bdS (nth l j) 5:=by
 unfold bdsS;rw[List.take_add_one,List.getElem?_eq_getElem h,List.flatMap_append,←nth_eq h];simp
theorem bdsS_len:∀l:Alt,(bdsS l).length≤5*l.length
 | []=>Nat.le_refl _
 | b::l=>by
  have h1:=bdS_len b 5;have h2:=bdsS_len l;simp only[bdsS,List.flatMap_cons,List.length_append,List.length_cons]at h2⊢;omega
theorem bdsS_size {l:Alt} (hl:Alt.sz l) {x:Bs} (h:x∈bdsS l):x.size≤1000100:=by
 obtain⟨b,hb,hx⟩:=List.mem_flatMap.1 h;exact bdS_size (hl.2 b hb) hx
theorem starS_len {L:List Bs} {n:Nat} (h:L.length≤n):(starS L).length≤n+1:=by
 unfold starS;split
 ·simp only[List.length_singleton];omega
 ·omega
theorem starS_size {L:List Bs} (h:∀x∈L,x.size≤1000100):∀x∈starS L,x.size≤1000100:=by
 unfold starS;split
 ·intro x hx;simp at hx;subst hx;show 1≤_;omega
 ·exact h
theorem join_sz {L:List Bs} {n m:Nat} {sep:List UInt8} (hs:sep.length≤4) (hn:L.length≤n) (h:∀x∈L,x.size≤m):(Lib.join (L.map bsL) sep).length≤n*(m+4):=by
 have h1:=join_len sep m (L.map bsL) (fun x hx=>by
  obtain⟨b,hb,rfl⟩:=List.mem_map.1 hx;rw[bsL_len];exact h b hb)
 rw[List.length_map]at h1;exact Nat.le_trans h1 (Nat.mul_le_mul hn (by omega))
theorem altS_size {l:Alt} (hl:Alt.sz l) (h8:l.length≤8):(altS l).size≤41*1000104:=by
 rw[altS,ofL_size];exact join_sz (by simp) (starS_len (Nat.le_trans (bdsS_len l) (show 5*l.length≤40 by omega))) (starS_size fun x hx=>bdsS_size hl hx)
theorem print193_ok (r:Rg) (hr:Rg.sz r):CallsOK Tryz.prog 193 [.agg r.cells] (.tup [sV (prR r),bV (rgOk r)]) []:=by
 refine callsOK mixed Tryz.call193 Tryz.func193 rfl (by rw[Tryz.ntmps193];simp) ?_ rfl;rw[Tryz.ntmps193];have hl:=hr.1;with_reducible refine aR fun K' hK=> ?_
 simp;refine hK _ _ _ ?_;clear K' hK;with_reducible refine aA ?_;refine aR fun K' hK=> ?_
 simp;refine acall_flat (right138_ok r hr) rfl (by simp[Rg.cells]) ?_;by_cases c1:rgOk r=true
 ·simp[c1];refine hK _ _ _ ?_;clear K' hK;with_reducible refine aYk (by simp) ?_;refine aR fun K' hK=> ?_
  simp;refine hK _ _ _ ?_;clear K' hK;with_reducible refine aA ?_;refine aR fun K' hK=> ?_
  simp[Rg.cells];refine hK _ _ _ ?_;clear K' hK;have h8:r.length≤8∧∀l∈r,l.length≤8:=by
   simp only[rgOk,Bool.and_eq_true,List.all_eq_true,decide_eq_true_eq]at c1;exact⟨c1.2.2,fun l hl=>by have:=c1.1 l hl;simp only[altOk,Bool.and_eq_true,decide_eq_true_eq]at this;exact this.2⟩
  with_reducible refine aw_block ?_
  refine aw_loop (fun s G nx=>s 18=rowT Alt.cells r∧s 19=iV r.length∧∃(i r4:Nat),s 20=iV i∧i≤r.length∧s 4=.row r4 i∧G r4=some (.row 9 (flat sC ((r.take i).map altS)))) (fun s _ _=>match s 20 with | .v (.int _ n)=>r.length-n.toNat | _=>0) ?_ ?_
  ·refine⟨by simp,by simp,0,_,by simp,by omega,by simp;rfl,by simp⟩
  ·rintro s G nx hf ⟨s18,s19,i,r4,s20,hi,s4,g4⟩;have o20:=s20;have hlt4:=fresh_lt hf g4;have hw:IntKind.i64.wrap (↑i+1)=((i+1:Nat):Int):=wrapS (by omega);with_reducible refine aR fun K' hK=> ?_
   simp[s19,s20];refine hK _ _ _ ?_;clear K' hK;with_reducible refine aC fun A B hA hB=> ?_
   simp;refine⟨fun hi2=>hA ?_,fun hi2=>hB ?_⟩<;>clear hA hB A B<;>(try simp at hi2)<;>(try with_reducible refine aK ?_)
   ·have h8l:=h8.2 _ (nth_mem hi2);have hA:=hr.2 _ (nth_mem hi2);have hsnoc:(r.take (i+1)).map altS=(r.take i).map altS++[altS (nth r i)]:=(by rw[List.take_add_one,List.getElem?_eq_getElem hi2,←nth_eq hi2,List.map_append];rfl);generalize hgl:nth r i=l at*;generalize hL4:(r.take i).map altS=L4 at*;have hL4l:L4.length=i:=(by rw[←hL4,List.length_map,List.length_take];omega);with_reducible refine aw_block ?_;refine aR fun K' hK=> ?_
    simp[s18,s20,hi2,hgl];refine hK _ _ _ ?_;clear K' hK;with_reducible refine aR fun K' hK=> ?_
    simp;refine hK _ _ _ ?_;clear K' hK;with_reducible refine aA ?_;refine aR fun K' hK=> ?_
    simp;refine hK _ _ _ ?_;clear K' hK;have n4:¬r4=nx:=(by omega);with_reducible refine aw_block ?_
    refine aw_loop (fun s G ny=>s 18=rowT Alt.cells r∧s 19=iV r.length∧s 20=iV i∧s 4=.row r4 i∧G r4=some (.row 9 (flat sC L4))∧s 24=rowT Bd.cells l∧s 25=iV l.length∧∃(j r7:Nat),s 26=iV j∧j≤l.length∧r7≠r4∧s 7=.row r7 (bdsS (l.take j)).length∧G r7=some (.row 9 (flat sC (bdsS (l.take j))))) (fun s _ _=>match s 26 with | .v (.int _ n)=>l.length-n.toNat | _=>0) ?_ ?_
    ·refine⟨by simp[s18],by simp[s19],by simp[s20],by simp[s4],by simp[n4,g4],by simp,by simp,0,nx,by simp,by omega,by omega,by simp[bdsS],by simp[bdsS]⟩
    ·clear s18 s19 s20 s4 g4 hf hlt4 n4;rintro s G nx hf ⟨s18,s19,s20,s4,g4,s24,s25,j,r7,s26,hj,h74,s7,g7⟩;have o26:=s26;have hlt4:=fresh_lt hf g4;have hlt7:=fresh_lt hf g7;have hwj:IntKind.i64.wrap (↑j+1)=((j+1:Nat):Int):=wrapS (by omega);with_reducible refine aR fun K' hK=> ?_
     simp[s25,s26];refine hK _ _ _ ?_;clear K' hK;with_reducible refine aC fun A B hA hB=> ?_
     simp;refine⟨fun hj2=>hA ?_,fun hj2=>hB ?_⟩<;>clear hA hB A B<;>(try simp at hj2)<;>(try with_reducible refine aK ?_)
     ·have hbz:=hA.2 _ (nth_mem hj2);have hnext:=bdsS_take hj2;have hL7l:(bdsS (l.take j)).length≤40:=by
       have:=bdsS_len (l.take j);rw[List.length_take]at this;omega
      generalize hgb:nth l j=b at*;generalize hL7:bdsS (l.take j)=L7 at*;with_reducible refine aw_block ?_;refine aR fun K' hK=> ?_
      simp[s24,s26,hj2,hgb];refine hK _ _ _ ?_;clear K' hK;with_reducible refine aR fun K' hK=> ?_
      simp;refine acall_flat (print51_ok b.ver (by omega)) rfl (by simp) ?_;simp;refine hK _ _ _ ?_;clear K' hK;with_reducible refine aR fun K' hK=> ?_
      simp;refine hK _ _ _ ?_;clear K' hK;have n4:¬r4=nx:=(by omega);have n7:¬r7=nx:=(by omega);with_reducible refine aw_toS (aw_block ?_)
      refine aw_loop (fun s G ny=>s 18=rowT Alt.cells r∧s 19=iV r.length∧s 20=iV i∧s 4=.row r4 i∧G r4=some (.row 9 (flat sC L4))∧s 24=rowT Bd.cells l∧s 25=iV l.length∧s 26=iV j∧s 9=.ptr nx 0∧G nx=some (.var 87 b.cells)∧s 10=sV (prV b.ver)∧s 36=.agg (signsV.map AV.v)∧∃(k r7:Nat),s 37=iV k∧k≤5∧r7≠r4∧r7≠nx∧s 7=.row r7 (L7++bdS b k).length∧G r7=some (.row 9 (flat sC (L7++bdS b k)))) (fun s _ _=>match s 37 with | .v (.int _ n)=>5-n.toNat | _=>0) ?_ ?_
      ·refine⟨by simp[s18],by simp[s19],by simp[s20],by simp[s4],by simp[n4,g4],by simp[s24],by simp[s25],by simp[s26],by simp,by simp,by simp,by simp,0,r7,by simp,by omega,h74,by omega,by simp[s7,bdS],by simp[n7,g7,bdS]⟩
      ·clear s18 s19 s20 s4 g4 s24 s25 s26 s7 g7 hf hlt4 hlt7 n4 n7;rintro s G ny hf ⟨s18,s19,s20,s4,g4,s24,s25,s26,s9,gp,s10,s36,k,q,s37,hk,h74,h7p,s7,g7⟩;have o37:=s37;have hlt4:=fresh_lt hf g4;have hlt7:=fresh_lt hf g7;have hltp:=fresh_lt hf gp;have hwk:IntKind.i64.wrap (↑k+1)=((k+1:Nat):Int):=wrapS (by omega);with_reducible refine aR fun K' hK=> ?_
       simp[s37];refine hK _ _ _ ?_;clear K' hK;with_reducible refine aC fun A B hA hB=> ?_
       simp;refine⟨fun hk2=>hA ?_,fun hk2=>hB ?_⟩<;>clear hA hB A B<;>(try simp at hk2)<;>(try with_reducible refine aK ?_)
       ·have hk5:k<5:=(by omega);obtain⟨hix,hsz⟩:=sign_ix k hk5;have hst:=bdS_step b hk5;have hql:=bdS_len b k;generalize hL:L7++bdS b k=L at*;have hLl:L.length≤45:=(by rw[←hL,List.length_append];omega);with_reducible refine aw_block ?_;refine aR fun K' hK=> ?_
        simp[-evIndexS_agg,s36,s37,hix];refine hK _ _ _ ?_;clear K' hK;have p0:¬nx=ny:=(by omega);have p4:¬r4=ny:=(by omega);have pq:¬q=ny:=(by omega);by_cases hop:(nth signsL k).1=b.op
        ·skip;with_reducible refine aR fun K' hK=> ?_
         simp[s9,gp,p0,hop];refine hK _ _ _ ?_;clear K' hK;with_reducible refine aU (by simp[hop]) ?_
         have hb1:L.length+1≤9223372036854775807:=(by omega);have hb2:(L.length+1)*16≤140737488355328:=(by omega);have hfit:Fits (nth signsL k).2 (prV b.ver):=by
          have:=prV_size b.ver;simp only[Fits];omega
         have pq1:¬q=ny+1:=(by omega);with_reducible refine aR fun K' hK=> ?_
         simp[s7,g7,s10,pq,pq1,hfit,treeOf_row,srcOf_row,hb1,hb2,Nat.add_assoc];refine hK _ _ _ ?_;clear K' hK;with_reducible refine aw_skipL ?_
         refine blockK_normal ?_;with_reducible refine aS fun K' hK=> ?_
         simp[s37,hwk];refine hK _ _ _ ?_;clear K' hK;have e1:L7++bdS b (k+1)=L++[(nth signsL k).2++prV b.ver]:=(by rw[hst,if_pos hop,←List.append_assoc,hL]);have q0:¬nx=ny+1:=(by omega);have q1:¬nx=ny+2:=(by omega);have q2:¬r4=ny+1:=(by omega);have q3:¬r4=ny+2:=(by omega);have q4:¬r4=q:=(by omega);have q5:¬nx=q:=(by omega);refine aw_skipL (loopK_normal ?_ ?_)
         ·refine⟨by simp[s18],by simp[s19],by simp[s20],by simp[s4],by simp[p4,q2,q3,q4,g4],by simp[s24],by simp[s25],by simp[s26],by simp[s9],by simp[p0,q0,q1,q5,gp],by simp[s10],by simp[s36],k+1,ny+2,by simp[hwk],by omega,by omega,by omega,by simp[e1],?_⟩;rw[Hp.upd_self,e1,←flat_snoc];rfl
         ·simp[s37,hwk];omega
        ·skip;with_reducible refine aR fun K' hK=> ?_
         simp[s9,gp,p0,hop];refine hK _ _ _ ?_;clear K' hK;with_reducible refine aVk (by simp[hop]) ?_;refine aw_skipL ?_
         refine blockK_normal ?_;with_reducible refine aS fun K' hK=> ?_
         simp[s37,hwk];refine hK _ _ _ ?_;clear K' hK;have e1:L7++bdS b (k+1)=L:=(by rw[hst,if_neg hop,List.append_nil,hL]);refine aw_skipL (loopK_normal ?_ ?_)
         ·exact⟨by simp[s18],by simp[s19],by simp[s20],by simp[s4],by simp[p4,g4],by simp[s24],by simp[s25],by simp[s26],by simp[s9],by simp[p0,gp],by simp[s10],by simp[s36],k+1,q,by simp[hwk],by omega,h74,h7p,by simp[e1,s7],by simp[e1,pq,g7]⟩
         ·simp[s37,hwk];omega
       ·skip;with_reducible refine aw_exit ?_
        refine loopK_exit (blockK_exit ?_);have hk5:k=5:=(by omega);subst hk5;rw[←hnext]at s7 g7;with_reducible refine aw_skipL ?_
        refine blockK_normal ?_;with_reducible refine aS fun K' hK=> ?_
        simp[s26,hwj];refine hK _ _ _ ?_;clear K' hK;refine aw_skipL (loopK_normal ?_ ?_)
        ·exact⟨by simp[s18],by simp[s19],by simp[s20],by simp[s4],by simp[g4],by simp[s24],by simp[s25],j+1,q,by simp[hwj],by omega,h74,by simp[s7],by simp[g7]⟩
        ·simp[o26,s26,hwj];omega
     ·skip;with_reducible refine aw_exit ?_
      refine loopK_exit (blockK_exit ?_);rw[List.take_of_length_le (by omega)]at s7 g7;have hBl:=bdsS_len l;have hBs:∀x∈bdsS l,x.size≤1000100:=fun x hx=>bdsS_size hA hx;have n47:¬r4=r7:=fun e=>h74 e.symm;have n4:¬r4=nx:=(by omega);have n4a:¬r4=nx+1:=(by omega);have n7:¬r7=nx:=(by omega);have n7a:¬r7=nx+1:=(by omega);have halt:altS l=ofL (Lib.join ((starS (bdsS l)).map bsL) [32]):=rfl;have haz:=altS_size hA h8l;generalize bdsS l=L at*;with_reducible refine aA ?_;refine aw_un ?_
      refine aw_cut (fun s G ny=>s 18=rowT Alt.cells r∧s 19=iV r.length∧s 20=iV i∧s 4=.row r4 i∧G r4=some (.row 9 (flat sC L4))∧ny<ny+1∧r4<ny∧∃q,q≠r4∧q<ny∧s 7=.row q (starS L).length∧G q=some (.row 9 (flat sC (starS L)))) ?_ ?_
      ·by_cases hL:L=[]
       ·subst hL;with_reducible refine aR fun K' hK=> ?_
        simp[s7,g7];refine hK _ _ _ ?_;clear K' hK;with_reducible refine aU (by simp) ?_;refine aR fun K' hK=> ?_
        simp[s7,g7,n7,treeOf_row,srcOf_row];refine hK _ _ _ ?_;clear K' hK;with_reducible refine aw_end ?_
        exact⟨by simp[s18],by simp[s19],by simp[s20],by simp[s4],by simp[n4,n4a,n47,g4],by omega,by omega,nx+1,by omega,by omega,by simp[starS],by simp[starS];rfl⟩
       ·have hL0:¬L.length=0:=fun h=>hL (List.eq_nil_of_length_eq_zero h);with_reducible refine aR fun K' hK=> ?_
        simp[s7,g7,hL0];refine hK _ _ _ ?_;clear K' hK;with_reducible refine aVk (by simp[hL0]) ?_;refine aw_end ?_
        exact⟨by simp[s18],by simp[s19],by simp[s20],by simp[s4],by simp[g4],by omega,by omega,r7,h74,by omega,by simp[starS,hL,s7],by simp[starS,hL,g7]⟩
      ·clear s18 s19 s20 s4 g4 s24 s25 s26 s7 g7 hf hlt4 hlt7 n4 n4a n7 n7a n47;rintro s G ny ⟨s18,s19,s20,s4,g4,-,hlt4,q,hq4,hltq,s7,g7⟩;have hSl:(starS L).length≤41:=starS_len (by omega);have hSs:=starS_size hBs;generalize starS L=L at*;have hjl:(Lib.join (L.map bsL) (bsL ⟨#[32]⟩)).length≤140737488355328:=by
        have:=join_sz (L:=L) (sep:=bsL ⟨#[32]⟩) (by decide) hSl hSs;omega
       have n4:¬r4=ny:=(by omega);have n4a:¬r4=ny+1:=(by omega);have hb1:i+1≤9223372036854775807:=(by omega);have hb2:(i+1)*16≤140737488355328:=(by omega);have hc9:Tryz.prog.cellsOf 9=1:=(by kernel_rfl);with_reducible refine aS fun K' hK=> ?_
       simp[s7,g7];refine acall_flat (join72 L ⟨#[32]⟩ (by omega) hjl) rfl (by simp[treeOf_of (P:=Tryz.prog) g7 hc9 rfl]) ?_;simp[s4,g4,n4,n4a,hL4l,treeOf_row,srcOf_row,src_sl,hb1,hb2];refine hK _ _ _ ?_;clear K' hK;with_reducible refine aw_skipL ?_
       refine blockK_normal ?_;with_reducible refine aS fun K' hK=> ?_
       simp[s20,hw];refine hK _ _ _ ?_;clear K' hK;refine aw_skipL (loopK_normal ?_ ?_)
       ·refine⟨by simp[s18],by simp[s19],i+1,ny+1,by simp[hw],by omega,by simp,?_⟩;rw[hsnoc,halt,Hp.upd_self,←flat_snoc];rfl
       ·simp[o20,s20,hw];omega
   ·skip;with_reducible refine aw_exit ?_
    refine loopK_exit (blockK_exit ?_);have hi8:i=r.length:=(by omega);subst hi8;rw[List.take_length]at g4;have hjl:(Lib.join ((r.map altS).map bsL) (bsL ⟨#[32,124,124,32]⟩)).length≤140737488355328:=by
     have:=join_sz (L:=r.map altS) (sep:=bsL ⟨#[32,124,124,32]⟩) (n:=8) (m:=41*1000104) (by decide) (by rw[List.length_map];exact h8.1) (fun x hx=>by
      obtain⟨l,hl,rfl⟩:=List.mem_map.1 hx;exact altS_size (hr.2 l hl) (h8.2 l hl))
     omega
    have hll:r.length=(r.map altS).length:=(by simp);have hc9:Tryz.prog.cellsOf 9=1:=(by kernel_rfl);with_reducible refine aR fun K' hK=> ?_
    simp[s4,g4];refine acall_flat (join72 (r.map altS) ⟨#[32,124,124,32]⟩ (by rw[List.length_map];omega) hjl) rfl (by simp[treeOf_of (P:=Tryz.prog) g4 hc9 hll]) ?_;simp;refine hK _ _ _ ?_;clear K' hK;with_reducible refine aw_retL ?_
    simp[blockK,loopK,Post,resA,res1,expT,expA,exp1,expM,expL,okT,okA,ok1,rowOf,Tryz.f193];refine⟨?_,c1⟩;rw[prR,if_pos c1,List.map_map];rfl
 ·simp[c1];refine hK _ _ _ ?_;clear K' hK;with_reducible refine aX (by simp) ?_;refine aA ?_;refine aR fun K' hK=> ?_
  simp;refine hK _ _ _ ?_;clear K' hK;with_reducible refine aw_ret ?_
  simp[blockK,loopK,Post,resA,res1,expT,expA,exp1,expM,expL,okT,okA,ok1,rowOf,Tryz.f193];simp[prR,c1]
set_option maxRecDepth 100000
set_option maxHeartbeats 4000000
theorem isNaN194_ok (a:Int):CallsOK Tryz.prog 194 [iV a] (bV false) []:=by
 refine callsOK mixed Tryz.call194 Tryz.func194 rfl (by rw[Tryz.ntmps194];simp) ?_ rfl;rw[Tryz.ntmps194];with_reducible refine aR fun K' hK=> ?_
 simp;refine hK _ _ _ ?_;clear K' hK;with_reducible refine aR fun K' hK=> ?_
 simp;refine hK _ _ _ ?_;clear K' hK;with_reducible refine aw_retL ?_
 simp[blockK,loopK,Post,resA,res1,expT,expA,exp1,expM,expL,okT,okA,ok1,rowOf,Tryz.f194]
theorem cmpK_ok (a b:Int):CallsOK Tryz.prog 158 [iV a,iV b] (iV (cmpI a b)) []:=by
 refine callsOK mixed Tryz.call158 Tryz.func158 rfl (by rw[Tryz.ntmps158];simp) ?_ rfl;rw[Tryz.ntmps158];with_reducible refine aR fun K' hK=> ?_
 simp;refine hK _ _ _ ?_;clear K' hK;with_reducible refine aR fun K' hK=> ?_
 simp;refine acall_flat (isNaN194_ok a) rfl (by simp) ?_;simp;refine hK _ _ _ ?_;clear K' hK;with_reducible refine aR fun K' hK=> ?_
 simp;refine acall_flat (isNaN194_ok b) rfl (by simp) ?_;simp;refine hK _ _ _ ?_;clear K' hK;with_reducible refine aA ?_;refine aR fun K' hK=> ?_
 simp;refine hK _ _ _ ?_;clear K' hK;with_reducible refine aYk (by simp) ?_;refine aA ?_;refine aR fun K' hK=> ?_
 simp;refine hK _ _ _ ?_;clear K' hK;with_reducible refine aYk (by simp) ?_;refine aA ?_;refine aR fun K' hK=> ?_
 simp;refine hK _ _ _ ?_;clear K' hK;with_reducible refine aC fun A B hA hB=> ?_
 simp;refine⟨fun h1=>hA ?_,fun h1=>hB ?_⟩<;>clear hA hB A B<;>(try simp at h1)<;>(try with_reducible refine aK ?_)
 ·with_reducible refine aA ?_;refine aR fun K' hK=> ?_
  simp;refine hK _ _ _ ?_;clear K' hK;with_reducible refine aw_ret ?_
  simp[blockK,loopK,Post,resA,res1,expT,expA,exp1,expM,expL,okT,okA,ok1,rowOf,Tryz.f158];simp[cmpI,h1]
 ·with_reducible refine aA ?_;refine aR fun K' hK=> ?_
  simp;refine hK _ _ _ ?_;clear K' hK;with_reducible refine aC fun A B hA hB=> ?_
  simp;refine⟨fun h2=>hA ?_,fun h2=>hB ?_⟩<;>clear hA hB A B<;>(try simp at h2)<;>(try with_reducible refine aK ?_)
  ·with_reducible refine aA ?_;refine aR fun K' hK=> ?_
   simp;refine hK _ _ _ ?_;clear K' hK;with_reducible refine aw_ret ?_
   simp[blockK,loopK,Post,resA,res1,expT,expA,exp1,expM,expL,okT,okA,ok1,rowOf,Tryz.f158];simp[cmpI,h1,h2]
  ·skip;with_reducible refine aR fun K' hK=> ?_
   simp;refine hK _ _ _ ?_;clear K' hK;with_reducible refine aw_retL ?_
   simp[blockK,loopK,Post,resA,res1,expT,expA,exp1,expM,expL,okT,okA,ok1,rowOf,Tryz.f158];simp only[cmpI];rw[if_neg (by omega),if_neg (by omega)]
def ruledB (n:Bs) (r:Rg):Bool:=rgOk r&&goodF (bsL n)
theorem ruled156_ok (n:Bs) (r:Rg) (hn:n.size≤1000000) (hr:Rg.sz r):CallsOK Tryz.prog 156 [sV n,.agg r.cells] (bV (ruledB n r)) []:=by
 refine callsOK mixed Tryz.call156 Tryz.func156 rfl (by rw[Tryz.ntmps156];simp) ?_ rfl;rw[Tryz.ntmps156];with_reducible refine aR fun K' hK=> ?_
 simp;refine hK _ _ _ ?_;clear K' hK;with_reducible refine aR fun K' hK=> ?_
 simp;refine acall_flat (print193_ok r hr) rfl (by simp[Rg.cells]) ?_;simp;refine hK _ _ _ ?_;clear K' hK;by_cases h:rgOk r=true
 ·skip;with_reducible refine aR fun K' hK=> ?_
  simp[h];refine acall_flat (good52_ok n (by omega)) rfl (by simp) ?_;simp;refine hK _ _ _ ?_;clear K' hK;with_reducible refine aw_retL ?_
  simp[blockK,loopK,Post,resA,res1,expT,expA,exp1,expM,expL,okT,okA,ok1,rowOf,Tryz.f156];simp[ruledB,h]
 ·skip;with_reducible refine aR fun K' hK=> ?_
  simp[h];refine hK _ _ _ ?_;clear K' hK;with_reducible refine aw_retL ?_
  simp[blockK,loopK,Post,resA,res1,expT,expA,exp1,expM,expL,okT,okA,ok1,rowOf,Tryz.f156];simp[ruledB,h]
def kindB (root:Bool) (d:Dep):Bool:=decide (1≤d.kind∧d.kind≤4)&&(root || !decide (d.kind=2))
def depLt (a b:Dep):Bool:=decide (orN [cmpI a.kind b.kind,cmpB a.name b.name]<0)
def depAt (root:Bool) (ds:List Dep) (i:Nat):Bool:=kindB root (nth ds i)&&(ruledB (nth ds i).name (nth ds i).range&&(decide (i=0) || depLt (nth ds (i-1)) (nth ds i)))
def ruAt (rs:List Ru) (i:Nat):Bool:=ruledB (nth rs i).name (nth rs i).range&&(decide (i=0) || ltB (nth rs (i-1)).name (nth rs i).name)
def manHead (m:Man) (root:Bool):Bool:=verOk m.ver&&((goodF (bsL m.name) || (decide (m.name=⟨#[]⟩)&&root))&&(decide (m.rules.length=0) || root))
def manRight (m:Man) (root:Bool):Bool:=manHead m root&&((List.range m.deps.length).all (depAt root m.deps)&&(List.range m.rules.length).all (ruAt m.rules))
theorem rng_all {p:Nat→Bool} {i n:Nat} (hi:i<n) (h:p i=false):(List.range n).all p=false:=by
 cases e:(List.range n).all p with
 | false=>rfl
 | true=>rw[List.all_eq_true.1 e i (List.mem_range.2 hi)]at h;cases h
theorem rng_step {p:Nat→Bool} {i:Nat} (h0:(List.range i).all p=true) (h:p i=true):(List.range (i+1)).all p=true:=by
 rw[List.range_succ,List.all_append,h0];simp[h]
def Man.sz (m:Man):Prop:=m.name.size≤1000000∧m.ver.pre.size≤1000000∧(m.deps.length≤1000000000∧∀d∈m.deps,d.name.size≤1000000∧Rg.sz d.range)∧(m.rules.length≤1000000000∧∀d∈m.rules,d.name.size≤1000000∧Rg.sz d.range)
theorem manRight_ok (m:Man) (hm:Man.sz m) (root:Bool):CallsOK Tryz.prog 103 [.agg m.cells,bV root] (bV (manRight m root)) []:=by
 refine callsOK mixed Tryz.call103 Tryz.func103 rfl (by rw[Tryz.ntmps103];simp) ?_ rfl;rw[Tryz.ntmps103];obtain⟨hmn,hmv,⟨hdl,hd⟩,⟨hul,hu⟩⟩:=hm;with_reducible refine aR fun K' hK=> ?_
 simp;refine hK _ _ _ ?_;clear K' hK;with_reducible refine aA ?_;refine aR fun K' hK=> ?_
 simp;refine acall_flat (print51_ok m.ver (by omega)) rfl (by simp) ?_;simp;refine hK _ _ _ ?_;clear K' hK;by_cases c1:verOk m.ver=true
 ·skip;with_reducible refine aA ?_;refine aw_un ?_
  refine aw_cutR (fun s G nx=>manHead m root=true∧s 2=.ptr 0 0∧G 0=some (.var 27 m.cells)∧s 1=bV root) ?_ ?_
  ·skip;with_reducible refine aR fun K' hK=> ?_
   refine aops_part 8 fun K2 hK2=> ?_;simp[c1];refine acall_flat (good52_ok m.name (by omega)) rfl (by simp) ?_;simp;refine hK2 _ _ _ ?_;clear K2 hK2;by_cases g:goodF (bsL m.name)=true
   ·cases root with
    | true=>
     by_cases u:0<m.rules.length
     ·have u2:(0:Int)<(m.rules.length:Int):=(by omega);have u':¬m.rules=[]:=fun h=>(by rw[h]at u;simp at u);refine aops_part 9 fun K2 hK2=> ?_;simp[g,u,u2,u'];refine hK2 _ _ _ ?_;clear K2 hK2;simp[g,u,u2,u'];refine hK _ _ _ ?_;clear K' hK;with_reducible refine aVk (by simp) ?_;refine aw_endR ?_
      exact⟨by simp[manHead,c1,g,u,u2,u'],by simp,by simp,by simp⟩
     ·have u2:¬(0:Int)<(m.rules.length:Int):=(by omega);have u':m.rules=[]:=List.eq_nil_of_length_eq_zero (by omega);refine aops_part 9 fun K2 hK2=> ?_;simp[g,u,u2,u'];refine hK2 _ _ _ ?_;clear K2 hK2;simp[g,u,u2,u'];refine hK _ _ _ ?_;clear K' hK;with_reducible refine aVk (by simp) ?_;refine aw_endR ?_
      exact⟨by simp[manHead,c1,g,u,u2,u'],by simp,by simp,by simp⟩
    | false=>
     by_cases u:0<m.rules.length
     ·have u2:(0:Int)<(m.rules.length:Int):=(by omega);have u':¬m.rules=[]:=fun h=>(by rw[h]at u;simp at u);refine aops_part 9 fun K2 hK2=> ?_;simp[g,u,u2,u'];refine hK2 _ _ _ ?_;clear K2 hK2;simp[g,u,u2,u'];refine hK _ _ _ ?_;clear K' hK;with_reducible refine aU (by simp) ?_;refine aA ?_;refine aR fun K' hK=> ?_
      simp;refine hK _ _ _ ?_;clear K' hK;with_reducible refine aw_ret ?_
      simp[blockK,loopK,Post,resA,res1,expT,expA,exp1,expM,expL,okT,okA,ok1,rowOf,Tryz.f103,cutK];simp[manRight,manHead,c1,g,u,u2,u']
     ·have u2:¬(0:Int)<(m.rules.length:Int):=(by omega);have u':m.rules=[]:=List.eq_nil_of_length_eq_zero (by omega);refine aops_part 9 fun K2 hK2=> ?_;simp[g,u,u2,u'];refine hK2 _ _ _ ?_;clear K2 hK2;simp[g,u,u2,u'];refine hK _ _ _ ?_;clear K' hK;with_reducible refine aVk (by simp) ?_;refine aw_endR ?_
      exact⟨by simp[manHead,c1,g,u,u2,u'],by simp,by simp,by simp⟩
   ·by_cases e:m.name=⟨#[]⟩
    ·cases root with
     | true=>
      by_cases u:0<m.rules.length
      ·have u2:(0:Int)<(m.rules.length:Int):=(by omega);have u':¬m.rules=[]:=fun h=>(by rw[h]at u;simp at u);refine aops_part 9 fun K2 hK2=> ?_;simp[g,e,u,u2,u'];refine hK2 _ _ _ ?_;clear K2 hK2;simp[g,e,u,u2,u'];refine hK _ _ _ ?_;clear K' hK;with_reducible refine aVk (by simp) ?_;refine aw_endR ?_
       exact⟨by simp[manHead,c1,g,e,u,u2,u'],by simp,by simp,by simp⟩
      ·have u2:¬(0:Int)<(m.rules.length:Int):=(by omega);have u':m.rules=[]:=List.eq_nil_of_length_eq_zero (by omega);refine aops_part 9 fun K2 hK2=> ?_;simp[g,e,u,u2,u'];refine hK2 _ _ _ ?_;clear K2 hK2;simp[g,e,u,u2,u'];refine hK _ _ _ ?_;clear K' hK;with_reducible refine aVk (by simp) ?_;refine aw_endR ?_
       exact⟨by simp[manHead,c1,g,e,u,u2,u'],by simp,by simp,by simp⟩
     | false=>
      refine aops_part 9 fun K2 hK2=> ?_;simp[g,e];refine hK2 _ _ _ ?_;clear K2 hK2;simp[g,e];refine hK _ _ _ ?_;clear K' hK;with_reducible refine aU (by simp) ?_;refine aA ?_;refine aR fun K' hK=> ?_
      simp;refine hK _ _ _ ?_;clear K' hK;with_reducible refine aw_ret ?_
      simp[blockK,loopK,Post,resA,res1,expT,expA,exp1,expM,expL,okT,okA,ok1,rowOf,Tryz.f103,cutK];simp[manRight,manHead,c1,g]
    ·skip;refine aops_part 9 fun K2 hK2=> ?_;simp[g,e];refine hK2 _ _ _ ?_;clear K2 hK2;simp[g,e];refine hK _ _ _ ?_;clear K' hK;with_reducible refine aU (by simp) ?_;refine aA ?_;refine aR fun K' hK=> ?_
     simp;refine hK _ _ _ ?_;clear K' hK;with_reducible refine aw_ret ?_
     simp[blockK,loopK,Post,resA,res1,expT,expA,exp1,expM,expL,okT,okA,ok1,rowOf,Tryz.f103,cutK];simp[manRight,manHead,c1,g,e]
  rintro s G nx ⟨hh,s2,g0,s1⟩;with_reducible refine aA ?_;refine aR fun K' hK=> ?_
  simp[s2,g0];refine hK _ _ _ ?_;clear K' hK;with_reducible refine aw_block ?_
  refine aw_loop (fun s G nx=>G 0=some (.var 27 m.cells)∧s 2=.ptr 0 0∧s 1=bV root∧s 45=rowT Dep.cells m.deps∧s 46=iV m.deps.length∧∃i:Nat,s 47=iV i∧i≤m.deps.length∧(List.range i).all (depAt root m.deps)=true) (fun s _ _=>match s 47 with | .v (.int _ n)=>m.deps.length-n.toNat | _=>0) ?_ ?_
  ·exact⟨by simp[g0],by simp[s2],by simp[s1],by simp,by simp,0,by simp,by omega,by simp⟩
  ·clear s1 s2 g0;rintro s G nx hf ⟨g0,s2,s1,s45,s46,i,s47,hi,ht⟩;have o47:=s47;have n0:¬0=nx:=(by have:=fresh_lt hf g0;omega);have hw:IntKind.i64.wrap (↑i+1)=((i+1:Nat):Int):=wrapS (by omega);with_reducible refine aR fun K' hK=> ?_
   simp[s46,s47];refine hK _ _ _ ?_;clear K' hK;with_reducible refine aC fun A B hA hB=> ?_
   simp;refine⟨fun hi2=>hA ?_,fun hi2=>hB ?_⟩<;>clear hA hB A B<;>(try simp at hi2)<;>(try with_reducible refine aK ?_)
   ·have hdd:=hd _ (nth_mem hi2);have hfalse:depAt root m.deps i=false→manRight m root=false:=fun h=>(by rw[manRight,rng_all hi2 h];simp);have hstep:=rng_step (p:=depAt root m.deps) ht;have hdef:depAt root m.deps i=(kindB root (nth m.deps i)&&(ruledB (nth m.deps i).name (nth m.deps i).range&&(decide (i=0) || depLt (nth m.deps (i-1)) (nth m.deps i)))):=rfl;generalize hgd:nth m.deps i=d at*;with_reducible refine aw_block ?_;refine aR fun K' hK=> ?_
    simp[s45,s47,hi2,hgd];refine hK _ _ _ ?_;clear K' hK;with_reducible refine aA ?_;refine aw_un ?_
    refine aw_cutR (fun s G ny=>kindB root d=true∧ruledB d.name d.range=true∧G 0=some (.var 27 m.cells)∧s 2=.ptr 0 0∧s 1=bV root∧s 45=rowT Dep.cells m.deps∧s 46=iV m.deps.length∧s 47=iV i∧s 7=iV i∧s 8=.ptr nx 0∧G nx=some (.var 35 d.cells)∧nx<ny) ?_ ?_
    ·have hret:kindB root d=false→manRight m root=false:=fun h=>hfalse (by rw[hdef,h];rfl);have hret2:ruledB d.name d.range=false→manRight m root=false:=fun h=>hfalse (by rw[hdef,h];simp);by_cases k1:d.kind<1
     ·skip;with_reducible refine aR fun K' hK=> ?_
      simp[k1];refine hK _ _ _ ?_;clear K' hK;with_reducible refine aU (by simp) ?_;refine aA ?_;refine aR fun K' hK=> ?_
      simp;refine hK _ _ _ ?_;clear K' hK;with_reducible refine aw_ret ?_
      simp[blockK,loopK,Post,resA,res1,expT,expA,exp1,expM,expL,okT,okA,ok1,rowOf,Tryz.f103,cutK];exact hret (by simp[kindB];omega)
     ·by_cases k4:4<d.kind
      ·skip;with_reducible refine aR fun K' hK=> ?_
       simp[k1,k4];refine hK _ _ _ ?_;clear K' hK;with_reducible refine aU (by simp) ?_;refine aA ?_;refine aR fun K' hK=> ?_
       simp;refine hK _ _ _ ?_;clear K' hK;with_reducible refine aw_ret ?_
       simp[blockK,loopK,Post,resA,res1,expT,expA,exp1,expM,expL,okT,okA,ok1,rowOf,Tryz.f103,cutK];exact hret (by simp[kindB];omega)
      ·by_cases k2:d.kind=2
       ·cases root with
        | false=>
         with_reducible refine aR fun K' hK=> ?_
         simp[k1,k4,k2,s1];refine hK _ _ _ ?_;clear K' hK;with_reducible refine aU (by simp) ?_;refine aA ?_;refine aR fun K' hK=> ?_
         simp;refine hK _ _ _ ?_;clear K' hK;with_reducible refine aw_ret ?_
         simp[blockK,loopK,Post,resA,res1,expT,expA,exp1,expM,expL,okT,okA,ok1,rowOf,Tryz.f103,cutK];exact hret (by simp[kindB,k2])
        | true=>
         with_reducible refine aR fun K' hK=> ?_
         simp[k1,k4,k2,s1];refine acall_flat (ruled156_ok d.name d.range hdd.1 hdd.2) rfl (by simp[Rg.cells]) ?_;by_cases hru:ruledB d.name d.range=true
         ·simp[hru];refine hK _ _ _ ?_;clear K' hK;with_reducible refine aVk (by simp) ?_;refine aw_endR ?_
          exact⟨by simp[kindB,k2],hru,by simp[n0,g0],by simp[s2],by simp[s1],by simp[s45],by simp[s46],by simp[s47],by simp[s47],by simp,by simp,by omega⟩
         ·simp[hru];refine hK _ _ _ ?_;clear K' hK;with_reducible refine aU (by simp) ?_;refine aA ?_;refine aR fun K' hK=> ?_
          simp;refine hK _ _ _ ?_;clear K' hK;with_reducible refine aw_ret ?_
          simp[blockK,loopK,Post,resA,res1,expT,expA,exp1,expM,expL,okT,okA,ok1,rowOf,Tryz.f103,cutK];exact hret2 (by simpa using hru)
       ·skip;with_reducible refine aR fun K' hK=> ?_
        simp[k1,k4,k2];refine acall_flat (ruled156_ok d.name d.range hdd.1 hdd.2) rfl (by simp[Rg.cells]) ?_;by_cases hru:ruledB d.name d.range=true
        ·simp[hru];refine hK _ _ _ ?_;clear K' hK;with_reducible refine aVk (by simp) ?_;refine aw_endR ?_
         exact⟨by simp[kindB,k2];omega,hru,by simp[n0,g0],by simp[s2],by simp[s1],by simp[s45],by simp[s46],by simp[s47],by simp[s47],by simp,by simp,by omega⟩
        ·simp[hru];refine hK _ _ _ ?_;clear K' hK;with_reducible refine aU (by simp) ?_;refine aA ?_;refine aR fun K' hK=> ?_
         simp;refine hK _ _ _ ?_;clear K' hK;with_reducible refine aw_ret ?_
         simp[blockK,loopK,Post,resA,res1,expT,expA,exp1,expM,expL,okT,okA,ok1,rowOf,Tryz.f103,cutK];exact hret2 (by simpa using hru)
    ·clear s1 s2 g0 s45 s46 s47 hf n0;rintro s G ny ⟨hk,hru,g0,s2,s1,s45,s46,s47,s7,s8,gd,hny⟩;have n0:¬0=ny:=(by omega);by_cases hz:i=0
     ·have hz':¬(0:Int)<(i:Int):=(by omega);have hz2:¬0<i:=(by omega);with_reducible refine aQ fun K' hK=> ?_
      refine aops_part 12 fun K2 hK2=> ?_;simp[s7,hz',hz2];refine hK2 _ _ _ ?_;clear K2 hK2;refine aops_part 10 fun K2 hK2=> ?_;simp[hz',hz2];refine hK2 _ _ _ ?_;clear K2 hK2;simp[hz',hz2];refine hK _ _ _ ?_;clear K' hK;with_reducible refine aVk (by simp) ?_;refine aw_skipL ?_
      refine blockK_normal ?_;with_reducible refine aS fun K' hK=> ?_
      simp[s47,hw];refine hK _ _ _ ?_;clear K' hK;refine aw_skipL (loopK_normal ?_ ?_)
      ·exact⟨by simp[g0],by simp[s2],by simp[s1],by simp[s45],by simp[s46],i+1,by simp[hw],by omega,hstep (by rw[hdef,hk,hru];simp[hz])⟩
      ·simp[o47,s47,hw];omega
     ·obtain⟨p,hp⟩:∃p,i=p+1:=⟨i-1,by omega⟩;have hz':(0:Int)<(i:Int):=(by omega);have hz2:0<i:=(by omega);have hsub:IntKind.i64.wrap ((i:Int)-1)=(p:Int):=(by rw[wrap64 (by omega) (by omega)];omega);have hpl:p<m.deps.length:=(by omega);have hip:i-1=p:=(by omega);rw[hip]at hdef;with_reducible refine aQ fun K' hK=> ?_
      refine aops_part 12 fun K2 hK2=> ?_;simp[s7,s2,g0,s8,gd,hz',hz2,hsub,hpl];refine hK2 _ _ _ ?_;clear K2 hK2;refine aops_part 10 fun K2 hK2=> ?_;simp;refine acall_flat (cmpK_ok (nth m.deps p).kind d.kind) rfl (by simp) ?_;simp[s7,s2,g0,s8,gd,hz',hz2,hsub,hpl];refine hK2 _ _ _ ?_;clear K2 hK2;simp;refine acall_flat (cmpB_ok (nth m.deps p).name d.name) rfl (by simp) ?_;simp;refine acall_flat (or_ok [cmpI (nth m.deps p).kind d.kind,cmpB (nth m.deps p).name d.name] (by simp)) rfl (by simp[treeOf_row];rfl) ?_;by_cases hlt:orN [cmpI (nth m.deps p).kind d.kind,cmpB (nth m.deps p).name d.name]<0
      ·have h0:¬0≤orN [cmpI (nth m.deps p).kind d.kind,cmpB (nth m.deps p).name d.name]:=(by omega);simp[h0];refine hK _ _ _ ?_;clear K' hK;with_reducible refine aVk (by simp) ?_;refine aw_skipL ?_
       refine blockK_normal ?_;with_reducible refine aS fun K' hK=> ?_
       simp[s47,hw];refine hK _ _ _ ?_;clear K' hK;refine aw_skipL (loopK_normal ?_ ?_)
       ·exact⟨by simp[n0,g0],by simp[s2],by simp[s1],by simp[s45],by simp[s46],i+1,by simp[hw],by omega,hstep (by rw[hdef,hk,hru];simp[depLt,hlt])⟩
       ·simp[o47,s47,hw];omega
      ·have h0:0≤orN [cmpI (nth m.deps p).kind d.kind,cmpB (nth m.deps p).name d.name]:=(by omega);simp[h0];refine hK _ _ _ ?_;clear K' hK;with_reducible refine aU (by simp) ?_;refine aA ?_;refine aR fun K' hK=> ?_
       simp;refine hK _ _ _ ?_;clear K' hK;with_reducible refine aw_ret ?_
       simp[blockK,loopK,Post,resA,res1,expT,expA,exp1,expM,expL,okT,okA,ok1,rowOf,Tryz.f103];exact hfalse (by rw[hdef,hk,hru];simp[depLt,hlt,hz])
   ·skip;with_reducible refine aw_exit ?_
    refine loopK_exit (blockK_exit ?_);have hi8:i=m.deps.length:=(by omega);subst hi8;have hdall:=ht;clear ht o47;with_reducible refine aA ?_;refine aR fun K' hK=> ?_
    simp[s2,g0];refine hK _ _ _ ?_;clear K' hK;with_reducible refine aw_block ?_
    refine aw_loop (fun s G nx=>G 0=some (.var 27 m.cells)∧s 2=.ptr 0 0∧s 106=rowT Ru.cells m.rules∧s 107=iV m.rules.length∧∃i:Nat,s 108=iV i∧i≤m.rules.length∧(List.range i).all (ruAt m.rules)=true) (fun s _ _=>match s 108 with | .v (.int _ n)=>m.rules.length-n.toNat | _=>0) ?_ ?_
    ·exact⟨by simp[g0],by simp[s2],by simp,by simp,0,by simp,by omega,by simp⟩
    ·clear s1 s2 g0 s45 s46 s47 hf n0 hw;rintro s G nx hf ⟨g0,s2,s106,s107,i,s108,hi,ht⟩;have o108:=s108;have n0:¬0=nx:=(by have:=fresh_lt hf g0;omega);have hw:IntKind.i64.wrap (↑i+1)=((i+1:Nat):Int):=wrapS (by omega);with_reducible refine aR fun K' hK=> ?_
     simp[s107,s108];refine hK _ _ _ ?_;clear K' hK;with_reducible refine aC fun A B hA hB=> ?_
     simp;refine⟨fun hi2=>hA ?_,fun hi2=>hB ?_⟩<;>clear hA hB A B<;>(try simp at hi2)<;>(try with_reducible refine aK ?_)
     ·have hdd:=hu _ (nth_mem hi2);have hfalse:ruAt m.rules i=false→manRight m root=false:=fun h=>(by rw[manRight,rng_all hi2 h];simp);have hstep:=rng_step (p:=ruAt m.rules) ht;have hdef:ruAt m.rules i=(ruledB (nth m.rules i).name (nth m.rules i).range&&(decide (i=0) || ltB (nth m.rules (i-1)).name (nth m.rules i).name)):=rfl;generalize hgd:nth m.rules i=d at*;with_reducible refine aw_block ?_;refine aR fun K' hK=> ?_
      simp[s106,s108,hi2,hgd];refine hK _ _ _ ?_;clear K' hK;with_reducible refine aQ fun K' hK=> ?_
      refine aops_part 7 fun K2 hK2=> ?_;simp;refine acall_flat (ruled156_ok d.name d.range hdd.1 hdd.2) rfl (by simp[Rg.cells]) ?_;simp;refine hK2 _ _ _ ?_;clear K2 hK2;by_cases hru:ruledB d.name d.range=true
      ·by_cases hz:i=0
       ·have hz':¬(0:Int)<(i:Int):=(by omega);have hz2:¬0<i:=(by omega);refine aops_part 7 fun K2 hK2=> ?_;simp[hru,hz',hz2];refine hK2 _ _ _ ?_;clear K2 hK2;simp[hru,hz',hz2];refine hK _ _ _ ?_;clear K' hK;with_reducible refine aVk (by simp) ?_;refine aw_skipL ?_
        refine blockK_normal ?_;with_reducible refine aS fun K' hK=> ?_
        simp[s108,hw];refine hK _ _ _ ?_;clear K' hK;refine aw_skipL (loopK_normal ?_ ?_)
        ·exact⟨by simp[n0,g0],by simp[s2],by simp[s106],by simp[s107],i+1,by simp[hw],by omega,hstep (by rw[hdef,hru];simp[hz])⟩
        ·simp[o108,s108,hw];omega
       ·obtain⟨p,hp⟩:∃p,i=p+1:=⟨i-1,by omega⟩;have hz':(0:Int)<(i:Int):=(by omega);have hz2:0<i:=(by omega);have hsub:IntKind.i64.wrap ((i:Int)-1)=(p:Int):=(by rw[wrap64 (by omega) (by omega)];omega);have hpl:p<m.rules.length:=(by omega);have hip:i-1=p:=(by omega);rw[hip]at hdef;by_cases hlt:ltB (nth m.rules p).name d.name=true
        ·refine aops_part 7 fun K2 hK2=> ?_;simp[hru,hz',hz2,s2,g0,n0,hsub,hpl,hlt];refine hK2 _ _ _ ?_;clear K2 hK2;simp[hru,hz',hz2,s2,g0,n0,hsub,hpl,hlt];refine hK _ _ _ ?_;clear K' hK;with_reducible refine aVk (by simp) ?_;refine aw_skipL ?_
         refine blockK_normal ?_;with_reducible refine aS fun K' hK=> ?_
         simp[s108,hw];refine hK _ _ _ ?_;clear K' hK;refine aw_skipL (loopK_normal ?_ ?_)
         ·exact⟨by simp[n0,g0],by simp[s2],by simp[s106],by simp[s107],i+1,by simp[hw],by omega,hstep (by rw[hdef,hru];simp[hlt])⟩
         ·simp[o108,s108,hw];omega
        ·refine aops_part 7 fun K2 hK2=> ?_;simp[hru,hz',hz2,s2,g0,n0,hsub,hpl,hlt];refine hK2 _ _ _ ?_;clear K2 hK2;simp[hru,hz',hz2,s2,g0,n0,hsub,hpl,hlt];refine hK _ _ _ ?_;clear K' hK;with_reducible refine aU (by simp) ?_;refine aA ?_;refine aR fun K' hK=> ?_
         simp;refine hK _ _ _ ?_;clear K' hK;with_reducible refine aw_ret ?_
         simp[blockK,loopK,Post,resA,res1,expT,expA,exp1,expM,expL,okT,okA,ok1,rowOf,Tryz.f103];exact hfalse (by rw[hdef,hru];simp[hlt,hz])
      ·refine aops_part 7 fun K2 hK2=> ?_;simp[hru];refine hK2 _ _ _ ?_;clear K2 hK2;simp[hru];refine hK _ _ _ ?_;clear K' hK;with_reducible refine aU (by simp) ?_;refine aA ?_;refine aR fun K' hK=> ?_
       simp;refine hK _ _ _ ?_;clear K' hK;with_reducible refine aw_ret ?_
       simp[blockK,loopK,Post,resA,res1,expT,expA,exp1,expM,expL,okT,okA,ok1,rowOf,Tryz.f103];exact hfalse (by rw[hdef];simp[hru])
     ·skip;with_reducible refine aw_exit ?_
      refine loopK_exit (blockK_exit ?_);have hi8:i=m.rules.length:=(by omega);subst hi8;with_reducible refine aR fun K' hK=> ?_
      simp;refine hK _ _ _ ?_;clear K' hK;with_reducible refine aw_retL ?_
      simp[blockK,loopK,Post,resA,res1,expT,expA,exp1,expM,expL,okT,okA,ok1,rowOf,Tryz.f103];rw[manRight,hh,hdall,ht];rfl
 ·with_reducible refine aA ?_;refine aR fun K' hK=> ?_
  simp[c1];refine hK _ _ _ ?_;clear K' hK;with_reducible refine aX (by simp) ?_;refine aA ?_;refine aR fun K' hK=> ?_
  simp;refine hK _ _ _ ?_;clear K' hK;with_reducible refine aw_ret ?_
  simp[blockK,loopK,Post,resA,res1,expT,expA,exp1,expM,expL,okT,okA,ok1,rowOf,Tryz.f103,cutK];simp[manRight,manHead,c1]
set_option maxRecDepth 100000
set_option maxHeartbeats 4000000
def manCheck (m:Man) (root:Bool):Int:=if 30<m.deps.length∨30<m.rules.length then 2 else if manRight m root=true then 0 else 1
theorem manCheck_ok (m:Man) (hm:Man.sz m) (root:Bool):CallsOK Tryz.prog 45 [.agg m.cells,bV root] (iV (manCheck m root)) []:=by
 refine callsOK mixed Tryz.call45 Tryz.func45 rfl (by rw[Tryz.ntmps45];simp) ?_ rfl;rw[Tryz.ntmps45];with_reducible refine aR fun K' hK=> ?_
 simp;refine hK _ _ _ ?_;clear K' hK;with_reducible refine aw_block ?_
 by_cases h1:(30:Int)<(m.deps.length:Int)
 ·skip;with_reducible refine aR fun K' hK=> ?_
  simp[h1];refine hK _ _ _ ?_;clear K' hK;with_reducible refine aU (by simp) ?_;refine aA ?_;refine aR fun K' hK=> ?_
  simp;refine hK _ _ _ ?_;clear K' hK;with_reducible refine aw_ret ?_
  simp[blockK,loopK,Post,resA,res1,expT,expA,exp1,expM,expL,okT,okA,ok1,rowOf,Tryz.f45];rw[manCheck,if_pos (.inl (by omega))]
 ·by_cases h2:(30:Int)<(m.rules.length:Int)
  ·skip;with_reducible refine aR fun K' hK=> ?_
   simp[h1,h2];refine hK _ _ _ ?_;clear K' hK;with_reducible refine aU (by simp) ?_;refine aA ?_;refine aR fun K' hK=> ?_
   simp;refine hK _ _ _ ?_;clear K' hK;with_reducible refine aw_ret ?_
   simp[blockK,loopK,Post,resA,res1,expT,expA,exp1,expM,expL,okT,okA,ok1,rowOf,Tryz.f45];rw[manCheck,if_pos (.inr (by omega))]
  ·skip;with_reducible refine aR fun K' hK=> ?_
   simp[h1,h2];refine hK _ _ _ ?_;clear K' hK;with_reducible refine aV (by simp) ?_
   have hn:¬(30<m.deps.length∨30<m.rules.length):=(by omega);with_reducible refine aA ?_;refine aR fun K' hK=> ?_
   simp;refine acall_flat (manRight_ok m hm root) rfl (by simp) ?_;by_cases h3:manRight m root=true
   ·simp[h3];refine hK _ _ _ ?_;clear K' hK;with_reducible refine aYk (by simp) ?_;refine aw_skipL ?_
    refine blockK_normal ?_;with_reducible refine aR fun K' hK=> ?_
    simp;refine hK _ _ _ ?_;clear K' hK;with_reducible refine aw_retL ?_
    simp[blockK,loopK,Post,resA,res1,expT,expA,exp1,expM,expL,okT,okA,ok1,rowOf,Tryz.f45];rw[manCheck,if_neg hn,if_pos h3]
   ·simp[h3];refine hK _ _ _ ?_;clear K' hK;with_reducible refine aX (by simp) ?_;refine aA ?_;refine aR fun K' hK=> ?_
    simp;refine hK _ _ _ ?_;clear K' hK;with_reducible refine aw_ret ?_
    simp[blockK,loopK,Post,resA,res1,expT,expA,exp1,expM,expL,okT,okA,ok1,rowOf,Tryz.f45];rw[manCheck,if_neg hn,if_neg h3]
def manOrd (a b:Man):Int:=orN [cmpB a.name b.name,comparN a.ver b.ver]
theorem manOrd_ok (a b:Man) (ha:a.ver.pre.size≤1000000) (hb:b.ver.pre.size≤1000000):CallsOK Tryz.prog 104 [.agg a.cells,.agg b.cells] (iV (manOrd a b)) []:=by
 refine callsOK mixed Tryz.call104 Tryz.func104 rfl (by rw[Tryz.ntmps104];simp) ?_ rfl;rw[Tryz.ntmps104];with_reducible refine aR fun K' hK=> ?_
 simp;refine hK _ _ _ ?_;clear K' hK;with_reducible refine aQ fun K' hK=> ?_
 simp;refine acall_flat (cmpB_ok a.name b.name) rfl (by simp) ?_;simp;refine acall_flat (compare_ok a.ver b.ver ha hb) rfl (by simp) ?_;simp;refine acall_flat (or_ok [cmpB a.name b.name,comparN a.ver b.ver] (by simp)) rfl (by simp[treeOf_row];rfl) ?_;simp;refine hK _ _ _ ?_;clear K' hK;with_reducible refine aw_retL ?_
 simp[blockK,loopK,Post,resA,res1,expT,expA,exp1,expM,expL,okT,okA,ok1,rowOf,Tryz.f104];rfl
def idxAt (L:List Man) (i:Nat):Bool:=decide (manCheck (nth L i) false=0)&&(decide (i=0) || decide (manOrd (nth L (i-1)) (nth L i)<0))
def idxCheck (L:List Man):Int:=if 100<L.length then 2 else if(List.range L.length).all (idxAt L)=true then 0 else 1
def Idx.sz (L:List Man):Prop:=L.length≤1000000000∧∀m∈L,Man.sz m
theorem idxCheck_ok (L:List Man) (hL:Idx.sz L):CallsOK Tryz.prog 46 [rowT Man.cells L] (iV (idxCheck L)) []:=by
 refine callsOK mixed Tryz.call46 Tryz.func46 rfl (by rw[Tryz.ntmps46];simp) ?_ rfl;rw[Tryz.ntmps46];have hl:=hL.1;with_reducible refine aR fun K' hK=> ?_
 simp;refine hK _ _ _ ?_;clear K' hK;with_reducible refine aA ?_;refine aR fun K' hK=> ?_
 simp;refine hK _ _ _ ?_;clear K' hK;with_reducible refine aC fun A B hA hB=> ?_
 simp;refine⟨fun h1=>hA ?_,fun h1=>hB ?_⟩<;>clear hA hB A B<;>(try simp at h1)<;>(try with_reducible refine aK ?_)
 ·with_reducible refine aA ?_;refine aR fun K' hK=> ?_
  simp;refine hK _ _ _ ?_;clear K' hK;with_reducible refine aw_ret ?_
  simp[blockK,loopK,Post,resA,res1,expT,expA,exp1,expM,expL,okT,okA,ok1,rowOf,Tryz.f46];rw[idxCheck,if_pos (by omega)]
 ·with_reducible refine aA ?_;refine aR fun K' hK=> ?_
  simp;refine hK _ _ _ ?_;clear K' hK;have hn:¬100<L.length:=(by omega);with_reducible refine aw_block ?_
  refine aw_loop (fun s G nx=>s 0=rowT Man.cells L∧s 8=rowT Man.cells L∧s 9=iV L.length∧∃i:Nat,s 10=iV i∧i≤L.length∧(List.range i).all (idxAt L)=true) (fun s _ _=>match s 10 with | .v (.int _ n)=>L.length-n.toNat | _=>0) ?_ ?_
  ·exact⟨by simp,by simp,by simp,0,by simp,by omega,by simp⟩
  ·rintro s G nx hf ⟨s0,s8,s9,i,s10,hi,ht⟩;have hw:IntKind.i64.wrap (↑i+1)=((i+1:Nat):Int):=wrapS (by omega);with_reducible refine aR fun K' hK=> ?_
   simp[s9,s10];refine hK _ _ _ ?_;clear K' hK;with_reducible refine aC fun A B hA hB=> ?_
   simp;refine⟨fun hi2=>hA ?_,fun hi2=>hB ?_⟩<;>clear hA hB A B<;>(try simp at hi2)<;>(try with_reducible refine aK ?_)
   ·have hdd:=hL.2 _ (nth_mem hi2);have hfalse:idxAt L i=false→idxCheck L=1:=fun h=>(by rw[idxCheck,if_neg hn,rng_all hi2 h];rfl);have hstep:=rng_step (p:=idxAt L) ht;have hdef:idxAt L i=(decide (manCheck (nth L i) false=0)&&(decide (i=0) || decide (manOrd (nth L (i-1)) (nth L i)<0))):=rfl;generalize hgd:nth L i=d at*;with_reducible refine aw_block ?_;refine aR fun K' hK=> ?_
    simp[s8,s10,hi2,hgd];refine hK _ _ _ ?_;clear K' hK;with_reducible refine aQ fun K' hK=> ?_
    refine aops_part 4 fun K2 hK2=> ?_;simp;refine acall_flat (manCheck_ok d hdd false) rfl (by simp) ?_;simp;refine hK2 _ _ _ ?_;clear K2 hK2;by_cases hc:manCheck d false=0
    ·by_cases hz:i=0
     ·have hz':¬(0:Int)<(i:Int):=(by omega);have hz2:¬0<i:=(by omega);refine aops_part 8 fun K2 hK2=> ?_;simp[hc,hz',hz2];refine hK2 _ _ _ ?_;clear K2 hK2;simp[hc,hz',hz2];refine hK _ _ _ ?_;clear K' hK;with_reducible refine aVk (by simp) ?_;refine aw_skipL ?_
      refine blockK_normal ?_;with_reducible refine aS fun K' hK=> ?_
      simp[s10,hw];refine hK _ _ _ ?_;clear K' hK;refine aw_skipL (loopK_normal ?_ ?_)
      ·exact⟨by simp[s0],by simp[s8],by simp[s9],i+1,by simp[hw],by omega,hstep (by rw[hdef,hc];simp[hz])⟩
      ·simp[s10,hw];omega
     ·obtain⟨p,hp⟩:∃p,i=p+1:=⟨i-1,by omega⟩;have hz':(0:Int)<(i:Int):=(by omega);have hz2:0<i:=(by omega);have hsub:IntKind.i64.wrap ((i:Int)-1)=(p:Int):=(by rw[wrap64 (by omega) (by omega)];omega);have hpl:p<L.length:=(by omega);have hip:i-1=p:=(by omega);rw[hip]at hdef;have hpp:=hL.2 _ (nth_mem hpl);refine aops_part 8 fun K2 hK2=> ?_;simp[hc,hz',hz2,s0,hsub,hpl];refine hK2 _ _ _ ?_;clear K2 hK2;simp[hc,hz',hz2];refine acall_flat (manOrd_ok (nth L p) d hpp.2.1 hdd.2.1) rfl (by simp) ?_;by_cases hlt:manOrd (nth L p) d<0
      ·have h0:¬0≤manOrd (nth L p) d:=(by omega);simp[hc,hz',hz2,h0];refine hK _ _ _ ?_;clear K' hK;with_reducible refine aVk (by simp) ?_;refine aw_skipL ?_
       refine blockK_normal ?_;with_reducible refine aS fun K' hK=> ?_
       simp[s10,hw];refine hK _ _ _ ?_;clear K' hK;refine aw_skipL (loopK_normal ?_ ?_)
       ·exact⟨by simp[s0],by simp[s8],by simp[s9],i+1,by simp[hw],by omega,hstep (by rw[hdef,hc];simp[hlt])⟩
       ·simp[s10,hw];omega
      ·have h0:0≤manOrd (nth L p) d:=(by omega);simp[hc,hz',hz2,h0];refine hK _ _ _ ?_;clear K' hK;with_reducible refine aU (by simp) ?_;refine aA ?_;refine aR fun K' hK=> ?_
       simp;refine hK _ _ _ ?_;clear K' hK;with_reducible refine aw_ret ?_
       simp[blockK,loopK,Post,resA,res1,expT,expA,exp1,expM,expL,okT,okA,ok1,rowOf,Tryz.f46];exact(hfalse (by rw[hdef,hc];simp[hlt,hz])).symm
    ·refine aops_part 8 fun K2 hK2=> ?_;simp[hc];refine hK2 _ _ _ ?_;clear K2 hK2;simp[hc];refine hK _ _ _ ?_;clear K' hK;with_reducible refine aU (by simp) ?_;refine aA ?_;refine aR fun K' hK=> ?_
     simp;refine hK _ _ _ ?_;clear K' hK;with_reducible refine aw_ret ?_
     simp[blockK,loopK,Post,resA,res1,expT,expA,exp1,expM,expL,okT,okA,ok1,rowOf,Tryz.f46];exact(hfalse (by rw[hdef];simp[hc])).symm
   ·skip;with_reducible refine aw_exit ?_
    refine loopK_exit (blockK_exit ?_);have hi8:i=L.length:=(by omega);subst hi8;with_reducible refine aR fun K' hK=> ?_
    simp;refine hK _ _ _ ?_;clear K' hK;with_reducible refine aw_retL ?_
    simp[blockK,loopK,Post,resA,res1,expT,expA,exp1,expM,expL,okT,okA,ok1,rowOf,Tryz.f46];rw[idxCheck,if_neg hn,if_pos ht]
set_option maxRecDepth 100000
set_option maxHeartbeats 4000000
def Rg.ok (r:Rg):Prop:=r.length<4611686018427387904∧∀l∈r,l.length<4611686018427387904
abbrev H2 (a b:List AV):Hp:=(Hp.upd (fun _=>none) 0 (.var 33 a)).upd 1 (.var 33 b)
set_option maxRecDepth 100000
set_option maxHeartbeats 4000000
theorem needs17_ok (d:Dep):CallsOK Tryz.prog 47 [.agg d.cells] (.v (.bool (!decide (d.kind=3)))) []:=by
 refine callsOK mixed Tryz.call47 Tryz.func47 rfl (by rw[Tryz.ntmps47];simp) ?_ rfl;rw[Tryz.ntmps47];with_reducible refine aR fun K' hK=> ?_
 simp;refine hK _ _ _ ?_;clear K' hK;with_reducible refine aR fun K' hK=> ?_
 simp;refine hK _ _ _ ?_;clear K' hK;with_reducible refine aw_retL ?_
 simp[blockK,loopK,Post,resA,res1,expT,expA,exp1,expM,expL,okT,okA,ok1,rowOf,Tryz.f47]
theorem clone40_ok (l:Alt) (hl:l.length<1000000000000):CallsOK Tryz.prog 150 [rowT Bd.cells l] (.row 0 l.length) [(87,flat Bd.cells l)]:=by
 refine callsOK mixed Tryz.call150 Tryz.func150 rfl (by rw[Tryz.ntmps150];simp) ?_ rfl;rw[Tryz.ntmps150];have h1:l.length≤9223372036854775807:=(by omega);have h2:l.length*48≤140737488355328:=(by omega);with_reducible refine aR fun K' hK=> ?_
 simp;refine hK _ _ _ ?_;clear K' hK;by_cases h:l=[]
 ·subst h;with_reducible refine aA ?_;refine aR fun K' hK=> ?_
  simp;refine hK _ _ _ ?_;clear K' hK;(repeat with_reducible refine aw_assoc ?_);refine aw_condP fun A B hA hB=> ?_;simp;refine⟨hA ?_,hB (aw_skip ?_)⟩
  ·with_reducible refine aA ?_;refine aR fun K' hK=> ?_
   simp;refine hK _ _ _ ?_;clear K' hK;with_reducible refine aw_ret ?_
   simp[blockK,loopK,Post,resA,res1,expT,expA,exp1,expM,expL,okT,okA,ok1,rowOf,Tryz.f150]
  ·skip;with_reducible refine aR fun K' hK=> ?_
   simp;refine hK _ _ _ ?_;clear K' hK;with_reducible refine aw_retL ?_
   simp[blockK,loopK,Post,resA,res1,expT,expA,exp1,expM,expL,okT,okA,ok1,rowOf,Tryz.f150]
 ·with_reducible refine aA ?_;refine aR fun K' hK=> ?_
  simp[h];refine hK _ _ _ ?_;clear K' hK;with_reducible refine aYk (by simp) ?_;refine aR fun K' hK=> ?_
  simp[h1,h2];refine hK _ _ _ ?_;clear K' hK;with_reducible refine aw_retL ?_
  simp[blockK,loopK,Post,resA,res1,expT,expA,exp1,expM,expL,okT,okA,ok1,rowOf,Tryz.f150]
theorem clone39_ok (l:Rg) (hl:l.length<1000000000000):CallsOK Tryz.prog 149 [rowT Alt.cells l] (.row 0 l.length) [(83,flat Alt.cells l)]:=by
 refine callsOK mixed Tryz.call149 Tryz.func149 rfl (by rw[Tryz.ntmps149];simp) ?_ rfl;rw[Tryz.ntmps149];have h1:l.length≤9223372036854775807:=(by omega);have h2:l.length*24≤140737488355328:=(by omega);with_reducible refine aR fun K' hK=> ?_
 simp;refine hK _ _ _ ?_;clear K' hK;by_cases h:l=[]
 ·subst h;with_reducible refine aA ?_;refine aR fun K' hK=> ?_
  simp;refine hK _ _ _ ?_;clear K' hK;(repeat with_reducible refine aw_assoc ?_);refine aw_condP fun A B hA hB=> ?_;simp;refine⟨hA ?_,hB (aw_skip ?_)⟩
  ·with_reducible refine aA ?_;refine aR fun K' hK=> ?_
   simp;refine hK _ _ _ ?_;clear K' hK;with_reducible refine aw_ret ?_
   simp[blockK,loopK,Post,resA,res1,expT,expA,exp1,expM,expL,okT,okA,ok1,rowOf,Tryz.f149]
  ·skip;with_reducible refine aR fun K' hK=> ?_
   simp;refine hK _ _ _ ?_;clear K' hK;with_reducible refine aw_retL ?_
   simp[blockK,loopK,Post,resA,res1,expT,expA,exp1,expM,expL,okT,okA,ok1,rowOf,Tryz.f149]
 ·with_reducible refine aA ?_;refine aR fun K' hK=> ?_
  simp[h];refine hK _ _ _ ?_;clear K' hK;with_reducible refine aYk (by simp) ?_;refine aR fun K' hK=> ?_
  simp[h1,h2];refine hK _ _ _ ?_;clear K' hK;with_reducible refine aw_retL ?_
  simp[blockK,loopK,Post,resA,res1,expT,expA,exp1,expM,expL,okT,okA,ok1,rowOf,Tryz.f149]
def countsF (d:Dep) (root:Bool):Bool:=decide (d.kind=1) || decide (d.kind=3) || decide (d.kind=4) || (decide (d.kind=2)&&root)
theorem counts24_ok (d:Dep) (root:Bool):CallsOK Tryz.prog 93 [.agg d.cells,.v (.bool root)] (.v (.bool (countsF d root))) []:=by
 refine callsOK mixed Tryz.call93 Tryz.func93 rfl (by rw[Tryz.ntmps93];simp) ?_ rfl;rw[Tryz.ntmps93];with_reducible refine aR fun K' hK=> ?_
 simp;refine hK _ _ _ ?_;clear K' hK;with_reducible refine aA ?_;refine aR fun K' hK=> ?_
 simp;refine hK _ _ _ ?_;clear K' hK;with_reducible refine aw_block ?_;refine aw_block ?_;refine aw_block ?_
 by_cases h2:d.kind=2
 ·with_reducible refine aA ?_;with_reducible refine aA ?_;refine aR fun K' hK=> ?_
  simp[h2];refine hK _ _ _ ?_;clear K' hK;with_reducible refine aX (by simp[h2]) ?_;refine aw_exit ?_
  (repeat first | with_reducible refine blockK_exit ?_ | with_reducible refine blockK_pass (by decide) ?_);with_reducible refine aR fun K' hK=> ?_
  simp;refine hK _ _ _ ?_;clear K' hK;cases root
  ·skip;with_reducible refine aU (by simp) ?_;refine aA ?_;refine aR fun K' hK=> ?_
   simp;refine hK _ _ _ ?_;clear K' hK;with_reducible refine aw_ret ?_
   simp[blockK,loopK,Post,resA,res1,expT,expA,exp1,expM,expL,okT,okA,ok1,rowOf,Tryz.f93,countsF,h2]
  ·skip;with_reducible refine aVk (by simp) ?_;refine aw_skipL ?_
   refine blockK_normal ?_;with_reducible refine aA ?_;refine aR fun K' hK=> ?_
   simp;refine hK _ _ _ ?_;clear K' hK;with_reducible refine aw_ret ?_
   simp[blockK,loopK,Post,resA,res1,expT,expA,exp1,expM,expL,okT,okA,ok1,rowOf,Tryz.f93,countsF,h2]
 ·with_reducible refine aA ?_;with_reducible refine aA ?_;refine aR fun K' hK=> ?_
  simp[h2];refine hK _ _ _ ?_;clear K' hK;with_reducible refine aYk (by simp[h2]) ?_;refine aA ?_;with_reducible refine aA ?_;refine aR fun K' hK=> ?_
  simp;refine hK _ _ _ ?_;clear K' hK;by_cases h1:d.kind=1
  ·skip;with_reducible refine aXk (by simp[h1]) ?_;refine aX (by simp[h1]) ?_;refine aw_exit ?_
   (repeat first | with_reducible refine blockK_exit ?_ | with_reducible refine blockK_pass (by decide) ?_);with_reducible refine aA ?_;refine aR fun K' hK=> ?_
   simp;refine hK _ _ _ ?_;clear K' hK;with_reducible refine aw_ret ?_
   simp[blockK,loopK,Post,resA,res1,expT,expA,exp1,expM,expL,okT,okA,ok1,rowOf,Tryz.f93,countsF,h1]
  ·skip;with_reducible refine aY (by simp[h1]) ?_;refine aA ?_;refine aR fun K' hK=> ?_
   simp;refine hK _ _ _ ?_;clear K' hK;by_cases h3:d.kind=3
   ·skip;with_reducible refine aXk (by simp[h3]) ?_;refine aX (by simp[h3]) ?_;refine aw_exit ?_
    (repeat first | with_reducible refine blockK_exit ?_ | with_reducible refine blockK_pass (by decide) ?_);with_reducible refine aA ?_;refine aR fun K' hK=> ?_
    simp;refine hK _ _ _ ?_;clear K' hK;with_reducible refine aw_ret ?_
    simp[blockK,loopK,Post,resA,res1,expT,expA,exp1,expM,expL,okT,okA,ok1,rowOf,Tryz.f93,countsF,h3]
   ·skip;with_reducible refine aY (by simp[h3]) ?_;refine aR fun K' hK=> ?_
    simp;refine hK _ _ _ ?_;clear K' hK;by_cases h4:d.kind=4
    ·skip;with_reducible refine aX (by simp[h4]) ?_;refine aw_exit ?_
     (repeat first | with_reducible refine blockK_exit ?_ | with_reducible refine blockK_pass (by decide) ?_);with_reducible refine aA ?_;refine aR fun K' hK=> ?_
     simp;refine hK _ _ _ ?_;clear K' hK;with_reducible refine aw_ret ?_
     simp[blockK,loopK,Post,resA,res1,expT,expA,exp1,expM,expL,okT,okA,ok1,rowOf,Tryz.f93,countsF,h4]
    ·skip;with_reducible refine aYk (by simp[h4]) ?_;refine aw_exitL ?_
     (repeat first | with_reducible refine blockK_exit ?_ | with_reducible refine blockK_pass (by decide) ?_);with_reducible refine aR fun K' hK=> ?_
     simp;refine hK _ _ _ ?_;clear K' hK;with_reducible refine aw_retL ?_
     simp[blockK,loopK,Post,resA,res1,expT,expA,exp1,expM,expL,okT,okA,ok1,rowOf,Tryz.f93,countsF,h1,h2,h3,h4]
theorem own27_ok (r:Rg) (hr:r.length<1000000000000∧∀l∈r,l.length<1000000000000):CallsOK Tryz.prog 96 [.agg r.cells] (.agg [.row 0 r.length]) [(83,flat Alt.cells r)]:=by
 refine callsOK mixed Tryz.call96 Tryz.func96 rfl (by rw[Tryz.ntmps96];simp) ?_ rfl;rw[Tryz.ntmps96];with_reducible refine aR fun K' hK=> ?_
 simp[Rg.cells];refine hK _ _ _ ?_;clear K' hK;with_reducible refine aR fun K' hK=> ?_
 simp;refine acall_new (clone39_ok r hr.1) (by simp) ?_;simp[addJ_one];refine hK _ _ _ ?_;clear K' hK;with_reducible refine aA ?_;refine aR fun K' hK=> ?_
 simp;refine hK _ _ _ ?_;clear K' hK;with_reducible refine aw_block ?_
 refine aw_loop (fun s G nx=>G 0=some (.var 33 [.row 2 r.length])∧G 1=some (.var 33 [.v (.slice none 0 0)])∧G 2=some (.row 83 (flat Alt.cells r))∧s 1=.ptr 0 0∧s 2=.ptr 1 0∧s 10=.row 2 r.length∧s 11=iV r.length∧∃i:Nat,s 12=iV i∧i≤r.length) (fun s _ _=>match s 12 with | .v (.int _ n)=>r.length-n.toNat | _=>0) ?_ ?_
 ·simp;exact⟨0,by simp⟩
 ·rintro s G nx hf ⟨g0,g1,g2,s1,s2,s10,s11,i,s12,hi⟩;have hnx:=fresh_lt hf g2;have n0:¬0=nx:=(by omega);have n1:¬1=nx:=(by omega);have n2:¬2=nx:=(by omega);have hw:IntKind.i64.wrap (↑i+1)=((i+1:Nat):Int):=wrapS (by have:=hr.1;omega);with_reducible refine aR fun K' hK=> ?_
  simp[s11,s12];refine hK _ _ _ ?_;clear K' hK;with_reducible refine aC fun A B hA hB=> ?_
  simp;refine⟨fun hi2=>hA ?_,fun hi2=>hB ?_⟩<;>clear hA hB A B<;>(try simp at hi2)<;>(try with_reducible refine aK ?_)
  ·skip;with_reducible refine aw_block ?_;refine aR fun K' hK=> ?_
   simp[s10,s12,hi2,g2];refine hK _ _ _ ?_;clear K' hK;with_reducible refine aT fun K' hK=> ?_
   simp[s1,g0];refine acall_new (clone40_ok (nth r i) (hr.2 _ (nth_mem hi2))) (by simp) ?_;have hp:putO (flat Alt.cells r) 1 i 0 [rowT Bd.cells (nth r i)]=flat Alt.cells r:=putO_same hi2;simp[addJ_one,s10,n2,g2,hi2,hp];refine hK _ _ _ ?_;clear K' hK;with_reducible refine aw_skipL ?_
   refine blockK_normal ?_;with_reducible refine aS fun K' hK=> ?_
   simp[s12,hw];refine hK _ _ _ ?_;clear K' hK;refine aw_skipL (loopK_normal ?_ ?_)
   ·simp[n0,n1,n2,g0,g1,s1,s2,s10,s11,hw];exact⟨i+1,by simp,by omega⟩
   ·simp[s12,hw];omega
  ·skip;with_reducible refine aw_exit ?_
   refine loopK_exit (blockK_exit ?_);with_reducible refine aR fun K' hK=> ?_
   simp[s1,s2,g0,g1];refine hK _ _ _ ?_;clear K' hK;with_reducible refine aw_retL ?_
   simp[blockK,loopK,Post,resA,res1,expT,expA,exp1,expM,expL,okT,okA,ok1,rowOf,Tryz.f96,s2,g2]
set_option maxRecDepth 100000
set_option maxHeartbeats 4000000
theorem rule1_ok (d:Ru) (name:Bs):CallsOK Tryz.prog 99 [.agg d.cells,.cp [sV name] 0] (.v (.bool (decide (d.name=name)))) []:=by
 refine callsOK mixed Tryz.call99 Tryz.func99 rfl (by rw[Tryz.ntmps99];simp) ?_ rfl;rw[Tryz.ntmps99];with_reducible refine aR fun K' hK=> ?_
 simp;refine hK _ _ _ ?_;clear K' hK;with_reducible refine aR fun K' hK=> ?_
 simp[getC];refine hK _ _ _ ?_;clear K' hK;with_reducible refine aw_retL ?_
 simp[blockK,loopK,Post,resA,res1,expT,expA,exp1,expM,expL,okT,okA,ok1,rowOf,Tryz.f99];try exact beq_toList _ _
def atF (rules:List Ru) (name:Bs):Option Nat:=rules.findIdx? fun d=>decide (d.name=name)
theorem index_ok (rules:List Ru) (name:Bs) (hl:rules.length<4611686018427387904):CallsOK Tryz.prog 98 [rowT Ru.cells rules,.fn 99 [.cp [sV name] 0]] (iV (atI (atF rules name))) []:=by
 refine callsOK mixed Tryz.call98 Tryz.func98 rfl (by rw[Tryz.ntmps98];simp) ?_ rfl;rw[Tryz.ntmps98];with_reducible refine aR fun K' hK=> ?_
 simp;refine hK _ _ _ ?_;clear K' hK;with_reducible refine aA ?_;refine aR fun K' hK=> ?_
 simp;refine hK _ _ _ ?_;clear K' hK;with_reducible refine aw_block ?_
 refine aw_loop (fun s G nx=>s 0=rowT Ru.cells rules∧s 1=.fn 99 [.cp [sV name] 0]∧s 7=iV rules.length∧∃i:Nat,s 8=iV i∧i≤rules.length∧∀j,j<i→¬(nth rules j).name=name) (fun s _ _=>match s 8 with | .v (.int _ n)=>rules.length-n.toNat | _=>0) ?_ ?_
 ·simp;exact⟨0,by simp⟩
 ·rintro s G nx-⟨s0,s1,s7,i,s8,hi,hno⟩;have hw:IntKind.i64.wrap (↑i+1)=((i+1:Nat):Int):=wrapS (by omega);with_reducible refine aR fun K' hK=> ?_
  simp[s7,s8];refine hK _ _ _ ?_;clear K' hK;with_reducible refine aC fun A B hA hB=> ?_
  simp;refine⟨fun hi2=>hA ?_,fun hi2=>hB ?_⟩<;>clear hA hB A B<;>(try simp at hi2)<;>(try with_reducible refine aK ?_)
  ·skip;with_reducible refine aw_block ?_;refine aR fun K' hK=> ?_
   simp[s8];refine hK _ _ _ ?_;clear K' hK;with_reducible refine aR fun K' hK=> ?_
   simp[s0,s1,hi2];refine acall_flat (rule1_ok (nth rules i) name) rfl (by simp) ?_;simp;refine hK _ _ _ ?_;clear K' hK;with_reducible refine aD fun A B hA hB=> ?_
   simp;refine⟨fun hc=>hA ?_,fun hc=>hB ?_⟩<;>clear hA hB A B<;>(try simp at hc)<;>(try with_reducible refine aK ?_)
   ·with_reducible refine aA ?_;refine aR fun K' hK=> ?_
    simp;refine hK _ _ _ ?_;clear K' hK;with_reducible refine aw_ret ?_
    simp[blockK,loopK,Post,resA,res1,expT,expA,exp1,expM,expL,okT,okA,ok1,rowOf,Tryz.f98];have:atF rules name=some i:=by
     unfold atF;rw[List.findIdx?_eq_some_iff_getElem];refine⟨hi2,by rw[←nth_eq hi2];simpa using hc,fun j hj=> ?_⟩;rw[←nth_eq (by omega)];simpa using hno j hj
    simp[this,atI]
   ·with_reducible refine aw_skipL ?_
    refine blockK_normal ?_;with_reducible refine aS fun K' hK=> ?_
    simp[s8,hw];refine hK _ _ _ ?_;clear K' hK;refine aw_skipL (loopK_normal ?_ ?_)
    ·simp[s0,s1,s7,hw];refine⟨i+1,by simp,by omega,fun j hj=> ?_⟩;rcases Nat.lt_or_ge j i with h1 | h1
     ·exact hno j h1
     ·have:j=i:=(by omega);subst this;exact hc
    ·simp[s8,hw];omega
  ·skip;with_reducible refine aw_exit ?_
   refine loopK_exit (blockK_exit ?_);with_reducible refine aR fun K' hK=> ?_
   simp;refine hK _ _ _ ?_;clear K' hK;with_reducible refine aw_retL ?_
   simp[blockK,loopK,Post,resA,res1,expT,expA,exp1,expM,expL,okT,okA,ok1,rowOf,Tryz.f98];have:atF rules name=none:=by
    unfold atF;rw[List.findIdx?_eq_none_iff];intro d hd;obtain⟨j,hj,rfl⟩:=List.mem_iff_getElem.1 hd;rw[←nth_eq hj];simpa using hno j (by omega)
   simp[this,atI]
def ruleF (rules:List Ru) (name:Bs):Rg:=match atF rules name with
 | some i=>(nth rules i).range
 | none=>[]
def Ru.okL (rules:List Ru):Prop:=rules.length<1000000000000∧∀d∈rules,d.range.length<1000000000000∧∀l∈d.range,l.length<1000000000000
theorem rule11_some (rules:List Ru) (name:Bs) (hl:Ru.okL rules) {i:Nat} (hi:atF rules name=some i):CallsOK Tryz.prog 43 [rowT Ru.cells rules,sV name] (.tup [.agg [.row 0 (nth rules i).range.length],.v (.bool true)]) [(83,flat Alt.cells (nth rules i).range)]:=by
 have hlt:i<rules.length:=by
  unfold atF at hi;rw[List.findIdx?_eq_some_iff_getElem]at hi;exact hi.1
 refine callsOK mixed Tryz.call43 Tryz.func43 rfl (by rw[Tryz.ntmps43];simp) ?_ rfl;rw[Tryz.ntmps43];with_reducible refine aR fun K' hK=> ?_
 simp;refine hK _ _ _ ?_;clear K' hK;with_reducible refine aR fun K' hK=> ?_
 simp;refine acall_flat (index_ok rules name (by have:=hl.1;omega)) rfl (by simp) ?_;simp[hi,atI];refine hK _ _ _ ?_;clear K' hK;with_reducible refine aA ?_;refine aR fun K' hK=> ?_
 simp;refine hK _ _ _ ?_;clear K' hK;with_reducible refine aYk (by simp) ?_;refine aR fun K' hK=> ?_
 simp[hlt];refine acall_new (own27_ok (nth rules i).range (hl.2 _ (nth_mem hlt))) (by simp[Rg.cells]) ?_;simp[addJ_one,Rg.cells];refine hK _ _ _ ?_;clear K' hK;with_reducible refine aw_retL ?_
 simp[blockK,loopK,Post,resA,res1,expT,expA,exp1,expM,expL,okT,okA,ok1,rowOf,Tryz.f43]
theorem rule11_none (rules:List Ru) (name:Bs) (hl:Ru.okL rules) (hi:atF rules name=none):CallsOK Tryz.prog 43 [rowT Ru.cells rules,sV name] (.tup [.agg [.v (.slice none 0 0)],.v (.bool false)]) []:=by
 refine callsOK mixed Tryz.call43 Tryz.func43 rfl (by rw[Tryz.ntmps43];simp) ?_ rfl;rw[Tryz.ntmps43];with_reducible refine aR fun K' hK=> ?_
 simp;refine hK _ _ _ ?_;clear K' hK;with_reducible refine aR fun K' hK=> ?_
 simp;refine acall_flat (index_ok rules name (by have:=hl.1;omega)) rfl (by simp) ?_;simp[hi,atI];refine hK _ _ _ ?_;clear K' hK;with_reducible refine aA ?_;refine aR fun K' hK=> ?_
 simp;refine hK _ _ _ ?_;clear K' hK;with_reducible refine aX (by simp) ?_;refine aA ?_;refine aR fun K' hK=> ?_
 simp;refine hK _ _ _ ?_;clear K' hK;with_reducible refine aw_ret ?_
 simp[blockK,loopK,Post,resA,res1,expT,expA,exp1,expM,expL,okT,okA,ok1,rowOf,Tryz.f43]
end Go.Proofs.YtgipehooceecpaaGreatDoorAbs
namespace Go.Proofs
open Go.Shelf
def Tryz.keys95_ren:Go.Shelf.Ren:=⟨fun | 7=>95 | 10=>148 | n=>n,fun | 23=>103 | 26=>9 | 3=>35 | 28=>109 | 0=>0 | 27=>108 | 33=>161 | 4=>4 | n=>n,fun | n=>n⟩
theorem Tryz.keys95:Go.Proofs.SlLaysZ.n7 Tryz.prog Tryz.keys95_ren:= {
 mixed:=by kernel_rfl
 f7:=⟨Tryz.f95.name,by decide,Tryz.func95.trans (congrArg some (by kernel_rfl))⟩
 f10:=⟨Tryz.f148.name,by decide,Tryz.func148.trans (congrArg some (by kernel_rfl))⟩
 t0:=Tryz.underlying0
 a0:=Tryz.isAgg0
 z0:=Tryz.sizeOf0
 v0:=Tryz.zeroValue0
 t4:=Tryz.underlying4
 a4:=Tryz.isAgg4
 z4:=Tryz.sizeOf4
 v4:=Tryz.zeroValue4
 t23:=Tryz.underlying103
 a23:=Tryz.isAgg103
 z23:=Tryz.sizeOf103
 v23:=Tryz.zeroValue103
 t26:=Tryz.underlying9
 a26:=Tryz.isAgg9
 z26:=Tryz.sizeOf9
 v26:=Tryz.zeroValue9
 t27:=Tryz.underlying108
 a27:=Tryz.isAgg108
 z27:=Tryz.sizeOf108
 v27:=Tryz.zeroValue108
 t28:=Tryz.underlying109
 a28:=Tryz.isAgg109
 z28:=Tryz.sizeOf109
 v28:=Tryz.zeroValue109
 t33:=Tryz.underlying161
 a33:=Tryz.isAgg161
 z33:=Tryz.sizeOf161
 v33:=Tryz.zeroValue161}
def Tryz.sorted94_ren:Go.Shelf.Ren:=⟨fun | 6=>94 | 8=>146 | 9=>147 | 11=>184 | 13=>186 | 12=>185 | 23=>222 | 24=>223 | 14=>213 | 15=>214 | 16=>215 | 17=>216 | 18=>217 | 19=>218 | 20=>219 | 21=>220 | 22=>221 | 25=>241 | 26=>242 | 27=>243 | 28=>244 | 29=>245 | 30=>195 | 31=>261 | n=>n,fun | 26=>9 | 28=>109 | 24=>106 | 0=>0 | 3=>3 | 37=>184 | 48=>208 | 50=>210 | 4=>4 | 40=>202 | 39=>201 | 45=>79 | 5=>5 | 9=>9 | 51=>229 | 55=>233 | 57=>244 | 58=>245 | 33=>161 | n=>n,fun | n=>n⟩
theorem Tryz.sorted94:Go.Proofs.SlLaysZ.n6 Tryz.prog Tryz.sorted94_ren:= {
 mixed:=by kernel_rfl
 f6:=⟨Tryz.f94.name,by decide,Tryz.func94.trans (congrArg some (by kernel_rfl))⟩
 f8:=⟨Tryz.f146.name,by decide,Tryz.func146.trans (congrArg some (by kernel_rfl))⟩
 f11:=⟨Tryz.f184.name,by decide,Tryz.func184.trans (congrArg some (by kernel_rfl))⟩
 t0:=Tryz.underlying0
 a0:=Tryz.isAgg0
 z0:=Tryz.sizeOf0
 v0:=Tryz.zeroValue0
 t24:=Tryz.underlying106
 a24:=Tryz.isAgg106
 z24:=Tryz.sizeOf106
 v24:=Tryz.zeroValue106
 t26:=Tryz.underlying9
 a26:=Tryz.isAgg9
 z26:=Tryz.sizeOf9
 v26:=Tryz.zeroValue9
 t28:=Tryz.underlying109
 a28:=Tryz.isAgg109
 z28:=Tryz.sizeOf109
 v28:=Tryz.zeroValue109
 i26:=by kernel_rfl}
def Tryz.sort147_ren:Go.Shelf.Ren:=⟨fun | 6=>147 | 8=>186 | 9=>185 | 19=>222 | 20=>223 | 21=>213 | 22=>214 | 23=>215 | 24=>216 | 25=>217 | 26=>218 | 27=>219 | 28=>220 | 29=>221 | 36=>241 | 31=>242 | 32=>243 | 37=>244 | 38=>245 | 39=>195 | 41=>261 | n=>n,fun | 27=>106 | 29=>9 | 3=>3 | 32=>184 | 26=>106 | 0=>0 | 44=>208 | 46=>210 | 4=>4 | 36=>202 | 35=>201 | 41=>79 | 5=>5 | 9=>9 | 53=>229 | 57=>233 | 63=>244 | 64=>245 | n=>n,fun | n=>n⟩
theorem Tryz.sort147:Go.Proofs.SlLaysM.n6 Tryz.prog Tryz.sort147_ren:= {
 mixed:=by kernel_rfl
 f6:=⟨Tryz.f147.name,by decide,Tryz.func147.trans (congrArg some (by kernel_rfl))⟩
 f8:=Tryz.func186.trans (congrArg some (by kernel_rfl))
 f9:=⟨Tryz.f185.name,by decide,Tryz.func185.trans (congrArg some (by kernel_rfl))⟩
 f19:=Tryz.func222.trans (congrArg some (by kernel_rfl))
 f20:=Tryz.func223.trans (congrArg some (by kernel_rfl))
 f21:=⟨Tryz.f213.name,by decide,Tryz.func213.trans (congrArg some (by kernel_rfl))⟩
 f22:=⟨Tryz.f214.name,by decide,Tryz.func214.trans (congrArg some (by kernel_rfl))⟩
 f23:=⟨Tryz.f215.name,by decide,Tryz.func215.trans (congrArg some (by kernel_rfl))⟩
 f24:=⟨Tryz.f216.name,by decide,Tryz.func216.trans (congrArg some (by kernel_rfl))⟩
 f25:=⟨Tryz.f217.name,by decide,Tryz.func217.trans (congrArg some (by kernel_rfl))⟩
 f26:=⟨Tryz.f218.name,by decide,Tryz.func218.trans (congrArg some (by kernel_rfl))⟩
 f27:=⟨Tryz.f219.name,by decide,Tryz.func219.trans (congrArg some (by kernel_rfl))⟩
 f28:=⟨Tryz.f220.name,by decide,Tryz.func220.trans (congrArg some (by kernel_rfl))⟩
 f29:=⟨Tryz.f221.name,by decide,Tryz.func221.trans (congrArg some (by kernel_rfl))⟩
 f31:=Tryz.func242.trans (congrArg some (by kernel_rfl))
 f32:=Tryz.func243.trans (congrArg some (by kernel_rfl))
 f36:=⟨Tryz.f241.name,by decide,Tryz.func241.trans (congrArg some (by kernel_rfl))⟩
 f37:=⟨Tryz.f244.name,by decide,Tryz.func244.trans (congrArg some (by kernel_rfl))⟩
 f38:=⟨Tryz.f245.name,by decide,Tryz.func245.trans (congrArg some (by kernel_rfl))⟩
 f39:=⟨Tryz.f195.name,by decide,Tryz.func195.trans (congrArg some (by kernel_rfl))⟩
 f41:=⟨Tryz.f261.name,by decide,Tryz.func261.trans (congrArg some (by kernel_rfl))⟩
 t0:=Tryz.underlying0
 a0:=Tryz.isAgg0
 z0:=Tryz.sizeOf0
 v0:=Tryz.zeroValue0
 t3:=Tryz.underlying3
 a3:=Tryz.isAgg3
 z3:=Tryz.sizeOf3
 v3:=Tryz.zeroValue3
 t4:=Tryz.underlying4
 a4:=Tryz.isAgg4
 z4:=Tryz.sizeOf4
 v4:=Tryz.zeroValue4
 t5:=Tryz.underlying5
 a5:=Tryz.isAgg5
 z5:=Tryz.sizeOf5
 v5:=Tryz.zeroValue5
 t9:=Tryz.underlying9
 a9:=Tryz.isAgg9
 z9:=Tryz.sizeOf9
 v9:=Tryz.zeroValue9
 t26:=Tryz.underlying106
 a26:=Tryz.isAgg106
 z26:=Tryz.sizeOf106
 v26:=Tryz.zeroValue106
 t27:=Tryz.underlying106
 a27:=Tryz.isAgg106
 z27:=Tryz.sizeOf106
 v27:=Tryz.zeroValue106
 t29:=Tryz.underlying9
 a29:=Tryz.isAgg9
 z29:=Tryz.sizeOf9
 v29:=Tryz.zeroValue9
 t32:=Tryz.underlying184
 a32:=Tryz.isAgg184
 z32:=Tryz.sizeOf184
 v32:=Tryz.zeroValue184
 t35:=Tryz.underlying201
 a35:=Tryz.isAgg201
 z35:=Tryz.sizeOf201
 v35:=Tryz.zeroValue201
 t36:=Tryz.underlying202
 a36:=Tryz.isAgg202
 z36:=Tryz.sizeOf202
 v36:=Tryz.zeroValue202
 t41:=Tryz.underlying79
 a41:=Tryz.isAgg79
 z41:=Tryz.sizeOf79
 v41:=Tryz.zeroValue79
 t44:=Tryz.underlying208
 a44:=Tryz.isAgg208
 z44:=Tryz.sizeOf208
 v44:=Tryz.zeroValue208
 t46:=Tryz.underlying210
 a46:=Tryz.isAgg210
 z46:=Tryz.sizeOf210
 v46:=Tryz.zeroValue210
 t53:=Tryz.underlying229
 a53:=Tryz.isAgg229
 z53:=Tryz.sizeOf229
 v53:=Tryz.zeroValue229
 t57:=Tryz.underlying233
 a57:=Tryz.isAgg233
 z57:=Tryz.sizeOf233
 v57:=Tryz.zeroValue233
 t63:=Tryz.underlying244
 a63:=Tryz.isAgg244
 z63:=Tryz.sizeOf244
 v63:=Tryz.zeroValue244
 t64:=Tryz.underlying245
 a64:=Tryz.isAgg245
 z64:=Tryz.sizeOf245
 v64:=Tryz.zeroValue245}
open Go.RowKit Go.Maps Go.Sort in
theorem Tryz.sorts94 (m:Nat):AnyZ.SortsIn Tryz.prog Tryz.sorted94_ren Fence.wide m:=
 ⟨fun blk off cap ss W hH hblk hsz=>callsIn_wide.2 (AnyM.slices_Sort_string Tryz.sort147 blk off cap ss W hH hblk hsz),
   fun p cap W=>callsIn_wide.2 (AnyM.slices_Sort_string_none Tryz.sort147 p cap W)⟩
end Go.Proofs
namespace Go.Proofs.YtgipehooceecpaaGreatDoorAbs
open Go Go.RowKit Go.Proofs Go.Maps Go.Sort Go.Shelf
open Go.WideElems (rg)
def strV (k:List UInt8):Value:=encStr k
def sortK (ks:List (List UInt8)):List (List UInt8):=ks.mergeSort (fun x y=>decide (x≤y))
def R0:Value→Option (DataW Unit×List MemPlace):=fun _=>some (.nil,[])
theorem rg_str {P:Program} {k:TypeId} (hk:P.underlying k=some .string) {en:MapEntry} {x:List UInt8} (hx:en.key=encStr x) (hl:x.length≤maxLen):WideElems.rd P k R0 en=some (.string x,.nil):=by
 unfold WideElems.rd;rw[hx,encStr,WideMaps.keyOf_string_mk hk (by show x.toArray.size≤maxLen;simpa using hl)];simp[R0]
set_option maxRecDepth 100000 in
theorem sorted_keys {G:Hp} {p id nx:Nat} {es:List (Value×AV)} {ks:List (List UInt8)} (hp:G p=some (.var 103 [.mp id])) (hG:G id=some (.map es)) (hk:es.map (·.1)=ks.map encStr) (hnd:ks.Nodup) (hlen:∀k∈ks,k.length≤maxLen)
  (hmax:ks.length*16≤140737488355328) (hn:G nx=none):InlOK Tryz.prog 94 [.fn 148 [.ptr p 0]] G (.row nx ks.length) (G.upd nx (.row 9 ((sortK ks).map fun k=> .v (encStr k)))):=by
 refine⟨Tryz.call94,fun E w us hR hx=> ?_⟩;obtain⟨u,us',rfl,hu,hx'⟩:=hx.uncons;have:us'=[]:=List.eq_nil_of_length_eq_zero (by simpa using hx'.1);subst this;obtain⟨cs,rfl,hl,hv⟩:=hu.fn_inv;obtain⟨c,cs',rfl,hc,hcs⟩:=(show All2 _ _ _ from⟨hl,hv⟩:All2 (VR Tryz.prog E w) [.ptr p 0] cs).uncons;have:cs'=[]:=List.eq_nil_of_length_eq_zero (by simpa using hcs.1);subst this;obtain⟨bp,hbp,uv,hv1,hv2,_,hv4⟩:=hR.obj' hp rfl (fun e he=>by cases he);obtain⟨b,hb,ents,clock,h1,h2,h3,h4,h5⟩:=hR.obj' hG rfl (fun e he=>by cases he);have hcp:=hc.ptr_inv hbp;subst hcp
 match uv,hv2,hv1,hv4 with
 | [um],_,hv1,hv4=>
 have hum:=(hv4 0 _ um rfl rfl).mp_inv hb;subst hum;have hkeys:ents.toList.map (·.key)=ks.map encStr:=by
  rw[←hk];apply List.ext_getElem?;intro i;rw[List.getElem?_map,List.getElem?_map];cases he:es[i]? with
  | none=>
   have:ents[i]? =none:=(by rw[Array.getElem?_eq_none];rw[h2];exact List.getElem?_eq_none_iff.1 he);simp[this]
  | some e=>
   have hi:i<ents.size:=(by rw[h2];exact(List.getElem?_eq_some_iff.1 he).1);have hen:ents[i]? =some ents[i]:=Array.getElem?_eq_getElem hi;have:=(h3 i e _ he hen).1;simp[hi,this]
 have hklen:ks.length=ents.size:=(by have:=congrArg List.length hkeys;simpa using this.symm);have hu9:Tryz.prog.underlying 9=some .string:=(by kernel_rfl);have hread:∀en∈ents.toList,∃x,x∈ks∧en.key=encStr x∧WideElems.rd Tryz.prog 9 R0 en=some (.string x,.nil):=fun en hen=>by
  have:en.key∈ks.map encStr:=(by rw[←hkeys];exact List.mem_map_of_mem hen);obtain⟨x,hx1,hx2⟩:=List.mem_map.1 this;exact⟨x,hx1,hx2.symm,rg_str hu9 hx2.symm (hlen x hx1)⟩
 have hown:w.ownsMap Tryz.prog 9 R0 b ks.length (.map ((ents.toList.map (rg Tryz.prog 9 R0)).foldr DataW.insert [])):=by
  refine⟨ents,clock,h1,⟨?_,⟨h5,h4,?_⟩,fun en hen=> ?_⟩,by omega,rfl⟩
  ·rw[←hklen];simp only[maxLen];omega
  ·rw[hkeys];exact List.pairwise_map.2 (hnd.imp fun hne e=>hne (encStr_inj e))
  ·obtain⟨x,_,_,h⟩:=hread en hen;exact⟨_,h⟩
 have hsize:Maps.size (.map ((ents.toList.map (rg Tryz.prog 9 R0)).foldr DataW.insert []))=ks.length:=by
  show List.length _=_;rw[length_sorted];simp[hklen]
 have hperm:(strKeys (.map ((ents.toList.map (rg Tryz.prog 9 R0)).foldr DataW.insert []))).Perm ks:=by
  show(List.map _ _).Perm ks;refine((WideShapes.sorted_perm _).map _).trans ?_;have:(ents.toList.map (rg Tryz.prog 9 R0)).map (fun p=>strOf p.1)=ks:=by
   rw[List.map_map];have hinj:∀(l:List MapEntry) (ks:List (List UInt8)),l.map (·.key)=ks.map encStr→(∀k∈ks,k.length≤maxLen)→l.map ((fun p=>strOf p.1)∘rg Tryz.prog 9 R0)=ks:=by
    intro l;induction l with
    | nil=>intro ks h _;simpa using h.symm
    | cons en l ih=>
     intro ks h hk;cases ks with
     | nil=>simp at h
     | cons k ks=>
      simp only[List.map_cons,List.cons.injEq]at h;rw[List.map_cons,ih ks h.2 (fun k hk'=>hk k (by simp[hk']))];congr 1;simp only[Function.comp,rg];rw[rg_str hu9 h.1 (hk k (by simp))];rfl
   exact hinj _ _ hkeys hlen
  rw[this]
 have hbp':=hR.lt p bp hbp;have hseq:SeqGives Fence.wide 2 Tryz.prog 148 #[.pointer (some ⟨bp,0,none⟩)] encStr (fun ss=>ss.Perm (strKeys (.map ((ents.toList.map (rg Tryz.prog 9 R0)).foldr DataW.insert [])))) (Maps.size (.map ((ents.toList.map (rg Tryz.prog 9 R0)).foldr DataW.insert []))) w:=
  AnyZ.keys_gives (ρ:=Tryz.keys95_ren) {Tryz.keys95 with} Fence.wide _ trivial rfl (by omega) bp b ks.length _ _ hbp' (by rw[cell_of_cells hv1];rfl) hown
 have hcall:=callsIn_wide.1 (AnyZ.sorted_in Tryz.sorted94 Fence.wide 5 trivial trivial trivial trivial rfl (by omega) (Tryz.sorts94 _) (enters_of Tryz.func147 (by kernel_rfl) rfl) 148 #[.pointer (some ⟨bp,0,none⟩)] trivial (enters_of Tryz.func148 (by kernel_rfl) rfl) _ _ (by rw[hsize];simp only[maxLen];omega) (by rw[hsize];exact hmax) _ hseq);refine hcall.mono fun e w' h=> ?_;obtain⟨v,ss,rfl,hss,hrow,hnil,hbelow⟩:=h;have hsort:ss.mergeSort (fun x y=>decide (x≤y))=sortK ks:=mergeSort_of_perm (hss.trans hperm);have hsl:ss.length=ks.length:=(hss.trans hperm).length_eq;rw[hsort,hsl]at hrow;have hrow:w'.ownsRow w.heap.size 9 1 v ks.length ((sortK ks).map encStr):=hrow;have hel:Tryz.prog.cellsOf 9=1:=(by kernel_rfl);have ht26:Tryz.sorted94_ren.t 26=9:=rfl;have hsk:(sortK ks).length=ks.length:=(List.mergeSort_perm ks _).length_eq;obtain⟨hlen1,hrow | ⟨g,cap,cur,rfl,hge,hcur,hcap,hcm,hcs,htake⟩⟩:=hrow
 ·obtain⟨rfl,h0⟩:=hrow;have hsk0:sortK ks=[]:=List.eq_nil_of_length_eq_zero (by omega);have hA:=Rel.app (w':=w') (e:=9) (all:=[]) hR hn (id:=none) (b:=none) (fun j hj=>by cases hj) (fun x hx=>by cases hx) (Ext.of_below _ hbelow) (fun x hx _=>hbelow.block x hx) (fun x hx=>by cases hx) (fun x hx=>by cases hx) (fun _=>rfl);refine⟨_,E.app nx none none,rfl,?_,by rw[hsk0];exact hA.1,Ext.of_below _ hbelow,hA.2⟩;refine .row (show(E.app nx none none).K nx from .inl rfl) rfl (fun b hb=> ?_) (fun _=>⟨rfl,h0⟩);simp[En.app]at hb
 ·have hA:=Rel.app (w':=w') (e:=9) (all:=(sortK ks).map fun k=> .v (encStr k)) hR hn (id:=none) (b:=some g) (fun j hj=>by cases hj) (fun x hx=>by injection hx with hx;subst hx;exact .inl hge) (Ext.of_below _ hbelow) (fun x hx _=>hbelow.block x hx)
   (fun x hx=>by injection hx with hx;subst hx;exact(Array.getElem?_eq_some_iff.1 hcur).1) (fun x hx=>by
    injection hx with hx;subst hx;refine⟨cur.toList,by simpa using hcur,?_,fun i a u ha hu=> ?_⟩
    ·rw[List.length_map,hsk,Array.length_toList];simp only[Array.size_eq_length_toList]at hcs⊢;omega
    ·rw[List.getElem?_map]at ha;obtain⟨k,hk1,rfl⟩:=Option.map_eq_some_iff.1 ha;have hi:i<ks.length:=(by rw[←hsk];exact(List.getElem?_eq_some_iff.1 hk1).1);have:(cur.toList.take (ks.length*1))[i]? =some u:=(by rw[List.getElem?_take,if_pos (by omega)];exact hu);rw[htake,List.getElem?_map,hk1]at this;injection this with this;subst this;exact .v rfl) (fun h=>by cases h)
  refine⟨_,E.app nx none (some g),rfl,?_,hA.1,Ext.of_below _ hbelow,hA.2⟩;refine .row (show(E.app nx none (some g)).K nx from .inl rfl) rfl (fun b hb=> ?_) (fun hN=> ?_)
  ·simp[En.app]at hb;subst hb;exact⟨cap,9,rfl,hcap,hcm,by simp[World.shape?,hcur,hcs,hel]⟩
  ·simp[En.app]at hN
set_option linter.unusedSimpArgs false
set_option linter.unusedVariables false
open Go Go.RowKit Go.Proofs
set_option maxRecDepth 100000
set_option maxHeartbeats 4000000
theorem bytes_beq_dec (a b:Bs):(a==b)=decide (a=b):=by
 rw[Bool.eq_iff_iff,decide_eq_true_eq];exact⟨beq_bytes,fun h=>by rw[h];exact bytes_beq b⟩
def entM (M:List Dep):List (Value×AV):=M.map fun d=>(.string d.name,.agg d.cells)
def posM (M:List Dep) (n:Bs):Option Nat:=M.findIdx? fun d=>decide (d.name=n)
theorem findI_ent (n:Bs):∀(M:List Dep) (i:Nat),findI Tryz.prog 9 .string (.string n) (entM M) i=some ((posM M n).map (· +i))
 | [],i=>rfl
 | d::M,i=>by
  have ih:=findI_ent n M (i+1);simp only[entM,List.map_cons,findI,sameK,Instr.sameNow,bytes_beq_dec,posM,List.findIdx?_cons]at ih⊢;by_cases h:d.name=n
  ·simp[h]
  ·have h':¬n=d.name:=fun e=>h e.symm;simp only[h,h',decide_false,Bool.false_eq_true,if_false];rw[ih];simp only[Option.map_map];congr 2;funext x;simp[Function.comp];omega
@[simp] theorem mapI53:mapI Tryz.prog 103=some (9,.string,35):=by kernel_rfl
def depZ:AV:=.agg [iV 0,sV ⟨#[]⟩,.v (.slice none 0 0)]
@[simp] theorem zv41:zvI Tryz.prog 35=some depZ:=by kernel_rfl
theorem kS (n:Bs):conc (sV n)=some (.string n):=rfl
theorem kOK (n:Bs):keyOK Tryz.prog .string (.string n)=true:=rfl
theorem posM_lt {M:List Dep} {n:Bs} {i:Nat} (h:posM M n=some i):i<M.length∧(nth M i).name=n:=by
 unfold posM at h;rw[List.findIdx?_eq_some_iff_getElem]at h;obtain⟨h1,h2,_⟩:=h;exact⟨h1,by rw[nth_eq h1];simpa using h2⟩
theorem lookup_some {G:Hp} {id:Nat} {M:List Dep} (hG:G id=some (.map (entM M))) {n:Bs} {i:Nat} (hi:posM M n=some i) (ok:Bool):evLookup Tryz.prog G 103 (.mp id) (sV n) ok=some (if ok=true then .tup [.agg (nth M i).cells,.v (.bool true)]else .agg (nth M i).cells):=by
 have hlt:=(posM_lt hi).1;have he:(entM M)[i]? =some (.string (nth M i).name,.agg (nth M i).cells):=(by simp[entM,hlt,nth_eq hlt]);simp only[evLookup,mapI53,kS,kOK,if_true,hG,zv41,findI_ent,hi,Option.map_some,Nat.add_zero,he]
theorem lookup_none {G:Hp} {id:Nat} {M:List Dep} (hG:G id=some (.map (entM M))) {n:Bs} (hi:posM M n=none) (ok:Bool):evLookup Tryz.prog G 103 (.mp id) (sV n) ok=some (if ok=true then .tup [depZ,.v (.bool false)]else depZ):=by
 simp only[evLookup,mapI53,kS,kOK,if_true,hG,zv41,findI_ent,hi,Option.map_none]
def putM (M:List Dep) (d:Dep):List Dep:=match posM M d.name with
 | some i=>M.set i d
 | none=>M++[d]
theorem update_ent {G:Hp} {id:Nat} {M:List Dep} (hG:G id=some (.map (entM M))) (d:Dep):evMapUpdate Tryz.prog G 103 (.mp id) (sV d.name) (.agg d.cells)=some (G.upd id (.map (entM (putM M d)))):=by
 simp only[evMapUpdate,mapI53,kS,kOK,if_true,hG,findI_ent];cases h:posM M d.name with
 | none=>simp[putM,h,entM]
 | some i=>simp[putM,h,entM,List.map_set,keyA]
def stepM (root:Bool) (M:List Dep) (d:Dep):List Dep:=
 if countsF d root=true∧(∀i,posM M d.name=some i→d.kind<(nth M i).kind)then putM M d else M
def byM (root:Bool) (ds:List Dep):List Dep:=ds.foldl (stepM root) []
theorem byM_take (root:Bool) {ds:List Dep} {i:Nat} (h:i<ds.length):byM root (ds.take (i+1))=stepM root (byM root (ds.take i)) (nth ds i):=by
 unfold byM;rw[List.take_add_one,List.getElem?_eq_getElem h,nth_eq h];rw[List.foldl_append];rfl
set_option maxRecDepth 100000
set_option maxHeartbeats 4000000
theorem keys26 {G:Hp} {nx id:Nat} (hf:FreshFrom G nx):InlOK Tryz.prog 95 [.mp id] G (.fn 148 [.ptr nx 0]) (G.upd nx (.var 103 [.mp id])):=by
 refine inlOK mixed Tryz.call95 Tryz.func95 rfl (by rw[Tryz.ntmps95];simp) hf ?_;rw[Tryz.ntmps95];with_reducible refine aR fun K' hK=> ?_
 simp;refine hK _ _ _ ?_;clear K' hK;with_reducible refine aR fun K' hK=> ?_
 simp;refine hK _ _ _ ?_;clear K' hK;with_reducible refine aw_retL ?_
 simp[blockK,loopK,Post,resA,res1,expT,expA,exp1,expM,expL,okT,okA,ok1,rowOf,Tryz.f95]
def namesOf (M:List Dep):List Bs:=M.map (·.name)
theorem posM_none {M:List Dep} {n:Bs} :posM M n=none↔n∉namesOf M:=by
 unfold posM namesOf;rw[List.findIdx?_eq_none_iff];simp only[decide_eq_false_iff_not,List.mem_map,not_exists,not_and]
theorem putM_names {M:List Dep} (d:Dep):(d.name∈namesOf M∧namesOf (putM M d)=namesOf M)∨(d.name∉namesOf M∧namesOf (putM M d)=namesOf M++[d.name]):=by
 unfold putM;cases h:posM M d.name with
 | none=>exact .inr ⟨posM_none.1 h,by simp[namesOf]⟩
 | some i=>
  have hin:d.name∈namesOf M:=by
   rcases Classical.em (d.name∈namesOf M)with h1 | h1
   ·exact h1
   ·rw[posM_none.2 h1]at h;cases h
  refine .inl ⟨hin,?_⟩;obtain⟨h1,h2⟩:=posM_lt h;unfold namesOf;apply List.ext_getElem?;intro j;rw[List.getElem?_map,List.getElem?_set];split
  ·rename_i hij;subst hij;simp[h1];rw[←h2,nth_eq h1]
  ·simp
theorem stepM_nodup {root:Bool} {M:List Dep} (d:Dep) (h:(namesOf M).Nodup):(namesOf (stepM root M d)).Nodup:=by
 unfold stepM;split
 ·rcases putM_names (M:=M) d with⟨_,e⟩ | ⟨hn,e⟩
  ·rw[e];exact h
  ·rw[e,List.nodup_append];exact⟨h,by simp,fun a ha b hb=>by simp at hb;subst hb;intro e;subst e;exact hn ha⟩
 ·exact h
theorem byM_nodup (root:Bool) (ds:List Dep):(namesOf (byM root ds)).Nodup:=by
 have:∀(ds M:List Dep),(namesOf M).Nodup→(namesOf (ds.foldl (stepM root) M)).Nodup:=by
  intro ds;induction ds with
  | nil=>intro M h;exact h
  | cons d ds ih=>intro M h;exact ih _ (stepM_nodup d h)
 exact this ds [] (by simp[namesOf])
theorem stepM_mem {root:Bool} {M:List Dep} {d x:Dep} (h:x∈stepM root M d):x∈M∨x=d:=by
 unfold stepM at h;split at h
 ·unfold putM at h;split at h
  ·rcases List.mem_or_eq_of_mem_set h with h | h
   ·exact .inl h
   ·exact .inr h
  ·simpa using h
 ·exact .inl h
theorem byM_mem {root:Bool} {ds:List Dep} {x:Dep} (h:x∈byM root ds):x∈ds:=by
 have:∀(ds M:List Dep),x∈ds.foldl (stepM root) M→x∈M∨x∈ds:=by
  intro ds;induction ds with
  | nil=>intro M h;exact .inl h
  | cons d ds ih=>
   intro M h;rcases ih _ h with h | h
   ·rcases stepM_mem h with h | h
    ·exact .inl h
    ·exact .inr (by simp[h])
   ·exact .inr (by simp[h])
 rcases this ds [] h with h | h
 ·simp at h
 ·exact h
theorem byM_len (root:Bool) (ds:List Dep):(byM root ds).length≤ds.length:=by
 have:∀(ds M:List Dep),(ds.foldl (stepM root) M).length≤M.length+ds.length:=by
  intro ds;induction ds with
  | nil=>intro M;simp
  | cons d ds ih=>
   intro M;have h1:=ih (stepM root M d);have h2:(stepM root M d).length≤M.length+1:=by
    unfold stepM;split
    ·unfold putM;split<;>simp
    ·omega
   simp only[List.foldl_cons,List.length_cons];omega
 have:=this ds [];simpa [byM]using this
def sortN (l:List Bs):List Bs:=(sortK (l.map bsL)).map fun k=>⟨k.toArray⟩
def nCells (b:Bs):List AV:=[sV b]
instance:Wid nCells 1:=⟨fun _=>rfl,by decide⟩
@[simp] theorem nCells_get (b:Bs):getC (nCells b) 0 1=some [sV b]:=rfl
theorem sortN_perm (l:List Bs):(sortN l).Perm l:=by
 have h1:(sortK (l.map bsL)).Perm (l.map bsL):=List.mergeSort_perm _ _;have h2:=h1.map (fun k:List UInt8=>(⟨k.toArray⟩:Bs));have h3:(l.map bsL).map (fun k:List UInt8=>(⟨k.toArray⟩:Bs))=l:=by
  rw[List.map_map]
  conv=>rhs;rw[←List.map_id l]
  apply List.map_congr_left;intro b _;simp[bsL]
 rw[h3]at h2;exact h2
theorem sorted_own {G:Hp} {p id nx:Nat} {M:List Dep} (hp:G p=some (.var 103 [.mp id])) (hG:G id=some (.map (entM M))) (hnd:(namesOf M).Nodup) (hlen:∀d∈M,d.name.size≤1000000000) (hmax:M.length≤1000000000000) (hn:G nx=none):
  InlOK Tryz.prog 94 [.fn 148 [.ptr p 0]] G (.row nx M.length) (G.upd nx (.row 9 (flat nCells (sortN (namesOf M))))):=by
 have h:=sorted_keys (ks:=(namesOf M).map bsL) hp hG (by
   unfold entM namesOf;rw[List.map_map,List.map_map,List.map_map];apply List.map_congr_left;intro d _;simp[bsL,encStr]) (by
   refine List.pairwise_map.2 (hnd.imp fun hne e=>hne ?_);exact WideShapes.bytes_inj e) (fun k hk=>by
   obtain⟨b,hb,rfl⟩:=List.mem_map.1 hk;obtain⟨d,hd,rfl⟩:=List.mem_map.1 hb;have:=hlen d hd;show d.name.data.toList.length≤9223372036854775807;rw[Array.length_toList];have h2:d.name.data.size≤1000000000:=this;omega) (by simp[namesOf];omega) hn
 have e1:((namesOf M).map bsL).length=M.length:=(by simp[namesOf]);rw[e1]at h;have e2:((sortK ((namesOf M).map bsL)).map fun k=>AV.v (encStr k))=flat nCells (sortN (namesOf M)):=by
  unfold flat sortN;rw[List.flatMap_map];generalize sortK _=l;induction l with
  | nil=>rfl
  | cons k l ih=>rw[List.map_cons,List.flatMap_cons,ih];rfl
 rw[e2]at h;exact h
set_option maxRecDepth 100000
set_option maxHeartbeats 4000000
def findD (M:List Dep) (n:Bs):Dep:=match posM M n with
 | some j=>nth M j
 | none=>default
def edgeOf (rules:List Ru) (d:Dep):Dep:= {d with range:=match atF rules d.name with
 | some i=>(nth rules i).range
 | none=>d.range}
def ofF (ds:List Dep) (rules:List Ru) (root:Bool):List Dep:=(sortN (namesOf (byM root ds))).map fun n=>edgeOf rules (findD (byM root ds) n)
def Dep.okL (ds:List Dep):Prop:=ds.length<1000000000000∧∀d∈ds,d.name.size≤1000000000∧d.range.length<1000000000000∧∀l∈d.range,l.length<1000000000000
theorem of10_ok (m:Man) (rules:List Ru) (root:Bool) (hd:Dep.okL m.deps) (hrl:Ru.okL rules):CallsOK Tryz.prog 41 [.agg m.cells,rowT Ru.cells rules,.v (.bool root)] (.row 0 (ofF m.deps rules root).length) [(35,flat Dep.cells (ofF m.deps rules root))]:=by
 have hm:=hd.1;refine callsOK mixed Tryz.call41 Tryz.func41 rfl (by rw[Tryz.ntmps41];simp) ?_ rfl;rw[Tryz.ntmps41];with_reducible refine aR fun K' hK=> ?_
 simp;refine hK _ _ _ ?_;clear K' hK;with_reducible refine aR fun K' hK=> ?_
 simp;refine hK _ _ _ ?_;clear K' hK;with_reducible refine aA ?_;refine aR fun K' hK=> ?_
 simp;refine hK _ _ _ ?_;clear K' hK;with_reducible refine aw_block ?_
 refine aw_loop (fun s G nx=>s 1=rowT Ru.cells rules∧s 2=.v (.bool root)∧s 7=.mp 2∧s 20=rowT Dep.cells m.deps∧s 21=iV m.deps.length∧∃i:Nat,s 22=iV i∧i≤m.deps.length∧G 2=some (.map (entM (byM root (m.deps.take i))))) (fun s _ _=>match s 22 with | .v (.int _ n)=>m.deps.length-n.toNat | _=>0) ?_ ?_
 ·simp;exact⟨0,by simp,by omega,rfl⟩
 ·rintro s G nx hf ⟨s1,s2,s7,s20,s21,i,s22,hi,g2⟩;have hnx:=fresh_lt hf g2;have n2:¬2=nx:=(by omega);have n3:¬2=nx+1:=(by omega);have hw:IntKind.i64.wrap (↑i+1)=((i+1:Nat):Int):=wrapS (by omega);with_reducible refine aR fun K' hK=> ?_
  simp[s21,s22];refine hK _ _ _ ?_;clear K' hK;with_reducible refine aC fun A B hA hB=> ?_
  simp;refine⟨fun hi2=>hA ?_,fun hi2=>hB ?_⟩<;>clear hA hB A B<;>(try simp at hi2)<;>(try with_reducible refine aK ?_)
  ·skip;with_reducible refine aw_block ?_;refine aR fun K' hK=> ?_
   simp[s20,s22,hi2];refine hK _ _ _ ?_;clear K' hK;have key:∃x ok,(∀G':Hp,G' 2=some (.map (entM (byM root (m.deps.take i))))→evLookup Tryz.prog G' 103 (.mp 2) (sV (nth m.deps i).name) true=some (.tup [.agg x,.v (.bool ok)]))∧x.length=3∧x.all AV.one=true∧(ok=false→posM (byM root (m.deps.take i)) (nth m.deps i).name=none)∧(ok=true→∃j,posM (byM root (m.deps.take i)) (nth m.deps i).name=some j∧x=(nth (byM root (m.deps.take i)) j).cells):=by
    cases hp:posM (byM root (m.deps.take i)) (nth m.deps i).name with
    | none=>exact⟨_,false,fun G' h=>lookup_none h hp true,rfl,rfl,(fun _=>rfl),(fun h=>by cases h)⟩
    | some j=>exact⟨_,true,fun G' h=>lookup_some h hp true,rfl,rfl,(fun h=>by cases h),fun _=>⟨j,rfl,rfl⟩⟩
   obtain⟨x,ok,hlk,hx3,hx1,hok0,hok1⟩:=key;with_reducible refine aR fun K' hK=> ?_
   simp[s7,hlk,g2,n2,hx3,hx1];refine hK _ _ _ ?_;clear K' hK;have hup:=fun(G':Hp) (h:G' 2=some (.map (entM (byM root (m.deps.take i)))))=>update_ent h (nth m.deps i);with_reducible refine aR fun K' hK=> ?_
   simp[s2];refine acall_flat (counts24_ok (nth m.deps i) root) rfl (by simp) ?_;cases hc:countsF (nth m.deps i) root with
   | false=>
    simp;refine hK _ _ _ ?_;clear K' hK;with_reducible refine aVk (by simp) ?_;refine aw_skipL ?_
    refine blockK_normal ?_;with_reducible refine aS fun K' hK=> ?_
    simp[s22,hw];refine hK _ _ _ ?_;clear K' hK;refine aw_skipL (loopK_normal ?_ ?_)
    ·simp[s1,s2,s7,s20,s21,n2,n3,g2,hw];refine⟨i+1,by simp,by omega,?_⟩;rw[byM_take root hi2,stepM,if_neg (by simp[hc])]
    ·simp[s22,hw];omega
   | true=>
    cases ok with
    | false=>
     have hp:=hok0 rfl;simp;refine hK _ _ _ ?_;clear K' hK;with_reducible refine aU (by simp) ?_;refine aR fun K' hK=> ?_
     simp[s7,hup,g2,n2,n3];refine hK _ _ _ ?_;clear K' hK;with_reducible refine aw_skipL ?_
     refine blockK_normal ?_;with_reducible refine aS fun K' hK=> ?_
     simp[s22,hw];refine hK _ _ _ ?_;clear K' hK;refine aw_skipL (loopK_normal ?_ ?_)
     ·simp[s1,s2,s7,s20,s21,n2,n3,g2,hw];refine⟨i+1,by simp,by omega,?_⟩;rw[byM_take root hi2,stepM,if_pos ⟨hc,fun j hj=>by rw[hp]at hj;cases hj⟩]
     ·simp[s22,hw];omega
    | true=>
     obtain⟨j,hp,rfl⟩:=hok1 rfl;simp;refine hK _ _ _ ?_;clear K' hK;with_reducible refine aD fun A B hA hB=> ?_
     simp;refine⟨fun hlt=>hA ?_,fun hlt=>hB ?_⟩<;>clear hA hB A B<;>(try simp at hlt)<;>(try with_reducible refine aK ?_)
     ·skip;with_reducible refine aR fun K' hK=> ?_
      simp[s7,hup,g2,n2,n3];refine hK _ _ _ ?_;clear K' hK;with_reducible refine aw_skipL ?_
      refine blockK_normal ?_;with_reducible refine aS fun K' hK=> ?_
      simp[s22,hw];refine hK _ _ _ ?_;clear K' hK;refine aw_skipL (loopK_normal ?_ ?_)
      ·simp[s1,s2,s7,s20,s21,n2,n3,g2,hw];refine⟨i+1,by simp,by omega,?_⟩;rw[byM_take root hi2,stepM,if_pos ⟨hc,fun j' hj=>by rw[hp]at hj;injection hj with hj;subst hj;exact hlt⟩]
      ·simp[s22,hw];omega
     ·with_reducible refine aw_skipL ?_
      refine blockK_normal ?_;with_reducible refine aS fun K' hK=> ?_
      simp[s22,hw];refine hK _ _ _ ?_;clear K' hK;refine aw_skipL (loopK_normal ?_ ?_)
      ·simp[s1,s2,s7,s20,s21,n2,n3,g2,hw];refine⟨i+1,by simp,by omega,?_⟩;rw[byM_take root hi2,stepM,if_neg (fun h=>by have:=h.2 j hp;omega)]
      ·simp[s22,hw];omega
  ·skip;with_reducible refine aw_exit ?_
   refine loopK_exit (blockK_exit ?_);have hM:byM root (m.deps.take i)=byM root m.deps:=(by rw[List.take_of_length_le hi2]);rw[hM]at g2;generalize hMM:byM root m.deps=M at g2;have hnd:(namesOf M).Nodup:=(by rw[←hMM];exact byM_nodup _ _);have hlen:∀d∈M,d.name.size≤1000000000:=fun d h=>(hd.2 d (byM_mem (hMM▸h))).1;have hmax:M.length≤1000000000000:=(by rw[←hMM];have:=byM_len root m.deps;omega);with_reducible refine aR fun K' hK=> ?_
   simp;refine hK _ _ _ ?_;clear K' hK;with_reducible refine aA ?_;refine aR fun K' hK=> ?_
   simp[s7];refine acall_inl (nx+1+1) (fun hf=>keys26 hf) (fun hf=>⟨.inr (.upd (hf _ (Nat.le_refl _)) _),fresh_upd hf⟩) ?_;simp;refine acall_inl (nx+1+1+1) (fun hf=>sorted_own (p:=nx+1) (id:=2) (M:=M) (by simp) (by simp[n2,n3,g2]) hnd hlen hmax (hf _ (Nat.le_refl _))) (fun hf=>⟨.inr (.upd (hf _ (Nat.le_refl _)) _),fresh_upd hf⟩) ?_;simp;refine hK _ _ _ ?_;clear K' hK;have n4:¬2=nx+1+1:=(by omega);have n5:¬nx=0:=(by omega);have n6:¬nx=nx+1+1:=(by omega);have hSl:(sortN (namesOf M)).length=M.length:=(by rw[(sortN_perm _).length_eq];simp[namesOf]);generalize hS:sortN (namesOf M)=S at*;with_reducible refine aw_block ?_
   refine aw_loop (fun s G nx'=>s 1=rowT Ru.cells rules∧s 7=.mp 2∧s 54=.row (nx+1+1) S.length∧s 55=iV S.length∧G 2=some (.map (entM M))∧G (nx+1+1)=some (.row 9 (flat nCells S))∧∃(i id:Nat),s 56=iV i∧i≤S.length∧s 12=.row id i∧G id=some (.row 35 (flat Dep.cells ((S.take i).map fun n=>edgeOf rules (findD M n))))) (fun s _ _=>match s 56 with | .v (.int _ n)=>S.length-n.toNat | _=>0) ?_ ?_
   ·refine⟨by simp[s1],by simp[s7],by simp[hSl],by simp[hSl],by simp[n2,n3,n4,n5,g2],by simp,0,nx,by simp,by omega,by simp,by simp[n6]⟩
   ·rintro s G nx1 hf ⟨t1,t7,t54,t55,g2,gS,i,id,t56,hi,t12,gid⟩;have m2:¬2=nx1:=(by have:=fresh_lt hf g2;omega);have mS:¬nx+1+1=nx1:=(by have:=fresh_lt hf gS;omega);generalize nx+1+1=k at*;have hidl:=fresh_lt hf gid;have hkl:=fresh_lt hf gS;have h2l:=fresh_lt hf g2;have m20:¬nx1=0:=(by omega);have m21:¬2=nx1+1:=(by omega);have m22:¬2=nx1+2:=(by omega);have m23:¬2=nx1+2+1:=(by omega);have m24:¬2=nx1+2+1+1:=(by omega);have m2i:¬2=id:=fun e=>(by rw[←e,g2]at gid;cases gid);have mS1:¬k=nx1+1:=(by omega);have mS2:¬k=nx1+2:=(by omega);have mS3:¬k=nx1+2+1:=(by omega);have mS4:¬k=nx1+2+1+1:=(by omega);have mSi:¬k=id:=fun e=>(by rw[←e,gS]at gid;injection gid with gid;injection gid with gid;cases gid);have mi:¬id=nx1:=(by omega);have mi1:¬id=nx1+1:=(by omega);have mi2:¬id=nx1+2:=(by omega);have mi3:¬id=nx1+3:=(by omega);have hw:IntKind.i64.wrap (↑i+1)=((i+1:Nat):Int):=wrapS (by omega);with_reducible refine aR fun K' hK=> ?_
    simp[t55,t56];refine hK _ _ _ ?_;clear K' hK;with_reducible refine aC fun A B hA hB=> ?_
    simp;refine⟨fun hi3=>hA ?_,fun hi3=>hB ?_⟩<;>clear hA hB A B<;>(try simp at hi3)<;>(try with_reducible refine aK ?_)
    ·skip;with_reducible refine aw_block ?_;refine aR fun K' hK=> ?_
     simp[t54,t56,hi3,gS];refine hK _ _ _ ?_;clear K' hK;have hmem:nth S i∈namesOf M:=(sortN_perm (namesOf M)).mem_iff.1 (by rw[hS];exact nth_mem hi3);have hj:∃j,posM M (nth S i)=some j:=by
      cases h:posM M (nth S i)with
      | none=>exact absurd hmem (posM_none.1 h)
      | some j=>exact⟨j,rfl⟩
     obtain⟨j,hj⟩:=hj;have hjl:=posM_lt hj;have hlk:=fun(G':Hp) (h:G' 2=some (.map (entM M)))=>lookup_some h hj false;have hfd:findD M (nth S i)=nth M j:=(by simp[findD,hj]);have hdm:nth M j∈m.deps:=byM_mem (root:=root) (by rw[hMM];exact nth_mem hjl.1);have hdd:=hd.2 _ hdm;generalize nth M j=d at*;with_reducible refine aR fun K' hK=> ?_
     simp[t7,hlk,g2];refine hK _ _ _ ?_;clear K' hK;with_reducible refine aR fun K' hK=> ?_
     simp;refine acall_new (own27_ok d.range hdd.2) (by simp[Rg.cells]) ?_;simp[addJ_one,Rg.cells,Dep.cells];refine hK _ _ _ ?_;clear K' hK;have hname:(nth S i)=d.name:=hjl.2.symm;have hedge:edgeOf rules (findD M (nth S i))=edgeOf rules d:=(by rw[hfd]);rw[hname];cases hat:atF rules d.name with
     | none=>
      with_reducible refine aA ?_;refine aR fun K' hK=> ?_
      simp[t1];refine acall_new (rule11_none rules d.name hrl hat) (by simp) ?_;simp[addJ_nil];refine hK _ _ _ ?_;clear K' hK;with_reducible refine aA ?_;refine aR fun K' hK=> ?_
      simp;refine hK _ _ _ ?_;clear K' hK;with_reducible refine aYk (by simp) ?_
      have hlen1:(List.map (fun n=>edgeOf rules (findD M n)) (List.take i S)).length=i:=(by simp;omega);have hmin:min i S.length=i:=(by omega);have hb1:i+1≤9223372036854775807:=(by omega);have hb2:(i+1)*48≤140737488355328:=(by omega);with_reducible refine aS fun K' hK=> ?_
      simp[t12,mi,mi1,mi2,mi3,gid,getC,treeOf_row,srcOf_row,hmin,hb1,hb2];refine hK _ _ _ ?_;clear K' hK;with_reducible refine aw_skipL ?_
      refine blockK_normal ?_;with_reducible refine aS fun K' hK=> ?_
      simp[t56,hw];refine hK _ _ _ ?_;clear K' hK;have e1:edgeOf rules d=d:=(by simp[edgeOf,hat]);have hlast:flat Dep.cells (List.take i (List.map (fun n=>edgeOf rules (findD M n)) S))++[iV d.kind,sV d.name,rowT Alt.cells d.range]=flat Dep.cells (List.take (i+1) (List.map (fun n=>edgeOf rules (findD M n)) S)):=by
       rw[List.take_add_one,List.getElem?_map,List.getElem?_eq_getElem hi3,←nth_eq hi3];show _++Dep.cells d=_;rw[flat_snoc];simp[hedge,e1]
      refine aw_skipL (loopK_normal ?_ ?_)
      ·refine⟨by simp[t1],by simp[t7],by simp[t54],by simp[t55],by simp[m20,m2,m21,m22,m23,m24,m2i,g2],by simp[mS,mS1,mS2,mS3,mS4,mSi,gS],i+1,nx1+2+1+1,by simp[hw],by omega,by simp,?_⟩;simp;exact hlast
      ·simp[t56,hw];omega
     | some q=>
      have mA:∀j,¬2=nx1+j:=fun j=>(by omega);have mB:∀j,¬k=nx1+j:=fun j=>(by omega);have mC:∀j,¬id=nx1+j:=fun j=>(by omega);with_reducible refine aA ?_;refine aR fun K' hK=> ?_
      simp[t1];refine acall_new (rule11_some rules d.name hrl hat) (by simp) ?_;simp[addJ_one,Nat.add_assoc];refine hK _ _ _ ?_;clear K' hK;with_reducible refine aA ?_;refine aR fun K' hK=> ?_
      simp[Nat.add_assoc];refine hK _ _ _ ?_;clear K' hK;with_reducible refine aX (by simp) ?_;refine aR fun K' hK=> ?_
      simp[getC,Nat.add_assoc];refine hK _ _ _ ?_;clear K' hK;have hmin:min i S.length=i:=(by omega);have hb1:i+1≤9223372036854775807:=(by omega);have hb2:(i+1)*48≤140737488355328:=(by omega);with_reducible refine aS fun K' hK=> ?_
      simp[t12,mi,mC,gid,getC,treeOf_row,srcOf_row,hmin,hb1,hb2,Nat.add_assoc];refine hK _ _ _ ?_;clear K' hK;with_reducible refine aw_skipL ?_
      refine blockK_normal ?_;with_reducible refine aS fun K' hK=> ?_
      simp[t56,hw];refine hK _ _ _ ?_;clear K' hK;have e1:(edgeOf rules d).cells=[iV d.kind,sV d.name,rowT Alt.cells (nth rules q).range]:=(by simp[edgeOf,hat,Dep.cells]);have hlast:flat Dep.cells (List.take i (List.map (fun n=>edgeOf rules (findD M n)) S))++[iV d.kind,sV d.name,rowT Alt.cells (nth rules q).range]=flat Dep.cells (List.take (i+1) (List.map (fun n=>edgeOf rules (findD M n)) S)):=by
       rw[List.take_add_one,List.getElem?_map,List.getElem?_eq_getElem hi3,←nth_eq hi3,←e1,flat_snoc];simp[hedge]
      refine aw_skipL (loopK_normal ?_ ?_)
      ·refine⟨by simp[t1],by simp[t7],by simp[t54],by simp[t55],by simp[m20,m2,mA,m2i,g2],by simp[mS,mB,mSi,gS],i+1,nx1+5,by simp[hw],by omega,by simp,?_⟩;simp;exact hlast
      ·simp[t56,hw];omega
    ·skip;with_reducible refine aw_exit ?_
     refine loopK_exit (blockK_exit ?_);have hiS:i=S.length:=(by omega);have hof:ofF m.deps rules root=S.map fun n=>edgeOf rules (findD M n):=(by simp[ofF,hMM,hS]);have hofl:(ofF m.deps rules root).length=i:=(by rw[hof,List.length_map,hiS]);rw[show S.take i=S by rw[List.take_of_length_le (by omega)],←hof]at gid;rw[hofl];with_reducible refine aR fun K' hK=> ?_
     simp[t12];refine hK _ _ _ ?_;clear K' hK;with_reducible refine aw_retL ?_
     simp[blockK,loopK,Post,resA,res1,expT,expA,exp1,expM,expL,okT,okA,ok1,rowOf,Tryz.f41,gid]
set_option maxRecDepth 100000
set_option maxHeartbeats 4000000
set_option maxRecDepth 100000
set_option maxHeartbeats 4000000
theorem big34_ok (v:Ver):CallsOK Tryz.prog 74 [.agg v.cells] (.v (.bool (decide (300<v.pre.size)))) []:=by
 refine callsOK mixed Tryz.call74 Tryz.func74 rfl (by rw[Tryz.ntmps74];simp) ?_ rfl;rw[Tryz.ntmps74];with_reducible refine aR fun K' hK=> ?_
 simp;refine hK _ _ _ ?_;clear K' hK;with_reducible refine aR fun K' hK=> ?_
 simp[getC];refine hK _ _ _ ?_;clear K' hK;with_reducible refine aw_retL ?_
 simp[blockK,loopK,Post,resA,res1,expT,expA,exp1,expM,expL,okT,okA,ok1,rowOf,Tryz.f74];omega
def bigB (b:Bd):Bool:=decide (300<b.ver.pre.size)
def bigA (l:Alt):Bool:=decide (20<l.length) || l.any bigB
def bigR (r:Rg):Bool:=decide (20<r.length) || r.any bigA
theorem big35_ok (r:Rg):CallsOK Tryz.prog 22 [.agg r.cells] (.v (.bool (bigR r))) []:=by
 refine callsOK mixed Tryz.call22 Tryz.func22 rfl (by rw[Tryz.ntmps22];simp) ?_ rfl;rw[Tryz.ntmps22];with_reducible refine aR fun K' hK=> ?_
 simp[Rg.cells];refine hK _ _ _ ?_;clear K' hK;with_reducible refine aA ?_;refine aR fun K' hK=> ?_
 simp;refine hK _ _ _ ?_;clear K' hK;with_reducible refine aC fun A B hA hB=> ?_
 simp;refine⟨fun hl=>hA ?_,fun hl=>hB ?_⟩<;>clear hA hB A B<;>(try simp at hl)<;>(try with_reducible refine aK ?_)
 ·with_reducible refine aA ?_;refine aR fun K' hK=> ?_
  simp;refine hK _ _ _ ?_;clear K' hK;with_reducible refine aw_ret ?_
  simp[blockK,loopK,Post,resA,res1,expT,expA,exp1,expM,expL,okT,okA,ok1,rowOf,Tryz.f22];simp[bigR];omega
 ·with_reducible refine aA ?_;refine aR fun K' hK=> ?_
  simp;refine hK _ _ _ ?_;clear K' hK;with_reducible refine aw_block ?_
  refine aw_loop (fun s G nx=>G 0=some (.var 33 [rowT Alt.cells r])∧s 1=.ptr 0 0∧∃i:Nat,s 3=iV i∧i≤r.length∧(r.take i).any bigA=false) (fun s _ _=>match s 3 with | .v (.int _ n)=>r.length-n.toNat | _=>0) ?_ ?_
  ·exact⟨by simp,by simp,0,by simp,by omega,by simp⟩
  ·rintro s G nx-⟨g0,s1,i,s3,hi,ht⟩;have hw:IntKind.i64.wrap (↑i+1)=((i+1:Nat):Int):=wrapS (by omega);with_reducible refine aA ?_;refine aR fun K' hK=> ?_
   simp[g0,s1,s3];refine hK _ _ _ ?_;clear K' hK;with_reducible refine aC fun A B hA hB=> ?_
   simp;refine⟨fun hi2=>hA ?_,fun hi2=>hB ?_⟩<;>clear hA hB A B<;>(try simp at hi2)<;>(try with_reducible refine aK ?_)
   ·skip;with_reducible refine aw_block ?_;refine aA ?_;refine aR fun K' hK=> ?_
    simp[g0,s1,s3,hi2];refine hK _ _ _ ?_;clear K' hK;with_reducible refine aC fun A B hA hB=> ?_
    simp;refine⟨fun hl2=>hA ?_,fun hl2=>hB ?_⟩<;>clear hA hB A B<;>(try simp at hl2)<;>(try with_reducible refine aK ?_)
    ·with_reducible refine aA ?_;refine aR fun K' hK=> ?_
     simp;refine hK _ _ _ ?_;clear K' hK;with_reducible refine aw_ret ?_
     simp[blockK,loopK,Post,resA,res1,expT,expA,exp1,expM,expL,okT,okA,ok1,rowOf,Tryz.f22];have:bigA (nth r i)=true:=(by simp[bigA];left;omega);simp only[bigR,Bool.or_eq_true,List.any_eq_true];exact .inr ⟨_,nth_mem hi2,this⟩
    ·skip;with_reducible refine aR fun K' hK=> ?_
     simp;refine hK _ _ _ ?_;clear K' hK;with_reducible refine aw_toS (aw_block ?_)
     refine aw_loop (fun s G nx=>G 0=some (.var 33 [rowT Alt.cells r])∧s 1=.ptr 0 0∧s 3=iV i∧∃j:Nat,s 4=iV j∧j≤(nth r i).length∧((nth r i).take j).any bigB=false) (fun s _ _=>match s 4 with | .v (.int _ n)=>(nth r i).length-n.toNat | _=>0) ?_ ?_
     ·exact⟨by simp[g0],by simp[s1],by simp[s3],0,by simp,by omega,by simp⟩
     ·rintro s' G' nx'-⟨g0',s1',s3',j,s4',hj,htj⟩;have hwj:IntKind.i64.wrap (↑j+1)=((j+1:Nat):Int):=wrapS (by omega);with_reducible refine aA ?_;refine aR fun K' hK=> ?_
      simp[g0',s1',s3',s4',hi2];refine hK _ _ _ ?_;clear K' hK;with_reducible refine aC fun A B hA hB=> ?_
      simp;refine⟨fun hj2=>hA ?_,fun hj2=>hB ?_⟩<;>clear hA hB A B<;>(try simp at hj2)<;>(try with_reducible refine aK ?_)
      ·skip;with_reducible refine aw_block ?_;refine aR fun K' hK=> ?_
       simp[g0',s1',s3',s4',hi2,hj2];refine acall_flat (big34_ok (nth (nth r i) j).ver) rfl (by simp) ?_;simp;refine hK _ _ _ ?_;clear K' hK;with_reducible refine aD fun A B hA hB=> ?_
       simp;refine⟨fun hb=>hA ?_,fun hb=>hB ?_⟩<;>clear hA hB A B<;>(try simp at hb)<;>(try with_reducible refine aK ?_)
       ·with_reducible refine aA ?_;refine aR fun K' hK=> ?_
        simp;refine hK _ _ _ ?_;clear K' hK;with_reducible refine aw_ret ?_
        simp[blockK,loopK,Post,resA,res1,expT,expA,exp1,expM,expL,okT,okA,ok1,rowOf,Tryz.f22];have h1:bigB (nth (nth r i) j)=true:=(by simp[bigB];omega);have h2:bigA (nth r i)=true:=by
         simp only[bigA,Bool.or_eq_true,List.any_eq_true];exact .inr ⟨_,nth_mem hj2,h1⟩
        simp only[bigR,Bool.or_eq_true,List.any_eq_true];exact .inr ⟨_,nth_mem hi2,h2⟩
       ·with_reducible refine aw_skipL ?_
        refine blockK_normal ?_;with_reducible refine aS fun K' hK=> ?_
        simp[s4',hwj];refine hK _ _ _ ?_;clear K' hK;refine aw_skipL (loopK_normal ?_ ?_)
        ·exact⟨by simp[g0'],by simp[s1'],by simp[s3'],j+1,by simp[hwj],by omega,any_take hj2 htj (by simp[bigB];omega)⟩
        ·simp[s4',hwj];omega
      ·skip;with_reducible refine aw_exit ?_
       refine loopK_exit (blockK_exit ?_);with_reducible refine aw_skipL ?_
       refine blockK_normal ?_;with_reducible refine aS fun K' hK=> ?_
       simp[s3',hw];refine hK _ _ _ ?_;clear K' hK;have hA:bigA (nth r i)=false:=by
        rw[List.take_of_length_le (by omega)]at htj;simp only[bigA,htj,Bool.or_false,decide_eq_false_iff_not];omega
       refine aw_skipL (loopK_normal ?_ ?_)
       ·exact⟨by simp[g0'],by simp[s1'],i+1,by simp[hw],by omega,any_take hi2 ht hA⟩
       ·simp[s3,s3',hw];omega
   ·skip;with_reducible refine aw_exit ?_
    refine loopK_exit (blockK_exit ?_);with_reducible refine aR fun K' hK=> ?_
    simp;refine hK _ _ _ ?_;clear K' hK;with_reducible refine aw_retL ?_
    simp[blockK,loopK,Post,resA,res1,expT,expA,exp1,expM,expL,okT,okA,ok1,rowOf,Tryz.f22];rw[List.take_of_length_le (by omega)]at ht;simp only[bigR,ht,Bool.or_false,decide_eq_false_iff_not];omega
set_option maxRecDepth 100000
set_option maxHeartbeats 4000000
def bigD (d:Dep):Bool:=decide (300<d.name.size) || bigR d.range
def bigU (d:Ru):Bool:=decide (300<d.name.size) || bigR d.range
def bigM (m:Man):Bool:=decide (300<m.name.size) || decide (300<m.ver.pre.size) || decide (40<m.deps.length) || decide (40<m.rules.length) || m.deps.any bigD || m.rules.any bigU
theorem big22_ok (m:Man):CallsOK Tryz.prog 72 [.agg m.cells] (.v (.bool (bigM m))) []:=by
 refine callsOK mixed Tryz.call72 Tryz.func72 rfl (by rw[Tryz.ntmps72];simp) ?_ rfl;rw[Tryz.ntmps72];with_reducible refine aR fun K' hK=> ?_
 simp;refine hK _ _ _ ?_;clear K' hK;by_cases c1:(300:Int)<(m.name.size:Int)
 ·with_reducible refine aA ?_;refine aR fun K' hK=> ?_
  simp[c1];refine hK _ _ _ ?_;clear K' hK;with_reducible refine aX (by simp) ?_;refine aA ?_;refine aR fun K' hK=> ?_
  simp;refine hK _ _ _ ?_;clear K' hK;with_reducible refine aw_ret ?_
  simp[blockK,loopK,Post,resA,res1,expT,expA,exp1,expM,expL,okT,okA,ok1,rowOf,Tryz.f72];simp[bigM];omega
 ·with_reducible refine aA ?_;refine aR fun K' hK=> ?_
  simp[c1];refine acall_flat (big34_ok m.ver) rfl (by simp) ?_;by_cases c2:300<m.ver.pre.size
  ·simp[c2];refine hK _ _ _ ?_;clear K' hK;with_reducible refine aX (by simp) ?_;refine aA ?_;refine aR fun K' hK=> ?_
   simp;refine hK _ _ _ ?_;clear K' hK;with_reducible refine aw_ret ?_
   simp[blockK,loopK,Post,resA,res1,expT,expA,exp1,expM,expL,okT,okA,ok1,rowOf,Tryz.f72];simp[bigM,c2]
  ·by_cases c3:(40:Int)<(m.deps.length:Int)
   ·simp[c2,c3];refine hK _ _ _ ?_;clear K' hK;with_reducible refine aX (by simp) ?_;refine aA ?_;refine aR fun K' hK=> ?_
    simp;refine hK _ _ _ ?_;clear K' hK;with_reducible refine aw_ret ?_
    simp[blockK,loopK,Post,resA,res1,expT,expA,exp1,expM,expL,okT,okA,ok1,rowOf,Tryz.f72];simp[bigM];omega
   ·by_cases c4:(40:Int)<(m.rules.length:Int)
    ·simp[c2,c3,c4];refine hK _ _ _ ?_;clear K' hK;with_reducible refine aX (by simp) ?_;refine aA ?_;refine aR fun K' hK=> ?_
     simp;refine hK _ _ _ ?_;clear K' hK;with_reducible refine aw_ret ?_
     simp[blockK,loopK,Post,resA,res1,expT,expA,exp1,expM,expL,okT,okA,ok1,rowOf,Tryz.f72];simp[bigM];omega
    ·simp[c2,c3,c4];refine hK _ _ _ ?_;clear K' hK;with_reducible refine aYk (by simp) ?_;refine aA ?_;refine aR fun K' hK=> ?_
     simp;refine hK _ _ _ ?_;clear K' hK;with_reducible refine aw_block ?_
     refine aw_loop (fun s G nx=>G 0=some (.var 27 m.cells)∧s 1=.ptr 0 0∧∃i:Nat,s 3=iV i∧i≤m.deps.length∧(m.deps.take i).any bigD=false) (fun s _ _=>match s 3 with | .v (.int _ n)=>m.deps.length-n.toNat | _=>0) ?_ ?_
     ·exact⟨by simp,by simp,0,by simp,by omega,by simp⟩
     ·rintro s G nx-⟨g0,s1,i,s3,hi,ht⟩;have hw:IntKind.i64.wrap (↑i+1)=((i+1:Nat):Int):=wrapS (by omega);with_reducible refine aA ?_;refine aR fun K' hK=> ?_
      simp[g0,s1,s3];refine hK _ _ _ ?_;clear K' hK;with_reducible refine aC fun A B hA hB=> ?_
      simp;refine⟨fun hi2=>hA ?_,fun hi2=>hB ?_⟩<;>clear hA hB A B<;>(try simp at hi2)<;>(try with_reducible refine aK ?_)
      ·skip;with_reducible refine aw_block ?_
       by_cases d1:(300:Int)<((nth m.deps i).name.size:Int)
       ·skip;with_reducible refine aR fun K' hK=> ?_
        simp[g0,s1,s3,hi2,d1];refine hK _ _ _ ?_;clear K' hK;with_reducible refine aU (by simp) ?_;refine aA ?_;refine aR fun K' hK=> ?_
        simp;refine hK _ _ _ ?_;clear K' hK;with_reducible refine aw_ret ?_
        simp[blockK,loopK,Post,resA,res1,expT,expA,exp1,expM,expL,okT,okA,ok1,rowOf,Tryz.f72];have h1:bigD (nth m.deps i)=true:=(by simp[bigD];left;omega);simp only[bigM,Bool.or_eq_true,List.any_eq_true];exact .inl (.inr ⟨_,nth_mem hi2,h1⟩)
       ·skip;with_reducible refine aR fun K' hK=> ?_
        simp[g0,s1,s3,hi2,d1];refine acall_flat (big35_ok (nth m.deps i).range) rfl (by simp[Rg.cells]) ?_;simp;refine hK _ _ _ ?_;clear K' hK;with_reducible refine aD fun A B hA hB=> ?_
        simp;refine⟨fun d2=>hA ?_,fun d2=>hB ?_⟩<;>clear hA hB A B<;>(try simp at d2)<;>(try with_reducible refine aK ?_)
        ·with_reducible refine aA ?_;refine aR fun K' hK=> ?_
         simp;refine hK _ _ _ ?_;clear K' hK;with_reducible refine aw_ret ?_
         simp[blockK,loopK,Post,resA,res1,expT,expA,exp1,expM,expL,okT,okA,ok1,rowOf,Tryz.f72];have h1:bigD (nth m.deps i)=true:=(by simp[bigD,d2]);simp only[bigM,Bool.or_eq_true,List.any_eq_true];exact .inl (.inr ⟨_,nth_mem hi2,h1⟩)
        ·with_reducible refine aw_skipL ?_
         refine blockK_normal ?_;with_reducible refine aS fun K' hK=> ?_
         simp[s3,hw];refine hK _ _ _ ?_;clear K' hK;refine aw_skipL (loopK_normal ?_ ?_)
         ·exact⟨by simp[g0],by simp[s1],i+1,by simp[hw],by omega,any_take hi2 ht (by simp only[bigD,d2,Bool.or_false,decide_eq_false_iff_not];omega)⟩
         ·simp[s3,hw];omega
      ·skip;with_reducible refine aw_exit ?_
       refine loopK_exit (blockK_exit ?_);have hD:m.deps.any bigD=false:=(by rw[List.take_of_length_le (by omega)]at ht;exact ht);with_reducible refine aA ?_;refine aR fun K' hK=> ?_
       simp;refine hK _ _ _ ?_;clear K' hK;with_reducible refine aw_block ?_
       refine aw_loop (fun s G nx=>G 0=some (.var 27 m.cells)∧s 1=.ptr 0 0∧∃i:Nat,s 4=iV i∧i≤m.rules.length∧(m.rules.take i).any bigU=false) (fun s _ _=>match s 4 with | .v (.int _ n)=>m.rules.length-n.toNat | _=>0) ?_ ?_
       ·exact⟨by simp[g0],by simp[s1],0,by simp,by omega,by simp⟩
       ·rintro s' G' nx'-⟨g0',s1',j,s4',hj,htj⟩;have hwj:IntKind.i64.wrap (↑j+1)=((j+1:Nat):Int):=wrapS (by omega);with_reducible refine aA ?_;refine aR fun K' hK=> ?_
        simp[g0',s1',s4'];refine hK _ _ _ ?_;clear K' hK;with_reducible refine aC fun A B hA hB=> ?_
        simp;refine⟨fun hj2=>hA ?_,fun hj2=>hB ?_⟩<;>clear hA hB A B<;>(try simp at hj2)<;>(try with_reducible refine aK ?_)
        ·skip;with_reducible refine aw_block ?_
         by_cases d1:(300:Int)<((nth m.rules j).name.size:Int)
         ·skip;with_reducible refine aR fun K' hK=> ?_
          simp[g0',s1',s4',hj2,d1];refine hK _ _ _ ?_;clear K' hK;with_reducible refine aU (by simp) ?_;refine aA ?_;refine aR fun K' hK=> ?_
          simp;refine hK _ _ _ ?_;clear K' hK;with_reducible refine aw_ret ?_
          simp[blockK,loopK,Post,resA,res1,expT,expA,exp1,expM,expL,okT,okA,ok1,rowOf,Tryz.f72];have h1:bigU (nth m.rules j)=true:=(by simp[bigU];left;omega);simp only[bigM,Bool.or_eq_true,List.any_eq_true];exact .inr ⟨_,nth_mem hj2,h1⟩
         ·skip;with_reducible refine aR fun K' hK=> ?_
          simp[g0',s1',s4',hj2,d1];refine acall_flat (big35_ok (nth m.rules j).range) rfl (by simp[Rg.cells]) ?_;simp;refine hK _ _ _ ?_;clear K' hK;with_reducible refine aD fun A B hA hB=> ?_
          simp;refine⟨fun d2=>hA ?_,fun d2=>hB ?_⟩<;>clear hA hB A B<;>(try simp at d2)<;>(try with_reducible refine aK ?_)
          ·with_reducible refine aA ?_;refine aR fun K' hK=> ?_
           simp;refine hK _ _ _ ?_;clear K' hK;with_reducible refine aw_ret ?_
           simp[blockK,loopK,Post,resA,res1,expT,expA,exp1,expM,expL,okT,okA,ok1,rowOf,Tryz.f72];have h1:bigU (nth m.rules j)=true:=(by simp[bigU,d2]);simp only[bigM,Bool.or_eq_true,List.any_eq_true];exact .inr ⟨_,nth_mem hj2,h1⟩
          ·with_reducible refine aw_skipL ?_
           refine blockK_normal ?_;with_reducible refine aS fun K' hK=> ?_
           simp[s4',hwj];refine hK _ _ _ ?_;clear K' hK;refine aw_skipL (loopK_normal ?_ ?_)
           ·exact⟨by simp[g0'],by simp[s1'],j+1,by simp[hwj],by omega,any_take hj2 htj (by simp only[bigU,d2,Bool.or_false,decide_eq_false_iff_not];omega)⟩
           ·simp[s4',hwj];omega
        ·skip;with_reducible refine aw_exit ?_
         refine loopK_exit (blockK_exit ?_);have hU:m.rules.any bigU=false:=(by rw[List.take_of_length_le (by omega)]at htj;exact htj);with_reducible refine aR fun K' hK=> ?_
         simp;refine hK _ _ _ ?_;clear K' hK;with_reducible refine aw_retL ?_
         simp[blockK,loopK,Post,resA,res1,expT,expA,exp1,expM,expL,okT,okA,ok1,rowOf,Tryz.f72];simp[bigM,hD,hU];omega
def leB' (a b:Bs):Prop:=bsL a≤bsL b
theorem leB'_anti {a b:Bs} (h1:leB' a b) (h2:leB' b a):a=b:=bsL_inj (List.le_antisymm h1 h2)
theorem ltB_of {a b:Bs} (h:leB' a b) (hne:a≠b):ltB a b=true:=by
 simp only[ltB,decide_eq_true_eq];rcases Classical.em (bsL a<bsL b)with h1 | h1
 ·exact h1
 ·exact absurd (leB'_anti h (show bsL b≤bsL a from List.not_lt.1 h1)) hne
theorem sortN_sorted (l:List Bs):(sortN l).Pairwise leB':=by
 have tr:∀a b c:List UInt8,decide (a≤b)=true→decide (b≤c)=true→decide (a≤c)=true:=fun a b c h1 h2=>(by simp only[decide_eq_true_eq]at*;exact List.le_trans h1 h2);have tot:∀a b:List UInt8,(decide (a≤b) || decide (b≤a))=true:=fun a b=>(by simp only[Bool.or_eq_true,decide_eq_true_eq];exact List.le_total a b);unfold sortN sortK;refine List.pairwise_map.2 ((List.pairwise_mergeSort tr tot (l.map bsL)).imp fun h=> ?_);simpa [leB',bsL]using h
theorem sortN_eq {l l':List Bs} (hp:l'.Perm l) (hs:l'.Pairwise leB'):sortN l=l':=
 List.Perm.eq_of_pairwise (le:=leB') (fun a b _ _ h1 h2=>leB'_anti h1 h2) (sortN_sorted l) hs ((sortN_perm l).trans hp.symm)
theorem sortN_self {l:List Bs} (hs:l.Pairwise leB'):sortN l=l:=sortN_eq (List.Perm.refl _) hs
theorem sortN_lt {l:List Bs} (hnd:l.Nodup):(sortN l).Pairwise (fun a b=>ltB a b=true):=by
 have h1:=sortN_sorted l;have h2:(sortN l).Nodup:=(sortN_perm l).nodup_iff.2 hnd;exact(h1.and h2).imp fun h=>ltB_of h.1 h.2
set_option maxRecDepth 100000
set_option maxHeartbeats 4000000
theorem clone127_ok (l:List Dep) (hl:l.length<1000000000000):CallsOK Tryz.prog 127 [rowT Dep.cells l] (.row 0 l.length) [(35,flat Dep.cells l)]:=by
 refine callsOK mixed Tryz.call127 Tryz.func127 rfl (by rw[Tryz.ntmps127];simp) ?_ rfl;rw[Tryz.ntmps127];have h1:l.length≤9223372036854775807:=(by omega);have h2:l.length*48≤140737488355328:=(by omega);with_reducible refine aR fun K' hK=> ?_
 simp;refine hK _ _ _ ?_;clear K' hK;by_cases h:l=[]
 ·subst h;with_reducible refine aA ?_;refine aR fun K' hK=> ?_
  simp;refine hK _ _ _ ?_;clear K' hK;(repeat with_reducible refine aw_assoc ?_);refine aw_condP fun A B hA hB=> ?_;simp;refine⟨hA ?_,hB (aw_skip ?_)⟩
  ·with_reducible refine aA ?_;refine aR fun K' hK=> ?_
   simp;refine hK _ _ _ ?_;clear K' hK;with_reducible refine aw_ret ?_
   simp[blockK,loopK,Post,resA,res1,expT,expA,exp1,expM,expL,okT,okA,ok1,rowOf,Tryz.f127]
  ·skip;with_reducible refine aR fun K' hK=> ?_
   simp;refine hK _ _ _ ?_;clear K' hK;with_reducible refine aw_retL ?_
   simp[blockK,loopK,Post,resA,res1,expT,expA,exp1,expM,expL,okT,okA,ok1,rowOf,Tryz.f127]
 ·with_reducible refine aA ?_;refine aR fun K' hK=> ?_
  simp[h];refine hK _ _ _ ?_;clear K' hK;with_reducible refine aYk (by simp) ?_;refine aR fun K' hK=> ?_
  simp[h1,h2];refine hK _ _ _ ?_;clear K' hK;with_reducible refine aw_retL ?_
  simp[blockK,loopK,Post,resA,res1,expT,expA,exp1,expM,expL,okT,okA,ok1,rowOf,Tryz.f127]
theorem clone129_ok (l:List Ru) (hl:l.length<1000000000000):CallsOK Tryz.prog 129 [rowT Ru.cells l] (.row 0 l.length) [(96,flat Ru.cells l)]:=by
 refine callsOK mixed Tryz.call129 Tryz.func129 rfl (by rw[Tryz.ntmps129];simp) ?_ rfl;rw[Tryz.ntmps129];have h1:l.length≤9223372036854775807:=(by omega);have h2:l.length*40≤140737488355328:=(by omega);with_reducible refine aR fun K' hK=> ?_
 simp;refine hK _ _ _ ?_;clear K' hK;by_cases h:l=[]
 ·subst h;with_reducible refine aA ?_;refine aR fun K' hK=> ?_
  simp;refine hK _ _ _ ?_;clear K' hK;(repeat with_reducible refine aw_assoc ?_);refine aw_condP fun A B hA hB=> ?_;simp;refine⟨hA ?_,hB (aw_skip ?_)⟩
  ·with_reducible refine aA ?_;refine aR fun K' hK=> ?_
   simp;refine hK _ _ _ ?_;clear K' hK;with_reducible refine aw_ret ?_
   simp[blockK,loopK,Post,resA,res1,expT,expA,exp1,expM,expL,okT,okA,ok1,rowOf,Tryz.f129]
  ·skip;with_reducible refine aR fun K' hK=> ?_
   simp;refine hK _ _ _ ?_;clear K' hK;with_reducible refine aw_retL ?_
   simp[blockK,loopK,Post,resA,res1,expT,expA,exp1,expM,expL,okT,okA,ok1,rowOf,Tryz.f129]
 ·with_reducible refine aA ?_;refine aR fun K' hK=> ?_
  simp[h];refine hK _ _ _ ?_;clear K' hK;with_reducible refine aYk (by simp) ?_;refine aR fun K' hK=> ?_
  simp[h1,h2];refine hK _ _ _ ?_;clear K' hK;with_reducible refine aw_retL ?_
  simp[blockK,loopK,Post,resA,res1,expT,expA,exp1,expM,expL,okT,okA,ok1,rowOf,Tryz.f129]
theorem own128_ok (r:Rg) (hr:r.length<1000000000000∧∀l∈r,l.length<1000000000000):CallsOK Tryz.prog 128 [.agg r.cells] (.agg [.row 0 r.length]) [(83,flat Alt.cells r)]:=by
 refine callsOK mixed Tryz.call128 Tryz.func128 rfl (by rw[Tryz.ntmps128];simp) ?_ rfl;rw[Tryz.ntmps128];with_reducible refine aR fun K' hK=> ?_
 simp[Rg.cells];refine hK _ _ _ ?_;clear K' hK;with_reducible refine aR fun K' hK=> ?_
 simp;refine acall_new (clone39_ok r hr.1) (by simp) ?_;simp[addJ_one];refine hK _ _ _ ?_;clear K' hK;with_reducible refine aA ?_;refine aR fun K' hK=> ?_
 simp;refine hK _ _ _ ?_;clear K' hK;with_reducible refine aw_block ?_
 refine aw_loop (fun s G nx=>G 0=some (.var 33 [.row 2 r.length])∧G 1=some (.var 33 [.v (.slice none 0 0)])∧G 2=some (.row 83 (flat Alt.cells r))∧s 1=.ptr 0 0∧s 2=.ptr 1 0∧s 10=.row 2 r.length∧s 11=iV r.length∧∃i:Nat,s 12=iV i∧i≤r.length) (fun s _ _=>match s 12 with | .v (.int _ n)=>r.length-n.toNat | _=>0) ?_ ?_
 ·simp;exact⟨0,by simp⟩
 ·rintro s G nx hf ⟨g0,g1,g2,s1,s2,s10,s11,i,s12,hi⟩;have hnx:=fresh_lt hf g2;have n0:¬0=nx:=(by omega);have n1:¬1=nx:=(by omega);have n2:¬2=nx:=(by omega);have hw:IntKind.i64.wrap (↑i+1)=((i+1:Nat):Int):=wrapS (by have:=hr.1;omega);with_reducible refine aR fun K' hK=> ?_
  simp[s11,s12];refine hK _ _ _ ?_;clear K' hK;with_reducible refine aC fun A B hA hB=> ?_
  simp;refine⟨fun hi2=>hA ?_,fun hi2=>hB ?_⟩<;>clear hA hB A B<;>(try simp at hi2)<;>(try with_reducible refine aK ?_)
  ·skip;with_reducible refine aw_block ?_;refine aR fun K' hK=> ?_
   simp[s10,s12,hi2,g2];refine hK _ _ _ ?_;clear K' hK;with_reducible refine aT fun K' hK=> ?_
   simp[s1,g0];refine acall_new (clone40_ok (nth r i) (hr.2 _ (nth_mem hi2))) (by simp) ?_;have hp:putO (flat Alt.cells r) 1 i 0 [rowT Bd.cells (nth r i)]=flat Alt.cells r:=putO_same hi2;simp[addJ_one,s10,n2,g2,hi2,hp];refine hK _ _ _ ?_;clear K' hK;with_reducible refine aw_skipL ?_
   refine blockK_normal ?_;with_reducible refine aS fun K' hK=> ?_
   simp[s12,hw];refine hK _ _ _ ?_;clear K' hK;refine aw_skipL (loopK_normal ?_ ?_)
   ·simp[n0,n1,n2,g0,g1,s1,s2,s10,s11,hw];exact⟨i+1,by simp,by omega⟩
   ·simp[s12,hw];omega
  ·skip;with_reducible refine aw_exit ?_
   refine loopK_exit (blockK_exit ?_);with_reducible refine aR fun K' hK=> ?_
   simp[s1,s2,g0,g1];refine hK _ _ _ ?_;clear K' hK;with_reducible refine aw_retL ?_
   simp[blockK,loopK,Post,resA,res1,expT,expA,exp1,expM,expL,okT,okA,ok1,rowOf,Tryz.f128,s2,g2]
theorem own131_ok (r:Rg) (hr:r.length<1000000000000∧∀l∈r,l.length<1000000000000):CallsOK Tryz.prog 131 [.agg r.cells] (.agg [.row 0 r.length]) [(83,flat Alt.cells r)]:=by
 refine callsOK mixed Tryz.call131 Tryz.func131 rfl (by rw[Tryz.ntmps131];simp) ?_ rfl;rw[Tryz.ntmps131];with_reducible refine aR fun K' hK=> ?_
 simp[Rg.cells];refine hK _ _ _ ?_;clear K' hK;with_reducible refine aR fun K' hK=> ?_
 simp;refine acall_new (clone39_ok r hr.1) (by simp) ?_;simp[addJ_one];refine hK _ _ _ ?_;clear K' hK;with_reducible refine aA ?_;refine aR fun K' hK=> ?_
 simp;refine hK _ _ _ ?_;clear K' hK;with_reducible refine aw_block ?_
 refine aw_loop (fun s G nx=>G 0=some (.var 33 [.row 2 r.length])∧G 1=some (.var 33 [.v (.slice none 0 0)])∧G 2=some (.row 83 (flat Alt.cells r))∧s 1=.ptr 0 0∧s 2=.ptr 1 0∧s 10=.row 2 r.length∧s 11=iV r.length∧∃i:Nat,s 12=iV i∧i≤r.length) (fun s _ _=>match s 12 with | .v (.int _ n)=>r.length-n.toNat | _=>0) ?_ ?_
 ·simp;exact⟨0,by simp⟩
 ·rintro s G nx hf ⟨g0,g1,g2,s1,s2,s10,s11,i,s12,hi⟩;have hnx:=fresh_lt hf g2;have n0:¬0=nx:=(by omega);have n1:¬1=nx:=(by omega);have n2:¬2=nx:=(by omega);have hw:IntKind.i64.wrap (↑i+1)=((i+1:Nat):Int):=wrapS (by have:=hr.1;omega);with_reducible refine aR fun K' hK=> ?_
  simp[s11,s12];refine hK _ _ _ ?_;clear K' hK;with_reducible refine aC fun A B hA hB=> ?_
  simp;refine⟨fun hi2=>hA ?_,fun hi2=>hB ?_⟩<;>clear hA hB A B<;>(try simp at hi2)<;>(try with_reducible refine aK ?_)
  ·skip;with_reducible refine aw_block ?_;refine aR fun K' hK=> ?_
   simp[s10,s12,hi2,g2];refine hK _ _ _ ?_;clear K' hK;with_reducible refine aT fun K' hK=> ?_
   simp[s1,g0];refine acall_new (clone40_ok (nth r i) (hr.2 _ (nth_mem hi2))) (by simp) ?_;have hp:putO (flat Alt.cells r) 1 i 0 [rowT Bd.cells (nth r i)]=flat Alt.cells r:=putO_same hi2;simp[addJ_one,s10,n2,g2,hi2,hp];refine hK _ _ _ ?_;clear K' hK;with_reducible refine aw_skipL ?_
   refine blockK_normal ?_;with_reducible refine aS fun K' hK=> ?_
   simp[s12,hw];refine hK _ _ _ ?_;clear K' hK;refine aw_skipL (loopK_normal ?_ ?_)
   ·simp[n0,n1,n2,g0,g1,s1,s2,s10,s11,hw];exact⟨i+1,by simp,by omega⟩
   ·simp[s12,hw];omega
  ·skip;with_reducible refine aw_exit ?_
   refine loopK_exit (blockK_exit ?_);with_reducible refine aR fun K' hK=> ?_
   simp[s1,s2,g0,g1];refine hK _ _ _ ?_;clear K' hK;with_reducible refine aw_retL ?_
   simp[blockK,loopK,Post,resA,res1,expT,expA,exp1,expM,expL,okT,okA,ok1,rowOf,Tryz.f131,s2,g2]
set_option maxRecDepth 100000
set_option maxHeartbeats 4000000
theorem splice_same {cs ts:List AV} {off:Nat} (h:getC cs off ts.length=some ts):splice cs off ts=cs:=by
 unfold getC at h;split at h
 ·injection h with h;unfold splice;rw[←List.drop_drop]
  conv=>lhs;arg 1;rw[←h]
  rw[List.append_assoc,List.take_append_drop,List.take_append_drop]
 ·cases h
theorem putO_field {α:Type} {c:α→List AV} {w:Nat} {l:List α} [Inhabited α] [Wid c w] {i f:Nat} {ts:List AV} (h:i<l.length) (hk:f+ts.length≤w) (hg:getC (c (nth l i)) f ts.length=some ts):putO (flat c l) w i f ts=flat c l:=
 splice_same (by rw[←hg];exact getC_flat h hk)
def Man.cellsR (m:Man) (a b:AV):List AV:=[sV m.name,iV m.ver.maj,iV m.ver.min,iV m.ver.pat,sV m.ver.pre,a,b]
section
variable {G:Hp}
@[simp] theorem manR_put5 (m:Man) (x:AV):List.take 5 m.cells++x::List.drop 6 m.cells=m.cellsR x (rowT Ru.cells m.rules):=rfl
@[simp] theorem manR_put6 (m:Man) (a b x:AV):List.take 6 (m.cellsR a b)++x::List.drop 7 (m.cellsR a b)=m.cellsR a x:=rfl
@[simp] theorem manR_put6' (m:Man) (a b x:AV):List.take 6 (m.cellsR a b)++[x]=m.cellsR a x:=rfl
@[simp] theorem manR_drop (m:Man) (a b c d:AV):m.cellsR a b++List.drop 7 (m.cellsR c d)=m.cellsR a b:=rfl
@[simp] theorem manR_5 (m:Man) (a b:AV):getC (m.cellsR a b) 5 1=some [a]:=rfl
@[simp] theorem manR_6 (m:Man) (a b:AV):getC (m.cellsR a b) 6 1=some [b]:=rfl
@[simp] theorem manR_ver (m:Man) (a b:AV):getC (m.cellsR a b) 1 4=some m.ver.cells:=rfl
@[simp] theorem manR_name (m:Man) (a b:AV):getC (m.cellsR a b) 0 1=some [sV m.name]:=rfl
@[simp] theorem manR_all (m:Man) (a b:AV):getC (m.cellsR a b) 0 7=some (m.cellsR a b):=rfl
@[simp] theorem manR_len (m:Man) (a b:AV):(m.cellsR a b).length=7:=rfl
end
def Man.okS (m:Man):Prop:=Dep.okL m.deps∧Ru.okL m.rules
abbrev manN:List AV:=[sV ⟨#[]⟩,iV 0,iV 0,iV 0,sV ⟨#[]⟩,.v (.slice none 0 0),.v (.slice none 0 0)]
def manZ:Man:=⟨⟨#[]⟩,⟨0,0,0,⟨#[]⟩⟩,[],[]⟩
theorem own75_ok (m:Man) (hm:Man.okS m):CallsOK Tryz.prog 75 [.agg m.cells] (.agg (m.cellsR (.row 0 m.deps.length) (.row 1 m.rules.length))) [(35,flat Dep.cells m.deps),(96,flat Ru.cells m.rules)]:=by
 refine callsOK mixed Tryz.call75 Tryz.func75 rfl (by rw[Tryz.ntmps75];simp) ?_ rfl;rw[Tryz.ntmps75];obtain⟨hd,hu⟩:=hm;have hdl:=hd.1;have hul:=hu.1;with_reducible refine aR fun K' hK=> ?_
 simp;refine hK _ _ _ ?_;clear K' hK;with_reducible refine aR fun K' hK=> ?_
 simp;refine acall_new (clone127_ok m.deps hdl) (by simp) ?_;simp[addJ_one];refine hK _ _ _ ?_;clear K' hK;with_reducible refine aA ?_;refine aR fun K' hK=> ?_
 simp;refine hK _ _ _ ?_;clear K' hK;with_reducible refine aw_block ?_
 refine aw_loop (fun s G nx=>G 0=some (.var 27 (m.cellsR (.row 2 m.deps.length) (rowT Ru.cells m.rules)))∧G 1=some (.var 27 manN)∧G 2=some (.row 35 (flat Dep.cells m.deps))∧s 1=.ptr 0 0∧s 2=.ptr 1 0∧s 12=.row 2 m.deps.length∧s 13=iV m.deps.length∧∃i:Nat,s 14=iV i∧i≤m.deps.length) (fun s _ _=>match s 14 with | .v (.int _ n)=>m.deps.length-n.toNat | _=>0) ?_ ?_
 ·exact⟨by simp,by simp,by simp,by simp,by simp,by simp,by simp,0,by simp,by omega⟩
 ·rintro s G nx hf ⟨g0,g1,g2,s1,s2,s12,s13,i,s14,hi⟩;have hnx:=fresh_lt hf g2;have n0:¬0=nx:=(by omega);have n1:¬1=nx:=(by omega);have n2:¬2=nx:=(by omega);have nz:¬nx=0:=(by omega);have m0:¬0=nx+1:=(by omega);have m1:¬1=nx+1:=(by omega);have m2:¬2=nx+1:=(by omega);have hw:IntKind.i64.wrap (↑i+1)=((i+1:Nat):Int):=wrapS (by omega);with_reducible refine aR fun K' hK=> ?_
  simp[s13,s14];refine hK _ _ _ ?_;clear K' hK;with_reducible refine aC fun A B hA hB=> ?_
  simp;refine⟨fun hi2=>hA ?_,fun hi2=>hB ?_⟩<;>clear hA hB A B<;>(try simp at hi2)<;>(try with_reducible refine aK ?_)
  ·skip;with_reducible refine aw_block ?_;refine aR fun K' hK=> ?_
   simp[s12,s14,hi2,g2];refine hK _ _ _ ?_;clear K' hK;have hr:=(hd.2 _ (nth_mem hi2)).2;have hp:putO (flat Dep.cells m.deps) 3 i 2 [rowT Alt.cells (nth m.deps i).range]=flat Dep.cells m.deps:=putO_field hi2 (by simp) rfl;with_reducible refine aT fun K' hK=> ?_
   simp[s1,g0,n0];refine acall_new (own128_ok (nth m.deps i).range hr) (by simp[Rg.cells]) ?_;simp[addJ_one,n0,n1,n2,m0,m1,m2,g2,hi2,hp];refine hK _ _ _ ?_;clear K' hK;with_reducible refine aw_skipL ?_
   refine blockK_normal ?_;with_reducible refine aS fun K' hK=> ?_
   simp[s14,hw];refine hK _ _ _ ?_;clear K' hK;refine aw_skipL (loopK_normal ?_ ?_)
   ·exact⟨by simp[n0,m0,g0],by simp[n1,m1,nz,g1],by simp[n1,n2,m2,g2],by simp[s1],by simp[s2],by simp[s12],by simp[s13],i+1,by simp[hw],by omega⟩
   ·simp[s14,hw];omega
  ·skip;with_reducible refine aw_exit ?_
   refine loopK_exit (blockK_exit ?_);clear s12 s13 s14 m0 m1 m2 hw;generalize nx=N at*;with_reducible refine aR fun K' hK=> ?_
   simp[s1,g0];refine acall_new (clone129_ok m.rules hul) (by simp) ?_;simp[addJ_one,n0,n1,n2,nz,g0,s1];refine hK _ _ _ ?_;clear K' hK;have n0':¬N=0:=(by omega);have n1':¬N=1:=(by omega);have n2':¬N=2:=(by omega);with_reducible refine aA ?_;refine aR fun K' hK=> ?_
   simp[s1,n0,g0,n0'];refine hK _ _ _ ?_;clear K' hK;with_reducible refine aw_block ?_
   refine aw_loop (fun s G nx=>G 0=some (.var 27 (m.cellsR (.row 2 m.deps.length) (.row N m.rules.length)))∧G 1=some (.var 27 manN)∧G 2=some (.row 35 (flat Dep.cells m.deps))∧G N=some (.row 96 (flat Ru.cells m.rules))∧s 1=.ptr 0 0∧s 2=.ptr 1 0∧s 33=.row N m.rules.length∧s 34=iV m.rules.length∧∃i:Nat,s 35=iV i∧i≤m.rules.length) (fun s _ _=>match s 35 with | .v (.int _ n)=>m.rules.length-n.toNat | _=>0) ?_ ?_
   ·exact⟨by simp,by simp[n1,g1],by simp[n2,g2],by simp[n0'],by simp[s1],by simp[s2],by simp,by simp,0,by simp,by omega⟩
   ·clear s1 s2 g0 g1 g2 hf;rintro s G nx hf ⟨g0,g1,g2,gN,s1,s2,s33,s34,i,s35,hi⟩;have hnN:=fresh_lt hf gN;have p0:¬0=nx:=(by omega);have p1:¬1=nx:=(by omega);have p2:¬2=nx:=(by omega);have pN:¬N=nx:=(by omega);have pz:¬nx=0:=(by omega);have q0:¬0=nx+1:=(by omega);have q1:¬1=nx+1:=(by omega);have q2:¬2=nx+1:=(by omega);have qN:¬N=nx+1:=(by omega);have hw:IntKind.i64.wrap (↑i+1)=((i+1:Nat):Int):=wrapS (by omega);with_reducible refine aR fun K' hK=> ?_
    simp[s34,s35];refine hK _ _ _ ?_;clear K' hK;with_reducible refine aC fun A B hA hB=> ?_
    simp;refine⟨fun hi2=>hA ?_,fun hi2=>hB ?_⟩<;>clear hA hB A B<;>(try simp at hi2)<;>(try with_reducible refine aK ?_)
    ·skip;with_reducible refine aw_block ?_;refine aR fun K' hK=> ?_
     simp[s33,s35,hi2,gN];refine hK _ _ _ ?_;clear K' hK;have hr:=hu.2 _ (nth_mem hi2);have hp:putO (flat Ru.cells m.rules) 2 i 1 [rowT Alt.cells (nth m.rules i).range]=flat Ru.cells m.rules:=putO_field hi2 (by simp) rfl;with_reducible refine aT fun K' hK=> ?_
     simp[s1,g0,p0];refine acall_new (own128_ok (nth m.rules i).range hr) (by simp[Rg.cells]) ?_;simp[addJ_one,p0,p1,p2,pN,pz,q0,q1,q2,qN,gN,hi2,hp];refine hK _ _ _ ?_;clear K' hK;with_reducible refine aw_skipL ?_
     refine blockK_normal ?_;with_reducible refine aS fun K' hK=> ?_
     simp[s35,hw];refine hK _ _ _ ?_;clear K' hK;refine aw_skipL (loopK_normal ?_ ?_)
     ·exact⟨by simp[n0,p0,q0,g0],by simp[n1,p1,q1,pz,g1],by simp[n2,p1,p2,q2,g2],by simp[pN,qN,gN],by simp[s1],by simp[s2],by simp[s33],by simp[s34],i+1,by simp[hw],by omega⟩
     ·simp[s35,hw];omega
    ·skip;with_reducible refine aw_exit ?_
     refine loopK_exit (blockK_exit ?_);with_reducible refine aR fun K' hK=> ?_
     simp[s1,s2,g0,g1];refine hK _ _ _ ?_;clear K' hK;with_reducible refine aw_retL ?_
     simp[blockK,loopK,Post,resA,res1,expT,expA,exp1,expM,expL,okT,okA,ok1,rowOf,Tryz.f75,s2,n1',n2',g2,gN];have n3':¬1=N:=(by omega);refine⟨[2,N],?_,?_,?_⟩
     ·simp[Man.cellsR,expL,exp1,n1',n2',n3',g2,gN]
     ·simp[Man.cellsR]
     ·simp[rowOf,n1',n2',n3',g2,gN]
set_option maxRecDepth 100000
set_option maxHeartbeats 4000000
@[simp] theorem manR_one (m:Man) (a b c d:Nat):(m.cellsR (.row a b) (.row c d)).all AV.one=true:=rfl
def hitM (n:Bs) (v:Ver) (m:Man):Bool:=decide (m.name=n)&&decide (m.ver=v)
def findM (L:List Man) (n:Bs) (v:Ver):Option Man:=L.find? (hitM n v)
def manR:Option Man→AV×Js
 | none=>(.tup [.agg manN,bV false],[])
 | some m=>(.tup [.agg (m.cellsR (.row 0 m.deps.length) (.row 1 m.rules.length)),bV true],[(35,flat Dep.cells m.deps),(96,flat Ru.cells m.rules)])
theorem findM_drop {L:List Man} {n:Bs} {v:Ver} {i:Nat} (h:i<L.length):findM (L.drop i) n v=if hitM n v (nth L i)=true then some (nth L i)else findM (L.drop (i+1)) n v:=by
 rw[List.drop_eq_getElem_cons h,←nth_eq h];unfold findM;rw[List.find?_cons];cases hitM n v (nth L i)<;>rfl
theorem find76_ok (Lm:List Man) (hl:Lm.length≤1000000000) (hm:∀m∈Lm,Man.okS m) (n:Bs) (v:Ver):CallsOK Tryz.prog 76 [rowT Man.cells Lm,sV n,.agg v.cells] (manR (findM Lm n v)).1 (manR (findM Lm n v)).2:=by
 refine callsOK mixed Tryz.call76 Tryz.func76 rfl (by rw[Tryz.ntmps76];simp) ?_ ?_
 ·rw[Tryz.ntmps76];with_reducible refine aR fun K' hK=> ?_
  simp;refine hK _ _ _ ?_;clear K' hK;with_reducible refine aA ?_;refine aR fun K' hK=> ?_
  simp;refine acall_inlK (inlK mixed Tryz.call130 Tryz.func130 rfl (by rw[Tryz.ntmps130];simp) fun hf=> ?_);rw[Tryz.ntmps130];with_reducible refine aR fun K' hK=> ?_
  simp;refine hK _ _ _ ?_;clear K' hK;with_reducible refine aR fun K' hK=> ?_
  simp;refine hK _ _ _ ?_;clear K' hK;with_reducible refine aw_retL ?_
  simp[blockK,loopK,Post,resA,res1,expT,expA,exp1,expM,expL,okT,okA,ok1,rowOf,Tryz.f130];refine hK _ _ _ ?_;clear K' hK;refine aw_gen (fun t G nx=>t 5=.ptr 0 0∧t 6=.ptr 1 0∧t 7=.ptr 2 0∧t 15=.fn 172 [.ptr 3 0,.ptr 4 0]∧nx=5∧G 0=some (.var 23 v.cells)∧G 1=some (.var 27 manN)∧G 2=some (.var 4 [bV false])∧G 3=some (.var 28 [rowT Man.cells Lm])∧G 4=some (.var 9 [sV n])) ?_ ?_
  ·simp;rfl
  rintro t G nx ⟨t5,t6,t7,t15,rfl,g0,g1,g2,g3,g4⟩;with_reducible refine aw_block ?_
  refine aw_range (f:=172) (fn:=Tryz.f172) mixed t15 Tryz.call172 Tryz.func172 rfl (by rw[Tryz.ntmps172];simp) rfl ?_;rw[Tryz.ntmps172];generalize hL:(Lp.mk t 65 _ _ _)=L;have hLs:L.s=t:=(by subst hL;rfl);have hround:∀(m:Man) (K:AV→Hp→Nat→Prop) (G:Hp) (nx:Nat),Man.okS m→6≤nx→G 0=some (.var 23 v.cells)→G 1=some (.var 27 manN)→G 2=some (.var 4 [bV false])→G 5=some (L.o .ready none)→
    (¬m.ver=v→∀G' nx',nx≤nx'→(∀k,k<5→G' k=G k)→G' 5=some (L.o .ready none)→K (bV true) G' nx')→
    (m.ver=v→∀G' nx' a b,6≤a→6≤b→a≠b→G' 1=some (.var 27 (m.cellsR (.row a m.deps.length) (.row b m.rules.length)))→G' 2=some (.var 4 [bV true])→G' a=some (.row 35 (flat Dep.cells m.deps))→G' b=some (.row 96 (flat Ru.cells m.rules))→G' 5=some (L.o .done (some .ret))→K (bV false) G' nx')→YldK Tryz.prog 5 [.agg m.cells] K G nx:=by
   subst hL;clear g0 g1 g2 g3 g4;intro m K G nx hmm hnx g0 g1 g2 g5 k1 k2;refine yldK mixed g5 rfl (by simp) rfl rfl fun hf=> ?_;have n5:¬5=nx:=(by omega);have n5':¬nx=5:=(by omega);have n0:¬0=nx:=(by omega);have n1:¬1=nx:=(by omega);have n2:¬2=nx:=(by omega);with_reducible refine aS fun K' hK=> ?_
   simp;refine hK _ _ _ ?_;clear K' hK;refine⟨rfl,by simp[n5,g5],?_⟩;dsimp only;generalize (Lp.mk t 65 _ _ _)=L at g5 k1 k2⊢;with_reducible refine aw_toS (aw_block ?_)
   by_cases hv:m.ver=v
   ·obtain⟨hd,hu⟩:=hmm;have hdl:=hd.1;have hul:=hu.1;with_reducible refine aR fun K' hK=> ?_
    simp[t5,n0,g0,hv,n5'];refine hK _ _ _ ?_;clear K' hK;with_reducible refine aU (by simp) ?_;refine aA ?_;refine aR fun K' hK=> ?_
    simp[n5'];refine acall_new (clone127_ok m.deps hdl) (by simp) ?_;have a0:¬nx=nx+1:=(by omega);simp[addJ_one,n5',a0];refine hK _ _ _ ?_;clear K' hK;have a1:¬nx+1=5:=(by omega);have a2:¬5=nx+1:=(by omega);have a3:¬1=nx+1:=(by omega);have a4:¬2=nx+1:=(by omega);have a5:¬nx=0:=(by omega);have a6:¬nx=1:=(by omega);have a7:¬nx+1=nx:=(by omega);with_reducible refine aA ?_;with_reducible refine aA ?_;refine aR fun K' hK=> ?_
    simp[n5',a0,a1];refine hK _ _ _ ?_;clear K' hK;with_reducible refine aw_block ?_
    refine aw_loop (fun s G ny=>G 1=some (.var 27 manN)∧G 2=some (.var 4 [bV false])∧G 5=some (L.o .busy none)∧G nx=some (.var 27 (m.cellsR (.row (nx+1) m.deps.length) (rowT Ru.cells m.rules)))∧G (nx+1)=some (.row 35 (flat Dep.cells m.deps))∧s 6=.ptr 1 0∧s 7=.ptr 2 0∧s 8=.ptr nx 0∧s 26=.row (nx+1) m.deps.length∧s 27=iV m.deps.length∧∃i:Nat,s 28=iV i∧i≤m.deps.length) (fun s _ _=>match s 28 with | .v (.int _ n)=>m.deps.length-n.toNat | _=>0) ?_ ?_
    ·exact⟨by simp[n1,n2,n5,n5',a0,a1,a2,a3,a4,a5,a6,a7,g1],by simp[n1,n2,n5,n5',a0,a1,a2,a3,a4,a5,a6,a7,g2],by simp[n1,n2,n5,n5',a0,a1,a2,a3,a4,a5,a6,a7],by simp[n1,n2,n5,n5',a0,a1,a2,a3,a4,a5,a6,a7],by simp[n1,n2,n5,n5',a0,a1,a2,a3,a4,a5,a6,a7],by simp[t6],by simp[t7],by simp,by simp,by simp,0,by simp,by omega⟩
    ·clear g0 g1 g2 g5 hf;rintro s G ny hf ⟨g1,g2,g5,g8,gd,s6,s7,s8,s26,s27,i,s28,hi⟩;have hnd:=fresh_lt hf gd;clear a0 a1 a2 a3 a4 a5 a6 a7 n0 n1 n2;generalize hD:nx+1=D at*;have e1:¬1=ny:=(by omega);have e2:¬2=ny:=(by omega);have e3:¬5=ny:=(by omega);have e4:¬nx=ny:=(by omega);have e5:¬D=ny:=(by omega);have e6:¬ny=0:=(by omega);have e7:¬4=ny:=(by omega);have e8:¬nx=ny+1:=(by omega);have e9:¬D=ny+1:=(by omega);have f1:¬1=ny+1:=(by omega);have f2:¬2=ny+1:=(by omega);have f3:¬5=ny+1:=(by omega);have d1:¬1=D:=(by omega);have d2:¬2=D:=(by omega);have d5:¬5=D:=(by omega);have dn:¬nx=D:=(by omega);have hw:IntKind.i64.wrap (↑i+1)=((i+1:Nat):Int):=wrapS (by omega);with_reducible refine aR fun K' hK=> ?_
     simp[s27,s28];refine hK _ _ _ ?_;clear K' hK;with_reducible refine aC fun A B hA hB=> ?_
     simp;refine⟨fun hi2=>hA ?_,fun hi2=>hB ?_⟩<;>clear hA hB A B<;>(try simp at hi2)<;>(try with_reducible refine aK ?_)
     ·skip;with_reducible refine aw_block ?_;refine aR fun K' hK=> ?_
      simp[s26,s28,hi2,gd];refine hK _ _ _ ?_;clear K' hK;have hr:=(hd.2 _ (nth_mem hi2)).2;have hp:putO (flat Dep.cells m.deps) 3 i 2 [rowT Alt.cells (nth m.deps i).range]=flat Dep.cells m.deps:=putO_field hi2 (by simp) rfl;with_reducible refine aT fun K' hK=> ?_
      simp[s8,g8,e4];refine acall_new (own131_ok (nth m.deps i).range hr) (by simp[Rg.cells]) ?_;simp[addJ_one,e4,e5,e8,e9,gd,hi2,hp];refine hK _ _ _ ?_;clear K' hK;with_reducible refine aw_skipL ?_
      refine blockK_normal ?_;with_reducible refine aS fun K' hK=> ?_
      simp[s28,hw];refine hK _ _ _ ?_;clear K' hK;refine aw_skipL (loopK_normal ?_ ?_)
      ·exact⟨by simp[e1,f1,d1,e6,g1],by simp[e1,e2,f2,d2,g2],by simp[e3,f3,d5,e7,g5],by simp[e4,e8,dn,g8],by simp[e5,e9,gd],by simp[s6],by simp[s7],by simp[s8],by simp[s26],by simp[s27],i+1,by simp[hw],by omega⟩
      ·simp[s28,hw];omega
     ·skip;with_reducible refine aw_exit ?_
      refine loopK_exit (blockK_exit ?_);clear s26 s27 s28 e1 e2 e3 e4 e5 e6 e7 e8 e9 f1 f2 f3 hw;have b1:¬1=ny:=(by omega);have b2:¬2=ny:=(by omega);have b5:¬5=ny:=(by omega);have bn:¬nx=ny:=(by omega);have bD:¬D=ny:=(by omega);have bn':¬ny=nx:=(by omega);have hDy:D<ny:=(by omega);have c1:¬1=nx:=(by omega);have dn':¬D=nx:=(by omega);have c2:¬2=nx:=(by omega);have c5:¬5=nx:=(by omega);with_reducible refine aA ?_;refine aR fun K' hK=> ?_
      simp[s8,g8];refine acall_new (clone129_ok m.rules hul) (by simp) ?_;simp[addJ_one,s8,g8,bn];refine hK _ _ _ ?_;clear K' hK;with_reducible refine aA ?_;with_reducible refine aA ?_;refine aR fun K' hK=> ?_
      simp[s8,bn,bn',g8];refine hK _ _ _ ?_;clear K' hK;clear hf;generalize ny=R at*;with_reducible refine aw_block ?_
      refine aw_loop (fun s G ny=>G 1=some (.var 27 manN)∧G 2=some (.var 4 [bV false])∧G 5=some (L.o .busy none)∧G nx=some (.var 27 (m.cellsR (.row D m.deps.length) (.row R m.rules.length)))∧G D=some (.row 35 (flat Dep.cells m.deps))∧G R=some (.row 96 (flat Ru.cells m.rules))∧s 6=.ptr 1 0∧s 7=.ptr 2 0∧s 8=.ptr nx 0∧s 47=.row R m.rules.length∧s 48=iV m.rules.length∧∃i:Nat,s 49=iV i∧i≤m.rules.length) (fun s _ _=>match s 49 with | .v (.int _ n)=>m.rules.length-n.toNat | _=>0) ?_ ?_
      ·exact⟨by simp[b1,c1,g1],by simp[b2,c2,g2],by simp[b5,c5,g5],by simp,by simp[bD,dn,dn',gd],by simp[bn'],by simp[s6],by simp[s7],by simp[s8],by simp,by simp,0,by simp,by omega⟩
      ·clear g1 g2 g5 g8 gd s6 s7 s8;rintro s G ny hf ⟨g1,g2,g5,g8,gd,gR,s6,s7,s8,s47,s48,i,s49,hi⟩;have hnR:=fresh_lt hf gR;have e1:¬1=ny:=(by omega);have e2:¬2=ny:=(by omega);have e3:¬5=ny:=(by omega);have e4:¬nx=ny:=(by omega);have e5:¬D=ny:=(by omega);have e5r:¬R=ny:=(by omega);have e6:¬ny=0:=(by omega);have e7:¬4=ny:=(by omega);have e8:¬nx=ny+1:=(by omega);have e9:¬D=ny+1:=(by omega);have e9r:¬R=ny+1:=(by omega);have f1:¬1=ny+1:=(by omega);have f2:¬2=ny+1:=(by omega);have f3:¬5=ny+1:=(by omega);have dR:¬D=R:=(by omega);have hw:IntKind.i64.wrap (↑i+1)=((i+1:Nat):Int):=wrapS (by omega);with_reducible refine aR fun K' hK=> ?_
       simp[s48,s49];refine hK _ _ _ ?_;clear K' hK;with_reducible refine aC fun A B hA hB=> ?_
       simp;refine⟨fun hi2=>hA ?_,fun hi2=>hB ?_⟩<;>clear hA hB A B<;>(try simp at hi2)<;>(try with_reducible refine aK ?_)
       ·skip;with_reducible refine aw_block ?_;refine aR fun K' hK=> ?_
        simp[s47,s49,hi2,gR];refine hK _ _ _ ?_;clear K' hK;have hr:=hu.2 _ (nth_mem hi2);have hp:putO (flat Ru.cells m.rules) 2 i 1 [rowT Alt.cells (nth m.rules i).range]=flat Ru.cells m.rules:=putO_field hi2 (by simp) rfl;with_reducible refine aT fun K' hK=> ?_
        simp[s8,g8,e4];refine acall_new (own131_ok (nth m.rules i).range hr) (by simp[Rg.cells]) ?_;simp[addJ_one,e4,e5r,e8,e9r,gR,hi2,hp];refine hK _ _ _ ?_;clear K' hK;with_reducible refine aw_skipL ?_
        refine blockK_normal ?_;with_reducible refine aS fun K' hK=> ?_
        simp[s49,hw];refine hK _ _ _ ?_;clear K' hK;refine aw_skipL (loopK_normal ?_ ?_)
        ·exact⟨by simp[e1,f1,b1,e6,g1],by simp[e1,e2,f2,b2,g2],by simp[e3,f3,b5,e7,g5],by simp[e4,e8,bn,g8],by simp[e5,e9,dR,gd],by simp[e5r,e9r,gR],by simp[s6],by simp[s7],by simp[s8],by simp[s47],by simp[s48],i+1,by simp[hw],by omega⟩
        ·simp[s49,hw];omega
       ·skip;with_reducible refine aw_exit ?_
        refine loopK_exit (blockK_exit ?_);have x1:¬nx=1:=(by omega);have x2:¬D=1:=(by omega);have x3:¬D=2:=(by omega);have x4:¬R=1:=(by omega);have x5:¬R=2:=(by omega);have x6:¬D=5:=(by omega);have x7:¬R=5:=(by omega);with_reducible refine aA ?_;refine aR fun K' hK=> ?_
        simp[s6,s7,s8,g8,g1,g2];refine hK _ _ _ ?_;clear K' hK;refine aw_ret ?_;refine blockK_ret ?_;refine roundK_ret (by simp[g5]) ?_;exact k2 hv _ _ D R (by omega) (by omega) (by omega) (by simp) (by simp) (by simp[x2,x3,x6,gd]) (by simp[x4,x5,x7,gR]) (by simp)
   ·skip;with_reducible refine aR fun K' hK=> ?_
    simp[t5,n0,g0,hv,n5'];refine hK _ _ _ ?_;clear K' hK;with_reducible refine aVk (by simp) ?_;refine aw_skipL ?_
    refine blockK_normal ?_;refine aw_skipL ?_;refine roundK_normal (by simp) ?_;exact k1 hv _ _ (by omega) (fun k hk=>by repeat rw[Hp.upd_ne _ _ (by omega)]) (by simp)
  with_reducible refine aR fun K' hK=> ?_
  simp[g3];refine hK _ _ _ ?_;clear K' hK;with_reducible refine aw_toS (aw_block ?_)
  refine aw_loop (fun t' G' nx'=>6≤nx'∧t' 0=.yl 5∧t' 1=.ptr 3 0∧t' 2=.ptr 4 0∧t' 6=rowT Man.cells Lm∧t' 7=iV Lm.length∧G' 0=some (.var 23 v.cells)∧G' 1=some (.var 27 manN)∧G' 2=some (.var 4 [bV false])∧G' 4=some (.var 9 [sV n])∧G' 5=some (L.o .ready none)∧∃i:Nat,t' 8=iV i∧i≤Lm.length∧findM Lm n v=findM (Lm.drop i) n v) (fun s _ _=>match s 8 with | .v (.int _ n)=>Lm.length-n.toNat | _=>0) ?_ ?_
  ·refine⟨by omega,by simp,by simp,by simp,by simp,by simp,by simp[g0],by simp[g1],by simp[g2],by simp[g4],by simp,0,by simp,by omega,by simp⟩
  ·rintro t' G' nx'-⟨hnx,u0,u1,u2,u6,u7,h0,h1,h2,h4,h5,i,u8,hi,ht⟩;have hw:IntKind.i64.wrap (↑i+1)=((i+1:Nat):Int):=wrapS (by omega);have n0:¬0=nx':=(by omega);have n1:¬1=nx':=(by omega);have n2:¬2=nx':=(by omega);have n4:¬4=nx':=(by omega);have n5:¬5=nx':=(by omega);with_reducible refine aR fun K' hK=> ?_
   simp[u7,u8];refine hK _ _ _ ?_;clear K' hK;with_reducible refine aC fun A B hA hB=> ?_
   simp;refine⟨fun hi2=>hA ?_,fun hi2=>hB ?_⟩<;>clear hA hB A B<;>(try simp at hi2)<;>(try with_reducible refine aK ?_)
   ·have hmm:=hm _ (nth_mem hi2);have hstep:=findM_drop (n:=n) (v:=v) hi2;generalize hgm:nth Lm i=m at*;with_reducible refine aw_block ?_;refine aR fun K' hK=> ?_
    simp[u6,u8,hi2,hgm];refine hK _ _ _ ?_;clear K' hK;by_cases hn:m.name=n
    ·skip;with_reducible refine aR fun K' hK=> ?_
     simp[u0,u2,n4,h4,hn];refine⟨⟨_,_,_,_,_,_,_,show _=some (L.o .ready none) by simp[n5,h5]⟩,hround m _ _ _ hmm (by omega) (by simp[n0,h0]) (by simp[n1,h1]) (by simp[n2,h2]) (by simp[n5,h5]) (fun hv G2 ny hny hG h5'=> ?_) (fun hv G2 ny a b ha hb hab k1 k2 ka kb k5=> ?_)⟩
     ·simp;refine hK _ _ _ ?_;clear K' hK;with_reducible refine aVk (by simp) ?_;refine aw_skipL ?_
      refine blockK_normal ?_;with_reducible refine aS fun K' hK=> ?_
      simp[u8,hw];refine hK _ _ _ ?_;clear K' hK;refine aw_skipL (loopK_normal ?_ ?_)
      ·exact⟨by omega,by simp[u0],by simp[u1],by simp[u2],by simp[u6],by simp[u7],by rw[hG 0 (by omega)];simp[n0,h0],by rw[hG 1 (by omega)];simp[n1,h1],by rw[hG 2 (by omega)];simp[n2,h2],by rw[hG 4 (by omega)];simp[n4,h4],h5',i+1,by simp[hw],by omega,by rw[ht,hstep,if_neg (by simp[hitM,hv])]⟩
      ·simp[u8,hw];omega
     ·simp;refine hK _ _ _ ?_;clear K' hK;with_reducible refine aU (by simp) ?_
      refine aw_ret ?_;refine blockK_ret ?_;refine loopK_ret ?_;refine blockK_ret ?_;refine rangeK_ret (.inr rfl) k5 ?_;rw[hLs];refine blockK_ret ?_;have x1:¬a=5:=(by omega);have x2:¬b=5:=(by omega);have x3:¬b=a:=fun e=>hab e.symm;have hfm:findM Lm n v=some m:=(by rw[ht,hstep,if_pos (by simp[hitM,hn,hv])]);rw[hfm];simp[Post,resA,res1,Tryz.f76,t6,t7,k1,k2,manR];refine⟨[a,b],?_,rfl,?_⟩
      ·simp[Man.cellsR,expT,expM,expA,expL,exp1,x1,x2,x3,ka,kb]
      ·simp[rowOf,x1,x2,ka,kb]
    ·skip;with_reducible refine aR fun K' hK=> ?_
     simp[u2,n4,h4,hn];refine hK _ _ _ ?_;clear K' hK;with_reducible refine aVk (by simp) ?_;refine aw_skipL ?_
     refine blockK_normal ?_;with_reducible refine aS fun K' hK=> ?_
     simp[u8,hw];refine hK _ _ _ ?_;clear K' hK;refine aw_skipL (loopK_normal ?_ ?_)
     ·exact⟨by omega,by simp[u0],by simp[u1],by simp[u2],by simp[u6],by simp[u7],by simp[n0,h0],by simp[n1,h1],by simp[n2,h2],by simp[n4,h4],by simp[n5,h5],i+1,by simp[hw],by omega,by rw[ht,hstep,if_neg (by simp[hitM,hn])]⟩
     ·simp[u8,hw];omega
   ·skip;with_reducible refine aw_exit ?_
    refine loopK_exit (blockK_exit ?_);refine aw_skipL (rangeK_on (.inl rfl) (by simp[h5]) ?_);rw[hLs];refine blockK_normal ?_;have hfm:findM Lm n v=none:=(by rw[ht,List.drop_of_length_le (by omega)];rfl);rw[hfm];with_reducible refine aR fun K' hK=> ?_
    simp[t6,t7,h1,h2];refine hK _ _ _ ?_;clear K' hK;with_reducible refine aw_retL ?_
    simp[blockK,loopK,Post,resA,res1,expT,expA,exp1,expM,expL,okT,okA,ok1,rowOf,Tryz.f76,t6,t7,manR]
 ·cases findM Lm n v<;>rfl
set_option maxRecDepth 100000
set_option maxHeartbeats 4000000
@[simp] theorem manR_shift (m:Man) (a n b k d:Nat):List.map (shift1 d) (m.cellsR (.row a n) (.row b k))=m.cellsR (.row (a+d) n) (.row (b+d) k):=rfl
theorem addJ_two (G:Hp) (nx:Nat) (p q:TypeId×List AV):addJ G nx [p,q]=(G.upd nx (.row p.1 p.2)).upd (nx+1) (.row q.1 q.2):=by
 funext i;simp only[addJ,Hp.upd,List.length_cons,List.length_nil];by_cases h1:i=nx+1
 ·subst h1;rw[if_pos (by omega),if_pos rfl,show nx+1-nx=1 by omega];rfl
 ·by_cases h:i=nx
  ·subst h;rw[if_pos (by omega),if_neg h1,if_pos rfl,Nat.sub_self];rfl
  ·rw[if_neg (by omega),if_neg h1,if_neg h]
theorem manR_end {P:Program} {G:Hp} {a b:Nat} {m:Man} (ok:Bool) (hab:a≠b) (ka:G a=some (.row 35 (flat Dep.cells m.deps))) (kb:G b=some (.row 96 (flat Ru.cells m.rules))):
  ∃x,expT P G (AV.tup [AV.agg (m.cellsR (AV.row a m.deps.length) (AV.row b m.rules.length)),bV ok])=some (AV.tup [AV.agg (m.cellsR (AV.row 0 m.deps.length) (AV.row 1 m.rules.length)),bV ok],x)∧
   okT (AV.tup [AV.agg (m.cellsR (AV.row 0 m.deps.length) (AV.row 1 m.rules.length)),bV ok])=true∧[(35,flat Dep.cells m.deps),(96,flat Ru.cells m.rules)]=List.map (rowOf G) x:=by
 have hba:¬b=a:=fun e=>hab e.symm;refine⟨[a,b],?_,rfl,?_⟩
 ·simp[Man.cellsR,expT,expM,expA,expL,exp1,hba,ka,kb]
 ·simp[rowOf,ka,kb]
def manVal (root:Man) (L:List Man) (t:List Pl) (i:Int):Option Man:=if holdsF t i=true then(if i=0 then some root else findM L (nth t i.toNat).name (nth t i.toNat).ver)else none
theorem manVal_ok (root:Man) (hr:Man.okS root) (L:List Man) (hl:L.length≤1000000000) (hm:∀m∈L,Man.okS m) (t:List Pl) (ht:OKs t) (i:Int):CallsOK Tryz.prog 24 [.agg root.cells,rowT Man.cells L,rowT Pl.cells t,iV i] (manR (manVal root L t i)).1 (manR (manVal root L t i)).2:=by
 have htl:=ht.1;refine callsOK mixed Tryz.call24 Tryz.func24 rfl (by rw[Tryz.ntmps24];simp) ?_ ?_
 ·rw[Tryz.ntmps24];with_reducible refine aR fun K' hK=> ?_
  simp;refine hK _ _ _ ?_;clear K' hK;with_reducible refine aw_block ?_;refine aR fun K' hK=> ?_
  simp;refine acall_flat (check18_ok t ht) rfl (by simp) ?_;by_cases hh:holdsF t i=true
  ·obtain⟨hc,h0,h1⟩:=holdsF_inv hh;have h0':¬i<0:=(by omega);have h1':¬(t.length:Int)≤i:=(by omega);simp[hc,h0',h1'];refine hK _ _ _ ?_;clear K' hK;with_reducible refine aV (by simp) ?_
   by_cases hz:i=0
   ·with_reducible refine aA ?_;refine aR fun K' hK=> ?_
    simp[hz];refine hK _ _ _ ?_;clear K' hK;with_reducible refine aX (by simp) ?_
    have hv:manVal root L t i=some root:=(by rw[manVal,if_pos hh,if_pos hz]);rw[hv];with_reducible refine aA ?_;refine aR fun K' hK=> ?_
    simp;refine acall_new (own75_ok root hr) (by simp) ?_;simp[addJ_two];refine hK _ _ _ ?_;clear K' hK;with_reducible refine aw_ret ?_
    simp[blockK,loopK,Post,resA,res1,Tryz.f24,manR];exact manR_end true (by omega) (by simp) (by simp)
   ·with_reducible refine aA ?_;refine aR fun K' hK=> ?_
    simp[hz];refine hK _ _ _ ?_;clear K' hK;with_reducible refine aYk (by simp[hz]) ?_;refine aw_skipL ?_
    refine blockK_normal ?_;have hin:i.toNat<t.length:=(by omega);have hcast:((i.toNat:Nat):Int)=i:=(by omega);have hv:manVal root L t i=findM L (nth t i.toNat).name (nth t i.toNat).ver:=(by rw[manVal,if_pos hh,if_neg hz]);have hfind:=find76_ok L hl hm (nth t i.toNat).name (nth t i.toNat).ver;rw[hv];generalize findM L (nth t i.toNat).name (nth t i.toNat).ver=r at*;generalize hj:i.toNat=j at*;cases r with
    | none=>
     with_reducible refine aQ fun K' hK=> ?_
     simp[h0,h1,hin,hj];refine acall_new hfind (by simp) ?_;simp[manR,addJ_nil];refine hK _ _ _ ?_;clear K' hK;with_reducible refine aw_retL ?_
     simp[blockK,loopK,Post,resA,res1,expT,expA,exp1,expM,expL,okT,okA,ok1,rowOf,Tryz.f24,manR]
    | some m=>
     with_reducible refine aQ fun K' hK=> ?_
     simp[h0,h1,hin,hj];refine acall_new hfind (by simp) ?_;simp[manR,addJ_two];refine hK _ _ _ ?_;clear K' hK;with_reducible refine aw_retL ?_
     simp[blockK,loopK,Post,resA,res1,Tryz.f24,manR];exact manR_end true (by omega) (by simp) (by simp)
  ·have hv:manVal root L t i=none:=(by rw[manVal,if_neg hh]);by_cases hc:checkN t=0
   ·by_cases h0:i<0
    ·simp[hc,h0];refine hK _ _ _ ?_;clear K' hK;rw[hv];with_reducible refine aU (by simp) ?_;refine aA ?_;refine aR fun K' hK=> ?_
     simp;refine hK _ _ _ ?_;clear K' hK;with_reducible refine aw_ret ?_
     simp[blockK,loopK,Post,resA,res1,expT,expA,exp1,expM,expL,okT,okA,ok1,rowOf,Tryz.f24,manR]
    ·have h1:(t.length:Int)≤i:=by
      rcases Int.lt_or_le i t.length with h | h
      ·exact absurd (by simp[holdsF,hc,h];omega) hh
      ·exact h
     simp[hc,h0,h1];refine hK _ _ _ ?_;clear K' hK;rw[hv];with_reducible refine aU (by simp) ?_;refine aA ?_;refine aR fun K' hK=> ?_
     simp;refine hK _ _ _ ?_;clear K' hK;with_reducible refine aw_ret ?_
     simp[blockK,loopK,Post,resA,res1,expT,expA,exp1,expM,expL,okT,okA,ok1,rowOf,Tryz.f24,manR]
   ·simp[hc];refine hK _ _ _ ?_;clear K' hK;rw[hv];with_reducible refine aU (by simp) ?_;refine aA ?_;refine aR fun K' hK=> ?_
    simp;refine hK _ _ _ ?_;clear K' hK;with_reducible refine aw_ret ?_
    simp[blockK,loopK,Post,resA,res1,expT,expA,exp1,expM,expL,okT,okA,ok1,rowOf,Tryz.f24,manR]
 ·cases manVal root L t i<;>rfl
def toN (t:List Pl) (i:Int) (d:Dep):Int:=if i<0∨(t.length:Int)≤i then-1 else resolveN t (if d.kind=4∧0<i then(nth t i.toNat).par else i) d.name
theorem to28_ok (t:List Pl) (ht:OKs t) (i:Int) (d:Dep):CallsOK Tryz.prog 28 [rowT Pl.cells t,iV i,.agg d.cells] (iV (toN t i d)) []:=by
 have htl:=ht.1;refine callsOK mixed Tryz.call28 Tryz.func28 rfl (by rw[Tryz.ntmps28];simp) ?_ rfl;rw[Tryz.ntmps28];with_reducible refine aR fun K' hK=> ?_
 simp;refine hK _ _ _ ?_;clear K' hK;by_cases h0:i<0
 ·with_reducible refine aA ?_;refine aR fun K' hK=> ?_
  simp[h0];refine hK _ _ _ ?_;clear K' hK;with_reducible refine aX (by simp) ?_;refine aA ?_;refine aR fun K' hK=> ?_
  simp;refine hK _ _ _ ?_;clear K' hK;with_reducible refine aw_ret ?_
  simp[blockK,loopK,Post,resA,res1,expT,expA,exp1,expM,expL,okT,okA,ok1,rowOf,Tryz.f28];rw[toN,if_pos (.inl h0)]
 ·by_cases h1:(t.length:Int)≤i
  ·with_reducible refine aA ?_;refine aR fun K' hK=> ?_
   simp[h0,h1];refine hK _ _ _ ?_;clear K' hK;with_reducible refine aX (by simp) ?_;refine aA ?_;refine aR fun K' hK=> ?_
   simp;refine hK _ _ _ ?_;clear K' hK;with_reducible refine aw_ret ?_
   simp[blockK,loopK,Post,resA,res1,expT,expA,exp1,expM,expL,okT,okA,ok1,rowOf,Tryz.f28];rw[toN,if_pos (.inr h1)]
  ·with_reducible refine aA ?_;refine aR fun K' hK=> ?_
   simp[h0,h1];refine hK _ _ _ ?_;clear K' hK;with_reducible refine aYk (by simp) ?_
   have hno:¬(i<0∨(t.length:Int)≤i):=(by omega);have hin:i.toNat<t.length:=(by omega);have h0':0≤i:=(by omega);have h1':i<(t.length:Int):=(by omega);have hv:toN t i d=resolveN t (if d.kind=4∧0<i then(nth t i.toNat).par else i) d.name:=(by rw[toN,if_neg hno]);rw[hv];generalize hj:i.toNat=j at*;by_cases c:d.kind=4
   ·by_cases c2:0<i
    ·with_reducible refine aA ?_;refine aR fun K' hK=> ?_
     simp[c,c2];refine hK _ _ _ ?_;clear K' hK;with_reducible refine aX (by simp[c,c2]) ?_;refine aR fun K' hK=> ?_
     simp[c,c2,h0',h1',hin,hj];refine hK _ _ _ ?_;clear K' hK;with_reducible refine aR fun K' hK=> ?_
     simp;refine acall_flat (resolve19_ok t ht (nth t j).par d.name) rfl (by simp) ?_;simp;refine hK _ _ _ ?_;clear K' hK;with_reducible refine aw_retL ?_
     simp[blockK,loopK,Post,resA,res1,expT,expA,exp1,expM,expL,okT,okA,ok1,rowOf,Tryz.f28,c,c2]
    ·with_reducible refine aA ?_;refine aR fun K' hK=> ?_
     simp[c,c2];refine hK _ _ _ ?_;clear K' hK;with_reducible refine aYk (by simp[c,c2]) ?_;refine aR fun K' hK=> ?_
     simp;refine acall_flat (resolve19_ok t ht i d.name) rfl (by simp) ?_;simp;refine hK _ _ _ ?_;clear K' hK;with_reducible refine aw_retL ?_
     simp[blockK,loopK,Post,resA,res1,expT,expA,exp1,expM,expL,okT,okA,ok1,rowOf,Tryz.f28,c,c2]
   ·with_reducible refine aA ?_;refine aR fun K' hK=> ?_
    simp[c];refine hK _ _ _ ?_;clear K' hK;with_reducible refine aYk (by simp[c]) ?_;refine aR fun K' hK=> ?_
    simp;refine acall_flat (resolve19_ok t ht i d.name) rfl (by simp) ?_;simp;refine hK _ _ _ ?_;clear K' hK;with_reducible refine aw_retL ?_
    simp[blockK,loopK,Post,resA,res1,expT,expA,exp1,expM,expL,okT,okA,ok1,rowOf,Tryz.f28,c]
theorem resN_lt (t:List Pl) (i:Int) (name:Bs):resolveN t i name<t.length:=by
 have:∀l:List Nat,resL t name l<t.length:=by
  intro l;induction l with
  | nil=>simp only[resL];omega
  | cons j l ih=>
   simp only[resL];cases h:chF t j name with
   | none=>exact ih
   | some k=>
    have:=(List.findIdx?_eq_some_iff_getElem.1 h).1;show(k:Int)<_;omega
 unfold resolveN;split
 ·exact this _
 ·omega
theorem toN_lt (t:List Pl) (i:Int) (d:Dep):toN t i d<t.length:=by
 unfold toN;split
 ·omega
 ·exact resN_lt _ _ _
def holdsV (t:List Pl) (i:Int) (d:Dep):Bool:=if holdsF t i=true then(if toN t i d<0 then decide (d.kind=3)else rgHolds (nth t (toN t i d).toNat).ver d.range)else false
theorem holds30_ok (t:List Pl) (ht:OKs t) (hv:∀p∈t,p.ver.pre.size≤1000000) (i:Int) (d:Dep) (hd:Rg.sz d.range):CallsOK Tryz.prog 30 [rowT Pl.cells t,iV i,.agg d.cells] (bV (holdsV t i d)) []:=by
 have htl:=ht.1;refine callsOK mixed Tryz.call30 Tryz.func30 rfl (by rw[Tryz.ntmps30];simp) ?_ rfl;rw[Tryz.ntmps30];with_reducible refine aR fun K' hK=> ?_
 simp;refine hK _ _ _ ?_;clear K' hK;with_reducible refine aA ?_;refine aR fun K' hK=> ?_
 simp;refine acall_flat (check18_ok t ht) rfl (by simp) ?_;by_cases hh:holdsF t i=true
 ·obtain⟨hc,h0,h1⟩:=holdsF_inv hh;have h0':¬i<0:=(by omega);have h1':¬(t.length:Int)≤i:=(by omega);simp[hc,h0',h1'];refine hK _ _ _ ?_;clear K' hK;with_reducible refine aYk (by simp) ?_;refine aR fun K' hK=> ?_
  simp;refine acall_flat (to28_ok t ht i d) rfl (by simp) ?_;simp;refine hK _ _ _ ?_;clear K' hK;have hlt:=toN_lt t i d;have hdef:holdsV t i d=if toN t i d<0 then decide (d.kind=3)else rgHolds (nth t (toN t i d).toNat).ver d.range:=(by rw[holdsV,if_pos hh]);generalize toN t i d=k at*;by_cases hk:k<0
  ·with_reducible refine aA ?_;refine aR fun K' hK=> ?_
   simp[hk];refine hK _ _ _ ?_;clear K' hK;with_reducible refine aX (by simp) ?_;refine aA ?_;refine aR fun K' hK=> ?_
   simp;refine acall_flat (needs17_ok d) rfl (by simp) ?_;simp;refine hK _ _ _ ?_;clear K' hK;with_reducible refine aw_ret ?_
   simp[blockK,loopK,Post,resA,res1,expT,expA,exp1,expM,expL,okT,okA,ok1,rowOf,Tryz.f30];rw[hdef,if_pos hk]
  ·have hk0:0≤k:=(by omega);have hin:k.toNat<t.length:=(by omega);rw[if_neg hk]at hdef;with_reducible refine aA ?_;refine aR fun K' hK=> ?_
   simp[hk];refine hK _ _ _ ?_;clear K' hK;with_reducible refine aYk (by simp) ?_
   generalize hj:k.toNat=j at*;with_reducible refine aQ fun K' hK=> ?_
   simp[hk0,hlt,hin,hj];refine acall_flat (holds84_ok d.range (nth t j).ver hd (hv _ (nth_mem hin))) rfl (by simp[Rg.cells]) ?_;simp;refine hK _ _ _ ?_;clear K' hK;with_reducible refine aw_retL ?_
   simp[blockK,loopK,Post,resA,res1,expT,expA,exp1,expM,expL,okT,okA,ok1,rowOf,Tryz.f30];exact hdef.symm
 ·have hdef:holdsV t i d=false:=(by rw[holdsV,if_neg hh]);by_cases hc:checkN t=0
  ·by_cases h0:i<0
   ·simp[hc,h0];refine hK _ _ _ ?_;clear K' hK;with_reducible refine aX (by simp) ?_;refine aA ?_;refine aR fun K' hK=> ?_
    simp;refine hK _ _ _ ?_;clear K' hK;with_reducible refine aw_ret ?_
    simp[blockK,loopK,Post,resA,res1,expT,expA,exp1,expM,expL,okT,okA,ok1,rowOf,Tryz.f30];exact hdef
   ·have h1:(t.length:Int)≤i:=by
     rcases Int.lt_or_le i t.length with h | h
     ·exact absurd (by simp[holdsF,hc,h];omega) hh
     ·exact h
    simp[hc,h0,h1];refine hK _ _ _ ?_;clear K' hK;with_reducible refine aX (by simp) ?_;refine aA ?_;refine aR fun K' hK=> ?_
    simp;refine hK _ _ _ ?_;clear K' hK;with_reducible refine aw_ret ?_
    simp[blockK,loopK,Post,resA,res1,expT,expA,exp1,expM,expL,okT,okA,ok1,rowOf,Tryz.f30];exact hdef
  ·simp[hc];refine hK _ _ _ ?_;clear K' hK;with_reducible refine aX (by simp) ?_;refine aA ?_;refine aR fun K' hK=> ?_
   simp;refine hK _ _ _ ?_;clear K' hK;with_reducible refine aw_ret ?_
   simp[blockK,loopK,Post,resA,res1,expT,expA,exp1,expM,expL,okT,okA,ok1,rowOf,Tryz.f30];exact hdef
end Go.Proofs.YtgipehooceecpaaGreatDoorAbs
