/- valid.Manifest, To, Holds. -/
import Derived.Test.YtmmbgjmigmchbaaGreatDoorNg6
import Derived.Test.YtmmbgjmigmchbaaGreatDoorNg3
import Derived.Shelf.SlIter.Nil
import Derived.Shelf.SortM.Plain
import Derived.Shelf.SortM.SortNone
import Derived.Ground.GgzProg
import Derived.Ground.SlgmProg
import Derived.Test.YtmmbgjmigmchbaaGreatDoorProg
import Derived.Test.YtmmbgjmigmchbaaGreatDoorNg2
import Derived.Sort.Walk0
import Derived.Sort.KeysCollected
namespace Go.Proofs.YtmmbgjmigmchbaaGreatDoorAbs
set_option linter.unusedSimpArgs false
set_option linter.unusedVariables false
open Go Go.RowKit Go.Proofs
set_option maxRecDepth 100000
set_option maxHeartbeats 400000
theorem Uh {P:Program} [Gl P] {f:FuncId} {xs vs:List Value} {e:TypeId} (hent:∀args w,(callFunc f args).run P w=.ok (.enter f args) w) (hv:∀v∈vs,v.oneCell'=true)
  (hc:P.cellsOf e=1) (hne:vs≠[]) (hmax:vs.length≤1000000000)
  (h:∀w,Gl.ok P w→Calls P f xs.toArray w fun r w'=>r=.returned (.slice (some ⟨w.heap.size,0,none⟩) vs.length vs.length)∧w'=w.alloc (.cells vs.toArray e)):CallsOK P f (xs.map .v) (.row 0 vs.length) [(e,vs.map .v)]:=by
 refine⟨rfl,hent,fun w us F hF hΓ hx=> ?_⟩;rw[NZ hx];refine(h w (hΓ w (ExtC.refl _ _))).mono ?_;rintro r w' ⟨rfl,rfl⟩;have hb:Below w.heap.size w (w.alloc (.cells vs.toArray e)):=(Below.refl _ w).alloc (Nat.le_refl _) _;have hcur:(w.alloc (.cells vs.toArray e)).heap[w.heap.size]? =some (.cells vs.toArray e):=World.alloc_heap_new _ _;have hA:=Rel.app (w':=w.alloc (.cells vs.toArray e)) (G:=fun _=>none) (nx:=0) (e:=e) (all:=vs.map .v) (zX hF hΓ) rfl (id:=none) (b:=some w.heap.size) (fun j hj=>by cases hj) (fun x hx=>by injection hx with hx;exact .inl (Nat.le_of_eq hx)) (Ext.of_below _ hb) (fun x hx _=>hb.block x hx)
  (fun x hx=>by injection hx with hx;subst hx;exact(Array.getElem?_eq_some_iff.1 hcur).1) (fun x hx=>by
   injection hx with hx;subst hx;refine⟨vs,hcur,by simp,fun i a u ha hu=> ?_⟩;rw[List.getElem?_map,hu]at ha;injection ha with ha;subst ha;exact .v (hv u (List.mem_of_getElem? hu))) (fun h=>by cases h)
 have hJ:ofJ [(e,vs.map AV.v)]=((lI (fun _=>none) none).upd 0 (.row e (vs.map .v)):Hp):=by
  funext i;cases i with
  | zero=>rfl
  | succ i=>simp[ofJ,Hp.upd,lI]
 refine⟨_,(En.zero F).app 0 none (some w.heap.size),rfl,?_,by rw[hJ];exact hA.1,rfl,hb,fun i b h=> ?_⟩
 ·refine .row (show((En.zero F).app 0 none (some w.heap.size)).K 0 from .inl rfl) rfl (fun b hb=> ?_) (fun hN=> ?_)
  ·have e0:((En.zero F).app 0 none (some w.heap.size)).o 0=0:=(by simp[En.app]);rw[e0];simp[En.app]at hb;subst hb;exact⟨vs.length,e,_,rfl,by omega,by simp only[maxLen];omega,by rw[World.shape?,hcur];simp[hc],fun _=>rfl⟩
  ·simp[En.app]at hN
 ·simp[En.app,En.zero]at h;omega
theorem xk (a:Int):CallsOK Tryz.prog 182 [iV a] (bV false) []:=by
 refine aN mixed Tryz.call182 Tryz.func182 rfl (by rw[Tryz.ntmps182];simp) ?_ rfl;rw[Tryz.ntmps182];refine aR fun K' hK=> ?_
 simp;apply hK;clear K' hK;refine aR fun K' hK=> ?_
 simp;apply hK;clear K' hK;apply aF
 simp[au,aG,Post,aW,res1,bF,bC,aP,bg,bf,okT,okA,ok1,rowOf,Tryz.f182]
theorem vV (a b:Int):CallsOK Tryz.prog 146 [iV a,iV b] (iV (gB a b)) []:=by
 refine aN mixed Tryz.call146 Tryz.func146 rfl (by rw[Tryz.ntmps146];simp) ?_ rfl;rw[Tryz.ntmps146];refine aR fun K' hK=> ?_
 simp;apply hK;clear K' hK;refine aR fun K' hK=> ?_
 simp;refine ak (xk a) rfl (by simp) ?_;simp;apply hK;clear K' hK;refine aR fun K' hK=> ?_
 simp;refine ak (xk b) rfl (by simp) ?_;simp;apply hK;clear K' hK;apply aA;refine aR fun K' hK=> ?_
 simp;apply hK;clear K' hK;refine aYk (by simp) ?_;apply aA;refine aR fun K' hK=> ?_
 simp;apply hK;clear K' hK;refine aYk (by simp) ?_;apply aA;refine aR fun K' hK=> ?_
 simp;apply hK;clear K' hK;refine aC fun A B hA hB=> ?_
 simp;refine⟨fun h1=>hA ?_,fun h1=>hB ?_⟩<;>clear hA hB A B<;>(try simp at h1)<;>(try with_reducible refine aK ?_)
 ·refine aA ?_;refine aR fun K' hK=> ?_
  simp;apply hK;clear K' hK;apply aJ
  simp[au,aG,Post,aW,res1,bF,bC,aP,bg,bf,okT,okA,ok1,rowOf,Tryz.f146];simp[gB,h1]
 ·refine aA ?_;refine aR fun K' hK=> ?_
  simp;apply hK;clear K' hK;refine aC fun A B hA hB=> ?_
  simp;refine⟨fun h2=>hA ?_,fun h2=>hB ?_⟩<;>clear hA hB A B<;>(try simp at h2)<;>(try with_reducible refine aK ?_)
  ·refine aA ?_;refine aR fun K' hK=> ?_
   simp;apply hK;clear K' hK;apply aJ
   simp[au,aG,Post,aW,res1,bF,bC,aP,bg,bf,okT,okA,ok1,rowOf,Tryz.f146];simp[gB,h1,h2]
  ·skip;refine aR fun K' hK=> ?_
   simp;apply hK;clear K' hK;apply aF
   simp[au,aG,Post,aW,res1,bF,bC,aP,bg,bf,okT,okA,ok1,rowOf,Tryz.f146];simp only[gB];rw[if_neg (by omega),if_neg (by omega)]
theorem wY (a:Bs):CallsOK Tryz.prog 145 [sV a] (bV false) []:=by
 refine aN mixed Tryz.call145 Tryz.func145 rfl (by rw[Tryz.ntmps145];simp) ?_ rfl;rw[Tryz.ntmps145];refine aR fun K' hK=> ?_
 simp;apply hK;clear K' hK;refine aR fun K' hK=> ?_
 simp;apply hK;clear K' hK;apply aF
 simp[au,aG,Post,aW,res1,bF,bC,aP,bg,bf,okT,okA,ok1,rowOf,Tryz.f145]
theorem Ei (a b:Bs):CallsOK Tryz.prog 102 [sV a,sV b] (iV (lX a b)) []:=by
 refine aN mixed Tryz.call102 Tryz.func102 rfl (by rw[Tryz.ntmps102];simp) ?_ rfl;rw[Tryz.ntmps102];refine aR fun K' hK=> ?_
 simp;apply hK;clear K' hK;refine aR fun K' hK=> ?_
 simp;refine ak (wY a) rfl (by simp) ?_;simp;apply hK;clear K' hK;refine aR fun K' hK=> ?_
 simp;refine ak (wY b) rfl (by simp) ?_;simp;apply hK;clear K' hK;apply aA;refine aR fun K' hK=> ?_
 simp;apply hK;clear K' hK;refine aYk (by simp) ?_;apply aA;refine aR fun K' hK=> ?_
 simp;apply hK;clear K' hK;refine aYk (by simp) ?_;apply aA;refine aR fun K' hK=> ?_
 simp;apply hK;clear K' hK;refine aC fun A B hA hB=> ?_
 simp;refine⟨fun h1=>hA ?_,fun h1=>hB ?_⟩<;>clear hA hB A B<;>(try simp at h1)<;>(try with_reducible refine aK ?_)
 ·refine aA ?_;refine aR fun K' hK=> ?_
  simp;apply hK;clear K' hK;apply aJ
  simp[au,aG,Post,aW,res1,bF,bC,aP,bg,bf,okT,okA,ok1,rowOf,Tryz.f102];simp[lX,h1]
 ·refine aA ?_;refine aR fun K' hK=> ?_
  simp;apply hK;clear K' hK;refine aC fun A B hA hB=> ?_
  simp;refine⟨fun h2=>hA ?_,fun h2=>hB ?_⟩<;>clear hA hB A B<;>(try simp at h2)<;>(try with_reducible refine aK ?_)
  ·refine aA ?_;refine aR fun K' hK=> ?_
   simp;apply hK;clear K' hK;apply aJ
   simp[au,aG,Post,aW,res1,bF,bC,aP,bg,bf,okT,okA,ok1,rowOf,Tryz.f102];simp[lX,h1,h2]
  ·skip;refine aR fun K' hK=> ?_
   simp;apply hK;clear K' hK;apply aF
   simp[au,aG,Post,aW,res1,bF,bC,aP,bg,bf,okT,okA,ok1,rowOf,Tryz.f102];simp[lX,h1,h2]
theorem Ug:∀(k:Nat) (l:List UInt8),l.count 46≤k→(spl l).length=l.count 46+1∧Lib.count l [46]=l.count 46
 | k,l,h=>by
  by_cases hm:(46:UInt8)∈l
  ·obtain⟨a,r,h1,rfl⟩:=qV hm;have hc:(a++46::r).count 46=r.count 46+1:=by
    rw[List.count_append,List.count_eq_zero_of_not_mem h1,List.count_cons_self];omega
   match k,h with
   | 0,h=>omega
   | k+1,h=>
    obtain⟨i1,i2⟩:=Ug k r (by omega);have hi:Lib.index (a++46::r) [46]=a.length:=(by rw[Lib.index_one,EZ h1]);rw[Lib.count_hit (by simp) hi,BU h1,List.length_singleton,show(a++46::r).drop (a.length+1)=r by simp,i2,hc,List.length_cons,i1];omega
  ·have hc:l.count 46=0:=List.count_eq_zero_of_not_mem hm;have hi:Lib.index l [46]= -1:=(by rw[Lib.index_one,wK hm]);rw[Lib.count_miss hi,sJ hm,hc];simp
theorem split_ok (s:Bs) (hs:s.size≤1000000):CallsOK Tryz.prog 148 [sV s,sV ⟨#[46]⟩] (.row 0 (strs (spl (bsL s))).length) [(9,flat sC (strs (spl (bsL s))))]:=by
 have e0:(Lib.splitB ⟨#[46]⟩ 0 (Lib.countB s ⟨#[46]⟩) s).map bsL=spl (bsL s):=by
  have:=Lib.splitB_data ⟨#[46]⟩ 0 (Lib.countB s ⟨#[46]⟩) s;rw[show(fun x:ByteArray=>x.data.toList)=bsL from rfl]at this;rw[this];refine Hz _ _ ?_;exact Nat.le_of_eq (Ug _ _ (Nat.le_refl _)).2.symm
 have e1:strs (spl (bsL s))=Lib.splitB ⟨#[46]⟩ 0 (Lib.countB s ⟨#[46]⟩) s:=by
  rw[←e0,strs,List.map_map]
  conv=>rhs;rw[←List.map_id (Lib.splitB _ _ _ _)]
  exact List.map_congr_left fun x _=>RJ x
 have hlen:Lib.countB s ⟨#[46]⟩+1=(strs (spl (bsL s))).length:=by
  have h:=Ug _ (bsL s) (Nat.le_refl _);rw[strs,List.length_map,h.1];exact congrArg (· +1) h.2
 have hl:(strs (spl (bsL s))).length≤s.size+1:=by
  have h1:=(Ug _ (bsL s) (Nat.le_refl _)).1;have h2:=List.count_le_length (a:=(46:UInt8)) (l:=bsL s);rw[gy]at h2;simp only[strs,List.length_map];omega
 have h:=Uh (f:=148) (xs:=[.string s,.string ⟨#[46]⟩]) (vs:=(strs (spl (bsL s))).map Value.string) (e:=9) Tryz.call148 (by simp[Value.oneCell']) (by kernel_rfl) (by simp[←List.length_pos_iff];omega) (by simp;omega) fun w hw=>by
  obtain⟨m,hm⟩:=hw.2.2.2.1;refine(Tryz.strings_Split s ⟨#[46]⟩ m w (by omega) hm (by decide)).mono ?_;rintro e w' ⟨rfl,rfl⟩;rw[←e1,hlen];simp
 have e2:((strs (spl (bsL s))).map Value.string).map AV.v=flat sC (strs (spl (bsL s))):=by
  unfold flat;generalize strs (spl (bsL s))=L;induction L with
  | nil=>rfl
  | cons a L ih=>rw[List.map_cons,List.map_cons,List.flatMap_cons,ih];rfl
 rw[e2,List.length_map]at h;exact h
theorem OA (a b:Bs) (ha:a.size≤4000000000) (hb:b.size≤4000000000):CallsOK Tryz.prog 149 [sV a,sV b] (iV (fZ a b)) []:=by
 refine aN mixed Tryz.call149 Tryz.func149 rfl (by rw[Tryz.ntmps149];simp) ?_ rfl;rw[Tryz.ntmps149];refine aR fun K' hK=> ?_
 simp;apply hK;clear K' hK;refine aR fun K' hK=> ?_
 simp;refine ak (pO a ha) rfl (by simp) ?_;simp;apply hK;clear K' hK;refine aR fun K' hK=> ?_
 simp;refine ak (pO b hb) rfl (by simp) ?_;simp;apply hK;clear K' hK;apply aB
 by_cases h1:kH (bsL a)=true
 ·by_cases h2:kH (bsL b)=true
  ·skip;refine aR fun K' hK=> ?_
   simp[h1,h2];apply hK;clear K' hK;refine aU (by simp[h1,h2]) ?_;apply aA;refine aR fun K' hK=> ?_
   simp;refine ak (vV (qy (bsL a)) (qy (bsL b))) rfl (by simp) ?_;simp;apply hK;clear K' hK;apply aJ
   simp[au,aG,Post,aW,res1,bF,bC,aP,bg,bf,okT,okA,ok1,rowOf,Tryz.f149];simp[fZ,h1,h2]
  ·skip;refine aR fun K' hK=> ?_
   simp[h1,h2];apply hK;clear K' hK;refine aV (by simp[h1,h2]) ?_;apply aA;refine aR fun K' hK=> ?_
   simp[h1,h2];apply hK;clear K' hK;refine aX (by simp[h1,h2]) ?_;apply aA;refine aR fun K' hK=> ?_
   simp;apply hK;clear K' hK;apply aJ
   simp[au,aG,Post,aW,res1,bF,bC,aP,bg,bf,okT,okA,ok1,rowOf,Tryz.f149];simp[fZ,h1,h2]
 ·by_cases h2:kH (bsL b)=true
  ·skip;refine aR fun K' hK=> ?_
   simp[h1,h2];apply hK;clear K' hK;refine aV (by simp[h1,h2]) ?_;apply aA;refine aR fun K' hK=> ?_
   simp[h1,h2];apply hK;clear K' hK;refine aY (by simp[h1,h2]) ?_;apply aA;refine aR fun K' hK=> ?_
   simp[h1,h2];apply hK;clear K' hK;refine aX (by simp[h1,h2]) ?_;apply aA;refine aR fun K' hK=> ?_
   simp;apply hK;clear K' hK;apply aJ
   simp[au,aG,Post,aW,res1,bF,bC,aP,bg,bf,okT,okA,ok1,rowOf,Tryz.f149];simp[fZ,h1,h2]
  ·skip;refine aR fun K' hK=> ?_
   simp[h1,h2];apply hK;clear K' hK;refine aV (by simp[h1,h2]) ?_;apply aA;refine aR fun K' hK=> ?_
   simp[h1,h2];apply hK;clear K' hK;refine aY (by simp[h1,h2]) ?_;apply aA;refine aR fun K' hK=> ?_
   simp[h1,h2];apply hK;clear K' hK;refine aYk (by simp[h1,h2]) ?_;apply aj
   refine ah ?_;refine aR fun K' hK=> ?_
   simp;refine ak (Ei a b) rfl (by simp) ?_;simp;apply hK;clear K' hK;apply aF
   simp[au,aG,Post,aW,res1,bF,bC,aP,bg,bf,okT,okA,ok1,rowOf,Tryz.f149];simp[fZ,h1,h2]
set_option maxRecDepth 100000
set_option maxHeartbeats 1000000
def orN:List Int→Int
 | []=>0
 | a::l=>if a=0 then orN l else a
theorem Pz {l:List Int} {i:Nat} (h:i<l.length):orN (l.drop i)=if nth l i=0 then orN (l.drop (i+1))else nth l i:=by
 rw[List.drop_eq_getElem_cons h,orN,bZ h]
theorem Td (l:List Int) (hl:l.length<4611686018427387904):CallsOK Tryz.prog 100 [rowT iC l] (iV (orN l)) []:=by
 refine aN mixed Tryz.call100 Tryz.func100 rfl (by rw[Tryz.ntmps100];simp) ?_ rfl;rw[Tryz.ntmps100];refine aR fun K' hK=> ?_
 simp;apply hK;clear K' hK;refine aR fun K' hK=> ?_
 simp;apply hK;clear K' hK;apply aA;refine aR fun K' hK=> ?_
 simp;apply hK;clear K' hK;apply aB
 refine bH (fun s G nx=>s 6=rowT iC l∧s 3=iV 0∧s 7=iV l.length∧∃i:Nat,s 8=iV i∧i≤l.length∧orN l=orN (l.drop i)) (fun s _ _=>match s 8 with | .v (.int _ n)=>l.length-n.toNat | _=>0) ?_ ?_
 ·exact⟨by simp,by simp,by simp,0,by simp,by omega,by simp⟩
 ·rintro s G nx-⟨s6,s3,s7,i,s8,hi,ht⟩;have hw:IntKind.i64.wrap (↑i+1)=((i+1:Nat):Int):=dh (by omega);refine aR fun K' hK=> ?_
  simp[s7,s8];apply hK;clear K' hK;refine aC fun A B hA hB=> ?_
  simp;refine⟨fun hi2=>hA ?_,fun hi2=>hB ?_⟩<;>clear hA hB A B<;>(try simp at hi2)<;>(try with_reducible refine aK ?_)
  ·have hstep:=Pz hi2;apply aB;refine aR fun K' hK=> ?_
   simp[s6,s8,hi2];apply hK;clear K' hK;by_cases h0:nth l i=0
   ·skip;refine aR fun K' hK=> ?_
    simp[s3,h0];apply hK;clear K' hK;refine aVk (by simp[h0]) ?_;apply aj
    refine ah ?_;refine aS fun K' hK=> ?_
    simp[s8,hw];apply hK;clear K' hK;refine aj (ay ?_ ?_)
    ·exact⟨by simp[s6],by simp[s3],by simp[s7],i+1,by simp[hw],by omega,by rw[ht,hstep,if_pos h0]⟩
    ·simp[s8,hw];omega
   ·skip;refine aR fun K' hK=> ?_
    simp[s3,h0];apply hK;clear K' hK;refine aU (by simp[h0]) ?_;apply aA;refine aR fun K' hK=> ?_
    simp;apply hK;clear K' hK;apply aJ
    simp[au,aG,Post,aW,res1,bF,bC,aP,bg,bf,okT,okA,ok1,rowOf,Tryz.f100];rw[ht,hstep,if_neg h0]
  ·skip;apply bG
   refine aI (aH ?_);refine aR fun K' hK=> ?_
   simp[s3];apply hK;clear K' hK;apply aF
   simp[au,aG,Post,aW,res1,bF,bC,aP,bg,bf,okT,okA,ok1,rowOf,Tryz.f100];rw[ht,List.drop_of_length_le (by omega)];rfl
theorem xO {x y:List Bs} {i:Nat} (hx:i<x.length) (hy:i<y.length):ig (x.drop i) (y.drop i)=if fZ (nth x i) (nth y i)=0 then ig (x.drop (i+1)) (y.drop (i+1))else fZ (nth x i) (nth y i):=by
 rw[List.drop_eq_getElem_cons hx,List.drop_eq_getElem_cons hy,ig,bZ hx,bZ hy]
theorem vK {x y:List Bs} {i:Nat} (h:x.length=i∧i≤y.length∨y.length=i∧i≤x.length):ig (x.drop i) (y.drop i)=gB x.length y.length:=by
 have e:ig (x.drop i) (y.drop i)=gB (x.drop i).length (y.drop i).length:=by
  rcases h with⟨h,_⟩ | ⟨h,_⟩
  ·rw[List.drop_of_length_le (l:=x) (by omega)];cases y.drop i<;>rfl
  ·rw[List.drop_of_length_le (l:=y) (by omega)];cases x.drop i<;>rfl
 rw[e,List.length_drop,List.length_drop];unfold gB;congr 1
 ·simp only[eq_iff_iff];omega
 ·congr 1;simp only[eq_iff_iff];omega
theorem rows_ok (x y:List Bs) (hx:x.length<1000000000) (hy:y.length<1000000000) (hxs:∀b∈x,b.size≤4000000000) (hys:∀b∈y,b.size≤4000000000):CallsOK Tryz.prog 147 [rowT sC x,rowT sC y,.fn 149 []] (iV (ig x y)) []:=by
 refine aN mixed Tryz.call147 Tryz.func147 rfl (by rw[Tryz.ntmps147];simp) ?_ rfl;rw[Tryz.ntmps147];obtain⟨m,hm,hmx,hmy,hme⟩:∃m:Nat,(if y.length<x.length then(y.length:Int)else(x.length:Int))=(m:Int)∧m≤x.length∧m≤y.length∧(x.length=m∨y.length=m):=⟨min x.length y.length,by split<;>omega,by omega,by omega,by omega⟩;refine aR fun K' hK=> ?_
 simp;apply hK;clear K' hK;apply aA;refine aR fun K' hK=> ?_
 simp[hm];apply hK;clear K' hK;apply aB
 refine bH (fun s G nx=>s 0=rowT sC x∧s 1=rowT sC y∧s 2=.fn 149 []∧s 13=iV m∧∃i:Nat,s 14=iV i∧i≤m∧ig x y=ig (x.drop i) (y.drop i)) (fun s _ _=>match s 14 with | .v (.int _ n)=>m-n.toNat | _=>0) ?_ ?_
 ·exact⟨by simp,by simp,by simp,by simp[hm],0,by simp,by omega,by simp⟩
 ·rintro s G nx-⟨s0,s1,s2,s13,i,s14,hi,ht⟩;have hw:IntKind.i64.wrap (↑i+1)=((i+1:Nat):Int):=dh (by omega);refine aR fun K' hK=> ?_
  simp[s13,s14];apply hK;clear K' hK;refine aC fun A B hA hB=> ?_
  simp;refine⟨fun hi2=>hA ?_,fun hi2=>hB ?_⟩<;>clear hA hB A B<;>(try simp at hi2)<;>(try with_reducible refine aK ?_)
  ·have hix:i<x.length:=(by omega);have hiy:i<y.length:=(by omega);have hstep:=xO hix hiy;apply aB;refine aR fun K' hK=> ?_
   simp[s14];apply hK;clear K' hK;refine aQ fun K' hK=> ?_
   simp[s0,s1,s2,hix,hiy];refine ak (OA (nth x i) (nth y i) (hxs _ (bM hix)) (hys _ (bM hiy))) rfl (by simp) ?_;simp;apply hK;clear K' hK;by_cases h0:fZ (nth x i) (nth y i)=0
   ·skip;refine aR fun K' hK=> ?_
    simp[h0];apply hK;clear K' hK;refine aVk (by simp[h0]) ?_;apply aj
    refine ah ?_;refine aS fun K' hK=> ?_
    simp[s14,hw];apply hK;clear K' hK;refine aj (ay ?_ ?_)
    ·exact⟨by simp[s0],by simp[s1],by simp[s2],by simp[s13],i+1,by simp[hw],by omega,by rw[ht,hstep,if_pos h0]⟩
    ·simp[s14,hw];omega
   ·skip;refine aR fun K' hK=> ?_
    simp[h0];apply hK;clear K' hK;refine aU (by simp[h0]) ?_;apply aA;refine aR fun K' hK=> ?_
    simp;apply hK;clear K' hK;apply aJ
    simp[au,aG,Post,aW,res1,bF,bC,aP,bg,bf,okT,okA,ok1,rowOf,Tryz.f147];rw[ht,hstep,if_neg h0]
  ·skip;apply bG
   refine aI (aH ?_);refine aR fun K' hK=> ?_
   simp[s0,s1];refine ak (vV x.length y.length) rfl (by simp) ?_;simp;apply hK;clear K' hK;apply aF
   simp[au,aG,Post,aW,res1,bF,bC,aP,bg,bf,okT,okA,ok1,rowOf,Tryz.f147];rw[ht,vK (by omega)]
theorem vN (v:Ver) (hs:v.pre.size≤4000000000):CallsOK Tryz.prog 138 [.agg v.cells] (bV (fD v)) []:=yU v hs
theorem qC {s:Bs} {b:Bs} (h:b∈strs (spl (bsL s))):b.size≤s.size:=by
 obtain⟨l,hl,rfl⟩:=List.mem_map.1 h;have:∀(t:List UInt8) (l:List UInt8),l∈spl t→l.length≤t.length:=by
  intro t;induction t with
  | nil=>intro l hl;simp[spl]at hl;simp[hl]
  | cons c t ih=>
   intro l hl;rw[spl]at hl;split at hl
   ·rcases List.mem_cons.1 hl with rfl | h
    ·simp
    ·have:=ih l h;simp;omega
   ·cases hs:spl t with
    | nil=>rw[hs]at hl;simp at hl;subst hl;simp
    | cons p ps=>
     rw[hs]at hl ih;rcases List.mem_cons.1 hl with rfl | h
     ·have:=ih p (List.mem_cons_self ..);simp;omega
     ·have:=ih l (List.mem_cons_of_mem _ h);simp;omega
 have:=this _ _ hl;rw[gy]at this;show l.toArray.size≤_;simpa using this
theorem Wq (a b:Ver):orN [gB a.maj b.maj,gB a.min b.min,gB a.pat b.pat]=mM a b:=by
 simp only[orN,mM];by_cases h1:gB a.maj b.maj=0
 ·by_cases h2:gB a.min b.min=0
  ·by_cases h3:gB a.pat b.pat=0<;>simp[h1,h2,h3]
  ·simp[h1,h2]
 ·simp[h1]
theorem Ad (s:Bs):(strs (spl (bsL s))).length≤s.size+1:=by
 have h1:=(Ug _ (bsL s) (Nat.le_refl _)).1;have h2:=List.count_le_length (a:=(46:UInt8)) (l:=bsL s);rw[gy]at h2;simp only[strs,List.length_map];omega
theorem jr (a b:Ver) (ha:a.pre.size≤1000000) (hb:b.pre.size≤1000000):CallsOK Tryz.prog 103 [.agg a.cells,.agg b.cells] (iV (dS a b)) []:=by
 refine aN mixed Tryz.call103 Tryz.func103 rfl (by rw[Tryz.ntmps103];simp) ?_ rfl;rw[Tryz.ntmps103];refine aR fun K' hK=> ?_
 simp;apply hK;clear K' hK;apply aA;refine aR fun K' hK=> ?_
 simp;refine ak (vN a (by omega)) rfl (by simp) ?_;by_cases va:fD a=true
 ·by_cases vb:fD b=true
  ·simp[va];refine ak (vN b (by omega)) rfl (by simp) ?_;simp[vb];apply hK;clear K' hK;refine aYk (by simp) ?_;refine aQ fun K' hK=> ?_
   simp;refine ak (vV a.maj b.maj) rfl (by simp) ?_;simp;refine ak (vV a.min b.min) rfl (by simp) ?_;simp;refine ak (vV a.pat b.pat) rfl (by simp) ?_;simp;refine ak (Td [gB a.maj b.maj,gB a.min b.min,gB a.pat b.pat] (by simp)) rfl (by simp[bQ];rfl) ?_;simp;apply hK;clear K' hK;rw[Wq];apply aB
   have fin:dS a b=if mM a b≠0∨a.pre=b.pre then mM a b else if a.pre=⟨#[]⟩then 1 else if b.pre=⟨#[]⟩then-1 else ig (strs (spl (bsL a.pre))) (strs (spl (bsL b.pre))):=(by rw[dS,if_pos ⟨va,vb⟩]);by_cases hc:mM a b=0
   ·by_cases hp:a.pre=b.pre
    ·skip;refine aR fun K' hK=> ?_
     simp[hc,hp];apply hK;clear K' hK;refine aU (by simp[hc,hp]) ?_;apply aA;refine aR fun K' hK=> ?_
     simp;apply hK;clear K' hK;apply aJ
     simp[au,aG,Post,aW,res1,bF,bC,aP,bg,bf,okT,okA,ok1,rowOf,Tryz.f103];rw[fin,if_pos (.inr hp)];exact hc.symm
    ·skip;refine aR fun K' hK=> ?_
     simp[hc,hp];apply hK;clear K' hK;refine aV (by simp[hc,hp]) ?_
     by_cases a0:a.pre=⟨#[]⟩
     ·refine aA ?_;refine aR fun K' hK=> ?_
      simp[a0];apply hK;clear K' hK;refine aX (by simp[a0]) ?_;apply aA;refine aR fun K' hK=> ?_
      simp;apply hK;clear K' hK;apply aJ
      simp[au,aG,Post,aW,res1,bF,bC,aP,bg,bf,okT,okA,ok1,rowOf,Tryz.f103];rw[fin,if_neg (fun h=>h.elim (· hc) hp),if_pos a0]
     ·refine aA ?_;refine aR fun K' hK=> ?_
      simp[a0];apply hK;clear K' hK;refine aY (by simp[a0]) ?_
      by_cases b0:b.pre=⟨#[]⟩
      ·refine aA ?_;refine aR fun K' hK=> ?_
       simp[b0];apply hK;clear K' hK;refine aX (by simp[b0]) ?_;apply aA;refine aR fun K' hK=> ?_
       simp;apply hK;clear K' hK;apply aJ
       simp[au,aG,Post,aW,res1,bF,bC,aP,bg,bf,okT,okA,ok1,rowOf,Tryz.f103];rw[fin,if_neg (fun h=>h.elim (· hc) hp),if_neg a0,if_pos b0]
      ·refine aA ?_;refine aR fun K' hK=> ?_
       simp[b0];apply hK;clear K' hK;refine aYk (by simp[b0]) ?_;apply aj
       refine ah ?_;refine aQ fun K' hK=> ?_
       simp;refine aO (split_ok a.pre ha) (by simp) ?_;simp[bK];refine aO (split_ok b.pre hb) (by simp) ?_;simp[bK];refine ak (rows_ok (strs (spl (bsL a.pre))) (strs (spl (bsL b.pre))) (by have:=Ad a.pre;omega) (by have:=Ad b.pre;omega) (fun x hx=>by have:=qC hx;omega) (fun x hx=>by have:=qC hx;omega)) rfl (by first | rfl | (simp;done) | (simp;rfl) | (simp;exact⟨rfl,rfl⟩)) ?_;simp;apply hK;clear K' hK;apply aF
       simp[au,aG,Post,aW,res1,bF,bC,aP,bg,bf,okT,okA,ok1,rowOf,Tryz.f103];rw[fin,if_neg (fun h=>h.elim (· hc) hp),if_neg a0,if_neg b0]
   ·skip;refine aR fun K' hK=> ?_
    simp[hc];apply hK;clear K' hK;refine aU (by simp[hc]) ?_;apply aA;refine aR fun K' hK=> ?_
    simp;apply hK;clear K' hK;apply aJ
    simp[au,aG,Post,aW,res1,bF,bC,aP,bg,bf,okT,okA,ok1,rowOf,Tryz.f103];rw[fin,if_pos (.inl hc)]
  ·simp[va];refine ak (vN b (by omega)) rfl (by simp) ?_;simp[vb];apply hK;clear K' hK;refine aX (by simp) ?_;apply aA;refine aR fun K' hK=> ?_
   simp;apply hK;clear K' hK;apply aJ
   simp[au,aG,Post,aW,res1,bF,bC,aP,bg,bf,okT,okA,ok1,rowOf,Tryz.f103];simp[dS,vb]
 ·simp[va];apply hK;clear K' hK;refine aX (by simp) ?_;apply aA;refine aR fun K' hK=> ?_
  simp;apply hK;clear K' hK;apply aJ
  simp[au,aG,Post,aW,res1,bF,bC,aP,bg,bf,okT,okA,ok1,rowOf,Tryz.f103];simp[dS,va]
set_option maxRecDepth 100000
structure Bd where
 op:Int
 ver:Ver
 deriving DecidableEq,Inhabited
abbrev Alt:=List Bd
abbrev Rg:=List Alt
structure Dep where
 kind:Int
 name:Bs
 range:Rg
 deriving DecidableEq,Inhabited
structure Ru where
 name:Bs
 range:Rg
 deriving DecidableEq,Inhabited
structure Man where
 name:Bs
 ver:Ver
 deps:List Dep
 rules:List Ru
 deriving DecidableEq,Inhabited
def Bd.val (b:Bd):Value:=.agg #[.int .i64 b.op,.int .i64 b.ver.maj,.int .i64 b.ver.min,.int .i64 b.ver.pat,.string b.ver.pre]
def Bd.cells (b:Bd):List AV:=[iV b.op,iV b.ver.maj,iV b.ver.min,iV b.ver.pat,sV b.ver.pre]
def Alt.cells (l:Alt):List AV:=[rowT Bd.cells l]
def Rg.cells (r:Rg):List AV:=[rowT Alt.cells r]
def Dep.cells (d:Dep):List AV:=[iV d.kind,sV d.name,rowT Alt.cells d.range]
def Ru.cells (d:Ru):List AV:=[sV d.name,rowT Alt.cells d.range]
def Man.cells (m:Man):List AV:=[sV m.name,iV m.ver.maj,iV m.ver.min,iV m.ver.pat,sV m.ver.pre,rowT Dep.cells m.deps,rowT Ru.cells m.rules]
instance:Wid Bd.cells 5:=⟨fun _=>rfl,by decide⟩
instance:Wid Alt.cells 1:=⟨fun _=>rfl,by decide⟩
instance:Wid Dep.cells 3:=⟨fun _=>rfl,by decide⟩
instance:Wid Ru.cells 2:=⟨fun _=>rfl,by decide⟩
instance:Wid Man.cells 7:=⟨fun _=>rfl,by decide⟩
section
variable {G:Hp}
@[simp] theorem bd_looks (P:Program) (d:Bd):iH P G d.cells=some d.cells:=rfl
@[simp] theorem bd_trees (P:Program) (d:Bd):bY P G d.cells=some (d.cells,G):=rfl
@[simp] theorem dep_looks (P:Program) (d:Dep):iH P G d.cells=some d.cells:=rfl
@[simp] theorem dep_trees (P:Program) (d:Dep):bY P G d.cells=some (d.cells,G):=rfl
@[simp] theorem ru_looks (P:Program) (d:Ru):iH P G d.cells=some d.cells:=rfl
@[simp] theorem ru_trees (P:Program) (d:Ru):bY P G d.cells=some (d.cells,G):=rfl
@[simp] theorem man_looks (P:Program) (d:Man):iH P G d.cells=some d.cells:=rfl
@[simp] theorem man_trees (P:Program) (d:Man):bY P G d.cells=some (d.cells,G):=rfl
@[simp] theorem rg_looks (P:Program) (d:Rg):iH P G d.cells=some d.cells:=rfl
@[simp] theorem rg_trees (P:Program) (d:Rg):bY P G d.cells=some (d.cells,G):=rfl
@[simp] theorem alt_looks (P:Program) (d:Alt):iH P G d.cells=some d.cells:=rfl
@[simp] theorem alt_trees (P:Program) (d:Alt):bY P G d.cells=some (d.cells,G):=rfl
@[simp] theorem dep_one (d:Dep):d.cells.all AV.one=true:=rfl
@[simp] theorem dep_len (d:Dep):d.cells.length=3:=rfl
@[simp] theorem ru_one (d:Ru):d.cells.all AV.one=true:=rfl
@[simp] theorem ru_len (d:Ru):d.cells.length=2:=rfl
@[simp] theorem man_one (d:Man):d.cells.all AV.one=true:=rfl
@[simp] theorem man_len (d:Man):d.cells.length=7:=rfl
@[simp] theorem bd_one (d:Bd):d.cells.all AV.one=true:=rfl
@[simp] theorem bd_len (d:Bd):d.cells.length=5:=rfl
@[simp] theorem rg_one (d:Rg):d.cells.all AV.one=true:=rfl
@[simp] theorem rg_len (d:Rg):d.cells.length=1:=rfl
@[simp] theorem bd_all (b:Bd):gU b.cells 0 5=some b.cells:=rfl
@[simp] theorem bd_op (b:Bd):gU b.cells 0 1=some [iV b.op]:=rfl
@[simp] theorem bd_ver (b:Bd):gU b.cells 1 4=some b.ver.cells:=rfl
@[simp] theorem bd_conc (b:Bd):zf (.agg b.cells)=some b.val:=rfl
@[simp] theorem rg_all (r:Rg):gU r.cells 0 1=some [rowT Alt.cells r]:=rfl
@[simp] theorem alt_all (l:Alt):gU l.cells 0 1=some [rowT Bd.cells l]:=rfl
@[simp] theorem dep_all (d:Dep):gU d.cells 0 3=some d.cells:=rfl
@[simp] theorem dep_kind (d:Dep):gU d.cells 0 1=some [iV d.kind]:=rfl
@[simp] theorem dep_name (d:Dep):gU d.cells 1 1=some [sV d.name]:=rfl
@[simp] theorem dep_range (d:Dep):gU d.cells 2 1=some [rowT Alt.cells d.range]:=rfl
@[simp] theorem ru_all (d:Ru):gU d.cells 0 2=some d.cells:=rfl
@[simp] theorem ru_name (d:Ru):gU d.cells 0 1=some [sV d.name]:=rfl
@[simp] theorem ru_range (d:Ru):gU d.cells 1 1=some [rowT Alt.cells d.range]:=rfl
@[simp] theorem man_all (m:Man):gU m.cells 0 7=some m.cells:=rfl
@[simp] theorem man_name (m:Man):gU m.cells 0 1=some [sV m.name]:=rfl
@[simp] theorem man_ver (m:Man):gU m.cells 1 4=some m.ver.cells:=rfl
@[simp] theorem man_deps (m:Man):gU m.cells 5 1=some [rowT Dep.cells m.deps]:=rfl
@[simp] theorem man_rules (m:Man):gU m.cells 6 1=some [rowT Ru.cells m.rules]:=rfl
@[simp] theorem bd_take (d:Bd):List.take 5 d.cells=d.cells:=rfl
@[simp] theorem dep_take (d:Dep):List.take 3 d.cells=d.cells:=rfl
@[simp] theorem ru_take (d:Ru):List.take 2 d.cells=d.cells:=rfl
@[simp] theorem man_take (d:Man):List.take 7 d.cells=d.cells:=rfl
@[simp] theorem rg_take (d:Rg):List.take 1 d.cells=d.cells:=rfl
end
theorem Vs (a b:Bd):iZ Tryz.prog .neq 74 a.val b.val=some (.bool (!((a.op==b.op)&&(((a.ver.maj==b.ver.maj)&&((a.ver.min==b.ver.min)&&((a.ver.pat==b.ver.pat)&&((a.ver.pre.toList==b.ver.pre.toList)&&true))))&&true)))):=by kernel_rfl
@[simp] theorem eqBd (a b:Bd):iZ Tryz.prog .neq 74 a.val b.val=some (.bool (!decide (a=b))):=by
 rw[Vs,beq_toList];have:((a.op==b.op)&&(((a.ver.maj==b.ver.maj)&&((a.ver.min==b.ver.min)&&((a.ver.pat==b.ver.pat)&&(decide (a.ver.pre=b.ver.pre)&&true))))&&true))=decide (a=b):=by
  rw[Bool.eq_iff_iff];cases a with | mk a1 a2=>cases a2;cases b with | mk b1 b2=>cases b2;simp
 rw[this]
set_option maxRecDepth 100000
set_option maxHeartbeats 1000000
def opN (op c:Int):Bool:=if op=1 then decide (c=0)else if op=2 then decide (c<0)else if op=3 then decide (c≤0)else if op=4 then decide (0<c)else decide (0≤c)
def holdB (v:Ver) (b:Bd):Bool:=opN b.op (dS v b.ver)
def mW (v:Ver) (b:Bd):Bool:=decide (b.ver.pre≠⟨#[]⟩∧ {b.ver with pre:=v.pre} =v)
theorem Px (c:Int):CallsOK Tryz.prog 197 [iV c] (bV (decide (0≤c))) []:=by
 refine aN mixed Tryz.call197 Tryz.func197 rfl (by rw[Tryz.ntmps197];simp) ?_ rfl;rw[Tryz.ntmps197];refine aR fun K' hK=> ?_
 simp;apply hK;clear K' hK;refine aR fun K' hK=> ?_
 simp;apply hK;clear K' hK;apply aF
 simp[au,aG,Post,aW,res1,bF,bC,aP,bg,bf,okT,okA,ok1,rowOf,Tryz.f197]
theorem Pm (c:Int):CallsOK Tryz.prog 198 [iV c] (bV (decide (c=0))) []:=by
 refine aN mixed Tryz.call198 Tryz.func198 rfl (by rw[Tryz.ntmps198];simp) ?_ rfl;rw[Tryz.ntmps198];refine aR fun K' hK=> ?_
 simp;apply hK;clear K' hK;refine aR fun K' hK=> ?_
 simp;apply hK;clear K' hK;apply aF
 simp[au,aG,Post,aW,res1,bF,bC,aP,bg,bf,okT,okA,ok1,rowOf,Tryz.f198]
theorem OM (c:Int):CallsOK Tryz.prog 199 [iV c] (bV (decide (c<0))) []:=by
 refine aN mixed Tryz.call199 Tryz.func199 rfl (by rw[Tryz.ntmps199];simp) ?_ rfl;rw[Tryz.ntmps199];refine aR fun K' hK=> ?_
 simp;apply hK;clear K' hK;refine aR fun K' hK=> ?_
 simp;apply hK;clear K' hK;apply aF
 simp[au,aG,Post,aW,res1,bF,bC,aP,bg,bf,okT,okA,ok1,rowOf,Tryz.f199]
theorem O1 (c:Int):CallsOK Tryz.prog 200 [iV c] (bV (decide (c≤0))) []:=by
 refine aN mixed Tryz.call200 Tryz.func200 rfl (by rw[Tryz.ntmps200];simp) ?_ rfl;rw[Tryz.ntmps200];refine aR fun K' hK=> ?_
 simp;apply hK;clear K' hK;refine aR fun K' hK=> ?_
 simp;apply hK;clear K' hK;apply aF
 simp[au,aG,Post,aW,res1,bF,bC,aP,bg,bf,okT,okA,ok1,rowOf,Tryz.f200]
theorem P7 (c:Int):CallsOK Tryz.prog 201 [iV c] (bV (decide (0<c))) []:=by
 refine aN mixed Tryz.call201 Tryz.func201 rfl (by rw[Tryz.ntmps201];simp) ?_ rfl;rw[Tryz.ntmps201];refine aR fun K' hK=> ?_
 simp;apply hK;clear K' hK;refine aR fun K' hK=> ?_
 simp;apply hK;clear K' hK;apply aF
 simp[au,aG,Post,aW,res1,bF,bC,aP,bg,bf,okT,okA,ok1,rowOf,Tryz.f201]
theorem Eb (b:Bd) (v:Ver) (hb:b.ver.pre.size≤1000000) (hv:v.pre.size≤1000000):CallsOK Tryz.prog 159 [.agg b.cells,.agg v.cells] (bV (holdB v b)) []:=by
 refine aN mixed Tryz.call159 Tryz.func159 rfl (by rw[Tryz.ntmps159];simp) ?_ rfl;rw[Tryz.ntmps159];refine aR fun K' hK=> ?_
 simp;apply hK;clear K' hK;refine aR fun K' hK=> ?_
 simp;apply hK;clear K' hK;apply aA;refine aR fun K' hK=> ?_
 simp;apply hK;clear K' hK;apply aB
 by_cases h1:b.op=1
 ·skip;refine aR fun K' hK=> ?_
  simp[h1];apply hK;clear K' hK;refine aU (by simp[h1]) ?_;refine aR fun K' hK=> ?_
  simp;apply hK;clear K' hK;apply aj
  refine ah ?_;refine aR fun K' hK=> ?_
  simp;refine ak (jr v b.ver hv hb) rfl (by simp) ?_;simp;refine ak (Pm (dS v b.ver)) rfl (by simp) ?_;simp;apply hK;clear K' hK;apply aF
  simp[au,aG,Post,aW,res1,bF,bC,aP,bg,bf,okT,okA,ok1,rowOf,Tryz.f159];simp[holdB,opN,h1]
 ·skip;refine aR fun K' hK=> ?_
  simp[h1];apply hK;clear K' hK;refine aV (by simp[h1]) ?_
  by_cases h2:b.op=2
  ·refine aA ?_;refine aR fun K' hK=> ?_
   simp[h1,h2];apply hK;clear K' hK;refine aX (by simp[h1,h2]) ?_;refine aR fun K' hK=> ?_
   simp;apply hK;clear K' hK;apply aj
   refine ah ?_;refine aR fun K' hK=> ?_
   simp;refine ak (jr v b.ver hv hb) rfl (by simp) ?_;simp;refine ak (OM (dS v b.ver)) rfl (by simp) ?_;simp;apply hK;clear K' hK;apply aF
   simp[au,aG,Post,aW,res1,bF,bC,aP,bg,bf,okT,okA,ok1,rowOf,Tryz.f159];simp[holdB,opN,h1,h2]
  ·refine aA ?_;refine aR fun K' hK=> ?_
   simp[h1,h2];apply hK;clear K' hK;refine aY (by simp[h1,h2]) ?_
   by_cases h3:b.op=3
   ·refine aA ?_;refine aR fun K' hK=> ?_
    simp[h1,h2,h3];apply hK;clear K' hK;refine aX (by simp[h1,h2,h3]) ?_;refine aR fun K' hK=> ?_
    simp;apply hK;clear K' hK;apply aj
    refine ah ?_;refine aR fun K' hK=> ?_
    simp;refine ak (jr v b.ver hv hb) rfl (by simp) ?_;simp;refine ak (O1 (dS v b.ver)) rfl (by simp) ?_;simp;apply hK;clear K' hK;apply aF
    simp[au,aG,Post,aW,res1,bF,bC,aP,bg,bf,okT,okA,ok1,rowOf,Tryz.f159];simp[holdB,opN,h1,h2,h3]
   ·refine aA ?_;refine aR fun K' hK=> ?_
    simp[h1,h2,h3];apply hK;clear K' hK;refine aY (by simp[h1,h2,h3]) ?_
    by_cases h4:b.op=4
    ·refine aA ?_;refine aR fun K' hK=> ?_
     simp[h1,h2,h3,h4];apply hK;clear K' hK;refine aX (by simp[h1,h2,h3,h4]) ?_;refine aR fun K' hK=> ?_
     simp;apply hK;clear K' hK;apply aj
     refine ah ?_;refine aR fun K' hK=> ?_
     simp;refine ak (jr v b.ver hv hb) rfl (by simp) ?_;simp;refine ak (P7 (dS v b.ver)) rfl (by simp) ?_;simp;apply hK;clear K' hK;apply aF
     simp[au,aG,Post,aW,res1,bF,bC,aP,bg,bf,okT,okA,ok1,rowOf,Tryz.f159];simp[holdB,opN,h1,h2,h3,h4]
    ·refine aA ?_;refine aR fun K' hK=> ?_
     simp[h1,h2,h3,h4];apply hK;clear K' hK;refine aYk (by simp[h1,h2,h3,h4]) ?_;apply aj
     refine ah ?_;refine aR fun K' hK=> ?_
     simp;refine ak (jr v b.ver hv hb) rfl (by simp) ?_;simp;refine ak (Px (dS v b.ver)) rfl (by simp) ?_;simp;apply hK;clear K' hK;apply aF
     simp[au,aG,Post,aW,res1,bF,bC,aP,bg,bf,okT,okA,ok1,rowOf,Tryz.f159];simp[holdB,opN,h1,h2,h3,h4]
@[simp] theorem ver_put3 (d:Ver) (p:Bs):List.take 3 d.cells++sV p::List.drop 4 d.cells=({d with pre:=p} :Ver).cells:=rfl
theorem Ut (a b:Ver):iZ Tryz.prog .eql 23 a.val b.val=some (.bool ((a.maj==b.maj)&&((a.min==b.min)&&((a.pat==b.pat)&&((a.pre.toList==b.pre.toList)&&true))))):=by kernel_rfl
@[simp] theorem eql23 (a b:Ver):iZ Tryz.prog .eql 23 a.val b.val=some (.bool (decide (a=b))):=by
 rw[Ut,beq_toList];congr 2;rw[Bool.eq_iff_iff];cases a;cases b;simp
theorem Iq (b:Bd) (v:Ver):CallsOK Tryz.prog 160 [.agg b.cells,.agg v.cells] (bV (mW v b)) []:=by
 refine aN mixed Tryz.call160 Tryz.func160 rfl (by rw[Tryz.ntmps160];simp) ?_ rfl;rw[Tryz.ntmps160];refine aR fun K' hK=> ?_
 simp;apply hK;clear K' hK;refine aR fun K' hK=> ?_
 simp;apply hK;clear K' hK;by_cases h:b.ver.pre=⟨#[]⟩
 ·skip;refine aR fun K' hK=> ?_
  simp[h];apply hK;clear K' hK;refine aR fun K' hK=> ?_
  simp;apply hK;clear K' hK;refine aR fun K' hK=> ?_
  simp;apply hK;clear K' hK;apply aF
  simp[au,aG,Post,aW,res1,bF,bC,aP,bg,bf,okT,okA,ok1,rowOf,Tryz.f160];simp[mW,h]
 ·skip;refine aR fun K' hK=> ?_
  simp[h];apply hK;clear K' hK;refine aR fun K' hK=> ?_
  simp;apply hK;clear K' hK;refine aR fun K' hK=> ?_
  simp;apply hK;clear K' hK;apply aF
  simp[au,aG,Post,aW,res1,bF,bC,aP,bg,bf,okT,okA,ok1,rowOf,Tryz.f160];simp[mW,h]
set_option maxRecDepth 100000
set_option maxHeartbeats 1000000
def JZ (b:Bd):Bool:=fD b.ver&&(decide (1≤b.op)&&decide (b.op≤5))
def qc (l:Alt):Bool:=l.all JZ&&decide (l.length≤8)
def tH (r:Rg):Bool:=r.all qc&&(decide (1≤r.length)&&decide (r.length≤8))
def Alt.sz (l:Alt):Prop:=l.length≤1000000000∧∀b∈l,b.ver.pre.size≤1000000
def Rg.sz (r:Rg):Prop:=r.length≤1000000000∧∀l∈r,Alt.sz l
theorem wZ (r:Rg) (hr:Rg.sz r):CallsOK Tryz.prog 158 [.agg r.cells] (bV (tH r)) []:=by
 refine aN mixed Tryz.call158 Tryz.func158 rfl (by rw[Tryz.ntmps158];simp) ?_ rfl;rw[Tryz.ntmps158];have hl:=hr.1;refine aR fun K' hK=> ?_
 simp;apply hK;clear K' hK;apply aA;refine aR fun K' hK=> ?_
 simp[Rg.cells];apply hK;clear K' hK;apply aB
 refine bH (fun s G nx=>G 0=some (.var 33 [rowT Alt.cells r])∧s 1=.ptr 0 0∧s 10=rowT Alt.cells r∧s 11=iV r.length∧∃i:Nat,s 12=iV i∧i≤r.length∧(r.take i).all qc=true) (fun s _ _=>match s 12 with | .v (.int _ n)=>r.length-n.toNat | _=>0) ?_ ?_
 ·exact⟨by simp[Rg.cells],by simp,by simp[Rg.cells],by simp[Rg.cells],0,by simp,by omega,by simp⟩
 ·rintro s G nx hf ⟨g0,s1,s10,s11,i,s12,hi,ht⟩;have o12:=s12;have n0:¬0=nx:=(by have:=cO hf g0;omega);have hw:IntKind.i64.wrap (↑i+1)=((i+1:Nat):Int):=dh (by omega);refine aR fun K' hK=> ?_
  simp[s11,s12];apply hK;clear K' hK;refine aC fun A B hA hB=> ?_
  simp;refine⟨fun hi2=>hA ?_,fun hi2=>hB ?_⟩<;>clear hA hB A B<;>(try simp at hi2)<;>(try with_reducible refine aK ?_)
  ·have hstep:=iK (p:=qc) hi2;have hA:=hr.2 _ (bM hi2);have hfalse:qc (nth r i)=false→tH r=false:=fun h=>(by rw[tH,all_false hi2 h];rfl);generalize hgl:nth r i=l at*;have hAl:=hA.1;apply aB;refine aR fun K' hK=> ?_
   simp[s10,s12,hi2,hgl];apply hK;clear K' hK;apply aA;refine aR fun K' hK=> ?_
   simp;apply hK;clear K' hK;apply aB
   refine bH (fun s G nx=>G 0=some (.var 33 [rowT Alt.cells r])∧s 1=.ptr 0 0∧s 10=rowT Alt.cells r∧s 11=iV r.length∧s 12=iV i∧s 4=rowT Bd.cells l∧s 16=rowT Bd.cells l∧s 17=iV l.length∧∃j:Nat,s 18=iV j∧j≤l.length∧(l.take j).all JZ=true) (fun s _ _=>match s 18 with | .v (.int _ n)=>l.length-n.toNat | _=>0) ?_ ?_
   ·exact⟨by simp[g0],by simp[s1],by simp[s10],by simp[s11],by simp[s12],by simp,by simp,by simp,0,by simp,by omega,by simp⟩
   ·clear s1 s10 s11 s12 g0 hf n0;rintro s G nx hf ⟨g0,s1,s10,s11,s12,s4,s16,s17,j,s18,hj,hjt⟩;have n0:¬0=nx:=(by have:=cO hf g0;omega);have hwj:IntKind.i64.wrap (↑j+1)=((j+1:Nat):Int):=dh (by omega);refine aR fun K' hK=> ?_
    simp[s17,s18];apply hK;clear K' hK;refine aC fun A B hA hB=> ?_
    simp;refine⟨fun hj2=>hA ?_,fun hj2=>hB ?_⟩<;>clear hA hB A B<;>(try simp at hj2)<;>(try with_reducible refine aK ?_)
    ·have hjstep:=iK (p:=JZ) hj2;have hjfalse:JZ (nth l j)=false→tH r=false:=fun h=>hfalse (by rw[qc,all_false hj2 h];rfl);have hbz:=hA.2 _ (bM hj2);generalize hgb:nth l j=b at*;apply aB;refine aR fun K' hK=> ?_
     simp[s16,s18,hj2,hgb];apply hK;clear K' hK;refine aR fun K' hK=> ?_
     simp;refine ak (jY b.ver (by omega)) rfl (by simp) ?_;simp;apply hK;clear K' hK;by_cases c1:fD b.ver=true
     ·by_cases c2:b.op<1
      ·skip;refine aR fun K' hK=> ?_
       simp[c1,c2];apply hK;clear K' hK;refine aU (by simp) ?_;apply aA;refine aR fun K' hK=> ?_
       simp;apply hK;clear K' hK;apply aJ
       simp[au,aG,Post,aW,res1,bF,bC,aP,bg,bf,okT,okA,ok1,rowOf,Tryz.f158];exact hjfalse (by simp[JZ];omega)
      ·by_cases c3:5<b.op
       ·skip;refine aR fun K' hK=> ?_
        simp[c1,c2,c3];apply hK;clear K' hK;refine aU (by simp) ?_;apply aA;refine aR fun K' hK=> ?_
        simp;apply hK;clear K' hK;apply aJ
        simp[au,aG,Post,aW,res1,bF,bC,aP,bg,bf,okT,okA,ok1,rowOf,Tryz.f158];exact hjfalse (by simp[JZ];omega)
       ·skip;refine aR fun K' hK=> ?_
        simp[c1,c2,c3];apply hK;clear K' hK;refine aVk (by simp) ?_;apply aj
        refine ah ?_;refine aS fun K' hK=> ?_
        simp[s18,hwj];apply hK;clear K' hK;refine aj (ay ?_ ?_)
        ·exact⟨by simp[n0,g0],by simp[s1],by simp[s10],by simp[s11],by simp[s12],by simp[s4],by simp[s16],by simp[s17],j+1,by simp[hwj],by omega,by rw[hjstep,hjt];simp[JZ,c1];omega⟩
        ·simp[s18,hwj];omega
     ·skip;refine aR fun K' hK=> ?_
      simp[c1];apply hK;clear K' hK;refine aU (by simp) ?_;apply aA;refine aR fun K' hK=> ?_
      simp;apply hK;clear K' hK;apply aJ
      simp[au,aG,Post,aW,res1,bF,bC,aP,bg,bf,okT,okA,ok1,rowOf,Tryz.f158];exact hjfalse (by simp[JZ,c1])
    ·skip;apply bG
     refine aI (aH ?_);refine aR fun K' hK=> ?_
     simp[s4];apply hK;clear K' hK;rw[List.take_of_length_le (by omega)]at hjt;refine aD fun A B hA hB=> ?_
     simp;refine⟨fun c8=>hA ?_,fun c8=>hB ?_⟩<;>clear hA hB A B<;>(try simp at c8)<;>(try with_reducible refine aK ?_)
     ·refine aA ?_;refine aR fun K' hK=> ?_
      simp;apply hK;clear K' hK;apply aJ
      simp[au,aG,Post,aW,res1,bF,bC,aP,bg,bf,okT,okA,ok1,rowOf,Tryz.f158];exact hfalse (by have c9:¬l.length≤8:=(by omega);simp[qc,c9])
     ·refine aj ?_
      refine ah ?_;refine aS fun K' hK=> ?_
      simp[s12,hw];apply hK;clear K' hK;refine aj (ay ?_ ?_)
      ·exact⟨by simp[g0],by simp[s1],by simp[s10],by simp[s11],i+1,by simp[hw],by omega,by rw[hstep,ht];simp only[qc,hjt,Bool.true_and,decide_eq_true_eq];omega⟩
      ·simp[o12,s12,hw];omega
  ·skip;apply bG
   refine aI (aH ?_);rw[List.take_of_length_le (by omega)]at ht;by_cases c1:1≤r.length
   ·have c2:(1:Int)≤(r.length:Int):=(by omega);refine aR fun K' hK=> ?_
    simp[s1,g0,c2];apply hK;clear K' hK;apply aF
    simp[au,aG,Post,aW,res1,bF,bC,aP,bg,bf,okT,okA,ok1,rowOf,Tryz.f158];simp[tH,ht,c1];omega
   ·have c2:¬(1:Int)≤(r.length:Int):=(by omega);refine aR fun K' hK=> ?_
    simp[s1,g0,c2];apply hK;clear K' hK;apply aF
    simp[au,aG,Post,aW,res1,bF,bC,aP,bg,bf,okT,okA,ok1,rowOf,Tryz.f158];simp[tH,c1]
def fB (v:Ver) (l:Alt):Bool:=l.all (holdB v)&&(decide (v.pre=⟨#[]⟩) || l.any (mW v))
def dQ (v:Ver) (r:Rg):Bool:=fD v&&(tH r&&r.any (fB v))
theorem yR (r:Rg) (v:Ver) (hr:Rg.sz r) (hv:v.pre.size≤1000000):CallsOK Tryz.prog 113 [.agg r.cells,.agg v.cells] (bV (dQ v r)) []:=by
 refine aN mixed Tryz.call113 Tryz.func113 rfl (by rw[Tryz.ntmps113];simp) ?_ rfl;rw[Tryz.ntmps113];have hl:=hr.1;refine aR fun K' hK=> ?_
 simp;apply hK;clear K' hK;refine wC ?_;apply aA;refine aR fun K' hK=> ?_
 simp;refine ak (jY v (by omega)) rfl (by simp) ?_;simp;apply hK;clear K' hK;by_cases c1:fD v=true
 ·refine aA ?_;refine aR fun K' hK=> ?_
  simp[c1];refine ak (wZ r hr) rfl (by simp[Rg.cells]) ?_;by_cases c2:tH r=true
  ·simp[c2];apply hK;clear K' hK;refine aYk (by simp) ?_
   refine Ae ?_;apply aA;refine aR fun K' hK=> ?_
   simp[Rg.cells];apply hK;clear K' hK;apply aB
   refine bH (fun s G nx=>G 1=some (.var 23 v.cells)∧s 3=.ptr 1 0∧s 25=rowT Alt.cells r∧s 26=iV r.length∧∃i:Nat,s 27=iV i∧i≤r.length∧(r.take i).any (fB v)=false) (fun s _ _=>match s 27 with | .v (.int _ n)=>r.length-n.toNat | _=>0) ?_ ?_
   ·exact⟨by simp,by simp,by simp[Rg.cells],by simp[Rg.cells],0,by simp,by omega,by simp⟩
   ·rintro s G nx hf ⟨g1,s3,s25,s26,i,s27,hi,ht⟩;have o27:=s27;have n1:¬1=nx:=(by have:=cO hf g1;omega);have hw:IntKind.i64.wrap (↑i+1)=((i+1:Nat):Int):=dh (by omega);refine aR fun K' hK=> ?_
    simp[s26,s27];apply hK;clear K' hK;refine aC fun A B hA hB=> ?_
    simp;refine⟨fun hi2=>hA ?_,fun hi2=>hB ?_⟩<;>clear hA hB A B<;>(try simp at hi2)<;>(try with_reducible refine aK ?_)
    ·have hA:=hr.2 _ (bM hi2);have htrue:fB v (nth r i)=true→r.any (fB v)=true:=fun h=>List.any_eq_true.2 ⟨_,bM hi2,h⟩;have hfalse:fB v (nth r i)=false→(r.take (i+1)).any (fB v)=false:=lW hi2 ht;generalize hgl:nth r i=l at*;have hAl:=hA.1;apply aB;refine aR fun K' hK=> ?_
     simp[s25,s27,hi2,hgl];apply hK;clear K' hK;refine aR fun K' hK=> ?_
     simp[s3,g1];apply hK;clear K' hK;apply aA;refine aR fun K' hK=> ?_
     simp;apply hK;clear K' hK;apply aB
     refine bH (fun s G nx=>G 1=some (.var 23 v.cells)∧s 3=.ptr 1 0∧s 25=rowT Alt.cells r∧s 26=iV r.length∧s 27=iV i∧s 34=rowT Bd.cells l∧s 35=iV l.length∧∃j:Nat,s 36=iV j∧j≤l.length∧s 9=bV (decide (v.pre=⟨#[]⟩) || (l.take j).any (mW v))∧(l.take j).all (holdB v)=true) (fun s _ _=>match s 36 with | .v (.int _ n)=>l.length-n.toNat | _=>0) ?_ ?_
     ·exact⟨by simp[g1],by simp[s3],by simp[s25],by simp[s26],by simp[s27],by simp,by simp,0,by simp,by omega,by simp,by simp⟩
     ·clear s3 s25 s26 s27 g1 hf n1;rintro s G nx hf ⟨g1,s3,s25,s26,s27,s34,s35,j,s36,hj,s9,hjt⟩;have n1:¬1=nx:=(by have:=cO hf g1;omega);have hwj:IntKind.i64.wrap (↑j+1)=((j+1:Nat):Int):=dh (by omega);refine aR fun K' hK=> ?_
      simp[s35,s36];apply hK;clear K' hK;refine aC fun A B hA hB=> ?_
      simp;refine⟨fun hj2=>hA ?_,fun hj2=>hB ?_⟩<;>clear hA hB A B<;>(try simp at hj2)<;>(try with_reducible refine aK ?_)
      ·have hjstep:=iK (p:=holdB v) hj2;have hnstep:=vM (p:=mW v) hj2;have hjfalse:holdB v (nth l j)=false→fB v l=false:=fun h=>(by rw[fB,all_false hj2 h];rfl);have hbz:=hA.2 _ (bM hj2);generalize hgb:nth l j=b at*;apply aB;refine aR fun K' hK=> ?_
       simp[s34,s36,hj2,hgb];apply hK;clear K' hK;apply aA;refine aR fun K' hK=> ?_
       simp[s3,g1,n1];refine ak (Eb b v hbz hv) rfl (by simp) ?_;simp;apply hK;clear K' hK;by_cases c3:holdB v b=true
       ·skip;refine aYk (by simp[c3]) ?_
        generalize hnb:(decide (v.pre=⟨#[]⟩) || (l.take j).any (mW v))=nb at*;cases nb with
        | true=>
         refine aS fun K' hK=> ?_
         simp[s9];apply hK;clear K' hK;apply aj
         refine ah ?_;refine aS fun K' hK=> ?_
         simp[s36,hwj];apply hK;clear K' hK;refine aj (ay ?_ ?_)
         ·exact⟨by simp[n1,g1],by simp[s3],by simp[s25],by simp[s26],by simp[s27],by simp[s34],by simp[s35],j+1,by simp[hwj],by omega,by rw[hnstep,←Bool.or_assoc,hnb];simp,by rw[hjstep,hjt,c3];rfl⟩
         ·simp[s36,hwj];omega
        | false=>
         refine aS fun K' hK=> ?_
         simp[s9,s3,g1,n1];refine ak (Iq b v) rfl (by simp) ?_;simp;apply hK;clear K' hK;apply aj
         refine ah ?_;refine aS fun K' hK=> ?_
         simp[s36,hwj];apply hK;clear K' hK;refine aj (ay ?_ ?_)
         ·exact⟨by simp[n1,g1],by simp[s3],by simp[s25],by simp[s26],by simp[s27],by simp[s34],by simp[s35],j+1,by simp[hwj],by omega,by rw[hnstep,←Bool.or_assoc,hnb];simp,by rw[hjstep,hjt,c3];rfl⟩
         ·simp[s36,hwj];omega
       ·skip;refine aX (by simp[c3]) ?_;apply bG
        (repeat first | with_reducible refine aH ?_ | with_reducible refine eF (by decide) ?_ | with_reducible refine aI ?_);refine aS fun K' hK=> ?_
        simp[s27,hw];apply hK;clear K' hK;refine aj (ay ?_ ?_)
        ·exact⟨by simp[n1,g1],by simp[s3],by simp[s25],by simp[s26],i+1,by simp[hw],by omega,hfalse (hjfalse (by simpa using c3))⟩
        ·simp[o27,s27,hw];omega
      ·skip;apply bG
       refine aI (aH ?_);rw[List.take_of_length_le (by omega)]at hjt s9;have hah:fB v l=(decide (v.pre=⟨#[]⟩) || l.any (mW v)):=(by rw[fB,hjt];rfl);rw[←hah]at s9;by_cases c4:fB v l=true
       ·skip;refine aR fun K' hK=> ?_
        simp[s9,c4];apply hK;clear K' hK;refine aU (by simp) ?_;apply aA;refine aR fun K' hK=> ?_
        simp;apply hK;clear K' hK;apply aJ
        simp[au,aG,Post,aW,res1,bF,bC,aP,bg,bf,okT,okA,ok1,rowOf,Tryz.f113,lH];simp[dQ,c1,c2,htrue c4]
       ·skip;refine aR fun K' hK=> ?_
        simp[s9,c4];apply hK;clear K' hK;refine aVk (by simp) ?_;apply aj
        refine ah ?_;refine aS fun K' hK=> ?_
        simp[s27,hw];apply hK;clear K' hK;refine aj (ay ?_ ?_)
        ·exact⟨by simp[g1],by simp[s3],by simp[s25],by simp[s26],i+1,by simp[hw],by omega,hfalse (by simpa using c4)⟩
        ·simp[o27,s27,hw];omega
    ·skip;apply bG
     refine aI (aH ?_);rw[List.take_of_length_le (by omega)]at ht;refine aR fun K' hK=> ?_
     simp;apply hK;clear K' hK;apply aF
     simp[au,aG,Post,aW,res1,bF,bC,aP,bg,bf,okT,okA,ok1,rowOf,Tryz.f113,lH];simp[dQ,ht]
  ·simp[c2];apply hK;clear K' hK;refine aX (by simp) ?_;apply aA;refine aR fun K' hK=> ?_
   simp;apply hK;clear K' hK;apply aJ
   simp[au,aG,Post,aW,res1,bF,bC,aP,bg,bf,okT,okA,ok1,rowOf,Tryz.f113,lH];simp[dQ,c2]
 ·refine aA ?_;refine aR fun K' hK=> ?_
  simp[c1];apply hK;clear K' hK;refine aX (by simp) ?_;apply aA;refine aR fun K' hK=> ?_
  simp;apply hK;clear K' hK;apply aJ
  simp[au,aG,Post,aW,res1,bF,bC,aP,bg,bf,okT,okA,ok1,rowOf,Tryz.f113,lH];simp[dQ,c1]
set_option maxRecDepth 100000
set_option maxHeartbeats 1000000
theorem Hg (v:Ver):(prV v).size≤v.pre.size+70:=by
 unfold prV;by_cases h:fD v=true
 ·have hh:oI (bsL v.pre)=true∧inR v.maj=true∧inR v.min=true∧inR v.pat=true:=(by simpa [fD]using h);have h1:=rE hh.2.1;have h2:=rE hh.2.2.1;have h3:=rE hh.2.2.2;have s1:(ofL (Lib.itoa v.maj)).size≤21:=(by rw[jg];exact Lib.itoa_length_le _ (by omega) (by omega));have s2:(ofL (Lib.itoa v.min)).size≤21:=(by rw[jg];exact Lib.itoa_length_le _ (by omega) (by omega));have s3:(ofL (Lib.itoa v.pat)).size≤21:=(by rw[jg];exact Lib.itoa_length_le _ (by omega) (by omega));have hc:(wu v).size≤65:=by
   simp only[wu,ByteArray.size_append];have:(⟨#[46]⟩:Bs).size=1:=rfl;omega
  rw[if_pos h];split
  ·omega
  ·simp only[ByteArray.size_append];have:(⟨#[45]⟩:Bs).size=1:=rfl;omega
 ·rw[if_neg h];show 0≤_;omega
def mF:List (Int×Bs):=[(3,⟨#[60,61]⟩),(5,⟨#[62,61]⟩),(2,⟨#[60]⟩),(4,⟨#[62]⟩),(1,⟨#[61]⟩)]
theorem RI:∀k:Nat,k<5→nU Tryz.prog 191 (.agg (tK.map AV.v)) (iV k)=some (.agg [iV (nth mF k).1,sV (nth mF k).2])∧(nth mF k).2.size≤2
 | 0,_=>⟨by kernel_rfl,by decide⟩
 | 1,_=>⟨by kernel_rfl,by decide⟩
 | 2,_=>⟨by kernel_rfl,by decide⟩
 | 3,_=>⟨by kernel_rfl,by decide⟩
 | 4,_=>⟨by kernel_rfl,by decide⟩
 | k+5,h=>by omega
def bdS (b:Bd) (k:Nat):List Bs:=((mF.take k).filter fun p=>decide (p.1=b.op)).map fun p=>p.2++prV b.ver
theorem Ov (b:Bd) {k:Nat} (hk:k<5):bdS b (k+1)=bdS b k++if(nth mF k).1=b.op then[(nth mF k).2++prV b.ver]else[]:=by
 unfold bdS;rw[List.take_add_one,List.getElem?_eq_getElem (show k<mF.length from hk),List.filter_append,List.map_append,←bZ];congr 1;by_cases h:(nth mF k).1=b.op<;>simp[h]
theorem J6 (b:Bd) (k:Nat):(bdS b k).length≤5:=by
 unfold bdS;rw[List.length_map];refine Nat.le_trans (List.length_filter_le _ _) ?_;rw[List.length_take];exact Nat.min_le_right _ _
theorem OB {b:Bd} (hb:b.ver.pre.size≤1000000) {k:Nat} {x:Bs} (h:x∈bdS b k):x.size≤1000100:=by
 obtain⟨p,hp,rfl⟩:=List.mem_map.1 h;have h1:=List.mem_of_mem_take (List.mem_filter.1 hp).1;have h2:∀p∈mF,p.2.size≤2:=(by decide);have:=h2 p h1;have:=Hg b.ver;simp only[ByteArray.size_append];omega
def DU (l:Alt):List Bs:=l.flatMap fun b=>bdS b 5
def qp (L:List Bs):List Bs:=if L=[]then[⟨#[42]⟩]else L
def IW (l:Alt):Bs:=ofL (Lib.join ((qp (DU l)).map bsL) [32])
def prR (r:Rg):Bs:=if tH r=true then ofL (Lib.join ((r.map IW).map bsL) [32,124,124,32])else⟨#[]⟩
theorem KQ {l:Alt} {j:Nat} (h:j<l.length):DU (l.take (j+1))=DU (l.take j)++bdS (nth l j) 5:=by
 unfold DU;rw[List.take_add_one,List.getElem?_eq_getElem h,List.flatMap_append,←bZ h];simp
theorem uT:∀l:Alt,(DU l).length≤5*l.length
 | []=>Nat.le_refl _
 | b::l=>by
  have h1:=J6 b 5;have h2:=uT l;simp only[DU,List.flatMap_cons,List.length_append,List.length_cons]at h2⊢;omega
theorem Dt {l:Alt} (hl:Alt.sz l) {x:Bs} (h:x∈DU l):x.size≤1000100:=by
 obtain⟨b,hb,hx⟩:=List.mem_flatMap.1 h;exact OB (hl.2 b hb) hx
theorem DJ {L:List Bs} {n:Nat} (h:L.length≤n):(qp L).length≤n+1:=by
 unfold qp;split
 ·simp only[List.length_singleton];omega
 ·omega
theorem yj {L:List Bs} (h:∀x∈L,x.size≤1000100):∀x∈qp L,x.size≤1000100:=by
 unfold qp;split
 ·intro x hx;simp at hx;subst hx;show 1≤_;omega
 ·exact h
theorem Fh {L:List Bs} {n m:Nat} {sep:List UInt8} (hs:sep.length≤4) (hn:L.length≤n) (h:∀x∈L,x.size≤m):(Lib.join (L.map bsL) sep).length≤n*(m+4):=by
 have h1:=Gm sep m (L.map bsL) (fun x hx=>by
  obtain⟨b,hb,rfl⟩:=List.mem_map.1 hx;rw[gy];exact h b hb)
 rw[List.length_map]at h1;exact Nat.le_trans h1 (Nat.mul_le_mul hn (by omega))
theorem Ci {l:Alt} (hl:Alt.sz l) (h8:l.length≤8):(IW l).size≤41*1000104:=by
 rw[IW,jg];exact Fh (by simp) (DJ (Nat.le_trans (uT l) (show 5*l.length≤40 by omega))) (yj fun x hx=>Dt hl hx)
theorem Fb (r:Rg) (hr:Rg.sz r):CallsOK Tryz.prog 143 [.agg r.cells] (.tup [sV (prR r),bV (tH r)]) []:=by
 refine aN mixed Tryz.call143 Tryz.func143 rfl (by rw[Tryz.ntmps143];simp) ?_ rfl;rw[Tryz.ntmps143];have hl:=hr.1;refine aR fun K' hK=> ?_
 simp;apply hK;clear K' hK;apply aA;refine aR fun K' hK=> ?_
 simp;refine ak (wZ r hr) rfl (by simp[Rg.cells]) ?_;by_cases c1:tH r=true
 ·simp[c1];apply hK;clear K' hK;refine aYk (by simp) ?_;refine aR fun K' hK=> ?_
  simp;apply hK;clear K' hK;apply aA;refine aR fun K' hK=> ?_
  simp[Rg.cells];apply hK;clear K' hK;have h8:r.length≤8∧∀l∈r,l.length≤8:=by
   simp only[tH,Bool.and_eq_true,List.all_eq_true,decide_eq_true_eq]at c1;exact⟨c1.2.2,fun l hl=>by have:=c1.1 l hl;simp only[qc,Bool.and_eq_true,decide_eq_true_eq]at this;exact this.2⟩
  apply aB
  refine bH (fun s G nx=>s 18=rowT Alt.cells r∧s 19=iV r.length∧∃(i r4:Nat),s 20=iV i∧i≤r.length∧s 4=.row r4 i∧G r4=some (.row 9 (flat sC ((r.take i).map IW)))) (fun s _ _=>match s 20 with | .v (.int _ n)=>r.length-n.toNat | _=>0) ?_ ?_
  ·refine⟨by simp,by simp,0,_,by simp,by omega,by simp;rfl,by simp⟩
  ·rintro s G nx hf ⟨s18,s19,i,r4,s20,hi,s4,g4⟩;have o20:=s20;have hlt4:=cO hf g4;have hw:IntKind.i64.wrap (↑i+1)=((i+1:Nat):Int):=dh (by omega);refine aR fun K' hK=> ?_
   simp[s19,s20];apply hK;clear K' hK;refine aC fun A B hA hB=> ?_
   simp;refine⟨fun hi2=>hA ?_,fun hi2=>hB ?_⟩<;>clear hA hB A B<;>(try simp at hi2)<;>(try with_reducible refine aK ?_)
   ·have h8l:=h8.2 _ (bM hi2);have hA:=hr.2 _ (bM hi2);have hsnoc:(r.take (i+1)).map IW=(r.take i).map IW++[IW (nth r i)]:=(by rw[List.take_add_one,List.getElem?_eq_getElem hi2,←bZ hi2,List.map_append];rfl);generalize hgl:nth r i=l at*;generalize hL4:(r.take i).map IW=L4 at*;have hL4l:L4.length=i:=(by rw[←hL4,List.length_map,List.length_take];omega);apply aB;refine aR fun K' hK=> ?_
    simp[s18,s20,hi2,hgl];apply hK;clear K' hK;refine aR fun K' hK=> ?_
    simp;apply hK;clear K' hK;apply aA;refine aR fun K' hK=> ?_
    simp;apply hK;clear K' hK;have n4:¬r4=nx:=(by omega);apply aB
    refine bH (fun s G ny=>s 18=rowT Alt.cells r∧s 19=iV r.length∧s 20=iV i∧s 4=.row r4 i∧G r4=some (.row 9 (flat sC L4))∧s 24=rowT Bd.cells l∧s 25=iV l.length∧∃(j r7:Nat),s 26=iV j∧j≤l.length∧r7≠r4∧s 7=.row r7 (DU (l.take j)).length∧G r7=some (.row 9 (flat sC (DU (l.take j))))) (fun s _ _=>match s 26 with | .v (.int _ n)=>l.length-n.toNat | _=>0) ?_ ?_
    ·refine⟨by simp[s18],by simp[s19],by simp[s20],by simp[s4],by simp[n4,g4],by simp,by simp,0,nx,by simp,by omega,by omega,by simp[DU],by simp[DU]⟩
    ·clear s18 s19 s20 s4 g4 hf hlt4 n4;rintro s G nx hf ⟨s18,s19,s20,s4,g4,s24,s25,j,r7,s26,hj,h74,s7,g7⟩;have o26:=s26;have hlt4:=cO hf g4;have hlt7:=cO hf g7;have hwj:IntKind.i64.wrap (↑j+1)=((j+1:Nat):Int):=dh (by omega);refine aR fun K' hK=> ?_
     simp[s25,s26];apply hK;clear K' hK;refine aC fun A B hA hB=> ?_
     simp;refine⟨fun hj2=>hA ?_,fun hj2=>hB ?_⟩<;>clear hA hB A B<;>(try simp at hj2)<;>(try with_reducible refine aK ?_)
     ·have hbz:=hA.2 _ (bM hj2);have hnext:=KQ hj2;have hL7l:(DU (l.take j)).length≤40:=by
       have:=uT (l.take j);rw[List.length_take]at this;omega
      generalize hgb:nth l j=b at*;generalize hL7:DU (l.take j)=L7 at*;apply aB;refine aR fun K' hK=> ?_
      simp[s24,s26,hj2,hgb];apply hK;clear K' hK;refine aR fun K' hK=> ?_
      simp;refine ak (jY b.ver (by omega)) rfl (by simp) ?_;simp;apply hK;clear K' hK;refine aR fun K' hK=> ?_
      simp;apply hK;clear K' hK;have n4:¬r4=nx:=(by omega);have n7:¬r7=nx:=(by omega);refine dL (aB ?_)
      refine bH (fun s G ny=>s 18=rowT Alt.cells r∧s 19=iV r.length∧s 20=iV i∧s 4=.row r4 i∧G r4=some (.row 9 (flat sC L4))∧s 24=rowT Bd.cells l∧s 25=iV l.length∧s 26=iV j∧s 9=.ptr nx 0∧G nx=some (.var 74 b.cells)∧s 10=sV (prV b.ver)∧s 36=.agg (tK.map AV.v)∧∃(k r7:Nat),s 37=iV k∧k≤5∧r7≠r4∧r7≠nx∧s 7=.row r7 (L7++bdS b k).length∧G r7=some (.row 9 (flat sC (L7++bdS b k)))) (fun s _ _=>match s 37 with | .v (.int _ n)=>5-n.toNat | _=>0) ?_ ?_
      ·refine⟨by simp[s18],by simp[s19],by simp[s20],by simp[s4],by simp[n4,g4],by simp[s24],by simp[s25],by simp[s26],by simp,by simp,by simp,by simp,0,r7,by simp,by omega,h74,by omega,by simp[s7,bdS],by simp[n7,g7,bdS]⟩
      ·clear s18 s19 s20 s4 g4 s24 s25 s26 s7 g7 hf hlt4 hlt7 n4 n7;rintro s G ny hf ⟨s18,s19,s20,s4,g4,s24,s25,s26,s9,gp,s10,s36,k,q,s37,hk,h74,h7p,s7,g7⟩;have o37:=s37;have hlt4:=cO hf g4;have hlt7:=cO hf g7;have hltp:=cO hf gp;have hwk:IntKind.i64.wrap (↑k+1)=((k+1:Nat):Int):=dh (by omega);refine aR fun K' hK=> ?_
       simp[s37];apply hK;clear K' hK;refine aC fun A B hA hB=> ?_
       simp;refine⟨fun hk2=>hA ?_,fun hk2=>hB ?_⟩<;>clear hA hB A B<;>(try simp at hk2)<;>(try with_reducible refine aK ?_)
       ·have hk5:k<5:=(by omega);obtain⟨hix,hsz⟩:=RI k hk5;have hst:=Ov b hk5;have hql:=J6 b k;generalize hL:L7++bdS b k=L at*;have hLl:L.length≤45:=(by rw[←hL,List.length_append];omega);apply aB;refine aR fun K' hK=> ?_
        simp[-CS,s36,s37,hix];apply hK;clear K' hK;have p0:¬nx=ny:=(by omega);have p4:¬r4=ny:=(by omega);have pq:¬q=ny:=(by omega);by_cases hop:(nth mF k).1=b.op
        ·skip;refine aR fun K' hK=> ?_
         simp[s9,gp,p0,hop];apply hK;clear K' hK;refine aU (by simp[hop]) ?_
         have hb1:L.length+1≤9223372036854775807:=(by omega);have hb2:(L.length+1)*16≤140737488355328:=(by omega);have hfit:Fits (nth mF k).2 (prV b.ver):=by
          have:=Hg b.ver;simp only[Fits];omega
         have pq1:¬q=ny+1:=(by omega);refine aR fun K' hK=> ?_
         simp[s7,g7,s10,pq,pq1,hfit,bQ,dA,hb1,hb2,Nat.add_assoc];apply hK;clear K' hK;apply aj
         refine ah ?_;refine aS fun K' hK=> ?_
         simp[s37,hwk];apply hK;clear K' hK;have e1:L7++bdS b (k+1)=L++[(nth mF k).2++prV b.ver]:=(by rw[hst,if_pos hop,←List.append_assoc,hL]);have q0:¬nx=ny+1:=(by omega);have q1:¬nx=ny+2:=(by omega);have q2:¬r4=ny+1:=(by omega);have q3:¬r4=ny+2:=(by omega);have q4:¬r4=q:=(by omega);have q5:¬nx=q:=(by omega);refine aj (ay ?_ ?_)
         ·refine⟨by simp[s18],by simp[s19],by simp[s20],by simp[s4],by simp[p4,q2,q3,q4,g4],by simp[s24],by simp[s25],by simp[s26],by simp[s9],by simp[p0,q0,q1,q5,gp],by simp[s10],by simp[s36],k+1,ny+2,by simp[hwk],by omega,by omega,by omega,by simp[e1],?_⟩;rw[Hp.bW,e1,←dV];rfl
         ·simp[s37,hwk];omega
        ·skip;refine aR fun K' hK=> ?_
         simp[s9,gp,p0,hop];apply hK;clear K' hK;refine aVk (by simp[hop]) ?_;apply aj
         refine ah ?_;refine aS fun K' hK=> ?_
         simp[s37,hwk];apply hK;clear K' hK;have e1:L7++bdS b (k+1)=L:=(by rw[hst,if_neg hop,List.append_nil,hL]);refine aj (ay ?_ ?_)
         ·exact⟨by simp[s18],by simp[s19],by simp[s20],by simp[s4],by simp[p4,g4],by simp[s24],by simp[s25],by simp[s26],by simp[s9],by simp[p0,gp],by simp[s10],by simp[s36],k+1,q,by simp[hwk],by omega,h74,h7p,by simp[e1,s7],by simp[e1,pq,g7]⟩
         ·simp[s37,hwk];omega
       ·skip;apply bG
        refine aI (aH ?_);have hk5:k=5:=(by omega);subst hk5;rw[←hnext]at s7 g7;apply aj
        refine ah ?_;refine aS fun K' hK=> ?_
        simp[s26,hwj];apply hK;clear K' hK;refine aj (ay ?_ ?_)
        ·exact⟨by simp[s18],by simp[s19],by simp[s20],by simp[s4],by simp[g4],by simp[s24],by simp[s25],j+1,q,by simp[hwj],by omega,h74,by simp[s7],by simp[g7]⟩
        ·simp[o26,s26,hwj];omega
     ·skip;apply bG
      refine aI (aH ?_);rw[List.take_of_length_le (by omega)]at s7 g7;have hBl:=uT l;have hBs:∀x∈DU l,x.size≤1000100:=fun x hx=>Dt hA hx;have n47:¬r4=r7:=fun e=>h74 e.symm;have n4:¬r4=nx:=(by omega);have n4a:¬r4=nx+1:=(by omega);have n7:¬r7=nx:=(by omega);have n7a:¬r7=nx+1:=(by omega);have halt:IW l=ofL (Lib.join ((qp (DU l)).map bsL) [32]):=rfl;have haz:=Ci hA h8l;generalize DU l=L at*;apply aA;refine uo ?_
      refine fC (fun s G ny=>s 18=rowT Alt.cells r∧s 19=iV r.length∧s 20=iV i∧s 4=.row r4 i∧G r4=some (.row 9 (flat sC L4))∧ny<ny+1∧r4<ny∧∃q,q≠r4∧q<ny∧s 7=.row q (qp L).length∧G q=some (.row 9 (flat sC (qp L)))) ?_ ?_
      ·by_cases hL:L=[]
       ·subst hL;refine aR fun K' hK=> ?_
        simp[s7,g7];apply hK;clear K' hK;refine aU (by simp) ?_;refine aR fun K' hK=> ?_
        simp[s7,g7,n7,bQ,dA];apply hK;clear K' hK;with_reducible refine bP ?_
        exact⟨by simp[s18],by simp[s19],by simp[s20],by simp[s4],by simp[n4,n4a,n47,g4],by omega,by omega,nx+1,by omega,by omega,by simp[qp],by simp[qp];rfl⟩
       ·have hL0:¬L.length=0:=fun h=>hL (List.eq_nil_of_length_eq_zero h);refine aR fun K' hK=> ?_
        simp[s7,g7,hL0];apply hK;clear K' hK;refine aVk (by simp[hL0]) ?_;refine bP ?_
        exact⟨by simp[s18],by simp[s19],by simp[s20],by simp[s4],by simp[g4],by omega,by omega,r7,h74,by omega,by simp[qp,hL,s7],by simp[qp,hL,g7]⟩
      ·clear s18 s19 s20 s4 g4 s24 s25 s26 s7 g7 hf hlt4 hlt7 n4 n4a n7 n7a n47;rintro s G ny ⟨s18,s19,s20,s4,g4,-,hlt4,q,hq4,hltq,s7,g7⟩;have hSl:(qp L).length≤41:=DJ (by omega);have hSs:=yj hBs;generalize qp L=L at*;have hjl:(Lib.join (L.map bsL) (bsL ⟨#[32]⟩)).length≤140737488355328:=by
        have:=Fh (L:=L) (sep:=bsL ⟨#[32]⟩) (by decide) hSl hSs;omega
       have n4:¬r4=ny:=(by omega);have n4a:¬r4=ny+1:=(by omega);have hb1:i+1≤9223372036854775807:=(by omega);have hb2:(i+1)*16≤140737488355328:=(by omega);have hc9:Tryz.prog.cellsOf 9=1:=(by kernel_rfl);refine aS fun K' hK=> ?_
       simp[s7,g7];refine ak (QH L ⟨#[32]⟩ (by omega) hjl) rfl (by simp[dN (P:=Tryz.prog) g7 hc9 rfl]) ?_;simp[s4,g4,n4,n4a,hL4l,bQ,dA,Oa,hb1,hb2];apply hK;clear K' hK;apply aj
       refine ah ?_;refine aS fun K' hK=> ?_
       simp[s20,hw];apply hK;clear K' hK;refine aj (ay ?_ ?_)
       ·refine⟨by simp[s18],by simp[s19],i+1,ny+1,by simp[hw],by omega,by simp,?_⟩;rw[hsnoc,halt,Hp.bW,←dV];rfl
       ·simp[o20,s20,hw];omega
   ·skip;apply bG
    refine aI (aH ?_);have hi8:i=r.length:=(by omega);subst hi8;rw[List.take_length]at g4;have hjl:(Lib.join ((r.map IW).map bsL) (bsL ⟨#[32,124,124,32]⟩)).length≤140737488355328:=by
     have:=Fh (L:=r.map IW) (sep:=bsL ⟨#[32,124,124,32]⟩) (n:=8) (m:=41*1000104) (by decide) (by rw[List.length_map];exact h8.1) (fun x hx=>by
      obtain⟨l,hl,rfl⟩:=List.mem_map.1 hx;exact Ci (hr.2 l hl) (h8.2 l hl))
     omega
    have hll:r.length=(r.map IW).length:=(by simp);have hc9:Tryz.prog.cellsOf 9=1:=(by kernel_rfl);refine aR fun K' hK=> ?_
    simp[s4,g4];refine ak (QH (r.map IW) ⟨#[32,124,124,32]⟩ (by rw[List.length_map];omega) hjl) rfl (by simp[dN (P:=Tryz.prog) g4 hc9 hll]) ?_;simp;apply hK;clear K' hK;apply aF
    simp[au,aG,Post,aW,res1,bF,bC,aP,bg,bf,okT,okA,ok1,rowOf,Tryz.f143];refine⟨?_,c1⟩;rw[prR,if_pos c1,List.map_map];rfl
 ·simp[c1];apply hK;clear K' hK;refine aX (by simp) ?_;apply aA;refine aR fun K' hK=> ?_
  simp;apply hK;clear K' hK;apply aJ
  simp[au,aG,Post,aW,res1,bF,bC,aP,bg,bf,okT,okA,ok1,rowOf,Tryz.f143];simp[prR,c1]
set_option maxRecDepth 100000
set_option maxHeartbeats 4000000
theorem vg (a:Int):CallsOK Tryz.prog 144 [iV a] (bV false) []:=by
 refine aN mixed Tryz.call144 Tryz.func144 rfl (by rw[Tryz.ntmps144];simp) ?_ rfl;rw[Tryz.ntmps144];refine aR fun K' hK=> ?_
 simp;apply hK;clear K' hK;refine aR fun K' hK=> ?_
 simp;apply hK;clear K' hK;apply aF
 simp[au,aG,Post,aW,res1,bF,bC,aP,bg,bf,okT,okA,ok1,rowOf,Tryz.f144]
theorem Q8 (a b:Int):CallsOK Tryz.prog 101 [iV a,iV b] (iV (gB a b)) []:=by
 refine aN mixed Tryz.call101 Tryz.func101 rfl (by rw[Tryz.ntmps101];simp) ?_ rfl;rw[Tryz.ntmps101];refine aR fun K' hK=> ?_
 simp;apply hK;clear K' hK;refine aR fun K' hK=> ?_
 simp;refine ak (vg a) rfl (by simp) ?_;simp;apply hK;clear K' hK;refine aR fun K' hK=> ?_
 simp;refine ak (vg b) rfl (by simp) ?_;simp;apply hK;clear K' hK;apply aA;refine aR fun K' hK=> ?_
 simp;apply hK;clear K' hK;refine aYk (by simp) ?_;apply aA;refine aR fun K' hK=> ?_
 simp;apply hK;clear K' hK;refine aYk (by simp) ?_;apply aA;refine aR fun K' hK=> ?_
 simp;apply hK;clear K' hK;refine aC fun A B hA hB=> ?_
 simp;refine⟨fun h1=>hA ?_,fun h1=>hB ?_⟩<;>clear hA hB A B<;>(try simp at h1)<;>(try with_reducible refine aK ?_)
 ·refine aA ?_;refine aR fun K' hK=> ?_
  simp;apply hK;clear K' hK;apply aJ
  simp[au,aG,Post,aW,res1,bF,bC,aP,bg,bf,okT,okA,ok1,rowOf,Tryz.f101];simp[gB,h1]
 ·refine aA ?_;refine aR fun K' hK=> ?_
  simp;apply hK;clear K' hK;refine aC fun A B hA hB=> ?_
  simp;refine⟨fun h2=>hA ?_,fun h2=>hB ?_⟩<;>clear hA hB A B<;>(try simp at h2)<;>(try with_reducible refine aK ?_)
  ·refine aA ?_;refine aR fun K' hK=> ?_
   simp;apply hK;clear K' hK;apply aJ
   simp[au,aG,Post,aW,res1,bF,bC,aP,bg,bf,okT,okA,ok1,rowOf,Tryz.f101];simp[gB,h1,h2]
  ·skip;refine aR fun K' hK=> ?_
   simp;apply hK;clear K' hK;apply aF
   simp[au,aG,Post,aW,res1,bF,bC,aP,bg,bf,okT,okA,ok1,rowOf,Tryz.f101];simp only[gB];rw[if_neg (by omega),if_neg (by omega)]
def iM (n:Bs) (r:Rg):Bool:=tH r&&jq (bsL n)
theorem pY (n:Bs) (r:Rg) (hn:n.size≤1000000) (hr:Rg.sz r):CallsOK Tryz.prog 99 [sV n,.agg r.cells] (bV (iM n r)) []:=by
 refine aN mixed Tryz.call99 Tryz.func99 rfl (by rw[Tryz.ntmps99];simp) ?_ rfl;rw[Tryz.ntmps99];refine aR fun K' hK=> ?_
 simp;apply hK;clear K' hK;refine aR fun K' hK=> ?_
 simp;refine ak (Fb r hr) rfl (by simp[Rg.cells]) ?_;simp;apply hK;clear K' hK;by_cases h:tH r=true
 ·skip;refine aR fun K' hK=> ?_
  simp[h];refine ak (vC n (by omega)) rfl (by simp) ?_;simp;apply hK;clear K' hK;apply aF
  simp[au,aG,Post,aW,res1,bF,bC,aP,bg,bf,okT,okA,ok1,rowOf,Tryz.f99];simp[iM,h]
 ·skip;refine aR fun K' hK=> ?_
  simp[h];apply hK;clear K' hK;apply aF
  simp[au,aG,Post,aW,res1,bF,bC,aP,bg,bf,okT,okA,ok1,rowOf,Tryz.f99];simp[iM,h]
def kZ (root:Bool) (d:Dep):Bool:=decide (1≤d.kind∧d.kind≤4)&&(root || !decide (d.kind=2))
def zD (a b:Dep):Bool:=decide (orN [gB a.kind b.kind,lX a.name b.name]<0)
def xJ (root:Bool) (ds:List Dep) (i:Nat):Bool:=kZ root (nth ds i)&&(iM (nth ds i).name (nth ds i).range&&(decide (i=0) || zD (nth ds (i-1)) (nth ds i)))
def Oh (rs:List Ru) (i:Nat):Bool:=iM (nth rs i).name (nth rs i).range&&(decide (i=0) || ltB (nth rs (i-1)).name (nth rs i).name)
def fM (m:Man) (root:Bool):Bool:=fD m.ver&&((jq (bsL m.name) || (decide (m.name=⟨#[]⟩)&&root))&&(decide (m.rules.length=0) || root))
def eu (m:Man) (root:Bool):Bool:=fM m root&&((List.range m.deps.length).all (xJ root m.deps)&&(List.range m.rules.length).all (Oh m.rules))
theorem sU {p:Nat→Bool} {i n:Nat} (hi:i<n) (h:p i=false):(List.range n).all p=false:=by
 cases e:(List.range n).all p with
 | false=>rfl
 | true=>rw[List.all_eq_true.1 e i (List.mem_range.2 hi)]at h;cases h
theorem nY {p:Nat→Bool} {i:Nat} (h0:(List.range i).all p=true) (h:p i=true):(List.range (i+1)).all p=true:=by
 rw[List.range_succ,List.all_append,h0];simp[h]
def Man.sz (m:Man):Prop:=m.name.size≤1000000∧m.ver.pre.size≤1000000∧(m.deps.length≤1000000000∧∀d∈m.deps,d.name.size≤1000000∧Rg.sz d.range)∧(m.rules.length≤1000000000∧∀d∈m.rules,d.name.size≤1000000∧Rg.sz d.range)
theorem FM (m:Man) (hm:Man.sz m) (root:Bool):CallsOK Tryz.prog 51 [.agg m.cells,bV root] (bV (eu m root)) []:=by
 refine aN mixed Tryz.call51 Tryz.func51 rfl (by rw[Tryz.ntmps51];simp) ?_ rfl;rw[Tryz.ntmps51];obtain⟨hmn,hmv,⟨hdl,hd⟩,⟨hul,hu⟩⟩:=hm;refine aR fun K' hK=> ?_
 simp;apply hK;clear K' hK;apply aA;refine aR fun K' hK=> ?_
 simp;refine ak (jY m.ver (by omega)) rfl (by simp) ?_;simp;apply hK;clear K' hK;by_cases c1:fD m.ver=true
 ·skip;apply aA;refine uo ?_
  refine Ar (fun s G nx=>fM m root=true∧s 2=.ptr 0 0∧G 0=some (.var 27 m.cells)∧s 1=bV root) ?_ ?_
  ·skip;refine aR fun K' hK=> ?_
   refine bI 8 fun K2 hK2=> ?_;simp[c1];refine ak (vC m.name (by omega)) rfl (by simp) ?_;simp;refine hK2 _ _ _ ?_;clear K2 hK2;by_cases g:jq (bsL m.name)=true
   ·cases root with
    | true=>
     by_cases u:0<m.rules.length
     ·have u2:(0:Int)<(m.rules.length:Int):=(by omega);have u':¬m.rules=[]:=fun h=>(by rw[h]at u;simp at u);refine bI 9 fun K2 hK2=> ?_;simp[g,u,u2,u'];refine hK2 _ _ _ ?_;clear K2 hK2;simp[g,u,u2,u'];apply hK;clear K' hK;refine aVk (by simp) ?_;refine kX ?_
      exact⟨by simp[fM,c1,g,u,u2,u'],by simp,by simp,by simp⟩
     ·have u2:¬(0:Int)<(m.rules.length:Int):=(by omega);have u':m.rules=[]:=List.eq_nil_of_length_eq_zero (by omega);refine bI 9 fun K2 hK2=> ?_;simp[g,u,u2,u'];refine hK2 _ _ _ ?_;clear K2 hK2;simp[g,u,u2,u'];apply hK;clear K' hK;refine aVk (by simp) ?_;refine kX ?_
      exact⟨by simp[fM,c1,g,u,u2,u'],by simp,by simp,by simp⟩
    | false=>
     by_cases u:0<m.rules.length
     ·have u2:(0:Int)<(m.rules.length:Int):=(by omega);have u':¬m.rules=[]:=fun h=>(by rw[h]at u;simp at u);refine bI 9 fun K2 hK2=> ?_;simp[g,u,u2,u'];refine hK2 _ _ _ ?_;clear K2 hK2;simp[g,u,u2,u'];apply hK;clear K' hK;refine aU (by simp) ?_;apply aA;refine aR fun K' hK=> ?_
      simp;apply hK;clear K' hK;apply aJ
      simp[au,aG,Post,aW,res1,bF,bC,aP,bg,bf,okT,okA,ok1,rowOf,Tryz.f51,DR];simp[eu,fM,c1,g,u,u2,u']
     ·have u2:¬(0:Int)<(m.rules.length:Int):=(by omega);have u':m.rules=[]:=List.eq_nil_of_length_eq_zero (by omega);refine bI 9 fun K2 hK2=> ?_;simp[g,u,u2,u'];refine hK2 _ _ _ ?_;clear K2 hK2;simp[g,u,u2,u'];apply hK;clear K' hK;refine aVk (by simp) ?_;refine kX ?_
      exact⟨by simp[fM,c1,g,u,u2,u'],by simp,by simp,by simp⟩
   ·by_cases e:m.name=⟨#[]⟩
    ·cases root with
     | true=>
      by_cases u:0<m.rules.length
      ·have u2:(0:Int)<(m.rules.length:Int):=(by omega);have u':¬m.rules=[]:=fun h=>(by rw[h]at u;simp at u);refine bI 9 fun K2 hK2=> ?_;simp[g,e,u,u2,u'];refine hK2 _ _ _ ?_;clear K2 hK2;simp[g,e,u,u2,u'];apply hK;clear K' hK;refine aVk (by simp) ?_;refine kX ?_
       exact⟨by simp[fM,c1,g,e,u,u2,u'],by simp,by simp,by simp⟩
      ·have u2:¬(0:Int)<(m.rules.length:Int):=(by omega);have u':m.rules=[]:=List.eq_nil_of_length_eq_zero (by omega);refine bI 9 fun K2 hK2=> ?_;simp[g,e,u,u2,u'];refine hK2 _ _ _ ?_;clear K2 hK2;simp[g,e,u,u2,u'];apply hK;clear K' hK;refine aVk (by simp) ?_;refine kX ?_
       exact⟨by simp[fM,c1,g,e,u,u2,u'],by simp,by simp,by simp⟩
     | false=>
      refine bI 9 fun K2 hK2=> ?_;simp[g,e];refine hK2 _ _ _ ?_;clear K2 hK2;simp[g,e];apply hK;clear K' hK;refine aU (by simp) ?_;apply aA;refine aR fun K' hK=> ?_
      simp;apply hK;clear K' hK;apply aJ
      simp[au,aG,Post,aW,res1,bF,bC,aP,bg,bf,okT,okA,ok1,rowOf,Tryz.f51,DR];simp[eu,fM,c1,g]
    ·skip;refine bI 9 fun K2 hK2=> ?_;simp[g,e];refine hK2 _ _ _ ?_;clear K2 hK2;simp[g,e];apply hK;clear K' hK;refine aU (by simp) ?_;apply aA;refine aR fun K' hK=> ?_
     simp;apply hK;clear K' hK;apply aJ
     simp[au,aG,Post,aW,res1,bF,bC,aP,bg,bf,okT,okA,ok1,rowOf,Tryz.f51,DR];simp[eu,fM,c1,g,e]
  rintro s G nx ⟨hh,s2,g0,s1⟩;apply aA;refine aR fun K' hK=> ?_
  simp[s2,g0];apply hK;clear K' hK;apply aB
  refine bH (fun s G nx=>G 0=some (.var 27 m.cells)∧s 2=.ptr 0 0∧s 1=bV root∧s 45=rowT Dep.cells m.deps∧s 46=iV m.deps.length∧∃i:Nat,s 47=iV i∧i≤m.deps.length∧(List.range i).all (xJ root m.deps)=true) (fun s _ _=>match s 47 with | .v (.int _ n)=>m.deps.length-n.toNat | _=>0) ?_ ?_
  ·exact⟨by simp[g0],by simp[s2],by simp[s1],by simp,by simp,0,by simp,by omega,by simp⟩
  ·clear s1 s2 g0;rintro s G nx hf ⟨g0,s2,s1,s45,s46,i,s47,hi,ht⟩;have o47:=s47;have n0:¬0=nx:=(by have:=cO hf g0;omega);have hw:IntKind.i64.wrap (↑i+1)=((i+1:Nat):Int):=dh (by omega);refine aR fun K' hK=> ?_
   simp[s46,s47];apply hK;clear K' hK;refine aC fun A B hA hB=> ?_
   simp;refine⟨fun hi2=>hA ?_,fun hi2=>hB ?_⟩<;>clear hA hB A B<;>(try simp at hi2)<;>(try with_reducible refine aK ?_)
   ·have hdd:=hd _ (bM hi2);have hfalse:xJ root m.deps i=false→eu m root=false:=fun h=>(by rw[eu,sU hi2 h];simp);have hstep:=nY (p:=xJ root m.deps) ht;have hdef:xJ root m.deps i=(kZ root (nth m.deps i)&&(iM (nth m.deps i).name (nth m.deps i).range&&(decide (i=0) || zD (nth m.deps (i-1)) (nth m.deps i)))):=rfl;generalize hgd:nth m.deps i=d at*;apply aB;refine aR fun K' hK=> ?_
    simp[s45,s47,hi2,hgd];apply hK;clear K' hK;apply aA;refine uo ?_
    refine Ar (fun s G ny=>kZ root d=true∧iM d.name d.range=true∧G 0=some (.var 27 m.cells)∧s 2=.ptr 0 0∧s 1=bV root∧s 45=rowT Dep.cells m.deps∧s 46=iV m.deps.length∧s 47=iV i∧s 7=iV i∧s 8=.ptr nx 0∧G nx=some (.var 35 d.cells)∧nx<ny) ?_ ?_
    ·have hret:kZ root d=false→eu m root=false:=fun h=>hfalse (by rw[hdef,h];rfl);have hret2:iM d.name d.range=false→eu m root=false:=fun h=>hfalse (by rw[hdef,h];simp);by_cases k1:d.kind<1
     ·skip;refine aR fun K' hK=> ?_
      simp[k1];apply hK;clear K' hK;refine aU (by simp) ?_;apply aA;refine aR fun K' hK=> ?_
      simp;apply hK;clear K' hK;apply aJ
      simp[au,aG,Post,aW,res1,bF,bC,aP,bg,bf,okT,okA,ok1,rowOf,Tryz.f51,DR];exact hret (by simp[kZ];omega)
     ·by_cases k4:4<d.kind
      ·skip;refine aR fun K' hK=> ?_
       simp[k1,k4];apply hK;clear K' hK;refine aU (by simp) ?_;apply aA;refine aR fun K' hK=> ?_
       simp;apply hK;clear K' hK;apply aJ
       simp[au,aG,Post,aW,res1,bF,bC,aP,bg,bf,okT,okA,ok1,rowOf,Tryz.f51,DR];exact hret (by simp[kZ];omega)
      ·by_cases k2:d.kind=2
       ·cases root with
        | false=>
         refine aR fun K' hK=> ?_
         simp[k1,k4,k2,s1];apply hK;clear K' hK;refine aU (by simp) ?_;apply aA;refine aR fun K' hK=> ?_
         simp;apply hK;clear K' hK;apply aJ
         simp[au,aG,Post,aW,res1,bF,bC,aP,bg,bf,okT,okA,ok1,rowOf,Tryz.f51,DR];exact hret (by simp[kZ,k2])
        | true=>
         refine aR fun K' hK=> ?_
         simp[k1,k4,k2,s1];refine ak (pY d.name d.range hdd.1 hdd.2) rfl (by simp[Rg.cells]) ?_;by_cases hru:iM d.name d.range=true
         ·simp[hru];apply hK;clear K' hK;refine aVk (by simp) ?_;refine kX ?_
          exact⟨by simp[kZ,k2],hru,by simp[n0,g0],by simp[s2],by simp[s1],by simp[s45],by simp[s46],by simp[s47],by simp[s47],by simp,by simp,by omega⟩
         ·simp[hru];apply hK;clear K' hK;refine aU (by simp) ?_;apply aA;refine aR fun K' hK=> ?_
          simp;apply hK;clear K' hK;apply aJ
          simp[au,aG,Post,aW,res1,bF,bC,aP,bg,bf,okT,okA,ok1,rowOf,Tryz.f51,DR];exact hret2 (by simpa using hru)
       ·skip;refine aR fun K' hK=> ?_
        simp[k1,k4,k2];refine ak (pY d.name d.range hdd.1 hdd.2) rfl (by simp[Rg.cells]) ?_;by_cases hru:iM d.name d.range=true
        ·simp[hru];apply hK;clear K' hK;refine aVk (by simp) ?_;refine kX ?_
         exact⟨by simp[kZ,k2];omega,hru,by simp[n0,g0],by simp[s2],by simp[s1],by simp[s45],by simp[s46],by simp[s47],by simp[s47],by simp,by simp,by omega⟩
        ·simp[hru];apply hK;clear K' hK;refine aU (by simp) ?_;apply aA;refine aR fun K' hK=> ?_
         simp;apply hK;clear K' hK;apply aJ
         simp[au,aG,Post,aW,res1,bF,bC,aP,bg,bf,okT,okA,ok1,rowOf,Tryz.f51,DR];exact hret2 (by simpa using hru)
    ·clear s1 s2 g0 s45 s46 s47 hf n0;rintro s G ny ⟨hk,hru,g0,s2,s1,s45,s46,s47,s7,s8,gd,hny⟩;have n0:¬0=ny:=(by omega);by_cases hz:i=0
     ·have hz':¬(0:Int)<(i:Int):=(by omega);have hz2:¬0<i:=(by omega);refine aQ fun K' hK=> ?_
      refine bI 12 fun K2 hK2=> ?_;simp[s7,hz',hz2];refine hK2 _ _ _ ?_;clear K2 hK2;refine bI 10 fun K2 hK2=> ?_;simp[hz',hz2];refine hK2 _ _ _ ?_;clear K2 hK2;simp[hz',hz2];apply hK;clear K' hK;refine aVk (by simp) ?_;apply aj
      refine ah ?_;refine aS fun K' hK=> ?_
      simp[s47,hw];apply hK;clear K' hK;refine aj (ay ?_ ?_)
      ·exact⟨by simp[g0],by simp[s2],by simp[s1],by simp[s45],by simp[s46],i+1,by simp[hw],by omega,hstep (by rw[hdef,hk,hru];simp[hz])⟩
      ·simp[o47,s47,hw];omega
     ·obtain⟨p,hp⟩:∃p,i=p+1:=⟨i-1,by omega⟩;have hz':(0:Int)<(i:Int):=(by omega);have hz2:0<i:=(by omega);have hsub:IntKind.i64.wrap ((i:Int)-1)=(p:Int):=(by rw[wrap64 (by omega) (by omega)];omega);have hpl:p<m.deps.length:=(by omega);have hip:i-1=p:=(by omega);rw[hip]at hdef;refine aQ fun K' hK=> ?_
      refine bI 12 fun K2 hK2=> ?_;simp[s7,s2,g0,s8,gd,hz',hz2,hsub,hpl];refine hK2 _ _ _ ?_;clear K2 hK2;refine bI 10 fun K2 hK2=> ?_;simp;refine ak (Q8 (nth m.deps p).kind d.kind) rfl (by simp) ?_;simp[s7,s2,g0,s8,gd,hz',hz2,hsub,hpl];refine hK2 _ _ _ ?_;clear K2 hK2;simp;refine ak (Ei (nth m.deps p).name d.name) rfl (by simp) ?_;simp;refine ak (Td [gB (nth m.deps p).kind d.kind,lX (nth m.deps p).name d.name] (by simp)) rfl (by simp[bQ];rfl) ?_;by_cases hlt:orN [gB (nth m.deps p).kind d.kind,lX (nth m.deps p).name d.name]<0
      ·have h0:¬0≤orN [gB (nth m.deps p).kind d.kind,lX (nth m.deps p).name d.name]:=(by omega);simp[h0];apply hK;clear K' hK;refine aVk (by simp) ?_;apply aj
       refine ah ?_;refine aS fun K' hK=> ?_
       simp[s47,hw];apply hK;clear K' hK;refine aj (ay ?_ ?_)
       ·exact⟨by simp[n0,g0],by simp[s2],by simp[s1],by simp[s45],by simp[s46],i+1,by simp[hw],by omega,hstep (by rw[hdef,hk,hru];simp[zD,hlt])⟩
       ·simp[o47,s47,hw];omega
      ·have h0:0≤orN [gB (nth m.deps p).kind d.kind,lX (nth m.deps p).name d.name]:=(by omega);simp[h0];apply hK;clear K' hK;refine aU (by simp) ?_;apply aA;refine aR fun K' hK=> ?_
       simp;apply hK;clear K' hK;apply aJ
       simp[au,aG,Post,aW,res1,bF,bC,aP,bg,bf,okT,okA,ok1,rowOf,Tryz.f51];exact hfalse (by rw[hdef,hk,hru];simp[zD,hlt,hz])
   ·skip;apply bG
    refine aI (aH ?_);have hi8:i=m.deps.length:=(by omega);subst hi8;have hdall:=ht;clear ht o47;apply aA;refine aR fun K' hK=> ?_
    simp[s2,g0];apply hK;clear K' hK;apply aB
    refine bH (fun s G nx=>G 0=some (.var 27 m.cells)∧s 2=.ptr 0 0∧s 106=rowT Ru.cells m.rules∧s 107=iV m.rules.length∧∃i:Nat,s 108=iV i∧i≤m.rules.length∧(List.range i).all (Oh m.rules)=true) (fun s _ _=>match s 108 with | .v (.int _ n)=>m.rules.length-n.toNat | _=>0) ?_ ?_
    ·exact⟨by simp[g0],by simp[s2],by simp,by simp,0,by simp,by omega,by simp⟩
    ·clear s1 s2 g0 s45 s46 s47 hf n0 hw;rintro s G nx hf ⟨g0,s2,s106,s107,i,s108,hi,ht⟩;have o108:=s108;have n0:¬0=nx:=(by have:=cO hf g0;omega);have hw:IntKind.i64.wrap (↑i+1)=((i+1:Nat):Int):=dh (by omega);refine aR fun K' hK=> ?_
     simp[s107,s108];apply hK;clear K' hK;refine aC fun A B hA hB=> ?_
     simp;refine⟨fun hi2=>hA ?_,fun hi2=>hB ?_⟩<;>clear hA hB A B<;>(try simp at hi2)<;>(try with_reducible refine aK ?_)
     ·have hdd:=hu _ (bM hi2);have hfalse:Oh m.rules i=false→eu m root=false:=fun h=>(by rw[eu,sU hi2 h];simp);have hstep:=nY (p:=Oh m.rules) ht;have hdef:Oh m.rules i=(iM (nth m.rules i).name (nth m.rules i).range&&(decide (i=0) || ltB (nth m.rules (i-1)).name (nth m.rules i).name)):=rfl;generalize hgd:nth m.rules i=d at*;apply aB;refine aR fun K' hK=> ?_
      simp[s106,s108,hi2,hgd];apply hK;clear K' hK;refine aQ fun K' hK=> ?_
      refine bI 7 fun K2 hK2=> ?_;simp;refine ak (pY d.name d.range hdd.1 hdd.2) rfl (by simp[Rg.cells]) ?_;simp;refine hK2 _ _ _ ?_;clear K2 hK2;by_cases hru:iM d.name d.range=true
      ·by_cases hz:i=0
       ·have hz':¬(0:Int)<(i:Int):=(by omega);have hz2:¬0<i:=(by omega);refine bI 7 fun K2 hK2=> ?_;simp[hru,hz',hz2];refine hK2 _ _ _ ?_;clear K2 hK2;simp[hru,hz',hz2];apply hK;clear K' hK;refine aVk (by simp) ?_;apply aj
        refine ah ?_;refine aS fun K' hK=> ?_
        simp[s108,hw];apply hK;clear K' hK;refine aj (ay ?_ ?_)
        ·exact⟨by simp[n0,g0],by simp[s2],by simp[s106],by simp[s107],i+1,by simp[hw],by omega,hstep (by rw[hdef,hru];simp[hz])⟩
        ·simp[o108,s108,hw];omega
       ·obtain⟨p,hp⟩:∃p,i=p+1:=⟨i-1,by omega⟩;have hz':(0:Int)<(i:Int):=(by omega);have hz2:0<i:=(by omega);have hsub:IntKind.i64.wrap ((i:Int)-1)=(p:Int):=(by rw[wrap64 (by omega) (by omega)];omega);have hpl:p<m.rules.length:=(by omega);have hip:i-1=p:=(by omega);rw[hip]at hdef;by_cases hlt:ltB (nth m.rules p).name d.name=true
        ·refine bI 7 fun K2 hK2=> ?_;simp[hru,hz',hz2,s2,g0,n0,hsub,hpl,hlt];refine hK2 _ _ _ ?_;clear K2 hK2;simp[hru,hz',hz2,s2,g0,n0,hsub,hpl,hlt];apply hK;clear K' hK;refine aVk (by simp) ?_;apply aj
         refine ah ?_;refine aS fun K' hK=> ?_
         simp[s108,hw];apply hK;clear K' hK;refine aj (ay ?_ ?_)
         ·exact⟨by simp[n0,g0],by simp[s2],by simp[s106],by simp[s107],i+1,by simp[hw],by omega,hstep (by rw[hdef,hru];simp[hlt])⟩
         ·simp[o108,s108,hw];omega
        ·refine bI 7 fun K2 hK2=> ?_;simp[hru,hz',hz2,s2,g0,n0,hsub,hpl,hlt];refine hK2 _ _ _ ?_;clear K2 hK2;simp[hru,hz',hz2,s2,g0,n0,hsub,hpl,hlt];apply hK;clear K' hK;refine aU (by simp) ?_;apply aA;refine aR fun K' hK=> ?_
         simp;apply hK;clear K' hK;apply aJ
         simp[au,aG,Post,aW,res1,bF,bC,aP,bg,bf,okT,okA,ok1,rowOf,Tryz.f51];exact hfalse (by rw[hdef,hru];simp[hlt,hz])
      ·refine bI 7 fun K2 hK2=> ?_;simp[hru];refine hK2 _ _ _ ?_;clear K2 hK2;simp[hru];apply hK;clear K' hK;refine aU (by simp) ?_;apply aA;refine aR fun K' hK=> ?_
       simp;apply hK;clear K' hK;apply aJ
       simp[au,aG,Post,aW,res1,bF,bC,aP,bg,bf,okT,okA,ok1,rowOf,Tryz.f51];exact hfalse (by rw[hdef];simp[hru])
     ·skip;apply bG
      refine aI (aH ?_);have hi8:i=m.rules.length:=(by omega);subst hi8;refine aR fun K' hK=> ?_
      simp;apply hK;clear K' hK;apply aF
      simp[au,aG,Post,aW,res1,bF,bC,aP,bg,bf,okT,okA,ok1,rowOf,Tryz.f51];rw[eu,hh,hdall,ht];rfl
 ·refine aA ?_;refine aR fun K' hK=> ?_
  simp[c1];apply hK;clear K' hK;refine aX (by simp) ?_;apply aA;refine aR fun K' hK=> ?_
  simp;apply hK;clear K' hK;apply aJ
  simp[au,aG,Post,aW,res1,bF,bC,aP,bg,bf,okT,okA,ok1,rowOf,Tryz.f51,DR];simp[eu,fM,c1]
set_option maxRecDepth 100000
set_option maxHeartbeats 4000000
def dM (m:Man) (root:Bool):Int:=if 30<m.deps.length∨30<m.rules.length then 2 else if eu m root=true then 0 else 1
theorem wL (m:Man) (hm:Man.sz m) (root:Bool):CallsOK Tryz.prog 24 [.agg m.cells,bV root] (iV (dM m root)) []:=by
 refine aN mixed Tryz.call24 Tryz.func24 rfl (by rw[Tryz.ntmps24];simp) ?_ rfl;rw[Tryz.ntmps24];refine aR fun K' hK=> ?_
 simp;apply hK;clear K' hK;apply aB
 by_cases h1:(30:Int)<(m.deps.length:Int)
 ·skip;refine aR fun K' hK=> ?_
  simp[h1];apply hK;clear K' hK;refine aU (by simp) ?_;apply aA;refine aR fun K' hK=> ?_
  simp;apply hK;clear K' hK;apply aJ
  simp[au,aG,Post,aW,res1,bF,bC,aP,bg,bf,okT,okA,ok1,rowOf,Tryz.f24];rw[dM,if_pos (.inl (by omega))]
 ·by_cases h2:(30:Int)<(m.rules.length:Int)
  ·skip;refine aR fun K' hK=> ?_
   simp[h1,h2];apply hK;clear K' hK;refine aU (by simp) ?_;apply aA;refine aR fun K' hK=> ?_
   simp;apply hK;clear K' hK;apply aJ
   simp[au,aG,Post,aW,res1,bF,bC,aP,bg,bf,okT,okA,ok1,rowOf,Tryz.f24];rw[dM,if_pos (.inr (by omega))]
  ·skip;refine aR fun K' hK=> ?_
   simp[h1,h2];apply hK;clear K' hK;refine aV (by simp) ?_
   have hn:¬(30<m.deps.length∨30<m.rules.length):=(by omega);apply aA;refine aR fun K' hK=> ?_
   simp;refine ak (FM m hm root) rfl (by simp) ?_;by_cases h3:eu m root=true
   ·simp[h3];apply hK;clear K' hK;refine aYk (by simp) ?_;apply aj
    refine ah ?_;refine aR fun K' hK=> ?_
    simp;apply hK;clear K' hK;apply aF
    simp[au,aG,Post,aW,res1,bF,bC,aP,bg,bf,okT,okA,ok1,rowOf,Tryz.f24];rw[dM,if_neg hn,if_pos h3]
   ·simp[h3];apply hK;clear K' hK;refine aX (by simp) ?_;apply aA;refine aR fun K' hK=> ?_
    simp;apply hK;clear K' hK;apply aJ
    simp[au,aG,Post,aW,res1,bF,bC,aP,bg,bf,okT,okA,ok1,rowOf,Tryz.f24];rw[dM,if_neg hn,if_neg h3]
def kL (a b:Man):Int:=orN [lX a.name b.name,dS a.ver b.ver]
theorem Lj (a b:Man) (ha:a.ver.pre.size≤1000000) (hb:b.ver.pre.size≤1000000):CallsOK Tryz.prog 52 [.agg a.cells,.agg b.cells] (iV (kL a b)) []:=by
 refine aN mixed Tryz.call52 Tryz.func52 rfl (by rw[Tryz.ntmps52];simp) ?_ rfl;rw[Tryz.ntmps52];refine aR fun K' hK=> ?_
 simp;apply hK;clear K' hK;refine aQ fun K' hK=> ?_
 simp;refine ak (Ei a.name b.name) rfl (by simp) ?_;simp;refine ak (jr a.ver b.ver ha hb) rfl (by simp) ?_;simp;refine ak (Td [lX a.name b.name,dS a.ver b.ver] (by simp)) rfl (by simp[bQ];rfl) ?_;simp;apply hK;clear K' hK;apply aF
 simp[au,aG,Post,aW,res1,bF,bC,aP,bg,bf,okT,okA,ok1,rowOf,Tryz.f52];rfl
def uw (L:List Man) (i:Nat):Bool:=decide (dM (nth L i) false=0)&&(decide (i=0) || decide (kL (nth L (i-1)) (nth L i)<0))
def dK (L:List Man):Int:=if 100<L.length then 2 else if(List.range L.length).all (uw L)=true then 0 else 1
def Idx.sz (L:List Man):Prop:=L.length≤1000000000∧∀m∈L,Man.sz m
theorem D6 (L:List Man) (hL:Idx.sz L):CallsOK Tryz.prog 25 [rowT Man.cells L] (iV (dK L)) []:=by
 refine aN mixed Tryz.call25 Tryz.func25 rfl (by rw[Tryz.ntmps25];simp) ?_ rfl;rw[Tryz.ntmps25];have hl:=hL.1;refine aR fun K' hK=> ?_
 simp;apply hK;clear K' hK;apply aA;refine aR fun K' hK=> ?_
 simp;apply hK;clear K' hK;refine aC fun A B hA hB=> ?_
 simp;refine⟨fun h1=>hA ?_,fun h1=>hB ?_⟩<;>clear hA hB A B<;>(try simp at h1)<;>(try with_reducible refine aK ?_)
 ·refine aA ?_;refine aR fun K' hK=> ?_
  simp;apply hK;clear K' hK;apply aJ
  simp[au,aG,Post,aW,res1,bF,bC,aP,bg,bf,okT,okA,ok1,rowOf,Tryz.f25];rw[dK,if_pos (by omega)]
 ·refine aA ?_;refine aR fun K' hK=> ?_
  simp;apply hK;clear K' hK;have hn:¬100<L.length:=(by omega);apply aB
  refine bH (fun s G nx=>s 0=rowT Man.cells L∧s 8=rowT Man.cells L∧s 9=iV L.length∧∃i:Nat,s 10=iV i∧i≤L.length∧(List.range i).all (uw L)=true) (fun s _ _=>match s 10 with | .v (.int _ n)=>L.length-n.toNat | _=>0) ?_ ?_
  ·exact⟨by simp,by simp,by simp,0,by simp,by omega,by simp⟩
  ·rintro s G nx hf ⟨s0,s8,s9,i,s10,hi,ht⟩;have hw:IntKind.i64.wrap (↑i+1)=((i+1:Nat):Int):=dh (by omega);refine aR fun K' hK=> ?_
   simp[s9,s10];apply hK;clear K' hK;refine aC fun A B hA hB=> ?_
   simp;refine⟨fun hi2=>hA ?_,fun hi2=>hB ?_⟩<;>clear hA hB A B<;>(try simp at hi2)<;>(try with_reducible refine aK ?_)
   ·have hdd:=hL.2 _ (bM hi2);have hfalse:uw L i=false→dK L=1:=fun h=>(by rw[dK,if_neg hn,sU hi2 h];rfl);have hstep:=nY (p:=uw L) ht;have hdef:uw L i=(decide (dM (nth L i) false=0)&&(decide (i=0) || decide (kL (nth L (i-1)) (nth L i)<0))):=rfl;generalize hgd:nth L i=d at*;apply aB;refine aR fun K' hK=> ?_
    simp[s8,s10,hi2,hgd];apply hK;clear K' hK;refine aQ fun K' hK=> ?_
    refine bI 4 fun K2 hK2=> ?_;simp;refine ak (wL d hdd false) rfl (by simp) ?_;simp;refine hK2 _ _ _ ?_;clear K2 hK2;by_cases hc:dM d false=0
    ·by_cases hz:i=0
     ·have hz':¬(0:Int)<(i:Int):=(by omega);have hz2:¬0<i:=(by omega);refine bI 8 fun K2 hK2=> ?_;simp[hc,hz',hz2];refine hK2 _ _ _ ?_;clear K2 hK2;simp[hc,hz',hz2];apply hK;clear K' hK;refine aVk (by simp) ?_;apply aj
      refine ah ?_;refine aS fun K' hK=> ?_
      simp[s10,hw];apply hK;clear K' hK;refine aj (ay ?_ ?_)
      ·exact⟨by simp[s0],by simp[s8],by simp[s9],i+1,by simp[hw],by omega,hstep (by rw[hdef,hc];simp[hz])⟩
      ·simp[s10,hw];omega
     ·obtain⟨p,hp⟩:∃p,i=p+1:=⟨i-1,by omega⟩;have hz':(0:Int)<(i:Int):=(by omega);have hz2:0<i:=(by omega);have hsub:IntKind.i64.wrap ((i:Int)-1)=(p:Int):=(by rw[wrap64 (by omega) (by omega)];omega);have hpl:p<L.length:=(by omega);have hip:i-1=p:=(by omega);rw[hip]at hdef;have hpp:=hL.2 _ (bM hpl);refine bI 8 fun K2 hK2=> ?_;simp[hc,hz',hz2,s0,hsub,hpl];refine hK2 _ _ _ ?_;clear K2 hK2;simp[hc,hz',hz2];refine ak (Lj (nth L p) d hpp.2.1 hdd.2.1) rfl (by simp) ?_;by_cases hlt:kL (nth L p) d<0
      ·have h0:¬0≤kL (nth L p) d:=(by omega);simp[hc,hz',hz2,h0];apply hK;clear K' hK;refine aVk (by simp) ?_;apply aj
       refine ah ?_;refine aS fun K' hK=> ?_
       simp[s10,hw];apply hK;clear K' hK;refine aj (ay ?_ ?_)
       ·exact⟨by simp[s0],by simp[s8],by simp[s9],i+1,by simp[hw],by omega,hstep (by rw[hdef,hc];simp[hlt])⟩
       ·simp[s10,hw];omega
      ·have h0:0≤kL (nth L p) d:=(by omega);simp[hc,hz',hz2,h0];apply hK;clear K' hK;refine aU (by simp) ?_;apply aA;refine aR fun K' hK=> ?_
       simp;apply hK;clear K' hK;apply aJ
       simp[au,aG,Post,aW,res1,bF,bC,aP,bg,bf,okT,okA,ok1,rowOf,Tryz.f25];exact(hfalse (by rw[hdef,hc];simp[hlt,hz])).symm
    ·refine bI 8 fun K2 hK2=> ?_;simp[hc];refine hK2 _ _ _ ?_;clear K2 hK2;simp[hc];apply hK;clear K' hK;refine aU (by simp) ?_;apply aA;refine aR fun K' hK=> ?_
     simp;apply hK;clear K' hK;apply aJ
     simp[au,aG,Post,aW,res1,bF,bC,aP,bg,bf,okT,okA,ok1,rowOf,Tryz.f25];exact(hfalse (by rw[hdef];simp[hc])).symm
   ·skip;apply bG
    refine aI (aH ?_);have hi8:i=L.length:=(by omega);subst hi8;refine aR fun K' hK=> ?_
    simp;apply hK;clear K' hK;apply aF
    simp[au,aG,Post,aW,res1,bF,bC,aP,bg,bf,okT,okA,ok1,rowOf,Tryz.f25];rw[dK,if_neg hn,if_pos ht]
set_option maxRecDepth 100000
set_option maxHeartbeats 4000000
def Rg.ok (r:Rg):Prop:=r.length<4611686018427387904∧∀l∈r,l.length<4611686018427387904
abbrev H2 (a b:List AV):Hp:=(Hp.upd (fun _=>none) 0 (.var 33 a)).upd 1 (.var 33 b)
theorem Bf (x y:Rg) (hx:x.ok):CallsOK Tryz.prog 137 [.agg x.cells,.agg y.cells] (.v (.bool (decide (x=y)))) []:=by
 refine aN mixed Tryz.call137 Tryz.func137 rfl (by rw[Tryz.ntmps137];simp) ?_ rfl;rw[Tryz.ntmps137];refine aR fun K' hK=> ?_
 simp[Rg.cells];apply hK;clear K' hK;apply aA;refine aR fun K' hK=> ?_
 simp;apply hK;clear K' hK;refine aC fun A B hA hB=> ?_
 simp;refine⟨fun hl=>hA ?_,fun hl=>hB ?_⟩<;>clear hA hB A B<;>(try simp at hl)<;>(try with_reducible refine aK ?_)
 ·refine aA ?_;refine aR fun K' hK=> ?_
  simp;apply hK;clear K' hK;apply aJ
  simp[au,aG,Post,aW,res1,bF,bC,aP,bg,bf,okT,okA,ok1,rowOf,Tryz.f137];intro e;exact hl (by rw[e])
 ·refine aA ?_;refine aR fun K' hK=> ?_
  simp;apply hK;clear K' hK;apply aB
  refine bH (fun s G nx=>G=H2 x.cells y.cells∧nx=2∧s 2=.ptr 0 0∧s 3=.ptr 1 0∧∃i:Nat,s 5=iV i∧i≤x.length∧x.take i=y.take i) (fun s _ _=>match s 5 with | .v (.int _ n)=>x.length-n.toNat | _=>0) ?_ ?_
  ·simp;exact⟨rfl,0,by simp⟩
  ·rintro s G nx-⟨rfl,rfl,h2,h3,i,h5,hi,ht⟩;apply aA;refine aR fun K' hK=> ?_
   simp[h2,h3,h5,Rg.cells];apply hK;clear K' hK;refine aC fun A B hA hB=> ?_
   simp;refine⟨fun hi2=>hA ?_,fun hi2=>hB ?_⟩<;>clear hA hB A B<;>(try simp at hi2)<;>(try with_reducible refine aK ?_)
   ·have hi3:i<y.length:=(by omega);apply aB;apply aA;refine aQ fun K' hK=> ?_
    simp(maxSteps:=1000000) [h2,h3,h5,hi2,hi3];apply hK;clear K' hK;refine aC fun A B hA hB=> ?_
    simp;refine⟨fun hl2=>hA ?_,fun hl2=>hB ?_⟩<;>clear hA hB A B<;>(try simp at hl2)<;>(try with_reducible refine aK ?_)
    ·refine aA ?_;refine aR fun K' hK=> ?_
     simp;apply hK;clear K' hK;apply aJ
     simp[au,aG,Post,aW,res1,bF,bC,aP,bg,bf,okT,okA,ok1,rowOf,Tryz.f137];exact oO (i:=i) fun e=>hl2 (by rw[e])
    ·skip;refine aR fun K' hK=> ?_
     simp;apply hK;clear K' hK;refine dL (aB ?_)
     refine bH (fun s G nx=>G=H2 x.cells y.cells∧nx=2∧s 2=.ptr 0 0∧s 3=.ptr 1 0∧s 5=iV i∧∃j:Nat,s 6=iV j∧j≤(nth x i).length∧(nth x i).take j=(nth y i).take j) (fun s _ _=>match s 6 with | .v (.int _ n)=>(nth x i).length-n.toNat | _=>0) ?_ ?_
     ·simp[h2,h3,h5];exact⟨rfl,0,by simp⟩
     ·rintro s' G' nx'-⟨rfl,rfl,h2',h3',h5',j,h6,hj,htj⟩;apply aA;refine aR fun K' hK=> ?_
      simp[h2',h3',h5',h6,hi2,hi3,Rg.cells];apply hK;clear K' hK;refine aC fun A B hA hB=> ?_
      simp;refine⟨fun hj2=>hA ?_,fun hj2=>hB ?_⟩<;>clear hA hB A B<;>(try simp at hj2)<;>(try with_reducible refine aK ?_)
      ·have hj3:j<(nth y i).length:=(by omega);have hw:IntKind.i64.wrap (↑j+1)=((j+1:Nat):Int):=dh (by have:=hx.2 _ (bM hi2);omega);apply aB;refine aQ fun K' hK=> ?_
       simp(maxSteps:=1000000) [h2',h3',h5',h6,hi2,hi3,hj2,hj3];apply hK;clear K' hK;refine aD fun A B hA hB=> ?_
       simp;refine⟨fun hne=>hA ?_,fun hne=>hB ?_⟩<;>clear hA hB A B<;>(try simp at hne)<;>(try with_reducible refine aK ?_)
       ·refine aA ?_;refine aR fun K' hK=> ?_
        simp;apply hK;clear K' hK;apply aJ
        simp[au,aG,Post,aW,res1,bF,bC,aP,bg,bf,okT,okA,ok1,rowOf,Tryz.f137];exact oO (i:=i) (oO (i:=j) hne)
       ·refine aj ?_
        refine ah ?_;refine aS fun K' hK=> ?_
        simp[h2',h3',h5',h6,hw];apply hK;clear K' hK;refine aj (ay ?_ ?_)
        ·simp[h2',h3',h5',hw];exact⟨rfl,j+1,by simp,by omega,nN hj2 hj3 htj hne⟩
        ·simp[h6,hw];omega
      ·skip;apply bG
       refine aI (aH ?_);apply aj
       refine ah ?_;have he:nth x i=nth y i:=jV (by omega) (by omega) htj;have hw:IntKind.i64.wrap (↑i+1)=((i+1:Nat):Int):=dh (by have:=hx.1;omega);refine aS fun K' hK=> ?_
       simp[h2',h3',h5',h6,hw];apply hK;clear K' hK;refine aj (ay ?_ ?_)
       ·simp[h2',h3',h5',hw];exact⟨rfl,i+1,by simp,by omega,nN hi2 hi3 ht he⟩
       ·simp[h5,h5',hw];omega
   ·skip;apply bG
    refine aI (aH ?_);refine aR fun K' hK=> ?_
    simp;apply hK;clear K' hK;apply aF
    simp[au,aG,Post,aW,res1,bF,bC,aP,bg,bf,okT,okA,ok1,rowOf,Tryz.f137];exact jV (by omega) (by omega) ht
set_option maxRecDepth 100000
set_option maxHeartbeats 4000000
theorem IU (d:Dep):CallsOK Tryz.prog 29 [.agg d.cells] (.v (.bool (!decide (d.kind=3)))) []:=by
 refine aN mixed Tryz.call29 Tryz.func29 rfl (by rw[Tryz.ntmps29];simp) ?_ rfl;rw[Tryz.ntmps29];refine aR fun K' hK=> ?_
 simp;apply hK;clear K' hK;refine aR fun K' hK=> ?_
 simp;apply hK;clear K' hK;apply aF
 simp[au,aG,Post,aW,res1,bF,bC,aP,bg,bf,okT,okA,ok1,rowOf,Tryz.f29]
theorem rX (l:Alt) (hl:l.length<1000000000000):CallsOK Tryz.prog 108 [rowT Bd.cells l] (.row 0 l.length) [(74,flat Bd.cells l)]:=by
 refine aN mixed Tryz.call108 Tryz.func108 rfl (by rw[Tryz.ntmps108];simp) ?_ rfl;rw[Tryz.ntmps108];have h1:l.length≤9223372036854775807:=(by omega);have h2:l.length*48≤140737488355328:=(by omega);refine aR fun K' hK=> ?_
 simp;apply hK;clear K' hK;by_cases h:l=[]
 ·subst h;apply aA;refine aR fun K' hK=> ?_
  simp;apply hK;clear K' hK;(repeat with_reducible refine jR ?_);refine oD fun A B hA hB=> ?_;simp;refine⟨hA ?_,hB (pR ?_)⟩
  ·refine aA ?_;refine aR fun K' hK=> ?_
   simp;apply hK;clear K' hK;apply aJ
   simp[au,aG,Post,aW,res1,bF,bC,aP,bg,bf,okT,okA,ok1,rowOf,Tryz.f108]
  ·skip;refine aR fun K' hK=> ?_
   simp;apply hK;clear K' hK;apply aF
   simp[au,aG,Post,aW,res1,bF,bC,aP,bg,bf,okT,okA,ok1,rowOf,Tryz.f108]
 ·refine aA ?_;refine aR fun K' hK=> ?_
  simp[h];apply hK;clear K' hK;refine aYk (by simp) ?_;refine aR fun K' hK=> ?_
  simp[h1,h2];apply hK;clear K' hK;apply aF
  simp[au,aG,Post,aW,res1,bF,bC,aP,bg,bf,okT,okA,ok1,rowOf,Tryz.f108]
theorem rP (l:Rg) (hl:l.length<1000000000000):CallsOK Tryz.prog 107 [rowT Alt.cells l] (.row 0 l.length) [(71,flat Alt.cells l)]:=by
 refine aN mixed Tryz.call107 Tryz.func107 rfl (by rw[Tryz.ntmps107];simp) ?_ rfl;rw[Tryz.ntmps107];have h1:l.length≤9223372036854775807:=(by omega);have h2:l.length*24≤140737488355328:=(by omega);refine aR fun K' hK=> ?_
 simp;apply hK;clear K' hK;by_cases h:l=[]
 ·subst h;apply aA;refine aR fun K' hK=> ?_
  simp;apply hK;clear K' hK;(repeat with_reducible refine jR ?_);refine oD fun A B hA hB=> ?_;simp;refine⟨hA ?_,hB (pR ?_)⟩
  ·refine aA ?_;refine aR fun K' hK=> ?_
   simp;apply hK;clear K' hK;apply aJ
   simp[au,aG,Post,aW,res1,bF,bC,aP,bg,bf,okT,okA,ok1,rowOf,Tryz.f107]
  ·skip;refine aR fun K' hK=> ?_
   simp;apply hK;clear K' hK;apply aF
   simp[au,aG,Post,aW,res1,bF,bC,aP,bg,bf,okT,okA,ok1,rowOf,Tryz.f107]
 ·refine aA ?_;refine aR fun K' hK=> ?_
  simp[h];apply hK;clear K' hK;refine aYk (by simp) ?_;refine aR fun K' hK=> ?_
  simp[h1,h2];apply hK;clear K' hK;apply aF
  simp[au,aG,Post,aW,res1,bF,bC,aP,bg,bf,okT,okA,ok1,rowOf,Tryz.f107]
def dU (d:Dep) (root:Bool):Bool:=decide (d.kind=1) || decide (d.kind=3) || decide (d.kind=4) || (decide (d.kind=2)&&root)
theorem Ec (d:Dep) (root:Bool):CallsOK Tryz.prog 53 [.agg d.cells,.v (.bool root)] (.v (.bool (dU d root))) []:=by
 refine aN mixed Tryz.call53 Tryz.func53 rfl (by rw[Tryz.ntmps53];simp) ?_ rfl;rw[Tryz.ntmps53];refine aR fun K' hK=> ?_
 simp;apply hK;clear K' hK;apply aA;refine aR fun K' hK=> ?_
 simp;apply hK;clear K' hK;apply aB;apply aB;apply aB
 by_cases h2:d.kind=2
 ·refine aA ?_;apply aA;refine aR fun K' hK=> ?_
  simp[h2];apply hK;clear K' hK;refine aX (by simp[h2]) ?_;apply bG
  (repeat first | with_reducible refine aH ?_ | with_reducible refine eF (by decide) ?_);refine aR fun K' hK=> ?_
  simp;apply hK;clear K' hK;cases root
  ·skip;refine aU (by simp) ?_;apply aA;refine aR fun K' hK=> ?_
   simp;apply hK;clear K' hK;apply aJ
   simp[au,aG,Post,aW,res1,bF,bC,aP,bg,bf,okT,okA,ok1,rowOf,Tryz.f53,dU,h2]
  ·skip;refine aVk (by simp) ?_;apply aj
   refine ah ?_;apply aA;refine aR fun K' hK=> ?_
   simp;apply hK;clear K' hK;apply aJ
   simp[au,aG,Post,aW,res1,bF,bC,aP,bg,bf,okT,okA,ok1,rowOf,Tryz.f53,dU,h2]
 ·refine aA ?_;apply aA;refine aR fun K' hK=> ?_
  simp[h2];apply hK;clear K' hK;refine aYk (by simp[h2]) ?_;apply aA;apply aA;refine aR fun K' hK=> ?_
  simp;apply hK;clear K' hK;by_cases h1:d.kind=1
  ·skip;refine aXk (by simp[h1]) ?_;refine aX (by simp[h1]) ?_;apply bG
   (repeat first | with_reducible refine aH ?_ | with_reducible refine eF (by decide) ?_);apply aA;refine aR fun K' hK=> ?_
   simp;apply hK;clear K' hK;apply aJ
   simp[au,aG,Post,aW,res1,bF,bC,aP,bg,bf,okT,okA,ok1,rowOf,Tryz.f53,dU,h1]
  ·skip;refine aY (by simp[h1]) ?_;apply aA;refine aR fun K' hK=> ?_
   simp;apply hK;clear K' hK;by_cases h3:d.kind=3
   ·skip;refine aXk (by simp[h3]) ?_;refine aX (by simp[h3]) ?_;apply bG
    (repeat first | with_reducible refine aH ?_ | with_reducible refine eF (by decide) ?_);apply aA;refine aR fun K' hK=> ?_
    simp;apply hK;clear K' hK;apply aJ
    simp[au,aG,Post,aW,res1,bF,bC,aP,bg,bf,okT,okA,ok1,rowOf,Tryz.f53,dU,h3]
   ·skip;refine aY (by simp[h3]) ?_;refine aR fun K' hK=> ?_
    simp;apply hK;clear K' hK;by_cases h4:d.kind=4
    ·skip;refine aX (by simp[h4]) ?_;apply bG
     (repeat first | with_reducible refine aH ?_ | with_reducible refine eF (by decide) ?_);apply aA;refine aR fun K' hK=> ?_
     simp;apply hK;clear K' hK;apply aJ
     simp[au,aG,Post,aW,res1,bF,bC,aP,bg,bf,okT,okA,ok1,rowOf,Tryz.f53,dU,h4]
    ·skip;refine aYk (by simp[h4]) ?_;apply PY
     (repeat first | with_reducible refine aH ?_ | with_reducible refine eF (by decide) ?_);refine aR fun K' hK=> ?_
     simp;apply hK;clear K' hK;apply aF
     simp[au,aG,Post,aW,res1,bF,bC,aP,bg,bf,okT,okA,ok1,rowOf,Tryz.f53,dU,h1,h2,h3,h4]
theorem GL (r:Rg) (hr:r.length<1000000000000∧∀l∈r,l.length<1000000000000):CallsOK Tryz.prog 56 [.agg r.cells] (.agg [.row 0 r.length]) [(71,flat Alt.cells r)]:=by
 refine aN mixed Tryz.call56 Tryz.func56 rfl (by rw[Tryz.ntmps56];simp) ?_ rfl;rw[Tryz.ntmps56];refine aR fun K' hK=> ?_
 simp[Rg.cells];apply hK;clear K' hK;refine aR fun K' hK=> ?_
 simp;refine aO (rP r hr.1) (by simp) ?_;simp[bK];apply hK;clear K' hK;apply aA;refine aR fun K' hK=> ?_
 simp;apply hK;clear K' hK;apply aB
 refine bH (fun s G nx=>G 0=some (.var 33 [.row 2 r.length])∧G 1=some (.var 33 [.v (.slice none 0 0)])∧G 2=some (.row 71 (flat Alt.cells r))∧s 1=.ptr 0 0∧s 2=.ptr 1 0∧s 10=.row 2 r.length∧s 11=iV r.length∧∃i:Nat,s 12=iV i∧i≤r.length) (fun s _ _=>match s 12 with | .v (.int _ n)=>r.length-n.toNat | _=>0) ?_ ?_
 ·simp;exact⟨0,by simp⟩
 ·rintro s G nx hf ⟨g0,g1,g2,s1,s2,s10,s11,i,s12,hi⟩;have hnx:=cO hf g2;have n0:¬0=nx:=(by omega);have n1:¬1=nx:=(by omega);have n2:¬2=nx:=(by omega);have hw:IntKind.i64.wrap (↑i+1)=((i+1:Nat):Int):=dh (by have:=hr.1;omega);refine aR fun K' hK=> ?_
  simp[s11,s12];apply hK;clear K' hK;refine aC fun A B hA hB=> ?_
  simp;refine⟨fun hi2=>hA ?_,fun hi2=>hB ?_⟩<;>clear hA hB A B<;>(try simp at hi2)<;>(try with_reducible refine aK ?_)
  ·skip;apply aB;refine aR fun K' hK=> ?_
   simp[s10,s12,hi2,g2];apply hK;clear K' hK;refine aT fun K' hK=> ?_
   simp[s1,g0];refine aO (rX (nth r i) (hr.2 _ (bM hi2))) (by simp) ?_;have hp:Aa (flat Alt.cells r) 1 i 0 [rowT Bd.cells (nth r i)]=flat Alt.cells r:=wS hi2;simp[bK,s10,n2,g2,hi2,hp];apply hK;clear K' hK;apply aj
   refine ah ?_;refine aS fun K' hK=> ?_
   simp[s12,hw];apply hK;clear K' hK;refine aj (ay ?_ ?_)
   ·simp[n0,n1,n2,g0,g1,s1,s2,s10,s11,hw];exact⟨i+1,by simp,by omega⟩
   ·simp[s12,hw];omega
  ·skip;apply bG
   refine aI (aH ?_);refine aR fun K' hK=> ?_
   simp[s1,s2,g0,g1];apply hK;clear K' hK;apply aF
   simp[au,aG,Post,aW,res1,bF,bC,aP,bg,bf,okT,okA,ok1,rowOf,Tryz.f56,s2,g2]
set_option maxRecDepth 100000
set_option maxHeartbeats 4000000
theorem PD (d:Ru) (name:Bs):CallsOK Tryz.prog 110 [.agg d.cells,.cp [sV name] 0] (.v (.bool (decide (d.name=name)))) []:=by
 refine aN mixed Tryz.call110 Tryz.func110 rfl (by rw[Tryz.ntmps110];simp) ?_ rfl;rw[Tryz.ntmps110];refine aR fun K' hK=> ?_
 simp;apply hK;clear K' hK;refine aR fun K' hK=> ?_
 simp[gU];apply hK;clear K' hK;apply aF
 simp[au,aG,Post,aW,res1,bF,bC,aP,bg,bf,okT,okA,ok1,rowOf,Tryz.f110];try exact beq_toList _ _
def atF (rules:List Ru) (name:Bs):Option Nat:=rules.findIdx? fun d=>decide (d.name=name)
theorem GN (rules:List Ru) (name:Bs) (hl:rules.length<4611686018427387904):CallsOK Tryz.prog 109 [rowT Ru.cells rules,.fn 110 [.cp [sV name] 0]] (iV (atI (atF rules name))) []:=by
 refine aN mixed Tryz.call109 Tryz.func109 rfl (by rw[Tryz.ntmps109];simp) ?_ rfl;rw[Tryz.ntmps109];refine aR fun K' hK=> ?_
 simp;apply hK;clear K' hK;apply aA;refine aR fun K' hK=> ?_
 simp;apply hK;clear K' hK;apply aB
 refine bH (fun s G nx=>s 0=rowT Ru.cells rules∧s 1=.fn 110 [.cp [sV name] 0]∧s 7=iV rules.length∧∃i:Nat,s 8=iV i∧i≤rules.length∧∀j,j<i→¬(nth rules j).name=name) (fun s _ _=>match s 8 with | .v (.int _ n)=>rules.length-n.toNat | _=>0) ?_ ?_
 ·simp;exact⟨0,by simp⟩
 ·rintro s G nx-⟨s0,s1,s7,i,s8,hi,hno⟩;have hw:IntKind.i64.wrap (↑i+1)=((i+1:Nat):Int):=dh (by omega);refine aR fun K' hK=> ?_
  simp[s7,s8];apply hK;clear K' hK;refine aC fun A B hA hB=> ?_
  simp;refine⟨fun hi2=>hA ?_,fun hi2=>hB ?_⟩<;>clear hA hB A B<;>(try simp at hi2)<;>(try with_reducible refine aK ?_)
  ·skip;apply aB;refine aR fun K' hK=> ?_
   simp[s8];apply hK;clear K' hK;refine aR fun K' hK=> ?_
   simp[s0,s1,hi2];refine ak (PD (nth rules i) name) rfl (by simp) ?_;simp;apply hK;clear K' hK;refine aD fun A B hA hB=> ?_
   simp;refine⟨fun hc=>hA ?_,fun hc=>hB ?_⟩<;>clear hA hB A B<;>(try simp at hc)<;>(try with_reducible refine aK ?_)
   ·refine aA ?_;refine aR fun K' hK=> ?_
    simp;apply hK;clear K' hK;apply aJ
    simp[au,aG,Post,aW,res1,bF,bC,aP,bg,bf,okT,okA,ok1,rowOf,Tryz.f109];have:atF rules name=some i:=by
     unfold atF;rw[List.findIdx?_eq_some_iff_getElem];refine⟨hi2,by rw[←bZ hi2];simpa using hc,fun j hj=> ?_⟩;rw[←bZ (by omega)];simpa using hno j hj
    simp[this,atI]
   ·refine aj ?_
    refine ah ?_;refine aS fun K' hK=> ?_
    simp[s8,hw];apply hK;clear K' hK;refine aj (ay ?_ ?_)
    ·simp[s0,s1,s7,hw];refine⟨i+1,by simp,by omega,fun j hj=> ?_⟩;rcases Nat.lt_or_ge j i with h1 | h1
     ·exact hno j h1
     ·have:j=i:=(by omega);subst this;exact hc
    ·simp[s8,hw];omega
  ·skip;apply bG
   refine aI (aH ?_);refine aR fun K' hK=> ?_
   simp;apply hK;clear K' hK;apply aF
   simp[au,aG,Post,aW,res1,bF,bC,aP,bg,bf,okT,okA,ok1,rowOf,Tryz.f109];have:atF rules name=none:=by
    unfold atF;rw[List.findIdx?_eq_none_iff];intro d hd;obtain⟨j,hj,rfl⟩:=List.mem_iff_getElem.1 hd;rw[←bZ hj];simpa using hno j (by omega)
   simp[this,atI]
def ruleF (rules:List Ru) (name:Bs):Rg:=match atF rules name with
 | some i=>(nth rules i).range
 | none=>[]
def Ru.okL (rules:List Ru):Prop:=rules.length<1000000000000∧∀d∈rules,d.range.length<1000000000000∧∀l∈d.range,l.length<1000000000000
theorem Ed (rules:List Ru) (name:Bs) (hl:Ru.okL rules) {i:Nat} (hi:atF rules name=some i):CallsOK Tryz.prog 57 [rowT Ru.cells rules,sV name] (.tup [.agg [.row 0 (nth rules i).range.length],.v (.bool true)]) [(71,flat Alt.cells (nth rules i).range)]:=by
 have hlt:i<rules.length:=by
  unfold atF at hi;rw[List.findIdx?_eq_some_iff_getElem]at hi;exact hi.1
 refine aN mixed Tryz.call57 Tryz.func57 rfl (by rw[Tryz.ntmps57];simp) ?_ rfl;rw[Tryz.ntmps57];refine aR fun K' hK=> ?_
 simp;apply hK;clear K' hK;refine aR fun K' hK=> ?_
 simp;refine ak (GN rules name (by have:=hl.1;omega)) rfl (by simp) ?_;simp[hi,atI];apply hK;clear K' hK;apply aA;refine aR fun K' hK=> ?_
 simp;apply hK;clear K' hK;refine aYk (by simp) ?_;refine aR fun K' hK=> ?_
 simp[hlt];refine aO (GL (nth rules i).range (hl.2 _ (bM hlt))) (by simp[Rg.cells]) ?_;simp[bK,Rg.cells];apply hK;clear K' hK;apply aF
 simp[au,aG,Post,aW,res1,bF,bC,aP,bg,bf,okT,okA,ok1,rowOf,Tryz.f57]
theorem D7 (rules:List Ru) (name:Bs) (hl:Ru.okL rules) (hi:atF rules name=none):CallsOK Tryz.prog 57 [rowT Ru.cells rules,sV name] (.tup [.agg [.v (.slice none 0 0)],.v (.bool false)]) []:=by
 refine aN mixed Tryz.call57 Tryz.func57 rfl (by rw[Tryz.ntmps57];simp) ?_ rfl;rw[Tryz.ntmps57];refine aR fun K' hK=> ?_
 simp;apply hK;clear K' hK;refine aR fun K' hK=> ?_
 simp;refine ak (GN rules name (by have:=hl.1;omega)) rfl (by simp) ?_;simp[hi,atI];apply hK;clear K' hK;apply aA;refine aR fun K' hK=> ?_
 simp;apply hK;clear K' hK;refine aX (by simp) ?_;apply aA;refine aR fun K' hK=> ?_
 simp;apply hK;clear K' hK;apply aJ
 simp[au,aG,Post,aW,res1,bF,bC,aP,bg,bf,okT,okA,ok1,rowOf,Tryz.f57]
end Go.Proofs.YtmmbgjmigmchbaaGreatDoorAbs
namespace Go.Proofs
open Go.Shelf
def Tryz.xM:Go.Shelf.Ren:=⟨fun | 7=>55 | 10=>106 | n=>n,fun | 23=>94 | 26=>9 | 3=>35 | 28=>100 | 0=>0 | 27=>99 | 33=>139 | 4=>4 | n=>n,fun | n=>n⟩
theorem Tryz.Ue:Go.Proofs.SlLaysZ.n7 Tryz.prog Tryz.xM:= {
 mixed:=by kernel_rfl
 f7:=⟨Tryz.f55.name,by decide,Tryz.func55.trans (congrArg some (by kernel_rfl))⟩
 f10:=⟨Tryz.f106.name,by decide,Tryz.func106.trans (congrArg some (by kernel_rfl))⟩
 t0:=Tryz.underlying0
 a0:=Tryz.isAgg0
 z0:=Tryz.sizeOf0
 v0:=Tryz.zeroValue0
 t4:=Tryz.underlying4
 a4:=Tryz.isAgg4
 z4:=Tryz.sizeOf4
 v4:=Tryz.zeroValue4
 t23:=Tryz.underlying94
 a23:=Tryz.isAgg94
 z23:=Tryz.sizeOf94
 v23:=Tryz.zeroValue94
 t26:=Tryz.underlying9
 a26:=Tryz.isAgg9
 z26:=Tryz.sizeOf9
 v26:=Tryz.zeroValue9
 t27:=Tryz.underlying99
 a27:=Tryz.isAgg99
 z27:=Tryz.sizeOf99
 v27:=Tryz.zeroValue99
 t28:=Tryz.underlying100
 a28:=Tryz.isAgg100
 z28:=Tryz.sizeOf100
 v28:=Tryz.zeroValue100
 t33:=Tryz.underlying139
 a33:=Tryz.isAgg139
 z33:=Tryz.sizeOf139
 v33:=Tryz.zeroValue139}
def Tryz.ni:Go.Shelf.Ren:=⟨fun | 6=>54 | 8=>104 | 9=>105 | 11=>150 | 13=>152 | 12=>151 | 23=>194 | 24=>195 | 14=>185 | 15=>186 | 16=>187 | 17=>188 | 18=>189 | 19=>190 | 20=>191 | 21=>192 | 22=>193 | 25=>220 | 26=>221 | 27=>222 | 28=>223 | 29=>224 | 30=>145 | 31=>259 | n=>n,fun | 26=>9 | 28=>100 | 24=>97 | 0=>0 | 3=>3 | 37=>179 | 48=>205 | 50=>207 | 4=>4 | 40=>198 | 39=>197 | 45=>126 | 5=>5 | 9=>9 | 51=>225 | 55=>229 | 57=>252 | 58=>253 | 33=>139 | n=>n,fun | n=>n⟩
theorem Tryz.Qm:Go.Proofs.SlLaysZ.n6 Tryz.prog Tryz.ni:= {
 mixed:=by kernel_rfl
 f6:=⟨Tryz.f54.name,by decide,Tryz.func54.trans (congrArg some (by kernel_rfl))⟩
 f8:=⟨Tryz.f104.name,by decide,Tryz.func104.trans (congrArg some (by kernel_rfl))⟩
 f11:=⟨Tryz.f150.name,by decide,Tryz.func150.trans (congrArg some (by kernel_rfl))⟩
 t0:=Tryz.underlying0
 a0:=Tryz.isAgg0
 z0:=Tryz.sizeOf0
 v0:=Tryz.zeroValue0
 t24:=Tryz.underlying97
 a24:=Tryz.isAgg97
 z24:=Tryz.sizeOf97
 v24:=Tryz.zeroValue97
 t26:=Tryz.underlying9
 a26:=Tryz.isAgg9
 z26:=Tryz.sizeOf9
 v26:=Tryz.zeroValue9
 t28:=Tryz.underlying100
 a28:=Tryz.isAgg100
 z28:=Tryz.sizeOf100
 v28:=Tryz.zeroValue100
 i26:=by kernel_rfl}
def Tryz.EK:Go.Shelf.Ren:=⟨fun | 6=>105 | 8=>152 | 9=>151 | 19=>194 | 20=>195 | 21=>185 | 22=>186 | 23=>187 | 24=>188 | 25=>189 | 26=>190 | 27=>191 | 28=>192 | 29=>193 | 36=>220 | 31=>221 | 32=>222 | 37=>223 | 38=>224 | 39=>145 | 41=>259 | n=>n,fun | 27=>97 | 29=>9 | 3=>3 | 32=>179 | 26=>97 | 0=>0 | 44=>205 | 46=>207 | 4=>4 | 36=>198 | 35=>197 | 41=>126 | 5=>5 | 9=>9 | 53=>225 | 57=>229 | 63=>252 | 64=>253 | n=>n,fun | n=>n⟩
theorem Tryz.KH:Go.Proofs.SlLaysM.n6 Tryz.prog Tryz.EK:= {
 mixed:=by kernel_rfl
 f6:=⟨Tryz.f105.name,by decide,Tryz.func105.trans (congrArg some (by kernel_rfl))⟩
 f8:=Tryz.func152.trans (congrArg some (by kernel_rfl))
 f9:=⟨Tryz.f151.name,by decide,Tryz.func151.trans (congrArg some (by kernel_rfl))⟩
 f19:=Tryz.func194.trans (congrArg some (by kernel_rfl))
 f20:=Tryz.func195.trans (congrArg some (by kernel_rfl))
 f21:=⟨Tryz.f185.name,by decide,Tryz.func185.trans (congrArg some (by kernel_rfl))⟩
 f22:=⟨Tryz.f186.name,by decide,Tryz.func186.trans (congrArg some (by kernel_rfl))⟩
 f23:=⟨Tryz.f187.name,by decide,Tryz.func187.trans (congrArg some (by kernel_rfl))⟩
 f24:=⟨Tryz.f188.name,by decide,Tryz.func188.trans (congrArg some (by kernel_rfl))⟩
 f25:=⟨Tryz.f189.name,by decide,Tryz.func189.trans (congrArg some (by kernel_rfl))⟩
 f26:=⟨Tryz.f190.name,by decide,Tryz.func190.trans (congrArg some (by kernel_rfl))⟩
 f27:=⟨Tryz.f191.name,by decide,Tryz.func191.trans (congrArg some (by kernel_rfl))⟩
 f28:=⟨Tryz.f192.name,by decide,Tryz.func192.trans (congrArg some (by kernel_rfl))⟩
 f29:=⟨Tryz.f193.name,by decide,Tryz.func193.trans (congrArg some (by kernel_rfl))⟩
 f31:=Tryz.func221.trans (congrArg some (by kernel_rfl))
 f32:=Tryz.func222.trans (congrArg some (by kernel_rfl))
 f36:=⟨Tryz.f220.name,by decide,Tryz.func220.trans (congrArg some (by kernel_rfl))⟩
 f37:=⟨Tryz.f223.name,by decide,Tryz.func223.trans (congrArg some (by kernel_rfl))⟩
 f38:=⟨Tryz.f224.name,by decide,Tryz.func224.trans (congrArg some (by kernel_rfl))⟩
 f39:=⟨Tryz.f145.name,by decide,Tryz.func145.trans (congrArg some (by kernel_rfl))⟩
 f41:=⟨Tryz.f259.name,by decide,Tryz.func259.trans (congrArg some (by kernel_rfl))⟩
 t0:=Tryz.underlying0
 a0:=Tryz.isAgg0
 z0:=Tryz.sizeOf0
 v0:=Tryz.zeroValue0
 t3:=Tryz.underlying3
 a3:=Tryz.isAgg3
 z3:=Tryz.sizeOf3
 v3:=Tryz.zeroValue3
 t4:=Tryz.underlying4
 a4:=Tryz.isAgg4
 z4:=Tryz.sizeOf4
 v4:=Tryz.zeroValue4
 t5:=Tryz.underlying5
 a5:=Tryz.isAgg5
 z5:=Tryz.sizeOf5
 v5:=Tryz.zeroValue5
 t9:=Tryz.underlying9
 a9:=Tryz.isAgg9
 z9:=Tryz.sizeOf9
 v9:=Tryz.zeroValue9
 t26:=Tryz.underlying97
 a26:=Tryz.isAgg97
 z26:=Tryz.sizeOf97
 v26:=Tryz.zeroValue97
 t27:=Tryz.underlying97
 a27:=Tryz.isAgg97
 z27:=Tryz.sizeOf97
 v27:=Tryz.zeroValue97
 t29:=Tryz.underlying9
 a29:=Tryz.isAgg9
 z29:=Tryz.sizeOf9
 v29:=Tryz.zeroValue9
 t32:=Tryz.underlying179
 a32:=Tryz.isAgg179
 z32:=Tryz.sizeOf179
 v32:=Tryz.zeroValue179
 t35:=Tryz.underlying197
 a35:=Tryz.isAgg197
 z35:=Tryz.sizeOf197
 v35:=Tryz.zeroValue197
 t36:=Tryz.underlying198
 a36:=Tryz.isAgg198
 z36:=Tryz.sizeOf198
 v36:=Tryz.zeroValue198
 t41:=Tryz.underlying126
 a41:=Tryz.isAgg126
 z41:=Tryz.sizeOf126
 v41:=Tryz.zeroValue126
 t44:=Tryz.underlying205
 a44:=Tryz.isAgg205
 z44:=Tryz.sizeOf205
 v44:=Tryz.zeroValue205
 t46:=Tryz.underlying207
 a46:=Tryz.isAgg207
 z46:=Tryz.sizeOf207
 v46:=Tryz.zeroValue207
 t53:=Tryz.underlying225
 a53:=Tryz.isAgg225
 z53:=Tryz.sizeOf225
 v53:=Tryz.zeroValue225
 t57:=Tryz.underlying229
 a57:=Tryz.isAgg229
 z57:=Tryz.sizeOf229
 v57:=Tryz.zeroValue229
 t63:=Tryz.underlying252
 a63:=Tryz.isAgg252
 z63:=Tryz.sizeOf252
 v63:=Tryz.zeroValue252
 t64:=Tryz.underlying253
 a64:=Tryz.isAgg253
 z64:=Tryz.sizeOf253
 v64:=Tryz.zeroValue253}
open Go.RowKit Go.Maps Go.Sort in
theorem Tryz.Rt (m:Nat):AnyZ.SortsIn Tryz.prog Tryz.ni Fence.wide m:=
 ⟨fun blk off cap ss W hH hblk hsz=>callsIn_wide.2 (AnyM.slices_Sort_string Tryz.KH blk off cap ss W hH hblk hsz),
   fun p cap W=>callsIn_wide.2 (AnyM.slices_Sort_string_none Tryz.KH p cap W)⟩
end Go.Proofs
namespace Go.Proofs.YtmmbgjmigmchbaaGreatDoorAbs
open Go Go.RowKit Go.Proofs Go.Maps Go.Sort Go.Shelf
open Go.WideElems (rg)
def strV (k:List UInt8):Value:=encStr k
def sortK (ks:List (List UInt8)):List (List UInt8):=ks.mergeSort (fun x y=>decide (x≤y))
def R0:Value→Option (DataW Unit×List MemPlace):=fun _=>some (.nil,[])
theorem QG {P:Program} {k:TypeId} (hk:P.underlying k=some .string) {en:MapEntry} {x:List UInt8} (hx:en.key=encStr x) (hl:x.length≤maxLen):WideElems.rd P k R0 en=some (.string x,.nil):=by
 unfold WideElems.rd;rw[hx,encStr,WideMaps.keyOf_string_mk hk (by show x.toArray.size≤maxLen;simpa using hl)];simp[R0]
set_option maxRecDepth 100000 in
theorem Eh {G:Hp} {p id nx:Nat} {es:List (Value×AV)} {ks:List (List UInt8)} (hp:G p=some (.var 94 [.mp id])) (hG:G id=some (.map es)) (hk:es.map (·.1)=ks.map encStr) (hnd:ks.Nodup) (hlen:∀k∈ks,k.length≤maxLen)
  (hmax:ks.length*16≤140737488355328) (hn:G nx=none):InlOK Tryz.prog 54 [.fn 106 [.ptr p 0]] G (.row nx ks.length) (G.upd nx (.row 9 ((sortK ks).map fun k=> .v (encStr k)))):=by
 refine⟨Tryz.call54,fun E w us hR hx=> ?_⟩;obtain⟨u,us',rfl,hu,hx'⟩:=hx.jP;have:us'=[]:=List.eq_nil_of_length_eq_zero (by simpa using hx'.1);subst this;obtain⟨cs,rfl,hl,hv⟩:=hu.Dk;obtain⟨c,cs',rfl,hc,hcs⟩:=(show All2 _ _ _ from⟨hl,hv⟩:All2 (VR Tryz.prog E w) [.ptr p 0] cs).jP;have:cs'=[]:=List.eq_nil_of_length_eq_zero (by simpa using hcs.1);subst this;obtain⟨bp,hbp,uv,hv1,hv2,_,hv4,_⟩:=hR.FY hp rfl (fun e he=>by cases he);obtain⟨b,hb,ents,clock,h1,h2,h3,h4,h5⟩:=hR.FY hG rfl (fun e he=>by cases he);have hcp:=hc.zK hbp;subst hcp
 match uv,hv2,hv1,hv4 with
 | [um],_,hv1,hv4=>
 have hum:=(hv4 0 _ um rfl rfl).NJ hb;subst hum;have hkeys:ents.toList.map (·.key)=ks.map encStr:=by
  rw[←hk];apply List.ext_getElem?;intro i;rw[List.getElem?_map,List.getElem?_map];cases he:es[i]? with
  | none=>
   have:ents[i]? =none:=(by rw[Array.getElem?_eq_none];rw[h2];exact List.getElem?_eq_none_iff.1 he);simp[this]
  | some e=>
   have hi:i<ents.size:=(by rw[h2];exact(List.getElem?_eq_some_iff.1 he).1);have hen:ents[i]? =some ents[i]:=Array.getElem?_eq_getElem hi;have:=(h3 i e _ he hen).1;simp[hi,this]
 have hklen:ks.length=ents.size:=(by have:=congrArg List.length hkeys;simpa using this.symm);have hu9:Tryz.prog.underlying 9=some .string:=(by kernel_rfl);have hread:∀en∈ents.toList,∃x,x∈ks∧en.key=encStr x∧WideElems.rd Tryz.prog 9 R0 en=some (.string x,.nil):=fun en hen=>by
  have:en.key∈ks.map encStr:=(by rw[←hkeys];exact List.mem_map_of_mem hen);obtain⟨x,hx1,hx2⟩:=List.mem_map.1 this;exact⟨x,hx1,hx2.symm,QG hu9 hx2.symm (hlen x hx1)⟩
 have hown:w.ownsMap Tryz.prog 9 R0 b ks.length (.map ((ents.toList.map (rg Tryz.prog 9 R0)).foldr DataW.insert [])):=by
  refine⟨ents,clock,h1,⟨?_,⟨h5,h4,?_⟩,fun en hen=> ?_⟩,by omega,rfl⟩
  ·rw[←hklen];simp only[maxLen];omega
  ·rw[hkeys];exact List.pairwise_map.2 (hnd.imp fun hne e=>hne (encStr_inj e))
  ·obtain⟨x,_,_,h⟩:=hread en hen;exact⟨_,h⟩
 have hsize:Maps.size (.map ((ents.toList.map (rg Tryz.prog 9 R0)).foldr DataW.insert []))=ks.length:=by
  show List.length _=_;rw[length_sorted];simp[hklen]
 have hperm:(strKeys (.map ((ents.toList.map (rg Tryz.prog 9 R0)).foldr DataW.insert []))).Perm ks:=by
  show(List.map _ _).Perm ks;refine((WideShapes.sorted_perm _).map _).trans ?_;have:(ents.toList.map (rg Tryz.prog 9 R0)).map (fun p=>strOf p.1)=ks:=by
   rw[List.map_map];have hinj:∀(l:List MapEntry) (ks:List (List UInt8)),l.map (·.key)=ks.map encStr→(∀k∈ks,k.length≤maxLen)→l.map ((fun p=>strOf p.1)∘rg Tryz.prog 9 R0)=ks:=by
    intro l;induction l with
    | nil=>intro ks h _;simpa using h.symm
    | cons en l ih=>
     intro ks h hk;cases ks with
     | nil=>simp at h
     | cons k ks=>
      simp only[List.map_cons,List.cons.injEq]at h;rw[List.map_cons,ih ks h.2 (fun k hk'=>hk k (by simp[hk']))];congr 1;simp only[Function.comp,rg];rw[QG hu9 h.1 (hk k (by simp))];rfl
   exact hinj _ _ hkeys hlen
  rw[this]
 have hbp':=hR.lt p bp hbp;have hseq:SeqGives Fence.wide 2 Tryz.prog 106 #[.pointer (some ⟨bp,0,none⟩)] encStr (fun ss=>ss.Perm (strKeys (.map ((ents.toList.map (rg Tryz.prog 9 R0)).foldr DataW.insert [])))) (Maps.size (.map ((ents.toList.map (rg Tryz.prog 9 R0)).foldr DataW.insert []))) w:=
  AnyZ.keys_gives (ρ:=Tryz.xM) {Tryz.Ue with} Fence.wide _ trivial rfl (by omega) bp b ks.length _ _ hbp' (by rw[eX hv1];rfl) hown
 have hcall:=callsIn_wide.1 (AnyZ.sorted_in Tryz.Qm Fence.wide 5 trivial trivial trivial trivial rfl (by omega) (Tryz.Rt _) (enters_of Tryz.func105 (by kernel_rfl) rfl) 106 #[.pointer (some ⟨bp,0,none⟩)] trivial (enters_of Tryz.func106 (by kernel_rfl) rfl) _ _ (by rw[hsize];simp only[maxLen];omega) (by rw[hsize];exact hmax) _ hseq);refine hcall.mono fun e w' h=> ?_;obtain⟨v,ss,rfl,hss,hrow,hnil,hbelow⟩:=h;have hsort:ss.mergeSort (fun x y=>decide (x≤y))=sortK ks:=mergeSort_of_perm (hss.trans hperm);have hsl:ss.length=ks.length:=(hss.trans hperm).length_eq;rw[hsort,hsl]at hrow;have hrow:w'.ownsRow w.heap.size 9 1 v ks.length ((sortK ks).map encStr):=hrow;have hel:Tryz.prog.cellsOf 9=1:=(by kernel_rfl);have ht26:Tryz.ni.t 26=9:=rfl;have hsk:(sortK ks).length=ks.length:=(List.mergeSort_perm ks _).length_eq;obtain⟨hlen1,hrow | ⟨g,cap,cur,rfl,hge,hcur,hcap,hcm,hcs,htake⟩⟩:=hrow
 ·obtain⟨rfl,h0⟩:=hrow;have hsk0:sortK ks=[]:=List.eq_nil_of_length_eq_zero (by omega);have hA:=Rel.app (w':=w') (e:=9) (all:=[]) hR hn (id:=none) (b:=none) (fun j hj=>by cases hj) (fun x hx=>by cases hx) (Ext.of_below _ hbelow) (fun x hx _=>hbelow.block x hx) (fun x hx=>by cases hx) (fun x hx=>by cases hx) (fun _=>rfl);refine⟨_,E.app nx none none,rfl,?_,by rw[hsk0];exact hA.1,Ext.of_below _ hbelow,hA.2⟩;refine .row (show(E.app nx none none).K nx from .inl rfl) rfl (fun b hb=> ?_) (fun _=>⟨rfl,h0⟩);simp[En.app]at hb
 ·have hA:=Rel.app (w':=w') (e:=9) (all:=(sortK ks).map fun k=> .v (encStr k)) hR hn (id:=none) (b:=some g) (fun j hj=>by cases hj) (fun x hx=>by injection hx with hx;subst hx;exact .inl hge) (Ext.of_below _ hbelow) (fun x hx _=>hbelow.block x hx)
   (fun x hx=>by injection hx with hx;subst hx;exact(Array.getElem?_eq_some_iff.1 hcur).1) (fun x hx=>by
    injection hx with hx;subst hx;refine⟨cur.toList,by simpa using hcur,?_,fun i a u ha hu=> ?_⟩
    ·rw[List.length_map,hsk,Array.length_toList];simp only[Array.size_eq_length_toList]at hcs⊢;omega
    ·rw[List.getElem?_map]at ha;obtain⟨k,hk1,rfl⟩:=Option.map_eq_some_iff.1 ha;have hi:i<ks.length:=(by rw[←hsk];exact(List.getElem?_eq_some_iff.1 hk1).1);have:(cur.toList.take (ks.length*1))[i]? =some u:=(by rw[List.getElem?_take,if_pos (by omega)];exact hu);rw[htake,List.getElem?_map,hk1]at this;injection this with this;subst this;exact .v rfl) (fun h=>by cases h)
  refine⟨_,E.app nx none (some g),rfl,?_,hA.1,Ext.of_below _ hbelow,hA.2⟩;refine .row (show(E.app nx none (some g)).K nx from .inl rfl) rfl (fun b hb=> ?_) (fun hN=> ?_)
  ·have e0:(E.app nx none (some g)).o nx=0:=(by simp[En.app]);rw[e0];simp[En.app]at hb;subst hb;exact⟨cap,9,_,rfl,hcap,hcm,by simp[World.shape?,hcur,hcs,hel],fun _=>rfl⟩
  ·simp[En.app]at hN
set_option linter.unusedSimpArgs false
set_option linter.unusedVariables false
open Go Go.RowKit Go.Proofs
set_option maxRecDepth 100000
set_option maxHeartbeats 4000000
theorem zH (a b:Bs):(a==b)=decide (a=b):=by
 rw[Bool.eq_iff_iff,decide_eq_true_eq];exact⟨BI,fun h=>by rw[h];exact bytes_beq b⟩
def CB (M:List Dep):List (Value×AV):=M.map fun d=>(.string d.name,.agg d.cells)
def posM (M:List Dep) (n:Bs):Option Nat:=M.findIdx? fun d=>decide (d.name=n)
theorem qY (n:Bs):∀(M:List Dep) (i:Nat),qO Tryz.prog 9 .string (.string n) (CB M) i=some ((posM M n).map (· +i))
 | [],i=>rfl
 | d::M,i=>by
  have ih:=qY n M (i+1);simp only[CB,List.map_cons,qO,Nz,Instr.sameNow,zH,posM,List.findIdx?_cons]at ih⊢;by_cases h:d.name=n
  ·simp[h]
  ·have h':¬n=d.name:=fun e=>h e.symm;simp only[h,h',decide_false,Bool.false_eq_true,if_false];rw[ih];simp only[Option.map_map];congr 2;funext x;simp[Function.comp];omega
@[simp] theorem KT:PE Tryz.prog 94=some (9,.string,35):=by kernel_rfl
def VG:AV:=.agg [iV 0,sV ⟨#[]⟩,.v (.slice none 0 0)]
@[simp] theorem VN:zvI Tryz.prog 35=some VG:=by kernel_rfl
theorem kS (n:Bs):zf (sV n)=some (.string n):=rfl
theorem kOK (n:Bs):CX Tryz.prog .string (.string n)=true:=rfl
theorem lV {M:List Dep} {n:Bs} {i:Nat} (h:posM M n=some i):i<M.length∧(nth M i).name=n:=by
 unfold posM at h;rw[List.findIdx?_eq_some_iff_getElem]at h;obtain⟨h1,h2,_⟩:=h;exact⟨h1,by rw[bZ h1];simpa using h2⟩
theorem vk {G:Hp} {id:Nat} {M:List Dep} (hG:G id=some (.map (CB M))) {n:Bs} {i:Nat} (hi:posM M n=some i) (ok:Bool):iP Tryz.prog G 94 (.mp id) (sV n) ok=some (if ok=true then .tup [.agg (nth M i).cells,.v (.bool true)]else .agg (nth M i).cells):=by
 have hlt:=(lV hi).1;have he:(CB M)[i]? =some (.string (nth M i).name,.agg (nth M i).cells):=(by simp[CB,hlt,bZ hlt]);simp only[iP,KT,kS,kOK,if_true,hG,VN,qY,hi,Option.map_some,Nat.add_zero,he]
theorem EI {G:Hp} {id:Nat} {M:List Dep} (hG:G id=some (.map (CB M))) {n:Bs} (hi:posM M n=none) (ok:Bool):iP Tryz.prog G 94 (.mp id) (sV n) ok=some (if ok=true then .tup [VG,.v (.bool false)]else VG):=by
 simp only[iP,KT,kS,kOK,if_true,hG,VN,qY,hi,Option.map_none]
def zI (M:List Dep) (d:Dep):List Dep:=match posM M d.name with
 | some i=>M.set i d
 | none=>M++[d]
theorem IV {G:Hp} {id:Nat} {M:List Dep} (hG:G id=some (.map (CB M))) (d:Dep):fK Tryz.prog G 94 (.mp id) (sV d.name) (.agg d.cells)=some (G.upd id (.map (CB (zI M d)))):=by
 simp only[fK,KT,kS,kOK,if_true,hG,qY];cases h:posM M d.name with
 | none=>simp[zI,h,CB]
 | some i=>simp[zI,h,CB,List.map_set,TG]
def stepM (root:Bool) (M:List Dep) (d:Dep):List Dep:=
 if dU d root=true∧(∀i,posM M d.name=some i→d.kind<(nth M i).kind)then zI M d else M
def byM (root:Bool) (ds:List Dep):List Dep:=ds.foldl (stepM root) []
theorem nZ (root:Bool) {ds:List Dep} {i:Nat} (h:i<ds.length):byM root (ds.take (i+1))=stepM root (byM root (ds.take i)) (nth ds i):=by
 unfold byM;rw[List.take_add_one,List.getElem?_eq_getElem h,bZ h];rw[List.foldl_append];rfl
set_option maxRecDepth 100000
set_option maxHeartbeats 4000000
theorem TV {G:Hp} {nx id:Nat} (hf:bU G nx):InlOK Tryz.prog 55 [.mp id] G (.fn 106 [.ptr nx 0]) (G.upd nx (.var 94 [.mp id])):=by
 refine Vg mixed Tryz.call55 Tryz.func55 rfl (by rw[Tryz.ntmps55];simp) hf ?_;rw[Tryz.ntmps55];refine aR fun K' hK=> ?_
 simp;apply hK;clear K' hK;refine aR fun K' hK=> ?_
 simp;apply hK;clear K' hK;apply aF
 simp[au,aG,Post,aW,res1,bF,bC,aP,bg,bf,okT,okA,ok1,rowOf,Tryz.f55]
def cu (M:List Dep):List Bs:=M.map (·.name)
theorem kF {M:List Dep} {n:Bs} :posM M n=none↔n∉cu M:=by
 unfold posM cu;rw[List.findIdx?_eq_none_iff];simp only[decide_eq_false_iff_not,List.mem_map,not_exists,not_and]
theorem yg {M:List Dep} (d:Dep):(d.name∈cu M∧cu (zI M d)=cu M)∨(d.name∉cu M∧cu (zI M d)=cu M++[d.name]):=by
 unfold zI;cases h:posM M d.name with
 | none=>exact .inr ⟨kF.1 h,by simp[cu]⟩
 | some i=>
  have hin:d.name∈cu M:=by
   rcases Classical.em (d.name∈cu M)with h1 | h1
   ·exact h1
   ·rw[kF.2 h1]at h;cases h
  refine .inl ⟨hin,?_⟩;obtain⟨h1,h2⟩:=lV h;unfold cu;apply List.ext_getElem?;intro j;rw[List.getElem?_map,List.getElem?_set];split
  ·rename_i hij;subst hij;simp[h1];rw[←h2,bZ h1]
  ·simp
theorem FX {root:Bool} {M:List Dep} (d:Dep) (h:(cu M).Nodup):(cu (stepM root M d)).Nodup:=by
 unfold stepM;split
 ·rcases yg (M:=M) d with⟨_,e⟩ | ⟨hn,e⟩
  ·rw[e];exact h
  ·rw[e,List.nodup_append];exact⟨h,by simp,fun a ha b hb=>by simp at hb;subst hb;intro e;subst e;exact hn ha⟩
 ·exact h
theorem AY (root:Bool) (ds:List Dep):(cu (byM root ds)).Nodup:=by
 have:∀(ds M:List Dep),(cu M).Nodup→(cu (ds.foldl (stepM root) M)).Nodup:=by
  intro ds;induction ds with
  | nil=>intro M h;exact h
  | cons d ds ih=>intro M h;exact ih _ (FX d h)
 exact this ds [] (by simp[cu])
theorem N7 {root:Bool} {M:List Dep} {d x:Dep} (h:x∈stepM root M d):x∈M∨x=d:=by
 unfold stepM at h;split at h
 ·unfold zI at h;split at h
  ·rcases List.mem_or_eq_of_mem_set h with h | h
   ·exact .inl h
   ·exact .inr h
  ·simpa using h
 ·exact .inl h
theorem zV {root:Bool} {ds:List Dep} {x:Dep} (h:x∈byM root ds):x∈ds:=by
 have:∀(ds M:List Dep),x∈ds.foldl (stepM root) M→x∈M∨x∈ds:=by
  intro ds;induction ds with
  | nil=>intro M h;exact .inl h
  | cons d ds ih=>
   intro M h;rcases ih _ h with h | h
   ·rcases N7 h with h | h
    ·exact .inl h
    ·exact .inr (by simp[h])
   ·exact .inr (by simp[h])
 rcases this ds [] h with h | h
 ·simp at h
 ·exact h
theorem zW (root:Bool) (ds:List Dep):(byM root ds).length≤ds.length:=by
 have:∀(ds M:List Dep),(ds.foldl (stepM root) M).length≤M.length+ds.length:=by
  intro ds;induction ds with
  | nil=>intro M;simp
  | cons d ds ih=>
   intro M;have h1:=ih (stepM root M d);have h2:(stepM root M d).length≤M.length+1:=by
    unfold stepM;split
    ·unfold zI;split<;>simp
    ·omega
   simp only[List.foldl_cons,List.length_cons];omega
 have:=this ds [];simpa [byM]using this
def mQ (l:List Bs):List Bs:=(sortK (l.map bsL)).map fun k=>⟨k.toArray⟩
def Cc (b:Bs):List AV:=[sV b]
instance:Wid Cc 1:=⟨fun _=>rfl,by decide⟩
@[simp] theorem nCells_get (b:Bs):gU (Cc b) 0 1=some [sV b]:=rfl
theorem fE (l:List Bs):(mQ l).Perm l:=by
 have h1:(sortK (l.map bsL)).Perm (l.map bsL):=List.mergeSort_perm _ _;have h2:=h1.map (fun k:List UInt8=>(⟨k.toArray⟩:Bs));have h3:(l.map bsL).map (fun k:List UInt8=>(⟨k.toArray⟩:Bs))=l:=by
  rw[List.map_map]
  conv=>rhs;rw[←List.map_id l]
  apply List.map_congr_left;intro b _;simp[bsL]
 rw[h3]at h2;exact h2
theorem IK {G:Hp} {p id nx:Nat} {M:List Dep} (hp:G p=some (.var 94 [.mp id])) (hG:G id=some (.map (CB M))) (hnd:(cu M).Nodup) (hlen:∀d∈M,d.name.size≤1000000000) (hmax:M.length≤1000000000000) (hn:G nx=none):
  InlOK Tryz.prog 54 [.fn 106 [.ptr p 0]] G (.row nx M.length) (G.upd nx (.row 9 (flat Cc (mQ (cu M))))):=by
 have h:=Eh (ks:=(cu M).map bsL) hp hG (by
   unfold CB cu;rw[List.map_map,List.map_map,List.map_map];apply List.map_congr_left;intro d _;simp[bsL,encStr]) (by
   refine List.pairwise_map.2 (hnd.imp fun hne e=>hne ?_);exact WideShapes.bytes_inj e) (fun k hk=>by
   obtain⟨b,hb,rfl⟩:=List.mem_map.1 hk;obtain⟨d,hd,rfl⟩:=List.mem_map.1 hb;have:=hlen d hd;show d.name.data.toList.length≤9223372036854775807;rw[Array.length_toList];have h2:d.name.data.size≤1000000000:=this;omega) (by simp[cu];omega) hn
 have e1:((cu M).map bsL).length=M.length:=(by simp[cu]);rw[e1]at h;have e2:((sortK ((cu M).map bsL)).map fun k=>AV.v (encStr k))=flat Cc (mQ (cu M)):=by
  unfold flat mQ;rw[List.flatMap_map];generalize sortK _=l;induction l with
  | nil=>rfl
  | cons k l ih=>rw[List.map_cons,List.flatMap_cons,ih];rfl
 rw[e2]at h;exact h
set_option maxRecDepth 100000
set_option maxHeartbeats 4000000
def findD (M:List Dep) (n:Bs):Dep:=match posM M n with
 | some j=>nth M j
 | none=>default
def eU (rules:List Ru) (d:Dep):Dep:= {d with range:=match atF rules d.name with
 | some i=>(nth rules i).range
 | none=>d.range}
def ofF (ds:List Dep) (rules:List Ru) (root:Bool):List Dep:=(mQ (cu (byM root ds))).map fun n=>eU rules (findD (byM root ds) n)
def Dep.okL (ds:List Dep):Prop:=ds.length<1000000000000∧∀d∈ds,d.name.size≤1000000000∧d.range.length<1000000000000∧∀l∈d.range,l.length<1000000000000
theorem FN (m:Man) (rules:List Ru) (root:Bool) (hd:Dep.okL m.deps) (hrl:Ru.okL rules):CallsOK Tryz.prog 26 [.agg m.cells,rowT Ru.cells rules,.v (.bool root)] (.row 0 (ofF m.deps rules root).length) [(35,flat Dep.cells (ofF m.deps rules root))]:=by
 have hm:=hd.1;refine aN mixed Tryz.call26 Tryz.func26 rfl (by rw[Tryz.ntmps26];simp) ?_ rfl;rw[Tryz.ntmps26];refine aR fun K' hK=> ?_
 simp;apply hK;clear K' hK;refine aR fun K' hK=> ?_
 simp;apply hK;clear K' hK;apply aA;refine aR fun K' hK=> ?_
 simp;apply hK;clear K' hK;apply aB
 refine bH (fun s G nx=>s 1=rowT Ru.cells rules∧s 2=.v (.bool root)∧s 7=.mp 2∧s 20=rowT Dep.cells m.deps∧s 21=iV m.deps.length∧∃i:Nat,s 22=iV i∧i≤m.deps.length∧G 2=some (.map (CB (byM root (m.deps.take i))))) (fun s _ _=>match s 22 with | .v (.int _ n)=>m.deps.length-n.toNat | _=>0) ?_ ?_
 ·simp;exact⟨0,by simp,by omega,rfl⟩
 ·rintro s G nx hf ⟨s1,s2,s7,s20,s21,i,s22,hi,g2⟩;have hnx:=cO hf g2;have n2:¬2=nx:=(by omega);have n3:¬2=nx+1:=(by omega);have hw:IntKind.i64.wrap (↑i+1)=((i+1:Nat):Int):=dh (by omega);refine aR fun K' hK=> ?_
  simp[s21,s22];apply hK;clear K' hK;refine aC fun A B hA hB=> ?_
  simp;refine⟨fun hi2=>hA ?_,fun hi2=>hB ?_⟩<;>clear hA hB A B<;>(try simp at hi2)<;>(try with_reducible refine aK ?_)
  ·skip;apply aB;refine aR fun K' hK=> ?_
   simp[s20,s22,hi2];apply hK;clear K' hK;have key:∃x ok,(∀G':Hp,G' 2=some (.map (CB (byM root (m.deps.take i))))→iP Tryz.prog G' 94 (.mp 2) (sV (nth m.deps i).name) true=some (.tup [.agg x,.v (.bool ok)]))∧x.length=3∧x.all AV.one=true∧(ok=false→posM (byM root (m.deps.take i)) (nth m.deps i).name=none)∧(ok=true→∃j,posM (byM root (m.deps.take i)) (nth m.deps i).name=some j∧x=(nth (byM root (m.deps.take i)) j).cells):=by
    cases hp:posM (byM root (m.deps.take i)) (nth m.deps i).name with
    | none=>exact⟨_,false,fun G' h=>EI h hp true,rfl,rfl,(fun _=>rfl),(fun h=>by cases h)⟩
    | some j=>exact⟨_,true,fun G' h=>vk h hp true,rfl,rfl,(fun h=>by cases h),fun _=>⟨j,rfl,rfl⟩⟩
   obtain⟨x,ok,hlk,hx3,hx1,hok0,hok1⟩:=key;refine aR fun K' hK=> ?_
   simp[s7,hlk,g2,n2,hx3,hx1];apply hK;clear K' hK;have hup:=fun(G':Hp) (h:G' 2=some (.map (CB (byM root (m.deps.take i)))))=>IV h (nth m.deps i);refine aR fun K' hK=> ?_
   simp[s2];refine ak (Ec (nth m.deps i) root) rfl (by simp) ?_;cases hc:dU (nth m.deps i) root with
   | false=>
    simp;apply hK;clear K' hK;refine aVk (by simp) ?_;apply aj
    refine ah ?_;refine aS fun K' hK=> ?_
    simp[s22,hw];apply hK;clear K' hK;refine aj (ay ?_ ?_)
    ·simp[s1,s2,s7,s20,s21,n2,n3,g2,hw];refine⟨i+1,by simp,by omega,?_⟩;rw[nZ root hi2,stepM,if_neg (by simp[hc])]
    ·simp[s22,hw];omega
   | true=>
    cases ok with
    | false=>
     have hp:=hok0 rfl;simp;apply hK;clear K' hK;refine aU (by simp) ?_;refine aR fun K' hK=> ?_
     simp[s7,hup,g2,n2,n3];apply hK;clear K' hK;apply aj
     refine ah ?_;refine aS fun K' hK=> ?_
     simp[s22,hw];apply hK;clear K' hK;refine aj (ay ?_ ?_)
     ·simp[s1,s2,s7,s20,s21,n2,n3,g2,hw];refine⟨i+1,by simp,by omega,?_⟩;rw[nZ root hi2,stepM,if_pos ⟨hc,fun j hj=>by rw[hp]at hj;cases hj⟩]
     ·simp[s22,hw];omega
    | true=>
     obtain⟨j,hp,rfl⟩:=hok1 rfl;simp;apply hK;clear K' hK;refine aD fun A B hA hB=> ?_
     simp;refine⟨fun hlt=>hA ?_,fun hlt=>hB ?_⟩<;>clear hA hB A B<;>(try simp at hlt)<;>(try with_reducible refine aK ?_)
     ·skip;refine aR fun K' hK=> ?_
      simp[s7,hup,g2,n2,n3];apply hK;clear K' hK;apply aj
      refine ah ?_;refine aS fun K' hK=> ?_
      simp[s22,hw];apply hK;clear K' hK;refine aj (ay ?_ ?_)
      ·simp[s1,s2,s7,s20,s21,n2,n3,g2,hw];refine⟨i+1,by simp,by omega,?_⟩;rw[nZ root hi2,stepM,if_pos ⟨hc,fun j' hj=>by rw[hp]at hj;injection hj with hj;subst hj;exact hlt⟩]
      ·simp[s22,hw];omega
     ·refine aj ?_
      refine ah ?_;refine aS fun K' hK=> ?_
      simp[s22,hw];apply hK;clear K' hK;refine aj (ay ?_ ?_)
      ·simp[s1,s2,s7,s20,s21,n2,n3,g2,hw];refine⟨i+1,by simp,by omega,?_⟩;rw[nZ root hi2,stepM,if_neg (fun h=>by have:=h.2 j hp;omega)]
      ·simp[s22,hw];omega
  ·skip;apply bG
   refine aI (aH ?_);have hM:byM root (m.deps.take i)=byM root m.deps:=(by rw[List.take_of_length_le hi2]);rw[hM]at g2;generalize hMM:byM root m.deps=M at g2;have hnd:(cu M).Nodup:=(by rw[←hMM];exact AY _ _);have hlen:∀d∈M,d.name.size≤1000000000:=fun d h=>(hd.2 d (zV (hMM▸h))).1;have hmax:M.length≤1000000000000:=(by rw[←hMM];have:=zW root m.deps;omega);refine aR fun K' hK=> ?_
   simp;apply hK;clear K' hK;apply aA;refine aR fun K' hK=> ?_
   simp[s7];refine BZ (nx+1+1) (fun hf=>TV hf) (fun hf=>⟨.inr (.upd (hf _ (Nat.le_refl _)) _),BM hf⟩) ?_;simp;refine BZ (nx+1+1+1) (fun hf=>IK (p:=nx+1) (id:=2) (M:=M) (by simp) (by simp[n2,n3,g2]) hnd hlen hmax (hf _ (Nat.le_refl _))) (fun hf=>⟨.inr (.upd (hf _ (Nat.le_refl _)) _),BM hf⟩) ?_;simp;apply hK;clear K' hK;have n4:¬2=nx+1+1:=(by omega);have n5:¬nx=0:=(by omega);have n6:¬nx=nx+1+1:=(by omega);have hSl:(mQ (cu M)).length=M.length:=(by rw[(fE _).length_eq];simp[cu]);generalize hS:mQ (cu M)=S at*;apply aB
   refine bH (fun s G nx'=>s 1=rowT Ru.cells rules∧s 7=.mp 2∧s 54=.row (nx+1+1) S.length∧s 55=iV S.length∧G 2=some (.map (CB M))∧G (nx+1+1)=some (.row 9 (flat Cc S))∧∃(i id:Nat),s 56=iV i∧i≤S.length∧s 12=.row id i∧G id=some (.row 35 (flat Dep.cells ((S.take i).map fun n=>eU rules (findD M n))))) (fun s _ _=>match s 56 with | .v (.int _ n)=>S.length-n.toNat | _=>0) ?_ ?_
   ·refine⟨by simp[s1],by simp[s7],by simp[hSl],by simp[hSl],by simp[n2,n3,n4,n5,g2],by simp,0,nx,by simp,by omega,by simp,by simp[n6]⟩
   ·rintro s G nx1 hf ⟨t1,t7,t54,t55,g2,gS,i,id,t56,hi,t12,gid⟩;have m2:¬2=nx1:=(by have:=cO hf g2;omega);have mS:¬nx+1+1=nx1:=(by have:=cO hf gS;omega);generalize nx+1+1=k at*;have hidl:=cO hf gid;have hkl:=cO hf gS;have h2l:=cO hf g2;have m20:¬nx1=0:=(by omega);have m21:¬2=nx1+1:=(by omega);have m22:¬2=nx1+2:=(by omega);have m23:¬2=nx1+2+1:=(by omega);have m24:¬2=nx1+2+1+1:=(by omega);have m2i:¬2=id:=fun e=>(by rw[←e,g2]at gid;cases gid);have mS1:¬k=nx1+1:=(by omega);have mS2:¬k=nx1+2:=(by omega);have mS3:¬k=nx1+2+1:=(by omega);have mS4:¬k=nx1+2+1+1:=(by omega);have mSi:¬k=id:=fun e=>(by rw[←e,gS]at gid;injection gid with gid;injection gid with gid;cases gid);have mi:¬id=nx1:=(by omega);have mi1:¬id=nx1+1:=(by omega);have mi2:¬id=nx1+2:=(by omega);have mi3:¬id=nx1+3:=(by omega);have hw:IntKind.i64.wrap (↑i+1)=((i+1:Nat):Int):=dh (by omega);refine aR fun K' hK=> ?_
    simp[t55,t56];apply hK;clear K' hK;refine aC fun A B hA hB=> ?_
    simp;refine⟨fun hi3=>hA ?_,fun hi3=>hB ?_⟩<;>clear hA hB A B<;>(try simp at hi3)<;>(try with_reducible refine aK ?_)
    ·skip;apply aB;refine aR fun K' hK=> ?_
     simp[t54,t56,hi3,gS];apply hK;clear K' hK;have hmem:nth S i∈cu M:=(fE (cu M)).mem_iff.1 (by rw[hS];exact bM hi3);have hj:∃j,posM M (nth S i)=some j:=by
      cases h:posM M (nth S i)with
      | none=>exact absurd hmem (kF.1 h)
      | some j=>exact⟨j,rfl⟩
     obtain⟨j,hj⟩:=hj;have hjl:=lV hj;have hlk:=fun(G':Hp) (h:G' 2=some (.map (CB M)))=>vk h hj false;have hfd:findD M (nth S i)=nth M j:=(by simp[findD,hj]);have hdm:nth M j∈m.deps:=zV (root:=root) (by rw[hMM];exact bM hjl.1);have hdd:=hd.2 _ hdm;generalize nth M j=d at*;refine aR fun K' hK=> ?_
     simp[t7,hlk,g2];apply hK;clear K' hK;refine aR fun K' hK=> ?_
     simp;refine aO (GL d.range hdd.2) (by simp[Rg.cells]) ?_;simp[bK,Rg.cells,Dep.cells];apply hK;clear K' hK;have hname:(nth S i)=d.name:=hjl.2.symm;have hedge:eU rules (findD M (nth S i))=eU rules d:=(by rw[hfd]);rw[hname];cases hat:atF rules d.name with
     | none=>
      apply aA;refine aR fun K' hK=> ?_
      simp[t1];refine aO (D7 rules d.name hrl hat) (by simp) ?_;simp[dO];apply hK;clear K' hK;apply aA;refine aR fun K' hK=> ?_
      simp;apply hK;clear K' hK;refine aYk (by simp) ?_
      have hlen1:(List.map (fun n=>eU rules (findD M n)) (List.take i S)).length=i:=(by simp;omega);have hmin:min i S.length=i:=(by omega);have hb1:i+1≤9223372036854775807:=(by omega);have hb2:(i+1)*48≤140737488355328:=(by omega);refine aS fun K' hK=> ?_
      simp[t12,mi,mi1,mi2,mi3,gid,gU,bQ,dA,hmin,hb1,hb2];apply hK;clear K' hK;apply aj
      refine ah ?_;refine aS fun K' hK=> ?_
      simp[t56,hw];apply hK;clear K' hK;have e1:eU rules d=d:=(by simp[eU,hat]);have hlast:flat Dep.cells (List.take i (List.map (fun n=>eU rules (findD M n)) S))++[iV d.kind,sV d.name,rowT Alt.cells d.range]=flat Dep.cells (List.take (i+1) (List.map (fun n=>eU rules (findD M n)) S)):=by
       rw[List.take_add_one,List.getElem?_map,List.getElem?_eq_getElem hi3,←bZ hi3];show _++Dep.cells d=_;rw[dV];simp[hedge,e1]
      refine aj (ay ?_ ?_)
      ·refine⟨by simp[t1],by simp[t7],by simp[t54],by simp[t55],by simp[m20,m2,m21,m22,m23,m24,m2i,g2],by simp[mS,mS1,mS2,mS3,mS4,mSi,gS],i+1,nx1+2+1+1,by simp[hw],by omega,by simp,?_⟩;simp;exact hlast
      ·simp[t56,hw];omega
     | some q=>
      have mA:∀j,¬2=nx1+j:=fun j=>(by omega);have mB:∀j,¬k=nx1+j:=fun j=>(by omega);have mC:∀j,¬id=nx1+j:=fun j=>(by omega);apply aA;refine aR fun K' hK=> ?_
      simp[t1];refine aO (Ed rules d.name hrl hat) (by simp) ?_;simp[bK,Nat.add_assoc];apply hK;clear K' hK;apply aA;refine aR fun K' hK=> ?_
      simp[Nat.add_assoc];apply hK;clear K' hK;refine aX (by simp) ?_;refine aR fun K' hK=> ?_
      simp[gU,Nat.add_assoc];apply hK;clear K' hK;have hmin:min i S.length=i:=(by omega);have hb1:i+1≤9223372036854775807:=(by omega);have hb2:(i+1)*48≤140737488355328:=(by omega);refine aS fun K' hK=> ?_
      simp[t12,mi,mC,gid,gU,bQ,dA,hmin,hb1,hb2,Nat.add_assoc];apply hK;clear K' hK;apply aj
      refine ah ?_;refine aS fun K' hK=> ?_
      simp[t56,hw];apply hK;clear K' hK;have e1:(eU rules d).cells=[iV d.kind,sV d.name,rowT Alt.cells (nth rules q).range]:=(by simp[eU,hat,Dep.cells]);have hlast:flat Dep.cells (List.take i (List.map (fun n=>eU rules (findD M n)) S))++[iV d.kind,sV d.name,rowT Alt.cells (nth rules q).range]=flat Dep.cells (List.take (i+1) (List.map (fun n=>eU rules (findD M n)) S)):=by
       rw[List.take_add_one,List.getElem?_map,List.getElem?_eq_getElem hi3,←bZ hi3,←e1,dV];simp[hedge]
      refine aj (ay ?_ ?_)
      ·refine⟨by simp[t1],by simp[t7],by simp[t54],by simp[t55],by simp[m20,m2,mA,m2i,g2],by simp[mS,mB,mSi,gS],i+1,nx1+5,by simp[hw],by omega,by simp,?_⟩;simp;exact hlast
      ·simp[t56,hw];omega
    ·skip;apply bG
     refine aI (aH ?_);have hiS:i=S.length:=(by omega);have hof:ofF m.deps rules root=S.map fun n=>eU rules (findD M n):=(by simp[ofF,hMM,hS]);have hofl:(ofF m.deps rules root).length=i:=(by rw[hof,List.length_map,hiS]);rw[show S.take i=S by rw[List.take_of_length_le (by omega)],←hof]at gid;rw[hofl];refine aR fun K' hK=> ?_
     simp[t12];apply hK;clear K' hK;apply aF
     simp[au,aG,Post,aW,res1,bF,bC,aP,bg,bf,okT,okA,ok1,rowOf,Tryz.f26,gid]
set_option maxRecDepth 100000
set_option maxHeartbeats 4000000
theorem Dep.ext' {a b:Dep} (h1:a.kind=b.kind) (h2:a.name=b.name) (h3:a.range=b.range):a=b:=by
 cases a;cases b;simp_all
theorem Dep.okR {ds:List Dep} (h:Dep.okL ds) {d:Dep} (hd:d∈ds):d.range.ok:=
 ⟨by have:=(h.2 d hd).2.1;omega,fun l hl=>by have:=(h.2 d hd).2.2 l hl;omega⟩
theorem KN (a b:List Dep) (ha:Dep.okL a):CallsOK Tryz.prog 95 [rowT Dep.cells a,rowT Dep.cells b] (.v (.bool (decide (a=b)))) []:=by
 refine aN mixed Tryz.call95 Tryz.func95 rfl (by rw[Tryz.ntmps95];simp) ?_ rfl;rw[Tryz.ntmps95];refine aR fun K' hK=> ?_
 simp;apply hK;clear K' hK;apply aA;refine aR fun K' hK=> ?_
 simp;apply hK;clear K' hK;refine aC fun A B hA hB=> ?_
 simp;refine⟨fun hl=>hA ?_,fun hl=>hB ?_⟩<;>clear hA hB A B<;>(try simp at hl)<;>(try with_reducible refine aK ?_)
 ·refine aA ?_;refine aR fun K' hK=> ?_
  simp;apply hK;clear K' hK;apply aJ
  simp[au,aG,Post,aW,res1,bF,bC,aP,bg,bf,okT,okA,ok1,rowOf,Tryz.f95];intro e;exact hl (by rw[e])
 ·refine aA ?_;refine aR fun K' hK=> ?_
  simp;apply hK;clear K' hK;apply aB
  refine bH (fun s G nx=>s 0=rowT Dep.cells a∧s 1=rowT Dep.cells b∧∃i:Nat,s 5=iV i∧i≤a.length∧a.take i=b.take i) (fun s _ _=>match s 5 with | .v (.int _ n)=>a.length-n.toNat | _=>0) ?_ ?_
  ·exact⟨by simp,by simp,0,by simp,by omega,by simp⟩
  ·rintro s G nx-⟨s0,s1,i,s5,hi,ht⟩;have hw:IntKind.i64.wrap (↑i+1)=((i+1:Nat):Int):=dh (by have:=ha.1;omega);apply aA;refine aR fun K' hK=> ?_
   simp[s0,s5];apply hK;clear K' hK;refine aC fun A B hA hB=> ?_
   simp;refine⟨fun hi2=>hA ?_,fun hi2=>hB ?_⟩<;>clear hA hB A B<;>(try simp at hi2)<;>(try with_reducible refine aK ?_)
   ·have hi3:i<b.length:=(by omega);apply aB
    by_cases h1:(nth a i).kind=(nth b i).kind
    ·by_cases h2:(nth a i).name=(nth b i).name
     ·skip;refine aQ fun K' hK=> ?_
      simp[s0,s1,s5,hi2,hi3,h1,h2];refine ak (Bf (nth a i).range (nth b i).range (Dep.okR ha (bM hi2))) rfl (by simp[Rg.cells]) ?_;simp;apply hK;clear K' hK;refine aD fun A B hA hB=> ?_
      simp;refine⟨fun hne=>hA ?_,fun hne=>hB ?_⟩<;>clear hA hB A B<;>(try simp at hne)<;>(try with_reducible refine aK ?_)
      ·refine aA ?_;refine aR fun K' hK=> ?_
       simp;apply hK;clear K' hK;apply aJ
       simp[au,aG,Post,aW,res1,bF,bC,aP,bg,bf,okT,okA,ok1,rowOf,Tryz.f95];exact oO (i:=i) fun e=>hne (by rw[e])
      ·refine aj ?_
       refine ah ?_;refine aS fun K' hK=> ?_
       simp[s5,hw];apply hK;clear K' hK;refine aj (ay ?_ ?_)
       ·exact⟨by simp[s0],by simp[s1],i+1,by simp[hw],by omega,nN hi2 hi3 ht (Dep.ext' h1 h2 hne)⟩
       ·simp[s5,hw];omega
     ·skip;refine aQ fun K' hK=> ?_
      simp(maxSteps:=1000000) [s0,s1,s5,hi2,hi3,h1,h2];apply hK;clear K' hK;refine aU (by simp) ?_;apply aA;refine aR fun K' hK=> ?_
      simp;apply hK;clear K' hK;apply aJ
      simp[au,aG,Post,aW,res1,bF,bC,aP,bg,bf,okT,okA,ok1,rowOf,Tryz.f95];exact oO (i:=i) fun e=>h2 (by rw[e])
    ·skip;refine aQ fun K' hK=> ?_
     simp(maxSteps:=1000000) [s0,s1,s5,hi2,hi3,h1];apply hK;clear K' hK;refine aU (by simp) ?_;apply aA;refine aR fun K' hK=> ?_
     simp;apply hK;clear K' hK;apply aJ
     simp[au,aG,Post,aW,res1,bF,bC,aP,bg,bf,okT,okA,ok1,rowOf,Tryz.f95];exact oO (i:=i) fun e=>h1 (by rw[e])
   ·skip;apply bG
    refine aI (aH ?_);refine aR fun K' hK=> ?_
    simp;apply hK;clear K' hK;apply aF
    simp[au,aG,Post,aW,res1,bF,bC,aP,bg,bf,okT,okA,ok1,rowOf,Tryz.f95];exact jV (by omega) (by omega) ht
set_option maxRecDepth 100000
set_option maxHeartbeats 4000000
theorem GX (v:Ver):CallsOK Tryz.prog 12 [.agg v.cells] (.v (.bool (decide (300<v.pre.size)))) []:=by
 refine aN mixed Tryz.call12 Tryz.func12 rfl (by rw[Tryz.ntmps12];simp) ?_ rfl;rw[Tryz.ntmps12];refine aR fun K' hK=> ?_
 simp;apply hK;clear K' hK;refine aR fun K' hK=> ?_
 simp[gU];apply hK;clear K' hK;apply aF
 simp[au,aG,Post,aW,res1,bF,bC,aP,bg,bf,okT,okA,ok1,rowOf,Tryz.f12];omega
def SX (b:Bd):Bool:=decide (300<b.ver.pre.size)
def Og (l:Alt):Bool:=decide (20<l.length) || l.any SX
def JX (r:Rg):Bool:=decide (20<r.length) || r.any Og
theorem Ht (r:Rg):CallsOK Tryz.prog 11 [.agg r.cells] (.v (.bool (JX r))) []:=by
 refine aN mixed Tryz.call11 Tryz.func11 rfl (by rw[Tryz.ntmps11];simp) ?_ rfl;rw[Tryz.ntmps11];refine aR fun K' hK=> ?_
 simp[Rg.cells];apply hK;clear K' hK;apply aA;refine aR fun K' hK=> ?_
 simp;apply hK;clear K' hK;refine aC fun A B hA hB=> ?_
 simp;refine⟨fun hl=>hA ?_,fun hl=>hB ?_⟩<;>clear hA hB A B<;>(try simp at hl)<;>(try with_reducible refine aK ?_)
 ·refine aA ?_;refine aR fun K' hK=> ?_
  simp;apply hK;clear K' hK;apply aJ
  simp[au,aG,Post,aW,res1,bF,bC,aP,bg,bf,okT,okA,ok1,rowOf,Tryz.f11];simp[JX];omega
 ·refine aA ?_;refine aR fun K' hK=> ?_
  simp;apply hK;clear K' hK;apply aB
  refine bH (fun s G nx=>G 0=some (.var 33 [rowT Alt.cells r])∧s 1=.ptr 0 0∧∃i:Nat,s 3=iV i∧i≤r.length∧(r.take i).any Og=false) (fun s _ _=>match s 3 with | .v (.int _ n)=>r.length-n.toNat | _=>0) ?_ ?_
  ·exact⟨by simp,by simp,0,by simp,by omega,by simp⟩
  ·rintro s G nx-⟨g0,s1,i,s3,hi,ht⟩;have hw:IntKind.i64.wrap (↑i+1)=((i+1:Nat):Int):=dh (by omega);apply aA;refine aR fun K' hK=> ?_
   simp[g0,s1,s3];apply hK;clear K' hK;refine aC fun A B hA hB=> ?_
   simp;refine⟨fun hi2=>hA ?_,fun hi2=>hB ?_⟩<;>clear hA hB A B<;>(try simp at hi2)<;>(try with_reducible refine aK ?_)
   ·skip;apply aB;apply aA;refine aR fun K' hK=> ?_
    simp[g0,s1,s3,hi2];apply hK;clear K' hK;refine aC fun A B hA hB=> ?_
    simp;refine⟨fun hl2=>hA ?_,fun hl2=>hB ?_⟩<;>clear hA hB A B<;>(try simp at hl2)<;>(try with_reducible refine aK ?_)
    ·refine aA ?_;refine aR fun K' hK=> ?_
     simp;apply hK;clear K' hK;apply aJ
     simp[au,aG,Post,aW,res1,bF,bC,aP,bg,bf,okT,okA,ok1,rowOf,Tryz.f11];have:Og (nth r i)=true:=(by simp[Og];left;omega);simp only[JX,Bool.or_eq_true,List.any_eq_true];exact .inr ⟨_,bM hi2,this⟩
    ·skip;refine aR fun K' hK=> ?_
     simp;apply hK;clear K' hK;refine dL (aB ?_)
     refine bH (fun s G nx=>G 0=some (.var 33 [rowT Alt.cells r])∧s 1=.ptr 0 0∧s 3=iV i∧∃j:Nat,s 4=iV j∧j≤(nth r i).length∧((nth r i).take j).any SX=false) (fun s _ _=>match s 4 with | .v (.int _ n)=>(nth r i).length-n.toNat | _=>0) ?_ ?_
     ·exact⟨by simp[g0],by simp[s1],by simp[s3],0,by simp,by omega,by simp⟩
     ·rintro s' G' nx'-⟨g0',s1',s3',j,s4',hj,htj⟩;have hwj:IntKind.i64.wrap (↑j+1)=((j+1:Nat):Int):=dh (by omega);apply aA;refine aR fun K' hK=> ?_
      simp[g0',s1',s3',s4',hi2];apply hK;clear K' hK;refine aC fun A B hA hB=> ?_
      simp;refine⟨fun hj2=>hA ?_,fun hj2=>hB ?_⟩<;>clear hA hB A B<;>(try simp at hj2)<;>(try with_reducible refine aK ?_)
      ·skip;apply aB;refine aR fun K' hK=> ?_
       simp[g0',s1',s3',s4',hi2,hj2];refine ak (GX (nth (nth r i) j).ver) rfl (by simp) ?_;simp;apply hK;clear K' hK;refine aD fun A B hA hB=> ?_
       simp;refine⟨fun hb=>hA ?_,fun hb=>hB ?_⟩<;>clear hA hB A B<;>(try simp at hb)<;>(try with_reducible refine aK ?_)
       ·refine aA ?_;refine aR fun K' hK=> ?_
        simp;apply hK;clear K' hK;apply aJ
        simp[au,aG,Post,aW,res1,bF,bC,aP,bg,bf,okT,okA,ok1,rowOf,Tryz.f11];have h1:SX (nth (nth r i) j)=true:=(by simp[SX];omega);have h2:Og (nth r i)=true:=by
         simp only[Og,Bool.or_eq_true,List.any_eq_true];exact .inr ⟨_,bM hj2,h1⟩
        simp only[JX,Bool.or_eq_true,List.any_eq_true];exact .inr ⟨_,bM hi2,h2⟩
       ·refine aj ?_
        refine ah ?_;refine aS fun K' hK=> ?_
        simp[s4',hwj];apply hK;clear K' hK;refine aj (ay ?_ ?_)
        ·exact⟨by simp[g0'],by simp[s1'],by simp[s3'],j+1,by simp[hwj],by omega,lW hj2 htj (by simp[SX];omega)⟩
        ·simp[s4',hwj];omega
      ·skip;apply bG
       refine aI (aH ?_);apply aj
       refine ah ?_;refine aS fun K' hK=> ?_
       simp[s3',hw];apply hK;clear K' hK;have hA:Og (nth r i)=false:=by
        rw[List.take_of_length_le (by omega)]at htj;simp only[Og,htj,Bool.or_false,decide_eq_false_iff_not];omega
       refine aj (ay ?_ ?_)
       ·exact⟨by simp[g0'],by simp[s1'],i+1,by simp[hw],by omega,lW hi2 ht hA⟩
       ·simp[s3,s3',hw];omega
   ·skip;apply bG
    refine aI (aH ?_);refine aR fun K' hK=> ?_
    simp;apply hK;clear K' hK;apply aF
    simp[au,aG,Post,aW,res1,bF,bC,aP,bg,bf,okT,okA,ok1,rowOf,Tryz.f11];rw[List.take_of_length_le (by omega)]at ht;simp only[JX,ht,Bool.or_false,decide_eq_false_iff_not];omega
set_option maxRecDepth 100000
set_option maxHeartbeats 4000000
def Qb (d:Dep):Bool:=decide (300<d.name.size) || JX d.range
def P5 (d:Ru):Bool:=decide (300<d.name.size) || JX d.range
def xq (m:Man):Bool:=decide (300<m.name.size) || decide (300<m.ver.pre.size) || decide (40<m.deps.length) || decide (40<m.rules.length) || m.deps.any Qb || m.rules.any P5
theorem GU (m:Man):CallsOK Tryz.prog 75 [.agg m.cells] (.v (.bool (xq m))) []:=by
 refine aN mixed Tryz.call75 Tryz.func75 rfl (by rw[Tryz.ntmps75];simp) ?_ rfl;rw[Tryz.ntmps75];refine aR fun K' hK=> ?_
 simp;apply hK;clear K' hK;by_cases c1:(300:Int)<(m.name.size:Int)
 ·refine aA ?_;refine aR fun K' hK=> ?_
  simp[c1];apply hK;clear K' hK;refine aX (by simp) ?_;apply aA;refine aR fun K' hK=> ?_
  simp;apply hK;clear K' hK;apply aJ
  simp[au,aG,Post,aW,res1,bF,bC,aP,bg,bf,okT,okA,ok1,rowOf,Tryz.f75];simp[xq];omega
 ·refine aA ?_;refine aR fun K' hK=> ?_
  simp[c1];refine ak (GX m.ver) rfl (by simp) ?_;by_cases c2:300<m.ver.pre.size
  ·simp[c2];apply hK;clear K' hK;refine aX (by simp) ?_;apply aA;refine aR fun K' hK=> ?_
   simp;apply hK;clear K' hK;apply aJ
   simp[au,aG,Post,aW,res1,bF,bC,aP,bg,bf,okT,okA,ok1,rowOf,Tryz.f75];simp[xq,c2]
  ·by_cases c3:(40:Int)<(m.deps.length:Int)
   ·simp[c2,c3];apply hK;clear K' hK;refine aX (by simp) ?_;apply aA;refine aR fun K' hK=> ?_
    simp;apply hK;clear K' hK;apply aJ
    simp[au,aG,Post,aW,res1,bF,bC,aP,bg,bf,okT,okA,ok1,rowOf,Tryz.f75];simp[xq];omega
   ·by_cases c4:(40:Int)<(m.rules.length:Int)
    ·simp[c2,c3,c4];apply hK;clear K' hK;refine aX (by simp) ?_;apply aA;refine aR fun K' hK=> ?_
     simp;apply hK;clear K' hK;apply aJ
     simp[au,aG,Post,aW,res1,bF,bC,aP,bg,bf,okT,okA,ok1,rowOf,Tryz.f75];simp[xq];omega
    ·simp[c2,c3,c4];apply hK;clear K' hK;refine aYk (by simp) ?_;apply aA;refine aR fun K' hK=> ?_
     simp;apply hK;clear K' hK;apply aB
     refine bH (fun s G nx=>G 0=some (.var 27 m.cells)∧s 1=.ptr 0 0∧∃i:Nat,s 3=iV i∧i≤m.deps.length∧(m.deps.take i).any Qb=false) (fun s _ _=>match s 3 with | .v (.int _ n)=>m.deps.length-n.toNat | _=>0) ?_ ?_
     ·exact⟨by simp,by simp,0,by simp,by omega,by simp⟩
     ·rintro s G nx-⟨g0,s1,i,s3,hi,ht⟩;have hw:IntKind.i64.wrap (↑i+1)=((i+1:Nat):Int):=dh (by omega);apply aA;refine aR fun K' hK=> ?_
      simp[g0,s1,s3];apply hK;clear K' hK;refine aC fun A B hA hB=> ?_
      simp;refine⟨fun hi2=>hA ?_,fun hi2=>hB ?_⟩<;>clear hA hB A B<;>(try simp at hi2)<;>(try with_reducible refine aK ?_)
      ·skip;apply aB
       by_cases d1:(300:Int)<((nth m.deps i).name.size:Int)
       ·skip;refine aR fun K' hK=> ?_
        simp[g0,s1,s3,hi2,d1];apply hK;clear K' hK;refine aU (by simp) ?_;apply aA;refine aR fun K' hK=> ?_
        simp;apply hK;clear K' hK;apply aJ
        simp[au,aG,Post,aW,res1,bF,bC,aP,bg,bf,okT,okA,ok1,rowOf,Tryz.f75];have h1:Qb (nth m.deps i)=true:=(by simp[Qb];left;omega);simp only[xq,Bool.or_eq_true,List.any_eq_true];exact .inl (.inr ⟨_,bM hi2,h1⟩)
       ·skip;refine aR fun K' hK=> ?_
        simp[g0,s1,s3,hi2,d1];refine ak (Ht (nth m.deps i).range) rfl (by simp[Rg.cells]) ?_;simp;apply hK;clear K' hK;refine aD fun A B hA hB=> ?_
        simp;refine⟨fun d2=>hA ?_,fun d2=>hB ?_⟩<;>clear hA hB A B<;>(try simp at d2)<;>(try with_reducible refine aK ?_)
        ·refine aA ?_;refine aR fun K' hK=> ?_
         simp;apply hK;clear K' hK;apply aJ
         simp[au,aG,Post,aW,res1,bF,bC,aP,bg,bf,okT,okA,ok1,rowOf,Tryz.f75];have h1:Qb (nth m.deps i)=true:=(by simp[Qb,d2]);simp only[xq,Bool.or_eq_true,List.any_eq_true];exact .inl (.inr ⟨_,bM hi2,h1⟩)
        ·refine aj ?_
         refine ah ?_;refine aS fun K' hK=> ?_
         simp[s3,hw];apply hK;clear K' hK;refine aj (ay ?_ ?_)
         ·exact⟨by simp[g0],by simp[s1],i+1,by simp[hw],by omega,lW hi2 ht (by simp only[Qb,d2,Bool.or_false,decide_eq_false_iff_not];omega)⟩
         ·simp[s3,hw];omega
      ·skip;apply bG
       refine aI (aH ?_);have hD:m.deps.any Qb=false:=(by rw[List.take_of_length_le (by omega)]at ht;exact ht);apply aA;refine aR fun K' hK=> ?_
       simp;apply hK;clear K' hK;apply aB
       refine bH (fun s G nx=>G 0=some (.var 27 m.cells)∧s 1=.ptr 0 0∧∃i:Nat,s 4=iV i∧i≤m.rules.length∧(m.rules.take i).any P5=false) (fun s _ _=>match s 4 with | .v (.int _ n)=>m.rules.length-n.toNat | _=>0) ?_ ?_
       ·exact⟨by simp[g0],by simp[s1],0,by simp,by omega,by simp⟩
       ·rintro s' G' nx'-⟨g0',s1',j,s4',hj,htj⟩;have hwj:IntKind.i64.wrap (↑j+1)=((j+1:Nat):Int):=dh (by omega);apply aA;refine aR fun K' hK=> ?_
        simp[g0',s1',s4'];apply hK;clear K' hK;refine aC fun A B hA hB=> ?_
        simp;refine⟨fun hj2=>hA ?_,fun hj2=>hB ?_⟩<;>clear hA hB A B<;>(try simp at hj2)<;>(try with_reducible refine aK ?_)
        ·skip;apply aB
         by_cases d1:(300:Int)<((nth m.rules j).name.size:Int)
         ·skip;refine aR fun K' hK=> ?_
          simp[g0',s1',s4',hj2,d1];apply hK;clear K' hK;refine aU (by simp) ?_;apply aA;refine aR fun K' hK=> ?_
          simp;apply hK;clear K' hK;apply aJ
          simp[au,aG,Post,aW,res1,bF,bC,aP,bg,bf,okT,okA,ok1,rowOf,Tryz.f75];have h1:P5 (nth m.rules j)=true:=(by simp[P5];left;omega);simp only[xq,Bool.or_eq_true,List.any_eq_true];exact .inr ⟨_,bM hj2,h1⟩
         ·skip;refine aR fun K' hK=> ?_
          simp[g0',s1',s4',hj2,d1];refine ak (Ht (nth m.rules j).range) rfl (by simp[Rg.cells]) ?_;simp;apply hK;clear K' hK;refine aD fun A B hA hB=> ?_
          simp;refine⟨fun d2=>hA ?_,fun d2=>hB ?_⟩<;>clear hA hB A B<;>(try simp at d2)<;>(try with_reducible refine aK ?_)
          ·refine aA ?_;refine aR fun K' hK=> ?_
           simp;apply hK;clear K' hK;apply aJ
           simp[au,aG,Post,aW,res1,bF,bC,aP,bg,bf,okT,okA,ok1,rowOf,Tryz.f75];have h1:P5 (nth m.rules j)=true:=(by simp[P5,d2]);simp only[xq,Bool.or_eq_true,List.any_eq_true];exact .inr ⟨_,bM hj2,h1⟩
          ·refine aj ?_
           refine ah ?_;refine aS fun K' hK=> ?_
           simp[s4',hwj];apply hK;clear K' hK;refine aj (ay ?_ ?_)
           ·exact⟨by simp[g0'],by simp[s1'],j+1,by simp[hwj],by omega,lW hj2 htj (by simp only[P5,d2,Bool.or_false,decide_eq_false_iff_not];omega)⟩
           ·simp[s4',hwj];omega
        ·skip;apply bG
         refine aI (aH ?_);have hU:m.rules.any P5=false:=(by rw[List.take_of_length_le (by omega)]at htj;exact htj);refine aR fun K' hK=> ?_
         simp;apply hK;clear K' hK;apply aF
         simp[au,aG,Post,aW,res1,bF,bC,aP,bg,bf,okT,okA,ok1,rowOf,Tryz.f75];simp[xq,hD,hU];omega
def leB' (a b:Bs):Prop:=bsL a≤bsL b
theorem CJ {a b:Bs} (h1:leB' a b) (h2:leB' b a):a=b:=nD (List.le_antisymm h1 h2)
theorem Ui {a b:Bs} (h:leB' a b) (hne:a≠b):ltB a b=true:=by
 simp only[ltB,decide_eq_true_eq];rcases Classical.em (bsL a<bsL b)with h1 | h1
 ·exact h1
 ·exact absurd (CJ h (show bsL b≤bsL a from List.not_lt.1 h1)) hne
theorem tZ (l:List Bs):(mQ l).Pairwise leB':=by
 have tr:∀a b c:List UInt8,decide (a≤b)=true→decide (b≤c)=true→decide (a≤c)=true:=fun a b c h1 h2=>(by simp only[decide_eq_true_eq]at*;exact List.le_trans h1 h2);have tot:∀a b:List UInt8,(decide (a≤b) || decide (b≤a))=true:=fun a b=>(by simp only[Bool.or_eq_true,decide_eq_true_eq];exact List.le_total a b);unfold mQ sortK;refine List.pairwise_map.2 ((List.pairwise_mergeSort tr tot (l.map bsL)).imp fun h=> ?_);simpa [leB',bsL]using h
theorem Po {l l':List Bs} (hp:l'.Perm l) (hs:l'.Pairwise leB'):mQ l=l':=
 List.Perm.eq_of_pairwise (le:=leB') (fun a b _ _ h1 h2=>CJ h1 h2) (tZ l) hs ((fE l).trans hp.symm)
theorem IX {l:List Bs} (hs:l.Pairwise leB'):mQ l=l:=Po (List.Perm.refl _) hs
theorem PI {l:List Bs} (hnd:l.Nodup):(mQ l).Pairwise (fun a b=>ltB a b=true):=by
 have h1:=tZ l;have h2:(mQ l).Nodup:=(fE l).nodup_iff.2 hnd;exact(h1.and h2).imp fun h=>Ui h.1 h.2
set_option maxRecDepth 100000
set_option maxHeartbeats 4000000
theorem vU (l:List Dep) (hl:l.length<1000000000000):CallsOK Tryz.prog 119 [rowT Dep.cells l] (.row 0 l.length) [(35,flat Dep.cells l)]:=by
 refine aN mixed Tryz.call119 Tryz.func119 rfl (by rw[Tryz.ntmps119];simp) ?_ rfl;rw[Tryz.ntmps119];have h1:l.length≤9223372036854775807:=(by omega);have h2:l.length*48≤140737488355328:=(by omega);refine aR fun K' hK=> ?_
 simp;apply hK;clear K' hK;by_cases h:l=[]
 ·subst h;apply aA;refine aR fun K' hK=> ?_
  simp;apply hK;clear K' hK;(repeat with_reducible refine jR ?_);refine oD fun A B hA hB=> ?_;simp;refine⟨hA ?_,hB (pR ?_)⟩
  ·refine aA ?_;refine aR fun K' hK=> ?_
   simp;apply hK;clear K' hK;apply aJ
   simp[au,aG,Post,aW,res1,bF,bC,aP,bg,bf,okT,okA,ok1,rowOf,Tryz.f119]
  ·skip;refine aR fun K' hK=> ?_
   simp;apply hK;clear K' hK;apply aF
   simp[au,aG,Post,aW,res1,bF,bC,aP,bg,bf,okT,okA,ok1,rowOf,Tryz.f119]
 ·refine aA ?_;refine aR fun K' hK=> ?_
  simp[h];apply hK;clear K' hK;refine aYk (by simp) ?_;refine aR fun K' hK=> ?_
  simp[h1,h2];apply hK;clear K' hK;apply aF
  simp[au,aG,Post,aW,res1,bF,bC,aP,bg,bf,okT,okA,ok1,rowOf,Tryz.f119]
theorem wF (l:List Ru) (hl:l.length<1000000000000):CallsOK Tryz.prog 121 [rowT Ru.cells l] (.row 0 l.length) [(134,flat Ru.cells l)]:=by
 refine aN mixed Tryz.call121 Tryz.func121 rfl (by rw[Tryz.ntmps121];simp) ?_ rfl;rw[Tryz.ntmps121];have h1:l.length≤9223372036854775807:=(by omega);have h2:l.length*40≤140737488355328:=(by omega);refine aR fun K' hK=> ?_
 simp;apply hK;clear K' hK;by_cases h:l=[]
 ·subst h;apply aA;refine aR fun K' hK=> ?_
  simp;apply hK;clear K' hK;(repeat with_reducible refine jR ?_);refine oD fun A B hA hB=> ?_;simp;refine⟨hA ?_,hB (pR ?_)⟩
  ·refine aA ?_;refine aR fun K' hK=> ?_
   simp;apply hK;clear K' hK;apply aJ
   simp[au,aG,Post,aW,res1,bF,bC,aP,bg,bf,okT,okA,ok1,rowOf,Tryz.f121]
  ·skip;refine aR fun K' hK=> ?_
   simp;apply hK;clear K' hK;apply aF
   simp[au,aG,Post,aW,res1,bF,bC,aP,bg,bf,okT,okA,ok1,rowOf,Tryz.f121]
 ·refine aA ?_;refine aR fun K' hK=> ?_
  simp[h];apply hK;clear K' hK;refine aYk (by simp) ?_;refine aR fun K' hK=> ?_
  simp[h1,h2];apply hK;clear K' hK;apply aF
  simp[au,aG,Post,aW,res1,bF,bC,aP,bg,bf,okT,okA,ok1,rowOf,Tryz.f121]
theorem Dx (r:Rg) (hr:r.length<1000000000000∧∀l∈r,l.length<1000000000000):CallsOK Tryz.prog 120 [.agg r.cells] (.agg [.row 0 r.length]) [(71,flat Alt.cells r)]:=by
 refine aN mixed Tryz.call120 Tryz.func120 rfl (by rw[Tryz.ntmps120];simp) ?_ rfl;rw[Tryz.ntmps120];refine aR fun K' hK=> ?_
 simp[Rg.cells];apply hK;clear K' hK;refine aR fun K' hK=> ?_
 simp;refine aO (rP r hr.1) (by simp) ?_;simp[bK];apply hK;clear K' hK;apply aA;refine aR fun K' hK=> ?_
 simp;apply hK;clear K' hK;apply aB
 refine bH (fun s G nx=>G 0=some (.var 33 [.row 2 r.length])∧G 1=some (.var 33 [.v (.slice none 0 0)])∧G 2=some (.row 71 (flat Alt.cells r))∧s 1=.ptr 0 0∧s 2=.ptr 1 0∧s 10=.row 2 r.length∧s 11=iV r.length∧∃i:Nat,s 12=iV i∧i≤r.length) (fun s _ _=>match s 12 with | .v (.int _ n)=>r.length-n.toNat | _=>0) ?_ ?_
 ·simp;exact⟨0,by simp⟩
 ·rintro s G nx hf ⟨g0,g1,g2,s1,s2,s10,s11,i,s12,hi⟩;have hnx:=cO hf g2;have n0:¬0=nx:=(by omega);have n1:¬1=nx:=(by omega);have n2:¬2=nx:=(by omega);have hw:IntKind.i64.wrap (↑i+1)=((i+1:Nat):Int):=dh (by have:=hr.1;omega);refine aR fun K' hK=> ?_
  simp[s11,s12];apply hK;clear K' hK;refine aC fun A B hA hB=> ?_
  simp;refine⟨fun hi2=>hA ?_,fun hi2=>hB ?_⟩<;>clear hA hB A B<;>(try simp at hi2)<;>(try with_reducible refine aK ?_)
  ·skip;apply aB;refine aR fun K' hK=> ?_
   simp[s10,s12,hi2,g2];apply hK;clear K' hK;refine aT fun K' hK=> ?_
   simp[s1,g0];refine aO (rX (nth r i) (hr.2 _ (bM hi2))) (by simp) ?_;have hp:Aa (flat Alt.cells r) 1 i 0 [rowT Bd.cells (nth r i)]=flat Alt.cells r:=wS hi2;simp[bK,s10,n2,g2,hi2,hp];apply hK;clear K' hK;apply aj
   refine ah ?_;refine aS fun K' hK=> ?_
   simp[s12,hw];apply hK;clear K' hK;refine aj (ay ?_ ?_)
   ·simp[n0,n1,n2,g0,g1,s1,s2,s10,s11,hw];exact⟨i+1,by simp,by omega⟩
   ·simp[s12,hw];omega
  ·skip;apply bG
   refine aI (aH ?_);refine aR fun K' hK=> ?_
   simp[s1,s2,g0,g1];apply hK;clear K' hK;apply aF
   simp[au,aG,Post,aW,res1,bF,bC,aP,bg,bf,okT,okA,ok1,rowOf,Tryz.f120,s2,g2]
theorem DF (r:Rg) (hr:r.length<1000000000000∧∀l∈r,l.length<1000000000000):CallsOK Tryz.prog 122 [.agg r.cells] (.agg [.row 0 r.length]) [(71,flat Alt.cells r)]:=by
 refine aN mixed Tryz.call122 Tryz.func122 rfl (by rw[Tryz.ntmps122];simp) ?_ rfl;rw[Tryz.ntmps122];refine aR fun K' hK=> ?_
 simp[Rg.cells];apply hK;clear K' hK;refine aR fun K' hK=> ?_
 simp;refine aO (rP r hr.1) (by simp) ?_;simp[bK];apply hK;clear K' hK;apply aA;refine aR fun K' hK=> ?_
 simp;apply hK;clear K' hK;apply aB
 refine bH (fun s G nx=>G 0=some (.var 33 [.row 2 r.length])∧G 1=some (.var 33 [.v (.slice none 0 0)])∧G 2=some (.row 71 (flat Alt.cells r))∧s 1=.ptr 0 0∧s 2=.ptr 1 0∧s 10=.row 2 r.length∧s 11=iV r.length∧∃i:Nat,s 12=iV i∧i≤r.length) (fun s _ _=>match s 12 with | .v (.int _ n)=>r.length-n.toNat | _=>0) ?_ ?_
 ·simp;exact⟨0,by simp⟩
 ·rintro s G nx hf ⟨g0,g1,g2,s1,s2,s10,s11,i,s12,hi⟩;have hnx:=cO hf g2;have n0:¬0=nx:=(by omega);have n1:¬1=nx:=(by omega);have n2:¬2=nx:=(by omega);have hw:IntKind.i64.wrap (↑i+1)=((i+1:Nat):Int):=dh (by have:=hr.1;omega);refine aR fun K' hK=> ?_
  simp[s11,s12];apply hK;clear K' hK;refine aC fun A B hA hB=> ?_
  simp;refine⟨fun hi2=>hA ?_,fun hi2=>hB ?_⟩<;>clear hA hB A B<;>(try simp at hi2)<;>(try with_reducible refine aK ?_)
  ·skip;apply aB;refine aR fun K' hK=> ?_
   simp[s10,s12,hi2,g2];apply hK;clear K' hK;refine aT fun K' hK=> ?_
   simp[s1,g0];refine aO (rX (nth r i) (hr.2 _ (bM hi2))) (by simp) ?_;have hp:Aa (flat Alt.cells r) 1 i 0 [rowT Bd.cells (nth r i)]=flat Alt.cells r:=wS hi2;simp[bK,s10,n2,g2,hi2,hp];apply hK;clear K' hK;apply aj
   refine ah ?_;refine aS fun K' hK=> ?_
   simp[s12,hw];apply hK;clear K' hK;refine aj (ay ?_ ?_)
   ·simp[n0,n1,n2,g0,g1,s1,s2,s10,s11,hw];exact⟨i+1,by simp,by omega⟩
   ·simp[s12,hw];omega
  ·skip;apply bG
   refine aI (aH ?_);refine aR fun K' hK=> ?_
   simp[s1,s2,g0,g1];apply hK;clear K' hK;apply aF
   simp[au,aG,Post,aW,res1,bF,bC,aP,bg,bf,okT,okA,ok1,rowOf,Tryz.f122,s2,g2]
set_option maxRecDepth 100000
set_option maxHeartbeats 4000000
theorem F5 {cs ts:List AV} {off:Nat} (h:gU cs off ts.length=some ts):splice cs off ts=cs:=by
 unfold gU at h;split at h
 ·injection h with h;unfold splice;rw[←List.drop_drop]
  conv=>lhs;arg 1;rw[←h]
  rw[List.append_assoc,List.take_append_drop,List.take_append_drop]
 ·cases h
theorem nO {α:Type} {c:α→List AV} {w:Nat} {l:List α} [Inhabited α] [Wid c w] {i f:Nat} {ts:List AV} (h:i<l.length) (hk:f+ts.length≤w) (hg:gU (c (nth l i)) f ts.length=some ts):Aa (flat c l) w i f ts=flat c l:=
 F5 (by rw[←hg];exact vI h hk)
def Man.dX (m:Man) (a b:AV):List AV:=[sV m.name,iV m.ver.maj,iV m.ver.min,iV m.ver.pat,sV m.ver.pre,a,b]
section
variable {G:Hp}
@[simp] theorem manR_put5 (m:Man) (x:AV):List.take 5 m.cells++x::List.drop 6 m.cells=m.dX x (rowT Ru.cells m.rules):=rfl
@[simp] theorem manR_put6 (m:Man) (a b x:AV):List.take 6 (m.dX a b)++x::List.drop 7 (m.dX a b)=m.dX a x:=rfl
@[simp] theorem manR_put6' (m:Man) (a b x:AV):List.take 6 (m.dX a b)++[x]=m.dX a x:=rfl
@[simp] theorem manR_drop (m:Man) (a b c d:AV):m.dX a b++List.drop 7 (m.dX c d)=m.dX a b:=rfl
@[simp] theorem manR_5 (m:Man) (a b:AV):gU (m.dX a b) 5 1=some [a]:=rfl
@[simp] theorem manR_6 (m:Man) (a b:AV):gU (m.dX a b) 6 1=some [b]:=rfl
@[simp] theorem manR_ver (m:Man) (a b:AV):gU (m.dX a b) 1 4=some m.ver.cells:=rfl
@[simp] theorem manR_name (m:Man) (a b:AV):gU (m.dX a b) 0 1=some [sV m.name]:=rfl
@[simp] theorem manR_all (m:Man) (a b:AV):gU (m.dX a b) 0 7=some (m.dX a b):=rfl
@[simp] theorem manR_len (m:Man) (a b:AV):(m.dX a b).length=7:=rfl
end
def Man.okS (m:Man):Prop:=Dep.okL m.deps∧Ru.okL m.rules
abbrev Eo:List AV:=[sV ⟨#[]⟩,iV 0,iV 0,iV 0,sV ⟨#[]⟩,.v (.slice none 0 0),.v (.slice none 0 0)]
def manZ:Man:=⟨⟨#[]⟩,⟨0,0,0,⟨#[]⟩⟩,[],[]⟩
theorem Qc (m:Man) (hm:Man.okS m):CallsOK Tryz.prog 73 [.agg m.cells] (.agg (m.dX (.row 0 m.deps.length) (.row 1 m.rules.length))) [(35,flat Dep.cells m.deps),(134,flat Ru.cells m.rules)]:=by
 refine aN mixed Tryz.call73 Tryz.func73 rfl (by rw[Tryz.ntmps73];simp) ?_ rfl;rw[Tryz.ntmps73];obtain⟨hd,hu⟩:=hm;have hdl:=hd.1;have hul:=hu.1;refine aR fun K' hK=> ?_
 simp;apply hK;clear K' hK;refine aR fun K' hK=> ?_
 simp;refine aO (vU m.deps hdl) (by simp) ?_;simp[bK];apply hK;clear K' hK;apply aA;refine aR fun K' hK=> ?_
 simp;apply hK;clear K' hK;apply aB
 refine bH (fun s G nx=>G 0=some (.var 27 (m.dX (.row 2 m.deps.length) (rowT Ru.cells m.rules)))∧G 1=some (.var 27 Eo)∧G 2=some (.row 35 (flat Dep.cells m.deps))∧s 1=.ptr 0 0∧s 2=.ptr 1 0∧s 12=.row 2 m.deps.length∧s 13=iV m.deps.length∧∃i:Nat,s 14=iV i∧i≤m.deps.length) (fun s _ _=>match s 14 with | .v (.int _ n)=>m.deps.length-n.toNat | _=>0) ?_ ?_
 ·exact⟨by simp,by simp,by simp,by simp,by simp,by simp,by simp,0,by simp,by omega⟩
 ·rintro s G nx hf ⟨g0,g1,g2,s1,s2,s12,s13,i,s14,hi⟩;have hnx:=cO hf g2;have n0:¬0=nx:=(by omega);have n1:¬1=nx:=(by omega);have n2:¬2=nx:=(by omega);have nz:¬nx=0:=(by omega);have m0:¬0=nx+1:=(by omega);have m1:¬1=nx+1:=(by omega);have m2:¬2=nx+1:=(by omega);have hw:IntKind.i64.wrap (↑i+1)=((i+1:Nat):Int):=dh (by omega);refine aR fun K' hK=> ?_
  simp[s13,s14];apply hK;clear K' hK;refine aC fun A B hA hB=> ?_
  simp;refine⟨fun hi2=>hA ?_,fun hi2=>hB ?_⟩<;>clear hA hB A B<;>(try simp at hi2)<;>(try with_reducible refine aK ?_)
  ·skip;apply aB;refine aR fun K' hK=> ?_
   simp[s12,s14,hi2,g2];apply hK;clear K' hK;have hr:=(hd.2 _ (bM hi2)).2;have hp:Aa (flat Dep.cells m.deps) 3 i 2 [rowT Alt.cells (nth m.deps i).range]=flat Dep.cells m.deps:=nO hi2 (by simp) rfl;refine aT fun K' hK=> ?_
   simp[s1,g0,n0];refine aO (Dx (nth m.deps i).range hr) (by simp[Rg.cells]) ?_;simp[bK,n0,n1,n2,m0,m1,m2,g2,hi2,hp];apply hK;clear K' hK;apply aj
   refine ah ?_;refine aS fun K' hK=> ?_
   simp[s14,hw];apply hK;clear K' hK;refine aj (ay ?_ ?_)
   ·exact⟨by simp[n0,m0,g0],by simp[n1,m1,nz,g1],by simp[n1,n2,m2,g2],by simp[s1],by simp[s2],by simp[s12],by simp[s13],i+1,by simp[hw],by omega⟩
   ·simp[s14,hw];omega
  ·skip;apply bG
   refine aI (aH ?_);clear s12 s13 s14 m0 m1 m2 hw;generalize nx=N at*;refine aR fun K' hK=> ?_
   simp[s1,g0];refine aO (wF m.rules hul) (by simp) ?_;simp[bK,n0,n1,n2,nz,g0,s1];apply hK;clear K' hK;have n0':¬N=0:=(by omega);have n1':¬N=1:=(by omega);have n2':¬N=2:=(by omega);apply aA;refine aR fun K' hK=> ?_
   simp[s1,n0,g0,n0'];apply hK;clear K' hK;apply aB
   refine bH (fun s G nx=>G 0=some (.var 27 (m.dX (.row 2 m.deps.length) (.row N m.rules.length)))∧G 1=some (.var 27 Eo)∧G 2=some (.row 35 (flat Dep.cells m.deps))∧G N=some (.row 134 (flat Ru.cells m.rules))∧s 1=.ptr 0 0∧s 2=.ptr 1 0∧s 33=.row N m.rules.length∧s 34=iV m.rules.length∧∃i:Nat,s 35=iV i∧i≤m.rules.length) (fun s _ _=>match s 35 with | .v (.int _ n)=>m.rules.length-n.toNat | _=>0) ?_ ?_
   ·exact⟨by simp,by simp[n1,g1],by simp[n2,g2],by simp[n0'],by simp[s1],by simp[s2],by simp,by simp,0,by simp,by omega⟩
   ·clear s1 s2 g0 g1 g2 hf;rintro s G nx hf ⟨g0,g1,g2,gN,s1,s2,s33,s34,i,s35,hi⟩;have hnN:=cO hf gN;have p0:¬0=nx:=(by omega);have p1:¬1=nx:=(by omega);have p2:¬2=nx:=(by omega);have pN:¬N=nx:=(by omega);have pz:¬nx=0:=(by omega);have q0:¬0=nx+1:=(by omega);have q1:¬1=nx+1:=(by omega);have q2:¬2=nx+1:=(by omega);have qN:¬N=nx+1:=(by omega);have hw:IntKind.i64.wrap (↑i+1)=((i+1:Nat):Int):=dh (by omega);refine aR fun K' hK=> ?_
    simp[s34,s35];apply hK;clear K' hK;refine aC fun A B hA hB=> ?_
    simp;refine⟨fun hi2=>hA ?_,fun hi2=>hB ?_⟩<;>clear hA hB A B<;>(try simp at hi2)<;>(try with_reducible refine aK ?_)
    ·skip;apply aB;refine aR fun K' hK=> ?_
     simp[s33,s35,hi2,gN];apply hK;clear K' hK;have hr:=hu.2 _ (bM hi2);have hp:Aa (flat Ru.cells m.rules) 2 i 1 [rowT Alt.cells (nth m.rules i).range]=flat Ru.cells m.rules:=nO hi2 (by simp) rfl;refine aT fun K' hK=> ?_
     simp[s1,g0,p0];refine aO (Dx (nth m.rules i).range hr) (by simp[Rg.cells]) ?_;simp[bK,p0,p1,p2,pN,pz,q0,q1,q2,qN,gN,hi2,hp];apply hK;clear K' hK;apply aj
     refine ah ?_;refine aS fun K' hK=> ?_
     simp[s35,hw];apply hK;clear K' hK;refine aj (ay ?_ ?_)
     ·exact⟨by simp[n0,p0,q0,g0],by simp[n1,p1,q1,pz,g1],by simp[n2,p1,p2,q2,g2],by simp[pN,qN,gN],by simp[s1],by simp[s2],by simp[s33],by simp[s34],i+1,by simp[hw],by omega⟩
     ·simp[s35,hw];omega
    ·skip;apply bG
     refine aI (aH ?_);refine aR fun K' hK=> ?_
     simp[s1,s2,g0,g1];apply hK;clear K' hK;apply aF
     simp[au,aG,Post,aW,res1,bF,bC,aP,bg,bf,okT,okA,ok1,rowOf,Tryz.f73,s2,n1',n2',g2,gN];have n3':¬1=N:=(by omega);refine⟨[2,N],?_,?_,?_⟩
     ·simp[Man.dX,bf,aP,n1',n2',n3',g2,gN]
     ·simp[Man.dX]
     ·simp[rowOf,n1',n2',n3',g2,gN]
set_option maxRecDepth 100000
set_option maxHeartbeats 4000000
@[simp] theorem manR_one (m:Man) (a b c d:Nat):(m.dX (.row a b) (.row c d)).all AV.one=true:=rfl
def RH (n:Bs) (v:Ver) (m:Man):Bool:=decide (m.name=n)&&decide (m.ver=v)
def jC (L:List Man) (n:Bs) (v:Ver):Option Man:=L.find? (RH n v)
def uM:Option Man→AV×Js
 | none=>(.tup [.agg Eo,bV false],[])
 | some m=>(.tup [.agg (m.dX (.row 0 m.deps.length) (.row 1 m.rules.length)),bV true],[(35,flat Dep.cells m.deps),(134,flat Ru.cells m.rules)])
theorem xR {L:List Man} {n:Bs} {v:Ver} {i:Nat} (h:i<L.length):jC (L.drop i) n v=if RH n v (nth L i)=true then some (nth L i)else jC (L.drop (i+1)) n v:=by
 rw[List.drop_eq_getElem_cons h,←bZ h];unfold jC;rw[List.find?_cons];cases RH n v (nth L i)<;>rfl
theorem Ob (Lm:List Man) (hl:Lm.length≤1000000000) (hm:∀m∈Lm,Man.okS m) (n:Bs) (v:Ver):CallsOK Tryz.prog 74 [rowT Man.cells Lm,sV n,.agg v.cells] (uM (jC Lm n v)).1 (uM (jC Lm n v)).2:=by
 refine aN mixed Tryz.call74 Tryz.func74 rfl (by rw[Tryz.ntmps74];simp) ?_ ?_
 ·rw[Tryz.ntmps74];refine aR fun K' hK=> ?_
  simp;apply hK;clear K' hK;apply aA;refine aR fun K' hK=> ?_
  simp;refine dH (zY mixed Tryz.call59 Tryz.func59 rfl (by rw[Tryz.ntmps59];simp) fun hf=> ?_);rw[Tryz.ntmps59];refine aR fun K' hK=> ?_
  simp;apply hK;clear K' hK;refine aR fun K' hK=> ?_
  simp;apply hK;clear K' hK;apply aF
  simp[au,aG,Post,aW,res1,bF,bC,aP,bg,bf,okT,okA,ok1,rowOf,Tryz.f59];apply hK;clear K' hK;refine fV (fun t G nx=>t 5=.ptr 0 0∧t 6=.ptr 1 0∧t 7=.ptr 2 0∧t 15=.fn 114 [.ptr 3 0,.ptr 4 0]∧nx=5∧G 0=some (.var 23 v.cells)∧G 1=some (.var 27 Eo)∧G 2=some (.var 4 [bV false])∧G 3=some (.var 28 [rowT Man.cells Lm])∧G 4=some (.var 9 [sV n])) ?_ ?_
  ·simp;rfl
  rintro t G nx ⟨t5,t6,t7,t15,rfl,g0,g1,g2,g3,g4⟩;apply aB
  refine jQ (f:=114) (fn:=Tryz.f114) mixed t15 Tryz.call114 Tryz.func114 rfl (by rw[Tryz.ntmps114];simp) rfl ?_;rw[Tryz.ntmps114];generalize hL:(Lp.mk t 65 _ _ _)=L;have hLs:L.s=t:=(by subst hL;rfl);have hround:∀(m:Man) (K:AV→Hp→Nat→Prop) (G:Hp) (nx:Nat),Man.okS m→6≤nx→G 0=some (.var 23 v.cells)→G 1=some (.var 27 Eo)→G 2=some (.var 4 [bV false])→G 5=some (L.o .ready none)→
    (¬m.ver=v→∀G' nx',nx≤nx'→(∀k,k<5→G' k=G k)→G' 5=some (L.o .ready none)→K (bV true) G' nx')→
    (m.ver=v→∀G' nx' a b,6≤a→6≤b→a≠b→G' 1=some (.var 27 (m.dX (.row a m.deps.length) (.row b m.rules.length)))→G' 2=some (.var 4 [bV true])→G' a=some (.row 35 (flat Dep.cells m.deps))→G' b=some (.row 134 (flat Ru.cells m.rules))→G' 5=some (L.o .done (some .ret))→K (bV false) G' nx')→DT Tryz.prog 5 [.agg m.cells] K G nx:=by
   subst hL;clear g0 g1 g2 g3 g4;intro m K G nx hmm hnx g0 g1 g2 g5 k1 k2;refine Oi mixed g5 rfl (by simp) rfl rfl fun hf=> ?_;have n5:¬5=nx:=(by omega);have n5':¬nx=5:=(by omega);have n0:¬0=nx:=(by omega);have n1:¬1=nx:=(by omega);have n2:¬2=nx:=(by omega);refine aS fun K' hK=> ?_
   simp;apply hK;clear K' hK;refine⟨rfl,by simp[n5,g5],?_⟩;dsimp only;generalize (Lp.mk t 65 _ _ _)=L at g5 k1 k2⊢;refine dL (aB ?_)
   by_cases hv:m.ver=v
   ·obtain⟨hd,hu⟩:=hmm;have hdl:=hd.1;have hul:=hu.1;refine aR fun K' hK=> ?_
    simp[t5,n0,g0,hv,n5'];apply hK;clear K' hK;refine aU (by simp) ?_;apply aA;refine aR fun K' hK=> ?_
    simp[n5'];refine aO (vU m.deps hdl) (by simp) ?_;have a0:¬nx=nx+1:=(by omega);simp[bK,n5',a0];apply hK;clear K' hK;have a1:¬nx+1=5:=(by omega);have a2:¬5=nx+1:=(by omega);have a3:¬1=nx+1:=(by omega);have a4:¬2=nx+1:=(by omega);have a5:¬nx=0:=(by omega);have a6:¬nx=1:=(by omega);have a7:¬nx+1=nx:=(by omega);apply aA;apply aA;refine aR fun K' hK=> ?_
    simp[n5',a0,a1];apply hK;clear K' hK;apply aB
    refine bH (fun s G ny=>G 1=some (.var 27 Eo)∧G 2=some (.var 4 [bV false])∧G 5=some (L.o .busy none)∧G nx=some (.var 27 (m.dX (.row (nx+1) m.deps.length) (rowT Ru.cells m.rules)))∧G (nx+1)=some (.row 35 (flat Dep.cells m.deps))∧s 6=.ptr 1 0∧s 7=.ptr 2 0∧s 8=.ptr nx 0∧s 26=.row (nx+1) m.deps.length∧s 27=iV m.deps.length∧∃i:Nat,s 28=iV i∧i≤m.deps.length) (fun s _ _=>match s 28 with | .v (.int _ n)=>m.deps.length-n.toNat | _=>0) ?_ ?_
    ·exact⟨by simp[n1,n2,n5,n5',a0,a1,a2,a3,a4,a5,a6,a7,g1],by simp[n1,n2,n5,n5',a0,a1,a2,a3,a4,a5,a6,a7,g2],by simp[n1,n2,n5,n5',a0,a1,a2,a3,a4,a5,a6,a7],by simp[n1,n2,n5,n5',a0,a1,a2,a3,a4,a5,a6,a7],by simp[n1,n2,n5,n5',a0,a1,a2,a3,a4,a5,a6,a7],by simp[t6],by simp[t7],by simp,by simp,by simp,0,by simp,by omega⟩
    ·clear g0 g1 g2 g5 hf;rintro s G ny hf ⟨g1,g2,g5,g8,gd,s6,s7,s8,s26,s27,i,s28,hi⟩;have hnd:=cO hf gd;clear a0 a1 a2 a3 a4 a5 a6 a7 n0 n1 n2;generalize hD:nx+1=D at*;have e1:¬1=ny:=(by omega);have e2:¬2=ny:=(by omega);have e3:¬5=ny:=(by omega);have e4:¬nx=ny:=(by omega);have e5:¬D=ny:=(by omega);have e6:¬ny=0:=(by omega);have e7:¬4=ny:=(by omega);have e8:¬nx=ny+1:=(by omega);have e9:¬D=ny+1:=(by omega);have f1:¬1=ny+1:=(by omega);have f2:¬2=ny+1:=(by omega);have f3:¬5=ny+1:=(by omega);have d1:¬1=D:=(by omega);have d2:¬2=D:=(by omega);have d5:¬5=D:=(by omega);have dn:¬nx=D:=(by omega);have hw:IntKind.i64.wrap (↑i+1)=((i+1:Nat):Int):=dh (by omega);refine aR fun K' hK=> ?_
     simp[s27,s28];apply hK;clear K' hK;refine aC fun A B hA hB=> ?_
     simp;refine⟨fun hi2=>hA ?_,fun hi2=>hB ?_⟩<;>clear hA hB A B<;>(try simp at hi2)<;>(try with_reducible refine aK ?_)
     ·skip;apply aB;refine aR fun K' hK=> ?_
      simp[s26,s28,hi2,gd];apply hK;clear K' hK;have hr:=(hd.2 _ (bM hi2)).2;have hp:Aa (flat Dep.cells m.deps) 3 i 2 [rowT Alt.cells (nth m.deps i).range]=flat Dep.cells m.deps:=nO hi2 (by simp) rfl;refine aT fun K' hK=> ?_
      simp[s8,g8,e4];refine aO (DF (nth m.deps i).range hr) (by simp[Rg.cells]) ?_;simp[bK,e4,e5,e8,e9,gd,hi2,hp];apply hK;clear K' hK;apply aj
      refine ah ?_;refine aS fun K' hK=> ?_
      simp[s28,hw];apply hK;clear K' hK;refine aj (ay ?_ ?_)
      ·exact⟨by simp[e1,f1,d1,e6,g1],by simp[e1,e2,f2,d2,g2],by simp[e3,f3,d5,e7,g5],by simp[e4,e8,dn,g8],by simp[e5,e9,gd],by simp[s6],by simp[s7],by simp[s8],by simp[s26],by simp[s27],i+1,by simp[hw],by omega⟩
      ·simp[s28,hw];omega
     ·skip;apply bG
      refine aI (aH ?_);clear s26 s27 s28 e1 e2 e3 e4 e5 e6 e7 e8 e9 f1 f2 f3 hw;have b1:¬1=ny:=(by omega);have b2:¬2=ny:=(by omega);have b5:¬5=ny:=(by omega);have bn:¬nx=ny:=(by omega);have bD:¬D=ny:=(by omega);have bn':¬ny=nx:=(by omega);have hDy:D<ny:=(by omega);have c1:¬1=nx:=(by omega);have dn':¬D=nx:=(by omega);have c2:¬2=nx:=(by omega);have c5:¬5=nx:=(by omega);apply aA;refine aR fun K' hK=> ?_
      simp[s8,g8];refine aO (wF m.rules hul) (by simp) ?_;simp[bK,s8,g8,bn];apply hK;clear K' hK;apply aA;apply aA;refine aR fun K' hK=> ?_
      simp[s8,bn,bn',g8];apply hK;clear K' hK;clear hf;generalize ny=R at*;apply aB
      refine bH (fun s G ny=>G 1=some (.var 27 Eo)∧G 2=some (.var 4 [bV false])∧G 5=some (L.o .busy none)∧G nx=some (.var 27 (m.dX (.row D m.deps.length) (.row R m.rules.length)))∧G D=some (.row 35 (flat Dep.cells m.deps))∧G R=some (.row 134 (flat Ru.cells m.rules))∧s 6=.ptr 1 0∧s 7=.ptr 2 0∧s 8=.ptr nx 0∧s 47=.row R m.rules.length∧s 48=iV m.rules.length∧∃i:Nat,s 49=iV i∧i≤m.rules.length) (fun s _ _=>match s 49 with | .v (.int _ n)=>m.rules.length-n.toNat | _=>0) ?_ ?_
      ·exact⟨by simp[b1,c1,g1],by simp[b2,c2,g2],by simp[b5,c5,g5],by simp,by simp[bD,dn,dn',gd],by simp[bn'],by simp[s6],by simp[s7],by simp[s8],by simp,by simp,0,by simp,by omega⟩
      ·clear g1 g2 g5 g8 gd s6 s7 s8;rintro s G ny hf ⟨g1,g2,g5,g8,gd,gR,s6,s7,s8,s47,s48,i,s49,hi⟩;have hnR:=cO hf gR;have e1:¬1=ny:=(by omega);have e2:¬2=ny:=(by omega);have e3:¬5=ny:=(by omega);have e4:¬nx=ny:=(by omega);have e5:¬D=ny:=(by omega);have e5r:¬R=ny:=(by omega);have e6:¬ny=0:=(by omega);have e7:¬4=ny:=(by omega);have e8:¬nx=ny+1:=(by omega);have e9:¬D=ny+1:=(by omega);have e9r:¬R=ny+1:=(by omega);have f1:¬1=ny+1:=(by omega);have f2:¬2=ny+1:=(by omega);have f3:¬5=ny+1:=(by omega);have dR:¬D=R:=(by omega);have hw:IntKind.i64.wrap (↑i+1)=((i+1:Nat):Int):=dh (by omega);refine aR fun K' hK=> ?_
       simp[s48,s49];apply hK;clear K' hK;refine aC fun A B hA hB=> ?_
       simp;refine⟨fun hi2=>hA ?_,fun hi2=>hB ?_⟩<;>clear hA hB A B<;>(try simp at hi2)<;>(try with_reducible refine aK ?_)
       ·skip;apply aB;refine aR fun K' hK=> ?_
        simp[s47,s49,hi2,gR];apply hK;clear K' hK;have hr:=hu.2 _ (bM hi2);have hp:Aa (flat Ru.cells m.rules) 2 i 1 [rowT Alt.cells (nth m.rules i).range]=flat Ru.cells m.rules:=nO hi2 (by simp) rfl;refine aT fun K' hK=> ?_
        simp[s8,g8,e4];refine aO (DF (nth m.rules i).range hr) (by simp[Rg.cells]) ?_;simp[bK,e4,e5r,e8,e9r,gR,hi2,hp];apply hK;clear K' hK;apply aj
        refine ah ?_;refine aS fun K' hK=> ?_
        simp[s49,hw];apply hK;clear K' hK;refine aj (ay ?_ ?_)
        ·exact⟨by simp[e1,f1,b1,e6,g1],by simp[e1,e2,f2,b2,g2],by simp[e3,f3,b5,e7,g5],by simp[e4,e8,bn,g8],by simp[e5,e9,dR,gd],by simp[e5r,e9r,gR],by simp[s6],by simp[s7],by simp[s8],by simp[s47],by simp[s48],i+1,by simp[hw],by omega⟩
        ·simp[s49,hw];omega
       ·skip;apply bG
        refine aI (aH ?_);have x1:¬nx=1:=(by omega);have x2:¬D=1:=(by omega);have x3:¬D=2:=(by omega);have x4:¬R=1:=(by omega);have x5:¬R=2:=(by omega);have x6:¬D=5:=(by omega);have x7:¬R=5:=(by omega);apply aA;refine aR fun K' hK=> ?_
        simp[s6,s7,s8,g8,g1,g2];apply hK;clear K' hK;apply aJ;refine dP ?_;refine oz (by simp[g5]) ?_;exact k2 hv _ _ D R (by omega) (by omega) (by omega) (by simp) (by simp) (by simp[x2,x3,x6,gd]) (by simp[x4,x5,x7,gR]) (by simp)
   ·skip;refine aR fun K' hK=> ?_
    simp[t5,n0,g0,hv,n5'];apply hK;clear K' hK;refine aVk (by simp) ?_;apply aj
    refine ah ?_;apply aj;refine dB (by simp) ?_;exact k1 hv _ _ (by omega) (fun k hk=>by repeat rw[Hp.upd_ne _ _ (by omega)]) (by simp)
  refine aR fun K' hK=> ?_
  simp[g3];apply hK;clear K' hK;refine dL (aB ?_)
  refine bH (fun t' G' nx'=>6≤nx'∧t' 0=.yl 5∧t' 1=.ptr 3 0∧t' 2=.ptr 4 0∧t' 6=rowT Man.cells Lm∧t' 7=iV Lm.length∧G' 0=some (.var 23 v.cells)∧G' 1=some (.var 27 Eo)∧G' 2=some (.var 4 [bV false])∧G' 4=some (.var 9 [sV n])∧G' 5=some (L.o .ready none)∧∃i:Nat,t' 8=iV i∧i≤Lm.length∧jC Lm n v=jC (Lm.drop i) n v) (fun s _ _=>match s 8 with | .v (.int _ n)=>Lm.length-n.toNat | _=>0) ?_ ?_
  ·refine⟨by omega,by simp,by simp,by simp,by simp,by simp,by simp[g0],by simp[g1],by simp[g2],by simp[g4],by simp,0,by simp,by omega,by simp⟩
  ·rintro t' G' nx'-⟨hnx,u0,u1,u2,u6,u7,h0,h1,h2,h4,h5,i,u8,hi,ht⟩;have hw:IntKind.i64.wrap (↑i+1)=((i+1:Nat):Int):=dh (by omega);have n0:¬0=nx':=(by omega);have n1:¬1=nx':=(by omega);have n2:¬2=nx':=(by omega);have n4:¬4=nx':=(by omega);have n5:¬5=nx':=(by omega);refine aR fun K' hK=> ?_
   simp[u7,u8];apply hK;clear K' hK;refine aC fun A B hA hB=> ?_
   simp;refine⟨fun hi2=>hA ?_,fun hi2=>hB ?_⟩<;>clear hA hB A B<;>(try simp at hi2)<;>(try with_reducible refine aK ?_)
   ·have hmm:=hm _ (bM hi2);have hstep:=xR (n:=n) (v:=v) hi2;generalize hgm:nth Lm i=m at*;apply aB;refine aR fun K' hK=> ?_
    simp[u6,u8,hi2,hgm];apply hK;clear K' hK;by_cases hn:m.name=n
    ·skip;refine aR fun K' hK=> ?_
     simp[u0,u2,n4,h4,hn];refine⟨⟨_,_,_,_,_,_,_,show _=some (L.o .ready none) by simp[n5,h5]⟩,hround m _ _ _ hmm (by omega) (by simp[n0,h0]) (by simp[n1,h1]) (by simp[n2,h2]) (by simp[n5,h5]) (fun hv G2 ny hny hG h5'=> ?_) (fun hv G2 ny a b ha hb hab k1 k2 ka kb k5=> ?_)⟩
     ·simp;apply hK;clear K' hK;refine aVk (by simp) ?_;apply aj
      refine ah ?_;refine aS fun K' hK=> ?_
      simp[u8,hw];apply hK;clear K' hK;refine aj (ay ?_ ?_)
      ·exact⟨by omega,by simp[u0],by simp[u1],by simp[u2],by simp[u6],by simp[u7],by rw[hG 0 (by omega)];simp[n0,h0],by rw[hG 1 (by omega)];simp[n1,h1],by rw[hG 2 (by omega)];simp[n2,h2],by rw[hG 4 (by omega)];simp[n4,h4],h5',i+1,by simp[hw],by omega,by rw[ht,hstep,if_neg (by simp[RH,hv])]⟩
      ·simp[u8,hw];omega
     ·simp;apply hK;clear K' hK;refine aU (by simp) ?_
      apply aJ;refine dP ?_;refine ng ?_;refine dP ?_;refine oh (.inr rfl) k5 ?_;rw[hLs];refine dP ?_;have x1:¬a=5:=(by omega);have x2:¬b=5:=(by omega);have x3:¬b=a:=fun e=>hab e.symm;have hfm:jC Lm n v=some m:=(by rw[ht,hstep,if_pos (by simp[RH,hn,hv])]);rw[hfm];simp[Post,aW,res1,Tryz.f74,t6,t7,k1,k2,uM];refine⟨[a,b],?_,rfl,?_⟩
      ·simp[Man.dX,bF,bg,bC,bf,aP,x1,x2,x3,ka,kb]
      ·simp[rowOf,x1,x2,ka,kb]
    ·skip;refine aR fun K' hK=> ?_
     simp[u2,n4,h4,hn];apply hK;clear K' hK;refine aVk (by simp) ?_;apply aj
     refine ah ?_;refine aS fun K' hK=> ?_
     simp[u8,hw];apply hK;clear K' hK;refine aj (ay ?_ ?_)
     ·exact⟨by omega,by simp[u0],by simp[u1],by simp[u2],by simp[u6],by simp[u7],by simp[n0,h0],by simp[n1,h1],by simp[n2,h2],by simp[n4,h4],by simp[n5,h5],i+1,by simp[hw],by omega,by rw[ht,hstep,if_neg (by simp[RH,hn])]⟩
     ·simp[u8,hw];omega
   ·skip;apply bG
    refine aI (aH ?_);refine aj (iw (.inl rfl) (by simp[h5]) ?_);rw[hLs];refine ah ?_;have hfm:jC Lm n v=none:=(by rw[ht,List.drop_of_length_le (by omega)];rfl);rw[hfm];refine aR fun K' hK=> ?_
    simp[t6,t7,h1,h2];apply hK;clear K' hK;apply aF
    simp[au,aG,Post,aW,res1,bF,bC,aP,bg,bf,okT,okA,ok1,rowOf,Tryz.f74,t6,t7,uM]
 ·cases jC Lm n v<;>rfl
set_option maxRecDepth 100000
set_option maxHeartbeats 4000000
@[simp] theorem manR_shift (m:Man) (a n b k d:Nat):List.map (vO d) (m.dX (.row a n) (.row b k))=m.dX (.row (a+d) n) (.row (b+d) k):=rfl
theorem kM (G:Hp) (nx:Nat) (p q:TypeId×List AV):addJ G nx [p,q]=(G.upd nx (.row p.1 p.2)).upd (nx+1) (.row q.1 q.2):=by
 funext i;simp only[addJ,Hp.upd,List.length_cons,List.length_nil];by_cases h1:i=nx+1
 ·subst h1;rw[if_pos (by omega),if_pos rfl,show nx+1-nx=1 by omega];rfl
 ·by_cases h:i=nx
  ·subst h;rw[if_pos (by omega),if_neg h1,if_pos rfl,Nat.sub_self];rfl
  ·rw[if_neg (by omega),if_neg h1,if_neg h]
theorem zS {P:Program} {G:Hp} {a b:Nat} {m:Man} (ok:Bool) (hab:a≠b) (ka:G a=some (.row 35 (flat Dep.cells m.deps))) (kb:G b=some (.row 134 (flat Ru.cells m.rules))):
  ∃x,bF P G (AV.tup [AV.agg (m.dX (AV.row a m.deps.length) (AV.row b m.rules.length)),bV ok])=some (AV.tup [AV.agg (m.dX (AV.row 0 m.deps.length) (AV.row 1 m.rules.length)),bV ok],x)∧
   okT (AV.tup [AV.agg (m.dX (AV.row 0 m.deps.length) (AV.row 1 m.rules.length)),bV ok])=true∧[(35,flat Dep.cells m.deps),(134,flat Ru.cells m.rules)]=List.map (rowOf G) x:=by
 have hba:¬b=a:=fun e=>hab e.symm;refine⟨[a,b],?_,rfl,?_⟩
 ·simp[Man.dX,bF,bg,bC,bf,aP,hba,ka,kb]
 ·simp[rowOf,ka,kb]
def manVal (root:Man) (L:List Man) (t:List Pl) (i:Int):Option Man:=if gG t i=true then(if i=0 then some root else jC L (nth t i.toNat).name (nth t i.toNat).ver)else none
theorem BD (root:Man) (hr:Man.okS root) (L:List Man) (hl:L.length≤1000000000) (hm:∀m∈L,Man.okS m) (t:List Pl) (ht:OKs t) (i:Int):CallsOK Tryz.prog 36 [.agg root.cells,rowT Man.cells L,rowT Pl.cells t,iV i] (uM (manVal root L t i)).1 (uM (manVal root L t i)).2:=by
 have htl:=ht.1;refine aN mixed Tryz.call36 Tryz.func36 rfl (by rw[Tryz.ntmps36];simp) ?_ ?_
 ·rw[Tryz.ntmps36];refine aR fun K' hK=> ?_
  simp;apply hK;clear K' hK;apply aB;refine aR fun K' hK=> ?_
  simp;refine ak (lg t ht) rfl (by simp) ?_;by_cases hh:gG t i=true
  ·obtain⟨hc,h0,h1⟩:=nX hh;have h0':¬i<0:=(by omega);have h1':¬(t.length:Int)≤i:=(by omega);simp[hc,h0',h1'];apply hK;clear K' hK;refine aV (by simp) ?_
   by_cases hz:i=0
   ·refine aA ?_;refine aR fun K' hK=> ?_
    simp[hz];apply hK;clear K' hK;refine aX (by simp) ?_
    have hv:manVal root L t i=some root:=(by rw[manVal,if_pos hh,if_pos hz]);rw[hv];apply aA;refine aR fun K' hK=> ?_
    simp;refine aO (Qc root hr) (by simp) ?_;simp[kM];apply hK;clear K' hK;apply aJ
    simp[au,aG,Post,aW,res1,Tryz.f36,uM];exact zS true (by omega) (by simp) (by simp)
   ·refine aA ?_;refine aR fun K' hK=> ?_
    simp[hz];apply hK;clear K' hK;refine aYk (by simp[hz]) ?_;apply aj
    refine ah ?_;have hin:i.toNat<t.length:=(by omega);have hcast:((i.toNat:Nat):Int)=i:=(by omega);have hv:manVal root L t i=jC L (nth t i.toNat).name (nth t i.toNat).ver:=(by rw[manVal,if_pos hh,if_neg hz]);have hfind:=Ob L hl hm (nth t i.toNat).name (nth t i.toNat).ver;rw[hv];generalize jC L (nth t i.toNat).name (nth t i.toNat).ver=r at*;generalize hj:i.toNat=j at*;cases r with
    | none=>
     refine aQ fun K' hK=> ?_
     simp[h0,h1,hin,hj];refine aO hfind (by simp) ?_;simp[uM,dO];apply hK;clear K' hK;apply aF
     simp[au,aG,Post,aW,res1,bF,bC,aP,bg,bf,okT,okA,ok1,rowOf,Tryz.f36,uM]
    | some m=>
     refine aQ fun K' hK=> ?_
     simp[h0,h1,hin,hj];refine aO hfind (by simp) ?_;simp[uM,kM];apply hK;clear K' hK;apply aF
     simp[au,aG,Post,aW,res1,Tryz.f36,uM];exact zS true (by omega) (by simp) (by simp)
  ·have hv:manVal root L t i=none:=(by rw[manVal,if_neg hh]);by_cases hc:checkN t=0
   ·by_cases h0:i<0
    ·simp[hc,h0];apply hK;clear K' hK;rw[hv];refine aU (by simp) ?_;apply aA;refine aR fun K' hK=> ?_
     simp;apply hK;clear K' hK;apply aJ
     simp[au,aG,Post,aW,res1,bF,bC,aP,bg,bf,okT,okA,ok1,rowOf,Tryz.f36,uM]
    ·have h1:(t.length:Int)≤i:=by
      rcases Int.lt_or_le i t.length with h | h
      ·exact absurd (by simp[gG,hc,h];omega) hh
      ·exact h
     simp[hc,h0,h1];apply hK;clear K' hK;rw[hv];refine aU (by simp) ?_;apply aA;refine aR fun K' hK=> ?_
     simp;apply hK;clear K' hK;apply aJ
     simp[au,aG,Post,aW,res1,bF,bC,aP,bg,bf,okT,okA,ok1,rowOf,Tryz.f36,uM]
   ·simp[hc];apply hK;clear K' hK;rw[hv];refine aU (by simp) ?_;apply aA;refine aR fun K' hK=> ?_
    simp;apply hK;clear K' hK;apply aJ
    simp[au,aG,Post,aW,res1,bF,bC,aP,bg,bf,okT,okA,ok1,rowOf,Tryz.f36,uM]
 ·cases manVal root L t i<;>rfl
def toN (t:List Pl) (i:Int) (d:Dep):Int:=if i<0∨(t.length:Int)≤i then-1 else dF t (if d.kind=4∧0<i then(nth t i.toNat).par else i) d.name
theorem Md (t:List Pl) (ht:OKs t) (i:Int) (d:Dep):CallsOK Tryz.prog 32 [rowT Pl.cells t,iV i,.agg d.cells] (iV (toN t i d)) []:=by
 have htl:=ht.1;refine aN mixed Tryz.call32 Tryz.func32 rfl (by rw[Tryz.ntmps32];simp) ?_ rfl;rw[Tryz.ntmps32];refine aR fun K' hK=> ?_
 simp;apply hK;clear K' hK;by_cases h0:i<0
 ·refine aA ?_;refine aR fun K' hK=> ?_
  simp[h0];apply hK;clear K' hK;refine aX (by simp) ?_;apply aA;refine aR fun K' hK=> ?_
  simp;apply hK;clear K' hK;apply aJ
  simp[au,aG,Post,aW,res1,bF,bC,aP,bg,bf,okT,okA,ok1,rowOf,Tryz.f32];rw[toN,if_pos (.inl h0)]
 ·by_cases h1:(t.length:Int)≤i
  ·refine aA ?_;refine aR fun K' hK=> ?_
   simp[h0,h1];apply hK;clear K' hK;refine aX (by simp) ?_;apply aA;refine aR fun K' hK=> ?_
   simp;apply hK;clear K' hK;apply aJ
   simp[au,aG,Post,aW,res1,bF,bC,aP,bg,bf,okT,okA,ok1,rowOf,Tryz.f32];rw[toN,if_pos (.inr h1)]
  ·refine aA ?_;refine aR fun K' hK=> ?_
   simp[h0,h1];apply hK;clear K' hK;refine aYk (by simp) ?_
   have hno:¬(i<0∨(t.length:Int)≤i):=(by omega);have hin:i.toNat<t.length:=(by omega);have h0':0≤i:=(by omega);have h1':i<(t.length:Int):=(by omega);have hv:toN t i d=dF t (if d.kind=4∧0<i then(nth t i.toNat).par else i) d.name:=(by rw[toN,if_neg hno]);rw[hv];generalize hj:i.toNat=j at*;by_cases c:d.kind=4
   ·by_cases c2:0<i
    ·refine aA ?_;refine aR fun K' hK=> ?_
     simp[c,c2];apply hK;clear K' hK;refine aX (by simp[c,c2]) ?_;refine aR fun K' hK=> ?_
     simp[c,c2,h0',h1',hin,hj];apply hK;clear K' hK;refine aR fun K' hK=> ?_
     simp;refine ak (jM t ht (nth t j).par d.name) rfl (by simp) ?_;simp;apply hK;clear K' hK;apply aF
     simp[au,aG,Post,aW,res1,bF,bC,aP,bg,bf,okT,okA,ok1,rowOf,Tryz.f32,c,c2]
    ·refine aA ?_;refine aR fun K' hK=> ?_
     simp[c,c2];apply hK;clear K' hK;refine aYk (by simp[c,c2]) ?_;refine aR fun K' hK=> ?_
     simp;refine ak (jM t ht i d.name) rfl (by simp) ?_;simp;apply hK;clear K' hK;apply aF
     simp[au,aG,Post,aW,res1,bF,bC,aP,bg,bf,okT,okA,ok1,rowOf,Tryz.f32,c,c2]
   ·refine aA ?_;refine aR fun K' hK=> ?_
    simp[c];apply hK;clear K' hK;refine aYk (by simp[c]) ?_;refine aR fun K' hK=> ?_
    simp;refine ak (jM t ht i d.name) rfl (by simp) ?_;simp;apply hK;clear K' hK;apply aF
    simp[au,aG,Post,aW,res1,bF,bC,aP,bg,bf,okT,okA,ok1,rowOf,Tryz.f32,c]
theorem Rj (t:List Pl) (i:Int) (name:Bs):dF t i name<t.length:=by
 have:∀l:List Nat,MZ t name l<t.length:=by
  intro l;induction l with
  | nil=>simp only[MZ];omega
  | cons j l ih=>
   simp only[MZ];cases h:chF t j name with
   | none=>exact ih
   | some k=>
    have:=(List.findIdx?_eq_some_iff_getElem.1 h).1;show(k:Int)<_;omega
 unfold dF;split
 ·exact this _
 ·omega
theorem QI (t:List Pl) (i:Int) (d:Dep):toN t i d<t.length:=by
 unfold toN;split
 ·omega
 ·exact Rj _ _ _
def holdsV (t:List Pl) (i:Int) (d:Dep):Bool:=if gG t i=true then(if toN t i d<0 then decide (d.kind=3)else dQ (nth t (toN t i d).toNat).ver d.range)else false
theorem nJ (t:List Pl) (ht:OKs t) (hv:∀p∈t,p.ver.pre.size≤1000000) (i:Int) (d:Dep) (hd:Rg.sz d.range):CallsOK Tryz.prog 65 [rowT Pl.cells t,iV i,.agg d.cells] (bV (holdsV t i d)) []:=by
 have htl:=ht.1;refine aN mixed Tryz.call65 Tryz.func65 rfl (by rw[Tryz.ntmps65];simp) ?_ rfl;rw[Tryz.ntmps65];refine aR fun K' hK=> ?_
 simp;apply hK;clear K' hK;apply aA;refine aR fun K' hK=> ?_
 simp;refine ak (lg t ht) rfl (by simp) ?_;by_cases hh:gG t i=true
 ·obtain⟨hc,h0,h1⟩:=nX hh;have h0':¬i<0:=(by omega);have h1':¬(t.length:Int)≤i:=(by omega);simp[hc,h0',h1'];apply hK;clear K' hK;refine aYk (by simp) ?_;refine aR fun K' hK=> ?_
  simp;refine ak (Md t ht i d) rfl (by simp) ?_;simp;apply hK;clear K' hK;have hlt:=QI t i d;have hdef:holdsV t i d=if toN t i d<0 then decide (d.kind=3)else dQ (nth t (toN t i d).toNat).ver d.range:=(by rw[holdsV,if_pos hh]);generalize toN t i d=k at*;by_cases hk:k<0
  ·refine aA ?_;refine aR fun K' hK=> ?_
   simp[hk];apply hK;clear K' hK;refine aX (by simp) ?_;apply aA;refine aR fun K' hK=> ?_
   simp;refine ak (IU d) rfl (by simp) ?_;simp;apply hK;clear K' hK;apply aJ
   simp[au,aG,Post,aW,res1,bF,bC,aP,bg,bf,okT,okA,ok1,rowOf,Tryz.f65];rw[hdef,if_pos hk]
  ·have hk0:0≤k:=(by omega);have hin:k.toNat<t.length:=(by omega);rw[if_neg hk]at hdef;apply aA;refine aR fun K' hK=> ?_
   simp[hk];apply hK;clear K' hK;refine aYk (by simp) ?_
   generalize hj:k.toNat=j at*;refine aQ fun K' hK=> ?_
   simp[hk0,hlt,hin,hj];refine ak (yR d.range (nth t j).ver hd (hv _ (bM hin))) rfl (by simp[Rg.cells]) ?_;simp;apply hK;clear K' hK;apply aF
   simp[au,aG,Post,aW,res1,bF,bC,aP,bg,bf,okT,okA,ok1,rowOf,Tryz.f65];exact hdef.symm
 ·have hdef:holdsV t i d=false:=(by rw[holdsV,if_neg hh]);by_cases hc:checkN t=0
  ·by_cases h0:i<0
   ·simp[hc,h0];apply hK;clear K' hK;refine aX (by simp) ?_;apply aA;refine aR fun K' hK=> ?_
    simp;apply hK;clear K' hK;apply aJ
    simp[au,aG,Post,aW,res1,bF,bC,aP,bg,bf,okT,okA,ok1,rowOf,Tryz.f65];exact hdef
   ·have h1:(t.length:Int)≤i:=by
     rcases Int.lt_or_le i t.length with h | h
     ·exact absurd (by simp[gG,hc,h];omega) hh
     ·exact h
    simp[hc,h0,h1];apply hK;clear K' hK;refine aX (by simp) ?_;apply aA;refine aR fun K' hK=> ?_
    simp;apply hK;clear K' hK;apply aJ
    simp[au,aG,Post,aW,res1,bF,bC,aP,bg,bf,okT,okA,ok1,rowOf,Tryz.f65];exact hdef
  ·simp[hc];apply hK;clear K' hK;refine aX (by simp) ?_;apply aA;refine aR fun K' hK=> ?_
   simp;apply hK;clear K' hK;apply aJ
   simp[au,aG,Post,aW,res1,bF,bC,aP,bg,bf,okT,okA,ok1,rowOf,Tryz.f65];exact hdef
end Go.Proofs.YtmmbgjmigmchbaaGreatDoorAbs
