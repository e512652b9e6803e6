/- PruneReaches. -/
import Derived.Test.YtgipehooceecpaaGreatDoorRa8
import Derived.Test.YtgipehooceecpaaGreatDoorRa6
namespace Go.Proofs.YtgipehooceecpaaGreatDoorAbs
set_option linter.unusedSimpArgs false
set_option linter.unusedVariables false
open Go Go.RowKit Go.Proofs
set_option maxRecDepth 100000
set_option maxHeartbeats 4000000
theorem order227_ok (a b:Int):CallsOK Tryz.prog 227 [iV a,iV b] (iV (cmpI a b)) []:=by
 refine callsOK mixed Tryz.call227 Tryz.func227 rfl (by rw[Tryz.ntmps227];simp) ?_ rfl;rw[Tryz.ntmps227];with_reducible refine aR fun K' hK=> ?_
 simp;refine hK _ _ _ ?_;clear K' hK;by_cases h1:a<b
 ·with_reducible refine aA ?_;refine aR fun K' hK=> ?_
  simp[h1];refine hK _ _ _ ?_;clear K' hK;with_reducible refine aX (by simp[h1]) ?_;refine aA ?_;refine aR fun K' hK=> ?_
  simp;refine hK _ _ _ ?_;clear K' hK;with_reducible refine aw_ret ?_
  simp[blockK,loopK,Post,resA,res1,expT,expA,exp1,expM,expL,okT,okA,ok1,rowOf,Tryz.f227];simp[cmpI,h1]
 ·with_reducible refine aA ?_;refine aR fun K' hK=> ?_
  simp[h1];refine hK _ _ _ ?_;clear K' hK;with_reducible refine aYk (by simp[h1]) ?_
  by_cases h2:b<a
  ·with_reducible refine aA ?_;refine aR fun K' hK=> ?_
   simp[h2];refine hK _ _ _ ?_;clear K' hK;with_reducible refine aX (by simp[h2]) ?_;refine aA ?_;refine aR fun K' hK=> ?_
   simp;refine hK _ _ _ ?_;clear K' hK;with_reducible refine aw_ret ?_
   simp[blockK,loopK,Post,resA,res1,expT,expA,exp1,expM,expL,okT,okA,ok1,rowOf,Tryz.f227];simp[cmpI,h1,h2]
  ·with_reducible refine aA ?_;refine aR fun K' hK=> ?_
   simp[h2];refine hK _ _ _ ?_;clear K' hK;with_reducible refine aYk (by simp[h2]) ?_;refine aR fun K' hK=> ?_
   simp;refine hK _ _ _ ?_;clear K' hK;with_reducible refine aw_retL ?_
   simp[blockK,loopK,Post,resA,res1,expT,expA,exp1,expM,expL,okT,okA,ok1,rowOf,Tryz.f227];simp[cmpI,h1,h2]
theorem small228_ok (a b:Bs):CallsOK Tryz.prog 228 [sV a,sV b] (iV (if a=⟨#[]⟩∧b=⟨#[]⟩then 0 else 1)) []:=by
 refine callsOK mixed Tryz.call228 Tryz.func228 rfl (by rw[Tryz.ntmps228];simp) ?_ rfl;rw[Tryz.ntmps228];with_reducible refine aR fun K' hK=> ?_
 simp;refine hK _ _ _ ?_;clear K' hK;by_cases h1:a=⟨#[]⟩
 ·by_cases h2:b=⟨#[]⟩
  ·with_reducible refine aA ?_;refine aR fun K' hK=> ?_
   simp[h1,h2];refine hK _ _ _ ?_;clear K' hK;with_reducible refine aX (by simp) ?_;refine aA ?_;refine aR fun K' hK=> ?_
   simp;refine hK _ _ _ ?_;clear K' hK;with_reducible refine aw_ret ?_
   simp[blockK,loopK,Post,resA,res1,expT,expA,exp1,expM,expL,okT,okA,ok1,rowOf,Tryz.f228];simp[h1,h2]
  ·with_reducible refine aA ?_;refine aR fun K' hK=> ?_
   simp[h1,h2];refine hK _ _ _ ?_;clear K' hK;with_reducible refine aYk (by simp) ?_;refine aR fun K' hK=> ?_
   simp;refine hK _ _ _ ?_;clear K' hK;with_reducible refine aw_retL ?_
   simp[blockK,loopK,Post,resA,res1,expT,expA,exp1,expM,expL,okT,okA,ok1,rowOf,Tryz.f228];simp[h1,h2]
 ·with_reducible refine aA ?_;refine aR fun K' hK=> ?_
  simp[h1];refine hK _ _ _ ?_;clear K' hK;with_reducible refine aYk (by simp) ?_;refine aR fun K' hK=> ?_
  simp;refine hK _ _ _ ?_;clear K' hK;with_reducible refine aw_retL ?_
  simp[blockK,loopK,Post,resA,res1,expT,expA,exp1,expM,expL,okT,okA,ok1,rowOf,Tryz.f228];simp[h1]
theorem parts229_ok (a b:Bs) (ha:a.size≤4000000000) (hb:b.size≤4000000000):CallsOK Tryz.prog 229 [sV a,sV b] (iV (partsR a b)) []:=by
 refine callsOK mixed Tryz.call229 Tryz.func229 rfl (by rw[Tryz.ntmps229];simp) ?_ rfl;rw[Tryz.ntmps229];with_reducible refine aR fun K' hK=> ?_
 simp;refine hK _ _ _ ?_;clear K' hK;with_reducible refine aA ?_;refine aR fun K' hK=> ?_
 simp;refine acall_flat (digits70_ok a (by omega)) rfl (by simp) ?_;by_cases na:numP (bsL a)=true
 ·simp[na];refine acall_flat (digits70_ok b (by omega)) rfl (by simp) ?_;by_cases nb:numP (bsL b)=true
  ·simp[nb];refine hK _ _ _ ?_;clear K' hK;with_reducible refine aX (by simp) ?_;refine aA ?_;refine aR fun K' hK=> ?_
   simp;refine acall_flat (number71_ok a (by omega)) rfl (by simp) ?_;simp;refine acall_flat (number71_ok b (by omega)) rfl (by simp) ?_;simp;refine acall_flat (order227_ok (numR (bsL a)) (numR (bsL b))) rfl (by simp) ?_;simp;refine hK _ _ _ ?_;clear K' hK;with_reducible refine aw_ret ?_
   simp[blockK,loopK,Post,resA,res1,expT,expA,exp1,expM,expL,okT,okA,ok1,rowOf,Tryz.f229];simp[partsR,na,nb]
  ·simp[nb];refine hK _ _ _ ?_;clear K' hK;with_reducible refine aYk (by simp) ?_;refine aA ?_;refine aR fun K' hK=> ?_
   simp;refine acall_flat (digits70_ok a (by omega)) rfl (by simp) ?_;simp[na];refine hK _ _ _ ?_;clear K' hK;with_reducible refine aX (by simp) ?_;refine aA ?_;refine aR fun K' hK=> ?_
   simp;refine hK _ _ _ ?_;clear K' hK;with_reducible refine aw_ret ?_
   simp[blockK,loopK,Post,resA,res1,expT,expA,exp1,expM,expL,okT,okA,ok1,rowOf,Tryz.f229];simp[partsR,na,nb]
 ·simp[na];refine hK _ _ _ ?_;clear K' hK;with_reducible refine aYk (by simp) ?_;refine aA ?_;refine aR fun K' hK=> ?_
  simp;refine acall_flat (digits70_ok a (by omega)) rfl (by simp) ?_;simp[na];refine hK _ _ _ ?_;clear K' hK;with_reducible refine aYk (by simp) ?_;refine aA ?_;refine aR fun K' hK=> ?_
  simp;refine acall_flat (digits70_ok b (by omega)) rfl (by simp) ?_;by_cases nb:numP (bsL b)=true
  ·simp[nb];refine hK _ _ _ ?_;clear K' hK;with_reducible refine aX (by simp) ?_;refine aA ?_;refine aR fun K' hK=> ?_
   simp;refine hK _ _ _ ?_;clear K' hK;with_reducible refine aw_ret ?_
   simp[blockK,loopK,Post,resA,res1,expT,expA,exp1,expM,expL,okT,okA,ok1,rowOf,Tryz.f229];simp[partsR,na,nb]
  ·simp[nb];refine hK _ _ _ ?_;clear K' hK;with_reducible refine aYk (by simp) ?_
   by_cases h1:ltB a b=true
   ·with_reducible refine aA ?_;refine aR fun K' hK=> ?_
    simp[h1];refine hK _ _ _ ?_;clear K' hK;with_reducible refine aX (by simp[h1]) ?_;refine aA ?_;refine aR fun K' hK=> ?_
    simp;refine hK _ _ _ ?_;clear K' hK;with_reducible refine aw_ret ?_
    simp[blockK,loopK,Post,resA,res1,expT,expA,exp1,expM,expL,okT,okA,ok1,rowOf,Tryz.f229];simp[partsR,na,nb,cmpB,h1]
   ·with_reducible refine aA ?_;refine aR fun K' hK=> ?_
    simp[h1];refine hK _ _ _ ?_;clear K' hK;with_reducible refine aYk (by simp[h1]) ?_
    by_cases h2:ltB b a=true
    ·with_reducible refine aA ?_;refine aR fun K' hK=> ?_
     simp[h2];refine hK _ _ _ ?_;clear K' hK;with_reducible refine aX (by simp[h2]) ?_;refine aA ?_;refine aR fun K' hK=> ?_
     simp;refine hK _ _ _ ?_;clear K' hK;with_reducible refine aw_ret ?_
     simp[blockK,loopK,Post,resA,res1,expT,expA,exp1,expM,expL,okT,okA,ok1,rowOf,Tryz.f229];simp[partsR,na,nb,cmpB,h1,h2]
    ·with_reducible refine aA ?_;refine aR fun K' hK=> ?_
     simp[h2];refine hK _ _ _ ?_;clear K' hK;with_reducible refine aYk (by simp[h2]) ?_;refine aR fun K' hK=> ?_
     simp;refine hK _ _ _ ?_;clear K' hK;with_reducible refine aw_retL ?_
     simp[blockK,loopK,Post,resA,res1,expT,expA,exp1,expM,expL,okT,okA,ok1,rowOf,Tryz.f229];simp[partsR,na,nb,cmpB,h1,h2]
theorem okParts {v:Ver} (h:verOk v=true) (hp:v.pre≠⟨#[]⟩):∀b∈strs (spl (bsL v.pre)),partF (bsL b)=true:=by
 intro b hb;simp only[verOk,preOk,Bool.and_eq_true,Bool.or_eq_true,decide_eq_true_eq]at h;rcases h.1 with h1 | h1
 ·exact absurd ((empty_iff _).2 h1) hp
 ·rw[dot_spl,Bool.and_eq_true,List.all_eq_true]at h1;obtain⟨l,hl,rfl⟩:=List.mem_map.1 hb;have:bsL (ofL l)=l:=(by simp[bsL,ofL]);rw[this];exact h1.2 l hl
set_option maxRecDepth 100000
set_option maxHeartbeats 4000000
theorem cmpI_lt {a b:Int} (h:a<b):cmpI a b= -1:=by unfold cmpI;rw[if_pos h]
theorem cmpI_gt {a b:Int} (h:b<a):cmpI a b=1:=by unfold cmpI;rw[if_neg (by omega),if_pos h]
theorem size_pos {a:Bs} (h:¬a=⟨#[]⟩):0<a.size:=by
 rcases Nat.eq_zero_or_pos a.size with h2 | h2
 ·exact absurd (ByteArray.size_eq_zero_iff.1 h2) h
 ·exact h2
theorem wrap_0:IntKind.i64.wrap 0=0:=by decide
theorem wrap_1:IntKind.i64.wrap 1=1:=by decide
theorem wrap_m1:IntKind.i64.wrap (-1)= -1:=by decide
theorem compare192_ok (a b:Ver) (ha:a.pre.size≤1000000) (hb:b.pre.size≤1000000):CallsOK Tryz.prog 192 [.agg a.cells,.agg b.cells] (iV (comparN a b)) []:=by
 refine callsOK mixed Tryz.call192 Tryz.func192 rfl (by rw[Tryz.ntmps192];simp) ?_ rfl;rw[Tryz.ntmps192];with_reducible refine aR fun K' hK=> ?_
 simp;refine hK _ _ _ ?_;clear K' hK;with_reducible refine aA ?_;refine aR fun K' hK=> ?_
 simp;refine acall_flat (right37_ok a (by omega)) rfl (by simp) ?_;by_cases va:verOk a=true
 ·simp[va];refine acall_flat (right37_ok b (by omega)) rfl (by simp) ?_;by_cases vb:verOk b=true
  ·simp[vb];refine hK _ _ _ ?_;clear K' hK;with_reducible refine aYk (by simp) ?_
   have fin:comparN a b=if coreN a b≠0∨a.pre=b.pre then coreN a b else if a.pre=⟨#[]⟩then 1 else if b.pre=⟨#[]⟩then-1 else rowsN (strs (spl (bsL a.pre))) (strs (spl (bsL b.pre))):=(by rw[comparN,if_pos ⟨va,vb⟩]);by_cases e1:a.maj=b.maj
   ·with_reducible refine aA ?_;refine aR fun K' hK=> ?_
    simp[e1];refine hK _ _ _ ?_;clear K' hK;with_reducible refine aYk (by simp[e1]) ?_
    by_cases e2:a.min=b.min
    ·with_reducible refine aA ?_;refine aR fun K' hK=> ?_
     simp[e2];refine hK _ _ _ ?_;clear K' hK;with_reducible refine aYk (by simp[e2]) ?_
     by_cases e3:a.pat=b.pat
     ·with_reducible refine aA ?_;refine aR fun K' hK=> ?_
      simp[e3];refine hK _ _ _ ?_;clear K' hK;with_reducible refine aYk (by simp[e3]) ?_
      have hcore:coreN a b=0:=(by simp[coreN,e1,e2,e3,cmpI_self]);by_cases p1:a.pre=⟨#[]⟩
      ·with_reducible refine aA ?_;refine aR fun K' hK=> ?_
       simp[p1];refine hK _ _ _ ?_;clear K' hK;with_reducible refine aX (by simp[p1]) ?_;refine aA ?_;refine aQ fun K' hK=> ?_
       simp;refine acall_flat (order227_ok b.pre.size a.pre.size) rfl (by simp) ?_;simp;refine acall_flat (small228_ok a.pre b.pre) rfl (by simp) ?_;by_cases p2:b.pre=⟨#[]⟩
       ·have hv:comparN a b=0:=(by rw[fin,if_pos (.inr (by rw[p1,p2])),hcore]);simp[p1,p2,cmpI_self];refine hK _ _ _ ?_;clear K' hK;with_reducible refine aw_ret ?_
        simp[blockK,loopK,Post,resA,res1,expT,expA,exp1,expM,expL,okT,okA,ok1,rowOf,Tryz.f192];simp[hv,wrap_0,wrap_1,wrap_m1]
       ·have hv:comparN a b=1:=(by rw[fin,if_neg (by simp[hcore,p1,Ne.symm p2]),if_pos p1]);have hs:cmpI b.pre.size a.pre.size=1:=cmpI_gt (by have:=size_pos p2;rw[p1];show(0:Int)<_;omega);simp[p1,p2];rw[p1]at hs;simp[hs];refine hK _ _ _ ?_;clear K' hK;with_reducible refine aw_ret ?_
        simp[blockK,loopK,Post,resA,res1,expT,expA,exp1,expM,expL,okT,okA,ok1,rowOf,Tryz.f192];simp[hv,wrap_0,wrap_1,wrap_m1]
      ·by_cases p2:b.pre=⟨#[]⟩
       ·with_reducible refine aA ?_;refine aR fun K' hK=> ?_
        simp[p1,p2];refine hK _ _ _ ?_;clear K' hK;with_reducible refine aX (by simp[p1,p2]) ?_;refine aA ?_;refine aQ fun K' hK=> ?_
        simp;refine acall_flat (order227_ok b.pre.size a.pre.size) rfl (by simp) ?_;simp;refine acall_flat (small228_ok a.pre b.pre) rfl (by simp) ?_;have hv:comparN a b= -1:=(by rw[fin,if_neg (by simp[hcore,p1,p2]),if_neg p1,if_pos p2]);have hs:cmpI b.pre.size a.pre.size= -1:=cmpI_lt (by have:=size_pos p1;rw[p2];show(0:Int)<_;omega);simp[p1,p2];rw[p2]at hs;simp[hs];refine hK _ _ _ ?_;clear K' hK;with_reducible refine aw_ret ?_
        simp[blockK,loopK,Post,resA,res1,expT,expA,exp1,expM,expL,okT,okA,ok1,rowOf,Tryz.f192];simp[hv,wrap_0,wrap_1,wrap_m1]
       ·with_reducible refine aA ?_;refine aR fun K' hK=> ?_
        simp[p1,p2];refine hK _ _ _ ?_;clear K' hK;with_reducible refine aYk (by simp[p1,p2]) ?_;refine aR fun K' hK=> ?_
        simp;refine acall_new (cut58_ok a.pre (by omega)) (by simp) ?_;simp[addJ_one];refine hK _ _ _ ?_;clear K' hK;with_reducible refine aR fun K' hK=> ?_
        simp;refine acall_new (cut58_ok b.pre (by omega)) (by simp) ?_;simp[addJ_one];refine hK _ _ _ ?_;clear K' hK;with_reducible refine aA ?_;refine aR fun K' hK=> ?_
        simp;refine hK _ _ _ ?_;clear K' hK;have hpa:=okParts va p1;have hpb:=okParts vb p2;have hla:=strs_le a.pre;have hlb:=strs_le b.pre;have hsa:∀x∈strs (spl (bsL a.pre)),x.size≤4000000000:=fun x hx=>(by have:=strs_size hx;omega);have hsb:∀x∈strs (spl (bsL b.pre)),x.size≤4000000000:=fun x hx=>(by have:=strs_size hx;omega);have hv:comparN a b=rowsN (strs (spl (bsL a.pre))) (strs (spl (bsL b.pre))):=by
         rw[fin];by_cases p3:a.pre=b.pre
         ·rw[if_pos (.inr p3),hcore,p3,rowsN_self]
         ·rw[if_neg (by simp[hcore,p3]),if_neg p1,if_neg p2]
        generalize strs (spl (bsL a.pre))=x at*;generalize strs (spl (bsL b.pre))=y at*;rw[hv];with_reducible refine aw_block ?_
        refine aw_loop (fun s G nx=>s 5=.row 2 x.length∧s 6=.row 3 y.length∧G 2=some (.row 9 (flat sC x))∧G 3=some (.row 9 (flat sC y))∧∃i:Nat,s 7=iV i∧i≤x.length∧i≤y.length∧rowsN x y=rowsN (x.drop i) (y.drop i)) (fun s _ _=>match s 7 with | .v (.int _ n)=>x.length-n.toNat | _=>0) ?_ ?_
        ·exact⟨by simp,by simp,by simp,by simp,0,by simp,by omega,by omega,by simp⟩
        ·rintro s G nx hf ⟨s5,s6,g2,g3,i,s7,hi,hj,ht⟩;have hw:IntKind.i64.wrap (↑i+1)=((i+1:Nat):Int):=wrapS (by omega);by_cases hi2:i<x.length
         ·by_cases hj2:i<y.length
          ·with_reducible refine aA ?_;refine aR fun K' hK=> ?_
           simp[s5,s6,s7,g2,g3,hi2,hj2];refine hK _ _ _ ?_;clear K' hK;with_reducible refine aXk (by simp[hi2,hj2]) ?_
           have hstep:=rowsN_drop hi2 hj2;have e:partsR (nth x i) (nth y i)=partsN (nth x i) (nth y i):=partsR_eq (hpa _ (nth_mem hi2)) (hpb _ (nth_mem hj2));have h1:=hsa _ (nth_mem hi2);have h2:=hsb _ (nth_mem hj2);with_reducible refine aw_block ?_;refine aQ fun K' hK=> ?_
           simp[s5,s6,s7,g2,g3,hi2,hj2];refine acall_flat (parts229_ok (nth x i) (nth y i) h1 h2) rfl (by simp) ?_;simp;refine hK _ _ _ ?_;clear K' hK;rw[e];by_cases h0:partsN (nth x i) (nth y i)=0
           ·skip;with_reducible refine aR fun K' hK=> ?_
            simp[h0];refine hK _ _ _ ?_;clear K' hK;with_reducible refine aVk (by simp[h0]) ?_;refine aw_skipL ?_
            refine blockK_normal ?_;with_reducible refine aS fun K' hK=> ?_
            simp[s7,hw];refine hK _ _ _ ?_;clear K' hK;refine aw_skipL (loopK_normal ?_ ?_)
            ·exact⟨by simp[s5],by simp[s6],by simp[g2],by simp[g3],i+1,by simp[hw],by omega,by omega,by rw[ht,hstep,if_pos h0]⟩
            ·simp[s7,hw];omega
           ·skip;with_reducible refine aR fun K' hK=> ?_
            simp[h0];refine hK _ _ _ ?_;clear K' hK;with_reducible refine aU (by simp[h0]) ?_;refine aA ?_;refine aR fun K' hK=> ?_
            simp;refine hK _ _ _ ?_;clear K' hK;with_reducible refine aw_ret ?_
            simp[blockK,loopK,Post,resA,res1,expT,expA,exp1,expM,expL,okT,okA,ok1,rowOf,Tryz.f192];rw[ht,hstep,if_neg h0]
          ·have:y.length=i:=(by omega);with_reducible refine aA ?_;refine aR fun K' hK=> ?_
           simp[s5,s6,s7,g2,g3,hi2,hj2];refine hK _ _ _ ?_;clear K' hK;with_reducible refine aY (by simp[hi2,hj2]) ?_;refine aw_exit ?_
           refine loopK_exit (blockK_exit ?_);with_reducible refine aR fun K' hK=> ?_
           simp[s5,s6,g2,g3];refine acall_flat (order227_ok x.length y.length) rfl (by simp) ?_;simp;refine hK _ _ _ ?_;clear K' hK;with_reducible refine aw_retL ?_
           simp[blockK,loopK,Post,resA,res1,expT,expA,exp1,expM,expL,okT,okA,ok1,rowOf,Tryz.f192];rw[ht,rowsN_end (by omega)]
         ·with_reducible refine aA ?_;refine aR fun K' hK=> ?_
          simp[s5,s6,s7,g2,g3,hi2];refine hK _ _ _ ?_;clear K' hK;with_reducible refine aY (by simp[hi2]) ?_;refine aw_exit ?_
          refine loopK_exit (blockK_exit ?_);with_reducible refine aR fun K' hK=> ?_
          simp[s5,s6,g2,g3];refine acall_flat (order227_ok x.length y.length) rfl (by simp) ?_;simp;refine hK _ _ _ ?_;clear K' hK;with_reducible refine aw_retL ?_
          simp[blockK,loopK,Post,resA,res1,expT,expA,exp1,expM,expL,okT,okA,ok1,rowOf,Tryz.f192];rw[ht,rowsN_end (by omega)]
     ·with_reducible refine aA ?_;refine aR fun K' hK=> ?_
      simp[e3];refine hK _ _ _ ?_;clear K' hK;with_reducible refine aX (by simp[e3]) ?_;refine aA ?_;refine aR fun K' hK=> ?_
      simp;refine acall_flat (order227_ok a.pat b.pat) rfl (by simp) ?_;simp;refine hK _ _ _ ?_;clear K' hK;with_reducible refine aw_ret ?_
      simp[blockK,loopK,Post,resA,res1,expT,expA,exp1,expM,expL,okT,okA,ok1,rowOf,Tryz.f192];have:coreN a b=cmpI a.pat b.pat:=(by simp[coreN,e1,e2,cmpI_self]);rw[fin,if_pos (.inl (by rw[this];exact fun h=>e3 (cmpI_zero.1 h))),this]
    ·with_reducible refine aA ?_;refine aR fun K' hK=> ?_
     simp[e2];refine hK _ _ _ ?_;clear K' hK;with_reducible refine aX (by simp[e2]) ?_;refine aA ?_;refine aR fun K' hK=> ?_
     simp;refine acall_flat (order227_ok a.min b.min) rfl (by simp) ?_;simp;refine hK _ _ _ ?_;clear K' hK;with_reducible refine aw_ret ?_
     simp[blockK,loopK,Post,resA,res1,expT,expA,exp1,expM,expL,okT,okA,ok1,rowOf,Tryz.f192];have h0:cmpI a.min b.min≠0:=fun h=>e2 (cmpI_zero.1 h);have:coreN a b=cmpI a.min b.min:=(by simp[coreN,e1,cmpI_self,h0]);rw[fin,if_pos (.inl (by rw[this];exact h0)),this]
   ·with_reducible refine aA ?_;refine aR fun K' hK=> ?_
    simp[e1];refine hK _ _ _ ?_;clear K' hK;with_reducible refine aX (by simp[e1]) ?_;refine aA ?_;refine aR fun K' hK=> ?_
    simp;refine acall_flat (order227_ok a.maj b.maj) rfl (by simp) ?_;simp;refine hK _ _ _ ?_;clear K' hK;with_reducible refine aw_ret ?_
    simp[blockK,loopK,Post,resA,res1,expT,expA,exp1,expM,expL,okT,okA,ok1,rowOf,Tryz.f192];have h0:cmpI a.maj b.maj≠0:=fun h=>e1 (cmpI_zero.1 h);have:coreN a b=cmpI a.maj b.maj:=(by simp[coreN,h0]);rw[fin,if_pos (.inl (by rw[this];exact h0)),this]
  ·simp[vb];refine hK _ _ _ ?_;clear K' hK;with_reducible refine aX (by simp) ?_;refine aA ?_;refine aR fun K' hK=> ?_
   simp;refine hK _ _ _ ?_;clear K' hK;with_reducible refine aw_ret ?_
   simp[blockK,loopK,Post,resA,res1,expT,expA,exp1,expM,expL,okT,okA,ok1,rowOf,Tryz.f192];simp[comparN,vb]
 ·simp[va];refine hK _ _ _ ?_;clear K' hK;with_reducible refine aX (by simp) ?_;refine aA ?_;refine aR fun K' hK=> ?_
  simp;refine hK _ _ _ ?_;clear K' hK;with_reducible refine aw_ret ?_
  simp[blockK,loopK,Post,resA,res1,expT,expA,exp1,expM,expL,okT,okA,ok1,rowOf,Tryz.f192];simp[comparN,va]
set_option maxRecDepth 100000
set_option maxHeartbeats 4000000
theorem bound155_ok (b:Bd) (v:Ver) (hb:b.ver.pre.size≤1000000) (hv:v.pre.size≤1000000):CallsOK Tryz.prog 155 [.agg b.cells,.agg v.cells] (bV (holdB v b)) []:=by
 refine callsOK mixed Tryz.call155 Tryz.func155 rfl (by rw[Tryz.ntmps155];simp) ?_ rfl;rw[Tryz.ntmps155];with_reducible refine aR fun K' hK=> ?_
 simp;refine hK _ _ _ ?_;clear K' hK;with_reducible refine aR fun K' hK=> ?_
 simp;refine acall_flat (compare192_ok v b.ver hv hb) rfl (by simp) ?_;simp;refine hK _ _ _ ?_;clear K' hK;with_reducible refine aA ?_;refine aR fun K' hK=> ?_
 simp;refine hK _ _ _ ?_;clear K' hK;have hd:holdB v b=opN b.op (comparN v b.ver):=rfl;generalize comparN v b.ver=c at*;with_reducible refine aw_block ?_
 by_cases h1:b.op=1
 ·skip;with_reducible refine aR fun K' hK=> ?_
  simp[h1];refine hK _ _ _ ?_;clear K' hK;with_reducible refine aU (by simp[h1]) ?_;refine aA ?_;refine aR fun K' hK=> ?_
  simp;refine hK _ _ _ ?_;clear K' hK;with_reducible refine aw_ret ?_
  simp[blockK,loopK,Post,resA,res1,expT,expA,exp1,expM,expL,okT,okA,ok1,rowOf,Tryz.f155];simp[hd,opN,h1]
 ·skip;with_reducible refine aR fun K' hK=> ?_
  simp[h1];refine hK _ _ _ ?_;clear K' hK;with_reducible refine aV (by simp[h1]) ?_
  by_cases h2:b.op=2
  ·with_reducible refine aA ?_;refine aR fun K' hK=> ?_
   simp[h2];refine hK _ _ _ ?_;clear K' hK;with_reducible refine aX (by simp[h2]) ?_;refine aA ?_;refine aR fun K' hK=> ?_
   simp;refine hK _ _ _ ?_;clear K' hK;with_reducible refine aw_ret ?_
   simp[blockK,loopK,Post,resA,res1,expT,expA,exp1,expM,expL,okT,okA,ok1,rowOf,Tryz.f155];simp[hd,opN,h2]
  ·with_reducible refine aA ?_;refine aR fun K' hK=> ?_
   simp[h2];refine hK _ _ _ ?_;clear K' hK;with_reducible refine aY (by simp[h2]) ?_
   by_cases h3:b.op=3
   ·with_reducible refine aA ?_;refine aR fun K' hK=> ?_
    simp[h3];refine hK _ _ _ ?_;clear K' hK;with_reducible refine aX (by simp[h3]) ?_;refine aA ?_;refine aR fun K' hK=> ?_
    simp;refine hK _ _ _ ?_;clear K' hK;with_reducible refine aw_ret ?_
    simp[blockK,loopK,Post,resA,res1,expT,expA,exp1,expM,expL,okT,okA,ok1,rowOf,Tryz.f155];simp[hd,opN,h3]
   ·with_reducible refine aA ?_;refine aR fun K' hK=> ?_
    simp[h3];refine hK _ _ _ ?_;clear K' hK;with_reducible refine aY (by simp[h3]) ?_
    by_cases h4:b.op=4
    ·with_reducible refine aA ?_;refine aR fun K' hK=> ?_
     simp[h4];refine hK _ _ _ ?_;clear K' hK;with_reducible refine aX (by simp[h4]) ?_;refine aA ?_;refine aR fun K' hK=> ?_
     simp;refine hK _ _ _ ?_;clear K' hK;with_reducible refine aw_ret ?_
     simp[blockK,loopK,Post,resA,res1,expT,expA,exp1,expM,expL,okT,okA,ok1,rowOf,Tryz.f155];simp[hd,opN,h4]
    ·with_reducible refine aA ?_;refine aR fun K' hK=> ?_
     simp[h4];refine hK _ _ _ ?_;clear K' hK;with_reducible refine aYk (by simp[h4]) ?_;refine aw_skipL ?_
     refine blockK_normal ?_;with_reducible refine aR fun K' hK=> ?_
     simp;refine hK _ _ _ ?_;clear K' hK;with_reducible refine aw_retL ?_
     simp[blockK,loopK,Post,resA,res1,expT,expA,exp1,expM,expL,okT,okA,ok1,rowOf,Tryz.f155];simp[hd,opN,h1,h2,h3,h4]
theorem near_eq (v:Ver) (b:Bd):nearB v b=(decide (b.ver.pre≠⟨#[]⟩)&&(decide (b.ver.maj=v.maj)&&(decide (b.ver.min=v.min)&&decide (b.ver.pat=v.pat)))):=by
 rw[Bool.eq_iff_iff];unfold nearB;cases v with | mk a c d e=>simp
theorem lets102_ok (l:Alt) (v:Ver) (hl:Alt.sz l) (hv:v.pre.size≤1000000):CallsOK Tryz.prog 102 [rowT Bd.cells l,.agg v.cells] (bV (altHolds v l)) []:=by
 refine callsOK mixed Tryz.call102 Tryz.func102 rfl (by rw[Tryz.ntmps102];simp) ?_ rfl;rw[Tryz.ntmps102];have hll:=hl.1;with_reducible refine aR fun K' hK=> ?_
 simp;refine hK _ _ _ ?_;clear K' hK;with_reducible refine aR fun K' hK=> ?_
 simp;refine hK _ _ _ ?_;clear K' hK;with_reducible refine aA ?_;refine aR fun K' hK=> ?_
 simp;refine hK _ _ _ ?_;clear K' hK;with_reducible refine aw_block ?_
 refine aw_loop (fun s G nx=>G 0=some (.var 23 v.cells)∧s 3=.ptr 0 0∧s 0=rowT Bd.cells l∧∃j:Nat,s 6=iV j∧j≤l.length∧s 5=bV (decide (v.pre=⟨#[]⟩) || (l.take j).any (nearB v))∧(l.take j).all (holdB v)=true) (fun s _ _=>match s 6 with | .v (.int _ n)=>l.length-n.toNat | _=>0) ?_ ?_
 ·exact⟨by simp,by simp,by simp,0,by simp,by omega,by simp,by simp⟩
 ·rintro s G nx hf ⟨g0,s3,s0,j,s6,hj,s5,hjt⟩;have n0:¬0=nx:=(by have:=fresh_lt hf g0;omega);have hwj:IntKind.i64.wrap (↑j+1)=((j+1:Nat):Int):=wrapS (by omega);with_reducible refine aA ?_;refine aR fun K' hK=> ?_
  simp[s0,s6];refine hK _ _ _ ?_;clear K' hK;with_reducible refine aC fun A B hA hB=> ?_
  simp;refine⟨fun hj2=>hA ?_,fun hj2=>hB ?_⟩<;>clear hA hB A B<;>(try simp at hj2)<;>(try with_reducible refine aK ?_)
  ·have hjstep:=all_take1 (p:=holdB v) hj2;have hnstep:=any_take1 (p:=nearB v) hj2;have hjfalse:holdB v (nth l j)=false→altHolds v l=false:=fun h=>(by rw[altHolds,all_false hj2 h];rfl);have hbz:=hl.2 _ (nth_mem hj2);have hnear:=near_eq v (nth l j);generalize hgb:nth l j=b at*;with_reducible refine aw_block ?_;refine aR fun K' hK=> ?_
   simp[s0,s6,hj2,hgb];refine hK _ _ _ ?_;clear K' hK;with_reducible refine aA ?_;refine aQ fun K' hK=> ?_
   simp[s0,s6,s3,g0,n0,hj2,hgb];refine acall_flat (bound155_ok b v hbz hv) rfl (by simp) ?_;simp;refine hK _ _ _ ?_;clear K' hK;by_cases c3:holdB v b=true
   ·skip;with_reducible refine aYk (by simp[c3]) ?_
    generalize hnb:(decide (v.pre=⟨#[]⟩) || (l.take j).any (nearB v))=nb at*;have fin:bV (nb || nearB v b)=bV (decide (v.pre=⟨#[]⟩) || (l.take (j+1)).any (nearB v)):=(by rw[hnstep,←Bool.or_assoc,hnb]);refine aw_toS (aw_cut (fun s G nx=>G 0=some (.var 23 v.cells)∧s 3=.ptr 0 0∧s 0=rowT Bd.cells l∧s 6=iV j∧s 5=bV (nb || nearB v b)) ?_ ?_)
    ·rw[hnear];cases nb with
     | true=>
      with_reducible refine aS fun K' hK=> ?_
      simp[s5];refine hK _ _ _ ?_;clear K' hK;with_reducible refine aw_end ?_
      simp[s3,s0,s6,g0,n0]
     | false=>
      by_cases w0:b.ver.pre=⟨#[]⟩
      ·skip;with_reducible refine aS fun K' hK=> ?_
       simp[s5,w0];refine hK _ _ _ ?_;clear K' hK;with_reducible refine aw_end ?_
       simp[s3,s0,s6,g0,n0,w0]
      ·by_cases w1:b.ver.maj=v.maj
       ·by_cases w2:b.ver.min=v.min
        ·skip;with_reducible refine aS fun K' hK=> ?_
         simp[s5,w0,w1,w2,s3,g0,n0];refine hK _ _ _ ?_;clear K' hK;with_reducible refine aw_end ?_
         simp[s3,s0,s6,g0,n0,w0,w1,w2]
        ·skip;with_reducible refine aS fun K' hK=> ?_
         simp[s5,w0,w1,w2,s3,g0,n0];refine hK _ _ _ ?_;clear K' hK;with_reducible refine aw_end ?_
         simp[s3,s0,s6,g0,n0,w0,w1,w2]
       ·skip;with_reducible refine aS fun K' hK=> ?_
        simp[s5,w0,w1,s3,g0,n0];refine hK _ _ _ ?_;clear K' hK;with_reducible refine aw_end ?_
        simp[s3,s0,s6,g0,n0,w0,w1]
    ·clear s3 s0 g0 s5 hf n0;rintro s1 G1 nx1 ⟨g0,s3,s0,s6,s5⟩;with_reducible refine aw_skipL ?_
     refine blockK_normal ?_;with_reducible refine aS fun K' hK=> ?_
     simp[s6,hwj];refine hK _ _ _ ?_;clear K' hK;refine aw_skipL (loopK_normal ?_ ?_)
     ·exact⟨by simp[g0],by simp[s3],by simp[s0],j+1,by simp[hwj],by omega,by simp[s5];simpa using fin,by rw[hjstep,hjt,c3];rfl⟩
     ·simp[*];omega
   ·skip;with_reducible refine aX (by simp[c3]) ?_;refine aA ?_;refine aR fun K' hK=> ?_
    simp;refine hK _ _ _ ?_;clear K' hK;with_reducible refine aw_ret ?_
    simp[blockK,loopK,Post,resA,res1,expT,expA,exp1,expM,expL,okT,okA,ok1,rowOf,Tryz.f102];rw[hjfalse (by simpa using c3)]
  ·skip;with_reducible refine aw_exit ?_
   refine loopK_exit (blockK_exit ?_);rw[List.take_of_length_le (by omega)]at hjt s5;have hah:altHolds v l=(decide (v.pre=⟨#[]⟩) || l.any (nearB v)):=(by rw[altHolds,hjt];rfl);rw[←hah]at s5;with_reducible refine aR fun K' hK=> ?_
   simp[s5];refine hK _ _ _ ?_;clear K' hK;with_reducible refine aw_retL ?_
   simp[blockK,loopK,Post,resA,res1,expT,expA,exp1,expM,expL,okT,okA,ok1,rowOf,Tryz.f102]
theorem right100_ok (r:Rg) (hr:Rg.sz r):CallsOK Tryz.prog 100 [.agg r.cells] (bV (rgOk r)) []:=by
 refine callsOK mixed Tryz.call100 Tryz.func100 rfl (by rw[Tryz.ntmps100];simp) ?_ rfl;rw[Tryz.ntmps100];have hl:=hr.1;with_reducible refine aR fun K' hK=> ?_
 simp;refine hK _ _ _ ?_;clear K' hK;by_cases z1:r.length<1
 ·have z1':(r.length:Int)<1:=(by omega);with_reducible refine aA ?_;refine aR fun K' hK=> ?_
  simp[Rg.cells,z1,z1'];refine hK _ _ _ ?_;clear K' hK;with_reducible refine aX (by simp) ?_;refine aA ?_;refine aR fun K' hK=> ?_
  simp;refine hK _ _ _ ?_;clear K' hK;with_reducible refine aw_ret ?_
  simp[blockK,loopK,Post,resA,res1,expT,expA,exp1,expM,expL,okT,okA,ok1,rowOf,Tryz.f100];have:¬1≤r.length:=(by omega);simp[rgOk,this]
 ·have z1':¬(r.length:Int)<1:=(by omega);by_cases z2:8<r.length
  ·have z2':(8:Int)<r.length:=(by omega);with_reducible refine aA ?_;refine aR fun K' hK=> ?_
   simp[Rg.cells,z1,z1',z2,z2'];refine hK _ _ _ ?_;clear K' hK;with_reducible refine aX (by simp) ?_;refine aA ?_;refine aR fun K' hK=> ?_
   simp;refine hK _ _ _ ?_;clear K' hK;with_reducible refine aw_ret ?_
   simp[blockK,loopK,Post,resA,res1,expT,expA,exp1,expM,expL,okT,okA,ok1,rowOf,Tryz.f100];have:¬r.length≤8:=(by omega);simp[rgOk,this]
  ·have z2':¬(8:Int)<r.length:=(by omega);with_reducible refine aA ?_;refine aR fun K' hK=> ?_
   simp[Rg.cells,z1,z1',z2,z2'];refine hK _ _ _ ?_;clear K' hK;with_reducible refine aYk (by simp) ?_;refine aA ?_;refine aR fun K' hK=> ?_
   simp;refine hK _ _ _ ?_;clear K' hK;with_reducible refine aw_block ?_
   refine aw_loop (fun s G nx=>G 0=some (.var 33 [rowT Alt.cells r])∧s 1=.ptr 0 0∧∃i:Nat,s 3=iV i∧i≤r.length∧(r.take i).all altOk=true) (fun s _ _=>match s 3 with | .v (.int _ n)=>r.length-n.toNat | _=>0) ?_ ?_
   ·exact⟨by simp[Rg.cells],by simp,0,by simp,by omega,by simp⟩
   ·rintro s G nx hf ⟨g0,s1,i,s3,hi,ht⟩;have o3:=s3;have n0:¬0=nx:=(by have:=fresh_lt hf g0;omega);have hw:IntKind.i64.wrap (↑i+1)=((i+1:Nat):Int):=wrapS (by omega);with_reducible refine aA ?_;refine aR fun K' hK=> ?_
    simp[s1,s3,g0];refine hK _ _ _ ?_;clear K' hK;with_reducible refine aC fun A B hA hB=> ?_
    simp;refine⟨fun hi2=>hA ?_,fun hi2=>hB ?_⟩<;>clear hA hB A B<;>(try simp at hi2)<;>(try with_reducible refine aK ?_)
    ·have hstep:=all_take1 (p:=altOk) hi2;have hA:=hr.2 _ (nth_mem hi2);have hfalse:altOk (nth r i)=false→rgOk r=false:=fun h=>(by rw[rgOk,all_false hi2 h];rfl);generalize hgl:nth r i=l at*;have hAl:=hA.1;with_reducible refine aw_block ?_
     by_cases k8:8<l.length
     ·have k8':(8:Int)<l.length:=(by omega);with_reducible refine aA ?_;refine aR fun K' hK=> ?_
      simp[s1,s3,g0,hi2,hgl,k8,k8'];refine hK _ _ _ ?_;clear K' hK;with_reducible refine aX (by simp) ?_;refine aA ?_;refine aR fun K' hK=> ?_
      simp;refine hK _ _ _ ?_;clear K' hK;with_reducible refine aw_ret ?_
      simp[blockK,loopK,Post,resA,res1,expT,expA,exp1,expM,expL,okT,okA,ok1,rowOf,Tryz.f100];have:altOk l=false:=by
       have:¬l.length≤8:=(by omega);simp[altOk,this]
      rw[hfalse this]
     ·have k8':¬(8:Int)<l.length:=(by omega);with_reducible refine aA ?_;refine aR fun K' hK=> ?_
      simp[s1,s3,g0,hi2,hgl,k8,k8'];refine hK _ _ _ ?_;clear K' hK;with_reducible refine aYk (by simp) ?_;refine aR fun K' hK=> ?_
      simp;refine hK _ _ _ ?_;clear K' hK;with_reducible refine aw_toS (aw_block ?_)
      refine aw_loop (fun s G nx=>G 0=some (.var 33 [rowT Alt.cells r])∧s 1=.ptr 0 0∧s 3=iV i∧∃j:Nat,s 4=iV j∧j≤l.length∧(l.take j).all bdOk=true) (fun s _ _=>match s 4 with | .v (.int _ n)=>l.length-n.toNat | _=>0) ?_ ?_
      ·exact⟨by simp[g0],by simp[s1],by simp[s3],0,by simp,by omega,by simp⟩
      ·clear s1 s3 g0 hf n0;rintro s G nx hf ⟨g0,s1,s3,j,s4,hj,hjt⟩;have n0:¬0=nx:=(by have:=fresh_lt hf g0;omega);have hwj:IntKind.i64.wrap (↑j+1)=((j+1:Nat):Int):=wrapS (by omega);with_reducible refine aA ?_;refine aR fun K' hK=> ?_
       simp[s1,s3,s4,g0,hi2,hgl];refine hK _ _ _ ?_;clear K' hK;with_reducible refine aC fun A B hA hB=> ?_
       simp;refine⟨fun hj2=>hA ?_,fun hj2=>hB ?_⟩<;>clear hA hB A B<;>(try simp at hj2)<;>(try with_reducible refine aK ?_)
       ·have hjstep:=all_take1 (p:=bdOk) hj2;have hjfalse:bdOk (nth l j)=false→rgOk r=false:=fun h=>hfalse (by rw[altOk,all_false hj2 h];rfl);have hbz:=hA.2 _ (nth_mem hj2);have hbd:bdOk (nth l j)=(verOk (nth l j).ver&&(decide (1≤(nth l j).op)&&decide ((nth l j).op≤5))):=rfl;generalize hgb:nth l j=b at*;with_reducible refine aw_block ?_;refine aR fun K' hK=> ?_
        simp[s1,s3,s4,g0,hi2,hgl,hj2,hgb];refine hK _ _ _ ?_;clear K' hK;by_cases b1:b.op<1
        ·skip;with_reducible refine aR fun K' hK=> ?_
         simp[b1];refine hK _ _ _ ?_;clear K' hK;with_reducible refine aU (by simp) ?_;refine aA ?_;refine aR fun K' hK=> ?_
         simp;refine hK _ _ _ ?_;clear K' hK;with_reducible refine aw_ret ?_
         simp[blockK,loopK,Post,resA,res1,expT,expA,exp1,expM,expL,okT,okA,ok1,rowOf,Tryz.f100];have:¬1≤b.op:=(by omega);rw[hjfalse (by simp[hbd,this])]
        ·by_cases b2:5<b.op
         ·skip;with_reducible refine aR fun K' hK=> ?_
          simp[b1,b2];refine hK _ _ _ ?_;clear K' hK;with_reducible refine aU (by simp) ?_;refine aA ?_;refine aR fun K' hK=> ?_
          simp;refine hK _ _ _ ?_;clear K' hK;with_reducible refine aw_ret ?_
          simp[blockK,loopK,Post,resA,res1,expT,expA,exp1,expM,expL,okT,okA,ok1,rowOf,Tryz.f100];have:¬b.op≤5:=(by omega);rw[hjfalse (by simp[hbd,this])]
         ·skip;with_reducible refine aR fun K' hK=> ?_
          simp[b1,b2];refine acall_flat (right37_ok b.ver (by omega)) rfl (by simp) ?_;simp;refine hK _ _ _ ?_;clear K' hK;by_cases c3:verOk b.ver=true
          ·skip;with_reducible refine aVk (by simp[c3]) ?_;refine aw_skipL ?_
           refine blockK_normal ?_;with_reducible refine aS fun K' hK=> ?_
           simp[s4,hwj];refine hK _ _ _ ?_;clear K' hK;refine aw_skipL (loopK_normal ?_ ?_)
           ·exact⟨by simp[g0,n0],by simp[s1],by simp[s3],j+1,by simp[hwj],by omega,by
             rw[hjstep,hjt,hbd,c3];simp;omega⟩
           ·simp[s4,hwj];omega
          ·skip;with_reducible refine aU (by simp[c3]) ?_;refine aA ?_;refine aR fun K' hK=> ?_
           simp;refine hK _ _ _ ?_;clear K' hK;with_reducible refine aw_ret ?_
           simp[blockK,loopK,Post,resA,res1,expT,expA,exp1,expM,expL,okT,okA,ok1,rowOf,Tryz.f100];rw[hjfalse (by simp[hbd,c3])]
       ·skip;with_reducible refine aw_exit ?_
        refine loopK_exit (blockK_exit ?_);rw[List.take_of_length_le (by omega)]at hjt;with_reducible refine aw_skipL ?_
        refine blockK_normal ?_;with_reducible refine aS fun K' hK=> ?_
        simp[s3,hw];refine hK _ _ _ ?_;clear K' hK;refine aw_skipL (loopK_normal ?_ ?_)
        ·exact⟨by simp[g0],by simp[s1],i+1,by simp[hw],by omega,by
          rw[hstep,ht,altOk,hjt];simp;omega⟩
        ·simp[o3,s3,hw];omega
    ·skip;with_reducible refine aw_exit ?_
     refine loopK_exit (blockK_exit ?_);rw[List.take_of_length_le (by omega)]at ht;with_reducible refine aR fun K' hK=> ?_
     simp;refine hK _ _ _ ?_;clear K' hK;with_reducible refine aw_retL ?_
     simp[blockK,loopK,Post,resA,res1,expT,expA,exp1,expM,expL,okT,okA,ok1,rowOf,Tryz.f100];simp[rgOk,ht];omega
theorem holds44_ok (r:Rg) (v:Ver) (hr:Rg.sz r) (hv:v.pre.size≤1000000):CallsOK Tryz.prog 44 [.agg r.cells,.agg v.cells] (bV (rgHolds v r)) []:=by
 refine callsOK mixed Tryz.call44 Tryz.func44 rfl (by rw[Tryz.ntmps44];simp) ?_ rfl;rw[Tryz.ntmps44];have hl:=hr.1;with_reducible refine aR fun K' hK=> ?_
 simp;refine hK _ _ _ ?_;clear K' hK;with_reducible refine aA ?_;refine aR fun K' hK=> ?_
 simp[Rg.cells];refine acall_flat (right100_ok r hr) rfl (by simp[Rg.cells]) ?_;by_cases c1:rgOk r=true
 ·simp[c1];refine acall_flat (right37_ok v (by omega)) rfl (by simp) ?_;by_cases c2:verOk v=true
  ·simp[c2];refine hK _ _ _ ?_;clear K' hK;with_reducible refine aYk (by simp) ?_;refine aA ?_;refine aR fun K' hK=> ?_
   simp;refine hK _ _ _ ?_;clear K' hK;with_reducible refine aw_block ?_
   refine aw_loop (fun s G nx=>G 0=some (.var 33 [rowT Alt.cells r])∧G 1=some (.var 23 v.cells)∧s 2=.ptr 0 0∧s 3=.ptr 1 0∧∃i:Nat,s 5=iV i∧i≤r.length∧(r.take i).any (altHolds v)=false) (fun s _ _=>match s 5 with | .v (.int _ n)=>r.length-n.toNat | _=>0) ?_ ?_
   ·exact⟨by simp[Rg.cells],by simp,by simp,by simp,0,by simp,by omega,by simp⟩
   ·rintro s G nx hf ⟨g0,g1,s2,s3,i,s5,hi,ht⟩;have hw:IntKind.i64.wrap (↑i+1)=((i+1:Nat):Int):=wrapS (by omega);with_reducible refine aA ?_;refine aR fun K' hK=> ?_
    simp[s2,s5,g0];refine hK _ _ _ ?_;clear K' hK;with_reducible refine aC fun A B hA hB=> ?_
    simp;refine⟨fun hi2=>hA ?_,fun hi2=>hB ?_⟩<;>clear hA hB A B<;>(try simp at hi2)<;>(try with_reducible refine aK ?_)
    ·have hA:=hr.2 _ (nth_mem hi2);with_reducible refine aw_block ?_;refine aQ fun K' hK=> ?_
     simp[s2,s3,s5,g0,g1,hi2];refine acall_flat (lets102_ok (nth r i) v hA hv) rfl (by simp) ?_;simp;refine hK _ _ _ ?_;clear K' hK;by_cases c4:altHolds v (nth r i)=true
     ·skip;with_reducible refine aU (by simp[c4]) ?_;refine aA ?_;refine aR fun K' hK=> ?_
      simp;refine hK _ _ _ ?_;clear K' hK;with_reducible refine aw_ret ?_
      simp[blockK,loopK,Post,resA,res1,expT,expA,exp1,expM,expL,okT,okA,ok1,rowOf,Tryz.f44];have:r.any (altHolds v)=true:=List.any_eq_true.2 ⟨_,nth_mem hi2,c4⟩;simp[rgHolds,c1,c2,this]
     ·skip;with_reducible refine aVk (by simp[c4]) ?_;refine aw_skipL ?_
      refine blockK_normal ?_;with_reducible refine aS fun K' hK=> ?_
      simp[s5,hw];refine hK _ _ _ ?_;clear K' hK;refine aw_skipL (loopK_normal ?_ ?_)
      ·exact⟨by simp[g0],by simp[g1],by simp[s2],by simp[s3],i+1,by simp[hw],by omega,any_take hi2 ht (by simpa using c4)⟩
      ·simp[s5,hw];omega
    ·skip;with_reducible refine aw_exit ?_
     refine loopK_exit (blockK_exit ?_);rw[List.take_of_length_le (by omega)]at ht;with_reducible refine aR fun K' hK=> ?_
     simp;refine hK _ _ _ ?_;clear K' hK;with_reducible refine aw_retL ?_
     simp[blockK,loopK,Post,resA,res1,expT,expA,exp1,expM,expL,okT,okA,ok1,rowOf,Tryz.f44];simp[rgHolds,ht]
  ·simp[c2];refine hK _ _ _ ?_;clear K' hK;with_reducible refine aX (by simp) ?_;refine aA ?_;refine aR fun K' hK=> ?_
   simp;refine hK _ _ _ ?_;clear K' hK;with_reducible refine aw_ret ?_
   simp[blockK,loopK,Post,resA,res1,expT,expA,exp1,expM,expL,okT,okA,ok1,rowOf,Tryz.f44];simp[rgHolds,c2]
 ·simp[c1];refine hK _ _ _ ?_;clear K' hK;with_reducible refine aX (by simp) ?_;refine aA ?_;refine aR fun K' hK=> ?_
  simp;refine hK _ _ _ ?_;clear K' hK;with_reducible refine aw_ret ?_
  simp[blockK,loopK,Post,resA,res1,expT,expA,exp1,expM,expL,okT,okA,ok1,rowOf,Tryz.f44];simp[rgHolds,c1]
set_option maxRecDepth 100000
set_option maxHeartbeats 4000000
theorem dep210_ok (d:Dep) (root:Bool) (hn:d.name.size≤1000000) (hr:Rg.sz d.range):CallsOK Tryz.prog 210 [.agg d.cells,bV root] (bV (kindB root d&&ruledB d.name d.range)) []:=by
 refine callsOK mixed Tryz.call210 Tryz.func210 rfl (by rw[Tryz.ntmps210];simp) ?_ rfl;rw[Tryz.ntmps210];with_reducible refine aR fun K' hK=> ?_
 simp;refine hK _ _ _ ?_;clear K' hK;have hk:∀b,kindB root d=b→(kindB root d&&ruledB d.name d.range)=(b&&(rgOk d.range&&goodF (bsL d.name))):=fun b h=>(by rw[h];rfl);have fin:∀(K:Bool),kindB root d=K→True:=fun _ _=>trivial;by_cases k1:1≤d.kind
 ·by_cases k4:d.kind≤4
  ·by_cases k2:root=true∨d.kind≠2
   ·have hkb:kindB root d=true:=by
     simp only[kindB,Bool.and_eq_true,decide_eq_true_eq,Bool.or_eq_true,Bool.not_eq_true',decide_eq_false_iff_not];exact⟨⟨k1,k4⟩,k2⟩
    rw[hkb];refine aw_cut (fun s G nx=>s 4=bV (goodF (bsL d.name)&&rgOk d.range)) ?_ ?_
    ·cases root with
     | true=>
      with_reducible refine aS fun K' hK=> ?_
      simp[k1,k4];refine acall_flat (good36_ok d.name (by omega)) rfl (by first | rfl | (simp;done) | (simp;rfl) | (simp;exact⟨rfl,rfl⟩)) ?_;by_cases hg:goodF (bsL d.name)=true
      ·simp[hg];refine acall_flat (right100_ok d.range hr) rfl (by simp[Rg.cells]) ?_;simp;refine hK _ _ _ ?_;clear K' hK;with_reducible refine aw_end ?_
       simp[hg]
      ·simp[hg];refine hK _ _ _ ?_;clear K' hK;with_reducible refine aw_end ?_
       simp[hg]
     | false=>
      have k2':¬d.kind=2:=k2.resolve_left (by simp);with_reducible refine aS fun K' hK=> ?_
      simp[k1,k4,k2'];refine acall_flat (good36_ok d.name (by omega)) rfl (by first | rfl | (simp;done) | (simp;rfl) | (simp;exact⟨rfl,rfl⟩)) ?_;by_cases hg:goodF (bsL d.name)=true
      ·simp[hg];refine acall_flat (right100_ok d.range hr) rfl (by simp[Rg.cells]) ?_;simp;refine hK _ _ _ ?_;clear K' hK;with_reducible refine aw_end ?_
       simp[hg]
      ·simp[hg];refine hK _ _ _ ?_;clear K' hK;with_reducible refine aw_end ?_
       simp[hg]
    ·rintro s G nx s4;with_reducible refine aw_retL ?_
     simp[blockK,loopK,Post,resA,res1,expT,expA,exp1,expM,expL,okT,okA,ok1,rowOf,Tryz.f210,s4];simp[ruledB,Bool.and_comm]
   ·have hr0:root=false:=(by cases root<;>simp_all);have hk2:d.kind=2:=by
     rcases Classical.em (d.kind=2)with h | h
     ·exact h
     ·exact absurd (.inr h) k2
    subst hr0;with_reducible refine aR fun K' hK=> ?_
    simp[k1,k4,hk2];refine hK _ _ _ ?_;clear K' hK;with_reducible refine aw_retL ?_
    simp[blockK,loopK,Post,resA,res1,expT,expA,exp1,expM,expL,okT,okA,ok1,rowOf,Tryz.f210];simp[kindB,hk2]
  ·skip;with_reducible refine aR fun K' hK=> ?_
   simp[k1,k4];refine hK _ _ _ ?_;clear K' hK;with_reducible refine aw_retL ?_
   simp[blockK,loopK,Post,resA,res1,expT,expA,exp1,expM,expL,okT,okA,ok1,rowOf,Tryz.f210];simp[kindB,k4]
 ·skip;with_reducible refine aR fun K' hK=> ?_
  simp[k1];refine hK _ _ _ ?_;clear K' hK;with_reducible refine aw_retL ?_
  simp[blockK,loopK,Post,resA,res1,expT,expA,exp1,expM,expL,okT,okA,ok1,rowOf,Tryz.f210];simp[kindB,k1]
theorem ahead182_ok (a b:Man) (ha:a.ver.pre.size≤1000000) (hb:b.ver.pre.size≤1000000):CallsOK Tryz.prog 182 [.agg a.cells,.agg b.cells] (bV (decide (manOrd a b<0))) []:=by
 refine callsOK mixed Tryz.call182 Tryz.func182 rfl (by rw[Tryz.ntmps182];simp) ?_ rfl;rw[Tryz.ntmps182];with_reducible refine aR fun K' hK=> ?_
 simp;refine hK _ _ _ ?_;clear K' hK;by_cases h1:ltB a.name b.name=true
 ·skip;with_reducible refine aR fun K' hK=> ?_
  simp[h1];refine hK _ _ _ ?_;clear K' hK;with_reducible refine aw_retL ?_
  simp[blockK,loopK,Post,resA,res1,expT,expA,exp1,expM,expL,okT,okA,ok1,rowOf,Tryz.f182];have:cmpB a.name b.name= -1:=(by simp[cmpB,h1]);simp[manOrd,orN,this]
 ·have h1':ltB a.name b.name=false:=(by simpa using h1);by_cases h2:a.name=b.name
  ·have h2':(a.name=b.name)=True:=eq_true h2;with_reducible refine aR fun K' hK=> ?_
   simp[h1',h2'];refine acall_flat (compare192_ok a.ver b.ver ha hb) rfl (by first | rfl | (simp;done) | (simp;rfl) | (simp;exact⟨rfl,rfl⟩)) ?_;simp;refine hK _ _ _ ?_;clear K' hK;with_reducible refine aw_retL ?_
   simp[blockK,loopK,Post,resA,res1,expT,expA,exp1,expM,expL,okT,okA,ok1,rowOf,Tryz.f182];have:cmpB a.name b.name=0:=cmpB_zero.2 h2;simp only[manOrd,orN,this,if_true];split
   ·rename_i h;rw[h]
   ·rfl
  ·skip;with_reducible refine aR fun K' hK=> ?_
   refine aops_part 6 fun K2 hK2=> ?_;simp[h1'];refine hK2 _ _ _ ?_;clear K2 hK2;refine aops_part 6 fun K2 hK2=> ?_;simp[h2];refine hK2 _ _ _ ?_;clear K2 hK2;simp[h2];refine hK _ _ _ ?_;clear K' hK;with_reducible refine aw_retL ?_
   simp[blockK,loopK,Post,resA,res1,expT,expA,exp1,expM,expL,okT,okA,ok1,rowOf,Tryz.f182];have h3:¬cmpB a.name b.name=0:=fun h=>h2 (cmpB_zero.1 h);have h4:¬cmpB a.name b.name<0:=fun h=>h1 (cmpB_neg.1 h);simp only[manOrd,orN,if_neg h3];omega
set_option maxRecDepth 100000
set_option maxHeartbeats 4000000
theorem depLt_iff (a b:Dep):depLt a b=true↔¬b.kind<a.kind∧(¬a.kind=b.kind∨ltB a.name b.name=true):=by
 unfold depLt;rw[decide_eq_true_eq];have e:orN [cmpI a.kind b.kind,cmpB a.name b.name]=if cmpI a.kind b.kind=0 then cmpB a.name b.name else cmpI a.kind b.kind:=by
  simp only[orN];split
  ·split
   ·rename_i h;exact h.symm
   ·rfl
  ·rfl
 rw[e];rcases Int.lt_trichotomy a.kind b.kind with h | h | h
 ·rw[cmpI_lt h,if_neg (by decide)];exact⟨fun _=>⟨by omega,.inl (by omega)⟩,fun _=>by decide⟩
 ·rw[h,cmpI_self,if_pos rfl,cmpB_neg];exact⟨fun h=>⟨by omega,.inr h⟩,fun h=>h.2.resolve_left (by simp)⟩
 ·rw[cmpI_gt h,if_neg (by decide)];exact⟨fun h=>absurd h (by decide),fun h2=>absurd h h2.1⟩
theorem right181_ok (m:Man) (hm:Man.sz m) (root:Bool):CallsOK Tryz.prog 181 [.agg m.cells,bV root] (bV (manRight m root)) []:=by
 obtain⟨hn,hv,⟨hdl,hdd⟩,hrl,hrr⟩:=hm;refine callsOK mixed Tryz.call181 Tryz.func181 rfl (by rw[Tryz.ntmps181];simp) ?_ rfl;rw[Tryz.ntmps181];with_reducible refine aR fun K' hK=> ?_
 simp;refine hK _ _ _ ?_;clear K' hK;with_reducible refine aA ?_
 refine aw_cut (fun s G nx=>s 1=bV root∧s 2=.ptr 0 0∧G 0=some (.var 27 m.cells)∧s 35=bV (!manHead m root)) ?_ ?_
 ·skip;with_reducible refine aS fun K' hK=> ?_
  refine aops_part 3 fun K2 hK2=> ?_;simp;refine acall_flat (right37_ok m.ver (by omega)) rfl (by first | rfl | (simp;done) | (simp;rfl) | (simp;exact⟨rfl,rfl⟩)) ?_;simp;refine hK2 _ _ _ ?_;clear K2 hK2;by_cases c1:verOk m.ver=true
  ·refine aops_part 7 fun K2 hK2=> ?_;simp[c1];refine acall_flat (good36_ok m.name (by omega)) rfl (by first | rfl | (simp;done) | (simp;rfl) | (simp;exact⟨rfl,rfl⟩)) ?_;simp;refine hK2 _ _ _ ?_;clear K2 hK2;by_cases c2:goodF (bsL m.name)=true
   ·by_cases c3:m.rules.length=0
    ·have c3':¬0<m.rules.length:=(by omega);have c3i:¬(0:Int)<m.rules.length:=(by omega);refine aops_part 8 fun K2 hK2=> ?_;simp[c1,c2];refine hK2 _ _ _ ?_;clear K2 hK2;simp[c1,c2,c3,c3',c3i];refine hK _ _ _ ?_;clear K' hK;with_reducible refine aw_end ?_
     simp[manHead,c1,c2,c3]
    ·have c3':0<m.rules.length:=(by omega);have c3i:(0:Int)<m.rules.length:=(by omega);cases root<;>(
      refine aops_part 8 fun K2 hK2=> ?_;simp[c1,c2];refine hK2 _ _ _ ?_;clear K2 hK2;simp[c1,c2,c3,c3',c3i];refine hK _ _ _ ?_;clear K' hK;with_reducible refine aw_end ?_
      simp[manHead,c1,c2,c3])
   ·by_cases c4:m.name=⟨#[]⟩
    ·have c4':(m.name=⟨#[]⟩)=True:=eq_true c4;by_cases c3:m.rules.length=0
     ·have c3':¬0<m.rules.length:=(by omega);have c3i:¬(0:Int)<m.rules.length:=(by omega);cases root<;>(
       refine aops_part 8 fun K2 hK2=> ?_;simp[c1,c2,c4'];refine hK2 _ _ _ ?_;clear K2 hK2;simp[c1,c2,c3,c3',c3i];refine hK _ _ _ ?_;clear K' hK;with_reducible refine aw_end ?_
       simp[manHead,c1,c2,c3,c4'])
     ·have c3':0<m.rules.length:=(by omega);have c3i:(0:Int)<m.rules.length:=(by omega);cases root<;>(
       refine aops_part 8 fun K2 hK2=> ?_;simp[c1,c2,c4'];refine hK2 _ _ _ ?_;clear K2 hK2;simp[c1,c2,c3,c3',c3i];refine hK _ _ _ ?_;clear K' hK;with_reducible refine aw_end ?_
       simp[manHead,c1,c2,c3,c4'])
    ·refine aops_part 8 fun K2 hK2=> ?_;simp[c1,c2,c4];refine hK2 _ _ _ ?_;clear K2 hK2;simp[c1,c2,c4];refine hK _ _ _ ?_;clear K' hK;with_reducible refine aw_end ?_
     simp[manHead,c1,c2,c4]
  ·refine aops_part 8 fun K2 hK2=> ?_;simp[c1];refine hK2 _ _ _ ?_;clear K2 hK2;refine aops_part 8 fun K2 hK2=> ?_;simp[c1];refine hK2 _ _ _ ?_;clear K2 hK2;simp[c1];refine hK _ _ _ ?_;clear K' hK;with_reducible refine aw_end ?_
   simp[manHead,c1]
 ·rintro s G nx ⟨s1,s2,g0,s35⟩;by_cases hh:manHead m root=true
  ·rw[hh]at s35;with_reducible refine aYk (by simp[s35]) ?_;refine aA ?_;refine aR fun K' hK=> ?_
   simp;refine hK _ _ _ ?_;clear K' hK;refine aw_cutR (fun s G nx=>s 1=bV root∧s 2=.ptr 0 0∧G 0=some (.var 27 m.cells)∧(List.range m.deps.length).all (depAt root m.deps)=true) ?_ ?_
   ·skip;with_reducible refine aw_toS (aw_block ?_)
    refine aw_loop (fun s G nx=>s 1=bV root∧s 2=.ptr 0 0∧G 0=some (.var 27 m.cells)∧∃i:Nat,s 5=iV i∧i≤m.deps.length∧(List.range i).all (depAt root m.deps)=true) (fun s _ _=>match s 5 with | .v (.int _ n)=>m.deps.length-n.toNat | _=>0) ?_ ?_
    ·exact⟨by simp[s1],by simp[s2],by simp[g0],0,by simp,by omega,by simp⟩
    ·clear s1 s2 g0 s35 s G nx;rintro s G nx hf ⟨s1,s2,g0,i,s5,hi,ht⟩;have hw:IntKind.i64.wrap (↑i+1)=((i+1:Nat):Int):=wrapS (by omega);with_reducible refine aA ?_;refine aR fun K' hK=> ?_
     simp[s2,s5,g0];refine hK _ _ _ ?_;clear K' hK;with_reducible refine aC fun A B hA hB=> ?_
     simp;refine⟨fun hi2=>hA ?_,fun hi2=>hB ?_⟩<;>clear hA hB A B<;>(try simp at hi2)<;>(try with_reducible refine aK ?_)
     ·have hd:=hdd _ (nth_mem hi2);have hfalse:depAt root m.deps i=false→manRight m root=false:=fun h=>(by rw[manRight,rng_all hi2 h];simp);have hstep:=rng_step (p:=depAt root m.deps) ht;have hdef:depAt root m.deps i=(kindB root (nth m.deps i)&&(ruledB (nth m.deps i).name (nth m.deps i).range&&(decide (i=0) || depLt (nth m.deps (i-1)) (nth m.deps i)))):=rfl;generalize hgd:nth m.deps i=d at*;with_reducible refine aw_block ?_
      have hdep:=dep210_ok d root hd.1 hd.2;generalize hKR:(kindB root d&&ruledB d.name d.range)=kr at hdep;with_reducible refine aA ?_;refine aR fun K' hK=> ?_
      simp[s1,s2,s5,g0,hi2,hgd];refine acall_flat hdep rfl (by first | rfl | (simp;done) | (simp;rfl) | (simp;exact⟨rfl,rfl⟩)) ?_;simp;refine hK _ _ _ ?_;clear K' hK;cases kr with
      | true=>
       with_reducible refine aYk (by simp) ?_
       have c':kindB root d=true∧ruledB d.name d.range=true:=(by simpa using hKR);rw[c'.1,c'.2]at hdef;by_cases hz:i=0
       ·have hz':¬(0:Int)<(i:Int):=(by omega);have hz2:¬0<i:=(by omega);with_reducible refine aQ fun K' hK=> ?_
        refine aops_part 10 fun K2 hK2=> ?_;simp[s5,hz',hz2];refine hK2 _ _ _ ?_;clear K2 hK2;refine aops_part 10 fun K2 hK2=> ?_;simp[hz',hz2];refine hK2 _ _ _ ?_;clear K2 hK2;refine aops_part 10 fun K2 hK2=> ?_;simp[hz',hz2];refine hK2 _ _ _ ?_;clear K2 hK2;refine aops_part 10 fun K2 hK2=> ?_;simp[hz',hz2];refine hK2 _ _ _ ?_;clear K2 hK2;simp[hz',hz2];refine hK _ _ _ ?_;clear K' hK;with_reducible refine aVk (by simp) ?_;refine aw_skipL ?_
        refine blockK_normal ?_;with_reducible refine aS fun K' hK=> ?_
        simp[s5,hw];refine hK _ _ _ ?_;clear K' hK;refine aw_skipL (loopK_normal ?_ ?_)
        ·exact⟨by simp[s1],by simp[s2],by simp[g0],i+1,by simp[hw],by omega,hstep (by rw[hdef];simp[hz])⟩
        ·simp[s5,hw];omega
       ·obtain⟨p,hp⟩:∃p,i=p+1:=⟨i-1,by omega⟩;have hz':(0:Int)<(i:Int):=(by omega);have hz2:0<i:=(by omega);have hsub:IntKind.i64.wrap ((i:Int)-1)=(p:Int):=(by rw[wrap64 (by omega) (by omega)];omega);have hpl:p<m.deps.length:=(by omega);have hip:i-1=p:=(by omega);rw[hip]at hdef;have hlt:=depLt_iff (nth m.deps p) d;generalize hgp:nth m.deps p=e at*;by_cases k1:d.kind<e.kind
        ·skip;with_reducible refine aQ fun K' hK=> ?_
         refine aops_part 17 fun K2 hK2=> ?_;simp[s2,s5,g0,hz',hz2,hsub,hpl,hgp,hi2,hgd,k1];refine hK2 _ _ _ ?_;clear K2 hK2;refine aops_part 12 fun K2 hK2=> ?_;simp[hz',hz2,k1];refine hK2 _ _ _ ?_;clear K2 hK2;refine aops_part 12 fun K2 hK2=> ?_;simp[hz',hz2,k1];refine hK2 _ _ _ ?_;clear K2 hK2;simp[hz',hz2,k1];refine hK _ _ _ ?_;clear K' hK;with_reducible refine aU (by simp) ?_;refine aA ?_;refine aR fun K' hK=> ?_
         simp;refine hK _ _ _ ?_;clear K' hK;with_reducible refine aw_ret ?_
         simp[blockK,loopK,Post,resA,res1,expT,expA,exp1,expM,expL,okT,okA,ok1,rowOf,Tryz.f181,cutK];have:depLt e d=false:=by
          rw[Bool.eq_false_iff];exact fun h=>(hlt.1 h).1 k1
         rw[hfalse (by rw[hdef,this];simp[hz])]
        ·by_cases k2:e.kind=d.kind
         ·have k2':(e.kind=d.kind)=True:=eq_true k2;by_cases k3:ltB e.name d.name=true
          ·skip;with_reducible refine aQ fun K' hK=> ?_
           refine aops_part 17 fun K2 hK2=> ?_;simp[s2,s5,g0,hz',hz2,hsub,hpl,hgp,hi2,hgd,k1];refine hK2 _ _ _ ?_;clear K2 hK2;refine aops_part 15 fun K2 hK2=> ?_;simp[s2,s5,g0,hz',hz2,hsub,hpl,hgp,hi2,hgd,k1,k2'];refine hK2 _ _ _ ?_;clear K2 hK2;refine aops_part 15 fun K2 hK2=> ?_;simp[s2,s5,g0,hz',hz2,hsub,hpl,hgp,hi2,hgd,k1,k2',k3];refine hK2 _ _ _ ?_;clear K2 hK2;simp[hz',hz2,k1,k2',k3];refine hK _ _ _ ?_;clear K' hK;with_reducible refine aVk (by simp) ?_;refine aw_skipL ?_
           refine blockK_normal ?_;with_reducible refine aS fun K' hK=> ?_
           simp[s5,hw];refine hK _ _ _ ?_;clear K' hK;refine aw_skipL (loopK_normal ?_ ?_)
           ·exact⟨by simp[s1],by simp[s2],by simp[g0],i+1,by simp[hw],by omega,hstep (by rw[hdef,hlt.2 ⟨k1,.inr k3⟩];simp)⟩
           ·simp[s5,hw];omega
          ·have k3':ltB e.name d.name=false:=(by simpa using k3);with_reducible refine aQ fun K' hK=> ?_
           refine aops_part 17 fun K2 hK2=> ?_;simp[s2,s5,g0,hz',hz2,hsub,hpl,hgp,hi2,hgd,k1];refine hK2 _ _ _ ?_;clear K2 hK2;refine aops_part 15 fun K2 hK2=> ?_;simp[s2,s5,g0,hz',hz2,hsub,hpl,hgp,hi2,hgd,k1,k2'];refine hK2 _ _ _ ?_;clear K2 hK2;refine aops_part 15 fun K2 hK2=> ?_;simp[s2,s5,g0,hz',hz2,hsub,hpl,hgp,hi2,hgd,k1,k2',k3'];refine hK2 _ _ _ ?_;clear K2 hK2;simp[hz',hz2,k1,k2',k3'];refine hK _ _ _ ?_;clear K' hK;with_reducible refine aU (by simp) ?_;refine aA ?_;refine aR fun K' hK=> ?_
           simp;refine hK _ _ _ ?_;clear K' hK;with_reducible refine aw_ret ?_
           simp[blockK,loopK,Post,resA,res1,expT,expA,exp1,expM,expL,okT,okA,ok1,rowOf,Tryz.f181,cutK];have:depLt e d=false:=by
            rw[Bool.eq_false_iff];exact fun h=>(hlt.1 h).2.elim (fun h=>h k2) k3
           rw[hfalse (by rw[hdef,this];simp[hz])]
         ·skip;with_reducible refine aQ fun K' hK=> ?_
          refine aops_part 17 fun K2 hK2=> ?_;simp[s2,s5,g0,hz',hz2,hsub,hpl,hgp,hi2,hgd,k1];refine hK2 _ _ _ ?_;clear K2 hK2;refine aops_part 15 fun K2 hK2=> ?_;simp[s2,s5,g0,hz',hz2,hsub,hpl,hgp,hi2,hgd,k1,k2];refine hK2 _ _ _ ?_;clear K2 hK2;refine aops_part 15 fun K2 hK2=> ?_;simp[s2,s5,g0,hz',hz2,hsub,hpl,hgp,hi2,hgd,k1,k2];refine hK2 _ _ _ ?_;clear K2 hK2;simp[hz',hz2,k1,k2];refine hK _ _ _ ?_;clear K' hK;with_reducible refine aVk (by simp) ?_;refine aw_skipL ?_
          refine blockK_normal ?_;with_reducible refine aS fun K' hK=> ?_
          simp[s5,hw];refine hK _ _ _ ?_;clear K' hK;refine aw_skipL (loopK_normal ?_ ?_)
          ·exact⟨by simp[s1],by simp[s2],by simp[g0],i+1,by simp[hw],by omega,hstep (by rw[hdef,hlt.2 ⟨k1,.inl k2⟩];simp)⟩
          ·simp[s5,hw];omega
      | false=>
       with_reducible refine aX (by simp) ?_;refine aA ?_;refine aR fun K' hK=> ?_
       simp;refine hK _ _ _ ?_;clear K' hK;with_reducible refine aw_ret ?_
       simp[blockK,loopK,Post,resA,res1,expT,expA,exp1,expM,expL,okT,okA,ok1,rowOf,Tryz.f181,cutK];rw[hfalse (by rw[hdef,←Bool.and_assoc,hKR];rfl)]
     ·skip;with_reducible refine aw_exit ?_
      refine loopK_exit (blockK_exit ?_);have hie:i=m.deps.length:=(by omega);subst hie;with_reducible refine aw_endR ?_
      exact⟨by simp[s1],by simp[s2],by simp[g0],ht⟩
   ·clear s1 s2 g0 s35 s G nx;rintro s G nx ⟨s1,s2,g0,hall⟩;have hmr:manRight m root=(List.range m.rules.length).all (ruAt m.rules):=(by rw[manRight,hh,hall];rfl);with_reducible refine aA ?_;refine aR fun K' hK=> ?_
    simp;refine hK _ _ _ ?_;clear K' hK;with_reducible refine aw_block ?_
    refine aw_loop (fun s G nx=>s 2=.ptr 0 0∧G 0=some (.var 27 m.cells)∧∃i:Nat,s 6=iV i∧i≤m.rules.length∧(List.range i).all (ruAt m.rules)=true) (fun s _ _=>match s 6 with | .v (.int _ n)=>m.rules.length-n.toNat | _=>0) ?_ ?_
    ·exact⟨by simp[s2],by simp[g0],0,by simp,by omega,by simp⟩
    ·clear s1 s2 g0 s G nx;rintro s G nx hf ⟨s2,g0,i,s6,hi,ht⟩;have hw:IntKind.i64.wrap (↑i+1)=((i+1:Nat):Int):=wrapS (by omega);with_reducible refine aA ?_;refine aR fun K' hK=> ?_
     simp[s2,s6,g0];refine hK _ _ _ ?_;clear K' hK;with_reducible refine aC fun A B hA hB=> ?_
     simp;refine⟨fun hi2=>hA ?_,fun hi2=>hB ?_⟩<;>clear hA hB A B<;>(try simp at hi2)<;>(try with_reducible refine aK ?_)
     ·have hd:=hrr _ (nth_mem hi2);have hfalse:ruAt m.rules i=false→manRight m root=false:=fun h=>(by rw[hmr,rng_all hi2 h]);have hstep:=rng_step (p:=ruAt m.rules) ht;have hdef:ruAt m.rules i=(ruledB (nth m.rules i).name (nth m.rules i).range&&(decide (i=0) || ltB (nth m.rules (i-1)).name (nth m.rules i).name)):=rfl;generalize hgd:nth m.rules i=d at*;have hrd:ruledB d.name d.range=(rgOk d.range&&goodF (bsL d.name)):=rfl;with_reducible refine aw_block ?_;refine aQ fun K' hK=> ?_
      refine aops_part 7 fun K2 hK2=> ?_;simp[s2,s6,g0,hi2,hgd];refine acall_flat (good36_ok d.name (by omega)) rfl (by first | rfl | (simp;done) | (simp;rfl) | (simp;exact⟨rfl,rfl⟩)) ?_;simp;refine hK2 _ _ _ ?_;clear K2 hK2;by_cases c1:goodF (bsL d.name)=true
      ·refine aops_part 9 fun K2 hK2=> ?_;simp[s2,s6,g0,hi2,hgd,c1];refine acall_flat (right100_ok d.range hd.2) rfl (by simp[Rg.cells]) ?_;simp;refine hK2 _ _ _ ?_;clear K2 hK2;by_cases c2:rgOk d.range=true
       ·have hrt:ruledB d.name d.range=true:=(by rw[hrd,c1,c2];rfl);rw[hrt]at hdef;by_cases hz:i=0
        ·have hz':¬(0:Int)<(i:Int):=(by omega);have hz2:¬0<i:=(by omega);refine aops_part 10 fun K2 hK2=> ?_;simp[c1,c2,s6,hz',hz2];refine hK2 _ _ _ ?_;clear K2 hK2;simp[c1,c2,hz',hz2];refine hK _ _ _ ?_;clear K' hK;with_reducible refine aVk (by simp) ?_;refine aw_skipL ?_
         refine blockK_normal ?_;with_reducible refine aS fun K' hK=> ?_
         simp[s6,hw];refine hK _ _ _ ?_;clear K' hK;refine aw_skipL (loopK_normal ?_ ?_)
         ·exact⟨by simp[s2],by simp[g0],i+1,by simp[hw],by omega,hstep (by rw[hdef];simp[hz])⟩
         ·simp[s6,hw];omega
        ·obtain⟨p,hp⟩:∃p,i=p+1:=⟨i-1,by omega⟩;have hz':(0:Int)<(i:Int):=(by omega);have hz2:0<i:=(by omega);have hsub:IntKind.i64.wrap ((i:Int)-1)=(p:Int):=(by rw[wrap64 (by omega) (by omega)];omega);have hpl:p<m.rules.length:=(by omega);have hip:i-1=p:=(by omega);rw[hip]at hdef;generalize hgp:nth m.rules p=e at*;by_cases k3:ltB e.name d.name=true
         ·refine aops_part 8 fun K2 hK2=> ?_;simp[c1,c2,s2,s6,g0,hz',hz2,hsub,hpl,hgp,hi2,hgd];refine hK2 _ _ _ ?_;clear K2 hK2;refine aops_part 8 fun K2 hK2=> ?_;simp[c1,c2,s2,s6,g0,hz',hz2,hsub,hpl,hgp,hi2,hgd];refine hK2 _ _ _ ?_;clear K2 hK2;simp[c1,c2,hz',hz2,k3,hi2,hgd,s2,s6,g0];refine hK _ _ _ ?_;clear K' hK;with_reducible refine aVk (by simp) ?_;refine aw_skipL ?_
          refine blockK_normal ?_;with_reducible refine aS fun K' hK=> ?_
          simp[s6,hw];refine hK _ _ _ ?_;clear K' hK;refine aw_skipL (loopK_normal ?_ ?_)
          ·exact⟨by simp[s2],by simp[g0],i+1,by simp[hw],by omega,hstep (by rw[hdef,k3];simp)⟩
          ·simp[s6,hw];omega
         ·have k3':ltB e.name d.name=false:=(by simpa using k3);refine aops_part 8 fun K2 hK2=> ?_;simp[c1,c2,s2,s6,g0,hz',hz2,hsub,hpl,hgp,hi2,hgd];refine hK2 _ _ _ ?_;clear K2 hK2;refine aops_part 8 fun K2 hK2=> ?_;simp[c1,c2,s2,s6,g0,hz',hz2,hsub,hpl,hgp,hi2,hgd];refine hK2 _ _ _ ?_;clear K2 hK2;simp[c1,c2,hz',hz2,k3',hi2,hgd,s2,s6,g0];refine hK _ _ _ ?_;clear K' hK;with_reducible refine aU (by simp) ?_;refine aA ?_;refine aR fun K' hK=> ?_
          simp;refine hK _ _ _ ?_;clear K' hK;with_reducible refine aw_ret ?_
          simp[blockK,loopK,Post,resA,res1,expT,expA,exp1,expM,expL,okT,okA,ok1,rowOf,Tryz.f181];rw[hfalse (by rw[hdef,k3'];simp[hz])]
       ·refine aops_part 10 fun K2 hK2=> ?_;simp[c1,c2];refine hK2 _ _ _ ?_;clear K2 hK2;simp[c1,c2];refine hK _ _ _ ?_;clear K' hK;with_reducible refine aU (by simp) ?_;refine aA ?_;refine aR fun K' hK=> ?_
        simp;refine hK _ _ _ ?_;clear K' hK;with_reducible refine aw_ret ?_
        simp[blockK,loopK,Post,resA,res1,expT,expA,exp1,expM,expL,okT,okA,ok1,rowOf,Tryz.f181];rw[hfalse (by rw[hdef,hrd];simp[c2])]
      ·refine aops_part 10 fun K2 hK2=> ?_;simp[c1];refine hK2 _ _ _ ?_;clear K2 hK2;refine aops_part 10 fun K2 hK2=> ?_;simp[c1];refine hK2 _ _ _ ?_;clear K2 hK2;simp[c1];refine hK _ _ _ ?_;clear K' hK;with_reducible refine aU (by simp) ?_;refine aA ?_;refine aR fun K' hK=> ?_
       simp;refine hK _ _ _ ?_;clear K' hK;with_reducible refine aw_ret ?_
       simp[blockK,loopK,Post,resA,res1,expT,expA,exp1,expM,expL,okT,okA,ok1,rowOf,Tryz.f181];rw[hfalse (by rw[hdef,hrd];simp[c1])]
     ·skip;with_reducible refine aw_exit ?_
      refine loopK_exit (blockK_exit ?_);have hie:i=m.rules.length:=(by omega);subst hie;with_reducible refine aR fun K' hK=> ?_
      simp;refine hK _ _ _ ?_;clear K' hK;with_reducible refine aw_retL ?_
      simp[blockK,loopK,Post,resA,res1,expT,expA,exp1,expM,expL,okT,okA,ok1,rowOf,Tryz.f181];rw[hmr,ht]
  ·have hh':manHead m root=false:=(by simpa using hh);rw[hh']at s35;with_reducible refine aX (by simp[s35]) ?_;refine aA ?_;refine aR fun K' hK=> ?_
   simp;refine hK _ _ _ ?_;clear K' hK;with_reducible refine aw_ret ?_
   simp[blockK,loopK,Post,resA,res1,expT,expA,exp1,expM,expL,okT,okA,ok1,rowOf,Tryz.f181];simp[manRight,hh']
set_option maxRecDepth 100000
set_option maxHeartbeats 4000000
theorem check143_ok (m:Man) (hm:Man.sz m) (root:Bool):CallsOK Tryz.prog 143 [.agg m.cells,bV root] (iV (manCheck m root)) []:=by
 refine callsOK mixed Tryz.call143 Tryz.func143 rfl (by rw[Tryz.ntmps143];simp) ?_ rfl;rw[Tryz.ntmps143];with_reducible refine aR fun K' hK=> ?_
 simp;refine hK _ _ _ ?_;clear K' hK;by_cases c1:30<m.deps.length
 ·have c1':(30:Int)<m.deps.length:=(by omega);with_reducible refine aA ?_;refine aR fun K' hK=> ?_
  simp[c1,c1'];refine hK _ _ _ ?_;clear K' hK;with_reducible refine aX (by simp) ?_;refine aA ?_;refine aR fun K' hK=> ?_
  simp;refine hK _ _ _ ?_;clear K' hK;with_reducible refine aw_ret ?_
  simp[blockK,loopK,Post,resA,res1,expT,expA,exp1,expM,expL,okT,okA,ok1,rowOf,Tryz.f143];simp[manCheck,c1]
 ·have c1':¬(30:Int)<m.deps.length:=(by omega);by_cases c2:30<m.rules.length
  ·have c2':(30:Int)<m.rules.length:=(by omega);with_reducible refine aA ?_;refine aR fun K' hK=> ?_
   simp[c1,c1',c2,c2'];refine hK _ _ _ ?_;clear K' hK;with_reducible refine aX (by simp) ?_;refine aA ?_;refine aR fun K' hK=> ?_
   simp;refine hK _ _ _ ?_;clear K' hK;with_reducible refine aw_ret ?_
   simp[blockK,loopK,Post,resA,res1,expT,expA,exp1,expM,expL,okT,okA,ok1,rowOf,Tryz.f143];simp[manCheck,c2]
  ·have c2':¬(30:Int)<m.rules.length:=(by omega);with_reducible refine aA ?_;refine aR fun K' hK=> ?_
   simp[c1,c1',c2,c2'];refine hK _ _ _ ?_;clear K' hK;with_reducible refine aYk (by simp) ?_;refine aA ?_;refine aR fun K' hK=> ?_
   simp;refine acall_flat (right181_ok m hm root) rfl (by first | rfl | (simp;done) | (simp;rfl) | (simp;exact⟨rfl,rfl⟩)) ?_;simp;refine hK _ _ _ ?_;clear K' hK;by_cases c3:manRight m root=true
   ·skip;with_reducible refine aYk (by simp[c3]) ?_;refine aR fun K' hK=> ?_
    simp;refine hK _ _ _ ?_;clear K' hK;with_reducible refine aw_retL ?_
    simp[blockK,loopK,Post,resA,res1,expT,expA,exp1,expM,expL,okT,okA,ok1,rowOf,Tryz.f143];simp[manCheck,c1,c2,c3]
   ·skip;with_reducible refine aX (by simp[c3]) ?_;refine aA ?_;refine aR fun K' hK=> ?_
    simp;refine hK _ _ _ ?_;clear K' hK;with_reducible refine aw_ret ?_
    simp[blockK,loopK,Post,resA,res1,expT,expA,exp1,expM,expL,okT,okA,ok1,rowOf,Tryz.f143];simp[manCheck,c1,c2,c3]
theorem check144_ok (L:List Man) (hL:Idx.sz L):CallsOK Tryz.prog 144 [rowT Man.cells L] (iV (idxCheck L)) []:=by
 refine callsOK mixed Tryz.call144 Tryz.func144 rfl (by rw[Tryz.ntmps144];simp) ?_ rfl;rw[Tryz.ntmps144];have hl:=hL.1;with_reducible refine aR fun K' hK=> ?_
 simp;refine hK _ _ _ ?_;clear K' hK;with_reducible refine aA ?_;refine aR fun K' hK=> ?_
 simp;refine hK _ _ _ ?_;clear K' hK;with_reducible refine aC fun A B hA hB=> ?_
 simp;refine⟨fun hn=>hA ?_,fun hn=>hB ?_⟩<;>clear hA hB A B<;>(try simp at hn)<;>(try with_reducible refine aK ?_)
 ·with_reducible refine aA ?_;refine aR fun K' hK=> ?_
  simp;refine hK _ _ _ ?_;clear K' hK;with_reducible refine aw_ret ?_
  simp[blockK,loopK,Post,resA,res1,expT,expA,exp1,expM,expL,okT,okA,ok1,rowOf,Tryz.f144];have hn:100<L.length:=(by omega);rw[idxCheck,if_pos hn]
 ·have hn:¬100<L.length:=(by omega);with_reducible refine aA ?_;refine aR fun K' hK=> ?_
  simp;refine hK _ _ _ ?_;clear K' hK;with_reducible refine aw_block ?_
  refine aw_loop (fun s G nx=>s 0=rowT Man.cells L∧∃i:Nat,s 3=iV i∧i≤L.length∧(List.range i).all (idxAt L)=true) (fun s _ _=>match s 3 with | .v (.int _ n)=>L.length-n.toNat | _=>0) ?_ ?_
  ·exact⟨by simp,0,by simp,by omega,by simp⟩
  ·rintro s G nx hf ⟨s0,i,s3,hi,ht⟩;have hw:IntKind.i64.wrap (↑i+1)=((i+1:Nat):Int):=wrapS (by omega);with_reducible refine aA ?_;refine aR fun K' hK=> ?_
   simp[s0,s3];refine hK _ _ _ ?_;clear K' hK;with_reducible refine aC fun A B hA hB=> ?_
   simp;refine⟨fun hi2=>hA ?_,fun hi2=>hB ?_⟩<;>clear hA hB A B<;>(try simp at hi2)<;>(try with_reducible refine aK ?_)
   ·have hdd:=hL.2 _ (nth_mem hi2);have hfalse:idxAt L i=false→idxCheck L=1:=fun h=>(by rw[idxCheck,if_neg hn,rng_all hi2 h];rfl);have hstep:=rng_step (p:=idxAt L) ht;have hdef:idxAt L i=(decide (manCheck (nth L i) false=0)&&(decide (i=0) || decide (manOrd (nth L (i-1)) (nth L i)<0))):=rfl;generalize hgd:nth L i=d at*;with_reducible refine aw_block ?_;refine aQ fun K' hK=> ?_
    refine aops_part 5 fun K2 hK2=> ?_;simp[s0,s3,hi2,hgd];refine acall_flat (check143_ok d hdd false) rfl (by first | rfl | (simp;done) | (simp;rfl) | (simp;exact⟨rfl,rfl⟩)) ?_;simp;refine hK2 _ _ _ ?_;clear K2 hK2;by_cases hc:manCheck d false=0
    ·by_cases hz:i=0
     ·have hz':¬(0:Int)<(i:Int):=(by omega);have hz2:¬0<i:=(by omega);refine aops_part 8 fun K2 hK2=> ?_;simp[hc,s3,hz',hz2];refine hK2 _ _ _ ?_;clear K2 hK2;simp[hc,hz',hz2];refine hK _ _ _ ?_;clear K' hK;with_reducible refine aVk (by simp) ?_;refine aw_skipL ?_
      refine blockK_normal ?_;with_reducible refine aS fun K' hK=> ?_
      simp[s3,hw];refine hK _ _ _ ?_;clear K' hK;refine aw_skipL (loopK_normal ?_ ?_)
      ·exact⟨by simp[s0],i+1,by simp[hw],by omega,hstep (by rw[hdef,hc];simp[hz])⟩
      ·simp[s3,hw];omega
     ·obtain⟨p,hp⟩:∃p,i=p+1:=⟨i-1,by omega⟩;have hz':(0:Int)<(i:Int):=(by omega);have hz2:0<i:=(by omega);have hsub:IntKind.i64.wrap ((i:Int)-1)=(p:Int):=(by rw[wrap64 (by omega) (by omega)];omega);have hpl:p<L.length:=(by omega);have hip:i-1=p:=(by omega);rw[hip]at hdef;have hpp:=hL.2 _ (nth_mem hpl);refine aops_part 10 fun K2 hK2=> ?_;simp[hc,hz',hz2,s0,s3,hsub,hpl];refine hK2 _ _ _ ?_;clear K2 hK2;simp[hc,hz',hz2,s0,s3,hi2,hgd];refine acall_flat (ahead182_ok (nth L p) d hpp.2.1 hdd.2.1) rfl (by first | rfl | (simp;done) | (simp;rfl) | (simp;exact⟨rfl,rfl⟩)) ?_;by_cases hlt:manOrd (nth L p) d<0
      ·simp[hc,hz',hz2,hlt];refine hK _ _ _ ?_;clear K' hK;with_reducible refine aVk (by simp) ?_;refine aw_skipL ?_
       refine blockK_normal ?_;with_reducible refine aS fun K' hK=> ?_
       simp[s3,hw];refine hK _ _ _ ?_;clear K' hK;refine aw_skipL (loopK_normal ?_ ?_)
       ·exact⟨by simp[s0],i+1,by simp[hw],by omega,hstep (by rw[hdef,hc];simp[hlt])⟩
       ·simp[s3,hw];omega
      ·simp[hc,hz',hz2,hlt];refine hK _ _ _ ?_;clear K' hK;with_reducible refine aU (by simp) ?_;refine aA ?_;refine aR fun K' hK=> ?_
       simp;refine hK _ _ _ ?_;clear K' hK;with_reducible refine aw_ret ?_
       simp[blockK,loopK,Post,resA,res1,expT,expA,exp1,expM,expL,okT,okA,ok1,rowOf,Tryz.f144];exact(hfalse (by rw[hdef,hc];simp[hlt,hz])).symm
    ·refine aops_part 8 fun K2 hK2=> ?_;simp[hc];refine hK2 _ _ _ ?_;clear K2 hK2;simp[hc];refine hK _ _ _ ?_;clear K' hK;with_reducible refine aU (by simp) ?_;refine aA ?_;refine aR fun K' hK=> ?_
     simp;refine hK _ _ _ ?_;clear K' hK;with_reducible refine aw_ret ?_
     simp[blockK,loopK,Post,resA,res1,expT,expA,exp1,expM,expL,okT,okA,ok1,rowOf,Tryz.f144];exact(hfalse (by rw[hdef];simp[hc])).symm
   ·skip;with_reducible refine aw_exit ?_
    refine loopK_exit (blockK_exit ?_);have hi8:i=L.length:=(by omega);subst hi8;with_reducible refine aR fun K' hK=> ?_
    simp;refine hK _ _ _ ?_;clear K' hK;with_reducible refine aw_retL ?_
    simp[blockK,loopK,Post,resA,res1,expT,expA,exp1,expM,expL,okT,okA,ok1,rowOf,Tryz.f144];rw[idxCheck,if_neg hn,if_pos ht]
theorem check91_ok (root:Man) (L:List Man) (t:List Pl) (hr:Man.sz root) (hL:Idx.sz L) (ht:OKs t):CallsOK Tryz.prog 91 [.agg root.cells,rowT Man.cells L,rowT Pl.cells t] (iV (codeV root L t)) []:=by
 refine callsOK mixed Tryz.call91 Tryz.func91 rfl (by rw[Tryz.ntmps91];simp) ?_ rfl;rw[Tryz.ntmps91];with_reducible refine aR fun K' hK=> ?_
 simp;refine hK _ _ _ ?_;clear K' hK;with_reducible refine aR fun K' hK=> ?_
 simp;refine acall_flat (check143_ok root hr true) rfl (by first | rfl | (simp;done) | (simp;rfl) | (simp;exact⟨rfl,rfl⟩)) ?_;simp;refine hK _ _ _ ?_;clear K' hK;by_cases c1:manCheck root true=0
 ·with_reducible refine aA ?_;refine aR fun K' hK=> ?_
  simp[c1];refine hK _ _ _ ?_;clear K' hK;with_reducible refine aYk (by simp) ?_;refine aR fun K' hK=> ?_
  simp;refine acall_flat (check144_ok L hL) rfl (by first | rfl | (simp;done) | (simp;rfl) | (simp;exact⟨rfl,rfl⟩)) ?_;simp;refine hK _ _ _ ?_;clear K' hK;by_cases c2:idxCheck L=0
  ·with_reducible refine aA ?_;refine aR fun K' hK=> ?_
   simp[c2];refine hK _ _ _ ?_;clear K' hK;with_reducible refine aYk (by simp) ?_;refine aR fun K' hK=> ?_
   simp;refine acall_flat (check25_ok t ht) rfl (by first | rfl | (simp;done) | (simp;rfl) | (simp;exact⟨rfl,rfl⟩)) ?_;simp;refine hK _ _ _ ?_;clear K' hK;with_reducible refine aw_retL ?_
   simp[blockK,loopK,Post,resA,res1,expT,expA,exp1,expM,expL,okT,okA,ok1,rowOf,Tryz.f91];simp only[codeV,valCodes,orN,c1,c2,if_true];split
   ·assumption
   ·rfl
  ·with_reducible refine aA ?_;refine aR fun K' hK=> ?_
   simp[c2];refine hK _ _ _ ?_;clear K' hK;with_reducible refine aX (by simp[c2]) ?_;refine aA ?_;refine aR fun K' hK=> ?_
   simp;refine hK _ _ _ ?_;clear K' hK;with_reducible refine aw_ret ?_
   simp[blockK,loopK,Post,resA,res1,expT,expA,exp1,expM,expL,okT,okA,ok1,rowOf,Tryz.f91];simp[codeV,valCodes,orN,c1,c2]
 ·with_reducible refine aA ?_;refine aR fun K' hK=> ?_
  simp[c1];refine hK _ _ _ ?_;clear K' hK;with_reducible refine aX (by simp[c1]) ?_;refine aA ?_;refine aR fun K' hK=> ?_
  simp;refine hK _ _ _ ?_;clear K' hK;with_reducible refine aw_ret ?_
  simp[blockK,loopK,Post,resA,res1,expT,expA,exp1,expM,expL,okT,okA,ok1,rowOf,Tryz.f91];simp[codeV,valCodes,orN,c1]
theorem needs141_ok (d:Dep):CallsOK Tryz.prog 141 [.agg d.cells] (bV (!decide (d.kind=3))) []:=by
 refine callsOK mixed Tryz.call141 Tryz.func141 rfl (by rw[Tryz.ntmps141];simp) ?_ rfl;rw[Tryz.ntmps141];with_reducible refine aR fun K' hK=> ?_
 simp;refine hK _ _ _ ?_;clear K' hK;with_reducible refine aR fun K' hK=> ?_
 simp;refine hK _ _ _ ?_;clear K' hK;with_reducible refine aw_retL ?_
 simp[blockK,loopK,Post,resA,res1,expT,expA,exp1,expM,expL,okT,okA,ok1,rowOf,Tryz.f141]
theorem lead83_ok (t:List Pl) (g:Good t) (ht:OKs t) (n:Nat) (hn:n<t.length) (d:Dep):CallsOK Tryz.prog 83 [rowT Pl.cells t,iV n,.agg d.cells] (iV (toN t n d)) []:=by
 refine callsOK mixed Tryz.call83 Tryz.func83 rfl (by rw[Tryz.ntmps83];simp) ?_ rfl;rw[Tryz.ntmps83];have hB:¬((n:Int)<0∨(t.length:Int)≤n):=(by omega);have hv:toN t n d=resolveN t (if d.kind=4∧(0:Int)<n then(nth t (n:Int).toNat).par else n) d.name:=(by rw[toN,if_neg hB]);rw[Int.toNat_natCast]at hv;rw[hv];with_reducible refine aR fun K' hK=> ?_
 simp;refine hK _ _ _ ?_;clear K' hK;with_reducible refine aR fun K' hK=> ?_
 simp;refine hK _ _ _ ?_;clear K' hK;by_cases c:d.kind=4
 ·by_cases c2:0<n
  ·have c2':(0:Int)<n:=(by omega);obtain⟨p0,p1⟩:=g.par n (by omega) hn;have hp:(nth t n).par=((parN t n).toNat:Nat):=(by show parN t n=_;omega);have hR:=resolved49_ok t g ht (parN t n).toNat (by omega) d.name;rw[if_pos ⟨c,c2'⟩,hp];with_reducible refine aA ?_;refine aR fun K' hK=> ?_
   simp[c,c2,c2'];refine hK _ _ _ ?_;clear K' hK;with_reducible refine aX (by simp) ?_;refine aR fun K' hK=> ?_
   simp[hn,hp];refine hK _ _ _ ?_;clear K' hK;with_reducible refine aR fun K' hK=> ?_
   simp;refine acall_flat hR rfl (by first | rfl | (simp;done) | (simp;rfl) | (simp;exact⟨rfl,rfl⟩)) ?_;simp;refine hK _ _ _ ?_;clear K' hK;with_reducible refine aw_retL ?_
   simp[blockK,loopK,Post,resA,res1,expT,expA,exp1,expM,expL,okT,okA,ok1,rowOf,Tryz.f83]
  ·have c2':¬(0:Int)<n:=(by omega);rw[if_neg (fun h=>c2' h.2)];with_reducible refine aA ?_;refine aR fun K' hK=> ?_
   simp[c,c2,c2'];refine hK _ _ _ ?_;clear K' hK;with_reducible refine aYk (by simp) ?_;refine aR fun K' hK=> ?_
   simp;refine acall_flat (resolved49_ok t g ht n hn d.name) rfl (by first | rfl | (simp;done) | (simp;rfl) | (simp;exact⟨rfl,rfl⟩)) ?_;simp;refine hK _ _ _ ?_;clear K' hK;with_reducible refine aw_retL ?_
   simp[blockK,loopK,Post,resA,res1,expT,expA,exp1,expM,expL,okT,okA,ok1,rowOf,Tryz.f83]
 ·rw[if_neg (fun h=>c h.1)];with_reducible refine aA ?_;refine aR fun K' hK=> ?_
  simp[c];refine hK _ _ _ ?_;clear K' hK;with_reducible refine aYk (by simp[c]) ?_;refine aR fun K' hK=> ?_
  simp;refine acall_flat (resolved49_ok t g ht n hn d.name) rfl (by first | rfl | (simp;done) | (simp;rfl) | (simp;exact⟨rfl,rfl⟩)) ?_;simp;refine hK _ _ _ ?_;clear K' hK;with_reducible refine aw_retL ?_
  simp[blockK,loopK,Post,resA,res1,expT,expA,exp1,expM,expL,okT,okA,ok1,rowOf,Tryz.f83]
theorem good85_ok (t:List Pl) (g:Good t) (ht:OKs t) (hv:∀p∈t,p.ver.pre.size≤1000000) (n:Nat) (hn:n<t.length) (d:Dep) (hd:Rg.sz d.range):CallsOK Tryz.prog 85 [rowT Pl.cells t,iV n,.agg d.cells] (bV (holdsV t n d)) []:=by
 refine callsOK mixed Tryz.call85 Tryz.func85 rfl (by rw[Tryz.ntmps85];simp) ?_ rfl;rw[Tryz.ntmps85];have hdef:holdsV t n d=if toN t n d<0 then decide (d.kind=3)else rgHolds (nth t (toN t n d).toNat).ver d.range:=(by rw[holdsV,if_pos (holds_iff.2 ⟨g,by omega,by omega⟩)]);have hlt:=toN_lt t n d;with_reducible refine aR fun K' hK=> ?_
 simp;refine hK _ _ _ ?_;clear K' hK;with_reducible refine aR fun K' hK=> ?_
 simp;refine acall_flat (lead83_ok t g ht n hn d) rfl (by first | rfl | (simp;done) | (simp;rfl) | (simp;exact⟨rfl,rfl⟩)) ?_;simp;refine hK _ _ _ ?_;clear K' hK;rw[hdef];generalize toN t n d=k at*;by_cases hk:k<0
 ·with_reducible refine aA ?_;refine aR fun K' hK=> ?_
  simp[hk];refine hK _ _ _ ?_;clear K' hK;with_reducible refine aX (by simp) ?_;refine aA ?_;refine aR fun K' hK=> ?_
  simp;refine acall_flat (needs141_ok d) rfl (by first | rfl | (simp;done) | (simp;rfl) | (simp;exact⟨rfl,rfl⟩)) ?_;simp;refine hK _ _ _ ?_;clear K' hK;with_reducible refine aw_ret ?_
  simp[blockK,loopK,Post,resA,res1,expT,expA,exp1,expM,expL,okT,okA,ok1,rowOf,Tryz.f85];exact fun h=>by omega
 ·have hk0:0≤k:=(by omega);have hin:k.toNat<t.length:=(by omega);with_reducible refine aA ?_;refine aR fun K' hK=> ?_
  simp[hk];refine hK _ _ _ ?_;clear K' hK;with_reducible refine aYk (by simp) ?_
  generalize hj:k.toNat=j at*;with_reducible refine aQ fun K' hK=> ?_
  simp[hk0,hlt,hin,hj];refine acall_flat (holds44_ok d.range (nth t j).ver hd (hv _ (nth_mem hin))) rfl (by simp[Rg.cells]) ?_;simp;refine hK _ _ _ ?_;clear K' hK;with_reducible refine aw_retL ?_
  simp[blockK,loopK,Post,resA,res1,expT,expA,exp1,expM,expL,okT,okA,ok1,rowOf,Tryz.f85];exact fun h=>by omega
set_option maxRecDepth 100000
set_option maxHeartbeats 4000000
theorem of183_z (rules:List Ru) (b:Bool) (hrl:Ru.okL rules):CallsOK Tryz.prog 183 [.agg manN,rowT Ru.cells rules,bV b] (.row 0 0) [(35,[])]:=by
 have h:=of183_ok man0 rules b ⟨by simp[man0],by simp[man0]⟩ (by simp[man0]) hrl;have e:ofF man0.deps rules b=[]:=ofF_nil rules b;rw[e]at h;exact h.weak (.cons (.agg (.cons (.refl _) (.cons (.refl _) (.cons (.refl _) (.cons (.refl _) (.cons (.refl _) (.cons .nilRow (.cons .nilRow .nil)))))))) (.cons (.refl _) (.cons (.refl _) .nil)))
theorem manVal_nat {root:Man} {L:List Man} {t:List Pl} {n:Nat} (g:Good t) (hn:n<t.length):manVal root L t n=if n=0 then some root else findM L (nth t n).name (nth t n).ver:=by
 unfold manVal;rw[if_pos (holds_iff.2 ⟨g,by omega,by omega⟩),Int.toNat_natCast];by_cases h:n=0
 ·rw[if_pos h,if_pos (by omega)]
 ·rw[if_neg h,if_neg (by omega)]
theorem edges145_ok (root:Man) (hr:Man.sz root) (hro:Man.okS root) (L:List Man) (hL:Idx.sz L) (hLo:∀m∈L,Man.okS m) (t:List Pl) (g:Good t) (n:Nat) (hn:n<t.length):
  CallsOK Tryz.prog 145 [.agg root.cells,rowT Man.cells L,rowT Pl.cells t,iV n] (.tup [.row 0 (edgesV root L t n).length,bV (manVal root L t n).isSome]) [(35,flat Dep.cells (edgesV root L t n))]:=by
 refine callsOK mixed Tryz.call145 Tryz.func145 rfl (by rw[Tryz.ntmps145];simp) ?_ rfl;rw[Tryz.ntmps145];have hmv:=manVal_nat (root:=root) (L:=L) g hn;unfold edgesV;with_reducible refine aR fun K' hK=> ?_
 simp;refine hK _ _ _ ?_;clear K' hK;by_cases hz:n=0
 ·rw[if_pos hz]at hmv;rw[hmv];subst hz;with_reducible refine aA ?_;refine aR fun K' hK=> ?_
  simp;refine hK _ _ _ ?_;clear K' hK;with_reducible refine aX (by simp) ?_;refine aA ?_;refine aR fun K' hK=> ?_
  simp;refine acall_new (of183_ok root root.rules true hro.1 hr.2.2.1.1 hro.2) (by first | rfl | (simp;done) | (simp;rfl) | (simp;exact⟨rfl,rfl⟩)) ?_;simp[addJ_one];refine hK _ _ _ ?_;clear K' hK;with_reducible refine aw_ret ?_
  simp[blockK,loopK,Post,resA,res1,expT,expA,exp1,expM,expL,okT,okA,ok1,rowOf,Tryz.f145]
 ·rw[if_neg hz]at hmv;rw[hmv];have hz2:¬(n:Int)=0:=(by omega);have hdec:decide ((n:Int)=0)=false:=(by simpa using hz);rw[hdec];with_reducible refine aA ?_;refine aR fun K' hK=> ?_
  simp[hz,hz2];refine hK _ _ _ ?_;clear K' hK;with_reducible refine aYk (by simp) ?_
  have hF:=find78_ok L hL.1 hLo (nth t n).name (nth t n).ver;have hmm:∀m,findM L (nth t n).name (nth t n).ver=some m→Man.sz m∧Man.okS m:=fun m h=>by
   have:=List.mem_of_find?_eq_some h;exact⟨hL.2 _ this,hLo _ this⟩
  generalize findM L (nth t n).name (nth t n).ver=r at*;cases r with
  | none=>
   refine aw_regionL none [] (by decide+kernel) (by decide+kernel) (fun p' hp'=>by cases hp') fun K' hK=> ?_;simp[hn];refine acall_new hF (by first | rfl | (simp;done) | (simp;rfl) | (simp;exact⟨rfl,rfl⟩)) ?_;simp[manR,addJ_nil];refine hK _ _ _ ?_;clear K' hK;with_reducible refine aR fun K' hK=> ?_
   simp;refine acall_new (of183_z root.rules false hro.2) (by first | rfl | (simp;done) | (simp;rfl) | (simp;exact⟨rfl,rfl⟩)) ?_;simp[addJ_one];refine hK _ _ _ ?_;clear K' hK;with_reducible refine aw_retL ?_
   simp[blockK,loopK,Post,resA,res1,expT,expA,exp1,expM,expL,okT,okA,ok1,rowOf,Tryz.f145]
  | some m=>
   obtain⟨mz,mo⟩:=hmm m rfl;refine aw_regionL none [] (by decide+kernel) (by decide+kernel) (fun p' hp'=>by cases hp') fun K' hK=> ?_;simp[hn];refine acall_new hF (by first | rfl | (simp;done) | (simp;rfl) | (simp;exact⟨rfl,rfl⟩)) ?_;simp[manR,addJ_two];refine hK _ _ _ ?_;clear K' hK;refine aw_gen (fun u H nz=>u 4=.ptr 0 0∧u 10=.ptr 4 0∧u 11=bV true∧nz=5∧H 0=some (.var 27 root.cells)∧H 2=some (.row 35 (flat Dep.cells m.deps))∧H 3=some (.row 96 (flat Ru.cells m.rules))∧H 4=some (.var 27 (m.cellsR (.row 2 m.deps.length) (.row 3 m.rules.length)))) ?_ ?_
   ·exact⟨by simp,by simp,by simp,by simp,by simp,by simp,by simp,by simp⟩
   rintro u H nz ⟨u4,u10,u11,rfl,h0,k1,k2,k3⟩;have hT:=manR_trees (show¬3=2 by omega) k1 k2;with_reducible refine aR fun K' hK=> ?_
   simp[u4,u10,h0,k3];refine acall_new (of183_ok m root.rules false mo.1 mz.2.2.1.1 hro.2) (by simp[hT]) ?_;simp[addJ_one,hT,u11];refine hK _ _ _ ?_;clear K' hK;with_reducible refine aw_retL ?_
   simp[blockK,loopK,Post,resA,res1,expT,expA,exp1,expM,expL,okT,okA,ok1,rowOf,Tryz.f145]
theorem fine_edges {root:Man} {L:List Man} {t:List Pl} {n:Nat} :fineV root L t n=((manVal root L t n).isSome&&(edgesV root L t n).all (holdsV t n)):=by
 unfold fineV edgesV;cases manVal root L t n with
 | none=>rfl
 | some m=>rfl
theorem edgesV_sz {root:Man} {L:List Man} {t:List Pl} {n:Nat} (hr:Man.sz root) (hL:Idx.sz L):(edgesV root L t n).length≤1000000000∧∀d∈edgesV root L t n,Rg.sz d.range:=by
 unfold edgesV;cases hm:manVal root L t n with
 | none=>exact⟨by simp,fun d hd=>by simp at hd⟩
 | some m=>
  have hmz:Man.sz m:=by
   rcases manVal_mem hm with rfl | h
   ·exact hr
   ·exact hL.2 _ h
  exact⟨ofF_lenle hmz.2.2.1.1,fun d hd=>by
   rcases ofF_range hd with⟨e,he,h⟩ | ⟨e,he,h⟩
   ·rw[h];exact(hmz.2.2.1.2 e he).2
   ·rw[h];exact(hr.2.2.2.2 e he).2⟩
theorem fine92_ok (root:Man) (L:List Man) (t:List Pl) (h:ValSz root L t) (g:Good t) (n:Nat) (hn:n<t.length):CallsOK Tryz.prog 92 [.agg root.cells,rowT Man.cells L,rowT Pl.cells t,iV n] (bV (fineV root L t n)) []:=by
 obtain⟨hrz,hro,hLz,hLo,ht,hv⟩:=h;refine callsOK mixed Tryz.call92 Tryz.func92 rfl (by rw[Tryz.ntmps92];simp) ?_ rfl;rw[Tryz.ntmps92];have hE:=edges145_ok root hrz hro L hLz hLo t g n hn;have hf:=fine_edges (root:=root) (L:=L) (t:=t) (n:=n);obtain⟨hEl,hEz⟩:=edgesV_sz (root:=root) (L:=L) (t:=t) (n:=n) hrz hLz;generalize edgesV root L t n=E at*;generalize (manVal root L t n).isSome=ok0 at*;generalize fineV root L t n=F at*;with_reducible refine aR fun K' hK=> ?_
 simp;refine hK _ _ _ ?_;clear K' hK;with_reducible refine aR fun K' hK=> ?_
 simp;refine acall_new hE (by first | rfl | (simp;done) | (simp;rfl) | (simp;exact⟨rfl,rfl⟩)) ?_;simp[addJ_one];refine hK _ _ _ ?_;clear K' hK;with_reducible refine aA ?_;refine aR fun K' hK=> ?_
 simp;refine hK _ _ _ ?_;clear K' hK;with_reducible refine aw_block ?_
 refine aw_loop (fun s G nx=>s 2=rowT Pl.cells t∧s 3=iV n∧s 9=.row 1 E.length∧G 1=some (.row 35 (flat Dep.cells E))∧∃j:Nat,s 11=iV j∧j≤E.length∧s 10=bV (ok0&&(E.take j).all (holdsV t n))) (fun s _ _=>match s 11 with | .v (.int _ n)=>E.length-n.toNat | _=>0) ?_ ?_
 ·exact⟨by simp,by simp,by simp,by simp,0,by simp,by omega,by simp⟩
 ·rintro s G nx hfr ⟨s2,s3,s9,g1,j,s11,hj,s10⟩;have hw:IntKind.i64.wrap (↑j+1)=((j+1:Nat):Int):=wrapS (by omega);by_cases hj2:j<E.length
  ·have hstep:=all_take1 (p:=holdsV t n) hj2;have hall:(ok0&&(E.take j).all (holdsV t n))=false→F=false:=fun h=>by
    rw[hf];cases ok0 with
    | false=>rfl
    | true=>
     simp only[Bool.true_and]at h⊢;rw[←List.take_append_drop j E,List.all_append,h];rfl
   generalize hcur:(ok0&&(E.take j).all (holdsV t n))=cur at*;cases cur with
   | false=>
    with_reducible refine aA ?_;refine aR fun K' hK=> ?_
    simp[s9,s10,s11,g1,hj2];refine hK _ _ _ ?_;clear K' hK;with_reducible refine aY (by simp) ?_;refine aw_exit ?_
    refine loopK_exit (blockK_exit ?_);with_reducible refine aR fun K' hK=> ?_
    simp[s10];refine hK _ _ _ ?_;clear K' hK;with_reducible refine aw_retL ?_
    simp[blockK,loopK,Post,resA,res1,expT,expA,exp1,expM,expL,okT,okA,ok1,rowOf,Tryz.f92];first | exact hall rfl | exact(hall rfl).symm
   | true=>
    with_reducible refine aA ?_;refine aR fun K' hK=> ?_
    simp[s9,s10,s11,g1,hj2];refine hK _ _ _ ?_;clear K' hK;with_reducible refine aXk (by simp) ?_;refine aw_block ?_;refine aS fun K' hK=> ?_
    simp[s2,s3,s9,s11,g1,hj2];refine acall_flat (good85_ok t g ht hv n hn (nth E j) (hEz _ (nth_mem hj2))) rfl (by first | rfl | (simp;done) | (simp;rfl) | (simp;exact⟨rfl,rfl⟩)) ?_;simp;refine hK _ _ _ ?_;clear K' hK;with_reducible refine aw_skipL ?_
    refine blockK_normal ?_;with_reducible refine aS fun K' hK=> ?_
    simp[s11,hw];refine hK _ _ _ ?_;clear K' hK;refine aw_skipL (loopK_normal ?_ ?_)
    ·exact⟨by simp[s2],by simp[s3],by simp[s9],by simp[g1],j+1,by simp[hw],by omega,by rw[hstep,←Bool.and_assoc,hcur];simp⟩
    ·simp[s11,hw];omega
  ·have hjE:j=E.length:=(by omega);rw[hjE,List.take_length,←hf]at s10;with_reducible refine aA ?_;refine aR fun K' hK=> ?_
   simp[s9,s10,s11,g1,hj2];refine hK _ _ _ ?_;clear K' hK;with_reducible refine aY (by simp) ?_;refine aw_exit ?_
   refine loopK_exit (blockK_exit ?_);with_reducible refine aR fun K' hK=> ?_
   simp[s10];refine hK _ _ _ ?_;clear K' hK;with_reducible refine aw_retL ?_
   simp[blockK,loopK,Post,resA,res1,expT,expA,exp1,expM,expL,okT,okA,ok1,rowOf,Tryz.f92]
theorem below_eq {t:List Pl} (g:Good t):belowL t 0=(List.range t.length).map fun(n:Nat)=>(n:Int):=by
 unfold belowL;rw[if_pos (holds_iff.2 ⟨g,by omega,by have:=g.pos;omega⟩)];unfold belowK;congr 1;rw[List.filter_eq_self];intro j hj;have hj:=List.mem_range.1 hj;have hmem:=below_all g hj;have hb:=below_mem (i:=0) g g.pos hj;have hu:underF t j (0:Nat)=true:=by
  rw[←hb];exact List.any_eq_true.2 ⟨_,hmem,by simp⟩
 simpa using hu
theorem wrong_eq {root:Man} {L:List Man} {t:List Pl} (g:Good t):wrongL root L t=((List.range t.length).filter fun n=> !fineV root L t (n:Nat)).map fun(n:Nat)=>(n:Int):=by
 unfold wrongL;rw[below_eq g,List.filter_map];rfl
set_option maxRecDepth 100000
set_option maxHeartbeats 4000000
theorem wrong36_ok (root:Man) (L:List Man) (t:List Pl) (h:ValSz root L t):CallsOK Tryz.prog 36 [.agg root.cells,rowT Man.cells L,rowT Pl.cells t] (.tup [.row 0 (wrongO root L t).length,iV (codeV root L t)]) [(3,flat iC (wrongO root L t))]:=by
 have hh:=h;obtain⟨hrz,hro,hLz,hLo,ht,hv⟩:=h;have htl:=ht.1;refine callsOK mixed Tryz.call36 Tryz.func36 rfl (by rw[Tryz.ntmps36];simp) ?_ rfl;rw[Tryz.ntmps36];with_reducible refine aR fun K' hK=> ?_
 simp;refine hK _ _ _ ?_;clear K' hK;with_reducible refine aR fun K' hK=> ?_
 simp;refine acall_flat (check91_ok root L t hrz hLz ht) rfl (by first | rfl | (simp;done) | (simp;rfl) | (simp;exact⟨rfl,rfl⟩)) ?_;simp;refine hK _ _ _ ?_;clear K' hK;by_cases hc:codeV root L t=0
 ·have g:Good t:=check_iff.1 (codeV_zero.1 hc).2.2;have hwo:wrongO root L t=((List.range t.length).filter fun n=> !fineV root L t (n:Nat)).map fun(n:Nat)=>(n:Int):=(by rw[wrongO,if_pos hc,wrong_eq g]);rw[hwo,hc];with_reducible refine aA ?_;refine aR fun K' hK=> ?_
  simp[hc];refine hK _ _ _ ?_;clear K' hK;with_reducible refine aYk (by simp) ?_;refine aR fun K' hK=> ?_
  simp;refine hK _ _ _ ?_;clear K' hK;with_reducible refine aA ?_;refine aR fun K' hK=> ?_
  simp;refine hK _ _ _ ?_;clear K' hK;with_reducible refine aw_block ?_
  refine aw_loop (fun s G nx=>s 1=rowT Man.cells L∧s 2=rowT Pl.cells t∧s 3=.ptr 0 0∧G 0=some (.var 27 root.cells)∧∃(i q:Nat),s 10=iV i∧i≤t.length∧s 9=.row q (((List.range i).filter fun n=> !fineV root L t (n:Nat)).map fun(n:Nat)=>(n:Int)).length∧1≤q∧G q=some (.row 3 (flat iC (((List.range i).filter fun n=> !fineV root L t (n:Nat)).map fun(n:Nat)=>(n:Int))))) (fun s _ _=>match s 10 with | .v (.int _ n)=>t.length-n.toNat | _=>0) ?_ ?_
  ·exact⟨by simp,by simp,by simp,by simp,0,2,by simp,by omega,by simp,by omega,by simp⟩
  ·rintro s G nx hf ⟨s1,s2,s3,g0,i,q,s10,hi,s9,hq,hG⟩;have o10:=s10;have hw:IntKind.i64.wrap (↑i+1)=((i+1:Nat):Int):=wrapS (by omega);with_reducible refine aA ?_;refine aR fun K' hK=> ?_
   simp[s2,s10];refine hK _ _ _ ?_;clear K' hK;with_reducible refine aC fun A B hA hB=> ?_
   simp;refine⟨fun hi2=>hA ?_,fun hi2=>hB ?_⟩<;>clear hA hB A B<;>(try simp at hi2)<;>(try with_reducible refine aK ?_)
   ·have hst:(((List.range (i+1)).filter fun n=> !fineV root L t (n:Nat)).map fun(n:Nat)=>(n:Int))=(((List.range i).filter fun n=> !fineV root L t (n:Nat)).map fun(n:Nat)=>(n:Int))++if fineV root L t (i:Nat)=true then[]else[(i:Int)]:=by
     rw[List.range_succ,List.filter_append,List.map_append];congr 1;cases hf2:fineV root L t (i:Nat)<;>simp[hf2]
    have hal:(((List.range i).filter fun n=> !fineV root L t (n:Nat)).map fun(n:Nat)=>(n:Int)).length≤i:=by
     rw[List.length_map];exact Nat.le_trans (List.length_filter_le _ _) (by simp)
    have hfi:=fine92_ok root L t hh g i hi2;generalize (((List.range i).filter fun n=> !fineV root L t (n:Nat)).map fun(n:Nat)=>(n:Int))=acc at*;generalize fineV root L t (i:Nat)=F at*;have hqn:q<nx:=fresh_lt hf hG;have n0:¬0=nx:=(by have:=fresh_lt hf g0;omega);have n1:¬0=nx+1:=(by omega);have n2:¬q=nx:=(by omega);have n3:¬nx=q:=(by omega);have n4:¬0=q:=(by omega);have b1:acc.length+1≤9223372036854775807:=(by omega);have b2:(acc.length+1)*8≤140737488355328:=(by omega);with_reducible refine aw_block ?_;refine aR fun K' hK=> ?_
    simp[s1,s2,s3,s10,g0];refine acall_flat hfi rfl (by first | rfl | (simp;done) | (simp;rfl) | (simp;exact⟨rfl,rfl⟩)) ?_;simp;refine hK _ _ _ ?_;clear K' hK;cases F with
    | true=>
     with_reducible refine aVk (by simp) ?_;refine aw_skipL ?_
     refine blockK_normal ?_;with_reducible refine aS fun K' hK=> ?_
     simp[s10,hw];refine hK _ _ _ ?_;clear K' hK;refine aw_skipL (loopK_normal ?_ ?_)
     ·exact⟨by simp[s1],by simp[s2],by simp[s3],by simp[g0],i+1,q,by simp[hw],by omega,by rw[hst];simp[s9],hq,by rw[hst];simpa using hG⟩
     ·simp[o10,s10,hw];omega
    | false=>
     with_reducible refine aU (by simp) ?_;refine aR fun K' hK=> ?_
     simp[s9,s10,hG,n2,n3,b1,b2,treeOf_row,srcOf_row];refine hK _ _ _ ?_;clear K' hK;with_reducible refine aw_skipL ?_
     refine blockK_normal ?_;with_reducible refine aS fun K' hK=> ?_
     simp[s10,hw];refine hK _ _ _ ?_;clear K' hK;refine aw_skipL (loopK_normal ?_ ?_)
     ·exact⟨by simp[s1],by simp[s2],by simp[s3],by simp[n0,n1,n4,g0],i+1,nx+1,by simp[hw],by omega,by rw[hst];simp,by omega,by rw[hst];simp[←flat_snoc];rfl⟩
     ·simp[o10,s10,hw];omega
   ·skip;with_reducible refine aw_exit ?_
    refine loopK_exit (blockK_exit ?_);have hie:i=t.length:=(by omega);subst hie;with_reducible refine aR fun K' hK=> ?_
    simp[s9];refine hK _ _ _ ?_;clear K' hK;with_reducible refine aw_retL ?_
    simp[blockK,loopK,Post,resA,res1,expT,expA,exp1,expM,expL,okT,okA,ok1,rowOf,Tryz.f36,hG]
 ·have hwo:wrongO root L t=[]:=(by rw[wrongO,if_neg hc]);rw[hwo];with_reducible refine aA ?_;refine aR fun K' hK=> ?_
  simp[hc];refine hK _ _ _ ?_;clear K' hK;with_reducible refine aX (by simp[hc]) ?_;refine aA ?_;refine aR fun K' hK=> ?_
  simp;refine hK _ _ _ ?_;clear K' hK;with_reducible refine aw_ret ?_
  simp[blockK,loopK,Post,resA,res1,expT,expA,exp1,expM,expL,okT,okA,ok1,rowOf,Tryz.f36]
open Go Go.RowKit
section
variable {P:Program} [Gl P] {N:Nat} {K:Exit→KS} {s:Sl} {G:Hp} {nx:Nat}
open Classical in
noncomputable def leastM (I:Nat→KS) (s:Sl) (G:Hp) (nx:Nat):Nat:=if h:∃m,I m s G nx then Classical.choose (exists_min h)else 0
theorem leastM_is {I:Nat→KS} (h:∃m,I m s G nx):I (leastM I s G nx) s G nx:=by
 unfold leastM;rw[dif_pos h];exact(Classical.choose_spec (exists_min h)).1
theorem leastM_le {I:Nat→KS} {k:Nat} (h:I k s G nx):leastM I s G nx≤k:=by
 unfold leastM;rw[dif_pos ⟨k,h⟩];exact(Classical.choose_spec (exists_min ⟨k,h⟩)).2 k h
theorem aw_loopM {a:Code} (I:Nat→KS) (m:Nat) (h0:I m s G nx) (h:∀m s G nx,FreshFrom G nx→I m s G nx→AW P N a (loopK (fun s G nx=>∃m,I m s G nx) m (leastM I) K) s G nx):AW P N (.loop a) K s G nx:=
 aw_loop _ (leastM I) ⟨m,h0⟩ fun s G nx hf hI=>h _ s G nx hf (leastM_is hI)
theorem loopK_less {I:Nat→KS} {m:Nat} (k:Nat) (hk:k<m) (h:I k s G nx):loopK (fun s G nx=>∃m,I m s G nx) m (leastM I) K .normal s G nx:=
 loopK_normal ⟨k,h⟩ (Nat.lt_of_le_of_lt (leastM_le h) hk)
end
set_option maxRecDepth 100000
set_option maxHeartbeats 4000000
structure Set1 (t:List Pl) (n:Nat) (on on':List Bool):Prop where
 len:on'.length=on.length
 at_:∀j,nth on' j=(nth on j || decide (j∈upN t n))
theorem mark162 {t:List Pl} (g:Good t) {n:Nat} (hn:n<t.length) {y:Int} (hy:y=n) {B:Nat} {on:List Bool} {G:Hp} {N0:Nat} {K:AV→Hp→Nat→Prop} (hB:G B=some (.row 4 (flat bC on))) (hl:on.length=t.length) (hBn:B<N0)
  (hK:∀X ny on',N0≤ny→(∀k,k<N0→k≠B→X k=G k)→X B=some (.row 4 (flat bC on'))→Set1 t n on on'→K (bV (!nth on n)) X ny):InlK Tryz.prog 162 [.row B t.length,rowT Pl.cells t,iV y] K G N0:=by
 subst hy;refine inlK mixed Tryz.call162 Tryz.func162 rfl (by rw[Tryz.ntmps162];simp) fun hf=> ?_;rw[Tryz.ntmps162];have hno:n<on.length:=(by omega);have hni:(n:Int)<t.length:=(by omega);(repeat with_reducible refine aA ?_);(first | with_reducible refine aR fun K' hK=> ?_ | with_reducible refine aS fun K' hK=> ?_);simp;(first | refine hK _ _ _ ?_ | done);clear K' hK;(repeat with_reducible refine aA ?_);(first | with_reducible refine aR fun K' hK=> ?_ | with_reducible refine aS fun K' hK=> ?_);simp[hB,hno,hni];(first | refine hK _ _ _ ?_ | done);clear K' hK;(repeat with_reducible refine aA ?_);(first | with_reducible refine aw_block ?_ | with_reducible refine aw_toS (aw_block ?_));refine aw_loop (fun s X ny=>X=X∧s 0=.row B t.length∧s 1=rowT Pl.cells t∧s 7=bV (!nth on n)∧N0≤ny∧(∀k,k<N0→k≠B→X k=G k)∧∃(z:Int) (on':List Bool),s 2=iV z∧-1≤z∧z<t.length∧X B=some (.row 4 (flat bC on'))∧on'.length=on.length∧∀j,(nth on' j || decide (0≤z∧j∈upN t z.toNat))=(nth on j || decide (j∈upN t n))) (fun s _ _=>match s 2 with | .v (.int _ z)=>(z+1).toNat | _=>0) ?_ ?_
 ·exact⟨rfl,by simp,by simp,by simp,by omega,fun k _ _=>rfl,n,on,by simp,by omega,by omega,hB,rfl,fun j=>by simp⟩
 ·rintro s X ny-⟨-,s0,s1,s7,hny,hX,z,on',s2,hz1,hz2,xB,hl2,hat⟩;(repeat with_reducible refine aA ?_);(first | with_reducible refine aR fun K' hK=> ?_ | with_reducible refine aS fun K' hK=> ?_);simp[s2];(first | refine hK _ _ _ ?_ | done);clear K' hK;by_cases hz:0≤z
  ·have hzt:z.toNat<t.length:=(by omega);have hzo:z.toNat<on'.length:=(by omega);have hput:putO (flat bC on') 1 z.toNat 0 [bV true]=flat bC (on'.set z.toNat true):=putO_flat hzo true;have hpe:(nth t z.toNat).par=parN t z.toNat:=rfl;have hd:=g.dn z.toNat hzt;have hp1: -1≤parN t z.toNat:=by
    rcases Nat.eq_zero_or_pos z.toNat with h | h
    ·rw[h,root_par g.root];omega
    ·have:=g.par z.toNat h hzt;omega
   repeat with_reducible refine aA ?_
   (first | with_reducible refine aC fun A B hA hB=> ?_ | with_reducible refine aD fun A B hA hB=> ?_)
   simp[hz];refine⟨fun hc=>hA ?_,fun hc=>hB ?_⟩<;>clear hA hB A B<;>(try (simp at hc;done))<;>(try (exfalso;simp at hc;omega))<;>clear hc<;>(try with_reducible refine aK ?_);(repeat with_reducible refine aA ?_);(first | with_reducible refine aw_block ?_ | with_reducible refine aw_toS (aw_block ?_));(repeat with_reducible refine aA ?_);(first | with_reducible refine aR fun K' hK=> ?_ | with_reducible refine aS fun K' hK=> ?_);simp[s0,s2,xB,hz,hz2,hzo,hput];(first | refine hK _ _ _ ?_ | done);clear K' hK;(repeat with_reducible refine aA ?_);(first | with_reducible refine aR fun K' hK=> ?_ | with_reducible refine aS fun K' hK=> ?_);simp[s1,s2,hz,hz2,hzt,hpe];(first | refine hK _ _ _ ?_ | done);clear K' hK;(first | with_reducible refine aw_skipL ?_ | skip);refine blockK_normal ?_;refine aw_skipL (loopK_normal ?_ ?_)
   ·refine⟨rfl,by simp[s0],by simp[s1],by simp[s7],hny,fun k h1 h2=>by rw[Hp.upd_ne _ _ h2];exact hX k h1 h2,parN t z.toNat,on'.set z.toNat true,by simp,hp1,by omega,by simp,by simp[hl2],fun j=> ?_⟩;rw[←hat j,nth_setB hzo];have hu:=up_step g.dn hzt;by_cases hj:j=z.toNat
    ·subst hj;simp[hu,hz]
    ·rw[if_neg hj];congr 1;rw[hu];by_cases hp:parN t z.toNat<0
     ·have hp':¬0≤parN t z.toNat:=(by omega);simp[hp,hp',hj]
     ·have hp':0≤parN t z.toNat:=(by omega);simp[hp,hp',hj,hz]
   ·simp[s2];omega
  ·repeat with_reducible refine aA ?_
   (first | with_reducible refine aC fun A B hA hB=> ?_ | with_reducible refine aD fun A B hA hB=> ?_)
   simp[hz];refine⟨fun hc=>hA ?_,fun hc=>hB ?_⟩<;>clear hA hB A B<;>(try (simp at hc;done))<;>(try (exfalso;simp at hc;omega))<;>clear hc<;>(try with_reducible refine aK ?_);(repeat with_reducible refine aA ?_);(first | with_reducible refine aw_exit ?_ | with_reducible refine aw_exitL ?_);refine loopK_exit (blockK_exit ?_);(repeat with_reducible refine aA ?_);(first | with_reducible refine aR fun K' hK=> ?_ | with_reducible refine aS fun K' hK=> ?_);simp[s7];(first | refine hK _ _ _ ?_ | done);clear K' hK;(repeat with_reducible refine aA ?_);(first | with_reducible refine aw_ret ?_ | with_reducible refine aw_retL ?_ | with_reducible refine aw_skipL ?_);simp[blockK,loopK,Post,resA,res1,expT,expA,exp1,expM,expL,okT,okA,ok1,rowOf,Tryz.f162];refine hK _ _ on' hny hX xB ⟨hl2,fun j=> ?_⟩;rw[←hat j];simp[hz]
theorem off_le:∀(a b:List Bool),a.length=b.length→(∀j,nth a j=true→nth b j=true)→offN b≤offN a
 | [],[],_,_=>Nat.le_refl _
 | [],_::_,h,_=>by simp at h
 | _::_,[],h,_=>by simp at h
 | x::a,y::b,h,hm=>by
  have ih:=off_le a b (by simpa using h) fun j hj=>hm (j+1) hj;have h0:x=true→y=true:=hm 0;unfold offN at*;rw[List.countP_cons,List.countP_cons];cases x<;>cases y<;>simp at h0⊢<;>omega
theorem off_lt:∀(a b:List Bool),a.length=b.length→(∀j,nth a j=true→nth b j=true)→∀k,k<a.length→nth a k=false→nth b k=true→offN b<offN a
 | [],_,_,_,k,hk,_,_=>by simp at hk
 | _::_,[],h,_,_,_,_,_=>by simp at h
 | x::a,y::b,h,hm,k,hk,h1,h2=>by
  have hl:a.length=b.length:=(by simpa using h);have hm':∀j,nth a j=true→nth b j=true:=fun j hj=>hm (j+1) hj;have h0:x=true→y=true:=hm 0;cases k with
  | zero=>
   have ih:=off_le a b hl hm';have e1:x=false:=h1;have e2:y=true:=h2;subst e1;subst e2;unfold offN at*;rw[List.countP_cons,List.countP_cons];simp;omega
  | succ k=>
   have ih:=off_lt a b hl hm' k (by simpa using hk) h1 h2;unfold offN at*;rw[List.countP_cons,List.countP_cons];cases x<;>cases y<;>simp at h0⊢<;>omega
theorem up_in {t:List Pl} (g:Good t):∀(m:Nat) {j k x:Nat},k<m→k<t.length→j∈upN t k→x∈upN t j→x∈upN t k
 | 0,j,k,x,h,_,_,_=>by omega
 | m+1,j,k,x,hm,hk,hj,hx=>by
  rw[up_step g.dn hk]at hj⊢;rcases List.mem_cons.1 hj with rfl | hj
  ·rwa [←up_step g.dn hk]
  ·split at hj
   ·cases hj
   ·rename_i h0;have:=g.dn k hk;rw[if_neg h0];exact List.mem_cons_of_mem _ (up_in g m (by omega) (by omega) hj hx)
structure Mk (root:Man) (L:List Man) (t:List Pl) (on:List Bool):Prop where
 len:on.length=t.length
 zero:nth on 0=true
 sub:∀j,nth on j=true→Rch root L t j
 up:∀j,nth on j=true→∀x∈upN t j,nth on x=true
theorem mk_set {root:Man} {L:List Man} {t:List Pl} (g:Good t) {on on':List Bool} {k:Nat} (h:Mk root L t on) (hk:Rch root L t k) (hs:Set1 t k on on'):Mk root L t on':=by
 have hkl:=rch_lt g hk;refine⟨hs.len.trans h.len,by rw[hs.at_,h.zero];rfl,fun j hj=> ?_,fun j hj x hx=> ?_⟩
 ·rw[hs.at_,Bool.or_eq_true,decide_eq_true_eq]at hj;rcases hj with hj | hj
  ·exact h.sub j hj
  ·exact rch_up g _ (Nat.lt_succ_self k) hk hj
 ·rw[hs.at_,Bool.or_eq_true,decide_eq_true_eq]at hj⊢;rcases hj with hj | hj
  ·exact .inl (h.up j hj x hx)
  ·exact .inr (up_in g _ (Nat.lt_succ_self k) hkl hj hx)
theorem set_same {root:Man} {L:List Man} {t:List Pl} {on on':List Bool} {k:Nat} (h:Mk root L t on) (hk:nth on k=true) (hs:Set1 t k on on'):on'=on:=by
 refine List.ext_getElem hs.len fun j h1 h2=> ?_;rw[←nth_eq h1,←nth_eq h2,hs.at_];cases hn:nth on j with
 | true=>rfl
 | false=>
  have:¬j∈upN t k:=fun hj=>(by rw[h.up k hk j hj]at hn;cases hn);simp[this]
theorem set_less {t:List Pl} (g:Good t) {on on':List Bool} {k:Nat} (hl:on.length=t.length) (hk:k<t.length) (h:nth on k=false) (hs:Set1 t k on on'):offN on'<offN on:=
 off_lt on on' hs.len.symm (fun j hj=>by rw[hs.at_,hj];rfl) k (by omega) h (by rw[hs.at_,up_step g.dn hk];simp)
def EdC (root:Man) (L:List Man) (t:List Pl) (n:Nat) (on:List Bool):Prop:=∀j,j<n→nth on j=true→∀d∈edgesV root L t j,∀k:Nat,toN t j d=k→nth on k=true
theorem mk_end {root:Man} {L:List Man} {t:List Pl} (g:Good t) {on:List Bool} (h:Mk root L t on) (he:EdC root L t t.length on):on=(List.range t.length).map (rchB root L t):=by
 have hq:∀j,rchB root L t j=nth on j:=fun j=>rch_eq g (nth on) h.zero h.sub (fun n hn hp=>h.up n hn _ (by
  have hl:=rch_lt g (h.sub n hn);rw[up_step g.dn hl,if_neg (by omega)];refine List.mem_cons_of_mem _ ?_;have hl2:=g.dn n hl;rw[up_step g.dn (show(parN t n).toNat<t.length by omega)];simp)) (fun n d hn hd k hk=>he n (rch_lt g (h.sub n hn)) hn d hd k hk) j
 refine List.ext_getElem (by simp[h.len]) fun k h1 h2=> ?_;rw[List.getElem_map,List.getElem_range,hq,nth_eq h1]
theorem marks107_ok (root:Man) (L:List Man) (t:List Pl) (hsz:ValSz root L t) (g:Good t):CallsOK Tryz.prog 107 [.agg root.cells,rowT Man.cells L,rowT Pl.cells t] (.row 0 t.length) [(4,flat bC ((List.range t.length).map (rchB root L t)))]:=by
 refine callsOK mixed Tryz.call107 Tryz.func107 rfl (by rw[Tryz.ntmps107];simp) ?_ rfl;rw[Tryz.ntmps107];obtain⟨hrz,hro,hLz,hLo,ht,hv⟩:=id hsz;have htl:=ht.1;have hpos:=g.pos;have c4:Tryz.prog.cellsOf 4=1:=(by kernel_rfl);have hmk:∀(X:Hp) (m:Nat),evMake Tryz.prog X m 123 (iV t.length) (iV t.length)=some (.row m t.length,X.upd m (.row 4 (flat bC (List.replicate t.length false))),m+1):=fun X m=>by
  simp only[evMake,el123];rw[if_pos ⟨trivial,by omega,by omega,by omega⟩,Int.toNat_natCast,made_bC]
 have hrep:∀j,nth (List.replicate t.length false) j=false:=fun j=>by
  unfold nth;rw[List.getD_eq_getElem?_getD,List.getElem?_replicate];split<;>rfl
 have hEd:=fun n (hn:n<t.length)=>edges145_ok root hrz hro L hLz hLo t g n hn;have hLd:=fun n (hn:n<t.length) d=>lead83_ok t g ht n hn d;have hEs:∀n:Nat,(manVal root L t n).isSome=false→edgesV root L t n=[]:=fun n h=>by
  unfold edgesV;cases hm:manVal root L t n with
  | none=>rfl
  | some m=>rw[hm]at h;cases h
 have hEl:=fun n:Nat=>edgesV_len (root:=root) (L:=L) (t:=t) (n:=n) hrz hLz;(repeat with_reducible refine aA ?_);(first | with_reducible refine aR fun K' hK=> ?_ | with_reducible refine aS fun K' hK=> ?_);simp;(first | refine hK _ _ _ ?_ | done);clear K' hK;(repeat with_reducible refine aA ?_);(first | with_reducible refine aR fun K' hK=> ?_ | with_reducible refine aS fun K' hK=> ?_);simp[hmk];(first | refine hK _ _ _ ?_ | done);clear K' hK;(repeat with_reducible refine aA ?_);(first | with_reducible refine aR fun K' hK=> ?_ | with_reducible refine aS fun K' hK=> ?_);simp;refine acall_inlK (mark162 g hpos (y:=0) rfl (on:=List.replicate t.length false) (by simp) (by simp) (by omega) ?_);rintro X0 ny0 on0 hny0 hX0 xB0 hs0;simp[thenK,hrep];(first | refine hK _ _ _ ?_ | done);clear K' hK;have hM0:Mk root L t on0:=by
  have h0:∀j,nth on0 j=true→j=0:=fun j hj=>by
   rw[hs0.at_,hrep,up_zero (root_par g.root)]at hj;simpa using hj
  refine⟨by rw[hs0.len];simp,by rw[hs0.at_,up_zero (root_par g.root)];simp,fun j hj=>by rw[h0 j hj];exact .zero,fun j hj x hx=> ?_⟩;rw[h0 j hj,up_zero (root_par g.root)]at hx;simp at hx;subst hx;rw[hs0.at_,up_zero (root_par g.root)];simp
 have x00:X0 0=some (.var 27 root.cells):=(by rw[hX0 0 (by omega) (by omega)];simp);(repeat with_reducible refine aA ?_);(first | with_reducible refine aw_block ?_ | with_reducible refine aw_toS (aw_block ?_));refine aw_loopM (fun m s G nx=>s 1=rowT Man.cells L∧s 2=rowT Pl.cells t∧s 3=.ptr 0 0∧s 7=.row 2 t.length∧G 0=some (.var 27 root.cells)∧2<nx∧∃(on:List Bool) (more:Bool),s 8=bV more∧G 2=some (.row 4 (flat bC on))∧Mk root L t on∧(more=false→EdC root L t t.length on)∧m=2*offN on+if more=true then 1 else 0) (2*offN on0+1) ?_ ?_
 ·exact⟨by simp,by simp,by simp,by simp,x00,by omega,on0,true,by simp,xB0,hM0,nofun,rfl⟩
 clear x00 hM0 hs0 xB0 hX0 hny0 X0 ny0 on0 hmk hrep;rintro m s G nx-⟨s1,s2,s3,s7,g0,hnx,on,more,s8,g2,hM,hE,rfl⟩;cases more with
 | false=>
  have he:=mk_end g hM (hE rfl);rw[←he];(repeat with_reducible refine aA ?_);(first | with_reducible refine aR fun K' hK=> ?_ | with_reducible refine aS fun K' hK=> ?_);simp[s8];(first | refine hK _ _ _ ?_ | done);clear K' hK;repeat with_reducible refine aA ?_
  (first | with_reducible refine aC fun A B hA hB=> ?_ | with_reducible refine aD fun A B hA hB=> ?_)
  simp;refine⟨fun hc=>hA ?_,fun hc=>hB ?_⟩<;>clear hA hB A B<;>(try (simp at hc;done))<;>(try (exfalso;simp at hc;omega))<;>clear hc<;>(try with_reducible refine aK ?_);(repeat with_reducible refine aA ?_);(first | with_reducible refine aw_exit ?_ | with_reducible refine aw_exitL ?_);refine loopK_exit (blockK_exit ?_);(repeat with_reducible refine aA ?_);(first | with_reducible refine aR fun K' hK=> ?_ | with_reducible refine aS fun K' hK=> ?_);simp[s7];(first | refine hK _ _ _ ?_ | done);clear K' hK;(repeat with_reducible refine aA ?_);(first | with_reducible refine aw_ret ?_ | with_reducible refine aw_retL ?_ | with_reducible refine aw_skipL ?_);simp[blockK,loopK,Post,resA,res1,expT,expA,exp1,expM,expL,okT,okA,ok1,rowOf,Tryz.f107,g2]
 | true=>
  (repeat with_reducible refine aA ?_);(first | with_reducible refine aR fun K' hK=> ?_ | with_reducible refine aS fun K' hK=> ?_);simp[s8];(first | refine hK _ _ _ ?_ | done);clear K' hK;repeat with_reducible refine aA ?_
  (first | with_reducible refine aC fun A B hA hB=> ?_ | with_reducible refine aD fun A B hA hB=> ?_)
  simp;refine⟨fun hc=>hA ?_,fun hc=>hB ?_⟩<;>clear hA hB A B<;>(try (simp at hc;done))<;>(try (exfalso;simp at hc;omega))<;>clear hc<;>(try with_reducible refine aK ?_);(repeat with_reducible refine aA ?_);(first | with_reducible refine aw_block ?_ | with_reducible refine aw_toS (aw_block ?_));(repeat with_reducible refine aA ?_);(first | with_reducible refine aR fun K' hK=> ?_ | with_reducible refine aS fun K' hK=> ?_);simp;(first | refine hK _ _ _ ?_ | done);clear K' hK;(repeat with_reducible refine aA ?_);(first | with_reducible refine aR fun K' hK=> ?_ | with_reducible refine aS fun K' hK=> ?_);simp;(first | refine hK _ _ _ ?_ | done);clear K' hK;(repeat with_reducible refine aA ?_);(first | with_reducible refine aw_block ?_ | with_reducible refine aw_toS (aw_block ?_));refine aw_loop (fun s G nx=>s 1=rowT Man.cells L∧s 2=rowT Pl.cells t∧s 3=.ptr 0 0∧s 7=.row 2 t.length∧G 0=some (.var 27 root.cells)∧2<nx∧∃(n:Nat) (on':List Bool) (mr:Bool),s 9=iV n∧n≤t.length∧s 8=bV mr∧G 2=some (.row 4 (flat bC on'))∧Mk root L t on'∧offN on'≤offN on∧(mr=true→offN on'<offN on)∧(mr=false→EdC root L t n on')) (fun s _ _=>match s 9 with | .v (.int _ n)=>t.length-n.toNat | _=>0) ?_ ?_
  ·exact⟨by simp[s1],by simp[s2],by simp[s3],by simp[s7],g0,hnx,0,on,false,by simp,by omega,by simp,g2,hM,Nat.le_refl _,nofun,fun _ j hj=>by omega⟩
  clear s1 s2 s3 s7 g0 hnx s8 g2 hM hE;rintro s G nx-⟨s1,s2,s3,s7,g0,hnx,n,on',mr,s9,hn,s8,g2,hM,ho,hlt,hE⟩;have o9:=s9;have hw:IntKind.i64.wrap (↑n+1)=((n+1:Nat):Int):=wrapS (by omega);(repeat with_reducible refine aA ?_);(first | with_reducible refine aR fun K' hK=> ?_ | with_reducible refine aS fun K' hK=> ?_);simp[s2,s9];(first | refine hK _ _ _ ?_ | done);clear K' hK;(repeat with_reducible refine aA ?_);(first | with_reducible refine aC fun A B hA hB=> ?_ | with_reducible refine aD fun A B hA hB=> ?_);simp;refine⟨fun hn2=>hA ?_,fun hn2=>hB ?_⟩<;>clear hA hB A B<;>(try simp at hn2)<;>(try with_reducible refine aK ?_)
  ·have hEd1:=hEd n hn2;have hLd1:=hLd n hn2;have hEs1:=hEs n;have hEl1:=hEl n;have hEC:∀on',EdC root L t (n+1) on'↔EdC root L t n on'∧(nth on' n=true→∀d∈edgesV root L t n,∀k:Nat,toN t n d=k→nth on' k=true):=fun on'=>by
    constructor
    ·intro h;exact⟨fun j hj=>h j (by omega),fun hq=>h n (by omega) hq⟩
    ·rintro⟨h1,h2⟩ j hj hq;rcases Nat.lt_or_ge j n with h | h
     ·exact h1 j h hq
     ·have:j=n:=(by omega);subst this;exact h2 hq
   have hrE:∀d∈edgesV root L t n,∀k:Nat,toN t n d=k→Rch root L t n→Rch root L t k:=fun d hd k hk h=> .edge h hd hk;generalize edgesV root L t n=E at*;generalize (manVal root L t n).isSome=ok0 at*;have e0:¬0=nx:=(by omega);have e2:¬2=nx:=(by omega);(repeat with_reducible refine aA ?_);(first | with_reducible refine aw_block ?_ | with_reducible refine aw_toS (aw_block ?_));(repeat with_reducible refine aA ?_);(first | with_reducible refine aR fun K' hK=> ?_ | with_reducible refine aS fun K' hK=> ?_);simp[s1,s2,s3,s9,g0];refine acall_new hEd1 (by first | rfl | (simp;done) | (simp;rfl) | (simp;exact⟨rfl,rfl⟩)) ?_;simp[addJ_one];(first | refine hK _ _ _ ?_ | done);clear K' hK;(repeat with_reducible refine aA ?_);(first | with_reducible refine aR fun K' hK=> ?_ | with_reducible refine aS fun K' hK=> ?_);simp;(first | refine hK _ _ _ ?_ | done);clear K' hK;refine aw_gen (fun u X nz=>u 1=rowT Man.cells L∧u 2=rowT Pl.cells t∧u 3=.ptr 0 0∧u 7=.row 2 t.length∧u 8=bV mr∧u 9=iV n∧u 10=.row nx E.length∧u 11=bV ok0∧u 12=iV 0∧nz=nx+1∧X 0=some (.var 27 root.cells)∧X 2=some (.row 4 (flat bC on'))∧X nx=some (.row 35 (flat Dep.cells E))) ?_ ?_
   ·exact⟨by simp[s1],by simp[s2],by simp[s3],by simp[s7],by simp[s8],by simp[s9],by simp,by simp,by simp,by simp,by simp[e0,g0],by simp[e2,g2],by simp⟩
   clear s1 s2 s3 s7 s8 s9 g0 g2;rintro s X nz ⟨s1,s2,s3,s7,s8,s9,s10,s11,s12,rfl,g0,g2,gq⟩;generalize hq:nx=q at*;clear hq G hEd1;(repeat with_reducible refine aA ?_);(first | with_reducible refine aw_block ?_ | with_reducible refine aw_toS (aw_block ?_));refine aw_loop (fun s G nx=>s 1=rowT Man.cells L∧s 2=rowT Pl.cells t∧s 3=.ptr 0 0∧s 7=.row 2 t.length∧s 9=iV n∧s 10=.row q E.length∧s 11=bV ok0∧G 0=some (.var 27 root.cells)∧G q=some (.row 35 (flat Dep.cells E))∧q<nx∧∃(i:Nat) (on':List Bool) (mr:Bool),s 12=iV i∧i≤E.length∧s 8=bV mr∧G 2=some (.row 4 (flat bC on'))∧Mk root L t on'∧offN on'≤offN on∧(mr=true→offN on'<offN on)∧(mr=false→EdC root L t n on'∧(nth on' n=true→∀d∈E.take i,∀k:Nat,toN t n d=k→nth on' k=true))) (fun s _ _=>match s 12 with | .v (.int _ n)=>E.length-n.toNat | _=>0) ?_ ?_
   ·exact⟨s1,s2,s3,s7,s9,s10,s11,g0,gq,by omega,0,on',mr,by simp[s12],by omega,s8,g2,hM,ho,hlt,fun h=>⟨hE h,fun _ d hd=>by simp at hd⟩⟩
   clear s1 s2 s3 s7 s8 s9 s10 s11 s12 g0 g2 gq hM ho hlt hE;rintro s G nx-⟨s1,s2,s3,s7,s9,s10,s11,g0,gq,hqn,i,on',mr,s12,hi,s8,g2,hM,ho,hlt,hE⟩;have hw2:IntKind.i64.wrap (↑i+1)=((i+1:Nat):Int):=wrapS (by omega);have hn3:n<on'.length:=(by rw[hM.len];exact hn2);have hn4:(n:Int)<t.length:=(by omega);by_cases hgo:i<E.length∧nth on' n=true
   ·obtain⟨hi2,hb⟩:=hgo;have hi4:(i:Int)<E.length:=(by omega);have hok:ok0=true:=by
     cases ok0 with
     | true=>rfl
     | false=>rw[hEs1 rfl]at hi2;simp at hi2
    subst hok;(repeat with_reducible refine aA ?_);(first | with_reducible refine aR fun K' hK=> ?_ | with_reducible refine aS fun K' hK=> ?_);simp[s7,s9,s10,s11,s12,gq,g2,hi2,hi4,hn3,hn4,hb];(first | refine hK _ _ _ ?_ | done);clear K' hK;repeat with_reducible refine aA ?_
    (first | with_reducible refine aC fun A B hA hB=> ?_ | with_reducible refine aD fun A B hA hB=> ?_)
    simp;refine⟨fun hc=>hA ?_,fun hc=>hB ?_⟩<;>clear hA hB A B<;>(try (simp at hc;done))<;>(try (exfalso;simp at hc;omega))<;>clear hc<;>(try with_reducible refine aK ?_);have hmem:=nth_mem hi2;have hst:E.take (i+1)=E.take i++[nth E i]:=by
     rw[List.take_add_one,List.getElem?_eq_getElem hi2,←nth_eq hi2];rfl
    (repeat with_reducible refine aA ?_);(first | with_reducible refine aw_block ?_ | with_reducible refine aw_toS (aw_block ?_));(repeat with_reducible refine aA ?_);(first | with_reducible refine aR fun K' hK=> ?_ | with_reducible refine aS fun K' hK=> ?_);simp[s2,s9,s10,s12,gq,hi2];refine acall_flat (hLd1 (nth E i)) rfl (by first | rfl | (simp;done) | (simp;rfl) | (simp;exact⟨rfl,rfl⟩)) ?_;simp;(first | refine hK _ _ _ ?_ | done);clear K' hK;have hrE1:=hrE _ hmem;generalize hd:nth E i=d at*;generalize hz:toN t n d=z at*;by_cases hz0:0≤z
    ·obtain⟨k,rfl⟩:∃k:Nat,z=k:=⟨z.toNat,by omega⟩;have hk0:(0:Int)≤k:=(by omega);have hkr:=hrE1 k rfl (hM.sub n hb);have hkl:=rch_lt g hkr;(repeat with_reducible refine aA ?_);(first | with_reducible refine aR fun K' hK=> ?_ | with_reducible refine aS fun K' hK=> ?_);simp[s2,s7,hk0];refine acall_inlK (mark162 g hkl (y:=k) rfl g2 hM.len (by omega) ?_);rintro Y ny on3 hny hY yB hs;have hM3:=mk_set g hM hkr hs;have y0:Y 0=some (.var 27 root.cells):=(by rw[hY 0 (by omega) (by omega)];exact g0);have yq:Y q=some (.row 35 (flat Dep.cells E)):=by
      by_cases e:q=2
      ·subst e;rw[g2]at gq;injection gq with gq;injection gq with gq;cases gq
      ·rw[hY q (by omega) e];exact gq
     cases hb2:nth on' k with
     | true=>
      have e3:=set_same hM hb2 hs;subst e3;simp[thenK,hb2];(first | refine hK _ _ _ ?_ | done);clear K' hK;repeat with_reducible refine aA ?_
      (first | with_reducible refine aC fun A B hA hB=> ?_ | with_reducible refine aD fun A B hA hB=> ?_)
      simp;refine⟨fun hc=>hA ?_,fun hc=>hB ?_⟩<;>clear hA hB A B<;>(try (simp at hc;done))<;>(try (exfalso;simp at hc;omega))<;>clear hc<;>(try with_reducible refine aK ?_);(first | with_reducible refine aw_skipL ?_ | skip);refine blockK_normal ?_;(repeat with_reducible refine aA ?_);(first | with_reducible refine aR fun K' hK=> ?_ | with_reducible refine aS fun K' hK=> ?_);simp[s12,hw2];(first | refine hK _ _ _ ?_ | done);clear K' hK;refine aw_skipL (loopK_normal ?_ ?_)
      ·exact⟨by simp[s1],by simp[s2],by simp[s3],by simp[s7],by simp[s9],by simp[s10],by simp[s11],y0,yq,by omega,i+1,on3,mr,by simp[hw2],by omega,by simp[s8],yB,hM,ho,hlt,fun h=>⟨(hE h).1,fun hq d' hd' k' hk'=>by
        rw[hst]at hd';rcases List.mem_append.1 hd' with h1 | h1
        ·exact(hE h).2 hq d' h1 k' hk'
        ·simp at h1;subst h1;rw[hz]at hk';have:k=k':=(by omega);subst this;exact hb2⟩⟩
      ·simp[s12,hw2];omega
     | false=>
      have hless:=set_less g hM.len hkl hb2 hs;simp[thenK,hb2];(first | refine hK _ _ _ ?_ | done);clear K' hK;repeat with_reducible refine aA ?_
      (first | with_reducible refine aC fun A B hA hB=> ?_ | with_reducible refine aD fun A B hA hB=> ?_)
      simp;refine⟨fun hc=>hA ?_,fun hc=>hB ?_⟩<;>clear hA hB A B<;>(try (simp at hc;done))<;>(try (exfalso;simp at hc;omega))<;>clear hc<;>(try with_reducible refine aK ?_);(repeat with_reducible refine aA ?_);(first | with_reducible refine aR fun K' hK=> ?_ | with_reducible refine aS fun K' hK=> ?_);simp;(first | refine hK _ _ _ ?_ | done);clear K' hK;(first | with_reducible refine aw_skipL ?_ | skip);refine blockK_normal ?_;(repeat with_reducible refine aA ?_);(first | with_reducible refine aR fun K' hK=> ?_ | with_reducible refine aS fun K' hK=> ?_);simp[s12,hw2];(first | refine hK _ _ _ ?_ | done);clear K' hK;refine aw_skipL (loopK_normal ?_ ?_)
      ·exact⟨by simp[s1],by simp[s2],by simp[s3],by simp[s7],by simp[s9],by simp[s10],by simp[s11],y0,yq,by omega,i+1,on3,true,by simp[hw2],by omega,by simp,yB,hM3,by omega,fun _=>by omega,nofun⟩
      ·simp[s12,hw2];omega
    ·(repeat with_reducible refine aA ?_);(first | with_reducible refine aR fun K' hK=> ?_ | with_reducible refine aS fun K' hK=> ?_);simp[s2,s7,hz0];(first | refine hK _ _ _ ?_ | done);clear K' hK;repeat with_reducible refine aA ?_
     (first | with_reducible refine aC fun A B hA hB=> ?_ | with_reducible refine aD fun A B hA hB=> ?_)
     simp;refine⟨fun hc=>hA ?_,fun hc=>hB ?_⟩<;>clear hA hB A B<;>(try (simp at hc;done))<;>(try (exfalso;simp at hc;omega))<;>clear hc<;>(try with_reducible refine aK ?_);(first | with_reducible refine aw_skipL ?_ | skip);refine blockK_normal ?_;(repeat with_reducible refine aA ?_);(first | with_reducible refine aR fun K' hK=> ?_ | with_reducible refine aS fun K' hK=> ?_);simp[s12,hw2];(first | refine hK _ _ _ ?_ | done);clear K' hK;refine aw_skipL (loopK_normal ?_ ?_)
     ·exact⟨by simp[s1],by simp[s2],by simp[s3],by simp[s7],by simp[s9],by simp[s10],by simp[s11],by simp[g0],by simp[gq],by omega,i+1,on',mr,by simp[hw2],by omega,by simp[s8],by simp[g2],hM,ho,hlt,fun h=>⟨(hE h).1,fun hq d' hd' k' hk'=>by
       rw[hst]at hd';rcases List.mem_append.1 hd' with h1 | h1
       ·exact(hE h).2 hq d' h1 k' hk'
       ·simp at h1;subst h1;rw[hz]at hk';omega⟩⟩
     ·simp[s12,hw2];omega
   ·have hfin:(mr=false→EdC root L t (n+1) on'):=fun h=>by
     refine(hEC on').2 ⟨(hE h).1,fun hq d hd k hk=> ?_⟩;have:i=E.length:=by
      rcases Nat.lt_or_ge i E.length with h1 | h1
      ·exact absurd ⟨h1,hq⟩ hgo
      ·omega
     subst this;rw[List.take_length]at hE;exact(hE h).2 hq d hd k hk
    by_cases hi2:i<E.length
    ·have hi4:(i:Int)<E.length:=(by omega);have hok:ok0=true:=by
      cases ok0 with
      | true=>rfl
      | false=>rw[hEs1 rfl]at hi2;simp at hi2
     subst hok;have hb:nth on' n=false:=by
      cases hq:nth on' n with
      | true=>exact absurd ⟨hi2,hq⟩ hgo
      | false=>rfl
     (repeat with_reducible refine aA ?_);(first | with_reducible refine aR fun K' hK=> ?_ | with_reducible refine aS fun K' hK=> ?_);simp[s7,s9,s10,s11,s12,gq,g2,hi2,hi4,hn3,hn4,hb];(first | refine hK _ _ _ ?_ | done);clear K' hK;repeat with_reducible refine aA ?_
     (first | with_reducible refine aC fun A B hA hB=> ?_ | with_reducible refine aD fun A B hA hB=> ?_)
     simp;refine⟨fun hc=>hA ?_,fun hc=>hB ?_⟩<;>clear hA hB A B<;>(try (simp at hc;done))<;>(try (exfalso;simp at hc;omega))<;>clear hc<;>(try with_reducible refine aK ?_);(repeat with_reducible refine aA ?_);(first | with_reducible refine aw_exit ?_ | with_reducible refine aw_exitL ?_);refine loopK_exit (blockK_exit ?_);(first | with_reducible refine aw_skipL ?_ | skip);refine blockK_normal ?_;(repeat with_reducible refine aA ?_);(first | with_reducible refine aR fun K' hK=> ?_ | with_reducible refine aS fun K' hK=> ?_);simp[s9,hw];(first | refine hK _ _ _ ?_ | done);clear K' hK;refine aw_skipL (loopK_normal ?_ ?_)
     ·exact⟨by simp[s1],by simp[s2],by simp[s3],by simp[s7],by simp[g0],by omega,n+1,on',mr,by simp[hw],by omega,by simp[s8],by simp[g2],hM,ho,hlt,hfin⟩
     ·simp[o9,hw];omega
    ·have hi4:¬(i:Int)<E.length:=(by omega);(repeat with_reducible refine aA ?_);(first | with_reducible refine aR fun K' hK=> ?_ | with_reducible refine aS fun K' hK=> ?_);simp[s10,s11,s12,gq,hi4];(first | refine hK _ _ _ ?_ | done);clear K' hK;repeat with_reducible refine aA ?_
     (first | with_reducible refine aC fun A B hA hB=> ?_ | with_reducible refine aD fun A B hA hB=> ?_)
     simp;refine⟨fun hc=>hA ?_,fun hc=>hB ?_⟩<;>clear hA hB A B<;>(try (simp at hc;done))<;>(try (exfalso;simp at hc;omega))<;>clear hc<;>(try with_reducible refine aK ?_);(repeat with_reducible refine aA ?_);(first | with_reducible refine aw_exit ?_ | with_reducible refine aw_exitL ?_);refine loopK_exit (blockK_exit ?_);(first | with_reducible refine aw_skipL ?_ | skip);refine blockK_normal ?_;(repeat with_reducible refine aA ?_);(first | with_reducible refine aR fun K' hK=> ?_ | with_reducible refine aS fun K' hK=> ?_);simp[s9,hw];(first | refine hK _ _ _ ?_ | done);clear K' hK;refine aw_skipL (loopK_normal ?_ ?_)
     ·exact⟨by simp[s1],by simp[s2],by simp[s3],by simp[s7],by simp[g0],by omega,n+1,on',mr,by simp[hw],by omega,by simp[s8],by simp[g2],hM,ho,hlt,hfin⟩
     ·simp[o9,hw];omega
  ·(repeat with_reducible refine aA ?_);(first | with_reducible refine aw_exit ?_ | with_reducible refine aw_exitL ?_);refine loopK_exit (blockK_exit ?_);have hne:n=t.length:=(by omega);subst hne;(first | with_reducible refine aw_skipL ?_ | skip);refine blockK_normal ?_;refine aw_skipL (loopK_less (2*offN on'+if mr=true then 1 else 0) ?_ ?_)
   ·cases mr with
    | true=>have:=hlt rfl;simp;omega
    | false=>simp;omega
   ·exact⟨by simp[s1],by simp[s2],by simp[s3],by simp[s7],by simp[g0],by omega,on',mr,by simp[s8],by simp[g2],hM,hE,rfl⟩
set_option maxRecDepth 100000
set_option maxHeartbeats 4000000
theorem flatG_J {α:Type} {c:α→List AV} (h:∀a,(c a).all plainC=true) (t:TypeId) (l:List α):flatJ [(t,flat c l)]=true:=by
 have:(flat c l).all plainC=true:=by
  unfold flat;rw[List.all_flatMap];exact List.all_eq_true.2 fun a _=>h a
 simp only[flatJ,List.all_cons,this];rfl
theorem iC_J (t:TypeId) (l:List Int):flatJ [(t,flat iC l)]=true:=flatG_J (fun _=>rfl) t l
theorem pl_J (t:TypeId) (l:List Pl):flatJ [(t,flat Pl.cells l)]=true:=flatG_J (fun _=>rfl) t l
theorem reach_le {root:Man} {L:List Man} {t:List Pl} :(reachL root L t).length≤t.length:=by
 unfold reachL;split
 ·rw[List.length_map];exact rq_le
 ·simp
theorem prune_off {root:Man} {L:List Man} {t:List Pl} (h:¬codeV root L t=0):pruneT root L t=[]:=by unfold pruneT;rw[if_neg h]
theorem prune51_ok (root:Man) (L:List Man) (t:List Pl) (h:ValSz root L t):CallsOK Tryz.prog 51 [.agg root.cells,rowT Man.cells L,rowT Pl.cells t] (.tup [.row 0 (pruneT root L t).length,iV (codeV root L t)]) [(58,flat Pl.cells (pruneT root L t))]:=by
 have ht:=h.2.2.2.2.1;refine callsOK mixed Tryz.call51 Tryz.func51 rfl (by rw[Tryz.ntmps51];simp) ?_ rfl;rw[Tryz.ntmps51];have hR:=reached49_ok root L t h;simp only[reachR]at hR;have hl:(reachL root L t).length≤1000000000:=Nat.le_trans reach_le ht.1;have hKp:=keep56_ok t ht (reachL root L t) hl;have c3:Tryz.prog.cellsOf 3=1:=(by kernel_rfl);(repeat with_reducible refine aA ?_);(first | with_reducible refine aR fun K' hK=> ?_ | with_reducible refine aS fun K' hK=> ?_);simp;(first | refine hK _ _ _ ?_ | done);clear K' hK;(repeat with_reducible refine aA ?_);(first | with_reducible refine aR fun K' hK=> ?_ | with_reducible refine aS fun K' hK=> ?_);simp;refine acall_new hR (by first | rfl | (simp;done) | (simp;rfl) | (simp;exact⟨rfl,rfl⟩)) ?_;simp[addJ_one];(first | refine hK _ _ _ ?_ | done);clear K' hK;by_cases c0:codeV root L t=0
 ·obtain⟨e1,e2⟩:=keep_reach c0;rw[e1,e2]at hKp;generalize reachL root L t=l at*;rw[c0];(repeat with_reducible refine aA ?_);(first | with_reducible refine aR fun K' hK=> ?_ | with_reducible refine aS fun K' hK=> ?_);simp[c0];(first | refine hK _ _ _ ?_ | done);clear K' hK;repeat with_reducible refine aA ?_
  (first | with_reducible refine aC fun A B hA hB=> ?_ | with_reducible refine aD fun A B hA hB=> ?_)
  simp;refine⟨fun hc=>hA ?_,fun hc=>hB ?_⟩<;>clear hA hB A B<;>(try (simp at hc;done))<;>(try (exfalso;simp at hc;omega))<;>clear hc<;>(try with_reducible refine aK ?_);(repeat with_reducible refine aA ?_);(first | with_reducible refine aR fun K' hK=> ?_ | with_reducible refine aS fun K' hK=> ?_);simp[c3];refine acall_new hKp (by first | rfl | (simp[c3];done) | (simp[c3];rfl) | (simp[c3];exact⟨rfl,rfl⟩)) ?_;simp[addJ_one,c3];(first | refine hK _ _ _ ?_ | done);clear K' hK;(repeat with_reducible refine aA ?_);(first | with_reducible refine aw_ret ?_ | with_reducible refine aw_retL ?_ | with_reducible refine aw_skipL ?_);simp[blockK,loopK,Post,resA,res1,expT,expA,exp1,expM,expL,okT,okA,ok1,rowOf,Tryz.f51]
 ·rw[prune_off c0];(repeat with_reducible refine aA ?_);(first | with_reducible refine aR fun K' hK=> ?_ | with_reducible refine aS fun K' hK=> ?_);simp[c0];(first | refine hK _ _ _ ?_ | done);clear K' hK;repeat with_reducible refine aA ?_
  (first | with_reducible refine aC fun A B hA hB=> ?_ | with_reducible refine aD fun A B hA hB=> ?_)
  simp;refine⟨fun hc=>hA ?_,fun hc=>hB ?_⟩<;>clear hA hB A B<;>(try (simp at hc;done))<;>(try (exfalso;simp at hc;omega))<;>clear hc<;>(try with_reducible refine aK ?_);(repeat with_reducible refine aA ?_);(first | with_reducible refine aR fun K' hK=> ?_ | with_reducible refine aS fun K' hK=> ?_);simp;(first | refine hK _ _ _ ?_ | done);clear K' hK;(repeat with_reducible refine aA ?_);(first | with_reducible refine aw_ret ?_ | with_reducible refine aw_retL ?_ | with_reducible refine aw_skipL ?_);simp[blockK,loopK,Post,resA,res1,expT,expA,exp1,expM,expL,okT,okA,ok1,rowOf,Tryz.f51]
set_option maxRecDepth 100000
set_option maxHeartbeats 4000000
theorem reach50_ok (root:Man) (L:List Man) (t:List Pl) (hsz:ValSz root L t):CallsOK Tryz.prog 50 [.agg root.cells,rowT Man.cells L,rowT Pl.cells t] (.tup [.row 0 (reachL root L t).length,iV (codeV root L t)]) [(3,flat iC (reachL root L t))]:=by
 refine callsOK mixed Tryz.call50 Tryz.func50 rfl (by rw[Tryz.ntmps50];simp) ?_ rfl;rw[Tryz.ntmps50];have htl:=hsz.2.2.2.2.1.1;(repeat with_reducible refine aA ?_);(first | with_reducible refine aR fun K' hK=> ?_ | with_reducible refine aS fun K' hK=> ?_);simp;(first | refine hK _ _ _ ?_ | done);clear K' hK;(repeat with_reducible refine aA ?_);(first | with_reducible refine aR fun K' hK=> ?_ | with_reducible refine aS fun K' hK=> ?_);simp;refine acall_new (wrong36_ok root L t hsz) (by first | rfl | (simp;done) | (simp;rfl) | (simp;exact⟨rfl,rfl⟩)) ?_;simp[addJ_one];(first | refine hK _ _ _ ?_ | done);clear K' hK;by_cases hc:codeV root L t=0
 ·have g:Good t:=check_iff.1 (codeV_zero.1 hc).2.2;have hR:reachL root L t=intsN (keptQ (rchB root L t) t.length):=(by unfold reachL;rw[if_pos hc];rfl);rw[hR,hc];(repeat with_reducible refine aA ?_);(first | with_reducible refine aR fun K' hK=> ?_ | with_reducible refine aS fun K' hK=> ?_);simp;(first | refine hK _ _ _ ?_ | done);clear K' hK;repeat with_reducible refine aA ?_
  (first | with_reducible refine aC fun A B hA hB=> ?_ | with_reducible refine aD fun A B hA hB=> ?_)
  simp;refine⟨fun hc=>hA ?_,fun hc=>hB ?_⟩<;>clear hA hB A B<;>(try (simp at hc;done))<;>(try (exfalso;simp at hc;omega))<;>clear hc<;>(try with_reducible refine aK ?_);(repeat with_reducible refine aA ?_);(first | with_reducible refine aR fun K' hK=> ?_ | with_reducible refine aS fun K' hK=> ?_);simp;refine acall_new (marks107_ok root L t hsz g) (by first | rfl | (simp;done) | (simp;rfl) | (simp;exact⟨rfl,rfl⟩)) ?_;simp[addJ_one];(first | refine hK _ _ _ ?_ | done);clear K' hK;have hni:∀i,i<t.length→nth ((List.range t.length).map (rchB root L t)) i=rchB root L t i:=fun i hi=>(by rw[nth_eq (by simpa using hi)];simp);have hol:((List.range t.length).map (rchB root L t)).length=t.length:=(by simp);generalize (List.range t.length).map (rchB root L t)=on at*;(repeat with_reducible refine aA ?_);(first | with_reducible refine aR fun K' hK=> ?_ | with_reducible refine aS fun K' hK=> ?_);simp;(first | refine hK _ _ _ ?_ | done);clear K' hK;(repeat with_reducible refine aA ?_);(first | with_reducible refine aR fun K' hK=> ?_ | with_reducible refine aS fun K' hK=> ?_);simp;(first | refine hK _ _ _ ?_ | done);clear K' hK;refine aw_gen (fun u X nz=>u 10=.row 3 t.length∧u 11=.row 4 0∧u 12=iV 0∧nz=5∧X 3=some (.row 4 (flat bC on))∧X 4=some (.row 3 [])) ?_ ?_
  ·exact⟨by simp,by simp,by simp,by simp,by simp,by simp⟩
  rintro s G nx ⟨s10,s11,s12,rfl,g3,g4⟩;(repeat with_reducible refine aA ?_);(first | with_reducible refine aw_block ?_ | with_reducible refine aw_toS (aw_block ?_));refine aw_loop (fun s G nx=>s 10=.row 3 t.length∧G 3=some (.row 4 (flat bC on))∧3<nx∧∃(i q:Nat),s 12=iV i∧i≤t.length∧s 11=.row q (intsN (keptQ (rchB root L t) i)).length∧G q=some (.row 3 (flat iC (intsN (keptQ (rchB root L t) i))))∧¬q=3∧q<nx) (fun s _ _=>match s 12 with | .v (.int _ n)=>t.length-n.toNat | _=>0) ?_ ?_
  ·exact⟨s10,g3,by omega,0,4,by simp[s12],by omega,by simp[s11,intsN,keptQ],by simp[g4,intsN,keptQ],by omega,by omega⟩
  clear s10 s11 s12 g3 g4 s G;rintro s G nx-⟨s10,g3,h3,i,q,s12,hi,s11,gq,hq4,hqn⟩;have hw:IntKind.i64.wrap (↑i+1)=((i+1:Nat):Int):=wrapS (by omega);(repeat with_reducible refine aA ?_);(first | with_reducible refine aR fun K' hK=> ?_ | with_reducible refine aS fun K' hK=> ?_);simp[s10,s12,g3];(first | refine hK _ _ _ ?_ | done);clear K' hK;(repeat with_reducible refine aA ?_);(first | with_reducible refine aC fun A B hA hB=> ?_ | with_reducible refine aD fun A B hA hB=> ?_);simp;refine⟨fun hi2=>hA ?_,fun hi2=>hB ?_⟩<;>clear hA hB A B<;>(try simp at hi2)<;>(try with_reducible refine aK ?_)
  ·have hi3:i<on.length:=(by omega);have hi4:(i:Int)<t.length:=(by omega);have hsn:=kq_succ (q:=rchB root L t) (k:=i);have hr:=hni i hi2;have hkl:(keptQ (rchB root L t) i).length≤i:=rq_le;(repeat with_reducible refine aA ?_);(first | with_reducible refine aw_block ?_ | with_reducible refine aw_toS (aw_block ?_));(repeat with_reducible refine aA ?_);(first | with_reducible refine aR fun K' hK=> ?_ | with_reducible refine aS fun K' hK=> ?_);simp[s10,s12,g3,hi3,hi4,hi2,hr];(first | refine hK _ _ _ ?_ | done);clear K' hK;generalize hacc:keptQ (rchB root L t) i=acc at*;cases hb:rchB root L t i with
   | false=>
    have hsn2:keptQ (rchB root L t) (i+1)=acc:=(by rw[hsn,hb];simp);repeat with_reducible refine aA ?_
    (first | with_reducible refine aC fun A B hA hB=> ?_ | with_reducible refine aD fun A B hA hB=> ?_)
    simp;refine⟨fun hc=>hA ?_,fun hc=>hB ?_⟩<;>clear hA hB A B<;>(try (simp at hc;done))<;>(try (exfalso;simp at hc;omega))<;>clear hc<;>(try with_reducible refine aK ?_);(first | with_reducible refine aw_skipL ?_ | skip);refine blockK_normal ?_;(repeat with_reducible refine aA ?_);(first | with_reducible refine aR fun K' hK=> ?_ | with_reducible refine aS fun K' hK=> ?_);simp[s12,hw];(first | refine hK _ _ _ ?_ | done);clear K' hK;refine aw_skipL (loopK_normal ?_ ?_)
    ·exact⟨by simp[s10],by simp[g3],by omega,i+1,q,by simp[hw],by omega,by simp[s11,hsn2],by simp[gq,hsn2],hq4,by omega⟩
    ·simp[s12,hw];omega
   | true=>
    have hsn2:intsN (keptQ (rchB root L t) (i+1))=intsN acc++[(i:Int)]:=(by rw[hsn,hb,if_pos rfl,intsN_snoc]);have b1:acc.length≤9223372036854775806:=(by omega);have b2:(acc.length+1)*8≤140737488355328:=(by omega);have n1:¬q=nx:=(by omega);have n2:¬nx=q:=(by omega);have n3:¬3=nx:=(by omega);have n4:¬3=nx+1:=(by omega);have n5:¬3=q:=fun e=>hq4 e.symm;rw[intsN_len]at s11;repeat with_reducible refine aA ?_
    (first | with_reducible refine aC fun A B hA hB=> ?_ | with_reducible refine aD fun A B hA hB=> ?_)
    simp;refine⟨fun hc=>hA ?_,fun hc=>hB ?_⟩<;>clear hA hB A B<;>(try (simp at hc;done))<;>(try (exfalso;simp at hc;omega))<;>clear hc<;>(try with_reducible refine aK ?_);(repeat with_reducible refine aA ?_);(first | with_reducible refine aR fun K' hK=> ?_ | with_reducible refine aS fun K' hK=> ?_);simp[s11,s12,gq,b1,b2,n1,n2,treeOf_row,srcOf_row];(first | refine hK _ _ _ ?_ | done);clear K' hK;(first | with_reducible refine aw_skipL ?_ | skip);refine blockK_normal ?_;(repeat with_reducible refine aA ?_);(first | with_reducible refine aR fun K' hK=> ?_ | with_reducible refine aS fun K' hK=> ?_);simp[s12,hw];(first | refine hK _ _ _ ?_ | done);clear K' hK;refine aw_skipL (loopK_normal ?_ ?_)
    ·exact⟨by simp[s10],by simp[g3,n3,n4,n5],by omega,i+1,nx+1,by simp[hw],by omega,by simp[hsn2],by simp[hsn2,←flat_snoc];rfl,by omega,by omega⟩
    ·simp[s12,hw];omega
  ·(repeat with_reducible refine aA ?_);(first | with_reducible refine aw_exit ?_ | with_reducible refine aw_exitL ?_);refine loopK_exit (blockK_exit ?_);have hie:i=t.length:=(by omega);subst hie;(repeat with_reducible refine aA ?_);(first | with_reducible refine aR fun K' hK=> ?_ | with_reducible refine aS fun K' hK=> ?_);simp[s11];(first | refine hK _ _ _ ?_ | done);clear K' hK;(repeat with_reducible refine aA ?_);(first | with_reducible refine aw_ret ?_ | with_reducible refine aw_retL ?_ | with_reducible refine aw_skipL ?_);simp[blockK,loopK,Post,resA,res1,expT,expA,exp1,expM,expL,okT,okA,ok1,rowOf,Tryz.f50,gq]
 ·have hR:reachL root L t=[]:=(by unfold reachL;rw[if_neg hc]);rw[hR];(repeat with_reducible refine aA ?_);(first | with_reducible refine aR fun K' hK=> ?_ | with_reducible refine aS fun K' hK=> ?_);simp[hc];(first | refine hK _ _ _ ?_ | done);clear K' hK;repeat with_reducible refine aA ?_
  (first | with_reducible refine aC fun A B hA hB=> ?_ | with_reducible refine aD fun A B hA hB=> ?_)
  simp;refine⟨fun hc=>hA ?_,fun hc=>hB ?_⟩<;>clear hA hB A B<;>(try (simp at hc;done))<;>(try (exfalso;simp at hc;omega))<;>clear hc<;>(try with_reducible refine aK ?_);(repeat with_reducible refine aA ?_);(first | with_reducible refine aR fun K' hK=> ?_ | with_reducible refine aS fun K' hK=> ?_);simp;(first | refine hK _ _ _ ?_ | done);clear K' hK;(repeat with_reducible refine aA ?_);(first | with_reducible refine aw_ret ?_ | with_reducible refine aw_retL ?_ | with_reducible refine aw_skipL ?_);simp[blockK,loopK,Post,resA,res1,expT,expA,exp1,expM,expL,okT,okA,ok1,rowOf,Tryz.f50]
theorem prune52_ok (root:Man) (L:List Man) (t:List Pl) (hsz:ValSz root L t):CallsOK Tryz.prog 52 [.agg root.cells,rowT Man.cells L,rowT Pl.cells t] (.tup [.row 0 (pruneT root L t).length,iV (codeV root L t)]) [(58,flat Pl.cells (pruneT root L t))]:=by
 refine callsOK mixed Tryz.call52 Tryz.func52 rfl (by rw[Tryz.ntmps52];simp) ?_ rfl;rw[Tryz.ntmps52];have htl:=hsz.2.2.2.2.1.1;have c3:Tryz.prog.cellsOf 3=1:=(by kernel_rfl);have hl:(reachL root L t).length≤1000000000:=Nat.le_trans reach_le htl;(repeat with_reducible refine aA ?_);(first | with_reducible refine aR fun K' hK=> ?_ | with_reducible refine aS fun K' hK=> ?_);simp;(first | refine hK _ _ _ ?_ | done);clear K' hK;(repeat with_reducible refine aA ?_);(first | with_reducible refine aR fun K' hK=> ?_ | with_reducible refine aS fun K' hK=> ?_);simp;refine acall_new (reach50_ok root L t hsz) (by first | rfl | (simp;done) | (simp;rfl) | (simp;exact⟨rfl,rfl⟩)) ?_;simp[addJ_one];(first | refine hK _ _ _ ?_ | done);clear K' hK;by_cases c0:codeV root L t=0
 ·have g:Good t:=check_iff.1 (codeV_zero.1 c0).2.2;obtain⟨e1,e2⟩:=keep_reach c0;have hcl:Clo t (qL (reachL root L t)):=by
   have h:=e1;unfold keepCode at h;rw[if_neg (by simp[(codeV_zero.1 c0).2.2])]at h;split at h
   ·rename_i hk;exact((keepOk_iff g).1 hk).2
   ·cases h
  have hKp:=kept108_ok t g (reachL root L t) hl hcl;have e3:keepT t (qL (reachL root L t)) t.length=pruneT root L t:=(by rw[←e2];unfold keepR;rw[if_pos e1]);rw[e3]at hKp;generalize reachL root L t=l at*;rw[c0];(repeat with_reducible refine aA ?_);(first | with_reducible refine aR fun K' hK=> ?_ | with_reducible refine aS fun K' hK=> ?_);simp[c0];(first | refine hK _ _ _ ?_ | done);clear K' hK;repeat with_reducible refine aA ?_
  (first | with_reducible refine aC fun A B hA hB=> ?_ | with_reducible refine aD fun A B hA hB=> ?_)
  simp;refine⟨fun hc=>hA ?_,fun hc=>hB ?_⟩<;>clear hA hB A B<;>(try (simp at hc;done))<;>(try (exfalso;simp at hc;omega))<;>clear hc<;>(try with_reducible refine aK ?_);(repeat with_reducible refine aA ?_);(first | with_reducible refine aR fun K' hK=> ?_ | with_reducible refine aS fun K' hK=> ?_);simp[c3];refine acall_new hKp (by first | rfl | (simp[c3];done) | (simp[c3];rfl) | (simp[c3];exact⟨rfl,rfl⟩)) ?_;simp[addJ_one,c3];(first | refine hK _ _ _ ?_ | done);clear K' hK;(repeat with_reducible refine aA ?_);(first | with_reducible refine aw_ret ?_ | with_reducible refine aw_retL ?_ | with_reducible refine aw_skipL ?_);simp[blockK,loopK,Post,resA,res1,expT,expA,exp1,expM,expL,okT,okA,ok1,rowOf,Tryz.f52]
 ·rw[prune_off c0];(repeat with_reducible refine aA ?_);(first | with_reducible refine aR fun K' hK=> ?_ | with_reducible refine aS fun K' hK=> ?_);simp[c0];(first | refine hK _ _ _ ?_ | done);clear K' hK;repeat with_reducible refine aA ?_
  (first | with_reducible refine aC fun A B hA hB=> ?_ | with_reducible refine aD fun A B hA hB=> ?_)
  simp;refine⟨fun hc=>hA ?_,fun hc=>hB ?_⟩<;>clear hA hB A B<;>(try (simp at hc;done))<;>(try (exfalso;simp at hc;omega))<;>clear hc<;>(try with_reducible refine aK ?_);(repeat with_reducible refine aA ?_);(first | with_reducible refine aR fun K' hK=> ?_ | with_reducible refine aS fun K' hK=> ?_);simp;(first | refine hK _ _ _ ?_ | done);clear K' hK;(repeat with_reducible refine aA ?_);(first | with_reducible refine aw_ret ?_ | with_reducible refine aw_retL ?_ | with_reducible refine aw_skipL ?_);simp[blockK,loopK,Post,resA,res1,expT,expA,exp1,expM,expL,okT,okA,ok1,rowOf,Tryz.f52]
theorem keep57_ok (t:List Pl) (ht:OKs t) (l:List Int) (hl:l.length≤1000000000):CallsOK Tryz.prog 57 [rowT Pl.cells t,rowT iC l] (.tup [.row 0 (keepR t l).length,iV (keepCode t l)]) [(58,flat Pl.cells (keepR t l))]:=by
 refine callsOK mixed Tryz.call57 Tryz.func57 rfl (by rw[Tryz.ntmps57];simp) ?_ rfl;rw[Tryz.ntmps57];have hH:=fun n=>has111_ok l hl n;(repeat with_reducible refine aA ?_);(first | with_reducible refine aR fun K' hK=> ?_ | with_reducible refine aS fun K' hK=> ?_);simp;(first | refine hK _ _ _ ?_ | done);clear K' hK;(repeat with_reducible refine aA ?_);(first | with_reducible refine aR fun K' hK=> ?_ | with_reducible refine aS fun K' hK=> ?_);simp;refine acall_flat (check25_ok t ht) rfl (by simp) ?_;simp;(first | refine hK _ _ _ ?_ | done);clear K' hK;by_cases c0:checkN t=0
 ·have g:Good t:=check_iff.1 c0;(repeat with_reducible refine aA ?_);(first | with_reducible refine aR fun K' hK=> ?_ | with_reducible refine aS fun K' hK=> ?_);simp[c0];(first | refine hK _ _ _ ?_ | done);clear K' hK;repeat with_reducible refine aA ?_
  (first | with_reducible refine aC fun A B hA hB=> ?_ | with_reducible refine aD fun A B hA hB=> ?_)
  simp[c0];refine⟨fun hc=>hA ?_,fun hc=>hB ?_⟩<;>clear hA hB A B<;>(try (simp at hc;done))<;>(try (exfalso;simp at hc;omega))<;>clear hc<;>(try with_reducible refine aK ?_);have bad:keepOk t l=false→keepCode t l=151∧keepR t l=[]:=fun h1=>by
   have h2:keepCode t l=151:=(by unfold keepCode;rw[if_neg (by simp[c0]),if_neg (by simp[h1])]);exact⟨h2,by unfold keepR;rw[h2];rfl⟩
  (repeat with_reducible refine aA ?_);(first | with_reducible refine aR fun K' hK=> ?_ | with_reducible refine aS fun K' hK=> ?_);simp;(first | refine hK _ _ _ ?_ | done);clear K' hK;(repeat with_reducible refine aA ?_);(first | with_reducible refine aw_block ?_ | with_reducible refine aw_toS (aw_block ?_));refine aw_loop (fun s G nx=>s 0=rowT Pl.cells t∧s 1=rowT iC l∧∃i:Nat,s 7=iV i∧i≤l.length∧(l.take i).all (keepAt t l)=true) (fun s _ _=>match s 7 with | .v (.int _ n)=>l.length-n.toNat | _=>0) ?_ ?_
  ·exact⟨by simp,by simp,0,by simp,by omega,by simp⟩
  rintro s G nx-⟨s0,s1,i,s7,hi,hall⟩;have hw:IntKind.i64.wrap (↑i+1)=((i+1:Nat):Int):=wrapS (by omega);(repeat with_reducible refine aA ?_);(first | with_reducible refine aR fun K' hK=> ?_ | with_reducible refine aS fun K' hK=> ?_);simp[s1,s7];(first | refine hK _ _ _ ?_ | done);clear K' hK;(repeat with_reducible refine aA ?_);(first | with_reducible refine aC fun A B hA hB=> ?_ | with_reducible refine aD fun A B hA hB=> ?_);simp;refine⟨fun hi2=>hA ?_,fun hi2=>hB ?_⟩<;>clear hA hB A B<;>(try simp at hi2)<;>(try with_reducible refine aK ?_)
  ·have hst:=all_take1 (p:=keepAt t l) hi2;rw[hall,Bool.true_and]at hst;have bad1:keepAt t l (nth l i)=false→keepCode t l=151∧keepR t l=[]:=fun hb=>bad (by unfold keepOk;rw[all_false hi2 hb];rfl);(repeat with_reducible refine aA ?_);(first | with_reducible refine aw_block ?_ | with_reducible refine aw_toS (aw_block ?_));generalize hxe:nth l i=x at*;by_cases x0:x<0
   ·obtain⟨e1,e2⟩:=bad1 (by simp[keepAt];omega);(repeat with_reducible refine aA ?_);(first | with_reducible refine aR fun K' hK=> ?_ | with_reducible refine aS fun K' hK=> ?_);refine aops_part 6 fun K2 hK2=> ?_;simp[s1,s7,hi2,hxe,x0];refine hK2 _ _ _ ?_;clear K2 hK2;simp[x0];(first | refine hK _ _ _ ?_ | done);clear K' hK;repeat with_reducible refine aA ?_
    (first | with_reducible refine aC fun A B hA hB=> ?_ | with_reducible refine aD fun A B hA hB=> ?_)
    simp;refine⟨fun hc=>hA ?_,fun hc=>hB ?_⟩<;>clear hA hB A B<;>(try (simp at hc;done))<;>(try (exfalso;simp at hc;omega))<;>clear hc<;>(try with_reducible refine aK ?_);(repeat with_reducible refine aA ?_);(first | with_reducible refine aR fun K' hK=> ?_ | with_reducible refine aS fun K' hK=> ?_);simp;(first | refine hK _ _ _ ?_ | done);clear K' hK;(repeat with_reducible refine aA ?_);(first | with_reducible refine aw_ret ?_ | with_reducible refine aw_retL ?_ | with_reducible refine aw_skipL ?_);simp[blockK,loopK,Post,resA,res1,expT,expA,exp1,expM,expL,okT,okA,ok1,rowOf,Tryz.f57];rw[e1,e2];exact⟨[nx],⟨⟨rfl,rfl⟩,rfl⟩,by simp[rowOf]⟩
   by_cases x1:(t.length:Int)≤x
   ·obtain⟨e1,e2⟩:=bad1 (by simp[keepAt];omega);(repeat with_reducible refine aA ?_);(first | with_reducible refine aR fun K' hK=> ?_ | with_reducible refine aS fun K' hK=> ?_);refine aops_part 6 fun K2 hK2=> ?_;simp[s1,s7,hi2,hxe,x0];refine hK2 _ _ _ ?_;clear K2 hK2;refine aops_part 9 fun K2 hK2=> ?_;simp[s0,s1,s7,hi2,hxe,x1];refine hK2 _ _ _ ?_;clear K2 hK2;simp[x1];(first | refine hK _ _ _ ?_ | done);clear K' hK;repeat with_reducible refine aA ?_
    (first | with_reducible refine aC fun A B hA hB=> ?_ | with_reducible refine aD fun A B hA hB=> ?_)
    simp;refine⟨fun hc=>hA ?_,fun hc=>hB ?_⟩<;>clear hA hB A B<;>(try (simp at hc;done))<;>(try (exfalso;simp at hc;omega))<;>clear hc<;>(try with_reducible refine aK ?_);(repeat with_reducible refine aA ?_);(first | with_reducible refine aR fun K' hK=> ?_ | with_reducible refine aS fun K' hK=> ?_);simp;(first | refine hK _ _ _ ?_ | done);clear K' hK;(repeat with_reducible refine aA ?_);(first | with_reducible refine aw_ret ?_ | with_reducible refine aw_retL ?_ | with_reducible refine aw_skipL ?_);simp[blockK,loopK,Post,resA,res1,expT,expA,exp1,expM,expL,okT,okA,ok1,rowOf,Tryz.f57];rw[e1,e2];exact⟨[nx],⟨⟨rfl,rfl⟩,rfl⟩,by simp[rowOf]⟩
   have x2:x.toNat<t.length:=(by omega);have x3:0≤x:=(by omega);have x4:x<t.length:=(by omega);have hpe:(nth t x.toNat).par=parN t x.toNat:=rfl;by_cases x5:0<x
   ·have hp:=g.par x.toNat (by omega) x2;have hkx:keepAt t l x=decide (parN t x.toNat∈l):=by
     simp only[keepAt,x3,x4];have:¬parN t x.toNat= -1:=(by omega);simp[this]
    (repeat with_reducible refine aA ?_);(first | with_reducible refine aR fun K' hK=> ?_ | with_reducible refine aS fun K' hK=> ?_);refine aops_part 6 fun K2 hK2=> ?_;simp[s1,s7,hi2,hxe,x0];refine hK2 _ _ _ ?_;clear K2 hK2;refine aops_part 9 fun K2 hK2=> ?_;simp[s0,s1,s7,hi2,hxe,x1];refine hK2 _ _ _ ?_;clear K2 hK2;refine aops_part 6 fun K2 hK2=> ?_;simp[s1,s7,hi2,hxe,x5];refine hK2 _ _ _ ?_;clear K2 hK2;refine aops_part 11 fun K2 hK2=> ?_;simp[s0,s1,s7,hi2,hxe,x2,x3,x4,hpe];refine acall_flat (hH (parN t x.toNat)) rfl (by first | rfl | (simp;done) | (simp;rfl) | (simp;exact⟨rfl,rfl⟩)) ?_;simp;refine hK2 _ _ _ ?_;clear K2 hK2;by_cases xm:parN t x.toNat∈l
    ·simp[xm];(first | refine hK _ _ _ ?_ | done);clear K' hK;repeat with_reducible refine aA ?_
     (first | with_reducible refine aC fun A B hA hB=> ?_ | with_reducible refine aD fun A B hA hB=> ?_)
     simp;refine⟨fun hc=>hA ?_,fun hc=>hB ?_⟩<;>clear hA hB A B<;>(try (simp at hc;done))<;>(try (exfalso;simp at hc;omega))<;>clear hc<;>(try with_reducible refine aK ?_);(first | with_reducible refine aw_skipL ?_ | skip);refine blockK_normal ?_;(repeat with_reducible refine aA ?_);(first | with_reducible refine aR fun K' hK=> ?_ | with_reducible refine aS fun K' hK=> ?_);simp[s7,hw];(first | refine hK _ _ _ ?_ | done);clear K' hK;refine aw_skipL (loopK_normal ?_ ?_)
     ·exact⟨by simp[s0],by simp[s1],i+1,by simp[hw],by omega,by rw[hst,hkx];simp[xm]⟩
     ·simp[s7,hw];omega
    ·obtain⟨e1,e2⟩:=bad1 (by rw[hkx];simp[xm]);simp[xm];(first | refine hK _ _ _ ?_ | done);clear K' hK;repeat with_reducible refine aA ?_
     (first | with_reducible refine aC fun A B hA hB=> ?_ | with_reducible refine aD fun A B hA hB=> ?_)
     simp;refine⟨fun hc=>hA ?_,fun hc=>hB ?_⟩<;>clear hA hB A B<;>(try (simp at hc;done))<;>(try (exfalso;simp at hc;omega))<;>clear hc<;>(try with_reducible refine aK ?_);(repeat with_reducible refine aA ?_);(first | with_reducible refine aR fun K' hK=> ?_ | with_reducible refine aS fun K' hK=> ?_);simp;(first | refine hK _ _ _ ?_ | done);clear K' hK;(repeat with_reducible refine aA ?_);(first | with_reducible refine aw_ret ?_ | with_reducible refine aw_retL ?_ | with_reducible refine aw_skipL ?_);simp[blockK,loopK,Post,resA,res1,expT,expA,exp1,expM,expL,okT,okA,ok1,rowOf,Tryz.f57];rw[e1,e2];exact⟨[nx],⟨⟨rfl,rfl⟩,rfl⟩,by simp[rowOf]⟩
   ·have hx0:x=0:=(by omega);have hkx:keepAt t l x=true:=by
     subst hx0;simp only[keepAt];have:parN t (0:Int).toNat= -1:=root_par g.root;rw[this];simp;omega
    (repeat with_reducible refine aA ?_);(first | with_reducible refine aR fun K' hK=> ?_ | with_reducible refine aS fun K' hK=> ?_);refine aops_part 6 fun K2 hK2=> ?_;simp[s1,s7,hi2,hxe,x0];refine hK2 _ _ _ ?_;clear K2 hK2;refine aops_part 9 fun K2 hK2=> ?_;simp[s0,s1,s7,hi2,hxe,x1];refine hK2 _ _ _ ?_;clear K2 hK2;refine aops_part 6 fun K2 hK2=> ?_;simp[s1,s7,hi2,hxe,x5];refine hK2 _ _ _ ?_;clear K2 hK2;simp[x5];(first | refine hK _ _ _ ?_ | done);clear K' hK;repeat with_reducible refine aA ?_
    (first | with_reducible refine aC fun A B hA hB=> ?_ | with_reducible refine aD fun A B hA hB=> ?_)
    simp;refine⟨fun hc=>hA ?_,fun hc=>hB ?_⟩<;>clear hA hB A B<;>(try (simp at hc;done))<;>(try (exfalso;simp at hc;omega))<;>clear hc<;>(try with_reducible refine aK ?_);(first | with_reducible refine aw_skipL ?_ | skip);refine blockK_normal ?_;(repeat with_reducible refine aA ?_);(first | with_reducible refine aR fun K' hK=> ?_ | with_reducible refine aS fun K' hK=> ?_);simp[s7,hw];(first | refine hK _ _ _ ?_ | done);clear K' hK;refine aw_skipL (loopK_normal ?_ ?_)
    ·exact⟨by simp[s0],by simp[s1],i+1,by simp[hw],by omega,by rw[hst,hkx]⟩
    ·simp[s7,hw];omega
  ·(repeat with_reducible refine aA ?_);(first | with_reducible refine aw_exit ?_ | with_reducible refine aw_exitL ?_);refine loopK_exit (blockK_exit ?_);have hie:i=l.length:=(by omega);subst hie;rw[List.take_length]at hall;(repeat with_reducible refine aA ?_);(first | with_reducible refine aR fun K' hK=> ?_ | with_reducible refine aS fun K' hK=> ?_);simp[s1];refine acall_flat (hH 0) rfl (by first | rfl | (simp;done) | (simp;rfl) | (simp;exact⟨rfl,rfl⟩)) ?_;simp;(first | refine hK _ _ _ ?_ | done);clear K' hK;by_cases x0:(0:Int)∈l
   ·have hok:keepOk t l=true:=(by unfold keepOk;rw[hall];simp[x0]);have e1:keepCode t l=0:=(by unfold keepCode;rw[if_neg (by simp[c0]),if_pos hok]);have e2:keepR t l=keepT t (qL l) t.length:=(by unfold keepR;rw[if_pos e1]);rw[e1,e2];repeat with_reducible refine aA ?_
    (first | with_reducible refine aC fun A B hA hB=> ?_ | with_reducible refine aD fun A B hA hB=> ?_)
    simp[x0];refine⟨fun hc=>hA ?_,fun hc=>hB ?_⟩<;>clear hA hB A B<;>(try (simp at hc;done))<;>(try (exfalso;simp at hc;omega))<;>clear hc<;>(try with_reducible refine aK ?_);(repeat with_reducible refine aA ?_);(first | with_reducible refine aR fun K' hK=> ?_ | with_reducible refine aS fun K' hK=> ?_);simp[s0,s1];refine acall_new (kept108_ok t g l hl ((keepOk_iff g).1 hok).2) (by first | rfl | (simp;done) | (simp;rfl) | (simp;exact⟨rfl,rfl⟩)) ?_;simp[addJ_one];(first | refine hK _ _ _ ?_ | done);clear K' hK;(repeat with_reducible refine aA ?_);(first | with_reducible refine aw_ret ?_ | with_reducible refine aw_retL ?_ | with_reducible refine aw_skipL ?_);simp[blockK,loopK,Post,resA,res1,expT,expA,exp1,expM,expL,okT,okA,ok1,rowOf,Tryz.f57]
   ·obtain⟨e1,e2⟩:=bad (by unfold keepOk;rw[hall];simp[x0]);rw[e1,e2];repeat with_reducible refine aA ?_
    (first | with_reducible refine aC fun A B hA hB=> ?_ | with_reducible refine aD fun A B hA hB=> ?_)
    simp[x0];refine⟨fun hc=>hA ?_,fun hc=>hB ?_⟩<;>clear hA hB A B<;>(try (simp at hc;done))<;>(try (exfalso;simp at hc;omega))<;>clear hc<;>(try with_reducible refine aK ?_);(repeat with_reducible refine aA ?_);(first | with_reducible refine aR fun K' hK=> ?_ | with_reducible refine aS fun K' hK=> ?_);simp;(first | refine hK _ _ _ ?_ | done);clear K' hK;(repeat with_reducible refine aA ?_);(first | with_reducible refine aw_ret ?_ | with_reducible refine aw_retL ?_ | with_reducible refine aw_skipL ?_);simp[blockK,loopK,Post,resA,res1,expT,expA,exp1,expM,expL,okT,okA,ok1,rowOf,Tryz.f57]
 ·(repeat with_reducible refine aA ?_);(first | with_reducible refine aR fun K' hK=> ?_ | with_reducible refine aS fun K' hK=> ?_);simp[c0];(first | refine hK _ _ _ ?_ | done);clear K' hK;repeat with_reducible refine aA ?_
  (first | with_reducible refine aC fun A B hA hB=> ?_ | with_reducible refine aD fun A B hA hB=> ?_)
  simp[c0];refine⟨fun hc=>hA ?_,fun hc=>hB ?_⟩<;>clear hA hB A B<;>(try (simp at hc;done))<;>(try (exfalso;simp at hc;omega))<;>clear hc<;>(try with_reducible refine aK ?_);(repeat with_reducible refine aA ?_);(first | with_reducible refine aR fun K' hK=> ?_ | with_reducible refine aS fun K' hK=> ?_);simp;(first | refine hK _ _ _ ?_ | done);clear K' hK;(repeat with_reducible refine aA ?_);(first | with_reducible refine aw_ret ?_ | with_reducible refine aw_retL ?_ | with_reducible refine aw_skipL ?_);simp[blockK,loopK,Post,resA,res1,expT,expA,exp1,expM,expL,okT,okA,ok1,rowOf,Tryz.f57];have e1:keepCode t l=checkN t:=(by simp[keepCode,c0]);have e2:keepR t l=[]:=(by rw[keepR,e1,if_neg c0]);rw[e1,e2];exact⟨[1],⟨⟨rfl,rfl⟩,rfl⟩,rfl⟩
set_option maxRecDepth 100000
set_option maxHeartbeats 4000000
def prRoot:Man:=⟨⟨#[]⟩,⟨0,0,0,⟨#[]⟩⟩,[⟨1,nA,freeR⟩],[]⟩
def prX:List Man:=[⟨nA,v1,[],[]⟩,⟨nB,v1,[],[]⟩]
def prT:List Pl:=[rootP,⟨0,nA,v1⟩,⟨0,nB,v1⟩,⟨1,nB,v1⟩]
def prK:List Pl:=[rootP,⟨0,nA,v1⟩,⟨1,nB,v1⟩]
theorem pr_code:codeV prRoot prX prT=0:=by decide+kernel
theorem pr_big:bigM prRoot=false∧bigI prX=false∧bigT prT=false:=by decide+kernel
theorem pr_sz:ValSz prRoot prX prT:=valSz_of pr_big.1 pr_big.2.1 pr_big.2.2
theorem pr_e0:edgesV prRoot prX prT 0=prRoot.deps:=by
 have hm:manVal prRoot prX prT (0:Nat)=some prRoot:=(by decide+kernel);have ho:ofF prRoot.deps prRoot.rules true=prRoot.deps:=of_small (S:=[nA]) (by decide+kernel) (by decide+kernel) (by decide+kernel);unfold edgesV;rw[hm];exact ho
theorem pr_e1:edgesV prRoot prX prT 1=[]:=by
 have hm:manVal prRoot prX prT (1:Nat)=some ⟨nA,v1,[],[]⟩:=(by decide+kernel);have ho:ofF [] prRoot.rules false=[]:=of_small (S:=[]) (by decide+kernel) (by decide+kernel) (by decide+kernel);unfold edgesV;rw[hm];exact ho
theorem pr_rch (j:Nat):rchB prRoot prX prT j=decide (j<2):=by
 have g:Good prT:=check_iff.1 (codeV_zero.1 pr_code).2.2;have h1:Rch prRoot prX prT 1:=.edge (n:=0) (d:=⟨1,nA,freeR⟩) .zero (by rw[pr_e0];simp[prRoot]) (by decide+kernel);refine rch_eq g (fun j=>decide (j<2)) rfl (fun k hk=> ?_) (fun n hn hp=> ?_) (fun n d hn hd k hk=> ?_) j
 ·have:k<2:=of_decide_eq_true hk
  match k with
  | 0=>exact .zero
  | 1=>exact h1
  | k+2=>omega
 ·have:n<2:=of_decide_eq_true hn
  match n with
  | 0=>rfl
  | 1=>rfl
  | n+2=>omega
 ·have:n<2:=of_decide_eq_true hn
  match n with
  | 0=>
   rw[pr_e0]at hd;simp[prRoot]at hd;subst hd;have h2:toN prT (0:Nat) ⟨1,nA,freeR⟩=1:=(by decide+kernel);rw[h2]at hk;have:k=1:=(by omega);subst this;rfl
  | 1=>rw[pr_e1]at hd;simp at hd
  | n+2=>omega
theorem pr_reach:reachL prRoot prX prT=[0,1]:=by
 unfold reachL;rw[if_pos pr_code,kq_congr (r:=fun j=>decide (j<2)) fun j _=>pr_rch j];decide+kernel
theorem pr_prune:pruneT prRoot prX prT=prT.take 2:=by
 unfold pruneT;rw[if_pos pr_code,keepT_congr (check_iff.1 (codeV_zero.1 pr_code).2.2) (r:=fun j=>decide (j<2)) fun j _=>pr_rch j];decide+kernel
theorem pr_keep:keepCode prT [0,1,3]=0∧keepR prT [0,1,3]=prK∧keepCode prT [0,3]=151∧keepR prT [0,3]=[]∧keepCode prT [0,4]=151∧keepR prT [0,4]=[]:=by decide+kernel
def prA:List AV:=[sV ⟨#[]⟩,iV 0,iV 0,iV 0,sV ⟨#[]⟩,rowT Dep.cells prRoot.deps,.v (.slice none 0 0)]
def prB (i:Nat):List AV:=[sV ⟨#[]⟩,iV 0,iV 0,iV 0,sV ⟨#[]⟩,.row i 1,.v (.slice none 0 0)]
theorem wk_pr {P:Program} [Gl P]:Wk P (.agg prA) (.agg prRoot.cells):=
 .agg (.cons (.refl _) (.cons (.refl _) (.cons (.refl _) (.cons (.refl _) (.cons (.refl _) (.cons (.refl _) (.cons .nilRow .nil)))))))
theorem pr_flat_x:flat Man.cells prX=[sV nA,iV 1,iV 0,iV 0,sV ⟨#[]⟩,.sl 0 [],.sl 0 [],sV nB,iV 1,iV 0,iV 0,sV ⟨#[]⟩,.sl 0 [],.sl 0 []]:=rfl
theorem pr_flat_d:flat Dep.cells prRoot.deps=[iV 1,sV nA,.sl 1 [.sl 0 []]]:=rfl
theorem small109_ok:CallsOK Tryz.prog 109 [] (.tup [.agg (prB 0),.row 1 2,.row 2 4]) [(35,flat Dep.cells prRoot.deps),(27,flat Man.cells prX),(58,flat Pl.cells prT)]:=by
 refine CallsOK.weakJs (J:=[(35,[iV 1,sV nA,.sl 1 [.v (.slice none 0 0)]]),(27,[sV nA,iV 1,iV 0,iV 0,sV ⟨#[]⟩,.v (.slice none 0 0),.v (.slice none 0 0),sV nB,iV 1,iV 0,iV 0,sV ⟨#[]⟩,.v (.slice none 0 0),.v (.slice none 0 0)]),(58,flat Pl.cells prT)]) ?_ rfl ?_
 ·refine callsOK mixed Tryz.call109 Tryz.func109 rfl (by rw[Tryz.ntmps109];simp) ?_ rfl;rw[Tryz.ntmps109];(repeat with_reducible refine aA ?_);(first | with_reducible refine aR fun K' hK=> ?_ | with_reducible refine aS fun K' hK=> ?_);simp;(first | refine hK _ _ _ ?_ | done);clear K' hK;(repeat with_reducible refine aA ?_);(first | with_reducible refine aR fun K' hK=> ?_ | with_reducible refine aS fun K' hK=> ?_);simp;(first | refine hK _ _ _ ?_ | done);clear K' hK;(repeat with_reducible refine aA ?_);(first | with_reducible refine aR fun K' hK=> ?_ | with_reducible refine aS fun K' hK=> ?_);simp;(first | refine hK _ _ _ ?_ | done);clear K' hK;(repeat with_reducible refine aA ?_);(first | refine aw_regionL (some 0) [4,3] (by decide+kernel) (by decide+kernel) (fun p' hp'=>by cases hp';exact⟨0,0,by simp,by simp[rootA]⟩) fun K' hK=> ?_ | refine aw_toS (aw_regionL (some 0) [4,3] (by decide+kernel) (by decide+kernel) (fun p' hp'=>by cases hp';exact⟨0,0,by simp,by simp[rootA]⟩) fun K' hK=> ?_));simp;(first | refine hK _ _ _ ?_ | done);clear K' hK;(repeat with_reducible refine aA ?_);(first | with_reducible refine aw_ret ?_ | with_reducible refine aw_retL ?_ | with_reducible refine aw_skipL ?_);simp[blockK,loopK,Post,resA,res1,expT,expA,exp1,expM,expL,okT,okA,ok1,rowOf,Tryz.f109];exact⟨[5,7,8],⟨rfl,rfl⟩,by simp[prB],rfl⟩
 ·intro i e cs h
  match i with
  | 0=>
   simp at h;obtain⟨rfl,rfl⟩:=h;rw[pr_flat_d];exact⟨_,rfl,.cons (.refl _) (.cons (.refl _) (.cons (.sl (.cons .nil .nil)) .nil))⟩
  | 1=>
   simp at h;obtain⟨rfl,rfl⟩:=h;rw[pr_flat_x];exact⟨_,rfl,.cons (.refl _) (.cons (.refl _) (.cons (.refl _) (.cons (.refl _) (.cons (.refl _) (.cons .nil (.cons .nil (.cons (.refl _) (.cons (.refl _) (.cons (.refl _) (.cons (.refl _) (.cons (.refl _) (.cons .nil (.cons .nil .nil)))))))))))))⟩
  | 2=>simp at h;obtain⟨rfl,rfl⟩:=h;exact⟨_,rfl,WkTL.refl _⟩
  | i+3=>simp at h
theorem addJ_three (G:Hp) (nx:Nat) (p q r:TypeId×List AV):addJ G nx [p,q,r]=((G.upd nx (.row p.1 p.2)).upd (nx+1) (.row q.1 q.2)).upd (nx+2) (.row r.1 r.2):=by
 funext i;simp only[addJ,Hp.upd,List.length_cons,List.length_nil];by_cases h2:i=nx+2
 ·subst h2;simp[ofJ]
 ·by_cases h1:i=nx+1
  ·subst h1;simp[ofJ]
  ·by_cases h0:i=nx
   ·subst h0;simp[ofJ]
   ·rw[if_neg (by omega),if_neg h2,if_neg h1,if_neg h0]
theorem pr_same:∀a:List Pl,a.length≤1000000000→CallsOK Tryz.prog 32 [rowT Pl.cells a,rowT Pl.cells a] (bV true) []:=fun a ha=>by
 have h:=same16_ok a a ha;simpa using h
theorem prunes53_ok:CallsOK Tryz.prog 53 [] (bV true) []:=by
 refine callsOK mixed Tryz.call53 Tryz.func53 rfl (by rw[Tryz.ntmps53];simp) ?_ rfl;rw[Tryz.ntmps53];have c35:Tryz.prog.cellsOf 35=3:=(by kernel_rfl);have c27:Tryz.prog.cellsOf 27=7:=(by kernel_rfl);have c58:Tryz.prog.cellsOf 58=6:=(by kernel_rfl);have c3:Tryz.prog.cellsOf 3=1:=(by kernel_rfl);have hP:=prune51_ok _ _ _ pr_sz;rw[pr_code,pr_prune]at hP;have hP:=hP.weak (.cons wk_pr (.cons (.refl _) (.cons (.refl _) .nil)));have hR:=reached49_ok _ _ _ pr_sz;simp only[reachR,pr_code,pr_reach]at hR;have hR:=hR.weak (.cons wk_pr (.cons (.refl _) (.cons (.refl _) .nil)));have hK:=fun l (h:l.length≤1000000000)=>keep56_ok prT pr_sz.2.2.2.2.1 l h;have hK1:=hK [0,1,3] (by simp);have hK2:=hK [0,3] (by simp);have hK3:=hK [0,4] (by simp);obtain⟨k1,k2,k3,k4,k5,k6⟩:=pr_keep;rw[k1,k2]at hK1;rw[k3,k4]at hK2;rw[k5,k6]at hK3;clear hK k1 k2 k3 k4 k5 k6;(repeat with_reducible refine aA ?_);(first | with_reducible refine aR fun K' hK=> ?_ | with_reducible refine aS fun K' hK=> ?_);simp;(first | refine hK _ _ _ ?_ | done);clear K' hK;(repeat with_reducible refine aA ?_);(first | with_reducible refine aR fun K' hK=> ?_ | with_reducible refine aS fun K' hK=> ?_);simp;refine acall_new small109_ok (by simp) ?_;simp[addJ_three];(first | refine hK _ _ _ ?_ | done);clear K' hK;refine aw_gen (fun u X nz=>u 1=.ptr 3 0∧u 2=.row 1 2∧u 3=.row 2 4∧nz=4∧X 0=some (.row 35 (flat Dep.cells prRoot.deps))∧X 1=some (.row 27 (flat Man.cells prX))∧X 2=some (.row 58 (flat Pl.cells prT))∧X 3=some (.var 27 (prB 0))) ?_ ?_
 ·exact⟨by simp,by simp,by simp,by simp,by simp,by simp,by simp,by simp;rfl⟩
 rintro s G nx ⟨s1,s2,s3,rfl,g0,g1,g2,g3⟩;have T:∀X:Hp,(∀k,k<4→X k=G k)→seesA Tryz.prog X [.agg (prB 0),.row 1 2,.row 2 4]=some [.agg prA,rowT Man.cells prX,rowT Pl.cells prT]∧treeOf Tryz.prog X (.row 2 4)=some (rowT Pl.cells prT):=fun X hX=>by
  have t0:treeOf Tryz.prog X (.row 0 1)=some (rowT Dep.cells prRoot.deps):=treeOf_of ((hX 0 (by omega)).trans g0) c35 rfl;have t1:treeOf Tryz.prog X (.row 1 2)=some (rowT Man.cells prX):=treeOf_of ((hX 1 (by omega)).trans g1) c27 rfl;have t2:treeOf Tryz.prog X (.row 2 4)=some (rowT Pl.cells prT):=treeOf_of ((hX 2 (by omega)).trans g2) c58 rfl;refine⟨?_,t2⟩;simp only[seesA,seeA,prB,looksA,lookA,t0,t1,t2];rfl
 have TK:∀(X:Hp) (i:Nat) (l:List Int),(∀k,k<4→X k=G k)→X i=some (.row 3 (flat iC l))→seesA Tryz.prog X [.row 2 4,.row i l.length]=some [rowT Pl.cells prT,rowT iC l]:=fun X i l hX hi=>by
  have t3:treeOf Tryz.prog X (.row i l.length)=some (rowT iC l):=treeOf_of hi c3 rfl;simp only[seesA,seeA,lookA,(T X hX).2,t3]
 (repeat with_reducible refine aA ?_);(first | with_reducible refine aR fun K' hK=> ?_ | with_reducible refine aS fun K' hK=> ?_);simp[s1,s2,s3,g3];refine acall_keep hP ⟨rfl,rfl⟩ (T G fun _ _=>rfl).1 ?_;simp[addJ_one];(first | refine hK _ _ _ ?_ | done);clear K' hK;refine aw_gen (fun u X nz=>u 1=.ptr 3 0∧u 2=.row 1 2∧u 3=.row 2 4∧u 4=.row 4 2∧u 5=iV 0∧nz=5∧(∀k,k<4→X k=G k)∧X 4=some (.row 58 (flat Pl.cells (prT.take 2)))) ?_ ?_
 ·exact⟨by simp[s1],by simp[s2],by simp[s3],by simp;rfl,by simp,by simp,fun k hk=>by rw[Hp.upd_ne _ _ (by omega)],by simp⟩
 clear s1 s2 s3 s;rintro s X nx ⟨s1,s2,s3,s4,s5,rfl,hX,x4⟩;have x3:X 3=some (.var 27 (prB 0)):=(hX 3 (by omega)).trans g3;(repeat with_reducible refine aA ?_);(first | with_reducible refine aR fun K' hK=> ?_ | with_reducible refine aS fun K' hK=> ?_);simp[s1,s2,s3,x3];refine acall_keep hR ⟨rfl,rfl⟩ (T X hX).1 ?_;simp[addJ_one];(first | refine hK _ _ _ ?_ | done);clear K' hK;refine aw_gen (fun u Y nz=>u 3=.row 2 4∧u 4=.row 4 2∧u 5=iV 0∧u 6=.row 5 2∧u 7=iV 0∧nz=6∧(∀k,k<4→Y k=G k)∧Y 4=some (.row 58 (flat Pl.cells (prT.take 2)))∧Y 5=some (.row 3 (flat iC [0,1]))) ?_ ?_
 ·exact⟨by simp[s3],by simp[s4],by simp[s5],by simp,by simp,by simp,fun k hk=>by rw[Hp.upd_ne _ _ (by omega)];exact hX k hk,by simp[x4],by simp⟩
 clear s1 s2 s3 s4 s5 s x3 x4 hX X;rintro s X nx ⟨s3,s4,s5,s6,s7,rfl,hX,x4,x5⟩;have r3:[0,1,2]=List.range 3:=rfl;have r2:[0,1]=List.range 2:=rfl;(repeat with_reducible refine aA ?_);(first | with_reducible refine aR fun K' hK=> ?_ | with_reducible refine aS fun K' hK=> ?_);simp[s3,r3];refine acall_keep hK1 ⟨rfl,rfl⟩ (TK _ 6 [0,1,3] (fun k hk=>by rw[Hp.upd_ne _ _ (by omega)];exact hX k hk) (by simp;rfl)) ?_;simp[addJ_one];(first | refine hK _ _ _ ?_ | done);clear K' hK;refine aw_gen (fun u Y nz=>u 3=.row 2 4∧u 4=.row 4 2∧u 5=iV 0∧u 6=.row 5 2∧u 7=iV 0∧u 8=.row 7 3∧u 9=iV 0∧nz=8∧(∀k,k<4→Y k=G k)∧Y 4=some (.row 58 (flat Pl.cells (prT.take 2)))∧Y 5=some (.row 3 (flat iC [0,1]))∧Y 7=some (.row 58 (flat Pl.cells prK))) ?_ ?_
 ·exact⟨by simp[s3],by simp[s4],by simp[s5],by simp[s6],by simp[s7],by simp;rfl,by simp,by simp,fun k hk=>by rw[Hp.upd_ne _ _ (by omega),Hp.upd_ne _ _ (by omega)];exact hX k hk,by simp[x4],by simp[x5],by simp⟩
 clear s3 s4 s5 s6 s7 s x4 x5 hX X;rintro s X nx ⟨s3,s4,s5,s6,s7,s8,s9,rfl,hX,x4,x5,x7⟩;(repeat with_reducible refine aA ?_);(first | with_reducible refine aR fun K' hK=> ?_ | with_reducible refine aS fun K' hK=> ?_);simp[s3,r2];refine acall_keep hK2 ⟨rfl,rfl⟩ (TK _ 8 [0,3] (fun k hk=>by rw[Hp.upd_ne _ _ (by omega)];exact hX k hk) (by simp;rfl)) ?_;simp[addJ_one];(first | refine hK _ _ _ ?_ | done);clear K' hK;refine aw_gen (fun u Y nz=>u 3=.row 2 4∧u 4=.row 4 2∧u 5=iV 0∧u 6=.row 5 2∧u 7=iV 0∧u 8=.row 7 3∧u 9=iV 0∧u 11=iV 151∧nz=10∧(∀k,k<4→Y k=G k)∧Y 4=some (.row 58 (flat Pl.cells (prT.take 2)))∧Y 5=some (.row 3 (flat iC [0,1]))∧Y 7=some (.row 58 (flat Pl.cells prK))) ?_ ?_
 ·exact⟨by simp[s3],by simp[s4],by simp[s5],by simp[s6],by simp[s7],by simp[s8],by simp[s9],by simp,by simp,fun k hk=>by rw[Hp.upd_ne _ _ (by omega),Hp.upd_ne _ _ (by omega)];exact hX k hk,by simp[x4],by simp[x5],by simp[x7]⟩
 clear s3 s4 s5 s6 s7 s8 s9 s x4 x5 x7 hX X;rintro s X nx ⟨s3,s4,s5,s6,s7,s8,s9,s11,rfl,hX,x4,x5,x7⟩;(repeat with_reducible refine aA ?_);(first | with_reducible refine aR fun K' hK=> ?_ | with_reducible refine aS fun K' hK=> ?_);simp[s3,r2];refine acall_keep hK3 ⟨rfl,rfl⟩ (TK _ 10 [0,4] (fun k hk=>by rw[Hp.upd_ne _ _ (by omega)];exact hX k hk) (by simp;rfl)) ?_;simp[addJ_one];(first | refine hK _ _ _ ?_ | done);clear K' hK;refine aw_gen (fun u Y nz=>u 3=.row 2 4∧u 4=.row 4 2∧u 5=iV 0∧u 6=.row 5 2∧u 7=iV 0∧u 8=.row 7 3∧u 9=iV 0∧u 11=iV 151∧u 13=iV 151∧nz=12∧Y 2=some (.row 58 (flat Pl.cells prT))∧Y 4=some (.row 58 (flat Pl.cells (prT.take 2)))∧Y 5=some (.row 3 (flat iC [0,1]))∧Y 7=some (.row 58 (flat Pl.cells prK))) ?_ ?_
 ·exact⟨by simp[s3],by simp[s4],by simp[s5],by simp[s6],by simp[s7],by simp[s8],by simp[s9],by simp[s11],by simp,by simp,by rw[Hp.upd_ne _ _ (by omega),Hp.upd_ne _ _ (by omega),hX 2 (by omega)];exact g2,by simp[x4],by simp[x5],by simp[x7]⟩
 clear s3 s4 s5 s6 s7 s8 s9 s11 s x4 x5 x7 hX X T TK g0 g1 g2 g3 G;rintro s G nx ⟨s3,s4,s5,s6,s7,s8,s9,s11,s13,rfl,g2,g4,g5,g7⟩;have hs:∀lo hi,lo 0=some 0→hi 4=some 2→evSlice Tryz.prog G 29 (.row 2 4) lo hi=some (rowT Pl.cells (prT.take 2),frzOf G (.row 2 4)):=fun lo hi h1 h2=>
  (evSlice_tree (c:=Pl.cells) (l:=prT) (by simp) el29 (treeOf_of g2 c58 rfl) h1 h2 (by decide))
 have hS:=pr_same (prT.take 2) (by decide);have t4:∀X:Hp,X 4=G 4→treeOf Tryz.prog X (.row 4 2)=some (rowT Pl.cells (prT.take 2)):=fun X hX=>treeOf_of (hX.trans g4) c58 rfl;have hI:CallsOK Tryz.prog 37 [rowT iC [0,1],rowT iC [0,1]] (bV true) []:=ints27_ok [0,1] [0,1] (by simp);have tI:∀(X:Hp) i,X i=some (.row 3 (flat iC [0,1]))→treeOf Tryz.prog X (.row i 2)=some (rowT iC [0,1]):=fun X i hX=>treeOf_of hX c3 rfl;(repeat with_reducible refine aA ?_);(first | with_reducible refine aR fun K' hK=> ?_ | with_reducible refine aS fun K' hK=> ?_);refine aops_part 8 fun K2 hK2=> ?_;simp[s3,s4,s5,hs,bnd_some];refine acall_flat hS rfl ?_ ?_
 ·simp only[seesA,seeA,lookA,t4 _ (frzOf_ne (show¬4=2 by omega))];rfl
 simp;refine hK2 _ _ _ ?_;clear K2 hK2;refine aops_part 9 fun K2 hK2=> ?_;simp[s6,s7,r2];refine acall_flat hI rfl ?_ ?_
 ·simp only[seesA,seeA,lookA];rw[tI _ 5 (by simp[g5]),tI _ 12 (by simp;rfl)]
 simp;refine hK2 _ _ _ ?_;clear K2 hK2;have q2:nth prK 2=⟨1,nB,v1⟩:=rfl;have q3:2<prK.length:=(by decide);have q4:prK.length=3:=rfl;simp[s8,s9,s11,s13,g7,q2,q3,q4];(first | refine hK _ _ _ ?_ | done);clear K' hK;(repeat with_reducible refine aA ?_);(first | with_reducible refine aw_ret ?_ | with_reducible refine aw_retL ?_ | with_reducible refine aw_skipL ?_);simp[blockK,loopK,Post,resA,res1,expT,expA,exp1,expM,expL,okT,okA,ok1,rowOf,Tryz.f53]
set_option maxRecDepth 100000
set_option maxHeartbeats 4000000
theorem keepR_len {t:List Pl} {l:List Int} :(keepR t l).length≤t.length:=by
 unfold keepR;split
 ·rw[keep_len];exact rq_le
 ·simp
theorem keeps11_ok (t:List Pl) (l:List Int) (htl:t.length≤9223372036854775807) (hll:l.length≤9223372036854775807):CallsOK Tryz.prog 11 [rowT Pl.cells t,rowT iC l] (bV true) []:=by
 refine callsOK mixed Tryz.call11 Tryz.func11 rfl (by rw[Tryz.ntmps11];simp) ?_ rfl;rw[Tryz.ntmps11];(repeat with_reducible refine aA ?_);(first | with_reducible refine aR fun K' hK=> ?_ | with_reducible refine aS fun K' hK=> ?_);simp;(first | refine hK _ _ _ ?_ | done);clear K' hK;(repeat with_reducible refine aA ?_);(first | with_reducible refine aR fun K' hK=> ?_ | with_reducible refine aS fun K' hK=> ?_);simp;refine acall_flat (big30_ok t htl) rfl (by first | rfl | (simp;done) | (simp;rfl) | (simp;exact⟨rfl,rfl⟩)) ?_;by_cases hb:bigT t=true
 ·simp[hb];(first | refine hK _ _ _ ?_ | done);clear K' hK;repeat with_reducible refine aA ?_
  (first | with_reducible refine aC fun A B hA hB=> ?_ | with_reducible refine aD fun A B hA hB=> ?_)
  simp;refine⟨fun hc=>hA ?_,fun hc=>hB ?_⟩<;>clear hA hB A B<;>(try (simp at hc;done))<;>(try (exfalso;simp at hc;omega))<;>clear hc<;>(try with_reducible refine aK ?_);(repeat with_reducible refine aA ?_);(first | with_reducible refine aR fun K' hK=> ?_ | with_reducible refine aS fun K' hK=> ?_);simp;(first | refine hK _ _ _ ?_ | done);clear K' hK;(repeat with_reducible refine aA ?_);(first | with_reducible refine aw_ret ?_ | with_reducible refine aw_retL ?_ | with_reducible refine aw_skipL ?_);simp[blockK,loopK,Post,resA,res1,expT,expA,exp1,expM,expL,okT,okA,ok1,rowOf,Tryz.f11]
 have hb':bigT t=false:=(by simpa using hb);have ht:=bigT_ok hb';have hl1:=(bigT_len hb').1;by_cases hk:100<l.length
 ·have hk':(100:Int)<l.length:=(by omega);simp[hb',hk,hk'];(first | refine hK _ _ _ ?_ | done);clear K' hK;repeat with_reducible refine aA ?_
  (first | with_reducible refine aC fun A B hA hB=> ?_ | with_reducible refine aD fun A B hA hB=> ?_)
  simp;refine⟨fun hc=>hA ?_,fun hc=>hB ?_⟩<;>clear hA hB A B<;>(try (simp at hc;done))<;>(try (exfalso;simp at hc;omega))<;>clear hc<;>(try with_reducible refine aK ?_);(repeat with_reducible refine aA ?_);(first | with_reducible refine aR fun K' hK=> ?_ | with_reducible refine aS fun K' hK=> ?_);simp;(first | refine hK _ _ _ ?_ | done);clear K' hK;(repeat with_reducible refine aA ?_);(first | with_reducible refine aw_ret ?_ | with_reducible refine aw_retL ?_ | with_reducible refine aw_skipL ?_);simp[blockK,loopK,Post,resA,res1,expT,expA,exp1,expM,expL,okT,okA,ok1,rowOf,Tryz.f11]
 have hk':¬(100:Int)<l.length:=(by omega);have c58:Tryz.prog.cellsOf 58=6:=(by kernel_rfl);have c3:Tryz.prog.cellsOf 3=1:=(by kernel_rfl);have hK1:=keep56_ok t ht l (by omega);have hK2:=keep57_ok t ht l (by omega);have hvl:=keepR_len (t:=t) (l:=l);generalize keepR t l=v at*;generalize keepCode t l=c at*;simp[hb',hk,hk'];(first | refine hK _ _ _ ?_ | done);clear K' hK;repeat with_reducible refine aA ?_
 (first | with_reducible refine aC fun A B hA hB=> ?_ | with_reducible refine aD fun A B hA hB=> ?_)
 simp;refine⟨fun hc=>hA ?_,fun hc=>hB ?_⟩<;>clear hA hB A B<;>(try (simp at hc;done))<;>(try (exfalso;simp at hc;omega))<;>clear hc<;>(try with_reducible refine aK ?_);(repeat with_reducible refine aA ?_);(first | with_reducible refine aR fun K' hK=> ?_ | with_reducible refine aS fun K' hK=> ?_);simp;refine acall_new (own11_ok t (by omega)) (by first | rfl | (simp;done) | (simp;rfl) | (simp;exact⟨rfl,rfl⟩)) ?_;simp[addJ_one];(first | refine hK _ _ _ ?_ | done);clear K' hK;(repeat with_reducible refine aA ?_);(first | with_reducible refine aR fun K' hK=> ?_ | with_reducible refine aS fun K' hK=> ?_);simp;refine acall_new (own55_ok l (by omega)) (by first | rfl | (simp;done) | (simp;rfl) | (simp;exact⟨rfl,rfl⟩)) ?_;simp[addJ_one];(first | refine hK _ _ _ ?_ | done);clear K' hK;(repeat with_reducible refine aA ?_);(first | with_reducible refine aR fun K' hK=> ?_ | with_reducible refine aS fun K' hK=> ?_);simp;refine acall_new hK1 (by first | rfl | (simp;done) | (simp;rfl) | (simp;exact⟨rfl,rfl⟩)) ?_;simp[addJ_one];(first | refine hK _ _ _ ?_ | done);clear K' hK;refine aw_gen (fun u X nz=>u 0=rowT Pl.cells t∧u 1=rowT iC l∧u 5=.row 0 t.length∧u 6=.row 1 l.length∧u 7=.row 2 v.length∧u 8=iV c∧nz=3∧X 0=some (.row 58 (flat Pl.cells t))∧X 1=some (.row 3 (flat iC l))∧X 2=some (.row 58 (flat Pl.cells v))) ?_ ?_
 ·exact⟨by simp,by simp,by simp,by simp,by simp,by simp,by simp,by simp,by simp,by simp⟩
 rintro s G nx ⟨s0,s1,s5,s6,s7,s8,rfl,g0,g1,g2⟩;have t0:∀X:Hp,X 0=G 0→treeOf Tryz.prog X (.row 0 t.length)=some (rowT Pl.cells t):=fun X h=>treeOf_of (h.trans g0) c58 rfl;have t1:∀X:Hp,X 1=G 1→treeOf Tryz.prog X (.row 1 l.length)=some (rowT iC l):=fun X h=>treeOf_of (h.trans g1) c3 rfl;have t2:∀(X:Hp) i,X i=some (.row 58 (flat Pl.cells v))→treeOf Tryz.prog X (.row i v.length)=some (rowT Pl.cells v):=fun X i h=>treeOf_of h c58 rfl;have hI:CallsOK Tryz.prog 37 [rowT iC l,rowT iC l] (bV true) []:=by
  have:=ints27_ok l l (by omega);simpa using this
 have sK:seesA Tryz.prog G [.row 0 t.length,.row 1 l.length]=some [rowT Pl.cells t,rowT iC l]:=by
  simp only[seesA,seeA,lookA,t0 G rfl,t1 G rfl]
 (repeat with_reducible refine aA ?_);(first | with_reducible refine aR fun K' hK=> ?_ | with_reducible refine aS fun K' hK=> ?_);simp[s5,s6];refine acall_keep hK2 ⟨rfl,pl_J _ _⟩ sK ?_;simp[addJ_one];(first | refine hK _ _ _ ?_ | done);clear K' hK;refine aw_gen (fun u X nz=>u 0=rowT Pl.cells t∧u 1=rowT iC l∧u 5=.row 0 t.length∧u 6=.row 1 l.length∧u 7=.row 2 v.length∧u 8=iV c∧u 9=.row 3 v.length∧u 10=iV c∧X 0=G 0∧X 1=G 1∧X 2=some (.row 58 (flat Pl.cells v))∧X 3=some (.row 58 (flat Pl.cells v))) ?_ ?_
 ·exact⟨by simp[s0],by simp[s1],by simp[s5],by simp[s6],by simp[s7],by simp[s8],by simp,by simp,by simp,by simp,by simp[g2],by simp⟩
 clear s0 s1 s5 s6 s7 s8 s;rintro s X nx ⟨s0,s1,s5,s6,s7,s8,s9,s10,x0,x1,x2,x3⟩;have q1:seesA Tryz.prog X [.row 2 v.length,.row 3 v.length]=some [rowT Pl.cells v,rowT Pl.cells v]:=(by simp only[seesA,seeA,lookA,t2 X 2 x2,t2 X 3 x3]);have q2:seesA Tryz.prog X [rowT Pl.cells t,.row 0 t.length]=some [rowT Pl.cells t,rowT Pl.cells t]:=by
  simp only[seesA,seeA,lookA,t0 X x0];rfl
 have q3:seesA Tryz.prog X [rowT iC l,.row 1 l.length]=some [rowT iC l,rowT iC l]:=by
  simp only[seesA,seeA,lookA,t1 X x1];rfl
 (repeat with_reducible refine aA ?_);(first | with_reducible refine aR fun K' hK=> ?_ | with_reducible refine aS fun K' hK=> ?_);simp[s0,s1,s5,s6,s7,s8,s9,s10];refine acall_flat prunes53_ok rfl (by first | rfl | (simp;done) | (simp;rfl) | (simp;exact⟨rfl,rfl⟩)) ?_;simp[s0,s1,s5,s6,s7,s8,s9,s10];refine acall_flat (pr_same v (by omega)) rfl q1 ?_;simp[s0,s1,s5,s6,s7,s8,s9,s10];refine acall_flat (pr_same t (by omega)) rfl q2 ?_;simp[s0,s1,s5,s6,s7,s8,s9,s10];refine acall_flat hI rfl q3 ?_;simp;(first | refine hK _ _ _ ?_ | done);clear K' hK;(repeat with_reducible refine aA ?_);(first | with_reducible refine aw_ret ?_ | with_reducible refine aw_retL ?_ | with_reducible refine aw_skipL ?_);simp[blockK,loopK,Post,resA,res1,expT,expA,exp1,expM,expL,okT,okA,ok1,rowOf,Tryz.f11]
set_option maxRecDepth 100000
set_option maxHeartbeats 4000000
theorem putO_fld {α:Type} [Inhabited α] {c:α→List AV} {w:Nat} [Wid c w] {l:List α} {i f:Nat} {ts:List AV} {a:α} (h:i<l.length) (hf:f+ts.length≤w) (ha:c a=splice (c (nth l i)) f ts):putO (flat c l) w i f ts=flat c (l.set i a):=by
 unfold putO;unfold splice at ha⊢;unfold flat;induction l generalizing i with
 | nil=>simp at h
 | cons b l ih=>
  have hb:(c b).length=w:=Wid.len b;cases i with
  | zero=>
   have e:nth (b::l) 0=b:=rfl;rw[e]at ha;rw[List.flatMap_cons,List.set_cons_zero,List.flatMap_cons,ha,Nat.zero_mul,Nat.zero_add];rw[List.take_append_of_le_length (by omega),List.drop_append_of_le_length (by omega)];simp
  | succ i=>
   have e:nth (b::l) (i+1)=nth l i:=rfl;rw[e]at ha;have ih:=ih (i:=i) (by simpa using h) ha;rw[List.flatMap_cons,List.set_cons_succ,List.flatMap_cons,←ih];have e1:(i+1)*w+f=w+(i*w+f):=(by rw[Nat.add_mul];omega);rw[e1,List.take_append,List.drop_append,hb];rw[List.take_of_length_le (by omega),List.drop_eq_nil_of_le (by omega)];have e2:w+(i*w+f)-w=i*w+f:=(by omega);have e3:w+(i*w+f)+ts.length-w=i*w+f+ts.length:=(by omega);rw[e2,e3];simp
def smB:Bs:=⟨#[115,109,117,100,103,101]⟩
theorem put_name {x:List Pl} {j:Nat} (hj:j<x.length):putO (flat Pl.cells x) 6 j 1 [sV smB]=flat Pl.cells (x.set j {nth x j with name:=smB}):=putO_fld hj (by decide) rfl
theorem reaches10_ok (root:Man) (L:List Man) (t:List Pl) (hl:L.length≤9223372036854775807) (htl:t.length≤9223372036854775807):CallsOK Tryz.prog 10 [.agg root.cells,rowT Man.cells L,rowT Pl.cells t] (bV true) []:=by
 refine callsOK mixed Tryz.call10 Tryz.func10 rfl (by rw[Tryz.ntmps10];simp) ?_ rfl;rw[Tryz.ntmps10];(repeat with_reducible refine aA ?_);(first | with_reducible refine aR fun K' hK=> ?_ | with_reducible refine aS fun K' hK=> ?_);simp;(first | refine hK _ _ _ ?_ | done);clear K' hK;(repeat with_reducible refine aA ?_);(first | with_reducible refine aR fun K' hK=> ?_ | with_reducible refine aS fun K' hK=> ?_);simp;refine acall_flat (big21_ok root L t hl htl) rfl (by first | rfl | (simp;done) | (simp;rfl) | (simp;exact⟨rfl,rfl⟩)) ?_;by_cases hb:bigW root L t=true
 ·simp[hb];(first | refine hK _ _ _ ?_ | done);clear K' hK;repeat with_reducible refine aA ?_
  (first | with_reducible refine aC fun A B hA hB=> ?_ | with_reducible refine aD fun A B hA hB=> ?_)
  simp;refine⟨fun hc=>hA ?_,fun hc=>hB ?_⟩<;>clear hA hB A B<;>(try (simp at hc;done))<;>(try (exfalso;simp at hc;omega))<;>clear hc<;>(try with_reducible refine aK ?_);(repeat with_reducible refine aA ?_);(first | with_reducible refine aR fun K' hK=> ?_ | with_reducible refine aS fun K' hK=> ?_);simp;(first | refine hK _ _ _ ?_ | done);clear K' hK;(repeat with_reducible refine aA ?_);(first | with_reducible refine aw_ret ?_ | with_reducible refine aw_retL ?_ | with_reducible refine aw_skipL ?_);simp[blockK,loopK,Post,resA,res1,expT,expA,exp1,expM,expL,okT,okA,ok1,rowOf,Tryz.f10]
 have hb':bigW root L t=false:=(by simpa using hb);obtain⟨b1,b2,b3⟩:=bigW_sz hb';have hsz:ValSz root L t:=valSz_of b1 b2 b3;have htl2:=(bigT_len b3).1;have c58:Tryz.prog.cellsOf 58=6:=(by kernel_rfl);have c3:Tryz.prog.cellsOf 3=1:=(by kernel_rfl);have hR:=reached49_ok root L t hsz;have hR2:=reach50_ok root L t hsz;have hP:=prune51_ok root L t hsz;have hP2:=prune52_ok root L t hsz;simp only[reachR]at hR;have hll:(reachL root L t).length≤t.length:=reach_le;have hvl:(pruneT root L t).length≤t.length:=by
  unfold pruneT;split
  ·rw[keep_len];exact rq_le
  ·simp
 generalize reachL root L t=l at*;generalize pruneT root L t=v at*;generalize codeV root L t=c at*;simp[hb'];(first | refine hK _ _ _ ?_ | done);clear K' hK;repeat with_reducible refine aA ?_
 (first | with_reducible refine aC fun A B hA hB=> ?_ | with_reducible refine aD fun A B hA hB=> ?_)
 simp;refine⟨fun hc=>hA ?_,fun hc=>hB ?_⟩<;>clear hA hB A B<;>(try (simp at hc;done))<;>(try (exfalso;simp at hc;omega))<;>clear hc<;>(try with_reducible refine aK ?_);(repeat with_reducible refine aA ?_);(first | with_reducible refine aR fun K' hK=> ?_ | with_reducible refine aS fun K' hK=> ?_);simp;refine acall_new (own11_ok t (by omega)) (by first | rfl | (simp;done) | (simp;rfl) | (simp;exact⟨rfl,rfl⟩)) ?_;simp[addJ_one];(first | refine hK _ _ _ ?_ | done);clear K' hK;(repeat with_reducible refine aA ?_);(first | with_reducible refine aR fun K' hK=> ?_ | with_reducible refine aS fun K' hK=> ?_);simp;refine acall_new hR (by first | rfl | (simp;done) | (simp;rfl) | (simp;exact⟨rfl,rfl⟩)) ?_;simp[addJ_one];(first | refine hK _ _ _ ?_ | done);clear K' hK;refine aw_gen (fun u X nz=>u 1=rowT Man.cells L∧u 2=rowT Pl.cells t∧u 3=.ptr 0 0∧u 7=.row 1 t.length∧u 8=.row 2 l.length∧u 9=iV c∧nz=3∧X 0=some (.var 27 root.cells)∧X 1=some (.row 58 (flat Pl.cells t))∧X 2=some (.row 3 (flat iC l))) ?_ ?_
 ·exact⟨by simp,by simp,by simp,by simp,by simp,by simp,by simp,by simp,by simp,by simp⟩
 rintro s G nx ⟨s1,s2,s3,s7,s8,s9,rfl,g0,g1,g2⟩;have t1:∀X:Hp,X 1=G 1→treeOf Tryz.prog X (.row 1 t.length)=some (rowT Pl.cells t):=fun X h=>treeOf_of (h.trans g1) c58 rfl;have tl:∀(X:Hp) i,X i=some (.row 3 (flat iC l))→treeOf Tryz.prog X (.row i l.length)=some (rowT iC l):=fun X i h=>treeOf_of h c3 rfl;have tv:∀(X:Hp) i,X i=some (.row 58 (flat Pl.cells v))→treeOf Tryz.prog X (.row i v.length)=some (rowT Pl.cells v):=fun X i h=>treeOf_of h c58 rfl;have sR:∀X:Hp,X 1=G 1→seesA Tryz.prog X [.agg root.cells,rowT Man.cells L,.row 1 t.length]=some [.agg root.cells,rowT Man.cells L,rowT Pl.cells t]:=fun X h=>by
  simp only[seesA,seeA,lookA,t1 X h];rfl
 have hI:CallsOK Tryz.prog 37 [rowT iC l,rowT iC l] (bV true) []:=by
  have:=ints27_ok l l (by omega);simpa using this
 (repeat with_reducible refine aA ?_);(first | with_reducible refine aR fun K' hK=> ?_ | with_reducible refine aS fun K' hK=> ?_);simp[s1,s3,s7,g0];refine acall_keep hR2 ⟨rfl,iC_J _ _⟩ (sR G rfl) ?_;simp[addJ_one];(first | refine hK _ _ _ ?_ | done);clear K' hK;(repeat with_reducible refine aA ?_);(first | with_reducible refine aR fun K' hK=> ?_ | with_reducible refine aS fun K' hK=> ?_);simp[s1,s2,s3,g0];refine acall_keep hP ⟨rfl,pl_J _ _⟩ (by first | rfl | (simp;done) | (simp;rfl) | (simp;exact⟨rfl,rfl⟩)) ?_;simp[addJ_one];(first | refine hK _ _ _ ?_ | done);clear K' hK;(repeat with_reducible refine aA ?_);(first | with_reducible refine aR fun K' hK=> ?_ | with_reducible refine aS fun K' hK=> ?_);simp[s1,s3,s7,g0];refine acall_keep hP2 ⟨rfl,pl_J _ _⟩ (sR _ (by simp)) ?_;simp[addJ_one];(first | refine hK _ _ _ ?_ | done);clear K' hK;refine aw_gen (fun u X nz=>u 2=rowT Pl.cells t∧u 7=.row 1 t.length∧u 8=.row 2 l.length∧u 9=iV c∧u 10=.row 3 l.length∧u 11=iV c∧u 12=.row 4 v.length∧u 13=iV c∧u 14=.row 5 v.length∧u 15=iV c∧X 1=G 1∧X 2=some (.row 3 (flat iC l))∧X 3=some (.row 3 (flat iC l))∧X 4=some (.row 58 (flat Pl.cells v))∧X 5=some (.row 58 (flat Pl.cells v))) ?_ ?_
 ·exact⟨by simp[s2],by simp[s7],by simp[s8],by simp[s9],by simp,by simp,by simp,by simp,by simp,by simp,by simp,by simp[g2],by simp,by simp,by simp⟩
 clear s1 s2 s3 s7 s8 s9 sR hR hR2 hP hP2 s;rintro s X nx ⟨s2,s7,s8,s9,s10,s11,s12,s13,s14,s15,x1,x2,x3,x4,x5⟩;have q1:seesA Tryz.prog X [.row 2 l.length,.row 3 l.length]=some [rowT iC l,rowT iC l]:=(by simp only[seesA,seeA,lookA,tl X 2 x2,tl X 3 x3]);have q2:seesA Tryz.prog X [.row 4 v.length,.row 5 v.length]=some [rowT Pl.cells v,rowT Pl.cells v]:=(by simp only[seesA,seeA,lookA,tv X 4 x4,tv X 5 x5]);(repeat with_reducible refine aA ?_);(first | with_reducible refine aR fun K' hK=> ?_ | with_reducible refine aS fun K' hK=> ?_);simp[s8,s9,s10,s11,s12,s13,s14,s15];refine acall_flat hI rfl q1 ?_;simp[s8,s9,s10,s11,s12,s13,s14,s15];refine acall_flat (pr_same v (by omega)) rfl q2 ?_;simp;(first | refine hK _ _ _ ?_ | done);clear K' hK;(repeat with_reducible refine aA ?_);(first | with_reducible refine aR fun K' hK=> ?_ | with_reducible refine aS fun K' hK=> ?_);simp;(first | refine hK _ _ _ ?_ | done);clear K' hK;have hsm:(⟨#[115,109,117,100,103,101]⟩:Bs)=smB:=rfl;(repeat with_reducible refine aA ?_);(first | with_reducible refine aw_block ?_ | with_reducible refine aw_toS (aw_block ?_));refine aw_loop (fun s Y nx=>s 2=rowT Pl.cells t∧s 7=.row 1 t.length∧s 12=.row 4 v.length∧s 16=bV true∧Y 1=G 1∧(∃x:List Pl,x.length=v.length∧Y 4=some (.row 58 (flat Pl.cells x)))∧∃j:Nat,s 17=iV j∧j≤v.length) (fun s _ _=>match s 17 with | .v (.int _ n)=>v.length-n.toNat | _=>0) ?_ ?_
 ·exact⟨by simp[s2],by simp[s7],by simp[s12],by simp,x1,⟨v,rfl,x4⟩,0,by simp,by omega⟩
 clear s2 s7 s8 s9 s10 s11 s12 s13 s14 s15 x1 x2 x3 x4 x5 q1 q2 s X;rintro s Y nx-⟨s2,s7,s12,s16,y1,⟨x,hx,y4⟩,j,s17,hj⟩;have hw:IntKind.i64.wrap (↑j+1)=((j+1:Nat):Int):=wrapS (by omega);(repeat with_reducible refine aA ?_);(first | with_reducible refine aR fun K' hK=> ?_ | with_reducible refine aS fun K' hK=> ?_);simp[s12,s17,y4];(first | refine hK _ _ _ ?_ | done);clear K' hK;(repeat with_reducible refine aA ?_);(first | with_reducible refine aC fun A B hA hB=> ?_ | with_reducible refine aD fun A B hA hB=> ?_);simp;refine⟨fun hj2=>hA ?_,fun hj2=>hB ?_⟩<;>clear hA hB A B<;>(try simp at hj2)<;>(try with_reducible refine aK ?_)
 ·have hj3:j<x.length:=(by omega);have hpn:=put_name hj3;(repeat with_reducible refine aA ?_);(first | with_reducible refine aw_block ?_ | with_reducible refine aw_toS (aw_block ?_));(repeat with_reducible refine aA ?_);(first | with_reducible refine aR fun K' hK=> ?_ | with_reducible refine aS fun K' hK=> ?_);simp[s12,s17,y4,hj2,hj3,hsm,hpn];(first | refine hK _ _ _ ?_ | done);clear K' hK;(first | with_reducible refine aw_skipL ?_ | skip);refine blockK_normal ?_;(repeat with_reducible refine aA ?_);(first | with_reducible refine aR fun K' hK=> ?_ | with_reducible refine aS fun K' hK=> ?_);simp[s17,hw];(first | refine hK _ _ _ ?_ | done);clear K' hK;refine aw_skipL (loopK_normal ?_ ?_)
  ·exact⟨by simp[s2],by simp[s7],by simp[s12],by simp[s16],by simp[y1],⟨x.set j {nth x j with name:=smB},by simpa using hx,by simp⟩,j+1,by simp[hw],by omega⟩
  ·simp[s17,hw];omega
 ·(repeat with_reducible refine aA ?_);(first | with_reducible refine aw_exit ?_ | with_reducible refine aw_exitL ?_);refine loopK_exit (blockK_exit ?_);have q3:seesA Tryz.prog Y [rowT Pl.cells t,.row 1 t.length]=some [rowT Pl.cells t,rowT Pl.cells t]:=by
   simp only[seesA,seeA,lookA,t1 Y y1];rfl
  (repeat with_reducible refine aA ?_);(first | with_reducible refine aR fun K' hK=> ?_ | with_reducible refine aS fun K' hK=> ?_);simp;refine acall_flat prunes53_ok rfl (by first | rfl | (simp;done) | (simp;rfl) | (simp;exact⟨rfl,rfl⟩)) ?_;simp[s2,s7,s16];refine acall_flat (pr_same t (by omega)) rfl q3 ?_;simp;(first | refine hK _ _ _ ?_ | done);clear K' hK;(repeat with_reducible refine aA ?_);(first | with_reducible refine aw_ret ?_ | with_reducible refine aw_retL ?_ | with_reducible refine aw_skipL ?_);simp[blockK,loopK,Post,resA,res1,expT,expA,exp1,expM,expL,okT,okA,ok1,rowOf,Tryz.f10]
end Go.Proofs.YtgipehooceecpaaGreatDoorAbs
