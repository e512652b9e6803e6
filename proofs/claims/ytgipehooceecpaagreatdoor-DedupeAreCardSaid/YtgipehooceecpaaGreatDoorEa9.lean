/- DedupeAre, DedupeMakes. -/
import Derived.Test.YtgipehooceecpaaGreatDoorEa8
import Derived.Test.YtgipehooceecpaaGreatDoorEa6
namespace Go.Proofs.YtgipehooceecpaaGreatDoorAbs
set_option linter.unusedSimpArgs false
set_option linter.unusedVariables false
open Go Go.RowKit Go.Proofs
set_option maxRecDepth 100000
set_option maxHeartbeats 4000000
theorem dep210_ok (d:Dep) (root:Bool) (hn:d.name.size≤1000000) (hr:Rg.sz d.range):CallsOK Tryz.prog 210 [.agg d.cells,bV root] (bV (kindB root d&&ruledB d.name d.range)) []:=by
 refine callsOK mixed Tryz.call210 Tryz.func210 rfl (by rw[Tryz.ntmps210];simp) ?_ rfl;rw[Tryz.ntmps210];with_reducible refine aR fun K' hK=> ?_
 simp;refine hK _ _ _ ?_;clear K' hK;have hk:∀b,kindB root d=b→(kindB root d&&ruledB d.name d.range)=(b&&(rgOk d.range&&goodF (bsL d.name))):=fun b h=>(by rw[h];rfl);have fin:∀(K:Bool),kindB root d=K→True:=fun _ _=>trivial;by_cases k1:1≤d.kind
 ·by_cases k4:d.kind≤4
  ·by_cases k2:root=true∨d.kind≠2
   ·have hkb:kindB root d=true:=by
     simp only[kindB,Bool.and_eq_true,decide_eq_true_eq,Bool.or_eq_true,Bool.not_eq_true',decide_eq_false_iff_not];exact⟨⟨k1,k4⟩,k2⟩
    rw[hkb];refine aw_cut (fun s G nx=>s 4=bV (goodF (bsL d.name)&&rgOk d.range)) ?_ ?_
    ·cases root with
     | true=>
      with_reducible refine aS fun K' hK=> ?_
      simp[k1,k4];refine acall_flat (good36_ok d.name (by omega)) rfl (by first | rfl | (simp;done) | (simp;rfl) | (simp;exact⟨rfl,rfl⟩)) ?_;by_cases hg:goodF (bsL d.name)=true
      ·simp[hg];refine acall_flat (right100_ok d.range hr) rfl (by simp[Rg.cells]) ?_;simp;refine hK _ _ _ ?_;clear K' hK;with_reducible refine aw_end ?_
       simp[hg]
      ·simp[hg];refine hK _ _ _ ?_;clear K' hK;with_reducible refine aw_end ?_
       simp[hg]
     | false=>
      have k2':¬d.kind=2:=k2.resolve_left (by simp);with_reducible refine aS fun K' hK=> ?_
      simp[k1,k4,k2'];refine acall_flat (good36_ok d.name (by omega)) rfl (by first | rfl | (simp;done) | (simp;rfl) | (simp;exact⟨rfl,rfl⟩)) ?_;by_cases hg:goodF (bsL d.name)=true
      ·simp[hg];refine acall_flat (right100_ok d.range hr) rfl (by simp[Rg.cells]) ?_;simp;refine hK _ _ _ ?_;clear K' hK;with_reducible refine aw_end ?_
       simp[hg]
      ·simp[hg];refine hK _ _ _ ?_;clear K' hK;with_reducible refine aw_end ?_
       simp[hg]
    ·rintro s G nx s4;with_reducible refine aw_retL ?_
     simp[blockK,loopK,Post,resA,res1,expT,expA,exp1,expM,expL,okT,okA,ok1,rowOf,Tryz.f210,s4];simp[ruledB,Bool.and_comm]
   ·have hr0:root=false:=(by cases root<;>simp_all);have hk2:d.kind=2:=by
     rcases Classical.em (d.kind=2)with h | h
     ·exact h
     ·exact absurd (.inr h) k2
    subst hr0;with_reducible refine aR fun K' hK=> ?_
    simp[k1,k4,hk2];refine hK _ _ _ ?_;clear K' hK;with_reducible refine aw_retL ?_
    simp[blockK,loopK,Post,resA,res1,expT,expA,exp1,expM,expL,okT,okA,ok1,rowOf,Tryz.f210];simp[kindB,hk2]
  ·skip;with_reducible refine aR fun K' hK=> ?_
   simp[k1,k4];refine hK _ _ _ ?_;clear K' hK;with_reducible refine aw_retL ?_
   simp[blockK,loopK,Post,resA,res1,expT,expA,exp1,expM,expL,okT,okA,ok1,rowOf,Tryz.f210];simp[kindB,k4]
 ·skip;with_reducible refine aR fun K' hK=> ?_
  simp[k1];refine hK _ _ _ ?_;clear K' hK;with_reducible refine aw_retL ?_
  simp[blockK,loopK,Post,resA,res1,expT,expA,exp1,expM,expL,okT,okA,ok1,rowOf,Tryz.f210];simp[kindB,k1]
theorem ahead182_ok (a b:Man) (ha:a.ver.pre.size≤1000000) (hb:b.ver.pre.size≤1000000):CallsOK Tryz.prog 182 [.agg a.cells,.agg b.cells] (bV (decide (manOrd a b<0))) []:=by
 refine callsOK mixed Tryz.call182 Tryz.func182 rfl (by rw[Tryz.ntmps182];simp) ?_ rfl;rw[Tryz.ntmps182];with_reducible refine aR fun K' hK=> ?_
 simp;refine hK _ _ _ ?_;clear K' hK;by_cases h1:ltB a.name b.name=true
 ·skip;with_reducible refine aR fun K' hK=> ?_
  simp[h1];refine hK _ _ _ ?_;clear K' hK;with_reducible refine aw_retL ?_
  simp[blockK,loopK,Post,resA,res1,expT,expA,exp1,expM,expL,okT,okA,ok1,rowOf,Tryz.f182];have:cmpB a.name b.name= -1:=(by simp[cmpB,h1]);simp[manOrd,orN,this]
 ·have h1':ltB a.name b.name=false:=(by simpa using h1);by_cases h2:a.name=b.name
  ·have h2':(a.name=b.name)=True:=eq_true h2;with_reducible refine aR fun K' hK=> ?_
   simp[h1',h2'];refine acall_flat (compare192_ok a.ver b.ver ha hb) rfl (by first | rfl | (simp;done) | (simp;rfl) | (simp;exact⟨rfl,rfl⟩)) ?_;simp;refine hK _ _ _ ?_;clear K' hK;with_reducible refine aw_retL ?_
   simp[blockK,loopK,Post,resA,res1,expT,expA,exp1,expM,expL,okT,okA,ok1,rowOf,Tryz.f182];have:cmpB a.name b.name=0:=cmpB_zero.2 h2;simp only[manOrd,orN,this,if_true];split
   ·rename_i h;rw[h]
   ·rfl
  ·skip;with_reducible refine aR fun K' hK=> ?_
   refine aops_part 6 fun K2 hK2=> ?_;simp[h1'];refine hK2 _ _ _ ?_;clear K2 hK2;refine aops_part 6 fun K2 hK2=> ?_;simp[h2];refine hK2 _ _ _ ?_;clear K2 hK2;simp[h2];refine hK _ _ _ ?_;clear K' hK;with_reducible refine aw_retL ?_
   simp[blockK,loopK,Post,resA,res1,expT,expA,exp1,expM,expL,okT,okA,ok1,rowOf,Tryz.f182];have h3:¬cmpB a.name b.name=0:=fun h=>h2 (cmpB_zero.1 h);have h4:¬cmpB a.name b.name<0:=fun h=>h1 (cmpB_neg.1 h);simp only[manOrd,orN,if_neg h3];omega
set_option maxRecDepth 100000
set_option maxHeartbeats 4000000
theorem depLt_iff (a b:Dep):depLt a b=true↔¬b.kind<a.kind∧(¬a.kind=b.kind∨ltB a.name b.name=true):=by
 unfold depLt;rw[decide_eq_true_eq];have e:orN [cmpI a.kind b.kind,cmpB a.name b.name]=if cmpI a.kind b.kind=0 then cmpB a.name b.name else cmpI a.kind b.kind:=by
  simp only[orN];split
  ·split
   ·rename_i h;exact h.symm
   ·rfl
  ·rfl
 rw[e];rcases Int.lt_trichotomy a.kind b.kind with h | h | h
 ·rw[cmpI_lt h,if_neg (by decide)];exact⟨fun _=>⟨by omega,.inl (by omega)⟩,fun _=>by decide⟩
 ·rw[h,cmpI_self,if_pos rfl,cmpB_neg];exact⟨fun h=>⟨by omega,.inr h⟩,fun h=>h.2.resolve_left (by simp)⟩
 ·rw[cmpI_gt h,if_neg (by decide)];exact⟨fun h=>absurd h (by decide),fun h2=>absurd h h2.1⟩
theorem right181_ok (m:Man) (hm:Man.sz m) (root:Bool):CallsOK Tryz.prog 181 [.agg m.cells,bV root] (bV (manRight m root)) []:=by
 obtain⟨hn,hv,⟨hdl,hdd⟩,hrl,hrr⟩:=hm;refine callsOK mixed Tryz.call181 Tryz.func181 rfl (by rw[Tryz.ntmps181];simp) ?_ rfl;rw[Tryz.ntmps181];with_reducible refine aR fun K' hK=> ?_
 simp;refine hK _ _ _ ?_;clear K' hK;with_reducible refine aA ?_
 refine aw_cut (fun s G nx=>s 1=bV root∧s 2=.ptr 0 0∧G 0=some (.var 27 m.cells)∧s 35=bV (!manHead m root)) ?_ ?_
 ·skip;with_reducible refine aS fun K' hK=> ?_
  refine aops_part 3 fun K2 hK2=> ?_;simp;refine acall_flat (right37_ok m.ver (by omega)) rfl (by first | rfl | (simp;done) | (simp;rfl) | (simp;exact⟨rfl,rfl⟩)) ?_;simp;refine hK2 _ _ _ ?_;clear K2 hK2;by_cases c1:verOk m.ver=true
  ·refine aops_part 7 fun K2 hK2=> ?_;simp[c1];refine acall_flat (good36_ok m.name (by omega)) rfl (by first | rfl | (simp;done) | (simp;rfl) | (simp;exact⟨rfl,rfl⟩)) ?_;simp;refine hK2 _ _ _ ?_;clear K2 hK2;by_cases c2:goodF (bsL m.name)=true
   ·by_cases c3:m.rules.length=0
    ·have c3':¬0<m.rules.length:=(by omega);have c3i:¬(0:Int)<m.rules.length:=(by omega);refine aops_part 8 fun K2 hK2=> ?_;simp[c1,c2];refine hK2 _ _ _ ?_;clear K2 hK2;simp[c1,c2,c3,c3',c3i];refine hK _ _ _ ?_;clear K' hK;with_reducible refine aw_end ?_
     simp[manHead,c1,c2,c3]
    ·have c3':0<m.rules.length:=(by omega);have c3i:(0:Int)<m.rules.length:=(by omega);cases root<;>(
      refine aops_part 8 fun K2 hK2=> ?_;simp[c1,c2];refine hK2 _ _ _ ?_;clear K2 hK2;simp[c1,c2,c3,c3',c3i];refine hK _ _ _ ?_;clear K' hK;with_reducible refine aw_end ?_
      simp[manHead,c1,c2,c3])
   ·by_cases c4:m.name=⟨#[]⟩
    ·have c4':(m.name=⟨#[]⟩)=True:=eq_true c4;by_cases c3:m.rules.length=0
     ·have c3':¬0<m.rules.length:=(by omega);have c3i:¬(0:Int)<m.rules.length:=(by omega);cases root<;>(
       refine aops_part 8 fun K2 hK2=> ?_;simp[c1,c2,c4'];refine hK2 _ _ _ ?_;clear K2 hK2;simp[c1,c2,c3,c3',c3i];refine hK _ _ _ ?_;clear K' hK;with_reducible refine aw_end ?_
       simp[manHead,c1,c2,c3,c4'])
     ·have c3':0<m.rules.length:=(by omega);have c3i:(0:Int)<m.rules.length:=(by omega);cases root<;>(
       refine aops_part 8 fun K2 hK2=> ?_;simp[c1,c2,c4'];refine hK2 _ _ _ ?_;clear K2 hK2;simp[c1,c2,c3,c3',c3i];refine hK _ _ _ ?_;clear K' hK;with_reducible refine aw_end ?_
       simp[manHead,c1,c2,c3,c4'])
    ·refine aops_part 8 fun K2 hK2=> ?_;simp[c1,c2,c4];refine hK2 _ _ _ ?_;clear K2 hK2;simp[c1,c2,c4];refine hK _ _ _ ?_;clear K' hK;with_reducible refine aw_end ?_
     simp[manHead,c1,c2,c4]
  ·refine aops_part 8 fun K2 hK2=> ?_;simp[c1];refine hK2 _ _ _ ?_;clear K2 hK2;refine aops_part 8 fun K2 hK2=> ?_;simp[c1];refine hK2 _ _ _ ?_;clear K2 hK2;simp[c1];refine hK _ _ _ ?_;clear K' hK;with_reducible refine aw_end ?_
   simp[manHead,c1]
 ·rintro s G nx ⟨s1,s2,g0,s35⟩;by_cases hh:manHead m root=true
  ·rw[hh]at s35;with_reducible refine aYk (by simp[s35]) ?_;refine aA ?_;refine aR fun K' hK=> ?_
   simp;refine hK _ _ _ ?_;clear K' hK;refine aw_cutR (fun s G nx=>s 1=bV root∧s 2=.ptr 0 0∧G 0=some (.var 27 m.cells)∧(List.range m.deps.length).all (depAt root m.deps)=true) ?_ ?_
   ·skip;with_reducible refine aw_toS (aw_block ?_)
    refine aw_loop (fun s G nx=>s 1=bV root∧s 2=.ptr 0 0∧G 0=some (.var 27 m.cells)∧∃i:Nat,s 5=iV i∧i≤m.deps.length∧(List.range i).all (depAt root m.deps)=true) (fun s _ _=>match s 5 with | .v (.int _ n)=>m.deps.length-n.toNat | _=>0) ?_ ?_
    ·exact⟨by simp[s1],by simp[s2],by simp[g0],0,by simp,by omega,by simp⟩
    ·clear s1 s2 g0 s35 s G nx;rintro s G nx hf ⟨s1,s2,g0,i,s5,hi,ht⟩;have hw:IntKind.i64.wrap (↑i+1)=((i+1:Nat):Int):=wrapS (by omega);with_reducible refine aA ?_;refine aR fun K' hK=> ?_
     simp[s2,s5,g0];refine hK _ _ _ ?_;clear K' hK;with_reducible refine aC fun A B hA hB=> ?_
     simp;refine⟨fun hi2=>hA ?_,fun hi2=>hB ?_⟩<;>clear hA hB A B<;>(try simp at hi2)<;>(try with_reducible refine aK ?_)
     ·have hd:=hdd _ (nth_mem hi2);have hfalse:depAt root m.deps i=false→manRight m root=false:=fun h=>(by rw[manRight,rng_all hi2 h];simp);have hstep:=rng_step (p:=depAt root m.deps) ht;have hdef:depAt root m.deps i=(kindB root (nth m.deps i)&&(ruledB (nth m.deps i).name (nth m.deps i).range&&(decide (i=0) || depLt (nth m.deps (i-1)) (nth m.deps i)))):=rfl;generalize hgd:nth m.deps i=d at*;with_reducible refine aw_block ?_
      have hdep:=dep210_ok d root hd.1 hd.2;generalize hKR:(kindB root d&&ruledB d.name d.range)=kr at hdep;with_reducible refine aA ?_;refine aR fun K' hK=> ?_
      simp[s1,s2,s5,g0,hi2,hgd];refine acall_flat hdep rfl (by first | rfl | (simp;done) | (simp;rfl) | (simp;exact⟨rfl,rfl⟩)) ?_;simp;refine hK _ _ _ ?_;clear K' hK;cases kr with
      | true=>
       with_reducible refine aYk (by simp) ?_
       have c':kindB root d=true∧ruledB d.name d.range=true:=(by simpa using hKR);rw[c'.1,c'.2]at hdef;by_cases hz:i=0
       ·have hz':¬(0:Int)<(i:Int):=(by omega);have hz2:¬0<i:=(by omega);with_reducible refine aQ fun K' hK=> ?_
        refine aops_part 10 fun K2 hK2=> ?_;simp[s5,hz',hz2];refine hK2 _ _ _ ?_;clear K2 hK2;refine aops_part 10 fun K2 hK2=> ?_;simp[hz',hz2];refine hK2 _ _ _ ?_;clear K2 hK2;refine aops_part 10 fun K2 hK2=> ?_;simp[hz',hz2];refine hK2 _ _ _ ?_;clear K2 hK2;refine aops_part 10 fun K2 hK2=> ?_;simp[hz',hz2];refine hK2 _ _ _ ?_;clear K2 hK2;simp[hz',hz2];refine hK _ _ _ ?_;clear K' hK;with_reducible refine aVk (by simp) ?_;refine aw_skipL ?_
        refine blockK_normal ?_;with_reducible refine aS fun K' hK=> ?_
        simp[s5,hw];refine hK _ _ _ ?_;clear K' hK;refine aw_skipL (loopK_normal ?_ ?_)
        ·exact⟨by simp[s1],by simp[s2],by simp[g0],i+1,by simp[hw],by omega,hstep (by rw[hdef];simp[hz])⟩
        ·simp[s5,hw];omega
       ·obtain⟨p,hp⟩:∃p,i=p+1:=⟨i-1,by omega⟩;have hz':(0:Int)<(i:Int):=(by omega);have hz2:0<i:=(by omega);have hsub:IntKind.i64.wrap ((i:Int)-1)=(p:Int):=(by rw[wrap64 (by omega) (by omega)];omega);have hpl:p<m.deps.length:=(by omega);have hip:i-1=p:=(by omega);rw[hip]at hdef;have hlt:=depLt_iff (nth m.deps p) d;generalize hgp:nth m.deps p=e at*;by_cases k1:d.kind<e.kind
        ·skip;with_reducible refine aQ fun K' hK=> ?_
         refine aops_part 17 fun K2 hK2=> ?_;simp[s2,s5,g0,hz',hz2,hsub,hpl,hgp,hi2,hgd,k1];refine hK2 _ _ _ ?_;clear K2 hK2;refine aops_part 12 fun K2 hK2=> ?_;simp[hz',hz2,k1];refine hK2 _ _ _ ?_;clear K2 hK2;refine aops_part 12 fun K2 hK2=> ?_;simp[hz',hz2,k1];refine hK2 _ _ _ ?_;clear K2 hK2;simp[hz',hz2,k1];refine hK _ _ _ ?_;clear K' hK;with_reducible refine aU (by simp) ?_;refine aA ?_;refine aR fun K' hK=> ?_
         simp;refine hK _ _ _ ?_;clear K' hK;with_reducible refine aw_ret ?_
         simp[blockK,loopK,Post,resA,res1,expT,expA,exp1,expM,expL,okT,okA,ok1,rowOf,Tryz.f181,cutK];have:depLt e d=false:=by
          rw[Bool.eq_false_iff];exact fun h=>(hlt.1 h).1 k1
         rw[hfalse (by rw[hdef,this];simp[hz])]
        ·by_cases k2:e.kind=d.kind
         ·have k2':(e.kind=d.kind)=True:=eq_true k2;by_cases k3:ltB e.name d.name=true
          ·skip;with_reducible refine aQ fun K' hK=> ?_
           refine aops_part 17 fun K2 hK2=> ?_;simp[s2,s5,g0,hz',hz2,hsub,hpl,hgp,hi2,hgd,k1];refine hK2 _ _ _ ?_;clear K2 hK2;refine aops_part 15 fun K2 hK2=> ?_;simp[s2,s5,g0,hz',hz2,hsub,hpl,hgp,hi2,hgd,k1,k2'];refine hK2 _ _ _ ?_;clear K2 hK2;refine aops_part 15 fun K2 hK2=> ?_;simp[s2,s5,g0,hz',hz2,hsub,hpl,hgp,hi2,hgd,k1,k2',k3];refine hK2 _ _ _ ?_;clear K2 hK2;simp[hz',hz2,k1,k2',k3];refine hK _ _ _ ?_;clear K' hK;with_reducible refine aVk (by simp) ?_;refine aw_skipL ?_
           refine blockK_normal ?_;with_reducible refine aS fun K' hK=> ?_
           simp[s5,hw];refine hK _ _ _ ?_;clear K' hK;refine aw_skipL (loopK_normal ?_ ?_)
           ·exact⟨by simp[s1],by simp[s2],by simp[g0],i+1,by simp[hw],by omega,hstep (by rw[hdef,hlt.2 ⟨k1,.inr k3⟩];simp)⟩
           ·simp[s5,hw];omega
          ·have k3':ltB e.name d.name=false:=(by simpa using k3);with_reducible refine aQ fun K' hK=> ?_
           refine aops_part 17 fun K2 hK2=> ?_;simp[s2,s5,g0,hz',hz2,hsub,hpl,hgp,hi2,hgd,k1];refine hK2 _ _ _ ?_;clear K2 hK2;refine aops_part 15 fun K2 hK2=> ?_;simp[s2,s5,g0,hz',hz2,hsub,hpl,hgp,hi2,hgd,k1,k2'];refine hK2 _ _ _ ?_;clear K2 hK2;refine aops_part 15 fun K2 hK2=> ?_;simp[s2,s5,g0,hz',hz2,hsub,hpl,hgp,hi2,hgd,k1,k2',k3'];refine hK2 _ _ _ ?_;clear K2 hK2;simp[hz',hz2,k1,k2',k3'];refine hK _ _ _ ?_;clear K' hK;with_reducible refine aU (by simp) ?_;refine aA ?_;refine aR fun K' hK=> ?_
           simp;refine hK _ _ _ ?_;clear K' hK;with_reducible refine aw_ret ?_
           simp[blockK,loopK,Post,resA,res1,expT,expA,exp1,expM,expL,okT,okA,ok1,rowOf,Tryz.f181,cutK];have:depLt e d=false:=by
            rw[Bool.eq_false_iff];exact fun h=>(hlt.1 h).2.elim (fun h=>h k2) k3
           rw[hfalse (by rw[hdef,this];simp[hz])]
         ·skip;with_reducible refine aQ fun K' hK=> ?_
          refine aops_part 17 fun K2 hK2=> ?_;simp[s2,s5,g0,hz',hz2,hsub,hpl,hgp,hi2,hgd,k1];refine hK2 _ _ _ ?_;clear K2 hK2;refine aops_part 15 fun K2 hK2=> ?_;simp[s2,s5,g0,hz',hz2,hsub,hpl,hgp,hi2,hgd,k1,k2];refine hK2 _ _ _ ?_;clear K2 hK2;refine aops_part 15 fun K2 hK2=> ?_;simp[s2,s5,g0,hz',hz2,hsub,hpl,hgp,hi2,hgd,k1,k2];refine hK2 _ _ _ ?_;clear K2 hK2;simp[hz',hz2,k1,k2];refine hK _ _ _ ?_;clear K' hK;with_reducible refine aVk (by simp) ?_;refine aw_skipL ?_
          refine blockK_normal ?_;with_reducible refine aS fun K' hK=> ?_
          simp[s5,hw];refine hK _ _ _ ?_;clear K' hK;refine aw_skipL (loopK_normal ?_ ?_)
          ·exact⟨by simp[s1],by simp[s2],by simp[g0],i+1,by simp[hw],by omega,hstep (by rw[hdef,hlt.2 ⟨k1,.inl k2⟩];simp)⟩
          ·simp[s5,hw];omega
      | false=>
       with_reducible refine aX (by simp) ?_;refine aA ?_;refine aR fun K' hK=> ?_
       simp;refine hK _ _ _ ?_;clear K' hK;with_reducible refine aw_ret ?_
       simp[blockK,loopK,Post,resA,res1,expT,expA,exp1,expM,expL,okT,okA,ok1,rowOf,Tryz.f181,cutK];rw[hfalse (by rw[hdef,←Bool.and_assoc,hKR];rfl)]
     ·skip;with_reducible refine aw_exit ?_
      refine loopK_exit (blockK_exit ?_);have hie:i=m.deps.length:=(by omega);subst hie;with_reducible refine aw_endR ?_
      exact⟨by simp[s1],by simp[s2],by simp[g0],ht⟩
   ·clear s1 s2 g0 s35 s G nx;rintro s G nx ⟨s1,s2,g0,hall⟩;have hmr:manRight m root=(List.range m.rules.length).all (ruAt m.rules):=(by rw[manRight,hh,hall];rfl);with_reducible refine aA ?_;refine aR fun K' hK=> ?_
    simp;refine hK _ _ _ ?_;clear K' hK;with_reducible refine aw_block ?_
    refine aw_loop (fun s G nx=>s 2=.ptr 0 0∧G 0=some (.var 27 m.cells)∧∃i:Nat,s 6=iV i∧i≤m.rules.length∧(List.range i).all (ruAt m.rules)=true) (fun s _ _=>match s 6 with | .v (.int _ n)=>m.rules.length-n.toNat | _=>0) ?_ ?_
    ·exact⟨by simp[s2],by simp[g0],0,by simp,by omega,by simp⟩
    ·clear s1 s2 g0 s G nx;rintro s G nx hf ⟨s2,g0,i,s6,hi,ht⟩;have hw:IntKind.i64.wrap (↑i+1)=((i+1:Nat):Int):=wrapS (by omega);with_reducible refine aA ?_;refine aR fun K' hK=> ?_
     simp[s2,s6,g0];refine hK _ _ _ ?_;clear K' hK;with_reducible refine aC fun A B hA hB=> ?_
     simp;refine⟨fun hi2=>hA ?_,fun hi2=>hB ?_⟩<;>clear hA hB A B<;>(try simp at hi2)<;>(try with_reducible refine aK ?_)
     ·have hd:=hrr _ (nth_mem hi2);have hfalse:ruAt m.rules i=false→manRight m root=false:=fun h=>(by rw[hmr,rng_all hi2 h]);have hstep:=rng_step (p:=ruAt m.rules) ht;have hdef:ruAt m.rules i=(ruledB (nth m.rules i).name (nth m.rules i).range&&(decide (i=0) || ltB (nth m.rules (i-1)).name (nth m.rules i).name)):=rfl;generalize hgd:nth m.rules i=d at*;have hrd:ruledB d.name d.range=(rgOk d.range&&goodF (bsL d.name)):=rfl;with_reducible refine aw_block ?_;refine aQ fun K' hK=> ?_
      refine aops_part 7 fun K2 hK2=> ?_;simp[s2,s6,g0,hi2,hgd];refine acall_flat (good36_ok d.name (by omega)) rfl (by first | rfl | (simp;done) | (simp;rfl) | (simp;exact⟨rfl,rfl⟩)) ?_;simp;refine hK2 _ _ _ ?_;clear K2 hK2;by_cases c1:goodF (bsL d.name)=true
      ·refine aops_part 9 fun K2 hK2=> ?_;simp[s2,s6,g0,hi2,hgd,c1];refine acall_flat (right100_ok d.range hd.2) rfl (by simp[Rg.cells]) ?_;simp;refine hK2 _ _ _ ?_;clear K2 hK2;by_cases c2:rgOk d.range=true
       ·have hrt:ruledB d.name d.range=true:=(by rw[hrd,c1,c2];rfl);rw[hrt]at hdef;by_cases hz:i=0
        ·have hz':¬(0:Int)<(i:Int):=(by omega);have hz2:¬0<i:=(by omega);refine aops_part 10 fun K2 hK2=> ?_;simp[c1,c2,s6,hz',hz2];refine hK2 _ _ _ ?_;clear K2 hK2;simp[c1,c2,hz',hz2];refine hK _ _ _ ?_;clear K' hK;with_reducible refine aVk (by simp) ?_;refine aw_skipL ?_
         refine blockK_normal ?_;with_reducible refine aS fun K' hK=> ?_
         simp[s6,hw];refine hK _ _ _ ?_;clear K' hK;refine aw_skipL (loopK_normal ?_ ?_)
         ·exact⟨by simp[s2],by simp[g0],i+1,by simp[hw],by omega,hstep (by rw[hdef];simp[hz])⟩
         ·simp[s6,hw];omega
        ·obtain⟨p,hp⟩:∃p,i=p+1:=⟨i-1,by omega⟩;have hz':(0:Int)<(i:Int):=(by omega);have hz2:0<i:=(by omega);have hsub:IntKind.i64.wrap ((i:Int)-1)=(p:Int):=(by rw[wrap64 (by omega) (by omega)];omega);have hpl:p<m.rules.length:=(by omega);have hip:i-1=p:=(by omega);rw[hip]at hdef;generalize hgp:nth m.rules p=e at*;by_cases k3:ltB e.name d.name=true
         ·refine aops_part 8 fun K2 hK2=> ?_;simp[c1,c2,s2,s6,g0,hz',hz2,hsub,hpl,hgp,hi2,hgd];refine hK2 _ _ _ ?_;clear K2 hK2;refine aops_part 8 fun K2 hK2=> ?_;simp[c1,c2,s2,s6,g0,hz',hz2,hsub,hpl,hgp,hi2,hgd];refine hK2 _ _ _ ?_;clear K2 hK2;simp[c1,c2,hz',hz2,k3,hi2,hgd,s2,s6,g0];refine hK _ _ _ ?_;clear K' hK;with_reducible refine aVk (by simp) ?_;refine aw_skipL ?_
          refine blockK_normal ?_;with_reducible refine aS fun K' hK=> ?_
          simp[s6,hw];refine hK _ _ _ ?_;clear K' hK;refine aw_skipL (loopK_normal ?_ ?_)
          ·exact⟨by simp[s2],by simp[g0],i+1,by simp[hw],by omega,hstep (by rw[hdef,k3];simp)⟩
          ·simp[s6,hw];omega
         ·have k3':ltB e.name d.name=false:=(by simpa using k3);refine aops_part 8 fun K2 hK2=> ?_;simp[c1,c2,s2,s6,g0,hz',hz2,hsub,hpl,hgp,hi2,hgd];refine hK2 _ _ _ ?_;clear K2 hK2;refine aops_part 8 fun K2 hK2=> ?_;simp[c1,c2,s2,s6,g0,hz',hz2,hsub,hpl,hgp,hi2,hgd];refine hK2 _ _ _ ?_;clear K2 hK2;simp[c1,c2,hz',hz2,k3',hi2,hgd,s2,s6,g0];refine hK _ _ _ ?_;clear K' hK;with_reducible refine aU (by simp) ?_;refine aA ?_;refine aR fun K' hK=> ?_
          simp;refine hK _ _ _ ?_;clear K' hK;with_reducible refine aw_ret ?_
          simp[blockK,loopK,Post,resA,res1,expT,expA,exp1,expM,expL,okT,okA,ok1,rowOf,Tryz.f181];rw[hfalse (by rw[hdef,k3'];simp[hz])]
       ·refine aops_part 10 fun K2 hK2=> ?_;simp[c1,c2];refine hK2 _ _ _ ?_;clear K2 hK2;simp[c1,c2];refine hK _ _ _ ?_;clear K' hK;with_reducible refine aU (by simp) ?_;refine aA ?_;refine aR fun K' hK=> ?_
        simp;refine hK _ _ _ ?_;clear K' hK;with_reducible refine aw_ret ?_
        simp[blockK,loopK,Post,resA,res1,expT,expA,exp1,expM,expL,okT,okA,ok1,rowOf,Tryz.f181];rw[hfalse (by rw[hdef,hrd];simp[c2])]
      ·refine aops_part 10 fun K2 hK2=> ?_;simp[c1];refine hK2 _ _ _ ?_;clear K2 hK2;refine aops_part 10 fun K2 hK2=> ?_;simp[c1];refine hK2 _ _ _ ?_;clear K2 hK2;simp[c1];refine hK _ _ _ ?_;clear K' hK;with_reducible refine aU (by simp) ?_;refine aA ?_;refine aR fun K' hK=> ?_
       simp;refine hK _ _ _ ?_;clear K' hK;with_reducible refine aw_ret ?_
       simp[blockK,loopK,Post,resA,res1,expT,expA,exp1,expM,expL,okT,okA,ok1,rowOf,Tryz.f181];rw[hfalse (by rw[hdef,hrd];simp[c1])]
     ·skip;with_reducible refine aw_exit ?_
      refine loopK_exit (blockK_exit ?_);have hie:i=m.rules.length:=(by omega);subst hie;with_reducible refine aR fun K' hK=> ?_
      simp;refine hK _ _ _ ?_;clear K' hK;with_reducible refine aw_retL ?_
      simp[blockK,loopK,Post,resA,res1,expT,expA,exp1,expM,expL,okT,okA,ok1,rowOf,Tryz.f181];rw[hmr,ht]
  ·have hh':manHead m root=false:=(by simpa using hh);rw[hh']at s35;with_reducible refine aX (by simp[s35]) ?_;refine aA ?_;refine aR fun K' hK=> ?_
   simp;refine hK _ _ _ ?_;clear K' hK;with_reducible refine aw_ret ?_
   simp[blockK,loopK,Post,resA,res1,expT,expA,exp1,expM,expL,okT,okA,ok1,rowOf,Tryz.f181];simp[manRight,hh']
set_option maxRecDepth 100000
set_option maxHeartbeats 4000000
theorem check143_ok (m:Man) (hm:Man.sz m) (root:Bool):CallsOK Tryz.prog 143 [.agg m.cells,bV root] (iV (manCheck m root)) []:=by
 refine callsOK mixed Tryz.call143 Tryz.func143 rfl (by rw[Tryz.ntmps143];simp) ?_ rfl;rw[Tryz.ntmps143];with_reducible refine aR fun K' hK=> ?_
 simp;refine hK _ _ _ ?_;clear K' hK;by_cases c1:30<m.deps.length
 ·have c1':(30:Int)<m.deps.length:=(by omega);with_reducible refine aA ?_;refine aR fun K' hK=> ?_
  simp[c1,c1'];refine hK _ _ _ ?_;clear K' hK;with_reducible refine aX (by simp) ?_;refine aA ?_;refine aR fun K' hK=> ?_
  simp;refine hK _ _ _ ?_;clear K' hK;with_reducible refine aw_ret ?_
  simp[blockK,loopK,Post,resA,res1,expT,expA,exp1,expM,expL,okT,okA,ok1,rowOf,Tryz.f143];simp[manCheck,c1]
 ·have c1':¬(30:Int)<m.deps.length:=(by omega);by_cases c2:30<m.rules.length
  ·have c2':(30:Int)<m.rules.length:=(by omega);with_reducible refine aA ?_;refine aR fun K' hK=> ?_
   simp[c1,c1',c2,c2'];refine hK _ _ _ ?_;clear K' hK;with_reducible refine aX (by simp) ?_;refine aA ?_;refine aR fun K' hK=> ?_
   simp;refine hK _ _ _ ?_;clear K' hK;with_reducible refine aw_ret ?_
   simp[blockK,loopK,Post,resA,res1,expT,expA,exp1,expM,expL,okT,okA,ok1,rowOf,Tryz.f143];simp[manCheck,c2]
  ·have c2':¬(30:Int)<m.rules.length:=(by omega);with_reducible refine aA ?_;refine aR fun K' hK=> ?_
   simp[c1,c1',c2,c2'];refine hK _ _ _ ?_;clear K' hK;with_reducible refine aYk (by simp) ?_;refine aA ?_;refine aR fun K' hK=> ?_
   simp;refine acall_flat (right181_ok m hm root) rfl (by first | rfl | (simp;done) | (simp;rfl) | (simp;exact⟨rfl,rfl⟩)) ?_;simp;refine hK _ _ _ ?_;clear K' hK;by_cases c3:manRight m root=true
   ·skip;with_reducible refine aYk (by simp[c3]) ?_;refine aR fun K' hK=> ?_
    simp;refine hK _ _ _ ?_;clear K' hK;with_reducible refine aw_retL ?_
    simp[blockK,loopK,Post,resA,res1,expT,expA,exp1,expM,expL,okT,okA,ok1,rowOf,Tryz.f143];simp[manCheck,c1,c2,c3]
   ·skip;with_reducible refine aX (by simp[c3]) ?_;refine aA ?_;refine aR fun K' hK=> ?_
    simp;refine hK _ _ _ ?_;clear K' hK;with_reducible refine aw_ret ?_
    simp[blockK,loopK,Post,resA,res1,expT,expA,exp1,expM,expL,okT,okA,ok1,rowOf,Tryz.f143];simp[manCheck,c1,c2,c3]
theorem check144_ok (L:List Man) (hL:Idx.sz L):CallsOK Tryz.prog 144 [rowT Man.cells L] (iV (idxCheck L)) []:=by
 refine callsOK mixed Tryz.call144 Tryz.func144 rfl (by rw[Tryz.ntmps144];simp) ?_ rfl;rw[Tryz.ntmps144];have hl:=hL.1;with_reducible refine aR fun K' hK=> ?_
 simp;refine hK _ _ _ ?_;clear K' hK;with_reducible refine aA ?_;refine aR fun K' hK=> ?_
 simp;refine hK _ _ _ ?_;clear K' hK;with_reducible refine aC fun A B hA hB=> ?_
 simp;refine⟨fun hn=>hA ?_,fun hn=>hB ?_⟩<;>clear hA hB A B<;>(try simp at hn)<;>(try with_reducible refine aK ?_)
 ·with_reducible refine aA ?_;refine aR fun K' hK=> ?_
  simp;refine hK _ _ _ ?_;clear K' hK;with_reducible refine aw_ret ?_
  simp[blockK,loopK,Post,resA,res1,expT,expA,exp1,expM,expL,okT,okA,ok1,rowOf,Tryz.f144];have hn:100<L.length:=(by omega);rw[idxCheck,if_pos hn]
 ·have hn:¬100<L.length:=(by omega);with_reducible refine aA ?_;refine aR fun K' hK=> ?_
  simp;refine hK _ _ _ ?_;clear K' hK;with_reducible refine aw_block ?_
  refine aw_loop (fun s G nx=>s 0=rowT Man.cells L∧∃i:Nat,s 3=iV i∧i≤L.length∧(List.range i).all (idxAt L)=true) (fun s _ _=>match s 3 with | .v (.int _ n)=>L.length-n.toNat | _=>0) ?_ ?_
  ·exact⟨by simp,0,by simp,by omega,by simp⟩
  ·rintro s G nx hf ⟨s0,i,s3,hi,ht⟩;have hw:IntKind.i64.wrap (↑i+1)=((i+1:Nat):Int):=wrapS (by omega);with_reducible refine aA ?_;refine aR fun K' hK=> ?_
   simp[s0,s3];refine hK _ _ _ ?_;clear K' hK;with_reducible refine aC fun A B hA hB=> ?_
   simp;refine⟨fun hi2=>hA ?_,fun hi2=>hB ?_⟩<;>clear hA hB A B<;>(try simp at hi2)<;>(try with_reducible refine aK ?_)
   ·have hdd:=hL.2 _ (nth_mem hi2);have hfalse:idxAt L i=false→idxCheck L=1:=fun h=>(by rw[idxCheck,if_neg hn,rng_all hi2 h];rfl);have hstep:=rng_step (p:=idxAt L) ht;have hdef:idxAt L i=(decide (manCheck (nth L i) false=0)&&(decide (i=0) || decide (manOrd (nth L (i-1)) (nth L i)<0))):=rfl;generalize hgd:nth L i=d at*;with_reducible refine aw_block ?_;refine aQ fun K' hK=> ?_
    refine aops_part 5 fun K2 hK2=> ?_;simp[s0,s3,hi2,hgd];refine acall_flat (check143_ok d hdd false) rfl (by first | rfl | (simp;done) | (simp;rfl) | (simp;exact⟨rfl,rfl⟩)) ?_;simp;refine hK2 _ _ _ ?_;clear K2 hK2;by_cases hc:manCheck d false=0
    ·by_cases hz:i=0
     ·have hz':¬(0:Int)<(i:Int):=(by omega);have hz2:¬0<i:=(by omega);refine aops_part 8 fun K2 hK2=> ?_;simp[hc,s3,hz',hz2];refine hK2 _ _ _ ?_;clear K2 hK2;simp[hc,hz',hz2];refine hK _ _ _ ?_;clear K' hK;with_reducible refine aVk (by simp) ?_;refine aw_skipL ?_
      refine blockK_normal ?_;with_reducible refine aS fun K' hK=> ?_
      simp[s3,hw];refine hK _ _ _ ?_;clear K' hK;refine aw_skipL (loopK_normal ?_ ?_)
      ·exact⟨by simp[s0],i+1,by simp[hw],by omega,hstep (by rw[hdef,hc];simp[hz])⟩
      ·simp[s3,hw];omega
     ·obtain⟨p,hp⟩:∃p,i=p+1:=⟨i-1,by omega⟩;have hz':(0:Int)<(i:Int):=(by omega);have hz2:0<i:=(by omega);have hsub:IntKind.i64.wrap ((i:Int)-1)=(p:Int):=(by rw[wrap64 (by omega) (by omega)];omega);have hpl:p<L.length:=(by omega);have hip:i-1=p:=(by omega);rw[hip]at hdef;have hpp:=hL.2 _ (nth_mem hpl);refine aops_part 10 fun K2 hK2=> ?_;simp[hc,hz',hz2,s0,s3,hsub,hpl];refine hK2 _ _ _ ?_;clear K2 hK2;simp[hc,hz',hz2,s0,s3,hi2,hgd];refine acall_flat (ahead182_ok (nth L p) d hpp.2.1 hdd.2.1) rfl (by first | rfl | (simp;done) | (simp;rfl) | (simp;exact⟨rfl,rfl⟩)) ?_;by_cases hlt:manOrd (nth L p) d<0
      ·simp[hc,hz',hz2,hlt];refine hK _ _ _ ?_;clear K' hK;with_reducible refine aVk (by simp) ?_;refine aw_skipL ?_
       refine blockK_normal ?_;with_reducible refine aS fun K' hK=> ?_
       simp[s3,hw];refine hK _ _ _ ?_;clear K' hK;refine aw_skipL (loopK_normal ?_ ?_)
       ·exact⟨by simp[s0],i+1,by simp[hw],by omega,hstep (by rw[hdef,hc];simp[hlt])⟩
       ·simp[s3,hw];omega
      ·simp[hc,hz',hz2,hlt];refine hK _ _ _ ?_;clear K' hK;with_reducible refine aU (by simp) ?_;refine aA ?_;refine aR fun K' hK=> ?_
       simp;refine hK _ _ _ ?_;clear K' hK;with_reducible refine aw_ret ?_
       simp[blockK,loopK,Post,resA,res1,expT,expA,exp1,expM,expL,okT,okA,ok1,rowOf,Tryz.f144];exact(hfalse (by rw[hdef,hc];simp[hlt,hz])).symm
    ·refine aops_part 8 fun K2 hK2=> ?_;simp[hc];refine hK2 _ _ _ ?_;clear K2 hK2;simp[hc];refine hK _ _ _ ?_;clear K' hK;with_reducible refine aU (by simp) ?_;refine aA ?_;refine aR fun K' hK=> ?_
     simp;refine hK _ _ _ ?_;clear K' hK;with_reducible refine aw_ret ?_
     simp[blockK,loopK,Post,resA,res1,expT,expA,exp1,expM,expL,okT,okA,ok1,rowOf,Tryz.f144];exact(hfalse (by rw[hdef];simp[hc])).symm
   ·skip;with_reducible refine aw_exit ?_
    refine loopK_exit (blockK_exit ?_);have hi8:i=L.length:=(by omega);subst hi8;with_reducible refine aR fun K' hK=> ?_
    simp;refine hK _ _ _ ?_;clear K' hK;with_reducible refine aw_retL ?_
    simp[blockK,loopK,Post,resA,res1,expT,expA,exp1,expM,expL,okT,okA,ok1,rowOf,Tryz.f144];rw[idxCheck,if_neg hn,if_pos ht]
theorem check91_ok (root:Man) (L:List Man) (t:List Pl) (hr:Man.sz root) (hL:Idx.sz L) (ht:OKs t):CallsOK Tryz.prog 91 [.agg root.cells,rowT Man.cells L,rowT Pl.cells t] (iV (codeV root L t)) []:=by
 refine callsOK mixed Tryz.call91 Tryz.func91 rfl (by rw[Tryz.ntmps91];simp) ?_ rfl;rw[Tryz.ntmps91];with_reducible refine aR fun K' hK=> ?_
 simp;refine hK _ _ _ ?_;clear K' hK;with_reducible refine aR fun K' hK=> ?_
 simp;refine acall_flat (check143_ok root hr true) rfl (by first | rfl | (simp;done) | (simp;rfl) | (simp;exact⟨rfl,rfl⟩)) ?_;simp;refine hK _ _ _ ?_;clear K' hK;by_cases c1:manCheck root true=0
 ·with_reducible refine aA ?_;refine aR fun K' hK=> ?_
  simp[c1];refine hK _ _ _ ?_;clear K' hK;with_reducible refine aYk (by simp) ?_;refine aR fun K' hK=> ?_
  simp;refine acall_flat (check144_ok L hL) rfl (by first | rfl | (simp;done) | (simp;rfl) | (simp;exact⟨rfl,rfl⟩)) ?_;simp;refine hK _ _ _ ?_;clear K' hK;by_cases c2:idxCheck L=0
  ·with_reducible refine aA ?_;refine aR fun K' hK=> ?_
   simp[c2];refine hK _ _ _ ?_;clear K' hK;with_reducible refine aYk (by simp) ?_;refine aR fun K' hK=> ?_
   simp;refine acall_flat (check25_ok t ht) rfl (by first | rfl | (simp;done) | (simp;rfl) | (simp;exact⟨rfl,rfl⟩)) ?_;simp;refine hK _ _ _ ?_;clear K' hK;with_reducible refine aw_retL ?_
   simp[blockK,loopK,Post,resA,res1,expT,expA,exp1,expM,expL,okT,okA,ok1,rowOf,Tryz.f91];simp only[codeV,valCodes,orN,c1,c2,if_true];split
   ·assumption
   ·rfl
  ·with_reducible refine aA ?_;refine aR fun K' hK=> ?_
   simp[c2];refine hK _ _ _ ?_;clear K' hK;with_reducible refine aX (by simp[c2]) ?_;refine aA ?_;refine aR fun K' hK=> ?_
   simp;refine hK _ _ _ ?_;clear K' hK;with_reducible refine aw_ret ?_
   simp[blockK,loopK,Post,resA,res1,expT,expA,exp1,expM,expL,okT,okA,ok1,rowOf,Tryz.f91];simp[codeV,valCodes,orN,c1,c2]
 ·with_reducible refine aA ?_;refine aR fun K' hK=> ?_
  simp[c1];refine hK _ _ _ ?_;clear K' hK;with_reducible refine aX (by simp[c1]) ?_;refine aA ?_;refine aR fun K' hK=> ?_
  simp;refine hK _ _ _ ?_;clear K' hK;with_reducible refine aw_ret ?_
  simp[blockK,loopK,Post,resA,res1,expT,expA,exp1,expM,expL,okT,okA,ok1,rowOf,Tryz.f91];simp[codeV,valCodes,orN,c1]
theorem needs141_ok (d:Dep):CallsOK Tryz.prog 141 [.agg d.cells] (bV (!decide (d.kind=3))) []:=by
 refine callsOK mixed Tryz.call141 Tryz.func141 rfl (by rw[Tryz.ntmps141];simp) ?_ rfl;rw[Tryz.ntmps141];with_reducible refine aR fun K' hK=> ?_
 simp;refine hK _ _ _ ?_;clear K' hK;with_reducible refine aR fun K' hK=> ?_
 simp;refine hK _ _ _ ?_;clear K' hK;with_reducible refine aw_retL ?_
 simp[blockK,loopK,Post,resA,res1,expT,expA,exp1,expM,expL,okT,okA,ok1,rowOf,Tryz.f141]
theorem lead83_ok (t:List Pl) (g:Good t) (ht:OKs t) (n:Nat) (hn:n<t.length) (d:Dep):CallsOK Tryz.prog 83 [rowT Pl.cells t,iV n,.agg d.cells] (iV (toN t n d)) []:=by
 refine callsOK mixed Tryz.call83 Tryz.func83 rfl (by rw[Tryz.ntmps83];simp) ?_ rfl;rw[Tryz.ntmps83];have hB:¬((n:Int)<0∨(t.length:Int)≤n):=(by omega);have hv:toN t n d=resolveN t (if d.kind=4∧(0:Int)<n then(nth t (n:Int).toNat).par else n) d.name:=(by rw[toN,if_neg hB]);rw[Int.toNat_natCast]at hv;rw[hv];with_reducible refine aR fun K' hK=> ?_
 simp;refine hK _ _ _ ?_;clear K' hK;with_reducible refine aR fun K' hK=> ?_
 simp;refine hK _ _ _ ?_;clear K' hK;by_cases c:d.kind=4
 ·by_cases c2:0<n
  ·have c2':(0:Int)<n:=(by omega);obtain⟨p0,p1⟩:=g.par n (by omega) hn;have hp:(nth t n).par=((parN t n).toNat:Nat):=(by show parN t n=_;omega);have hR:=resolved49_ok t g ht (parN t n).toNat (by omega) d.name;rw[if_pos ⟨c,c2'⟩,hp];with_reducible refine aA ?_;refine aR fun K' hK=> ?_
   simp[c,c2,c2'];refine hK _ _ _ ?_;clear K' hK;with_reducible refine aX (by simp) ?_;refine aR fun K' hK=> ?_
   simp[hn,hp];refine hK _ _ _ ?_;clear K' hK;with_reducible refine aR fun K' hK=> ?_
   simp;refine acall_flat hR rfl (by first | rfl | (simp;done) | (simp;rfl) | (simp;exact⟨rfl,rfl⟩)) ?_;simp;refine hK _ _ _ ?_;clear K' hK;with_reducible refine aw_retL ?_
   simp[blockK,loopK,Post,resA,res1,expT,expA,exp1,expM,expL,okT,okA,ok1,rowOf,Tryz.f83]
  ·have c2':¬(0:Int)<n:=(by omega);rw[if_neg (fun h=>c2' h.2)];with_reducible refine aA ?_;refine aR fun K' hK=> ?_
   simp[c,c2,c2'];refine hK _ _ _ ?_;clear K' hK;with_reducible refine aYk (by simp) ?_;refine aR fun K' hK=> ?_
   simp;refine acall_flat (resolved49_ok t g ht n hn d.name) rfl (by first | rfl | (simp;done) | (simp;rfl) | (simp;exact⟨rfl,rfl⟩)) ?_;simp;refine hK _ _ _ ?_;clear K' hK;with_reducible refine aw_retL ?_
   simp[blockK,loopK,Post,resA,res1,expT,expA,exp1,expM,expL,okT,okA,ok1,rowOf,Tryz.f83]
 ·rw[if_neg (fun h=>c h.1)];with_reducible refine aA ?_;refine aR fun K' hK=> ?_
  simp[c];refine hK _ _ _ ?_;clear K' hK;with_reducible refine aYk (by simp[c]) ?_;refine aR fun K' hK=> ?_
  simp;refine acall_flat (resolved49_ok t g ht n hn d.name) rfl (by first | rfl | (simp;done) | (simp;rfl) | (simp;exact⟨rfl,rfl⟩)) ?_;simp;refine hK _ _ _ ?_;clear K' hK;with_reducible refine aw_retL ?_
  simp[blockK,loopK,Post,resA,res1,expT,expA,exp1,expM,expL,okT,okA,ok1,rowOf,Tryz.f83]
theorem good85_ok (t:List Pl) (g:Good t) (ht:OKs t) (hv:∀p∈t,p.ver.pre.size≤1000000) (n:Nat) (hn:n<t.length) (d:Dep) (hd:Rg.sz d.range):CallsOK Tryz.prog 85 [rowT Pl.cells t,iV n,.agg d.cells] (bV (holdsV t n d)) []:=by
 refine callsOK mixed Tryz.call85 Tryz.func85 rfl (by rw[Tryz.ntmps85];simp) ?_ rfl;rw[Tryz.ntmps85];have hdef:holdsV t n d=if toN t n d<0 then decide (d.kind=3)else rgHolds (nth t (toN t n d).toNat).ver d.range:=(by rw[holdsV,if_pos (holds_iff.2 ⟨g,by omega,by omega⟩)]);have hlt:=toN_lt t n d;with_reducible refine aR fun K' hK=> ?_
 simp;refine hK _ _ _ ?_;clear K' hK;with_reducible refine aR fun K' hK=> ?_
 simp;refine acall_flat (lead83_ok t g ht n hn d) rfl (by first | rfl | (simp;done) | (simp;rfl) | (simp;exact⟨rfl,rfl⟩)) ?_;simp;refine hK _ _ _ ?_;clear K' hK;rw[hdef];generalize toN t n d=k at*;by_cases hk:k<0
 ·with_reducible refine aA ?_;refine aR fun K' hK=> ?_
  simp[hk];refine hK _ _ _ ?_;clear K' hK;with_reducible refine aX (by simp) ?_;refine aA ?_;refine aR fun K' hK=> ?_
  simp;refine acall_flat (needs141_ok d) rfl (by first | rfl | (simp;done) | (simp;rfl) | (simp;exact⟨rfl,rfl⟩)) ?_;simp;refine hK _ _ _ ?_;clear K' hK;with_reducible refine aw_ret ?_
  simp[blockK,loopK,Post,resA,res1,expT,expA,exp1,expM,expL,okT,okA,ok1,rowOf,Tryz.f85];exact fun h=>by omega
 ·have hk0:0≤k:=(by omega);have hin:k.toNat<t.length:=(by omega);with_reducible refine aA ?_;refine aR fun K' hK=> ?_
  simp[hk];refine hK _ _ _ ?_;clear K' hK;with_reducible refine aYk (by simp) ?_
  generalize hj:k.toNat=j at*;with_reducible refine aQ fun K' hK=> ?_
  simp[hk0,hlt,hin,hj];refine acall_flat (holds44_ok d.range (nth t j).ver hd (hv _ (nth_mem hin))) rfl (by simp[Rg.cells]) ?_;simp;refine hK _ _ _ ?_;clear K' hK;with_reducible refine aw_retL ?_
  simp[blockK,loopK,Post,resA,res1,expT,expA,exp1,expM,expL,okT,okA,ok1,rowOf,Tryz.f85];exact fun h=>by omega
set_option maxRecDepth 100000
set_option maxHeartbeats 4000000
theorem of183_z (rules:List Ru) (b:Bool) (hrl:Ru.okL rules):CallsOK Tryz.prog 183 [.agg manN,rowT Ru.cells rules,bV b] (.row 0 0) [(35,[])]:=by
 have h:=of183_ok man0 rules b ⟨by simp[man0],by simp[man0]⟩ (by simp[man0]) hrl;have e:ofF man0.deps rules b=[]:=ofF_nil rules b;rw[e]at h;exact h.weak (.cons (.agg (.cons (.refl _) (.cons (.refl _) (.cons (.refl _) (.cons (.refl _) (.cons (.refl _) (.cons .nilRow (.cons .nilRow .nil)))))))) (.cons (.refl _) (.cons (.refl _) .nil)))
theorem manVal_nat {root:Man} {L:List Man} {t:List Pl} {n:Nat} (g:Good t) (hn:n<t.length):manVal root L t n=if n=0 then some root else findM L (nth t n).name (nth t n).ver:=by
 unfold manVal;rw[if_pos (holds_iff.2 ⟨g,by omega,by omega⟩),Int.toNat_natCast];by_cases h:n=0
 ·rw[if_pos h,if_pos (by omega)]
 ·rw[if_neg h,if_neg (by omega)]
theorem edges145_ok (root:Man) (hr:Man.sz root) (hro:Man.okS root) (L:List Man) (hL:Idx.sz L) (hLo:∀m∈L,Man.okS m) (t:List Pl) (g:Good t) (n:Nat) (hn:n<t.length):
  CallsOK Tryz.prog 145 [.agg root.cells,rowT Man.cells L,rowT Pl.cells t,iV n] (.tup [.row 0 (edgesV root L t n).length,bV (manVal root L t n).isSome]) [(35,flat Dep.cells (edgesV root L t n))]:=by
 refine callsOK mixed Tryz.call145 Tryz.func145 rfl (by rw[Tryz.ntmps145];simp) ?_ rfl;rw[Tryz.ntmps145];have hmv:=manVal_nat (root:=root) (L:=L) g hn;unfold edgesV;with_reducible refine aR fun K' hK=> ?_
 simp;refine hK _ _ _ ?_;clear K' hK;by_cases hz:n=0
 ·rw[if_pos hz]at hmv;rw[hmv];subst hz;with_reducible refine aA ?_;refine aR fun K' hK=> ?_
  simp;refine hK _ _ _ ?_;clear K' hK;with_reducible refine aX (by simp) ?_;refine aA ?_;refine aR fun K' hK=> ?_
  simp;refine acall_new (of183_ok root root.rules true hro.1 hr.2.2.1.1 hro.2) (by first | rfl | (simp;done) | (simp;rfl) | (simp;exact⟨rfl,rfl⟩)) ?_;simp[addJ_one];refine hK _ _ _ ?_;clear K' hK;with_reducible refine aw_ret ?_
  simp[blockK,loopK,Post,resA,res1,expT,expA,exp1,expM,expL,okT,okA,ok1,rowOf,Tryz.f145]
 ·rw[if_neg hz]at hmv;rw[hmv];have hz2:¬(n:Int)=0:=(by omega);have hdec:decide ((n:Int)=0)=false:=(by simpa using hz);rw[hdec];with_reducible refine aA ?_;refine aR fun K' hK=> ?_
  simp[hz,hz2];refine hK _ _ _ ?_;clear K' hK;with_reducible refine aYk (by simp) ?_
  have hF:=find78_ok L hL.1 hLo (nth t n).name (nth t n).ver;have hmm:∀m,findM L (nth t n).name (nth t n).ver=some m→Man.sz m∧Man.okS m:=fun m h=>by
   have:=List.mem_of_find?_eq_some h;exact⟨hL.2 _ this,hLo _ this⟩
  generalize findM L (nth t n).name (nth t n).ver=r at*;cases r with
  | none=>
   refine aw_regionL none [] (by decide+kernel) (by decide+kernel) (fun p' hp'=>by cases hp') fun K' hK=> ?_;simp[hn];refine acall_new hF (by first | rfl | (simp;done) | (simp;rfl) | (simp;exact⟨rfl,rfl⟩)) ?_;simp[manR,addJ_nil];refine hK _ _ _ ?_;clear K' hK;with_reducible refine aR fun K' hK=> ?_
   simp;refine acall_new (of183_z root.rules false hro.2) (by first | rfl | (simp;done) | (simp;rfl) | (simp;exact⟨rfl,rfl⟩)) ?_;simp[addJ_one];refine hK _ _ _ ?_;clear K' hK;with_reducible refine aw_retL ?_
   simp[blockK,loopK,Post,resA,res1,expT,expA,exp1,expM,expL,okT,okA,ok1,rowOf,Tryz.f145]
  | some m=>
   obtain⟨mz,mo⟩:=hmm m rfl;refine aw_regionL none [] (by decide+kernel) (by decide+kernel) (fun p' hp'=>by cases hp') fun K' hK=> ?_;simp[hn];refine acall_new hF (by first | rfl | (simp;done) | (simp;rfl) | (simp;exact⟨rfl,rfl⟩)) ?_;simp[manR,addJ_two];refine hK _ _ _ ?_;clear K' hK;refine aw_gen (fun u H nz=>u 4=.ptr 0 0∧u 10=.ptr 4 0∧u 11=bV true∧nz=5∧H 0=some (.var 27 root.cells)∧H 2=some (.row 35 (flat Dep.cells m.deps))∧H 3=some (.row 96 (flat Ru.cells m.rules))∧H 4=some (.var 27 (m.cellsR (.row 2 m.deps.length) (.row 3 m.rules.length)))) ?_ ?_
   ·exact⟨by simp,by simp,by simp,by simp,by simp,by simp,by simp,by simp⟩
   rintro u H nz ⟨u4,u10,u11,rfl,h0,k1,k2,k3⟩;have hT:=manR_trees (show¬3=2 by omega) k1 k2;with_reducible refine aR fun K' hK=> ?_
   simp[u4,u10,h0,k3];refine acall_new (of183_ok m root.rules false mo.1 mz.2.2.1.1 hro.2) (by simp[hT]) ?_;simp[addJ_one,hT,u11];refine hK _ _ _ ?_;clear K' hK;with_reducible refine aw_retL ?_
   simp[blockK,loopK,Post,resA,res1,expT,expA,exp1,expM,expL,okT,okA,ok1,rowOf,Tryz.f145]
theorem fine_edges {root:Man} {L:List Man} {t:List Pl} {n:Nat} :fineV root L t n=((manVal root L t n).isSome&&(edgesV root L t n).all (holdsV t n)):=by
 unfold fineV edgesV;cases manVal root L t n with
 | none=>rfl
 | some m=>rfl
theorem edgesV_sz {root:Man} {L:List Man} {t:List Pl} {n:Nat} (hr:Man.sz root) (hL:Idx.sz L):(edgesV root L t n).length≤1000000000∧∀d∈edgesV root L t n,Rg.sz d.range:=by
 unfold edgesV;cases hm:manVal root L t n with
 | none=>exact⟨by simp,fun d hd=>by simp at hd⟩
 | some m=>
  have hmz:Man.sz m:=by
   rcases manVal_mem hm with rfl | h
   ·exact hr
   ·exact hL.2 _ h
  exact⟨ofF_lenle hmz.2.2.1.1,fun d hd=>by
   rcases ofF_range hd with⟨e,he,h⟩ | ⟨e,he,h⟩
   ·rw[h];exact(hmz.2.2.1.2 e he).2
   ·rw[h];exact(hr.2.2.2.2 e he).2⟩
theorem fine92_ok (root:Man) (L:List Man) (t:List Pl) (h:ValSz root L t) (g:Good t) (n:Nat) (hn:n<t.length):CallsOK Tryz.prog 92 [.agg root.cells,rowT Man.cells L,rowT Pl.cells t,iV n] (bV (fineV root L t n)) []:=by
 obtain⟨hrz,hro,hLz,hLo,ht,hv⟩:=h;refine callsOK mixed Tryz.call92 Tryz.func92 rfl (by rw[Tryz.ntmps92];simp) ?_ rfl;rw[Tryz.ntmps92];have hE:=edges145_ok root hrz hro L hLz hLo t g n hn;have hf:=fine_edges (root:=root) (L:=L) (t:=t) (n:=n);obtain⟨hEl,hEz⟩:=edgesV_sz (root:=root) (L:=L) (t:=t) (n:=n) hrz hLz;generalize edgesV root L t n=E at*;generalize (manVal root L t n).isSome=ok0 at*;generalize fineV root L t n=F at*;with_reducible refine aR fun K' hK=> ?_
 simp;refine hK _ _ _ ?_;clear K' hK;with_reducible refine aR fun K' hK=> ?_
 simp;refine acall_new hE (by first | rfl | (simp;done) | (simp;rfl) | (simp;exact⟨rfl,rfl⟩)) ?_;simp[addJ_one];refine hK _ _ _ ?_;clear K' hK;with_reducible refine aA ?_;refine aR fun K' hK=> ?_
 simp;refine hK _ _ _ ?_;clear K' hK;with_reducible refine aw_block ?_
 refine aw_loop (fun s G nx=>s 2=rowT Pl.cells t∧s 3=iV n∧s 9=.row 1 E.length∧G 1=some (.row 35 (flat Dep.cells E))∧∃j:Nat,s 11=iV j∧j≤E.length∧s 10=bV (ok0&&(E.take j).all (holdsV t n))) (fun s _ _=>match s 11 with | .v (.int _ n)=>E.length-n.toNat | _=>0) ?_ ?_
 ·exact⟨by simp,by simp,by simp,by simp,0,by simp,by omega,by simp⟩
 ·rintro s G nx hfr ⟨s2,s3,s9,g1,j,s11,hj,s10⟩;have hw:IntKind.i64.wrap (↑j+1)=((j+1:Nat):Int):=wrapS (by omega);by_cases hj2:j<E.length
  ·have hstep:=all_take1 (p:=holdsV t n) hj2;have hall:(ok0&&(E.take j).all (holdsV t n))=false→F=false:=fun h=>by
    rw[hf];cases ok0 with
    | false=>rfl
    | true=>
     simp only[Bool.true_and]at h⊢;rw[←List.take_append_drop j E,List.all_append,h];rfl
   generalize hcur:(ok0&&(E.take j).all (holdsV t n))=cur at*;cases cur with
   | false=>
    with_reducible refine aA ?_;refine aR fun K' hK=> ?_
    simp[s9,s10,s11,g1,hj2];refine hK _ _ _ ?_;clear K' hK;with_reducible refine aY (by simp) ?_;refine aw_exit ?_
    refine loopK_exit (blockK_exit ?_);with_reducible refine aR fun K' hK=> ?_
    simp[s10];refine hK _ _ _ ?_;clear K' hK;with_reducible refine aw_retL ?_
    simp[blockK,loopK,Post,resA,res1,expT,expA,exp1,expM,expL,okT,okA,ok1,rowOf,Tryz.f92];first | exact hall rfl | exact(hall rfl).symm
   | true=>
    with_reducible refine aA ?_;refine aR fun K' hK=> ?_
    simp[s9,s10,s11,g1,hj2];refine hK _ _ _ ?_;clear K' hK;with_reducible refine aXk (by simp) ?_;refine aw_block ?_;refine aS fun K' hK=> ?_
    simp[s2,s3,s9,s11,g1,hj2];refine acall_flat (good85_ok t g ht hv n hn (nth E j) (hEz _ (nth_mem hj2))) rfl (by first | rfl | (simp;done) | (simp;rfl) | (simp;exact⟨rfl,rfl⟩)) ?_;simp;refine hK _ _ _ ?_;clear K' hK;with_reducible refine aw_skipL ?_
    refine blockK_normal ?_;with_reducible refine aS fun K' hK=> ?_
    simp[s11,hw];refine hK _ _ _ ?_;clear K' hK;refine aw_skipL (loopK_normal ?_ ?_)
    ·exact⟨by simp[s2],by simp[s3],by simp[s9],by simp[g1],j+1,by simp[hw],by omega,by rw[hstep,←Bool.and_assoc,hcur];simp⟩
    ·simp[s11,hw];omega
  ·have hjE:j=E.length:=(by omega);rw[hjE,List.take_length,←hf]at s10;with_reducible refine aA ?_;refine aR fun K' hK=> ?_
   simp[s9,s10,s11,g1,hj2];refine hK _ _ _ ?_;clear K' hK;with_reducible refine aY (by simp) ?_;refine aw_exit ?_
   refine loopK_exit (blockK_exit ?_);with_reducible refine aR fun K' hK=> ?_
   simp[s10];refine hK _ _ _ ?_;clear K' hK;with_reducible refine aw_retL ?_
   simp[blockK,loopK,Post,resA,res1,expT,expA,exp1,expM,expL,okT,okA,ok1,rowOf,Tryz.f92]
theorem below_eq {t:List Pl} (g:Good t):belowL t 0=(List.range t.length).map fun(n:Nat)=>(n:Int):=by
 unfold belowL;rw[if_pos (holds_iff.2 ⟨g,by omega,by have:=g.pos;omega⟩)];unfold belowK;congr 1;rw[List.filter_eq_self];intro j hj;have hj:=List.mem_range.1 hj;have hmem:=below_all g hj;have hb:=below_mem (i:=0) g g.pos hj;have hu:underF t j (0:Nat)=true:=by
  rw[←hb];exact List.any_eq_true.2 ⟨_,hmem,by simp⟩
 simpa using hu
theorem wrong_eq {root:Man} {L:List Man} {t:List Pl} (g:Good t):wrongL root L t=((List.range t.length).filter fun n=> !fineV root L t (n:Nat)).map fun(n:Nat)=>(n:Int):=by
 unfold wrongL;rw[below_eq g,List.filter_map];rfl
set_option maxRecDepth 100000
set_option maxHeartbeats 4000000
theorem wrong36_ok (root:Man) (L:List Man) (t:List Pl) (h:ValSz root L t):CallsOK Tryz.prog 36 [.agg root.cells,rowT Man.cells L,rowT Pl.cells t] (.tup [.row 0 (wrongO root L t).length,iV (codeV root L t)]) [(3,flat iC (wrongO root L t))]:=by
 have hh:=h;obtain⟨hrz,hro,hLz,hLo,ht,hv⟩:=h;have htl:=ht.1;refine callsOK mixed Tryz.call36 Tryz.func36 rfl (by rw[Tryz.ntmps36];simp) ?_ rfl;rw[Tryz.ntmps36];with_reducible refine aR fun K' hK=> ?_
 simp;refine hK _ _ _ ?_;clear K' hK;with_reducible refine aR fun K' hK=> ?_
 simp;refine acall_flat (check91_ok root L t hrz hLz ht) rfl (by first | rfl | (simp;done) | (simp;rfl) | (simp;exact⟨rfl,rfl⟩)) ?_;simp;refine hK _ _ _ ?_;clear K' hK;by_cases hc:codeV root L t=0
 ·have g:Good t:=check_iff.1 (codeV_zero.1 hc).2.2;have hwo:wrongO root L t=((List.range t.length).filter fun n=> !fineV root L t (n:Nat)).map fun(n:Nat)=>(n:Int):=(by rw[wrongO,if_pos hc,wrong_eq g]);rw[hwo,hc];with_reducible refine aA ?_;refine aR fun K' hK=> ?_
  simp[hc];refine hK _ _ _ ?_;clear K' hK;with_reducible refine aYk (by simp) ?_;refine aR fun K' hK=> ?_
  simp;refine hK _ _ _ ?_;clear K' hK;with_reducible refine aA ?_;refine aR fun K' hK=> ?_
  simp;refine hK _ _ _ ?_;clear K' hK;with_reducible refine aw_block ?_
  refine aw_loop (fun s G nx=>s 1=rowT Man.cells L∧s 2=rowT Pl.cells t∧s 3=.ptr 0 0∧G 0=some (.var 27 root.cells)∧∃(i q:Nat),s 10=iV i∧i≤t.length∧s 9=.row q (((List.range i).filter fun n=> !fineV root L t (n:Nat)).map fun(n:Nat)=>(n:Int)).length∧1≤q∧G q=some (.row 3 (flat iC (((List.range i).filter fun n=> !fineV root L t (n:Nat)).map fun(n:Nat)=>(n:Int))))) (fun s _ _=>match s 10 with | .v (.int _ n)=>t.length-n.toNat | _=>0) ?_ ?_
  ·exact⟨by simp,by simp,by simp,by simp,0,2,by simp,by omega,by simp,by omega,by simp⟩
  ·rintro s G nx hf ⟨s1,s2,s3,g0,i,q,s10,hi,s9,hq,hG⟩;have o10:=s10;have hw:IntKind.i64.wrap (↑i+1)=((i+1:Nat):Int):=wrapS (by omega);with_reducible refine aA ?_;refine aR fun K' hK=> ?_
   simp[s2,s10];refine hK _ _ _ ?_;clear K' hK;with_reducible refine aC fun A B hA hB=> ?_
   simp;refine⟨fun hi2=>hA ?_,fun hi2=>hB ?_⟩<;>clear hA hB A B<;>(try simp at hi2)<;>(try with_reducible refine aK ?_)
   ·have hst:(((List.range (i+1)).filter fun n=> !fineV root L t (n:Nat)).map fun(n:Nat)=>(n:Int))=(((List.range i).filter fun n=> !fineV root L t (n:Nat)).map fun(n:Nat)=>(n:Int))++if fineV root L t (i:Nat)=true then[]else[(i:Int)]:=by
     rw[List.range_succ,List.filter_append,List.map_append];congr 1;cases hf2:fineV root L t (i:Nat)<;>simp[hf2]
    have hal:(((List.range i).filter fun n=> !fineV root L t (n:Nat)).map fun(n:Nat)=>(n:Int)).length≤i:=by
     rw[List.length_map];exact Nat.le_trans (List.length_filter_le _ _) (by simp)
    have hfi:=fine92_ok root L t hh g i hi2;generalize (((List.range i).filter fun n=> !fineV root L t (n:Nat)).map fun(n:Nat)=>(n:Int))=acc at*;generalize fineV root L t (i:Nat)=F at*;have hqn:q<nx:=fresh_lt hf hG;have n0:¬0=nx:=(by have:=fresh_lt hf g0;omega);have n1:¬0=nx+1:=(by omega);have n2:¬q=nx:=(by omega);have n3:¬nx=q:=(by omega);have n4:¬0=q:=(by omega);have b1:acc.length+1≤9223372036854775807:=(by omega);have b2:(acc.length+1)*8≤140737488355328:=(by omega);with_reducible refine aw_block ?_;refine aR fun K' hK=> ?_
    simp[s1,s2,s3,s10,g0];refine acall_flat hfi rfl (by first | rfl | (simp;done) | (simp;rfl) | (simp;exact⟨rfl,rfl⟩)) ?_;simp;refine hK _ _ _ ?_;clear K' hK;cases F with
    | true=>
     with_reducible refine aVk (by simp) ?_;refine aw_skipL ?_
     refine blockK_normal ?_;with_reducible refine aS fun K' hK=> ?_
     simp[s10,hw];refine hK _ _ _ ?_;clear K' hK;refine aw_skipL (loopK_normal ?_ ?_)
     ·exact⟨by simp[s1],by simp[s2],by simp[s3],by simp[g0],i+1,q,by simp[hw],by omega,by rw[hst];simp[s9],hq,by rw[hst];simpa using hG⟩
     ·simp[o10,s10,hw];omega
    | false=>
     with_reducible refine aU (by simp) ?_;refine aR fun K' hK=> ?_
     simp[s9,s10,hG,n2,n3,b1,b2,treeOf_row,srcOf_row];refine hK _ _ _ ?_;clear K' hK;with_reducible refine aw_skipL ?_
     refine blockK_normal ?_;with_reducible refine aS fun K' hK=> ?_
     simp[s10,hw];refine hK _ _ _ ?_;clear K' hK;refine aw_skipL (loopK_normal ?_ ?_)
     ·exact⟨by simp[s1],by simp[s2],by simp[s3],by simp[n0,n1,n4,g0],i+1,nx+1,by simp[hw],by omega,by rw[hst];simp,by omega,by rw[hst];simp[←flat_snoc];rfl⟩
     ·simp[o10,s10,hw];omega
   ·skip;with_reducible refine aw_exit ?_
    refine loopK_exit (blockK_exit ?_);have hie:i=t.length:=(by omega);subst hie;with_reducible refine aR fun K' hK=> ?_
    simp[s9];refine hK _ _ _ ?_;clear K' hK;with_reducible refine aw_retL ?_
    simp[blockK,loopK,Post,resA,res1,expT,expA,exp1,expM,expL,okT,okA,ok1,rowOf,Tryz.f36,hG]
 ·have hwo:wrongO root L t=[]:=(by rw[wrongO,if_neg hc]);rw[hwo];with_reducible refine aA ?_;refine aR fun K' hK=> ?_
  simp[hc];refine hK _ _ _ ?_;clear K' hK;with_reducible refine aX (by simp[hc]) ?_;refine aA ?_;refine aR fun K' hK=> ?_
  simp;refine hK _ _ _ ?_;clear K' hK;with_reducible refine aw_ret ?_
  simp[blockK,loopK,Post,resA,res1,expT,expA,exp1,expM,expL,okT,okA,ok1,rowOf,Tryz.f36]
theorem valid39_ok (root:Man) (L:List Man) (t:List Pl) (h:ValSz root L t):CallsOK Tryz.prog 39 [.agg root.cells,rowT Man.cells L,rowT Pl.cells t] (bV (validN root L t)) []:=by
 have hW:=wrong36_ok root L t h;have hvn:validN root L t=(decide (codeV root L t=0)&&decide (wrongO root L t=[])):=by
  unfold validN wrongO;by_cases hc:codeV root L t=0
  ·rw[if_pos hc]
  ·simp[hc]
 rw[hvn];refine callsOK mixed Tryz.call39 Tryz.func39 rfl (by rw[Tryz.ntmps39];simp) ?_ rfl;rw[Tryz.ntmps39];generalize wrongO root L t=W at*;generalize codeV root L t=c at*;with_reducible refine aR fun K' hK=> ?_
 simp;refine hK _ _ _ ?_;clear K' hK;with_reducible refine aR fun K' hK=> ?_
 simp;refine acall_new hW (by first | rfl | (simp;done) | (simp;rfl) | (simp;exact⟨rfl,rfl⟩)) ?_;simp[addJ_one];refine hK _ _ _ ?_;clear K' hK;by_cases hc:c=0
 ·by_cases hw:W=[]
  ·skip;with_reducible refine aR fun K' hK=> ?_
   simp[hc,hw];refine hK _ _ _ ?_;clear K' hK;with_reducible refine aw_retL ?_
   simp[blockK,loopK,Post,resA,res1,expT,expA,exp1,expM,expL,okT,okA,ok1,rowOf,Tryz.f39];exact⟨hc,hw⟩
  ·have hl:¬W.length=0:=fun e=>hw (List.eq_nil_of_length_eq_zero e);with_reducible refine aR fun K' hK=> ?_
   simp[hc,hl,hw];refine hK _ _ _ ?_;clear K' hK;with_reducible refine aw_retL ?_
   simp[blockK,loopK,Post,resA,res1,expT,expA,exp1,expM,expL,okT,okA,ok1,rowOf,Tryz.f39];exact fun _=>hw
 ·skip;with_reducible refine aR fun K' hK=> ?_
  simp[hc];refine hK _ _ _ ?_;clear K' hK;with_reducible refine aw_retL ?_
  simp[blockK,loopK,Post,resA,res1,expT,expA,exp1,expM,expL,okT,okA,ok1,rowOf,Tryz.f39];exact fun h=>absurd h hc
set_option maxRecDepth 100000
set_option maxHeartbeats 4000000
open Go Go.RowKit
section
variable {P:Program} [Gl P] {N:Nat} {K:Exit→KS} {s:Sl} {G:Hp} {nx:Nat}
open Classical in
noncomputable def leastM (I:Nat→KS) (s:Sl) (G:Hp) (nx:Nat):Nat:=if h:∃m,I m s G nx then Classical.choose (exists_min h)else 0
theorem leastM_is {I:Nat→KS} (h:∃m,I m s G nx):I (leastM I s G nx) s G nx:=by
 unfold leastM;rw[dif_pos h];exact(Classical.choose_spec (exists_min h)).1
theorem leastM_le {I:Nat→KS} {k:Nat} (h:I k s G nx):leastM I s G nx≤k:=by
 unfold leastM;rw[dif_pos ⟨k,h⟩];exact(Classical.choose_spec (exists_min ⟨k,h⟩)).2 k h
theorem aw_loopM {a:Code} (I:Nat→KS) (m:Nat) (h0:I m s G nx) (h:∀m s G nx,FreshFrom G nx→I m s G nx→AW P N a (loopK (fun s G nx=>∃m,I m s G nx) m (leastM I) K) s G nx):AW P N (.loop a) K s G nx:=
 aw_loop _ (leastM I) ⟨m,h0⟩ fun s G nx hf hI=>h _ s G nx hf (leastM_is hI)
theorem loopK_less {I:Nat→KS} {m:Nat} (k:Nat) (hk:k<m) (h:I k s G nx):loopK (fun s G nx=>∃m,I m s G nx) m (leastM I) K .normal s G nx:=
 loopK_normal ⟨k,h⟩ (Nat.lt_of_le_of_lt (leastM_le h) hk)
end
set_option maxRecDepth 100000
set_option maxHeartbeats 4000000
structure Set1 (t:List Pl) (n:Nat) (on on':List Bool):Prop where
 len:on'.length=on.length
 at_:∀j,nth on' j=(nth on j || decide (j∈upN t n))
structure Mk (root:Man) (L:List Man) (t:List Pl) (on:List Bool):Prop where
 len:on.length=t.length
 zero:nth on 0=true
 sub:∀j,nth on j=true→Rch root L t j
 up:∀j,nth on j=true→∀x∈upN t j,nth on x=true
def EdC (root:Man) (L:List Man) (t:List Pl) (n:Nat) (on:List Bool):Prop:=∀j,j<n→nth on j=true→∀d∈edgesV root L t j,∀k:Nat,toN t j d=k→nth on k=true
set_option maxRecDepth 100000
set_option maxHeartbeats 4000000
set_option maxRecDepth 100000
set_option maxHeartbeats 4000000
set_option maxRecDepth 100000
set_option maxHeartbeats 4000000
theorem putO_fld {α:Type} [Inhabited α] {c:α→List AV} {w:Nat} [Wid c w] {l:List α} {i f:Nat} {ts:List AV} {a:α} (h:i<l.length) (hf:f+ts.length≤w) (ha:c a=splice (c (nth l i)) f ts):putO (flat c l) w i f ts=flat c (l.set i a):=by
 unfold putO;unfold splice at ha⊢;unfold flat;induction l generalizing i with
 | nil=>simp at h
 | cons b l ih=>
  have hb:(c b).length=w:=Wid.len b;cases i with
  | zero=>
   have e:nth (b::l) 0=b:=rfl;rw[e]at ha;rw[List.flatMap_cons,List.set_cons_zero,List.flatMap_cons,ha,Nat.zero_mul,Nat.zero_add];rw[List.take_append_of_le_length (by omega),List.drop_append_of_le_length (by omega)];simp
  | succ i=>
   have e:nth (b::l) (i+1)=nth l i:=rfl;rw[e]at ha;have ih:=ih (i:=i) (by simpa using h) ha;rw[List.flatMap_cons,List.set_cons_succ,List.flatMap_cons,←ih];have e1:(i+1)*w+f=w+(i*w+f):=(by rw[Nat.add_mul];omega);rw[e1,List.take_append,List.drop_append,hb];rw[List.take_of_length_le (by omega),List.drop_eq_nil_of_le (by omega)];have e2:w+(i*w+f)-w=i*w+f:=(by omega);have e3:w+(i*w+f)+ts.length-w=i*w+f+ts.length:=(by omega);rw[e2,e3];simp
def smB:Bs:=⟨#[115,109,117,100,103,101]⟩
theorem put_name {x:List Pl} {j:Nat} (hj:j<x.length):putO (flat Pl.cells x) 6 j 1 [sV smB]=flat Pl.cells (x.set j {nth x j with name:=smB}):=putO_fld hj (by decide) rfl
set_option maxRecDepth 100000
set_option maxHeartbeats 4000000
theorem put_par {x:List Pl} {j:Nat} {z:Int} (hj:j<x.length):putO (flat Pl.cells x) 6 j 0 [iV z]=flat Pl.cells (x.set j {nth x j with par:=z}):=putO_fld hj (by simp) rfl
theorem any_from1 {t:List Pl} {n:Nat} (g:Good t) (h:0≤gpN t n):t.any (twinP t n)=t.tail.any (twinP t n):=by
 have hp:=g.pos;obtain⟨a,r,rfl⟩:∃a r,t=a::r:=by
  cases t with
  | nil=>simp at hp
  | cons a r=>exact⟨a,r,rfl⟩
 rw[List.any_cons];have:twinP (a::r) n a=false:=by
  have e:a=rootP:=g.root;simp only[twinP,decide_eq_false_iff_not];rintro⟨h1,_⟩;rw[e]at h1;have:rootP.par= -1:=rfl;rw[this]at h1;rw[e]at h;omega
 rw[this];rfl
theorem lift60_ok (t:List Pl) (ht:OKs t) (n:Int):CallsOK Tryz.prog 60 [rowT Pl.cells t,iV n] (.tup [.row 0 (liftR t n).length,iV (liftCode t n)]) [(58,flat Pl.cells (liftR t n))]:=by
 refine callsOK mixed Tryz.call60 Tryz.func60 rfl (by rw[Tryz.ntmps60];simp) ?_ rfl;rw[Tryz.ntmps60];have htl:=ht.1;(repeat with_reducible refine aA ?_);(first | with_reducible refine aR fun K' hK=> ?_ | with_reducible refine aS fun K' hK=> ?_);simp;(first | refine hK _ _ _ ?_ | done);clear K' hK;(repeat with_reducible refine aA ?_);(first | with_reducible refine aR fun K' hK=> ?_ | with_reducible refine aS fun K' hK=> ?_);simp;refine acall_flat (check25_ok t ht) rfl (by simp) ?_;simp;(first | refine hK _ _ _ ?_ | done);clear K' hK;by_cases c0:checkN t=0
 ·have g:Good t:=check_iff.1 c0;(repeat with_reducible refine aA ?_);(first | with_reducible refine aR fun K' hK=> ?_ | with_reducible refine aS fun K' hK=> ?_);simp[c0];(first | refine hK _ _ _ ?_ | done);clear K' hK;repeat with_reducible refine aA ?_
  (first | with_reducible refine aC fun A B hA hB=> ?_ | with_reducible refine aD fun A B hA hB=> ?_)
  simp[c0];refine⟨fun hc=>hA ?_,fun hc=>hB ?_⟩<;>clear hA hB A B<;>(try (simp at hc;done))<;>(try (exfalso;simp at hc;omega))<;>clear hc<;>(try with_reducible refine aK ?_);have bad:∀z:Int,z≠0→liftCode t n=z→∃x,x=x∧liftCode t n=z∧liftR t n=[]:=fun z hz h=>⟨z,rfl,h,by unfold liftR;rw[if_neg (by rw[h];exact hz)]⟩;by_cases n1:n<1
  ·obtain⟨_,_,e1,e2⟩:=bad 151 (by decide) (by unfold liftCode;rw[if_neg (by simp[c0]),if_pos (by omega)]);(repeat with_reducible refine aA ?_);(first | with_reducible refine aR fun K' hK=> ?_ | with_reducible refine aS fun K' hK=> ?_);simp[n1];(first | refine hK _ _ _ ?_ | done);clear K' hK;repeat with_reducible refine aA ?_
   (first | with_reducible refine aC fun A B hA hB=> ?_ | with_reducible refine aD fun A B hA hB=> ?_)
   simp;refine⟨fun hc=>hA ?_,fun hc=>hB ?_⟩<;>clear hA hB A B<;>(try (simp at hc;done))<;>(try (exfalso;simp at hc;omega))<;>clear hc<;>(try with_reducible refine aK ?_);(repeat with_reducible refine aA ?_);(first | with_reducible refine aR fun K' hK=> ?_ | with_reducible refine aS fun K' hK=> ?_);simp;(first | refine hK _ _ _ ?_ | done);clear K' hK;(repeat with_reducible refine aA ?_);(first | with_reducible refine aw_ret ?_ | with_reducible refine aw_retL ?_ | with_reducible refine aw_skipL ?_);simp[blockK,loopK,Post,resA,res1,expT,expA,exp1,expM,expL,okT,okA,ok1,rowOf,Tryz.f60];rw[e1,e2];exact⟨[1],⟨⟨rfl,rfl⟩,rfl⟩,rfl⟩
  by_cases n2:(t.length:Int)≤n
  ·obtain⟨_,_,e1,e2⟩:=bad 151 (by decide) (by unfold liftCode;rw[if_neg (by simp[c0]),if_pos (by omega)]);(repeat with_reducible refine aA ?_);(first | with_reducible refine aR fun K' hK=> ?_ | with_reducible refine aS fun K' hK=> ?_);simp[n1,n2];(first | refine hK _ _ _ ?_ | done);clear K' hK;repeat with_reducible refine aA ?_
   (first | with_reducible refine aC fun A B hA hB=> ?_ | with_reducible refine aD fun A B hA hB=> ?_)
   simp;refine⟨fun hc=>hA ?_,fun hc=>hB ?_⟩<;>clear hA hB A B<;>(try (simp at hc;done))<;>(try (exfalso;simp at hc;omega))<;>clear hc<;>(try with_reducible refine aK ?_);(repeat with_reducible refine aA ?_);(first | with_reducible refine aR fun K' hK=> ?_ | with_reducible refine aS fun K' hK=> ?_);simp;(first | refine hK _ _ _ ?_ | done);clear K' hK;(repeat with_reducible refine aA ?_);(first | with_reducible refine aw_ret ?_ | with_reducible refine aw_retL ?_ | with_reducible refine aw_skipL ?_);simp[blockK,loopK,Post,resA,res1,expT,expA,exp1,expM,expL,okT,okA,ok1,rowOf,Tryz.f60];rw[e1,e2];exact⟨[1],⟨⟨rfl,rfl⟩,rfl⟩,rfl⟩
  have n3:n.toNat<t.length:=(by omega);have n4:0≤n:=(by omega);have n5:n<t.length:=(by omega);have hp1:=g.par n.toNat (by omega) n3;have hpe:(nth t n.toNat).par=parN t n.toNat:=rfl;by_cases n6:parN t n.toNat=0
  ·obtain⟨_,_,e1,e2⟩:=bad 151 (by decide) (by unfold liftCode;rw[if_neg (by simp[c0]),if_neg (by omega),if_pos n6]);(repeat with_reducible refine aA ?_);(first | with_reducible refine aR fun K' hK=> ?_ | with_reducible refine aS fun K' hK=> ?_);simp[n1,n2,n3,n4,n5,hpe,n6];(first | refine hK _ _ _ ?_ | done);clear K' hK;repeat with_reducible refine aA ?_
   (first | with_reducible refine aC fun A B hA hB=> ?_ | with_reducible refine aD fun A B hA hB=> ?_)
   simp;refine⟨fun hc=>hA ?_,fun hc=>hB ?_⟩<;>clear hA hB A B<;>(try (simp at hc;done))<;>(try (exfalso;simp at hc;omega))<;>clear hc<;>(try with_reducible refine aK ?_);(repeat with_reducible refine aA ?_);(first | with_reducible refine aR fun K' hK=> ?_ | with_reducible refine aS fun K' hK=> ?_);simp;(first | refine hK _ _ _ ?_ | done);clear K' hK;(repeat with_reducible refine aA ?_);(first | with_reducible refine aw_ret ?_ | with_reducible refine aw_retL ?_ | with_reducible refine aw_skipL ?_);simp[blockK,loopK,Post,resA,res1,expT,expA,exp1,expM,expL,okT,okA,ok1,rowOf,Tryz.f60];rw[e1,e2];exact⟨[1],⟨⟨rfl,rfl⟩,rfl⟩,rfl⟩
  have p1:0≤parN t n.toNat:=(by omega);have p2:parN t n.toNat<t.length:=(by omega);have p3:(parN t n.toNat).toNat<t.length:=(by omega);have hge:(nth t (parN t n.toNat).toNat).par=gpN t n.toNat:=rfl;have hgp0:0≤gpN t n.toNat:=(g.par (parN t n.toNat).toNat (by omega) p3).1;have hany:=any_from1 (n:=n.toNat) g hgp0;(repeat with_reducible refine aA ?_);(first | with_reducible refine aR fun K' hK=> ?_ | with_reducible refine aS fun K' hK=> ?_);simp[n1,n2,n3,n4,n5,hpe,n6];(first | refine hK _ _ _ ?_ | done);clear K' hK;repeat with_reducible refine aA ?_
  (first | with_reducible refine aC fun A B hA hB=> ?_ | with_reducible refine aD fun A B hA hB=> ?_)
  simp;refine⟨fun hc=>hA ?_,fun hc=>hB ?_⟩<;>clear hA hB A B<;>(try (simp at hc;done))<;>(try (exfalso;simp at hc;omega))<;>clear hc<;>(try with_reducible refine aK ?_);(repeat with_reducible refine aA ?_);(first | with_reducible refine aR fun K' hK=> ?_ | with_reducible refine aS fun K' hK=> ?_);simp[n3,n4,n5,hpe,p1,p2,p3,hge];(first | refine hK _ _ _ ?_ | done);clear K' hK;(repeat with_reducible refine aA ?_);(first | with_reducible refine aR fun K' hK=> ?_ | with_reducible refine aS fun K' hK=> ?_);simp;(first | refine hK _ _ _ ?_ | done);clear K' hK;(repeat with_reducible refine aA ?_);(first | with_reducible refine aw_block ?_ | with_reducible refine aw_toS (aw_block ?_));refine aw_loop (fun s G nx=>s 0=rowT Pl.cells t∧s 1=iV n∧s 7=iV (gpN t n.toNat)∧∃i:Nat,s 8=iV i∧1≤i∧i≤t.length∧∀j,1≤j→j<i→twinP t n.toNat (nth t j)=false) (fun s _ _=>match s 8 with | .v (.int _ n)=>t.length-n.toNat | _=>0) ?_ ?_
  ·exact⟨by simp,by simp,by simp,1,by simp,by omega,g.pos,fun j h1 h2=>by omega⟩
  rintro s G nx-⟨s0,s1,s7,i,s8,hi1,hi,hno⟩;have hw:IntKind.i64.wrap (↑i+1)=((i+1:Nat):Int):=wrapS (by omega);(repeat with_reducible refine aA ?_);(first | with_reducible refine aR fun K' hK=> ?_ | with_reducible refine aS fun K' hK=> ?_);simp[s0,s8];(first | refine hK _ _ _ ?_ | done);clear K' hK;(repeat with_reducible refine aA ?_);(first | with_reducible refine aC fun A B hA hB=> ?_ | with_reducible refine aD fun A B hA hB=> ?_);simp;refine⟨fun hi2=>hA ?_,fun hi2=>hB ?_⟩<;>clear hA hB A B<;>(try simp at hi2)<;>(try with_reducible refine aK ?_)
  ·have hpi:(nth t i).par=parN t i:=rfl;have htw:twinP t n.toNat (nth t i)=decide (parN t i=gpN t n.toNat∧(nth t i).name=(nth t n.toNat).name):=rfl;have hg1:∀h:¬parN t i=gpN t n.toNat,twinP t n.toNat (nth t i)=false:=fun h=>(by rw[htw];simp[h]);have hg2:∀h:¬(nth t i).name=(nth t n.toNat).name,twinP t n.toNat (nth t i)=false:=fun h=>(by rw[htw];simp[h]);have hii:(i:Int)<t.length:=(by omega);(repeat with_reducible refine aA ?_);(first | with_reducible refine aw_block ?_ | with_reducible refine aw_toS (aw_block ?_));by_cases c1:parN t i=gpN t n.toNat
   ·by_cases c2:(nth t i).name=(nth t n.toNat).name
    ·have hany1:t.any (twinP t n.toNat)=true:=List.any_eq_true.2 ⟨_,nth_mem hi2,by rw[htw];simp[c1,c2]⟩;obtain⟨_,_,e1,e2⟩:=bad 152 (by decide) (by unfold liftCode;rw[if_neg (by simp[c0]),if_neg (by omega),if_neg n6,if_pos hany1]);(repeat with_reducible refine aA ?_);(first | with_reducible refine aQ fun K' hK=> ?_ | with_reducible refine aT fun K' hK=> ?_);refine aops_part 8 fun K2 hK2=> ?_;simp[s0,s7,s8,hi2,hii,hpi,c1];refine hK2 _ _ _ ?_;clear K2 hK2;refine aops_part 5 fun K2 hK2=> ?_;simp[s0,s8,hi2,hii];refine hK2 _ _ _ ?_;clear K2 hK2;simp[s0,s1,n3,n4,n5,c2];(first | refine hK _ _ _ ?_ | done);clear K' hK;repeat with_reducible refine aA ?_
     (first | with_reducible refine aC fun A B hA hB=> ?_ | with_reducible refine aD fun A B hA hB=> ?_)
     simp;refine⟨fun hc=>hA ?_,fun hc=>hB ?_⟩<;>clear hA hB A B<;>(try (simp at hc;done))<;>(try (exfalso;simp at hc;omega))<;>clear hc<;>(try with_reducible refine aK ?_);(repeat with_reducible refine aA ?_);(first | with_reducible refine aR fun K' hK=> ?_ | with_reducible refine aS fun K' hK=> ?_);simp;(first | refine hK _ _ _ ?_ | done);clear K' hK;(repeat with_reducible refine aA ?_);(first | with_reducible refine aw_ret ?_ | with_reducible refine aw_retL ?_ | with_reducible refine aw_skipL ?_);simp[blockK,loopK,Post,resA,res1,expT,expA,exp1,expM,expL,okT,okA,ok1,rowOf,Tryz.f60];rw[e1,e2];exact⟨[nx],⟨⟨rfl,rfl⟩,rfl⟩,by simp[rowOf]⟩
    ·(repeat with_reducible refine aA ?_);(first | with_reducible refine aQ fun K' hK=> ?_ | with_reducible refine aT fun K' hK=> ?_);refine aops_part 8 fun K2 hK2=> ?_;simp[s0,s7,s8,hi2,hii,hpi,c1];refine hK2 _ _ _ ?_;clear K2 hK2;refine aops_part 5 fun K2 hK2=> ?_;simp[s0,s8,hi2,hii];refine hK2 _ _ _ ?_;clear K2 hK2;simp[s0,s1,n3,n4,n5,c2];(first | refine hK _ _ _ ?_ | done);clear K' hK;repeat with_reducible refine aA ?_
     (first | with_reducible refine aC fun A B hA hB=> ?_ | with_reducible refine aD fun A B hA hB=> ?_)
     simp;refine⟨fun hc=>hA ?_,fun hc=>hB ?_⟩<;>clear hA hB A B<;>(try (simp at hc;done))<;>(try (exfalso;simp at hc;omega))<;>clear hc<;>(try with_reducible refine aK ?_);(first | with_reducible refine aw_skipL ?_ | skip);refine blockK_normal ?_;(repeat with_reducible refine aA ?_);(first | with_reducible refine aR fun K' hK=> ?_ | with_reducible refine aS fun K' hK=> ?_);simp[s8,hw];(first | refine hK _ _ _ ?_ | done);clear K' hK;refine aw_skipL (loopK_normal ?_ ?_)
     ·refine⟨by simp[s0],by simp[s1],by simp[s7],i+1,by simp[hw],by omega,by omega,fun j h1 h2=> ?_⟩;rcases Nat.lt_or_ge j i with h | h
      ·exact hno j h1 h
      ·have:j=i:=(by omega);subst this;exact hg2 c2
     ·simp[s8,hw];omega
   ·(repeat with_reducible refine aA ?_);(first | with_reducible refine aQ fun K' hK=> ?_ | with_reducible refine aT fun K' hK=> ?_);refine aops_part 8 fun K2 hK2=> ?_;simp[s0,s7,s8,hi2,hii,hpi,c1];refine hK2 _ _ _ ?_;clear K2 hK2;simp[c1];(first | refine hK _ _ _ ?_ | done);clear K' hK;repeat with_reducible refine aA ?_
    (first | with_reducible refine aC fun A B hA hB=> ?_ | with_reducible refine aD fun A B hA hB=> ?_)
    simp;refine⟨fun hc=>hA ?_,fun hc=>hB ?_⟩<;>clear hA hB A B<;>(try (simp at hc;done))<;>(try (exfalso;simp at hc;omega))<;>clear hc<;>(try with_reducible refine aK ?_);(first | with_reducible refine aw_skipL ?_ | skip);refine blockK_normal ?_;(repeat with_reducible refine aA ?_);(first | with_reducible refine aR fun K' hK=> ?_ | with_reducible refine aS fun K' hK=> ?_);simp[s8,hw];(first | refine hK _ _ _ ?_ | done);clear K' hK;refine aw_skipL (loopK_normal ?_ ?_)
    ·refine⟨by simp[s0],by simp[s1],by simp[s7],i+1,by simp[hw],by omega,by omega,fun j h1 h2=> ?_⟩;rcases Nat.lt_or_ge j i with h | h
     ·exact hno j h1 h
     ·have:j=i:=(by omega);subst this;exact hg1 c1
    ·simp[s8,hw];omega
  ·(repeat with_reducible refine aA ?_);(first | with_reducible refine aw_exit ?_ | with_reducible refine aw_exitL ?_);refine loopK_exit (blockK_exit ?_);have hie:i=t.length:=(by omega);subst hie;have hfalse:t.any (twinP t n.toNat)=false:=by
    rw[List.any_eq_false];intro p hp;obtain⟨j,hj,rfl⟩:=List.mem_iff_getElem.1 hp;rw[←nth_eq hj];rcases Nat.eq_zero_or_pos j with rfl | h
    ·have e:nth t 0=rootP:=g.root;rw[e];simp only[twinP,decide_eq_true_eq];rintro⟨h1,_⟩;have:rootP.par= -1:=rfl;omega
    ·rw[hno j h hj];simp
   have e1:liftCode t n=0:=(by unfold liftCode;rw[if_neg (by simp[c0]),if_neg (by omega),if_neg n6,if_neg (by rw[hfalse];simp)]);have e2:liftR t n=liftT t n.toNat:=(by unfold liftR;rw[if_pos e1]);rw[e1,e2];have hput:=put_par (z:=gpN t n.toNat) n3;have hlt:t.set n.toNat {nth t n.toNat with par:=gpN t n.toNat} =liftT t n.toNat:=rfl;rw[hlt]at hput;have hll:=lift_len (t:=t) (n:=n.toNat);(repeat with_reducible refine aA ?_);(first | with_reducible refine aR fun K' hK=> ?_ | with_reducible refine aS fun K' hK=> ?_);simp[s0];refine acall_new (own11_ok t (by omega)) (by first | rfl | (simp;done) | (simp;rfl) | (simp;exact⟨rfl,rfl⟩)) ?_;simp[addJ_one];(first | refine hK _ _ _ ?_ | done);clear K' hK;(repeat with_reducible refine aA ?_);(first | with_reducible refine aR fun K' hK=> ?_ | with_reducible refine aS fun K' hK=> ?_);simp[s1,s7,n3,n4,n5,hput];(first | refine hK _ _ _ ?_ | done);clear K' hK;(repeat with_reducible refine aA ?_);(first | with_reducible refine aR fun K' hK=> ?_ | with_reducible refine aS fun K' hK=> ?_);simp;(first | refine hK _ _ _ ?_ | done);clear K' hK;(repeat with_reducible refine aA ?_);(first | with_reducible refine aw_ret ?_ | with_reducible refine aw_retL ?_ | with_reducible refine aw_skipL ?_);simp[blockK,loopK,Post,resA,res1,expT,expA,exp1,expM,expL,okT,okA,ok1,rowOf,Tryz.f60];exact⟨[nx],⟨hll.symm,rfl⟩,by simp[rowOf]⟩
 ·(repeat with_reducible refine aA ?_);(first | with_reducible refine aR fun K' hK=> ?_ | with_reducible refine aS fun K' hK=> ?_);simp[c0];(first | refine hK _ _ _ ?_ | done);clear K' hK;repeat with_reducible refine aA ?_
  (first | with_reducible refine aC fun A B hA hB=> ?_ | with_reducible refine aD fun A B hA hB=> ?_)
  simp[c0];refine⟨fun hc=>hA ?_,fun hc=>hB ?_⟩<;>clear hA hB A B<;>(try (simp at hc;done))<;>(try (exfalso;simp at hc;omega))<;>clear hc<;>(try with_reducible refine aK ?_);(repeat with_reducible refine aA ?_);(first | with_reducible refine aR fun K' hK=> ?_ | with_reducible refine aS fun K' hK=> ?_);simp;(first | refine hK _ _ _ ?_ | done);clear K' hK;(repeat with_reducible refine aA ?_);(first | with_reducible refine aw_ret ?_ | with_reducible refine aw_retL ?_ | with_reducible refine aw_skipL ?_);simp[blockK,loopK,Post,resA,res1,expT,expA,exp1,expM,expL,okT,okA,ok1,rowOf,Tryz.f60];have e1:liftCode t n=checkN t:=(by simp[liftCode,c0]);have e2:liftR t n=[]:=(by rw[liftR,e1,if_neg c0]);rw[e1,e2];exact⟨[1],⟨⟨rfl,rfl⟩,rfl⟩,rfl⟩
theorem cuts62_ok (root:Man) (L:List Man) (t:List Pl) (n:Int) (hsz:ValSz root L t):CallsOK Tryz.prog 62 [.agg root.cells,rowT Man.cells L,rowT Pl.cells t,iV n] (bV (validN root L t&&cutsZ root L t n)) []:=by
 refine callsOK mixed Tryz.call62 Tryz.func62 rfl (by rw[Tryz.ntmps62];simp) ?_ rfl;rw[Tryz.ntmps62];have c58:Tryz.prog.cellsOf 58=6:=(by kernel_rfl);have hV:=valid39_ok root L t hsz;have hV2:=valid39_ok root L _ (cut_sz (n:=n) hsz);have hR:cutsZ root L t n=(decide (cutCode t n=0)&&validN root L (cutR t n)):=rfl;have hC:=cut15_ok t hsz.2.2.2.2.1 n;rw[hR];generalize cutR t n=u at*;generalize cutCode t n=c at*;(repeat with_reducible refine aA ?_);(first | with_reducible refine aR fun K' hK=> ?_ | with_reducible refine aS fun K' hK=> ?_);simp;(first | refine hK _ _ _ ?_ | done);clear K' hK;(repeat with_reducible refine aA ?_);(first | with_reducible refine aR fun K' hK=> ?_ | with_reducible refine aS fun K' hK=> ?_);simp;refine acall_new hC (by first | rfl | (simp;done) | (simp;rfl) | (simp;exact⟨rfl,rfl⟩)) ?_;simp[addJ_one];(first | refine hK _ _ _ ?_ | done);clear K' hK;refine aw_gen (fun s X nz=>s 1=rowT Man.cells L∧s 2=rowT Pl.cells t∧s 4=.ptr 0 0∧s 9=.row 1 u.length∧s 10=iV c∧X 0=some (.var 27 root.cells)∧X 1=some (.row 58 (flat Pl.cells u))) ?_ ?_
 ·exact⟨by simp,by simp,by simp,by simp,by simp,by simp,by simp⟩
 rintro s G nx ⟨s1,s2,s4,s9,s10,g0,g1⟩;have q1:seesA Tryz.prog G [.agg root.cells,rowT Man.cells L,.row 1 u.length]=some [.agg root.cells,rowT Man.cells L,rowT Pl.cells u]:=by
  have:=treeOf_of (P:=Tryz.prog) g1 c58 rfl;simp only[seesA,seeA,lookA,this];rfl
 by_cases hc:c=0
 ·(repeat with_reducible refine aA ?_);(first | with_reducible refine aR fun K' hK=> ?_ | with_reducible refine aS fun K' hK=> ?_);simp[s1,s2,s4,s9,s10,g0,hc];refine acall_flat hV rfl (by first | rfl | (simp;done) | (simp;rfl) | (simp;exact⟨rfl,rfl⟩)) ?_;cases hv:validN root L t with
  | false=>
   simp;(first | refine hK _ _ _ ?_ | done);clear K' hK;(repeat with_reducible refine aA ?_);(first | with_reducible refine aw_ret ?_ | with_reducible refine aw_retL ?_ | with_reducible refine aw_skipL ?_);simp[blockK,loopK,Post,resA,res1,expT,expA,exp1,expM,expL,okT,okA,ok1,rowOf,Tryz.f62,hc,hv]
  | true=>
   simp[s1,s2,s4,s9,s10,g0,hc];refine acall_flat hV2 rfl q1 ?_;simp;(first | refine hK _ _ _ ?_ | done);clear K' hK;(repeat with_reducible refine aA ?_);(first | with_reducible refine aw_ret ?_ | with_reducible refine aw_retL ?_ | with_reducible refine aw_skipL ?_);simp[blockK,loopK,Post,resA,res1,expT,expA,exp1,expM,expL,okT,okA,ok1,rowOf,Tryz.f62,hc,hv]
 ·(repeat with_reducible refine aA ?_);(first | with_reducible refine aR fun K' hK=> ?_ | with_reducible refine aS fun K' hK=> ?_);simp[s10,hc];(first | refine hK _ _ _ ?_ | done);clear K' hK;(repeat with_reducible refine aA ?_);(first | with_reducible refine aw_ret ?_ | with_reducible refine aw_retL ?_ | with_reducible refine aw_skipL ?_);simp[blockK,loopK,Post,resA,res1,expT,expA,exp1,expM,expL,okT,okA,ok1,rowOf,Tryz.f62,hc]
theorem lifts64_ok (root:Man) (L:List Man) (t:List Pl) (n:Int) (hsz:ValSz root L t):CallsOK Tryz.prog 64 [.agg root.cells,rowT Man.cells L,rowT Pl.cells t,iV n] (bV (validN root L t&&liftsZ root L t n)) []:=by
 refine callsOK mixed Tryz.call64 Tryz.func64 rfl (by rw[Tryz.ntmps64];simp) ?_ rfl;rw[Tryz.ntmps64];have c58:Tryz.prog.cellsOf 58=6:=(by kernel_rfl);have hV:=valid39_ok root L t hsz;have hV2:=valid39_ok root L _ (lift_sz (n:=n) hsz);have hR:liftsZ root L t n=(decide (liftCode t n=0)&&validN root L (liftR t n)):=rfl;have hC:=lift60_ok t hsz.2.2.2.2.1 n;rw[hR];generalize liftR t n=u at*;generalize liftCode t n=c at*;(repeat with_reducible refine aA ?_);(first | with_reducible refine aR fun K' hK=> ?_ | with_reducible refine aS fun K' hK=> ?_);simp;(first | refine hK _ _ _ ?_ | done);clear K' hK;(repeat with_reducible refine aA ?_);(first | with_reducible refine aR fun K' hK=> ?_ | with_reducible refine aS fun K' hK=> ?_);simp;refine acall_new hC (by first | rfl | (simp;done) | (simp;rfl) | (simp;exact⟨rfl,rfl⟩)) ?_;simp[addJ_one];(first | refine hK _ _ _ ?_ | done);clear K' hK;refine aw_gen (fun s X nz=>s 1=rowT Man.cells L∧s 2=rowT Pl.cells t∧s 4=.ptr 0 0∧s 9=.row 1 u.length∧s 10=iV c∧X 0=some (.var 27 root.cells)∧X 1=some (.row 58 (flat Pl.cells u))) ?_ ?_
 ·exact⟨by simp,by simp,by simp,by simp,by simp,by simp,by simp⟩
 rintro s G nx ⟨s1,s2,s4,s9,s10,g0,g1⟩;have q1:seesA Tryz.prog G [.agg root.cells,rowT Man.cells L,.row 1 u.length]=some [.agg root.cells,rowT Man.cells L,rowT Pl.cells u]:=by
  have:=treeOf_of (P:=Tryz.prog) g1 c58 rfl;simp only[seesA,seeA,lookA,this];rfl
 by_cases hc:c=0
 ·(repeat with_reducible refine aA ?_);(first | with_reducible refine aR fun K' hK=> ?_ | with_reducible refine aS fun K' hK=> ?_);simp[s1,s2,s4,s9,s10,g0,hc];refine acall_flat hV rfl (by first | rfl | (simp;done) | (simp;rfl) | (simp;exact⟨rfl,rfl⟩)) ?_;cases hv:validN root L t with
  | false=>
   simp;(first | refine hK _ _ _ ?_ | done);clear K' hK;(repeat with_reducible refine aA ?_);(first | with_reducible refine aw_ret ?_ | with_reducible refine aw_retL ?_ | with_reducible refine aw_skipL ?_);simp[blockK,loopK,Post,resA,res1,expT,expA,exp1,expM,expL,okT,okA,ok1,rowOf,Tryz.f64,hc,hv]
  | true=>
   simp[s1,s2,s4,s9,s10,g0,hc];refine acall_flat hV2 rfl q1 ?_;simp;(first | refine hK _ _ _ ?_ | done);clear K' hK;(repeat with_reducible refine aA ?_);(first | with_reducible refine aw_ret ?_ | with_reducible refine aw_retL ?_ | with_reducible refine aw_skipL ?_);simp[blockK,loopK,Post,resA,res1,expT,expA,exp1,expM,expL,okT,okA,ok1,rowOf,Tryz.f64,hc,hv]
 ·(repeat with_reducible refine aA ?_);(first | with_reducible refine aR fun K' hK=> ?_ | with_reducible refine aS fun K' hK=> ?_);simp[s10,hc];(first | refine hK _ _ _ ?_ | done);clear K' hK;(repeat with_reducible refine aA ?_);(first | with_reducible refine aw_ret ?_ | with_reducible refine aw_retL ?_ | with_reducible refine aw_skipL ?_);simp[blockK,loopK,Post,resA,res1,expT,expA,exp1,expM,expL,okT,okA,ok1,rowOf,Tryz.f64,hc]
set_option maxRecDepth 100000
set_option maxHeartbeats 4000000
theorem by115_ok {f:FuncId} {p:Bool} {R:List Pl} (root:Man) (L:List Man) (t:List Pl) (n:Int) (hsz:ValSz root L t) (hw:Way f root L t n p R):CallsOK Tryz.prog 115 [.agg root.cells,rowT Man.cells L,rowT Pl.cells t,iV n,.fn f []] (bV (validN root L t&&p)) []:=by
 refine callsOK mixed Tryz.call115 Tryz.func115 rfl (by rw[Tryz.ntmps115];simp) ?_ rfl;rw[Tryz.ntmps115];(repeat with_reducible refine aA ?_);(first | with_reducible refine aR fun K' hK=> ?_ | with_reducible refine aS fun K' hK=> ?_);simp;(first | refine hK _ _ _ ?_ | done);clear K' hK;(repeat with_reducible refine aA ?_);(first | with_reducible refine aR fun K' hK=> ?_ | with_reducible refine aS fun K' hK=> ?_);simp;refine acall_flat (valid38_ok root L t hsz) rfl (by first | rfl | (simp;done) | (simp;rfl) | (simp;exact⟨rfl,rfl⟩)) ?_;simp;(first | refine hK _ _ _ ?_ | done);clear K' hK;cases hv:validN root L t with
 | false=>
  repeat with_reducible refine aA ?_
  (first | with_reducible refine aC fun A B hA hB=> ?_ | with_reducible refine aD fun A B hA hB=> ?_)
  simp;refine⟨fun hc=>hA ?_,fun hc=>hB ?_⟩<;>clear hA hB A B<;>(try (simp at hc;done))<;>(try (exfalso;simp at hc;omega))<;>clear hc<;>(try with_reducible refine aK ?_);(repeat with_reducible refine aA ?_);(first | with_reducible refine aR fun K' hK=> ?_ | with_reducible refine aS fun K' hK=> ?_);simp;(first | refine hK _ _ _ ?_ | done);clear K' hK;(repeat with_reducible refine aA ?_);(first | with_reducible refine aw_ret ?_ | with_reducible refine aw_retL ?_ | with_reducible refine aw_skipL ?_);simp[blockK,loopK,Post,resA,res1,expT,expA,exp1,expM,expL,okT,okA,ok1,rowOf,Tryz.f115]
 | true=>
  repeat with_reducible refine aA ?_
  (first | with_reducible refine aC fun A B hA hB=> ?_ | with_reducible refine aD fun A B hA hB=> ?_)
  simp;refine⟨fun hc=>hA ?_,fun hc=>hB ?_⟩<;>clear hA hB A B<;>(try (simp at hc;done))<;>(try (exfalso;simp at hc;omega))<;>clear hc<;>(try with_reducible refine aK ?_);have hwc:(AV.agg root.cells).cells++[rowT Man.cells L,rowT Pl.cells t]=workC root L (rowT Pl.cells t):=rfl;have hwo:(workC root L (rowT Pl.cells t)).all AV.one=true:=rfl;(repeat with_reducible refine aA ?_);(first | with_reducible refine aR fun K' hK=> ?_ | with_reducible refine aS fun K' hK=> ?_);simp;refine acall_inlK (hw 1 (rowT Pl.cells t) _ _ _ (by simp;rfl) (by omega) (fun X hX=>by rfl) ?_);rintro X ny r hny hX hr hr1 hr2;simp[thenK];(first | refine hK _ _ _ ?_ | done);clear K' hK;(repeat with_reducible refine aA ?_);(first | with_reducible refine aR fun K' hK=> ?_ | with_reducible refine aS fun K' hK=> ?_);simp;(first | refine hK _ _ _ ?_ | done);clear K' hK;(repeat with_reducible refine aA ?_);(first | with_reducible refine aw_ret ?_ | with_reducible refine aw_retL ?_ | with_reducible refine aw_skipL ?_);simp[blockK,loopK,Post,resA,res1,expT,expA,exp1,expM,expL,okT,okA,ok1,rowOf,Tryz.f115]
theorem cuts61_ok (root:Man) (L:List Man) (t:List Pl) (n:Int) (hsz:ValSz root L t):CallsOK Tryz.prog 61 [.agg root.cells,rowT Man.cells L,rowT Pl.cells t,iV n] (bV (validN root L t&&cutsZ root L t n)) []:=by
 refine callsOK mixed Tryz.call61 Tryz.func61 rfl (by rw[Tryz.ntmps61];simp) ?_ rfl;rw[Tryz.ntmps61];(repeat with_reducible refine aA ?_);(first | with_reducible refine aR fun K' hK=> ?_ | with_reducible refine aS fun K' hK=> ?_);simp;(first | refine hK _ _ _ ?_ | done);clear K' hK;(repeat with_reducible refine aA ?_);(first | with_reducible refine aR fun K' hK=> ?_ | with_reducible refine aS fun K' hK=> ?_);simp;refine acall_flat (by115_ok root L t n hsz (way_cut hsz n)) rfl (by first | rfl | (simp;done) | (simp;rfl) | (simp;exact⟨rfl,rfl⟩)) ?_;simp;(first | refine hK _ _ _ ?_ | done);clear K' hK;(repeat with_reducible refine aA ?_);(first | with_reducible refine aw_ret ?_ | with_reducible refine aw_retL ?_ | with_reducible refine aw_skipL ?_);simp[blockK,loopK,Post,resA,res1,expT,expA,exp1,expM,expL,okT,okA,ok1,rowOf,Tryz.f61]
theorem lifts63_ok (root:Man) (L:List Man) (t:List Pl) (n:Int) (hsz:ValSz root L t):CallsOK Tryz.prog 63 [.agg root.cells,rowT Man.cells L,rowT Pl.cells t,iV n] (bV (validN root L t&&liftsZ root L t n)) []:=by
 refine callsOK mixed Tryz.call63 Tryz.func63 rfl (by rw[Tryz.ntmps63];simp) ?_ rfl;rw[Tryz.ntmps63];(repeat with_reducible refine aA ?_);(first | with_reducible refine aR fun K' hK=> ?_ | with_reducible refine aS fun K' hK=> ?_);simp;(first | refine hK _ _ _ ?_ | done);clear K' hK;(repeat with_reducible refine aA ?_);(first | with_reducible refine aR fun K' hK=> ?_ | with_reducible refine aS fun K' hK=> ?_);simp;refine acall_flat (by115_ok root L t n hsz (way_lift hsz n)) rfl (by first | rfl | (simp;done) | (simp;rfl) | (simp;exact⟨rfl,rfl⟩)) ?_;simp;(first | refine hK _ _ _ ?_ | done);clear K' hK;(repeat with_reducible refine aA ?_);(first | with_reducible refine aw_ret ?_ | with_reducible refine aw_retL ?_ | with_reducible refine aw_skipL ?_);simp[blockK,loopK,Post,resA,res1,expT,expA,exp1,expM,expL,okT,okA,ok1,rowOf,Tryz.f63]
theorem dedR_off {root:Man} {L:List Man} {t:List Pl} (h:¬dedCode root L t=0):dedR root L t=[]:=by unfold dedR;rw[if_neg h]
theorem dedupe66_ok (root:Man) (L:List Man) (t:List Pl) (hsz:ValSz root L t):CallsOK Tryz.prog 66 [.agg root.cells,rowT Man.cells L,rowT Pl.cells t] (.tup [.row 0 (dedR root L t).length,iV (dedCode root L t)]) [(58,flat Pl.cells (dedR root L t))]:=by
 refine callsOK mixed Tryz.call66 Tryz.func66 rfl (by rw[Tryz.ntmps66];simp) ?_ rfl;rw[Tryz.ntmps66];have hW:=wrong35_ok root L t hsz;have hfm:=wrongR_form root L t;have hwO:wrongO root L t=if codeV root L t=0 then wrongL root L t else[]:=rfl;have htl:=hsz.2.2.2.2.1.1;(repeat with_reducible refine aA ?_);(first | with_reducible refine aR fun K' hK=> ?_ | with_reducible refine aS fun K' hK=> ?_);simp;(first | refine hK _ _ _ ?_ | done);clear K' hK;(repeat with_reducible refine aA ?_);first | refine aw_cut (fun s G nx=>s 1=rowT Man.cells L∧s 2=rowT Pl.cells t∧s 3=.ptr 0 0∧G 0=some (.var 27 root.cells)∧s 9=iV (codeV root L t)∧RowJ nx G (s 8) (wrongO root L t)∧0<nx) ?_ ?_ | refine aw_toS (aw_cut (fun s G nx=>s 1=rowT Man.cells L∧s 2=rowT Pl.cells t∧s 3=.ptr 0 0∧G 0=some (.var 27 root.cells)∧s 9=iV (codeV root L t)∧RowJ nx G (s 8) (wrongO root L t)∧0<nx) ?_ ?_)
 ·rcases hfm with⟨hw0,hfm⟩ | hfm
  ·rw[hfm]at hW;(repeat with_reducible refine aA ?_);(first | with_reducible refine aR fun K' hK=> ?_ | with_reducible refine aS fun K' hK=> ?_);simp;refine acall_new hW (by first | rfl | (simp;done) | (simp;rfl) | (simp;exact⟨rfl,rfl⟩)) ?_;simp[addJ_nil];(first | refine hK _ _ _ ?_ | done);clear K' hK;with_reducible refine aw_end ?_
   exact⟨by simp,by simp,by simp,by simp,by simp,.inl ⟨by simp,hw0⟩,by omega⟩
  ·rw[hfm]at hW;(repeat with_reducible refine aA ?_);(first | with_reducible refine aR fun K' hK=> ?_ | with_reducible refine aS fun K' hK=> ?_);simp;refine acall_new hW (by first | rfl | (simp;done) | (simp;rfl) | (simp;exact⟨rfl,rfl⟩)) ?_;simp[addJ_one];(first | refine hK _ _ _ ?_ | done);clear K' hK;with_reducible refine aw_end ?_
   exact⟨by simp,by simp,by simp,by simp,by simp,.inr ⟨2,by simp,by omega,by simp⟩,by omega⟩
 clear hW hfm;rintro s G n0 ⟨s1,s2,s3,g0,s9,hrow,hn0⟩;(repeat with_reducible refine aA ?_);refine aw_cutR (fun s' G' nx'=>codeV root L t=0∧wrongL root L t=[]∧s' 1=rowT Man.cells L∧s' 2=rowT Pl.cells t∧s' 3=.ptr 0 0∧G' 0=some (.var 27 root.cells)∧0<nx') ?_ ?_
 ·(repeat with_reducible refine aA ?_);(first | with_reducible refine aw_block ?_ | with_reducible refine aw_toS (aw_block ?_));by_cases c0:codeV root L t=0
  ·rw[if_pos c0]at hwO;rw[hwO]at hrow;(repeat with_reducible refine aA ?_);(first | with_reducible refine aR fun K' hK=> ?_ | with_reducible refine aS fun K' hK=> ?_);simp[s9,c0];(first | refine hK _ _ _ ?_ | done);clear K' hK;repeat with_reducible refine aA ?_
   (first | with_reducible refine aC fun A B hA hB=> ?_ | with_reducible refine aD fun A B hA hB=> ?_)
   simp;refine⟨fun hc=>hA ?_,fun hc=>hB ?_⟩<;>clear hA hB A B<;>(try (simp at hc;done))<;>(try (exfalso;simp at hc;omega))<;>clear hc<;>(try with_reducible refine aK ?_);by_cases c1:wrongL root L t=[]
   ·rw[c1]at hrow;rcases hrow with⟨h8,_⟩ | ⟨r,h8,hr,hG⟩
    ·(repeat with_reducible refine aA ?_);(first | with_reducible refine aR fun K' hK=> ?_ | with_reducible refine aS fun K' hK=> ?_);simp[h8];(first | refine hK _ _ _ ?_ | done);clear K' hK;repeat with_reducible refine aA ?_
     (first | with_reducible refine aC fun A B hA hB=> ?_ | with_reducible refine aD fun A B hA hB=> ?_)
     simp;refine⟨fun hc=>hA ?_,fun hc=>hB ?_⟩<;>clear hA hB A B<;>(try (simp at hc;done))<;>(try (exfalso;simp at hc;omega))<;>clear hc<;>(try with_reducible refine aK ?_);(first | with_reducible refine aw_skipL ?_ | skip);refine blockK_normal ?_;with_reducible refine aw_endR ?_
     exact⟨c0,c1,by simp[s1],by simp[s2],by simp[s3],g0,hn0⟩
    ·(repeat with_reducible refine aA ?_);(first | with_reducible refine aR fun K' hK=> ?_ | with_reducible refine aS fun K' hK=> ?_);simp[h8,hG];(first | refine hK _ _ _ ?_ | done);clear K' hK;repeat with_reducible refine aA ?_
     (first | with_reducible refine aC fun A B hA hB=> ?_ | with_reducible refine aD fun A B hA hB=> ?_)
     simp;refine⟨fun hc=>hA ?_,fun hc=>hB ?_⟩<;>clear hA hB A B<;>(try (simp at hc;done))<;>(try (exfalso;simp at hc;omega))<;>clear hc<;>(try with_reducible refine aK ?_);(first | with_reducible refine aw_skipL ?_ | skip);refine blockK_normal ?_;with_reducible refine aw_endR ?_
     exact⟨c0,c1,by simp[s1],by simp[s2],by simp[s3],g0,hn0⟩
   ·have hc:dedCode root L t=1:=(by unfold dedCode;rw[if_neg (by simp[c0]),if_neg c1]);rw[dedR_off (by rw[hc];decide),hc];rcases hrow with⟨_,h⟩ | ⟨r,h8,hr,hG⟩
    ·exact absurd h c1
    ·have hpos:(0:Int)<(wrongL root L t).length:=by
      have:=List.length_pos_iff.2 c1;omega
     have hposN:=List.length_pos_iff.2 c1;(repeat with_reducible refine aA ?_);(first | with_reducible refine aR fun K' hK=> ?_ | with_reducible refine aS fun K' hK=> ?_);simp[h8,hG,hpos,hposN];(first | refine hK _ _ _ ?_ | done);clear K' hK;repeat with_reducible refine aA ?_
     (first | with_reducible refine aC fun A B hA hB=> ?_ | with_reducible refine aD fun A B hA hB=> ?_)
     simp;refine⟨fun hc=>hA ?_,fun hc=>hB ?_⟩<;>clear hA hB A B<;>(try (simp at hc;done))<;>(try (exfalso;simp at hc;omega))<;>clear hc<;>(try with_reducible refine aK ?_);(repeat with_reducible refine aA ?_);(first | with_reducible refine aR fun K' hK=> ?_ | with_reducible refine aS fun K' hK=> ?_);simp;(first | refine hK _ _ _ ?_ | done);clear K' hK;(repeat with_reducible refine aA ?_);(first | with_reducible refine aw_ret ?_ | with_reducible refine aw_retL ?_ | with_reducible refine aw_skipL ?_);simp[blockK,loopK,Post,resA,res1,expT,expA,exp1,expM,expL,okT,okA,ok1,rowOf,Tryz.f66,cutK]
  ·have hc:dedCode root L t=codeV root L t:=(by unfold dedCode;rw[if_pos c0]);rw[dedR_off (by rw[hc];exact c0),hc];(repeat with_reducible refine aA ?_);(first | with_reducible refine aR fun K' hK=> ?_ | with_reducible refine aS fun K' hK=> ?_);simp[s9,c0];(first | refine hK _ _ _ ?_ | done);clear K' hK;repeat with_reducible refine aA ?_
   (first | with_reducible refine aC fun A B hA hB=> ?_ | with_reducible refine aD fun A B hA hB=> ?_)
   simp;refine⟨fun hc=>hA ?_,fun hc=>hB ?_⟩<;>clear hA hB A B<;>(try (simp at hc;done))<;>(try (exfalso;simp at hc;omega))<;>clear hc<;>(try with_reducible refine aK ?_);(repeat with_reducible refine aA ?_);(first | with_reducible refine aR fun K' hK=> ?_ | with_reducible refine aS fun K' hK=> ?_);simp[s9];(first | refine hK _ _ _ ?_ | done);clear K' hK;(repeat with_reducible refine aA ?_);(first | with_reducible refine aw_ret ?_ | with_reducible refine aw_retL ?_ | with_reducible refine aw_skipL ?_);simp[blockK,loopK,Post,resA,res1,expT,expA,exp1,expM,expL,okT,okA,ok1,rowOf,Tryz.f66,cutK]
 clear hrow s1 s2 s3 g0 s9 hn0 hwO s G n0;rintro s G n1 ⟨c0,c1,s1,s2,s3,g0,hn1⟩;have hc:dedCode root L t=0:=(by unfold dedCode;rw[if_neg (by simp[c0]),if_pos c1]);have hR:dedR root L t=dedT root L t:=(by unfold dedR;rw[if_pos hc]);rw[hc,hR];have hv:=dedCode_zero.1 hc;have hne:t≠[]:=List.ne_nil_of_length_pos (check_iff.1 (codeV_zero.1 c0).2.2).pos;have c58:Tryz.prog.cellsOf 58=6:=(by kernel_rfl);have e0:¬0=n1:=(by omega);(repeat with_reducible refine aA ?_);(first | with_reducible refine aQ fun K' hK=> ?_ | with_reducible refine aT fun K' hK=> ?_);simp[s1,s2,s3,g0];refine acall_new (clone35_ok t (by omega) hne) (by first | rfl | (simp;done) | (simp;rfl) | (simp;exact⟨rfl,rfl⟩)) ?_;simp[addJ_one,s1,s2,s3,g0,e0];(first | refine hK _ _ _ ?_ | done);clear K' hK;refine aw_gen (fun u X nz=>u 10=.ptr (n1+1) 0∧nz=n1+2∧X (n1+1)=some (.var 139 (workC root L (.row n1 t.length)))∧X n1=some (.row 58 (flat Pl.cells t))) ?_ ?_
 ·have e1:¬n1=n1+1:=(by omega);refine⟨by simp,by simp,?_,by simp[e1]⟩;simp;rfl
 clear s1 s2 s3 g0 e0 hn1 hne c1 s G;rintro s G nz ⟨s10,rfl,gW,gq⟩;generalize hWe:n1+1=W at*;(repeat with_reducible refine aA ?_);(first | with_reducible refine aw_block ?_ | with_reducible refine aw_toS (aw_block ?_));refine aw_loopM (fun m s G nx=>s 10=.ptr W 0∧∃(u:List Pl) (q:Nat),G W=some (.var 139 (workC root L (.row q u.length)))∧G q=some (.row 58 (flat Pl.cells u))∧W<nx∧q<nx∧ValSz root L u∧validN root L u=true∧dedT root L u=dedT root L t∧mT u=m) (mT t) ?_ ?_
 ·exact⟨s10,t,n1,gW,gq,by omega,by omega,hsz,hv,rfl,rfl⟩
 clear s10 gW gq hv hWe s G n1 hc hR c0;rintro m s G nx-⟨s10,u,q,gW,gq,hWn,hqn,hszu,hvu,hdt,rfl⟩;have hul:=hszu.2.2.2.2.1.1;have hsx:∀(n:Int) (X:Hp),(∀k,k<nx→X k=G k)→seesA Tryz.prog X [.row q u.length,iV n]=some [rowT Pl.cells u,iV n]:=fun n X hX=>by
  have:=treeOf_of (P:=Tryz.prog) ((hX q hqn).trans gq) c58 rfl;simp only[seesA,seeA,lookA,this]
 have spl:∀a b:AV,List.take 8 (workC root L a)++b::List.drop 9 (workC root L a)=workC root L b:=fun a b=>rfl;(repeat with_reducible refine aA ?_);(first | with_reducible refine aw_block ?_ | with_reducible refine aw_toS (aw_block ?_));(repeat with_reducible refine aA ?_);(first | with_reducible refine aR fun K' hK=> ?_ | with_reducible refine aS fun K' hK=> ?_);simp[s10,gW,gq];refine acall_inlK (first120 (p:=cutsV root L u) (R:=fun n=>cutR u n) (fun n=>way_cut hszu n) hul gW hWn hsx ?_ ?_)
 ·intro n X ny r hf hny hX hr hr1 hr2;obtain⟨hnl,hcv⟩:=firstN_some hf;have hds:dedS root L u=some (cutR u n):=(by unfold dedS;rw[hf]);obtain⟨hv2,hm2⟩:=dedS_some hds;have xW:=(hX W hWn).trans gW;have e1:¬r=W:=(by omega);simp[thenK];(first | refine hK _ _ _ ?_ | done);clear K' hK;(repeat with_reducible refine aA ?_);(first | with_reducible refine aR fun K' hK=> ?_ | with_reducible refine aS fun K' hK=> ?_);simp;(first | refine hK _ _ _ ?_ | done);clear K' hK;repeat with_reducible refine aA ?_
  (first | with_reducible refine aC fun A B hA hB=> ?_ | with_reducible refine aD fun A B hA hB=> ?_)
  simp;refine⟨fun hc=>hA ?_,fun hc=>hB ?_⟩<;>clear hA hB A B<;>(try (simp at hc;done))<;>(try (exfalso;simp at hc;omega))<;>clear hc<;>(try with_reducible refine aK ?_);(repeat with_reducible refine aA ?_);(first | with_reducible refine aR fun K' hK=> ?_ | with_reducible refine aS fun K' hK=> ?_);simp;(first | refine hK _ _ _ ?_ | done);clear K' hK;repeat with_reducible refine aA ?_
  (first | with_reducible refine aC fun A B hA hB=> ?_ | with_reducible refine aD fun A B hA hB=> ?_)
  simp;refine⟨fun hc=>hA ?_,fun hc=>hB ?_⟩<;>clear hA hB A B<;>(try (simp at hc;done))<;>(try (exfalso;simp at hc;omega))<;>clear hc<;>(try with_reducible refine aK ?_);(repeat with_reducible refine aA ?_);(first | with_reducible refine aR fun K' hK=> ?_ | with_reducible refine aS fun K' hK=> ?_);simp[s10,xW,spl];(first | refine hK _ _ _ ?_ | done);clear K' hK;(first | with_reducible refine aw_skipL ?_ | skip);refine blockK_normal ?_;refine aw_skipL (loopK_less _ hm2 ?_);exact⟨by simp[s10],cutR u n,r,by simp,by simp[e1,hr],by omega,hr2,cut_sz hszu,hv2,(dedT_some hds).symm.trans hdt,rfl⟩
 ·intro X ny r hf hny hX;have xW:=(hX W hWn).trans gW;have xq:=(hX q hqn).trans gq;have hsx2:∀(n:Int) (Y:Hp),(∀k,k<ny→Y k=X k)→seesA Tryz.prog Y [.row q u.length,iV n]=some [rowT Pl.cells u,iV n]:=fun n Y hY=>hsx n Y fun k hk=>(hY k (by omega)).trans (hX k hk);simp[thenK];(first | refine hK _ _ _ ?_ | done);clear K' hK;(repeat with_reducible refine aA ?_);(first | with_reducible refine aR fun K' hK=> ?_ | with_reducible refine aS fun K' hK=> ?_);simp;(first | refine hK _ _ _ ?_ | done);clear K' hK;repeat with_reducible refine aA ?_
  (first | with_reducible refine aC fun A B hA hB=> ?_ | with_reducible refine aD fun A B hA hB=> ?_)
  simp;refine⟨fun hc=>hA ?_,fun hc=>hB ?_⟩<;>clear hA hB A B<;>(try (simp at hc;done))<;>(try (exfalso;simp at hc;omega))<;>clear hc<;>(try with_reducible refine aK ?_);(repeat with_reducible refine aA ?_);(first | with_reducible refine aR fun K' hK=> ?_ | with_reducible refine aS fun K' hK=> ?_);simp[s10,xW,xq];refine acall_inlK (first120 (p:=liftsV root L u) (R:=fun n=>liftR u n) (fun n=>way_lift hszu n) hul xW (by omega) hsx2 ?_ ?_)
  ·intro n Y nz r2 hf2 hnz hY hr hr1 hr2;have hds:dedS root L u=some (liftR u n):=(by unfold dedS;rw[hf,hf2]);obtain⟨hv2,hm2⟩:=dedS_some hds;have yW:=(hY W (by omega)).trans xW;have e1:¬r2=W:=(by omega);simp[thenK];(first | refine hK _ _ _ ?_ | done);clear K' hK;(repeat with_reducible refine aA ?_);(first | with_reducible refine aR fun K' hK=> ?_ | with_reducible refine aS fun K' hK=> ?_);simp;(first | refine hK _ _ _ ?_ | done);clear K' hK;repeat with_reducible refine aA ?_
   (first | with_reducible refine aC fun A B hA hB=> ?_ | with_reducible refine aD fun A B hA hB=> ?_)
   simp;refine⟨fun hc=>hA ?_,fun hc=>hB ?_⟩<;>clear hA hB A B<;>(try (simp at hc;done))<;>(try (exfalso;simp at hc;omega))<;>clear hc<;>(try with_reducible refine aK ?_);(repeat with_reducible refine aA ?_);(first | with_reducible refine aR fun K' hK=> ?_ | with_reducible refine aS fun K' hK=> ?_);simp[s10,yW,spl];(first | refine hK _ _ _ ?_ | done);clear K' hK;(first | with_reducible refine aw_skipL ?_ | skip);refine blockK_normal ?_;refine aw_skipL (loopK_less _ hm2 ?_);exact⟨by simp[s10],liftR u n,r2,by simp,by simp[e1,hr],by omega,hr2,lift_sz hszu,hv2,(dedT_some hds).symm.trans hdt,rfl⟩
  ·intro Y nz r2 hf2 hnz hY;have hds:dedS root L u=none:=(by unfold dedS;rw[hf,hf2]);have yW:=(hY W (by omega)).trans xW;have yq:=(hY q (by omega)).trans xq;have hfin:dedT root L t=u:=(by rw[←hdt];exact dedT_none hds);simp[thenK];(first | refine hK _ _ _ ?_ | done);clear K' hK;(repeat with_reducible refine aA ?_);(first | with_reducible refine aR fun K' hK=> ?_ | with_reducible refine aS fun K' hK=> ?_);simp;(first | refine hK _ _ _ ?_ | done);clear K' hK;repeat with_reducible refine aA ?_
   (first | with_reducible refine aC fun A B hA hB=> ?_ | with_reducible refine aD fun A B hA hB=> ?_)
   simp;refine⟨fun hc=>hA ?_,fun hc=>hB ?_⟩<;>clear hA hB A B<;>(try (simp at hc;done))<;>(try (exfalso;simp at hc;omega))<;>clear hc<;>(try with_reducible refine aK ?_);(repeat with_reducible refine aA ?_);(first | with_reducible refine aR fun K' hK=> ?_ | with_reducible refine aS fun K' hK=> ?_);simp[s10,yW];(first | refine hK _ _ _ ?_ | done);clear K' hK;(repeat with_reducible refine aA ?_);(first | with_reducible refine aw_ret ?_ | with_reducible refine aw_retL ?_ | with_reducible refine aw_skipL ?_);simp[blockK,loopK,Post,resA,res1,expT,expA,exp1,expM,expL,okT,okA,ok1,rowOf,Tryz.f66,yq,hfin]
set_option maxRecDepth 100000
set_option maxHeartbeats 4000000
theorem cutsV_zero {root:Man} {L:List Man} {t:List Pl} :cutsV root L t 0=false:=by
 have:¬cutCode t (0:Nat)=0:=fun h=>by
  have:=(cutCode_inv h).2.1;omega
 have h2:¬cutCode t 0=0:=this;simp[cutsV,h2]
theorem liftsV_zero {root:Man} {L:List Man} {t:List Pl} :liftsV root L t 0=false:=by
 have:¬liftCode t (0:Nat)=0:=fun h=>by
  have:=(lift_iff.1 h).2.one;simp at this
 have h2:¬liftCode t 0=0:=this;simp[liftsV,h2]
def nextR (root:Man) (L:List Man) (t:List Pl):AV×Js:=match dedS root L t with
 | some u=>(.tup [.row 0 u.length,bV true],[(58,flat Pl.cells u)])
 | none=>(.tup [rowT Pl.cells t,bV false],[])
theorem next121_ok (root:Man) (L:List Man) (t:List Pl) (hsz:ValSz root L t) (hv:validN root L t=true):CallsOK Tryz.prog 121 [.agg root.cells,rowT Man.cells L,rowT Pl.cells t] (nextR root L t).1 (nextR root L t).2:=by
 have g:Good t:=check_iff.1 (codeV_zero.1 (valid_iff.1 hv).1).2.2;have htl:=g.le;have hC:=fun n:Nat=>cuts62_ok root L t n hsz;have hF:=fun n:Nat=>lifts64_ok root L t n hsz;have eC:∀n:Nat,(validN root L t&&cutsZ root L t n)=cutsV root L t n:=fun n=>(by rw[hv];rfl);have eF:∀n:Nat,(validN root L t&&liftsZ root L t n)=liftsV root L t n:=fun n=>(by rw[hv];rfl);simp only[eC]at hC;simp only[eF]at hF;refine callsOK mixed Tryz.call121 Tryz.func121 rfl (by rw[Tryz.ntmps121];simp) ?_ ?_
 ·rw[Tryz.ntmps121];(repeat with_reducible refine aA ?_);(first | with_reducible refine aR fun K' hK=> ?_ | with_reducible refine aS fun K' hK=> ?_);simp;(first | refine hK _ _ _ ?_ | done);clear K' hK;(repeat with_reducible refine aA ?_);(first | with_reducible refine aR fun K' hK=> ?_ | with_reducible refine aS fun K' hK=> ?_);simp;(first | refine hK _ _ _ ?_ | done);clear K' hK;(repeat with_reducible refine aA ?_);(first | with_reducible refine aw_block ?_ | with_reducible refine aw_toS (aw_block ?_));refine aw_loop (fun s G nx=>s 1=rowT Man.cells L∧s 2=rowT Pl.cells t∧s 3=.ptr 0 0∧G 0=some (.var 27 root.cells)∧∃i:Nat,s 8=iV i∧1≤i∧i≤t.length∧∀j,j<i→cutsV root L t j=false) (fun s _ _=>match s 8 with | .v (.int _ n)=>t.length-n.toNat | _=>0) ?_ ?_
  ·exact⟨by simp,by simp,by simp,by simp,1,by simp,by omega,g.pos,fun j hj=>by
    have:j=0:=(by omega);subst this;exact cutsV_zero⟩
  rintro s G nx hf ⟨s1,s2,s3,g0,i,s8,hi1,hi,hno⟩;have hw:IntKind.i64.wrap (↑i+1)=((i+1:Nat):Int):=wrapS (by omega);(repeat with_reducible refine aA ?_);(first | with_reducible refine aR fun K' hK=> ?_ | with_reducible refine aS fun K' hK=> ?_);simp[s2,s8];(first | refine hK _ _ _ ?_ | done);clear K' hK;(repeat with_reducible refine aA ?_);(first | with_reducible refine aC fun A B hA hB=> ?_ | with_reducible refine aD fun A B hA hB=> ?_);simp;refine⟨fun hi2=>hA ?_,fun hi2=>hB ?_⟩<;>clear hA hB A B<;>(try simp at hi2)<;>(try with_reducible refine aK ?_)
  ·(repeat with_reducible refine aA ?_);(first | with_reducible refine aw_block ?_ | with_reducible refine aw_toS (aw_block ?_));(repeat with_reducible refine aA ?_);(first | with_reducible refine aR fun K' hK=> ?_ | with_reducible refine aS fun K' hK=> ?_);simp[s1,s2,s3,s8,g0];refine acall_flat (hC i) rfl (by first | rfl | (simp;done) | (simp;rfl) | (simp;exact⟨rfl,rfl⟩)) ?_;simp;(first | refine hK _ _ _ ?_ | done);clear K' hK;cases hb:cutsV root L t i with
   | true=>
    have hfi:firstN t.length (cutsV root L t)=some i:=firstN_is hb hno hi2;have hcc:cutCode t (i:Nat)=0:=by
     simp only[cutsV,Bool.and_eq_true,decide_eq_true_eq]at hb;exact hb.1
    have hcr:cutR t (i:Nat)=cutT t i t.length:=(by unfold cutR;rw[if_pos hcc]);have hds:nextR root L t=(.tup [.row 0 (cutT t i t.length).length,bV true],[(58,flat Pl.cells (cutT t i t.length))]):=by
     unfold nextR dedS;rw[hfi];simp only[hcr]
    rw[hds];repeat with_reducible refine aA ?_
    (first | with_reducible refine aC fun A B hA hB=> ?_ | with_reducible refine aD fun A B hA hB=> ?_)
    simp;refine⟨fun hc=>hA ?_,fun hc=>hB ?_⟩<;>clear hA hB A B<;>(try (simp at hc;done))<;>(try (exfalso;simp at hc;omega))<;>clear hc<;>(try with_reducible refine aK ?_);(repeat with_reducible refine aA ?_);(first | with_reducible refine aR fun K' hK=> ?_ | with_reducible refine aS fun K' hK=> ?_);simp[s2,s8];refine acall_new (without41_ok t g hsz.2.2.2.2.1 i hi1 hi2) (by first | rfl | (simp;done) | (simp;rfl) | (simp;exact⟨rfl,rfl⟩)) ?_;simp[addJ_one];(first | refine hK _ _ _ ?_ | done);clear K' hK;(repeat with_reducible refine aA ?_);(first | with_reducible refine aw_ret ?_ | with_reducible refine aw_retL ?_ | with_reducible refine aw_skipL ?_);simp[blockK,loopK,Post,resA,res1,expT,expA,exp1,expM,expL,okT,okA,ok1,rowOf,Tryz.f121]
   | false=>
    repeat with_reducible refine aA ?_
    (first | with_reducible refine aC fun A B hA hB=> ?_ | with_reducible refine aD fun A B hA hB=> ?_)
    simp;refine⟨fun hc=>hA ?_,fun hc=>hB ?_⟩<;>clear hA hB A B<;>(try (simp at hc;done))<;>(try (exfalso;simp at hc;omega))<;>clear hc<;>(try with_reducible refine aK ?_);(first | with_reducible refine aw_skipL ?_ | skip);refine blockK_normal ?_;(repeat with_reducible refine aA ?_);(first | with_reducible refine aR fun K' hK=> ?_ | with_reducible refine aS fun K' hK=> ?_);simp[s8,hw];(first | refine hK _ _ _ ?_ | done);clear K' hK;refine aw_skipL (loopK_normal ?_ ?_)
    ·exact⟨by simp[s1],by simp[s2],by simp[s3],by simp[g0],i+1,by simp[hw],by omega,by omega,fun j hj=>by
      rcases Nat.lt_or_ge j i with h | h
      ·exact hno j h
      ·have:j=i:=(by omega);subst this;exact hb⟩
    ·simp[s8,hw];omega
  ·(repeat with_reducible refine aA ?_);(first | with_reducible refine aw_exit ?_ | with_reducible refine aw_exitL ?_);refine loopK_exit (blockK_exit ?_);have hie:i=t.length:=(by omega);subst hie;have hfn:firstN t.length (cutsV root L t)=none:=firstN_no hno;(repeat with_reducible refine aA ?_);(first | with_reducible refine aR fun K' hK=> ?_ | with_reducible refine aS fun K' hK=> ?_);simp;(first | refine hK _ _ _ ?_ | done);clear K' hK;(repeat with_reducible refine aA ?_);(first | with_reducible refine aw_block ?_ | with_reducible refine aw_toS (aw_block ?_));refine aw_loop (fun s G nx=>s 1=rowT Man.cells L∧s 2=rowT Pl.cells t∧s 3=.ptr 0 0∧G 0=some (.var 27 root.cells)∧∃i:Nat,s 9=iV i∧1≤i∧i≤t.length∧∀j,j<i→liftsV root L t j=false) (fun s _ _=>match s 9 with | .v (.int _ n)=>t.length-n.toNat | _=>0) ?_ ?_
   ·exact⟨by simp[s1],by simp[s2],by simp[s3],g0,1,by simp,by omega,g.pos,fun j hj=>by
     have:j=0:=(by omega);subst this;exact liftsV_zero⟩
   clear s1 s2 s3 g0 s8 hf hno hi1 hi hw;rintro s G nx hf ⟨s1,s2,s3,g0,i,s9,hi1,hi,hno⟩;have hw:IntKind.i64.wrap (↑i+1)=((i+1:Nat):Int):=wrapS (by omega);(repeat with_reducible refine aA ?_);(first | with_reducible refine aR fun K' hK=> ?_ | with_reducible refine aS fun K' hK=> ?_);simp[s2,s9];(first | refine hK _ _ _ ?_ | done);clear K' hK;(repeat with_reducible refine aA ?_);(first | with_reducible refine aC fun A B hA hB=> ?_ | with_reducible refine aD fun A B hA hB=> ?_);simp;refine⟨fun hi2=>hA ?_,fun hi2=>hB ?_⟩<;>clear hA hB A B<;>(try simp at hi2)<;>(try with_reducible refine aK ?_)
   ·(repeat with_reducible refine aA ?_);(first | with_reducible refine aw_block ?_ | with_reducible refine aw_toS (aw_block ?_));(repeat with_reducible refine aA ?_);(first | with_reducible refine aR fun K' hK=> ?_ | with_reducible refine aS fun K' hK=> ?_);simp[s1,s2,s3,s9,g0];refine acall_flat (hF i) rfl (by first | rfl | (simp;done) | (simp;rfl) | (simp;exact⟨rfl,rfl⟩)) ?_;simp;(first | refine hK _ _ _ ?_ | done);clear K' hK;cases hb:liftsV root L t i with
    | true=>
     have hfi:firstN t.length (liftsV root L t)=some i:=firstN_is hb hno hi2;have hds:nextR root L t=(.tup [.row 0 (liftR t i).length,bV true],[(58,flat Pl.cells (liftR t i))]):=by
      unfold nextR dedS;rw[hfn];simp only[hfi]
     rw[hds];repeat with_reducible refine aA ?_
     (first | with_reducible refine aC fun A B hA hB=> ?_ | with_reducible refine aD fun A B hA hB=> ?_)
     simp;refine⟨fun hc=>hA ?_,fun hc=>hB ?_⟩<;>clear hA hB A B<;>(try (simp at hc;done))<;>(try (exfalso;simp at hc;omega))<;>clear hc<;>(try with_reducible refine aK ?_);(repeat with_reducible refine aA ?_);(first | with_reducible refine aR fun K' hK=> ?_ | with_reducible refine aS fun K' hK=> ?_);simp[s2,s9];refine acall_new (lift60_ok t hsz.2.2.2.2.1 i) (by first | rfl | (simp;done) | (simp;rfl) | (simp;exact⟨rfl,rfl⟩)) ?_;simp[addJ_one];(first | refine hK _ _ _ ?_ | done);clear K' hK;(repeat with_reducible refine aA ?_);(first | with_reducible refine aR fun K' hK=> ?_ | with_reducible refine aS fun K' hK=> ?_);simp;(first | refine hK _ _ _ ?_ | done);clear K' hK;(repeat with_reducible refine aA ?_);(first | with_reducible refine aw_ret ?_ | with_reducible refine aw_retL ?_ | with_reducible refine aw_skipL ?_);simp[blockK,loopK,Post,resA,res1,expT,expA,exp1,expM,expL,okT,okA,ok1,rowOf,Tryz.f121]
    | false=>
     repeat with_reducible refine aA ?_
     (first | with_reducible refine aC fun A B hA hB=> ?_ | with_reducible refine aD fun A B hA hB=> ?_)
     simp;refine⟨fun hc=>hA ?_,fun hc=>hB ?_⟩<;>clear hA hB A B<;>(try (simp at hc;done))<;>(try (exfalso;simp at hc;omega))<;>clear hc<;>(try with_reducible refine aK ?_);(first | with_reducible refine aw_skipL ?_ | skip);refine blockK_normal ?_;(repeat with_reducible refine aA ?_);(first | with_reducible refine aR fun K' hK=> ?_ | with_reducible refine aS fun K' hK=> ?_);simp[s9,hw];(first | refine hK _ _ _ ?_ | done);clear K' hK;refine aw_skipL (loopK_normal ?_ ?_)
     ·exact⟨by simp[s1],by simp[s2],by simp[s3],by simp[g0],i+1,by simp[hw],by omega,by omega,fun j hj=>by
       rcases Nat.lt_or_ge j i with h | h
       ·exact hno j h
       ·have:j=i:=(by omega);subst this;exact hb⟩
     ·simp[s9,hw];omega
   ·(repeat with_reducible refine aA ?_);(first | with_reducible refine aw_exit ?_ | with_reducible refine aw_exitL ?_);refine loopK_exit (blockK_exit ?_);have hie:i=t.length:=(by omega);subst hie;have hfl:firstN t.length (liftsV root L t)=none:=firstN_no hno;have hds:nextR root L t=(.tup [rowT Pl.cells t,bV false],[]):=by
     unfold nextR dedS;rw[hfn,hfl]
    rw[hds];(repeat with_reducible refine aA ?_);(first | with_reducible refine aR fun K' hK=> ?_ | with_reducible refine aS fun K' hK=> ?_);simp[s2];(first | refine hK _ _ _ ?_ | done);clear K' hK;(repeat with_reducible refine aA ?_);(first | with_reducible refine aw_ret ?_ | with_reducible refine aw_retL ?_ | with_reducible refine aw_skipL ?_);simp[blockK,loopK,Post,resA,res1,expT,expA,exp1,expM,expL,okT,okA,ok1,rowOf,Tryz.f121];exact⟨rfl,rfl⟩
 ·unfold nextR;cases dedS root L t<;>rfl
theorem ded_step {root:Man} {L:List Man} {t u:List Pl} (h:ValSz root L t) (hd:dedS root L t=some u):ValSz root L u:=by
 unfold dedS at hd;split at hd
 ·injection hd with hd;subst hd;exact cut_sz h
 ·split at hd
  ·injection hd with hd;subst hd;exact lift_sz h
  ·cases hd
def NowT (nx:Nat) (G:Hp) (x:AV) (u:List Pl):Prop:=x=rowT Pl.cells u∨∃q,x=.row q u.length∧q<nx∧G q=some (.row 58 (flat Pl.cells u))
def dedO (root:Man) (L:List Man) (t:List Pl):AV×Js:=if dedCode root L t=0 then(.tup [rowT Pl.cells (dedT root L t),iV 0],[])else(.tup [.row 0 0,iV (dedCode root L t)],[(58,flat Pl.cells ([]:List Pl))])
theorem dedupe67_ok (root:Man) (L:List Man) (t:List Pl) (hsz:ValSz root L t):CallsOK Tryz.prog 67 [.agg root.cells,rowT Man.cells L,rowT Pl.cells t] (dedO root L t).1 (dedO root L t).2:=by
 have htl:=hsz.2.2.2.2.1.1;have c58:Tryz.prog.cellsOf 58=6:=(by kernel_rfl);refine callsOK mixed Tryz.call67 Tryz.func67 rfl (by rw[Tryz.ntmps67];simp) ?_ ?_
 ·rw[Tryz.ntmps67];(repeat with_reducible refine aA ?_);(first | with_reducible refine aR fun K' hK=> ?_ | with_reducible refine aS fun K' hK=> ?_);simp;(first | refine hK _ _ _ ?_ | done);clear K' hK;(repeat with_reducible refine aA ?_);(first | with_reducible refine aR fun K' hK=> ?_ | with_reducible refine aS fun K' hK=> ?_);simp;refine acall_new (wrong36_ok root L t hsz) (by first | rfl | (simp;done) | (simp;rfl) | (simp;exact⟨rfl,rfl⟩)) ?_;simp[addJ_one];(first | refine hK _ _ _ ?_ | done);clear K' hK;have hwO:wrongO root L t=if codeV root L t=0 then wrongL root L t else[]:=rfl;by_cases c0:codeV root L t=0
  ·rw[if_pos c0]at hwO;rw[hwO];(repeat with_reducible refine aA ?_);(first | with_reducible refine aR fun K' hK=> ?_ | with_reducible refine aS fun K' hK=> ?_);simp[c0];(first | refine hK _ _ _ ?_ | done);clear K' hK;repeat with_reducible refine aA ?_
   (first | with_reducible refine aC fun A B hA hB=> ?_ | with_reducible refine aD fun A B hA hB=> ?_)
   simp;refine⟨fun hc=>hA ?_,fun hc=>hB ?_⟩<;>clear hA hB A B<;>(try (simp at hc;done))<;>(try (exfalso;simp at hc;omega))<;>clear hc<;>(try with_reducible refine aK ?_);by_cases c1:wrongL root L t=[]
   ·have hc:dedCode root L t=0:=(by unfold dedCode;rw[if_neg (by simp[c0]),if_pos c1]);have hv:=dedCode_zero.1 hc;have hO:dedO root L t=(.tup [rowT Pl.cells (dedT root L t),iV 0],[]):=(by unfold dedO;rw[if_pos hc]);rw[hO,c1];(repeat with_reducible refine aA ?_);(first | with_reducible refine aR fun K' hK=> ?_ | with_reducible refine aS fun K' hK=> ?_);simp;(first | refine hK _ _ _ ?_ | done);clear K' hK;repeat with_reducible refine aA ?_
    (first | with_reducible refine aC fun A B hA hB=> ?_ | with_reducible refine aD fun A B hA hB=> ?_)
    simp;refine⟨fun hc=>hA ?_,fun hc=>hB ?_⟩<;>clear hA hB A B<;>(try (simp at hc;done))<;>(try (exfalso;simp at hc;omega))<;>clear hc<;>(try with_reducible refine aK ?_);(repeat with_reducible refine aA ?_);(first | with_reducible refine aR fun K' hK=> ?_ | with_reducible refine aS fun K' hK=> ?_);simp;refine acall_new (own11_ok t (by omega)) (by first | rfl | (simp;done) | (simp;rfl) | (simp;exact⟨rfl,rfl⟩)) ?_;simp[addJ_one];(first | refine hK _ _ _ ?_ | done);clear K' hK;(repeat with_reducible refine aA ?_);(first | with_reducible refine aR fun K' hK=> ?_ | with_reducible refine aS fun K' hK=> ?_);simp;(first | refine hK _ _ _ ?_ | done);clear K' hK;(repeat with_reducible refine aA ?_);(first | with_reducible refine aw_block ?_ | with_reducible refine aw_toS (aw_block ?_));refine aw_loopM (fun m s G nx=>s 1=rowT Man.cells L∧s 3=.ptr 0 0∧G 0=some (.var 27 root.cells)∧0<nx∧∃(u:List Pl) (more:Bool),s 11=bV more∧(if more=true then NowT nx G (s 10) u else s 10=rowT Pl.cells u)∧ValSz root L u∧(more=true→validN root L u=true∧dedT root L u=dedT root L t)∧(more=false→u=dedT root L t)∧m=2*mT u+if more=true then 1 else 0) (2*mT t+1) ?_ ?_
    ·exact⟨by simp,by simp,by simp,by omega,t,true,by simp,.inr ⟨_,by simp;rfl,by omega,by simp⟩,hsz,fun _=>⟨hv,rfl⟩,nofun,rfl⟩
    rintro m s G nx-⟨s1,s3,g0,hnx,u,more,s11,hnow,hszu,hm1,hm2,rfl⟩;have e0:¬0=nx:=(by omega);cases more with
    | false=>
     have h10:s 10=rowT Pl.cells u:=(by simpa using hnow);rw[←hm2 rfl];(repeat with_reducible refine aA ?_);(first | with_reducible refine aR fun K' hK=> ?_ | with_reducible refine aS fun K' hK=> ?_);simp[s11];(first | refine hK _ _ _ ?_ | done);clear K' hK;repeat with_reducible refine aA ?_
     (first | with_reducible refine aC fun A B hA hB=> ?_ | with_reducible refine aD fun A B hA hB=> ?_)
     simp;refine⟨fun hc=>hA ?_,fun hc=>hB ?_⟩<;>clear hA hB A B<;>(try (simp at hc;done))<;>(try (exfalso;simp at hc;omega))<;>clear hc<;>(try with_reducible refine aK ?_);(repeat with_reducible refine aA ?_);(first | with_reducible refine aw_exit ?_ | with_reducible refine aw_exitL ?_);refine loopK_exit (blockK_exit ?_);(repeat with_reducible refine aA ?_);(first | with_reducible refine aR fun K' hK=> ?_ | with_reducible refine aS fun K' hK=> ?_);simp[h10];(first | refine hK _ _ _ ?_ | done);clear K' hK;(repeat with_reducible refine aA ?_);(first | with_reducible refine aw_ret ?_ | with_reducible refine aw_retL ?_ | with_reducible refine aw_skipL ?_);simp[blockK,loopK,Post,resA,res1,expT,expA,exp1,expM,expL,okT,okA,ok1,rowOf,Tryz.f67];exact⟨rfl,rfl⟩
    | true=>
     have hnow:NowT nx G (s 10) u:=(by simpa using hnow);obtain⟨hvu,hdt⟩:=hm1 rfl;have hN:=next121_ok root L u hszu hvu;unfold nextR at hN;(repeat with_reducible refine aA ?_);(first | with_reducible refine aR fun K' hK=> ?_ | with_reducible refine aS fun K' hK=> ?_);simp[s11];(first | refine hK _ _ _ ?_ | done);clear K' hK;repeat with_reducible refine aA ?_
     (first | with_reducible refine aC fun A B hA hB=> ?_ | with_reducible refine aD fun A B hA hB=> ?_)
     simp;refine⟨fun hc=>hA ?_,fun hc=>hB ?_⟩<;>clear hA hB A B<;>(try (simp at hc;done))<;>(try (exfalso;simp at hc;omega))<;>clear hc<;>(try with_reducible refine aK ?_);(repeat with_reducible refine aA ?_);(first | with_reducible refine aw_block ?_ | with_reducible refine aw_toS (aw_block ?_));rcases hnow with h10 | ⟨q,h10,hq,gq⟩
     ·cases hds:dedS root L u with
      | some u2=>
       rw[hds]at hN;obtain⟨hv2,hm2⟩:=dedS_some hds;(repeat with_reducible refine aA ?_);(first | with_reducible refine aR fun K' hK=> ?_ | with_reducible refine aS fun K' hK=> ?_);simp[s1,s3,h10,g0];refine acall_new hN (by first | rfl | (simp;done) | (simp;rfl) | (simp;exact⟨rfl,rfl⟩)) ?_;simp[addJ_one];(first | refine hK _ _ _ ?_ | done);clear K' hK;(repeat with_reducible refine aA ?_);(first | with_reducible refine aR fun K' hK=> ?_ | with_reducible refine aS fun K' hK=> ?_);simp;(first | refine hK _ _ _ ?_ | done);clear K' hK;(repeat with_reducible refine aA ?_);(first | with_reducible refine aR fun K' hK=> ?_ | with_reducible refine aS fun K' hK=> ?_);simp;(first | refine hK _ _ _ ?_ | done);clear K' hK;(first | with_reducible refine aw_skipL ?_ | skip);refine blockK_normal ?_;refine aw_skipL (loopK_less (2*mT u2+1) (by rw[if_pos rfl];omega) ?_);exact⟨by simp[s1],by simp[s3],by simp[e0,g0],by omega,u2,true,by simp,.inr ⟨nx,by simp,by omega,by simp⟩,ded_step hszu hds,fun _=>⟨hv2,(dedT_some hds).symm.trans hdt⟩,nofun,rfl⟩
      | none=>
       rw[hds]at hN;(repeat with_reducible refine aA ?_);(first | with_reducible refine aR fun K' hK=> ?_ | with_reducible refine aS fun K' hK=> ?_);simp[s1,s3,h10,g0];refine acall_new hN (by first | rfl | (simp;done) | (simp;rfl) | (simp;exact⟨rfl,rfl⟩)) ?_;simp[addJ_nil];(first | refine hK _ _ _ ?_ | done);clear K' hK;(repeat with_reducible refine aA ?_);(first | with_reducible refine aR fun K' hK=> ?_ | with_reducible refine aS fun K' hK=> ?_);simp;(first | refine hK _ _ _ ?_ | done);clear K' hK;(repeat with_reducible refine aA ?_);(first | with_reducible refine aR fun K' hK=> ?_ | with_reducible refine aS fun K' hK=> ?_);simp;(first | refine hK _ _ _ ?_ | done);clear K' hK;(first | with_reducible refine aw_skipL ?_ | skip);refine blockK_normal ?_;refine aw_skipL (loopK_less (2*mT u) (by rw[if_pos rfl];omega) ?_);exact⟨by simp[s1],by simp[s3],g0,by omega,u,false,by simp,by simp;rfl,hszu,nofun,fun _=>by rw[←hdt];exact(dedT_none hds).symm,rfl⟩
     ·have hT:treeOf Tryz.prog G (.row q u.length)=some (rowT Pl.cells u):=treeOf_of gq c58 rfl;have eq0:¬0=q:=fun e=>(by subst e;rw[g0]at gq;cases gq);cases hds:dedS root L u with
      | some u2=>
       rw[hds]at hN;obtain⟨hv2,hm2⟩:=dedS_some hds;(repeat with_reducible refine aA ?_);(first | with_reducible refine aR fun K' hK=> ?_ | with_reducible refine aS fun K' hK=> ?_);simp[s1,s3,h10,g0];refine acall_new hN (by first | rfl | (simp[hT];done) | (simp[hT];rfl) | (simp[hT];exact⟨rfl,rfl⟩)) ?_;simp[addJ_one,hT];(first | refine hK _ _ _ ?_ | done);clear K' hK;(repeat with_reducible refine aA ?_);(first | with_reducible refine aR fun K' hK=> ?_ | with_reducible refine aS fun K' hK=> ?_);simp;(first | refine hK _ _ _ ?_ | done);clear K' hK;(repeat with_reducible refine aA ?_);(first | with_reducible refine aR fun K' hK=> ?_ | with_reducible refine aS fun K' hK=> ?_);simp;(first | refine hK _ _ _ ?_ | done);clear K' hK;(first | with_reducible refine aw_skipL ?_ | skip);refine blockK_normal ?_;refine aw_skipL (loopK_less (2*mT u2+1) (by rw[if_pos rfl];omega) ?_);exact⟨by simp[s1],by simp[s3],by simp[e0,eq0,g0],by omega,u2,true,by simp,.inr ⟨nx,by simp,by omega,by simp⟩,ded_step hszu hds,fun _=>⟨hv2,(dedT_some hds).symm.trans hdt⟩,nofun,rfl⟩
      | none=>
       rw[hds]at hN;(repeat with_reducible refine aA ?_);(first | with_reducible refine aR fun K' hK=> ?_ | with_reducible refine aS fun K' hK=> ?_);simp[s1,s3,h10,g0];refine acall_new hN (by first | rfl | (simp[hT];done) | (simp[hT];rfl) | (simp[hT];exact⟨rfl,rfl⟩)) ?_;simp[addJ_nil,hT];(first | refine hK _ _ _ ?_ | done);clear K' hK;(repeat with_reducible refine aA ?_);(first | with_reducible refine aR fun K' hK=> ?_ | with_reducible refine aS fun K' hK=> ?_);simp;(first | refine hK _ _ _ ?_ | done);clear K' hK;(repeat with_reducible refine aA ?_);(first | with_reducible refine aR fun K' hK=> ?_ | with_reducible refine aS fun K' hK=> ?_);simp;(first | refine hK _ _ _ ?_ | done);clear K' hK;(first | with_reducible refine aw_skipL ?_ | skip);refine blockK_normal ?_;refine aw_skipL (loopK_less (2*mT u) (by rw[if_pos rfl];omega) ?_);exact⟨by simp[s1],by simp[s3],by simp[eq0,g0],by omega,u,false,by simp,by simp;rfl,hszu,nofun,fun _=>by rw[←hdt];exact(dedT_none hds).symm,rfl⟩
   ·have hc:dedCode root L t=1:=(by unfold dedCode;rw[if_neg (by simp[c0]),if_neg c1]);have hO:dedO root L t=(.tup [.row 0 0,iV 1],[(58,flat Pl.cells ([]:List Pl))]):=(by unfold dedO;rw[hc];rfl);have hposN:=List.length_pos_iff.2 c1;have hpos:(0:Int)<(wrongL root L t).length:=(by omega);rw[hO];(repeat with_reducible refine aA ?_);(first | with_reducible refine aR fun K' hK=> ?_ | with_reducible refine aS fun K' hK=> ?_);simp[hposN,hpos];(first | refine hK _ _ _ ?_ | done);clear K' hK;repeat with_reducible refine aA ?_
    (first | with_reducible refine aC fun A B hA hB=> ?_ | with_reducible refine aD fun A B hA hB=> ?_)
    simp;refine⟨fun hc=>hA ?_,fun hc=>hB ?_⟩<;>clear hA hB A B<;>(try (simp at hc;done))<;>(try (exfalso;simp at hc;omega))<;>clear hc<;>(try with_reducible refine aK ?_);(repeat with_reducible refine aA ?_);(first | with_reducible refine aR fun K' hK=> ?_ | with_reducible refine aS fun K' hK=> ?_);simp;(first | refine hK _ _ _ ?_ | done);clear K' hK;(repeat with_reducible refine aA ?_);(first | with_reducible refine aw_ret ?_ | with_reducible refine aw_retL ?_ | with_reducible refine aw_skipL ?_);simp[blockK,loopK,Post,resA,res1,expT,expA,exp1,expM,expL,okT,okA,ok1,rowOf,Tryz.f67]
  ·have hc:dedCode root L t=codeV root L t:=(by unfold dedCode;rw[if_pos c0]);have hO:dedO root L t=(.tup [.row 0 0,iV (codeV root L t)],[(58,flat Pl.cells ([]:List Pl))]):=(by unfold dedO;rw[if_neg (by rw[hc];exact c0),hc]);rw[hO];(repeat with_reducible refine aA ?_);(first | with_reducible refine aR fun K' hK=> ?_ | with_reducible refine aS fun K' hK=> ?_);simp[c0];(first | refine hK _ _ _ ?_ | done);clear K' hK;repeat with_reducible refine aA ?_
   (first | with_reducible refine aC fun A B hA hB=> ?_ | with_reducible refine aD fun A B hA hB=> ?_)
   simp;refine⟨fun hc=>hA ?_,fun hc=>hB ?_⟩<;>clear hA hB A B<;>(try (simp at hc;done))<;>(try (exfalso;simp at hc;omega))<;>clear hc<;>(try with_reducible refine aK ?_);(repeat with_reducible refine aA ?_);(first | with_reducible refine aR fun K' hK=> ?_ | with_reducible refine aS fun K' hK=> ?_);simp;(first | refine hK _ _ _ ?_ | done);clear K' hK;(repeat with_reducible refine aA ?_);(first | with_reducible refine aw_ret ?_ | with_reducible refine aw_retL ?_ | with_reducible refine aw_skipL ?_);simp[blockK,loopK,Post,resA,res1,expT,expA,exp1,expM,expL,okT,okA,ok1,rowOf,Tryz.f67]
 ·unfold dedO;split<;>rfl
set_option maxRecDepth 100000
set_option maxHeartbeats 4000000
def lsX:List Man:=[⟨nA,v1,[⟨1,nB,freeR⟩],[]⟩,⟨nB,v1,[],[]⟩]
def lsW:List Pl:=[rootP,⟨0,nA,v1⟩,⟨0,nB,v1⟩]
def lsD:List Pl:=[rootP,⟨0,nA,v1⟩,⟨1,nB,v1⟩]
def lsA:List Pl:=[rootP,⟨0,nA,v1⟩]
def lsB:List Pl:=[rootP,⟨0,nB,v1⟩]
theorem ls_codes:codeV prRoot lsX lsW=0∧codeV prRoot lsX lsD=0∧codeV prRoot lsX prT=0∧codeV prRoot lsX lsA=0∧codeV prRoot lsX lsB=0∧codeV prRoot lsX [rootP]=0:=by decide+kernel
theorem ls_big:bigI lsX=false∧bigT lsW=false∧bigT lsD=false∧bigT [rootP]=false:=by decide+kernel
theorem ls_o0:ofF prRoot.deps prRoot.rules true=prRoot.deps:=of_small (S:=[nA]) (by decide+kernel) (by decide+kernel) (by decide+kernel)
theorem ls_oa:ofF [⟨1,nB,freeR⟩] prRoot.rules false=[⟨1,nB,freeR⟩]:=of_small (S:=[nB]) (by decide+kernel) (by decide+kernel) (by decide+kernel)
theorem ls_ob:ofF [] prRoot.rules false=[]:=of_small (S:=[]) (by decide+kernel) (by decide+kernel) (by decide+kernel)
theorem ls_f0 {t:List Pl} (h:holdsF t 0=true):fineV prRoot lsX t 0=prRoot.deps.all (holdsV t 0):=fine_at (m:=prRoot) (by rw[manVal,if_pos h,if_pos rfl]) ls_o0
theorem ls_fa {t:List Pl} {i:Int} (h:manVal prRoot lsX t i=some ⟨nA,v1,[⟨1,nB,freeR⟩],[]⟩) (hi:decide (i=0)=false):fineV prRoot lsX t i=[(⟨1,nB,freeR⟩:Dep)].all (holdsV t i):=fine_at h (by rw[hi];exact ls_oa)
theorem ls_fb {t:List Pl} {i:Int} (h:manVal prRoot lsX t i=some ⟨nB,v1,[],[]⟩) (hi:decide (i=0)=false):fineV prRoot lsX t i=true:=fine_at (E:=[]) h (by rw[hi];exact ls_ob)
theorem ls_w {t:List Pl} {bl W:List Int} (hb:belowL t 0=bl) (h:(bl.filter fun i=> !fineV prRoot lsX t i)=W):wrongL prRoot lsX t=W:=by rw[wrongL,hb,h]
theorem ls_wW:wrongL prRoot lsX lsW=[]:=by
 have f0:fineV prRoot lsX lsW 0=true:=(ls_f0 (by decide+kernel)).trans (by decide+kernel);have f1:fineV prRoot lsX lsW 1=true:=(ls_fa (by decide+kernel) (by decide)).trans (by decide+kernel);have f2:fineV prRoot lsX lsW 2=true:=ls_fb (by decide+kernel) (by decide);exact ls_w (bl:=[0,1,2]) (by decide+kernel) (by simp[f0,f1,f2])
theorem ls_wD:wrongL prRoot lsX lsD=[]:=by
 have f0:fineV prRoot lsX lsD 0=true:=(ls_f0 (by decide+kernel)).trans (by decide+kernel);have f1:fineV prRoot lsX lsD 1=true:=(ls_fa (by decide+kernel) (by decide)).trans (by decide+kernel);have f2:fineV prRoot lsX lsD 2=true:=ls_fb (by decide+kernel) (by decide);exact ls_w (bl:=[0,1,2]) (by decide+kernel) (by simp[f0,f1,f2])
theorem ls_wT:wrongL prRoot lsX prT=[]:=by
 have f0:fineV prRoot lsX prT 0=true:=(ls_f0 (by decide+kernel)).trans (by decide+kernel);have f1:fineV prRoot lsX prT 1=true:=(ls_fa (by decide+kernel) (by decide)).trans (by decide+kernel);have f2:fineV prRoot lsX prT 2=true:=ls_fb (by decide+kernel) (by decide);have f3:fineV prRoot lsX prT 3=true:=ls_fb (by decide+kernel) (by decide);exact ls_w (bl:=[0,1,2,3]) (by decide+kernel) (by simp[f0,f1,f2,f3])
theorem ls_wA:wrongL prRoot lsX lsA=[1]:=by
 have f0:fineV prRoot lsX lsA 0=true:=(ls_f0 (by decide+kernel)).trans (by decide+kernel);have f1:fineV prRoot lsX lsA 1=false:=(ls_fa (by decide+kernel) (by decide)).trans (by decide+kernel);exact ls_w (bl:=[0,1]) (by decide+kernel) (by simp[f0,f1])
theorem ls_wB:wrongL prRoot lsX lsB=[0]:=by
 have f0:fineV prRoot lsX lsB 0=false:=(ls_f0 (by decide+kernel)).trans (by decide+kernel);have f1:fineV prRoot lsX lsB 1=true:=ls_fb (by decide+kernel) (by decide);exact ls_w (bl:=[0,1]) (by decide+kernel) (by simp[f0,f1])
theorem ls_w0:wrongL prRoot lsX [rootP]=[0]:=by
 have f0:fineV prRoot lsX [rootP] 0=false:=(ls_f0 (by decide+kernel)).trans (by decide+kernel);exact ls_w (bl:=[0]) (by decide+kernel) (by simp[f0])
theorem ls_v:validN prRoot lsX lsW=true∧validN prRoot lsX lsD=true∧validN prRoot lsX prT=true∧validN prRoot lsX lsA=false∧validN prRoot lsX lsB=false∧validN prRoot lsX [rootP]=false:=by
 obtain⟨c1,c2,c3,c4,c5,c6⟩:=ls_codes;simp only[validN,c1,c2,c3,c4,c5,c6,ls_wW,ls_wD,ls_wT,ls_wA,ls_wB,ls_w0];decide
theorem ls_cut:(cutCode lsW 0≠0∧cutR lsW 1=lsB∧cutR lsW 2=lsA)∧(cutCode lsD 0≠0∧cutR lsD 1=[rootP]∧cutR lsD 2=lsA)∧cutCode prT 0≠0∧cutR prT 1=lsB∧cutCode prT 2=0∧cutR prT 2=lsD:=by decide+kernel
theorem ls_lift:(liftCode lsW 0≠0∧liftCode lsW 1≠0∧liftCode lsW 2≠0)∧(liftCode lsD 0≠0∧liftCode lsD 1≠0∧liftCode lsD 2=0∧liftR lsD 2=lsW)∧liftCode prT 3=152∧liftCode prT 1=151:=by decide+kernel
theorem find3 {p:Nat→Bool} :firstN 3 p=if p 0=true then some 0 else if p 1=true then some 1 else if p 2=true then some 2 else none:=by
 show List.find? p [0,1,2]=_;simp only[List.find?_cons,List.find?_nil];cases p 0<;>cases p 1<;>cases p 2<;>rfl
theorem find4 {p:Nat→Bool} :firstN 4 p=if p 0=true then some 0 else if p 1=true then some 1 else if p 2=true then some 2 else if p 3=true then some 3 else none:=by
 show List.find? p [0,1,2,3]=_;simp only[List.find?_cons,List.find?_nil];cases p 0<;>cases p 1<;>cases p 2<;>cases p 3<;>rfl
theorem ls_sW:dedS prRoot lsX lsW=none:=by
 obtain⟨⟨a,b,c⟩,_⟩:=ls_cut;obtain⟨⟨d,e,f⟩,_⟩:=ls_lift;obtain⟨_,_,_,v4,v5,_⟩:=ls_v;have c0:cutsV prRoot lsX lsW 0=false:=(by simp[cutsV,a]);have c1:cutsV prRoot lsX lsW 1=false:=(by simp[cutsV,b,v5]);have c2:cutsV prRoot lsX lsW 2=false:=(by simp[cutsV,c,v4]);have l0:liftsV prRoot lsX lsW 0=false:=(by simp[liftsV,d]);have l1:liftsV prRoot lsX lsW 1=false:=(by simp[liftsV,e]);have l2:liftsV prRoot lsX lsW 2=false:=(by simp[liftsV,f]);have hl:lsW.length=3:=rfl;unfold dedS;rw[hl,find3,find3];simp[c0,c1,c2,l0,l1,l2]
theorem ls_sD:dedS prRoot lsX lsD=some lsW:=by
 obtain⟨_,⟨a,b,c⟩,_⟩:=ls_cut;obtain⟨_,⟨d,e,f,g⟩,_⟩:=ls_lift;obtain⟨v1,_,_,v4,_,v6⟩:=ls_v;have c0:cutsV prRoot lsX lsD 0=false:=(by simp[cutsV,a]);have c1:cutsV prRoot lsX lsD 1=false:=(by simp[cutsV,b,v6]);have c2:cutsV prRoot lsX lsD 2=false:=(by simp[cutsV,c,v4]);have l0:liftsV prRoot lsX lsD 0=false:=(by simp[liftsV,d]);have l1:liftsV prRoot lsX lsD 1=false:=(by simp[liftsV,e]);have l2:liftsV prRoot lsX lsD 2=true:=(by simp[liftsV,f,g,v1]);have hl:lsD.length=3:=rfl;unfold dedS;rw[hl,find3,find3];simp[c0,c1,c2,l0,l1,l2,g]
theorem ls_sT:dedS prRoot lsX prT=some lsD:=by
 obtain⟨_,_,a,b,c,d⟩:=ls_cut;obtain⟨_,v2,_,_,v5,_⟩:=ls_v;have c0:cutsV prRoot lsX prT 0=false:=(by simp[cutsV,a]);have c1:cutsV prRoot lsX prT 1=false:=(by simp[cutsV,b,v5]);have c2:cutsV prRoot lsX prT 2=true:=(by simp[cutsV,c,d,v2]);have hl:prT.length=4:=rfl;unfold dedS;rw[hl,find4];simp[c0,c1,c2,d]
theorem ls_ded:dedCode prRoot lsX lsD=0∧dedR prRoot lsX lsD=lsW∧dedCode prRoot lsX prT=0∧dedR prRoot lsX prT=lsW∧dedCode prRoot lsX [rootP]=1∧dedR prRoot lsX [rootP]=[]:=by
 obtain⟨_,v2,v3,_,_,_⟩:=ls_v;have d1:=dedCode_zero.2 v2;have d2:=dedCode_zero.2 v3;have tW:dedT prRoot lsX lsW=lsW:=dedT_none ls_sW;have tD:dedT prRoot lsX lsD=lsW:=(dedT_some ls_sD).trans tW;have tT:dedT prRoot lsX prT=lsW:=(dedT_some ls_sT).trans tD;have d3:dedCode prRoot lsX [rootP]=1:=by
  unfold dedCode;rw[if_neg (by simp[ls_codes.2.2.2.2.2]),if_neg (by rw[ls_w0];simp)]
 refine⟨d1,by unfold dedR;rw[if_pos d1,tD],d2,by unfold dedR;rw[if_pos d2,tT],d3,by unfold dedR;rw[d3];rfl⟩
theorem ls_ways:(validN prRoot lsX prT&&cutsZ prRoot lsX prT 2)=true∧(validN prRoot lsX lsD&&cutsZ prRoot lsX lsD 2)=false∧(validN prRoot lsX lsD&&liftsZ prRoot lsX lsD 2)=true:=by
 obtain⟨v1,v2,v3,v4,_,_⟩:=ls_v;obtain⟨_,⟨_,_,e⟩,_,_,c,d⟩:=ls_cut;obtain⟨_,⟨_,_,f,g⟩,_⟩:=ls_lift;refine⟨by simp[v3,cutsZ,c,d,v2],by simp[cutsZ,e,v4],by simp[v2,liftsZ,f,g,v1]⟩
set_option maxRecDepth 100000
set_option maxHeartbeats 4000000
theorem ls_flat_x:flat Man.cells lsX=[sV nA,iV 1,iV 0,iV 0,sV ⟨#[]⟩,.sl 1 [iV 1,sV nB,.sl 1 [.sl 0 []]],.sl 0 [],sV nB,iV 1,iV 0,iV 0,sV ⟨#[]⟩,.sl 0 [],.sl 0 []]:=rfl
theorem small119_ok:CallsOK Tryz.prog 119 [] (.tup [.agg (prB 0),.row 1 2]) [(35,flat Dep.cells prRoot.deps),(27,flat Man.cells lsX)]:=by
 refine CallsOK.weakJs (J:=[(35,[iV 1,sV nA,.sl 1 [.v (.slice none 0 0)]]),(27,[sV nA,iV 1,iV 0,iV 0,sV ⟨#[]⟩,.sl 1 [iV 1,sV nB,.sl 1 [.v (.slice none 0 0)]],.v (.slice none 0 0),sV nB,iV 1,iV 0,iV 0,sV ⟨#[]⟩,.v (.slice none 0 0),.v (.slice none 0 0)])]) ?_ rfl ?_
 ·refine callsOK mixed Tryz.call119 Tryz.func119 rfl (by rw[Tryz.ntmps119];simp) ?_ rfl;rw[Tryz.ntmps119];(repeat with_reducible refine aA ?_);(first | with_reducible refine aR fun K' hK=> ?_ | with_reducible refine aS fun K' hK=> ?_);simp;(first | refine hK _ _ _ ?_ | done);clear K' hK;(repeat with_reducible refine aA ?_);(first | with_reducible refine aR fun K' hK=> ?_ | with_reducible refine aS fun K' hK=> ?_);simp;(first | refine hK _ _ _ ?_ | done);clear K' hK;(repeat with_reducible refine aA ?_);(first | with_reducible refine aR fun K' hK=> ?_ | with_reducible refine aS fun K' hK=> ?_);simp;(first | refine hK _ _ _ ?_ | done);clear K' hK;(repeat with_reducible refine aA ?_);(first | with_reducible refine aR fun K' hK=> ?_ | with_reducible refine aS fun K' hK=> ?_);simp;(first | refine hK _ _ _ ?_ | done);clear K' hK;(repeat with_reducible refine aA ?_);(first | refine aw_regionL (some 0) [4,2,3] (by decide+kernel) (by decide+kernel) (fun p' hp'=>by cases hp';exact⟨0,0,by simp,by simp[rootA]⟩) fun K' hK=> ?_ | refine aw_toS (aw_regionL (some 0) [4,2,3] (by decide+kernel) (by decide+kernel) (fun p' hp'=>by cases hp';exact⟨0,0,by simp,by simp[rootA]⟩) fun K' hK=> ?_));simp;(first | refine hK _ _ _ ?_ | done);clear K' hK;(repeat with_reducible refine aA ?_);(first | with_reducible refine aw_ret ?_ | with_reducible refine aw_retL ?_ | with_reducible refine aw_skipL ?_);simp[blockK,loopK,Post,resA,res1,expT,expA,exp1,expM,expL,okT,okA,ok1,rowOf,Tryz.f119];exact⟨[5,8],⟨rfl,rfl⟩,by simp[prB],rfl⟩
 ·intro i e cs h
  match i with
  | 0=>
   simp at h;obtain⟨rfl,rfl⟩:=h;rw[pr_flat_d];exact⟨_,rfl,.cons (.refl _) (.cons (.refl _) (.cons (.sl (.cons .nil .nil)) .nil))⟩
  | 1=>
   simp at h;obtain⟨rfl,rfl⟩:=h;rw[ls_flat_x];exact⟨_,rfl,.cons (.refl _) (.cons (.refl _) (.cons (.refl _) (.cons (.refl _) (.cons (.refl _) (.cons (.sl (.cons (.refl _) (.cons (.refl _) (.cons (.sl (.cons .nil .nil)) .nil)))) (.cons .nil (.cons (.refl _) (.cons (.refl _) (.cons (.refl _) (.cons (.refl _) (.cons (.refl _) (.cons .nil (.cons .nil .nil)))))))))))))⟩
  | i+2=>simp at h
def lsA0:List AV:=prA
theorem lessens65_ok:CallsOK Tryz.prog 65 [] (bV true) []:=by
 refine callsOK mixed Tryz.call65 Tryz.func65 rfl (by rw[Tryz.ntmps65];simp) ?_ rfl;rw[Tryz.ntmps65];have c35:Tryz.prog.cellsOf 35=3:=(by kernel_rfl);have c27:Tryz.prog.cellsOf 27=7:=(by kernel_rfl);have c58:Tryz.prog.cellsOf 58=6:=(by kernel_rfl);have szD:ValSz prRoot lsX lsD:=valSz_of pr_big.1 ls_big.1 ls_big.2.2.1;have szT:ValSz prRoot lsX prT:=valSz_of pr_big.1 ls_big.1 pr_big.2.2;have sz0:ValSz prRoot lsX [rootP]:=valSz_of pr_big.1 ls_big.1 ls_big.2.2.2;obtain⟨d1,d2,d3,d4,d5,d6⟩:=ls_ded;obtain⟨w1,w2,w3⟩:=ls_ways;obtain⟨_,⟨_,_,l1,l2⟩,l3,l4⟩:=ls_lift;have hD:=dedupe66_ok _ _ _ szD;rw[d1,d2]at hD;have hD:=hD.weak (.cons wk_pr (.cons (.refl _) (.cons (.refl _) .nil)));have hT:=dedupe66_ok _ _ _ szT;rw[d3,d4]at hT;have hT:=hT.weak (.cons wk_pr (.cons (.refl _) (.cons (.refl _) .nil)));have h0:=dedupe66_ok _ _ _ sz0;rw[d5,d6]at h0;have h0:=h0.weak (.cons wk_pr (.cons (.refl _) (.cons (.refl _) .nil)));have hL1:=lift59_ok lsD szD.2.2.2.2.1 2;rw[l1,l2]at hL1;have hL2:=lift59_ok prT szT.2.2.2.2.1 3;rw[show liftR prT 3=[] from by unfold liftR;rw[l3];rfl,l3]at hL2;have hL3:=lift59_ok prT szT.2.2.2.2.1 1;rw[show liftR prT 1=[] from by unfold liftR;rw[l4];rfl,l4]at hL3;have hC1:=cuts61_ok _ _ _ 2 szT;rw[w1]at hC1;have hC1:=hC1.weak (.cons wk_pr (.cons (.refl _) (.cons (.refl _) (.cons (.refl _) .nil))));have hC2:=cuts61_ok _ _ _ 2 szD;rw[w2]at hC2;have hC2:=hC2.weak (.cons wk_pr (.cons (.refl _) (.cons (.refl _) (.cons (.refl _) .nil))));have hC3:=lifts63_ok _ _ _ 2 szD;rw[w3]at hC3;have hC3:=hC3.weak (.cons wk_pr (.cons (.refl _) (.cons (.refl _) (.cons (.refl _) .nil))));have hS:=pr_same lsW (by decide);clear d1 d2 d3 d4 d5 d6 w1 w2 w3 l1 l2 l3 l4 szD szT sz0;have r3:[0,1,2]=List.range 3:=rfl;have r4:[0,1,2,3]=List.range 4:=rfl;(repeat with_reducible refine aA ?_);(first | with_reducible refine aR fun K' hK=> ?_ | with_reducible refine aS fun K' hK=> ?_);simp;(first | refine hK _ _ _ ?_ | done);clear K' hK;(repeat with_reducible refine aA ?_);(first | with_reducible refine aR fun K' hK=> ?_ | with_reducible refine aS fun K' hK=> ?_);simp;refine acall_new small119_ok (by simp) ?_;simp[addJ_two];(first | refine hK _ _ _ ?_ | done);clear K' hK;(repeat with_reducible refine aA ?_);(first | with_reducible refine aR fun K' hK=> ?_ | with_reducible refine aS fun K' hK=> ?_);simp;(first | refine hK _ _ _ ?_ | done);clear K' hK;(repeat with_reducible refine aA ?_);(first | with_reducible refine aR fun K' hK=> ?_ | with_reducible refine aS fun K' hK=> ?_);simp[r3];(first | refine hK _ _ _ ?_ | done);clear K' hK;(repeat with_reducible refine aA ?_);(first | with_reducible refine aR fun K' hK=> ?_ | with_reducible refine aS fun K' hK=> ?_);simp[r3];(first | refine hK _ _ _ ?_ | done);clear K' hK;(repeat with_reducible refine aA ?_);(first | with_reducible refine aR fun K' hK=> ?_ | with_reducible refine aS fun K' hK=> ?_);simp[r4];(first | refine hK _ _ _ ?_ | done);clear K' hK;refine aw_gen (fun u X nz=>u 1=.ptr 2 0∧u 2=.row 1 2∧u 4=.row 4 3∧u 5=.row 5 3∧u 6=.row 6 4∧nz=7∧X 0=some (.row 35 (flat Dep.cells prRoot.deps))∧X 1=some (.row 27 (flat Man.cells lsX))∧X 2=some (.var 27 (prB 0))∧X 4=some (.row 58 (flat Pl.cells lsW))∧X 5=some (.row 58 (flat Pl.cells lsD))∧X 6=some (.row 58 (flat Pl.cells prT))) ?_ ?_
 ·exact⟨by simp,by simp,by simp,by simp,by simp,by simp,by simp,by simp,by simp;rfl,by simp;rfl,by simp;rfl,by simp;rfl⟩
 rintro s G nx ⟨s1,s2,s4,s5,s6,rfl,g0,g1,g2,g4,g5,g6⟩;have tr:∀(X:Hp) (i:Nat) (l:List Pl),X i=some (.row 58 (flat Pl.cells l))→treeOf Tryz.prog X (.row i l.length)=some (rowT Pl.cells l):=fun X i l h=>treeOf_of h c58 rfl;have T:∀(X:Hp),(∀k,k<7→X k=G k)→seesA Tryz.prog X [.agg (prB 0),.row 1 2]=some [.agg prA,rowT Man.cells lsX]:=fun X hX=>by
  have t0:treeOf Tryz.prog X (.row 0 1)=some (rowT Dep.cells prRoot.deps):=treeOf_of ((hX 0 (by omega)).trans g0) c35 rfl;have t1:treeOf Tryz.prog X (.row 1 2)=some (rowT Man.cells lsX):=treeOf_of ((hX 1 (by omega)).trans g1) c27 rfl;simp only[seesA,seeA,prB,looksA,lookA,t0,t1];rfl
 have T3:∀(X:Hp) (x y:AV),(∀k,k<7→X k=G k)→seesA Tryz.prog X [x]=some [y]→seesA Tryz.prog X [.agg (prB 0),.row 1 2,x]=some [.agg prA,rowT Man.cells lsX,y]:=fun X x y hX hx=>by
  have h1:=T X hX;simp only[seesA]at h1 hx⊢
  revert h1 hx
  cases seeA Tryz.prog X (.agg (prB 0))<;>cases seeA Tryz.prog X (.row 1 2)<;>cases seeA Tryz.prog X x<;>simp;intro a b c;exact⟨b,c,a⟩
 have T4:∀(X:Hp) (x y:AV) (n:Int),(∀k,k<7→X k=G k)→seesA Tryz.prog X [x]=some [y]→seesA Tryz.prog X [.agg (prB 0),.row 1 2,x,iV n]=some [.agg prA,rowT Man.cells lsX,y,iV n]:=fun X x y n hX hx=>by
  have h1:=T X hX;simp only[seesA]at h1 hx⊢
  revert h1 hx
  cases seeA Tryz.prog X (.agg (prB 0))<;>cases seeA Tryz.prog X (.row 1 2)<;>cases seeA Tryz.prog X x<;>simp;intro a b c;exact⟨b,c,a⟩
 have S1:∀(X:Hp) (i:Nat) (l:List Pl),X i=some (.row 58 (flat Pl.cells l))→seesA Tryz.prog X [.row i l.length]=some [rowT Pl.cells l]:=fun X i l h=>(by simp only[seesA,seeA,lookA,tr X i l h]);have S2:∀(X:Hp) (i:Nat) (l:List Pl) (n:Int),X i=some (.row 58 (flat Pl.cells l))→seesA Tryz.prog X [.row i l.length,iV n]=some [rowT Pl.cells l,iV n]:=fun X i l n h=>(by simp only[seesA,seeA,lookA,tr X i l h]);have SS:∀(X:Hp) (i j:Nat) (l m:List Pl),X i=some (.row 58 (flat Pl.cells l))→X j=some (.row 58 (flat Pl.cells m))→seesA Tryz.prog X [.row i l.length,.row j m.length]=some [rowT Pl.cells l,rowT Pl.cells m]:=fun X i j l m h k=>(by simp only[seesA,seeA,lookA,tr X i l h,tr X j m k]);(repeat with_reducible refine aA ?_);(first | with_reducible refine aR fun K' hK=> ?_ | with_reducible refine aS fun K' hK=> ?_);simp[s1,s2,s5,g2];refine acall_keep hD ⟨rfl,rfl⟩ (T3 G _ _ (fun _ _=>rfl) (S1 G 5 lsD g5)) ?_;simp[addJ_one];(first | refine hK _ _ _ ?_ | done);clear K' hK;(repeat with_reducible refine aA ?_);(first | with_reducible refine aR fun K' hK=> ?_ | with_reducible refine aS fun K' hK=> ?_);simp[s1,s2,s6,g2];refine acall_keep hT ⟨rfl,rfl⟩ (T3 _ _ _ (fun k hk=>by rw[Hp.upd_ne _ _ (by omega)]) (S1 _ 6 prT (by simp[g6]))) ?_;simp[addJ_one];(first | refine hK _ _ _ ?_ | done);clear K' hK;(repeat with_reducible refine aA ?_);(first | with_reducible refine aR fun K' hK=> ?_ | with_reducible refine aS fun K' hK=> ?_);simp[s5];refine acall_keep hL1 ⟨rfl,rfl⟩ (S2 _ 5 lsD 2 (by simp[g5])) ?_;simp[addJ_one];(first | refine hK _ _ _ ?_ | done);clear K' hK;(repeat with_reducible refine aA ?_);(first | with_reducible refine aR fun K' hK=> ?_ | with_reducible refine aS fun K' hK=> ?_);simp[s6];refine acall_keep hL2 ⟨rfl,rfl⟩ (S2 _ 6 prT 3 (by simp[g6])) ?_;simp[addJ_one];(first | refine hK _ _ _ ?_ | done);clear K' hK;(repeat with_reducible refine aA ?_);(first | with_reducible refine aR fun K' hK=> ?_ | with_reducible refine aS fun K' hK=> ?_);simp[s6];refine acall_keep hL3 ⟨rfl,rfl⟩ (S2 _ 6 prT 1 (by simp[g6])) ?_;simp[addJ_one];(first | refine hK _ _ _ ?_ | done);clear K' hK;refine aw_gen (fun u X nz=>u 1=.ptr 2 0∧u 2=.row 1 2∧u 4=.row 4 3∧u 5=.row 5 3∧u 6=.row 6 4∧u 7=.row 7 3∧u 8=iV 0∧u 9=.row 8 3∧u 10=iV 0∧u 11=.row 9 3∧u 12=iV 0∧u 14=iV 152∧u 16=iV 151∧nz=12∧(∀k,k<7→X k=G k)∧X 7=some (.row 58 (flat Pl.cells lsW))∧X 8=some (.row 58 (flat Pl.cells lsW))∧X 9=some (.row 58 (flat Pl.cells lsW))) ?_ ?_
 ·exact⟨by simp[s1],by simp[s2],by simp[s4],by simp[s5],by simp[s6],by simp;rfl,by simp,by simp;rfl,by simp,by simp;rfl,by simp,by simp,by simp,by simp,fun k hk=>by repeat rw[Hp.upd_ne _ _ (by omega)],by simp,by simp,by simp⟩
 clear s1 s2 s4 s5 s6 s;rintro s X nx ⟨s1,s2,s4,s5,s6,s7,s8,s9,s10,s11,s12,s14,s16,rfl,hX,x7,x8,x9⟩;have x2:X 2=some (.var 27 (prB 0)):=(hX 2 (by omega)).trans g2;(repeat with_reducible refine aA ?_);(first | with_reducible refine aQ fun K' hK=> ?_ | with_reducible refine aT fun K' hK=> ?_);simp[s1,s2,x2];refine acall_new new20_ok (by first | rfl | (simp;done) | (simp;rfl) | (simp;exact⟨rfl,rfl⟩)) ?_;simp[addJ_one,s1,s2,x2];refine acall_keep h0 ⟨rfl,rfl⟩ (T3 _ _ _ (fun k hk=>by rw[Hp.upd_ne _ _ (by omega)];exact hX k hk) (S1 _ 12 [rootP] (by simp))) ?_;simp[addJ_one];(first | refine hK _ _ _ ?_ | done);clear K' hK;refine aw_gen (fun u Y nz=>u 1=.ptr 2 0∧u 2=.row 1 2∧u 4=.row 4 3∧u 5=.row 5 3∧u 6=.row 6 4∧u 7=.row 7 3∧u 8=iV 0∧u 9=.row 8 3∧u 10=iV 0∧u 11=.row 9 3∧u 12=iV 0∧u 14=iV 152∧u 16=iV 151∧u 18=iV 1∧(∀k,k<7→Y k=G k)∧Y 7=some (.row 58 (flat Pl.cells lsW))∧Y 8=some (.row 58 (flat Pl.cells lsW))∧Y 9=some (.row 58 (flat Pl.cells lsW))) ?_ ?_
 ·exact⟨by simp[s1],by simp[s2],by simp[s4],by simp[s5],by simp[s6],by simp[s7],by simp[s8],by simp[s9],by simp[s10],by simp[s11],by simp[s12],by simp[s14],by simp[s16],by simp,fun k hk=>by rw[Hp.upd_ne _ _ (by omega),Hp.upd_ne _ _ (by omega)];exact hX k hk,by simp[x7],by simp[x8],by simp[x9]⟩
 clear s1 s2 s4 s5 s6 s7 s8 s9 s10 s11 s12 s14 s16 hX x7 x8 x9 x2;rintro s X nx ⟨s1,s2,s4,s5,s6,s7,s8,s9,s10,s11,s12,s14,s16,s18,hX,x7,x8,x9⟩;have x2:X 2=some (.var 27 (prB 0)):=(hX 2 (by omega)).trans g2;have x4:X 4=some (.row 58 (flat Pl.cells lsW)):=(hX 4 (by omega)).trans g4;have x5:X 5=some (.row 58 (flat Pl.cells lsD)):=(hX 5 (by omega)).trans g5;have x6:X 6=some (.row 58 (flat Pl.cells prT)):=(hX 6 (by omega)).trans g6;(repeat with_reducible refine aA ?_);(first | with_reducible refine aR fun K' hK=> ?_ | with_reducible refine aS fun K' hK=> ?_);refine aops_part 7 fun K2 hK2=> ?_;simp[s4,s7,s8];refine acall_flat hS rfl (SS X 7 4 lsW lsW x7 x4) ?_;simp;refine hK2 _ _ _ ?_;clear K2 hK2;refine aops_part 9 fun K2 hK2=> ?_;simp[s4,s9,s10];refine acall_flat hS rfl (SS X 8 4 lsW lsW x8 x4) ?_;simp;refine hK2 _ _ _ ?_;clear K2 hK2;refine aops_part 9 fun K2 hK2=> ?_;simp[s4,s11,s12];refine acall_flat hS rfl (SS X 9 4 lsW lsW x9 x4) ?_;simp;refine hK2 _ _ _ ?_;clear K2 hK2;refine aops_part 13 fun K2 hK2=> ?_;simp[s14,s16,s18,s1,x2];refine hK2 _ _ _ ?_;clear K2 hK2;refine aops_part 6 fun K2 hK2=> ?_;simp[s1,s2,s6,x2];refine acall_flat hC1 rfl (T4 X _ _ 2 hX (S1 X 6 prT x6)) ?_;simp;refine hK2 _ _ _ ?_;clear K2 hK2;refine aops_part 7 fun K2 hK2=> ?_;simp[s1,s2,s5,x2];refine acall_flat hC2 rfl (T4 X _ _ 2 hX (S1 X 5 lsD x5)) ?_;simp;refine hK2 _ _ _ ?_;clear K2 hK2;simp[s1,s2,s5,x2];refine acall_flat hC3 rfl (T4 X _ _ 2 hX (S1 X 5 lsD x5)) ?_;simp;(first | refine hK _ _ _ ?_ | done);clear K' hK;(repeat with_reducible refine aA ?_);(first | with_reducible refine aw_ret ?_ | with_reducible refine aw_retL ?_ | with_reducible refine aw_skipL ?_);simp[blockK,loopK,Post,resA,res1,expT,expA,exp1,expM,expL,okT,okA,ok1,rowOf,Tryz.f65]
set_option maxRecDepth 100000
set_option maxHeartbeats 4000000
def largeD (root:Man) (L:List Man) (t:List Pl):Bool:=bigW root L t || (decide (14<t.length)&&decide (t.length≤200))
theorem large58_ok (root:Man) (L:List Man) (t:List Pl) (hl:L.length≤9223372036854775807) (htl:t.length≤9223372036854775807):CallsOK Tryz.prog 58 [.agg root.cells,rowT Man.cells L,rowT Pl.cells t] (bV (largeD root L t)) []:=by
 refine callsOK mixed Tryz.call58 Tryz.func58 rfl (by rw[Tryz.ntmps58];simp) ?_ rfl;rw[Tryz.ntmps58];(repeat with_reducible refine aA ?_);(first | with_reducible refine aR fun K' hK=> ?_ | with_reducible refine aS fun K' hK=> ?_);simp;(first | refine hK _ _ _ ?_ | done);clear K' hK;(repeat with_reducible refine aA ?_);(first | with_reducible refine aR fun K' hK=> ?_ | with_reducible refine aS fun K' hK=> ?_);simp;refine acall_flat (big21_ok root L t hl htl) rfl (by first | rfl | (simp;done) | (simp;rfl) | (simp;exact⟨rfl,rfl⟩)) ?_;by_cases hb:bigW root L t=true
 ·simp[hb];(first | refine hK _ _ _ ?_ | done);clear K' hK;(repeat with_reducible refine aA ?_);(first | with_reducible refine aw_ret ?_ | with_reducible refine aw_retL ?_ | with_reducible refine aw_skipL ?_);simp[blockK,loopK,Post,resA,res1,expT,expA,exp1,expM,expL,okT,okA,ok1,rowOf,Tryz.f58,largeD,hb]
 have hb':bigW root L t=false:=(by simpa using hb);by_cases h14:(14:Int)<t.length
 ·have h14':14<t.length:=(by omega);simp[hb',h14];(first | refine hK _ _ _ ?_ | done);clear K' hK;(repeat with_reducible refine aA ?_);(first | with_reducible refine aw_ret ?_ | with_reducible refine aw_retL ?_ | with_reducible refine aw_skipL ?_);simp[blockK,loopK,Post,resA,res1,expT,expA,exp1,expM,expL,okT,okA,ok1,rowOf,Tryz.f58,largeD,hb',h14'];omega
 ·have h14':¬14<t.length:=(by omega);simp[hb',h14];(first | refine hK _ _ _ ?_ | done);clear K' hK;(repeat with_reducible refine aA ?_);(first | with_reducible refine aw_ret ?_ | with_reducible refine aw_retL ?_ | with_reducible refine aw_skipL ?_);simp[blockK,loopK,Post,resA,res1,expT,expA,exp1,expM,expL,okT,okA,ok1,rowOf,Tryz.f58,largeD,hb',h14']
theorem largeD_no {root:Man} {L:List Man} {t:List Pl} (h:largeD root L t=false):bigW root L t=false:=by
 unfold largeD at h;rw[Bool.or_eq_false_iff]at h;exact h.1
theorem ded_len (root:Man) (L:List Man):∀(k:Nat) (t:List Pl),(dedF root L k t).length≤t.length
 | 0,t=>Nat.le_refl _
 | k+1,t=>by
  rw[dedF];split
  ·exact Nat.le_refl _
  ·rename_i u h;refine Nat.le_trans (ded_len root L k u) ?_;unfold dedS at h;split at h
   ·injection h with h;subst h;exact cutR_len
   ·split at h
    ·injection h with h;subst h;exact liftR_len
    ·cases h
theorem dedF_mem (root:Man) (L:List Man):∀(k:Nat) (t:List Pl) {p:Pl},p∈dedF root L k t→∃q∈t,p.name=q.name∧p.ver=q.ver
 | 0,t,p,h=>⟨p,h,rfl,rfl⟩
 | k+1,t,p,h=>by
  rw[dedF]at h;split at h
  ·exact⟨p,h,rfl,rfl⟩
  ·rename_i u hu;obtain⟨q,hq,e1,e2⟩:=dedF_mem root L k u h;unfold dedS at hu;split at hu
   ·injection hu with hu;subst hu;obtain⟨r,hr,f1,f2⟩:=cut_mem hq;exact⟨r,hr,e1.trans f1,e2.trans f2⟩
   ·split at hu
    ·injection hu with hu;subst hu;obtain⟨r,hr,f1,f2⟩:=liftR_mem hq;exact⟨r,hr,e1.trans f1,e2.trans f2⟩
    ·cases hu
theorem ded_sz {root:Man} {L:List Man} {t:List Pl} (h:ValSz root L t):ValSz root L (dedR root L t):=by
 obtain⟨a,b,c,d,e,f⟩:=h;unfold dedR;split
 ·refine⟨a,b,c,d,⟨Nat.le_trans (ded_len root L _ t) e.1,fun p hp=> ?_⟩,fun p hp=> ?_⟩
  ·obtain⟨q,hq,e1,e2⟩:=dedF_mem root L _ t hp;rw[e1,e2];exact e.2 q hq
  ·obtain⟨q,hq,e1,e2⟩:=dedF_mem root L _ t hp;rw[e2];exact f q hq
 ·exact⟨a,b,c,d,⟨by simp,by simp⟩,by simp⟩
set_option maxRecDepth 100000
set_option maxHeartbeats 4000000
theorem are14_ok (hLs:CallsOK Tryz.prog 65 [] (bV true) []) (root:Man) (L:List Man) (t:List Pl) (n:Int) (hl:L.length≤9223372036854775807) (htl:t.length≤9223372036854775807):CallsOK Tryz.prog 14 [.agg root.cells,rowT Man.cells L,rowT Pl.cells t,iV n] (bV true) []:=by
 refine callsOK mixed Tryz.call14 Tryz.func14 rfl (by rw[Tryz.ntmps14];simp) ?_ rfl;rw[Tryz.ntmps14];(repeat with_reducible refine aA ?_);(first | with_reducible refine aR fun K' hK=> ?_ | with_reducible refine aS fun K' hK=> ?_);simp;(first | refine hK _ _ _ ?_ | done);clear K' hK;(repeat with_reducible refine aA ?_);(first | with_reducible refine aR fun K' hK=> ?_ | with_reducible refine aS fun K' hK=> ?_);simp;refine acall_flat (large58_ok root L t hl htl) rfl (by first | rfl | (simp;done) | (simp;rfl) | (simp;exact⟨rfl,rfl⟩)) ?_;by_cases hb:largeD root L t=true
 ·simp[hb];(first | refine hK _ _ _ ?_ | done);clear K' hK;repeat with_reducible refine aA ?_
  (first | with_reducible refine aC fun A B hA hB=> ?_ | with_reducible refine aD fun A B hA hB=> ?_)
  simp;refine⟨fun hc=>hA ?_,fun hc=>hB ?_⟩<;>clear hA hB A B<;>(try (simp at hc;done))<;>(try (exfalso;simp at hc;omega))<;>clear hc<;>(try with_reducible refine aK ?_);(repeat with_reducible refine aA ?_);(first | with_reducible refine aR fun K' hK=> ?_ | with_reducible refine aS fun K' hK=> ?_);simp;(first | refine hK _ _ _ ?_ | done);clear K' hK;(repeat with_reducible refine aA ?_);(first | with_reducible refine aw_ret ?_ | with_reducible refine aw_retL ?_ | with_reducible refine aw_skipL ?_);simp[blockK,loopK,Post,resA,res1,expT,expA,exp1,expM,expL,okT,okA,ok1,rowOf,Tryz.f14]
 have hb':largeD root L t=false:=(by simpa using hb);obtain⟨b1,b2,b3⟩:=bigW_sz (largeD_no hb');have hsz:ValSz root L t:=valSz_of b1 b2 b3;have htl2:=(bigT_len b3).1;have c58:Tryz.prog.cellsOf 58=6:=(by kernel_rfl);have hU:=lift59_ok t hsz.2.2.2.2.1 n;have hU2:=lift60_ok t hsz.2.2.2.2.1 n;have hC:=cuts61_ok root L t n hsz;have hC2:=cuts62_ok root L t n hsz;have hF:=lifts63_ok root L t n hsz;have hF2:=lifts64_ok root L t n hsz;have hvl:=liftR_len (t:=t) (n:=n);generalize (validN root L t&&cutsZ root L t n)=bc at*;generalize (validN root L t&&liftsZ root L t n)=bf at*;generalize liftR t n=v at*;generalize liftCode t n=c at*;simp[hb'];(first | refine hK _ _ _ ?_ | done);clear K' hK;repeat with_reducible refine aA ?_
 (first | with_reducible refine aC fun A B hA hB=> ?_ | with_reducible refine aD fun A B hA hB=> ?_)
 simp;refine⟨fun hc=>hA ?_,fun hc=>hB ?_⟩<;>clear hA hB A B<;>(try (simp at hc;done))<;>(try (exfalso;simp at hc;omega))<;>clear hc<;>(try with_reducible refine aK ?_);(repeat with_reducible refine aA ?_);(first | with_reducible refine aR fun K' hK=> ?_ | with_reducible refine aS fun K' hK=> ?_);simp;refine acall_new (own11_ok t (by omega)) (by first | rfl | (simp;done) | (simp;rfl) | (simp;exact⟨rfl,rfl⟩)) ?_;simp[addJ_one];(first | refine hK _ _ _ ?_ | done);clear K' hK;(repeat with_reducible refine aA ?_);(first | with_reducible refine aR fun K' hK=> ?_ | with_reducible refine aS fun K' hK=> ?_);simp;refine acall_new hU (by first | rfl | (simp;done) | (simp;rfl) | (simp;exact⟨rfl,rfl⟩)) ?_;simp[addJ_one];(first | refine hK _ _ _ ?_ | done);clear K' hK;refine aw_gen (fun u X nz=>u 1=rowT Man.cells L∧u 2=rowT Pl.cells t∧u 3=iV n∧u 4=.ptr 0 0∧u 9=.row 1 t.length∧u 10=.row 2 v.length∧u 11=iV c∧nz=3∧X 0=some (.var 27 root.cells)∧X 1=some (.row 58 (flat Pl.cells t))∧X 2=some (.row 58 (flat Pl.cells v))) ?_ ?_
 ·exact⟨by simp,by simp,by simp,by simp,by simp,by simp,by simp,by simp,by simp,by simp,by simp⟩
 rintro s G nx ⟨s1,s2,s3,s4,s9,s10,s11,rfl,g0,g1,g2⟩;have t1:∀X:Hp,X 1=G 1→treeOf Tryz.prog X (.row 1 t.length)=some (rowT Pl.cells t):=fun X h=>treeOf_of (h.trans g1) c58 rfl;have tv:∀(X:Hp) i,X i=some (.row 58 (flat Pl.cells v))→treeOf Tryz.prog X (.row i v.length)=some (rowT Pl.cells v):=fun X i h=>treeOf_of h c58 rfl;have q1:seesA Tryz.prog G [.row 1 t.length,iV n]=some [rowT Pl.cells t,iV n]:=(by simp only[seesA,seeA,lookA,t1 G rfl]);(repeat with_reducible refine aA ?_);(first | with_reducible refine aR fun K' hK=> ?_ | with_reducible refine aS fun K' hK=> ?_);simp[s3,s9];refine acall_keep hU2 ⟨rfl,pl_J _ _⟩ q1 ?_;simp[addJ_one];(first | refine hK _ _ _ ?_ | done);clear K' hK;refine aw_gen (fun u X nz=>u 1=rowT Man.cells L∧u 2=rowT Pl.cells t∧u 3=iV n∧u 4=.ptr 0 0∧u 9=.row 1 t.length∧u 10=.row 2 v.length∧u 11=iV c∧u 12=.row 3 v.length∧u 13=iV c∧X 0=some (.var 27 root.cells)∧X 1=G 1∧X 2=some (.row 58 (flat Pl.cells v))∧X 3=some (.row 58 (flat Pl.cells v))) ?_ ?_
 ·exact⟨by simp[s1],by simp[s2],by simp[s3],by simp[s4],by simp[s9],by simp[s10],by simp[s11],by simp,by simp,by simp[g0],by simp,by simp[g2],by simp⟩
 clear s1 s2 s3 s4 s9 s10 s11 q1;rintro s X nx ⟨s1,s2,s3,s4,s9,s10,s11,s12,s13,x0,x1,x2,x3⟩;have q2:seesA Tryz.prog X [.row 2 v.length,.row 3 v.length]=some [rowT Pl.cells v,rowT Pl.cells v]:=(by simp only[seesA,seeA,lookA,tv X 2 x2,tv X 3 x3]);have q3:seesA Tryz.prog X [.agg root.cells,rowT Man.cells L,.row 1 t.length,iV n]=some [.agg root.cells,rowT Man.cells L,rowT Pl.cells t,iV n]:=by
  simp only[seesA,seeA,lookA,t1 X x1];rfl
 (repeat with_reducible refine aA ?_);(first | with_reducible refine aQ fun K' hK=> ?_ | with_reducible refine aT fun K' hK=> ?_);refine aops_part 8 fun K2 hK2=> ?_;simp[s10,s11,s12,s13];refine acall_flat (pr_same v (by omega)) rfl q2 ?_;simp;refine hK2 _ _ _ ?_;clear K2 hK2;refine aops_part 13 fun K2 hK2=> ?_;simp[s1,s2,s3,s4,s9,x0];refine acall_flat hC rfl (by first | rfl | (simp;done) | (simp;rfl) | (simp;exact⟨rfl,rfl⟩)) ?_;simp[s1,s2,s3,s4,s9,x0];refine acall_flat hC2 rfl q3 ?_;simp;refine hK2 _ _ _ ?_;clear K2 hK2;simp[s1,s2,s3,s4,s9,x0];refine acall_flat hF rfl (by first | rfl | (simp;done) | (simp;rfl) | (simp;exact⟨rfl,rfl⟩)) ?_;simp[s1,s2,s3,s4,s9,x0];refine acall_flat hF2 rfl q3 ?_;simp;(first | refine hK _ _ _ ?_ | done);clear K' hK;(repeat with_reducible refine aA ?_);(first | with_reducible refine aR fun K' hK=> ?_ | with_reducible refine aS fun K' hK=> ?_);simp;(first | refine hK _ _ _ ?_ | done);clear K' hK;have hsm:(⟨#[115,109,117,100,103,101]⟩:Bs)=smB:=rfl;(repeat with_reducible refine aA ?_);(first | with_reducible refine aw_block ?_ | with_reducible refine aw_toS (aw_block ?_));refine aw_loop (fun s Y nx=>s 2=rowT Pl.cells t∧s 9=.row 1 t.length∧s 10=.row 2 v.length∧s 14=bV true∧Y 1=G 1∧(∃x:List Pl,x.length=v.length∧Y 2=some (.row 58 (flat Pl.cells x)))∧∃j:Nat,s 15=iV j∧j≤v.length) (fun s _ _=>match s 15 with | .v (.int _ n)=>v.length-n.toNat | _=>0) ?_ ?_
 ·exact⟨by simp[s2],by simp[s9],by simp[s10],by simp,x1,⟨v,rfl,x2⟩,0,by simp,by omega⟩
 clear s1 s2 s3 s4 s9 s10 s11 s12 s13 x0 x1 x2 x3 q2 q3;rintro s Y nx-⟨s2,s9,s10,s14,y1,⟨x,hx,y2⟩,j,s15,hj⟩;have hw:IntKind.i64.wrap (↑j+1)=((j+1:Nat):Int):=wrapS (by omega);(repeat with_reducible refine aA ?_);(first | with_reducible refine aR fun K' hK=> ?_ | with_reducible refine aS fun K' hK=> ?_);simp[s10,s15,y2];(first | refine hK _ _ _ ?_ | done);clear K' hK;(repeat with_reducible refine aA ?_);(first | with_reducible refine aC fun A B hA hB=> ?_ | with_reducible refine aD fun A B hA hB=> ?_);simp;refine⟨fun hj2=>hA ?_,fun hj2=>hB ?_⟩<;>clear hA hB A B<;>(try simp at hj2)<;>(try with_reducible refine aK ?_)
 ·have hj3:j<x.length:=(by omega);have hpn:=put_name hj3;(repeat with_reducible refine aA ?_);(first | with_reducible refine aw_block ?_ | with_reducible refine aw_toS (aw_block ?_));(repeat with_reducible refine aA ?_);(first | with_reducible refine aR fun K' hK=> ?_ | with_reducible refine aS fun K' hK=> ?_);simp[s10,s15,y2,hj2,hj3,hsm,hpn];(first | refine hK _ _ _ ?_ | done);clear K' hK;(first | with_reducible refine aw_skipL ?_ | skip);refine blockK_normal ?_;(repeat with_reducible refine aA ?_);(first | with_reducible refine aR fun K' hK=> ?_ | with_reducible refine aS fun K' hK=> ?_);simp[s15,hw];(first | refine hK _ _ _ ?_ | done);clear K' hK;refine aw_skipL (loopK_normal ?_ ?_)
  ·exact⟨by simp[s2],by simp[s9],by simp[s10],by simp[s14],by simp[y1],⟨x.set j {nth x j with name:=smB},by simpa using hx,by simp⟩,j+1,by simp[hw],by omega⟩
  ·simp[s15,hw];omega
 ·(repeat with_reducible refine aA ?_);(first | with_reducible refine aw_exit ?_ | with_reducible refine aw_exitL ?_);refine loopK_exit (blockK_exit ?_);have q3:seesA Tryz.prog Y [rowT Pl.cells t,.row 1 t.length]=some [rowT Pl.cells t,rowT Pl.cells t]:=by
   simp only[seesA,seeA,lookA,t1 Y y1];rfl
  (repeat with_reducible refine aA ?_);(first | with_reducible refine aR fun K' hK=> ?_ | with_reducible refine aS fun K' hK=> ?_);simp;refine acall_flat hLs rfl (by first | rfl | (simp;done) | (simp;rfl) | (simp;exact⟨rfl,rfl⟩)) ?_;simp[s2,s9,s14];refine acall_flat (pr_same t (by omega)) rfl q3 ?_;simp;(first | refine hK _ _ _ ?_ | done);clear K' hK;(repeat with_reducible refine aA ?_);(first | with_reducible refine aw_ret ?_ | with_reducible refine aw_retL ?_ | with_reducible refine aw_skipL ?_);simp[blockK,loopK,Post,resA,res1,expT,expA,exp1,expM,expL,okT,okA,ok1,rowOf,Tryz.f14]
theorem makes15_ok (hLs:CallsOK Tryz.prog 65 [] (bV true) []) (root:Man) (L:List Man) (t:List Pl) (hl:L.length≤9223372036854775807) (htl:t.length≤9223372036854775807):CallsOK Tryz.prog 15 [.agg root.cells,rowT Man.cells L,rowT Pl.cells t] (bV true) []:=by
 refine callsOK mixed Tryz.call15 Tryz.func15 rfl (by rw[Tryz.ntmps15];simp) ?_ rfl;rw[Tryz.ntmps15];(repeat with_reducible refine aA ?_);(first | with_reducible refine aR fun K' hK=> ?_ | with_reducible refine aS fun K' hK=> ?_);simp;(first | refine hK _ _ _ ?_ | done);clear K' hK;(repeat with_reducible refine aA ?_);(first | with_reducible refine aR fun K' hK=> ?_ | with_reducible refine aS fun K' hK=> ?_);simp;refine acall_flat (large58_ok root L t hl htl) rfl (by first | rfl | (simp;done) | (simp;rfl) | (simp;exact⟨rfl,rfl⟩)) ?_;by_cases hb:largeD root L t=true
 ·simp[hb];(first | refine hK _ _ _ ?_ | done);clear K' hK;repeat with_reducible refine aA ?_
  (first | with_reducible refine aC fun A B hA hB=> ?_ | with_reducible refine aD fun A B hA hB=> ?_)
  simp;refine⟨fun hc=>hA ?_,fun hc=>hB ?_⟩<;>clear hA hB A B<;>(try (simp at hc;done))<;>(try (exfalso;simp at hc;omega))<;>clear hc<;>(try with_reducible refine aK ?_);(repeat with_reducible refine aA ?_);(first | with_reducible refine aR fun K' hK=> ?_ | with_reducible refine aS fun K' hK=> ?_);simp;(first | refine hK _ _ _ ?_ | done);clear K' hK;(repeat with_reducible refine aA ?_);(first | with_reducible refine aw_ret ?_ | with_reducible refine aw_retL ?_ | with_reducible refine aw_skipL ?_);simp[blockK,loopK,Post,resA,res1,expT,expA,exp1,expM,expL,okT,okA,ok1,rowOf,Tryz.f15]
 have hb':largeD root L t=false:=(by simpa using hb);obtain⟨b1,b2,b3⟩:=bigW_sz (largeD_no hb');have hsz:ValSz root L t:=valSz_of b1 b2 b3;have htl2:=(bigT_len b3).1;have c58:Tryz.prog.cellsOf 58=6:=(by kernel_rfl);have hU:=dedupe66_ok root L t hsz;have hU2:=dedupe67_ok root L t hsz;have hvl:=(ded_sz hsz).2.2.2.2.1.1;have hO:dedO root L t=if dedCode root L t=0 then(.tup [rowT Pl.cells (dedR root L t),iV (dedCode root L t)],[])else(.tup [.row 0 (dedR root L t).length,iV (dedCode root L t)],[(58,flat Pl.cells (dedR root L t))]):=by
  unfold dedO dedR;by_cases h:dedCode root L t=0
  ·rw[if_pos h,if_pos h,if_pos h,h]
  ·rw[if_neg h,if_neg h,if_neg h];rfl
 rw[hO]at hU2;clear hO;generalize dedR root L t=v at*;generalize dedCode root L t=c at*;simp[hb'];(first | refine hK _ _ _ ?_ | done);clear K' hK;repeat with_reducible refine aA ?_
 (first | with_reducible refine aC fun A B hA hB=> ?_ | with_reducible refine aD fun A B hA hB=> ?_)
 simp;refine⟨fun hc=>hA ?_,fun hc=>hB ?_⟩<;>clear hA hB A B<;>(try (simp at hc;done))<;>(try (exfalso;simp at hc;omega))<;>clear hc<;>(try with_reducible refine aK ?_);(repeat with_reducible refine aA ?_);(first | with_reducible refine aR fun K' hK=> ?_ | with_reducible refine aS fun K' hK=> ?_);simp;refine acall_new (own11_ok t (by omega)) (by first | rfl | (simp;done) | (simp;rfl) | (simp;exact⟨rfl,rfl⟩)) ?_;simp[addJ_one];(first | refine hK _ _ _ ?_ | done);clear K' hK;(repeat with_reducible refine aA ?_);(first | with_reducible refine aR fun K' hK=> ?_ | with_reducible refine aS fun K' hK=> ?_);simp;refine acall_new hU (by first | rfl | (simp;done) | (simp;rfl) | (simp;exact⟨rfl,rfl⟩)) ?_;simp[addJ_one];(first | refine hK _ _ _ ?_ | done);clear K' hK;refine aw_gen (fun u X nz=>u 1=rowT Man.cells L∧u 2=rowT Pl.cells t∧u 3=.ptr 0 0∧u 7=.row 1 t.length∧u 8=.row 2 v.length∧u 9=iV c∧nz=3∧X 0=some (.var 27 root.cells)∧X 1=some (.row 58 (flat Pl.cells t))∧X 2=some (.row 58 (flat Pl.cells v))) ?_ ?_
 ·exact⟨by simp,by simp,by simp,by simp,by simp,by simp,by simp,by simp,by simp,by simp⟩
 rintro s G nx ⟨s1,s2,s3,s7,s8,s9,rfl,g0,g1,g2⟩;have t1:∀X:Hp,X 1=G 1→treeOf Tryz.prog X (.row 1 t.length)=some (rowT Pl.cells t):=fun X h=>treeOf_of (h.trans g1) c58 rfl;have tv:∀(X:Hp) i,X i=some (.row 58 (flat Pl.cells v))→treeOf Tryz.prog X (.row i v.length)=some (rowT Pl.cells v):=fun X i h=>treeOf_of h c58 rfl;have hT:=t1 G rfl;(repeat with_reducible refine aA ?_);first | refine aw_cut (fun u X nz=>u 2=rowT Pl.cells t∧u 7=.row 1 t.length∧u 8=.row 2 v.length∧u 9=iV c∧u 11=iV c∧treeOf Tryz.prog X (.row 1 t.length)=some (rowT Pl.cells t)∧X 2=some (.row 58 (flat Pl.cells v))∧seesA Tryz.prog X [.row 2 v.length,u 10]=some [rowT Pl.cells v,rowT Pl.cells v]) ?_ ?_ | refine aw_toS (aw_cut (fun u X nz=>u 2=rowT Pl.cells t∧u 7=.row 1 t.length∧u 8=.row 2 v.length∧u 9=iV c∧u 11=iV c∧treeOf Tryz.prog X (.row 1 t.length)=some (rowT Pl.cells t)∧X 2=some (.row 58 (flat Pl.cells v))∧seesA Tryz.prog X [.row 2 v.length,u 10]=some [rowT Pl.cells v,rowT Pl.cells v]) ?_ ?_)
 ·by_cases hc:c=0
  ·rw[if_pos hc]at hU2;(repeat with_reducible refine aA ?_);(first | with_reducible refine aR fun K' hK=> ?_ | with_reducible refine aS fun K' hK=> ?_);simp[s1,s3,s7,g0];refine acall_new hU2 (by first | rfl | (simp[hT];done) | (simp[hT];rfl) | (simp[hT];exact⟨rfl,rfl⟩)) ?_;simp[addJ_nil,hT];(first | refine hK _ _ _ ?_ | done);clear K' hK;with_reducible refine aw_end ?_
   refine⟨by simp[s2],by simp[s7],by simp[s8],by simp[s9],by simp,by simp[hT],by simp[g2],?_⟩;have a:=tv (frzOf G (.row 1 t.length)) 2 (by simp[g2]);simp[seesA,a];rfl
  ·rw[if_neg hc]at hU2;(repeat with_reducible refine aA ?_);(first | with_reducible refine aR fun K' hK=> ?_ | with_reducible refine aS fun K' hK=> ?_);simp[s1,s3,s7,g0];refine acall_new hU2 (by first | rfl | (simp[hT];done) | (simp[hT];rfl) | (simp[hT];exact⟨rfl,rfl⟩)) ?_;simp[addJ_one,hT];(first | refine hK _ _ _ ?_ | done);clear K' hK;with_reducible refine aw_end ?_
   refine⟨by simp[s2],by simp[s7],by simp[s8],by simp[s9],by simp,by simp[hT],by simp[g2],?_⟩;have a:=tv ((frzOf G (.row 1 t.length)).upd 3 (.row 58 (flat Pl.cells v))) 2 (by simp[g2]);have b:=tv ((frzOf G (.row 1 t.length)).upd 3 (.row 58 (flat Pl.cells v))) 3 (by simp);simp[seesA,a,b]
 clear s1 s2 s3 s7 s8 s9 g0 g1 g2 t1 hT;rintro s X nx ⟨s2,s7,s8,s9,s11,hT,x2,q2⟩;generalize hs10:s 10=y at*;have t1:∀Y:Hp,Y 1=X 1→treeOf Tryz.prog Y (.row 1 t.length)=some (rowT Pl.cells t):=fun Y h=>(treeOf_congr h).trans hT;(repeat with_reducible refine aA ?_);(first | with_reducible refine aR fun K' hK=> ?_ | with_reducible refine aS fun K' hK=> ?_);simp[s8,s9,hs10,s11];refine acall_flat (pr_same v hvl) rfl q2 ?_;simp;(first | refine hK _ _ _ ?_ | done);clear K' hK;(repeat with_reducible refine aA ?_);(first | with_reducible refine aR fun K' hK=> ?_ | with_reducible refine aS fun K' hK=> ?_);simp;(first | refine hK _ _ _ ?_ | done);clear K' hK;have hsm:(⟨#[115,109,117,100,103,101]⟩:Bs)=smB:=rfl;(repeat with_reducible refine aA ?_);(first | with_reducible refine aw_block ?_ | with_reducible refine aw_toS (aw_block ?_));refine aw_loop (fun s Y nx=>s 2=rowT Pl.cells t∧s 7=.row 1 t.length∧s 8=.row 2 v.length∧s 12=bV true∧Y 1=X 1∧(∃x:List Pl,x.length=v.length∧Y 2=some (.row 58 (flat Pl.cells x)))∧∃j:Nat,s 13=iV j∧j≤v.length) (fun s _ _=>match s 13 with | .v (.int _ n)=>v.length-n.toNat | _=>0) ?_ ?_
 ·exact⟨by simp[s2],by simp[s7],by simp[s8],by simp,rfl,⟨v,rfl,x2⟩,0,by simp,by omega⟩
 clear s2 s7 s8 s9 s11 x2 q2 hs10 hT;rintro s Y nx-⟨s2,s7,s8,s12,y1,⟨x,hx,y2⟩,j,s13,hj⟩;have hw:IntKind.i64.wrap (↑j+1)=((j+1:Nat):Int):=wrapS (by omega);(repeat with_reducible refine aA ?_);(first | with_reducible refine aR fun K' hK=> ?_ | with_reducible refine aS fun K' hK=> ?_);simp[s8,s13,y2];(first | refine hK _ _ _ ?_ | done);clear K' hK;(repeat with_reducible refine aA ?_);(first | with_reducible refine aC fun A B hA hB=> ?_ | with_reducible refine aD fun A B hA hB=> ?_);simp;refine⟨fun hj2=>hA ?_,fun hj2=>hB ?_⟩<;>clear hA hB A B<;>(try simp at hj2)<;>(try with_reducible refine aK ?_)
 ·have hj3:j<x.length:=(by omega);have hpn:=put_name hj3;(repeat with_reducible refine aA ?_);(first | with_reducible refine aw_block ?_ | with_reducible refine aw_toS (aw_block ?_));(repeat with_reducible refine aA ?_);(first | with_reducible refine aR fun K' hK=> ?_ | with_reducible refine aS fun K' hK=> ?_);simp[s8,s13,y2,hj2,hj3,hsm,hpn];(first | refine hK _ _ _ ?_ | done);clear K' hK;(first | with_reducible refine aw_skipL ?_ | skip);refine blockK_normal ?_;(repeat with_reducible refine aA ?_);(first | with_reducible refine aR fun K' hK=> ?_ | with_reducible refine aS fun K' hK=> ?_);simp[s13,hw];(first | refine hK _ _ _ ?_ | done);clear K' hK;refine aw_skipL (loopK_normal ?_ ?_)
  ·exact⟨by simp[s2],by simp[s7],by simp[s8],by simp[s12],by simp[y1],⟨x.set j {nth x j with name:=smB},by simpa using hx,by simp⟩,j+1,by simp[hw],by omega⟩
  ·simp[s13,hw];omega
 ·(repeat with_reducible refine aA ?_);(first | with_reducible refine aw_exit ?_ | with_reducible refine aw_exitL ?_);refine loopK_exit (blockK_exit ?_);have q3:seesA Tryz.prog Y [rowT Pl.cells t,.row 1 t.length]=some [rowT Pl.cells t,rowT Pl.cells t]:=by
   simp only[seesA,seeA,lookA,t1 Y y1];rfl
  (repeat with_reducible refine aA ?_);(first | with_reducible refine aR fun K' hK=> ?_ | with_reducible refine aS fun K' hK=> ?_);simp;refine acall_flat hLs rfl (by first | rfl | (simp;done) | (simp;rfl) | (simp;exact⟨rfl,rfl⟩)) ?_;simp[s2,s7,s12];refine acall_flat (pr_same t (by omega)) rfl q3 ?_;simp;(first | refine hK _ _ _ ?_ | done);clear K' hK;(repeat with_reducible refine aA ?_);(first | with_reducible refine aw_ret ?_ | with_reducible refine aw_retL ?_ | with_reducible refine aw_skipL ?_);simp[blockK,loopK,Post,resA,res1,expT,expA,exp1,expM,expL,okT,okA,ok1,rowOf,Tryz.f15]
end Go.Proofs.YtgipehooceecpaaGreatDoorAbs
