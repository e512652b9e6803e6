/- A row that was only read, handed out as the caller's own. -/
import Derived.Test.YtmmbgjmigmchbaaGreatDoorNg8
import Derived.Test.YtmmbgjmigmchbaaGreatDoorNg6
import Derived.Test.YtmmbgjmigmchbaaGreatDoorNg7
import Derived.Test.YtmmbgjmigmchbaaGreatDoorNg2
namespace Go.Proofs.YtmmbgjmigmchbaaGreatDoorAbs
set_option linter.unusedSimpArgs false
set_option linter.unusedVariables false
open Go Go.RowKit Go.Proofs
set_option maxRecDepth 100000
set_option maxHeartbeats 4000000
theorem Nh (a b:Dep):zD a b=true↔¬b.kind<a.kind∧(¬a.kind=b.kind∨ltB a.name b.name=true):=by
 unfold zD;rw[decide_eq_true_eq];have e:orN [gB a.kind b.kind,lX a.name b.name]=if gB a.kind b.kind=0 then lX a.name b.name else gB a.kind b.kind:=by
  simp only[orN];split
  ·split
   ·rename_i h;exact h.symm
   ·rfl
  ·rfl
 rw[e];rcases Int.lt_trichotomy a.kind b.kind with h | h | h
 ·rw[Nb h,if_neg (by decide)];exact⟨fun _=>⟨by omega,.inl (by omega)⟩,fun _=>by decide⟩
 ·rw[h,iL,if_pos rfl,qI];exact⟨fun h=>⟨by omega,.inr h⟩,fun h=>h.2.resolve_left (by simp)⟩
 ·rw[LU h,if_neg (by decide)];exact⟨fun h=>absurd h (by decide),fun h2=>absurd h h2.1⟩
theorem D9 (m:Man) (hm:Man.sz m) (root:Bool):CallsOK Tryz.prog 162 [.agg m.cells,bV root] (bV (eu m root)) []:=by
 obtain⟨hn,hv,⟨hdl,hdd⟩,hrl,hrr⟩:=hm;refine aN mixed Tryz.call162 Tryz.func162 rfl (by rw[Tryz.ntmps162];simp) ?_ rfl;rw[Tryz.ntmps162];refine aR fun K' hK=> ?_
 simp;apply hK;clear K' hK;apply aA
 refine fC (fun s G nx=>s 1=bV root∧s 2=.ptr 0 0∧G 0=some (.var 27 m.cells)∧s 35=bV (!fM m root)) ?_ ?_
 ·skip;refine aS fun K' hK=> ?_
  refine bI 3 fun K2 hK2=> ?_;simp;refine ak (iU m.ver (by omega)) rfl (by first | rfl | (simp;done) | (simp;rfl) | (simp;exact⟨rfl,rfl⟩)) ?_;simp;refine hK2 _ _ _ ?_;clear K2 hK2;by_cases c1:fD m.ver=true
  ·refine bI 7 fun K2 hK2=> ?_;simp[c1];refine ak (lF m.name (by omega)) rfl (by first | rfl | (simp;done) | (simp;rfl) | (simp;exact⟨rfl,rfl⟩)) ?_;simp;refine hK2 _ _ _ ?_;clear K2 hK2;by_cases c2:jq (bsL m.name)=true
   ·by_cases c3:m.rules.length=0
    ·have c3':¬0<m.rules.length:=(by omega);have c3i:¬(0:Int)<m.rules.length:=(by omega);refine bI 8 fun K2 hK2=> ?_;simp[c1,c2];refine hK2 _ _ _ ?_;clear K2 hK2;simp[c1,c2,c3,c3',c3i];apply hK;clear K' hK;with_reducible refine bP ?_
     simp[fM,c1,c2,c3]
    ·have c3':0<m.rules.length:=(by omega);have c3i:(0:Int)<m.rules.length:=(by omega);cases root<;>(
      refine bI 8 fun K2 hK2=> ?_;simp[c1,c2];refine hK2 _ _ _ ?_;clear K2 hK2;simp[c1,c2,c3,c3',c3i];apply hK;clear K' hK;with_reducible refine bP ?_
      simp[fM,c1,c2,c3])
   ·by_cases c4:m.name=⟨#[]⟩
    ·have c4':(m.name=⟨#[]⟩)=True:=eq_true c4;by_cases c3:m.rules.length=0
     ·have c3':¬0<m.rules.length:=(by omega);have c3i:¬(0:Int)<m.rules.length:=(by omega);cases root<;>(
       refine bI 8 fun K2 hK2=> ?_;simp[c1,c2,c4'];refine hK2 _ _ _ ?_;clear K2 hK2;simp[c1,c2,c3,c3',c3i];apply hK;clear K' hK;with_reducible refine bP ?_
       simp[fM,c1,c2,c3,c4'])
     ·have c3':0<m.rules.length:=(by omega);have c3i:(0:Int)<m.rules.length:=(by omega);cases root<;>(
       refine bI 8 fun K2 hK2=> ?_;simp[c1,c2,c4'];refine hK2 _ _ _ ?_;clear K2 hK2;simp[c1,c2,c3,c3',c3i];apply hK;clear K' hK;with_reducible refine bP ?_
       simp[fM,c1,c2,c3,c4'])
    ·refine bI 8 fun K2 hK2=> ?_;simp[c1,c2,c4];refine hK2 _ _ _ ?_;clear K2 hK2;simp[c1,c2,c4];apply hK;clear K' hK;with_reducible refine bP ?_
     simp[fM,c1,c2,c4]
  ·refine bI 8 fun K2 hK2=> ?_;simp[c1];refine hK2 _ _ _ ?_;clear K2 hK2;refine bI 8 fun K2 hK2=> ?_;simp[c1];refine hK2 _ _ _ ?_;clear K2 hK2;simp[c1];apply hK;clear K' hK;with_reducible refine bP ?_
   simp[fM,c1]
 ·rintro s G nx ⟨s1,s2,g0,s35⟩;by_cases hh:fM m root=true
  ·rw[hh]at s35;refine aYk (by simp[s35]) ?_;apply aA;refine aR fun K' hK=> ?_
   simp;apply hK;clear K' hK;refine Ar (fun s G nx=>s 1=bV root∧s 2=.ptr 0 0∧G 0=some (.var 27 m.cells)∧(List.range m.deps.length).all (xJ root m.deps)=true) ?_ ?_
   ·skip;refine dL (aB ?_)
    refine bH (fun s G nx=>s 1=bV root∧s 2=.ptr 0 0∧G 0=some (.var 27 m.cells)∧∃i:Nat,s 5=iV i∧i≤m.deps.length∧(List.range i).all (xJ root m.deps)=true) (fun s _ _=>match s 5 with | .v (.int _ n)=>m.deps.length-n.toNat | _=>0) ?_ ?_
    ·exact⟨by simp[s1],by simp[s2],by simp[g0],0,by simp,by omega,by simp⟩
    ·clear s1 s2 g0 s35 s G nx;rintro s G nx hf ⟨s1,s2,g0,i,s5,hi,ht⟩;have hw:IntKind.i64.wrap (↑i+1)=((i+1:Nat):Int):=dh (by omega);apply aA;refine aR fun K' hK=> ?_
     simp[s2,s5,g0];apply hK;clear K' hK;refine aC fun A B hA hB=> ?_
     simp;refine⟨fun hi2=>hA ?_,fun hi2=>hB ?_⟩<;>clear hA hB A B<;>(try simp at hi2)<;>(try with_reducible refine aK ?_)
     ·have hd:=hdd _ (bM hi2);have hfalse:xJ root m.deps i=false→eu m root=false:=fun h=>(by rw[eu,sU hi2 h];simp);have hstep:=nY (p:=xJ root m.deps) ht;have hdef:xJ root m.deps i=(kZ root (nth m.deps i)&&(iM (nth m.deps i).name (nth m.deps i).range&&(decide (i=0) || zD (nth m.deps (i-1)) (nth m.deps i)))):=rfl;generalize hgd:nth m.deps i=d at*;apply aB
      have hdep:=MC d root hd.1 hd.2;generalize hKR:(kZ root d&&iM d.name d.range)=kr at hdep;apply aA;refine aR fun K' hK=> ?_
      simp[s1,s2,s5,g0,hi2,hgd];refine ak hdep rfl (by first | rfl | (simp;done) | (simp;rfl) | (simp;exact⟨rfl,rfl⟩)) ?_;simp;apply hK;clear K' hK;cases kr with
      | true=>
       refine aYk (by simp) ?_
       have c':kZ root d=true∧iM d.name d.range=true:=(by simpa using hKR);rw[c'.1,c'.2]at hdef;by_cases hz:i=0
       ·have hz':¬(0:Int)<(i:Int):=(by omega);have hz2:¬0<i:=(by omega);refine aQ fun K' hK=> ?_
        refine bI 10 fun K2 hK2=> ?_;simp[s5,hz',hz2];refine hK2 _ _ _ ?_;clear K2 hK2;refine bI 10 fun K2 hK2=> ?_;simp[hz',hz2];refine hK2 _ _ _ ?_;clear K2 hK2;refine bI 10 fun K2 hK2=> ?_;simp[hz',hz2];refine hK2 _ _ _ ?_;clear K2 hK2;refine bI 10 fun K2 hK2=> ?_;simp[hz',hz2];refine hK2 _ _ _ ?_;clear K2 hK2;simp[hz',hz2];apply hK;clear K' hK;refine aVk (by simp) ?_;apply aj
        refine ah ?_;refine aS fun K' hK=> ?_
        simp[s5,hw];apply hK;clear K' hK;refine aj (ay ?_ ?_)
        ·exact⟨by simp[s1],by simp[s2],by simp[g0],i+1,by simp[hw],by omega,hstep (by rw[hdef];simp[hz])⟩
        ·simp[s5,hw];omega
       ·obtain⟨p,hp⟩:∃p,i=p+1:=⟨i-1,by omega⟩;have hz':(0:Int)<(i:Int):=(by omega);have hz2:0<i:=(by omega);have hsub:IntKind.i64.wrap ((i:Int)-1)=(p:Int):=(by rw[wrap64 (by omega) (by omega)];omega);have hpl:p<m.deps.length:=(by omega);have hip:i-1=p:=(by omega);rw[hip]at hdef;have hlt:=Nh (nth m.deps p) d;generalize hgp:nth m.deps p=e at*;by_cases k1:d.kind<e.kind
        ·skip;refine aQ fun K' hK=> ?_
         refine bI 17 fun K2 hK2=> ?_;simp[s2,s5,g0,hz',hz2,hsub,hpl,hgp,hi2,hgd,k1];refine hK2 _ _ _ ?_;clear K2 hK2;refine bI 12 fun K2 hK2=> ?_;simp[hz',hz2,k1];refine hK2 _ _ _ ?_;clear K2 hK2;refine bI 12 fun K2 hK2=> ?_;simp[hz',hz2,k1];refine hK2 _ _ _ ?_;clear K2 hK2;simp[hz',hz2,k1];apply hK;clear K' hK;refine aU (by simp) ?_;apply aA;refine aR fun K' hK=> ?_
         simp;apply hK;clear K' hK;apply aJ
         simp[au,aG,Post,aW,res1,bF,bC,aP,bg,bf,okT,okA,ok1,rowOf,Tryz.f162,DR];have:zD e d=false:=by
          rw[Bool.eq_false_iff];exact fun h=>(hlt.1 h).1 k1
         rw[hfalse (by rw[hdef,this];simp[hz])]
        ·by_cases k2:e.kind=d.kind
         ·have k2':(e.kind=d.kind)=True:=eq_true k2;by_cases k3:ltB e.name d.name=true
          ·skip;refine aQ fun K' hK=> ?_
           refine bI 17 fun K2 hK2=> ?_;simp[s2,s5,g0,hz',hz2,hsub,hpl,hgp,hi2,hgd,k1];refine hK2 _ _ _ ?_;clear K2 hK2;refine bI 15 fun K2 hK2=> ?_;simp[s2,s5,g0,hz',hz2,hsub,hpl,hgp,hi2,hgd,k1,k2'];refine hK2 _ _ _ ?_;clear K2 hK2;refine bI 15 fun K2 hK2=> ?_;simp[s2,s5,g0,hz',hz2,hsub,hpl,hgp,hi2,hgd,k1,k2',k3];refine hK2 _ _ _ ?_;clear K2 hK2;simp[hz',hz2,k1,k2',k3];apply hK;clear K' hK;refine aVk (by simp) ?_;apply aj
           refine ah ?_;refine aS fun K' hK=> ?_
           simp[s5,hw];apply hK;clear K' hK;refine aj (ay ?_ ?_)
           ·exact⟨by simp[s1],by simp[s2],by simp[g0],i+1,by simp[hw],by omega,hstep (by rw[hdef,hlt.2 ⟨k1,.inr k3⟩];simp)⟩
           ·simp[s5,hw];omega
          ·have k3':ltB e.name d.name=false:=(by simpa using k3);refine aQ fun K' hK=> ?_
           refine bI 17 fun K2 hK2=> ?_;simp[s2,s5,g0,hz',hz2,hsub,hpl,hgp,hi2,hgd,k1];refine hK2 _ _ _ ?_;clear K2 hK2;refine bI 15 fun K2 hK2=> ?_;simp[s2,s5,g0,hz',hz2,hsub,hpl,hgp,hi2,hgd,k1,k2'];refine hK2 _ _ _ ?_;clear K2 hK2;refine bI 15 fun K2 hK2=> ?_;simp[s2,s5,g0,hz',hz2,hsub,hpl,hgp,hi2,hgd,k1,k2',k3'];refine hK2 _ _ _ ?_;clear K2 hK2;simp[hz',hz2,k1,k2',k3'];apply hK;clear K' hK;refine aU (by simp) ?_;apply aA;refine aR fun K' hK=> ?_
           simp;apply hK;clear K' hK;apply aJ
           simp[au,aG,Post,aW,res1,bF,bC,aP,bg,bf,okT,okA,ok1,rowOf,Tryz.f162,DR];have:zD e d=false:=by
            rw[Bool.eq_false_iff];exact fun h=>(hlt.1 h).2.elim (fun h=>h k2) k3
           rw[hfalse (by rw[hdef,this];simp[hz])]
         ·skip;refine aQ fun K' hK=> ?_
          refine bI 17 fun K2 hK2=> ?_;simp[s2,s5,g0,hz',hz2,hsub,hpl,hgp,hi2,hgd,k1];refine hK2 _ _ _ ?_;clear K2 hK2;refine bI 15 fun K2 hK2=> ?_;simp[s2,s5,g0,hz',hz2,hsub,hpl,hgp,hi2,hgd,k1,k2];refine hK2 _ _ _ ?_;clear K2 hK2;refine bI 15 fun K2 hK2=> ?_;simp[s2,s5,g0,hz',hz2,hsub,hpl,hgp,hi2,hgd,k1,k2];refine hK2 _ _ _ ?_;clear K2 hK2;simp[hz',hz2,k1,k2];apply hK;clear K' hK;refine aVk (by simp) ?_;apply aj
          refine ah ?_;refine aS fun K' hK=> ?_
          simp[s5,hw];apply hK;clear K' hK;refine aj (ay ?_ ?_)
          ·exact⟨by simp[s1],by simp[s2],by simp[g0],i+1,by simp[hw],by omega,hstep (by rw[hdef,hlt.2 ⟨k1,.inl k2⟩];simp)⟩
          ·simp[s5,hw];omega
      | false=>
       refine aX (by simp) ?_;apply aA;refine aR fun K' hK=> ?_
       simp;apply hK;clear K' hK;apply aJ
       simp[au,aG,Post,aW,res1,bF,bC,aP,bg,bf,okT,okA,ok1,rowOf,Tryz.f162,DR];rw[hfalse (by rw[hdef,←Bool.and_assoc,hKR];rfl)]
     ·skip;apply bG
      refine aI (aH ?_);have hie:i=m.deps.length:=(by omega);subst hie;with_reducible refine kX ?_
      exact⟨by simp[s1],by simp[s2],by simp[g0],ht⟩
   ·clear s1 s2 g0 s35 s G nx;rintro s G nx ⟨s1,s2,g0,hall⟩;have hmr:eu m root=(List.range m.rules.length).all (Oh m.rules):=(by rw[eu,hh,hall];rfl);apply aA;refine aR fun K' hK=> ?_
    simp;apply hK;clear K' hK;apply aB
    refine bH (fun s G nx=>s 2=.ptr 0 0∧G 0=some (.var 27 m.cells)∧∃i:Nat,s 6=iV i∧i≤m.rules.length∧(List.range i).all (Oh m.rules)=true) (fun s _ _=>match s 6 with | .v (.int _ n)=>m.rules.length-n.toNat | _=>0) ?_ ?_
    ·exact⟨by simp[s2],by simp[g0],0,by simp,by omega,by simp⟩
    ·clear s1 s2 g0 s G nx;rintro s G nx hf ⟨s2,g0,i,s6,hi,ht⟩;have hw:IntKind.i64.wrap (↑i+1)=((i+1:Nat):Int):=dh (by omega);apply aA;refine aR fun K' hK=> ?_
     simp[s2,s6,g0];apply hK;clear K' hK;refine aC fun A B hA hB=> ?_
     simp;refine⟨fun hi2=>hA ?_,fun hi2=>hB ?_⟩<;>clear hA hB A B<;>(try simp at hi2)<;>(try with_reducible refine aK ?_)
     ·have hd:=hrr _ (bM hi2);have hfalse:Oh m.rules i=false→eu m root=false:=fun h=>(by rw[hmr,sU hi2 h]);have hstep:=nY (p:=Oh m.rules) ht;have hdef:Oh m.rules i=(iM (nth m.rules i).name (nth m.rules i).range&&(decide (i=0) || ltB (nth m.rules (i-1)).name (nth m.rules i).name)):=rfl;generalize hgd:nth m.rules i=d at*;have hrd:iM d.name d.range=(tH d.range&&jq (bsL d.name)):=rfl;apply aB;refine aQ fun K' hK=> ?_
      refine bI 7 fun K2 hK2=> ?_;simp[s2,s6,g0,hi2,hgd];refine ak (lF d.name (by omega)) rfl (by first | rfl | (simp;done) | (simp;rfl) | (simp;exact⟨rfl,rfl⟩)) ?_;simp;refine hK2 _ _ _ ?_;clear K2 hK2;by_cases c1:jq (bsL d.name)=true
      ·refine bI 9 fun K2 hK2=> ?_;simp[s2,s6,g0,hi2,hgd,c1];refine ak (lT d.range hd.2) rfl (by simp[Rg.cells]) ?_;simp;refine hK2 _ _ _ ?_;clear K2 hK2;by_cases c2:tH d.range=true
       ·have hrt:iM d.name d.range=true:=(by rw[hrd,c1,c2];rfl);rw[hrt]at hdef;by_cases hz:i=0
        ·have hz':¬(0:Int)<(i:Int):=(by omega);have hz2:¬0<i:=(by omega);refine bI 10 fun K2 hK2=> ?_;simp[c1,c2,s6,hz',hz2];refine hK2 _ _ _ ?_;clear K2 hK2;simp[c1,c2,hz',hz2];apply hK;clear K' hK;refine aVk (by simp) ?_;apply aj
         refine ah ?_;refine aS fun K' hK=> ?_
         simp[s6,hw];apply hK;clear K' hK;refine aj (ay ?_ ?_)
         ·exact⟨by simp[s2],by simp[g0],i+1,by simp[hw],by omega,hstep (by rw[hdef];simp[hz])⟩
         ·simp[s6,hw];omega
        ·obtain⟨p,hp⟩:∃p,i=p+1:=⟨i-1,by omega⟩;have hz':(0:Int)<(i:Int):=(by omega);have hz2:0<i:=(by omega);have hsub:IntKind.i64.wrap ((i:Int)-1)=(p:Int):=(by rw[wrap64 (by omega) (by omega)];omega);have hpl:p<m.rules.length:=(by omega);have hip:i-1=p:=(by omega);rw[hip]at hdef;generalize hgp:nth m.rules p=e at*;by_cases k3:ltB e.name d.name=true
         ·refine bI 8 fun K2 hK2=> ?_;simp[c1,c2,s2,s6,g0,hz',hz2,hsub,hpl,hgp,hi2,hgd];refine hK2 _ _ _ ?_;clear K2 hK2;refine bI 8 fun K2 hK2=> ?_;simp[c1,c2,s2,s6,g0,hz',hz2,hsub,hpl,hgp,hi2,hgd];refine hK2 _ _ _ ?_;clear K2 hK2;simp[c1,c2,hz',hz2,k3,hi2,hgd,s2,s6,g0];apply hK;clear K' hK;refine aVk (by simp) ?_;apply aj
          refine ah ?_;refine aS fun K' hK=> ?_
          simp[s6,hw];apply hK;clear K' hK;refine aj (ay ?_ ?_)
          ·exact⟨by simp[s2],by simp[g0],i+1,by simp[hw],by omega,hstep (by rw[hdef,k3];simp)⟩
          ·simp[s6,hw];omega
         ·have k3':ltB e.name d.name=false:=(by simpa using k3);refine bI 8 fun K2 hK2=> ?_;simp[c1,c2,s2,s6,g0,hz',hz2,hsub,hpl,hgp,hi2,hgd];refine hK2 _ _ _ ?_;clear K2 hK2;refine bI 8 fun K2 hK2=> ?_;simp[c1,c2,s2,s6,g0,hz',hz2,hsub,hpl,hgp,hi2,hgd];refine hK2 _ _ _ ?_;clear K2 hK2;simp[c1,c2,hz',hz2,k3',hi2,hgd,s2,s6,g0];apply hK;clear K' hK;refine aU (by simp) ?_;apply aA;refine aR fun K' hK=> ?_
          simp;apply hK;clear K' hK;apply aJ
          simp[au,aG,Post,aW,res1,bF,bC,aP,bg,bf,okT,okA,ok1,rowOf,Tryz.f162];rw[hfalse (by rw[hdef,k3'];simp[hz])]
       ·refine bI 10 fun K2 hK2=> ?_;simp[c1,c2];refine hK2 _ _ _ ?_;clear K2 hK2;simp[c1,c2];apply hK;clear K' hK;refine aU (by simp) ?_;apply aA;refine aR fun K' hK=> ?_
        simp;apply hK;clear K' hK;apply aJ
        simp[au,aG,Post,aW,res1,bF,bC,aP,bg,bf,okT,okA,ok1,rowOf,Tryz.f162];rw[hfalse (by rw[hdef,hrd];simp[c2])]
      ·refine bI 10 fun K2 hK2=> ?_;simp[c1];refine hK2 _ _ _ ?_;clear K2 hK2;refine bI 10 fun K2 hK2=> ?_;simp[c1];refine hK2 _ _ _ ?_;clear K2 hK2;simp[c1];apply hK;clear K' hK;refine aU (by simp) ?_;apply aA;refine aR fun K' hK=> ?_
       simp;apply hK;clear K' hK;apply aJ
       simp[au,aG,Post,aW,res1,bF,bC,aP,bg,bf,okT,okA,ok1,rowOf,Tryz.f162];rw[hfalse (by rw[hdef,hrd];simp[c1])]
     ·skip;apply bG
      refine aI (aH ?_);have hie:i=m.rules.length:=(by omega);subst hie;refine aR fun K' hK=> ?_
      simp;apply hK;clear K' hK;apply aF
      simp[au,aG,Post,aW,res1,bF,bC,aP,bg,bf,okT,okA,ok1,rowOf,Tryz.f162];rw[hmr,ht]
  ·have hh':fM m root=false:=(by simpa using hh);rw[hh']at s35;refine aX (by simp[s35]) ?_;apply aA;refine aR fun K' hK=> ?_
   simp;apply hK;clear K' hK;apply aJ
   simp[au,aG,Post,aW,res1,bF,bC,aP,bg,bf,okT,okA,ok1,rowOf,Tryz.f162];simp[eu,hh']
set_option maxRecDepth 100000
set_option maxHeartbeats 4000000
theorem uZ (m:Man) (hm:Man.sz m) (root:Bool):CallsOK Tryz.prog 124 [.agg m.cells,bV root] (iV (dM m root)) []:=by
 refine aN mixed Tryz.call124 Tryz.func124 rfl (by rw[Tryz.ntmps124];simp) ?_ rfl;rw[Tryz.ntmps124];refine aR fun K' hK=> ?_
 simp;apply hK;clear K' hK;by_cases c1:30<m.deps.length
 ·have c1':(30:Int)<m.deps.length:=(by omega);apply aA;refine aR fun K' hK=> ?_
  simp[c1,c1'];apply hK;clear K' hK;refine aX (by simp) ?_;apply aA;refine aR fun K' hK=> ?_
  simp;apply hK;clear K' hK;apply aJ
  simp[au,aG,Post,aW,res1,bF,bC,aP,bg,bf,okT,okA,ok1,rowOf,Tryz.f124];simp[dM,c1]
 ·have c1':¬(30:Int)<m.deps.length:=(by omega);by_cases c2:30<m.rules.length
  ·have c2':(30:Int)<m.rules.length:=(by omega);apply aA;refine aR fun K' hK=> ?_
   simp[c1,c1',c2,c2'];apply hK;clear K' hK;refine aX (by simp) ?_;apply aA;refine aR fun K' hK=> ?_
   simp;apply hK;clear K' hK;apply aJ
   simp[au,aG,Post,aW,res1,bF,bC,aP,bg,bf,okT,okA,ok1,rowOf,Tryz.f124];simp[dM,c2]
  ·have c2':¬(30:Int)<m.rules.length:=(by omega);apply aA;refine aR fun K' hK=> ?_
   simp[c1,c1',c2,c2'];apply hK;clear K' hK;refine aYk (by simp) ?_;apply aA;refine aR fun K' hK=> ?_
   simp;refine ak (D9 m hm root) rfl (by first | rfl | (simp;done) | (simp;rfl) | (simp;exact⟨rfl,rfl⟩)) ?_;simp;apply hK;clear K' hK;by_cases c3:eu m root=true
   ·skip;refine aYk (by simp[c3]) ?_;refine aR fun K' hK=> ?_
    simp;apply hK;clear K' hK;apply aF
    simp[au,aG,Post,aW,res1,bF,bC,aP,bg,bf,okT,okA,ok1,rowOf,Tryz.f124];simp[dM,c1,c2,c3]
   ·skip;refine aX (by simp[c3]) ?_;apply aA;refine aR fun K' hK=> ?_
    simp;apply hK;clear K' hK;apply aJ
    simp[au,aG,Post,aW,res1,bF,bC,aP,bg,bf,okT,okA,ok1,rowOf,Tryz.f124];simp[dM,c1,c2,c3]
theorem E8 (L:List Man) (hL:Idx.sz L):CallsOK Tryz.prog 125 [rowT Man.cells L] (iV (dK L)) []:=by
 refine aN mixed Tryz.call125 Tryz.func125 rfl (by rw[Tryz.ntmps125];simp) ?_ rfl;rw[Tryz.ntmps125];have hl:=hL.1;refine aR fun K' hK=> ?_
 simp;apply hK;clear K' hK;apply aA;refine aR fun K' hK=> ?_
 simp;apply hK;clear K' hK;refine aC fun A B hA hB=> ?_
 simp;refine⟨fun hn=>hA ?_,fun hn=>hB ?_⟩<;>clear hA hB A B<;>(try simp at hn)<;>(try with_reducible refine aK ?_)
 ·refine aA ?_;refine aR fun K' hK=> ?_
  simp;apply hK;clear K' hK;apply aJ
  simp[au,aG,Post,aW,res1,bF,bC,aP,bg,bf,okT,okA,ok1,rowOf,Tryz.f125];have hn:100<L.length:=(by omega);rw[dK,if_pos hn]
 ·have hn:¬100<L.length:=(by omega);apply aA;refine aR fun K' hK=> ?_
  simp;apply hK;clear K' hK;apply aB
  refine bH (fun s G nx=>s 0=rowT Man.cells L∧∃i:Nat,s 3=iV i∧i≤L.length∧(List.range i).all (uw L)=true) (fun s _ _=>match s 3 with | .v (.int _ n)=>L.length-n.toNat | _=>0) ?_ ?_
  ·exact⟨by simp,0,by simp,by omega,by simp⟩
  ·rintro s G nx hf ⟨s0,i,s3,hi,ht⟩;have hw:IntKind.i64.wrap (↑i+1)=((i+1:Nat):Int):=dh (by omega);apply aA;refine aR fun K' hK=> ?_
   simp[s0,s3];apply hK;clear K' hK;refine aC fun A B hA hB=> ?_
   simp;refine⟨fun hi2=>hA ?_,fun hi2=>hB ?_⟩<;>clear hA hB A B<;>(try simp at hi2)<;>(try with_reducible refine aK ?_)
   ·have hdd:=hL.2 _ (bM hi2);have hfalse:uw L i=false→dK L=1:=fun h=>(by rw[dK,if_neg hn,sU hi2 h];rfl);have hstep:=nY (p:=uw L) ht;have hdef:uw L i=(decide (dM (nth L i) false=0)&&(decide (i=0) || decide (kL (nth L (i-1)) (nth L i)<0))):=rfl;generalize hgd:nth L i=d at*;apply aB;refine aQ fun K' hK=> ?_
    refine bI 5 fun K2 hK2=> ?_;simp[s0,s3,hi2,hgd];refine ak (uZ d hdd false) rfl (by first | rfl | (simp;done) | (simp;rfl) | (simp;exact⟨rfl,rfl⟩)) ?_;simp;refine hK2 _ _ _ ?_;clear K2 hK2;by_cases hc:dM d false=0
    ·by_cases hz:i=0
     ·have hz':¬(0:Int)<(i:Int):=(by omega);have hz2:¬0<i:=(by omega);refine bI 8 fun K2 hK2=> ?_;simp[hc,s3,hz',hz2];refine hK2 _ _ _ ?_;clear K2 hK2;simp[hc,hz',hz2];apply hK;clear K' hK;refine aVk (by simp) ?_;apply aj
      refine ah ?_;refine aS fun K' hK=> ?_
      simp[s3,hw];apply hK;clear K' hK;refine aj (ay ?_ ?_)
      ·exact⟨by simp[s0],i+1,by simp[hw],by omega,hstep (by rw[hdef,hc];simp[hz])⟩
      ·simp[s3,hw];omega
     ·obtain⟨p,hp⟩:∃p,i=p+1:=⟨i-1,by omega⟩;have hz':(0:Int)<(i:Int):=(by omega);have hz2:0<i:=(by omega);have hsub:IntKind.i64.wrap ((i:Int)-1)=(p:Int):=(by rw[wrap64 (by omega) (by omega)];omega);have hpl:p<L.length:=(by omega);have hip:i-1=p:=(by omega);rw[hip]at hdef;have hpp:=hL.2 _ (bM hpl);refine bI 10 fun K2 hK2=> ?_;simp[hc,hz',hz2,s0,s3,hsub,hpl];refine hK2 _ _ _ ?_;clear K2 hK2;simp[hc,hz',hz2,s0,s3,hi2,hgd];refine ak (Fz (nth L p) d hpp.2.1 hdd.2.1) rfl (by first | rfl | (simp;done) | (simp;rfl) | (simp;exact⟨rfl,rfl⟩)) ?_;by_cases hlt:kL (nth L p) d<0
      ·simp[hc,hz',hz2,hlt];apply hK;clear K' hK;refine aVk (by simp) ?_;apply aj
       refine ah ?_;refine aS fun K' hK=> ?_
       simp[s3,hw];apply hK;clear K' hK;refine aj (ay ?_ ?_)
       ·exact⟨by simp[s0],i+1,by simp[hw],by omega,hstep (by rw[hdef,hc];simp[hlt])⟩
       ·simp[s3,hw];omega
      ·simp[hc,hz',hz2,hlt];apply hK;clear K' hK;refine aU (by simp) ?_;apply aA;refine aR fun K' hK=> ?_
       simp;apply hK;clear K' hK;apply aJ
       simp[au,aG,Post,aW,res1,bF,bC,aP,bg,bf,okT,okA,ok1,rowOf,Tryz.f125];exact(hfalse (by rw[hdef,hc];simp[hlt,hz])).symm
    ·refine bI 8 fun K2 hK2=> ?_;simp[hc];refine hK2 _ _ _ ?_;clear K2 hK2;simp[hc];apply hK;clear K' hK;refine aU (by simp) ?_;apply aA;refine aR fun K' hK=> ?_
     simp;apply hK;clear K' hK;apply aJ
     simp[au,aG,Post,aW,res1,bF,bC,aP,bg,bf,okT,okA,ok1,rowOf,Tryz.f125];exact(hfalse (by rw[hdef];simp[hc])).symm
   ·skip;apply bG
    refine aI (aH ?_);have hi8:i=L.length:=(by omega);subst hi8;refine aR fun K' hK=> ?_
    simp;apply hK;clear K' hK;apply aF
    simp[au,aG,Post,aW,res1,bF,bC,aP,bg,bf,okT,okA,ok1,rowOf,Tryz.f125];rw[dK,if_neg hn,if_pos ht]
theorem Jl (root:Man) (L:List Man) (t:List Pl) (hr:Man.sz root) (hL:Idx.sz L) (ht:OKs t):CallsOK Tryz.prog 83 [.agg root.cells,rowT Man.cells L,rowT Pl.cells t] (iV (codeV root L t)) []:=by
 refine aN mixed Tryz.call83 Tryz.func83 rfl (by rw[Tryz.ntmps83];simp) ?_ rfl;rw[Tryz.ntmps83];refine aR fun K' hK=> ?_
 simp;apply hK;clear K' hK;refine aR fun K' hK=> ?_
 simp;refine ak (uZ root hr true) rfl (by first | rfl | (simp;done) | (simp;rfl) | (simp;exact⟨rfl,rfl⟩)) ?_;simp;apply hK;clear K' hK;by_cases c1:dM root true=0
 ·refine aA ?_;refine aR fun K' hK=> ?_
  simp[c1];apply hK;clear K' hK;refine aYk (by simp) ?_;refine aR fun K' hK=> ?_
  simp;refine ak (E8 L hL) rfl (by first | rfl | (simp;done) | (simp;rfl) | (simp;exact⟨rfl,rfl⟩)) ?_;simp;apply hK;clear K' hK;by_cases c2:dK L=0
  ·refine aA ?_;refine aR fun K' hK=> ?_
   simp[c2];apply hK;clear K' hK;refine aYk (by simp) ?_;refine aR fun K' hK=> ?_
   simp;refine ak (xU t ht) rfl (by first | rfl | (simp;done) | (simp;rfl) | (simp;exact⟨rfl,rfl⟩)) ?_;simp;apply hK;clear K' hK;apply aF
   simp[au,aG,Post,aW,res1,bF,bC,aP,bg,bf,okT,okA,ok1,rowOf,Tryz.f83];simp only[codeV,fQ,orN,c1,c2,if_true];split
   ·assumption
   ·rfl
  ·refine aA ?_;refine aR fun K' hK=> ?_
   simp[c2];apply hK;clear K' hK;refine aX (by simp[c2]) ?_;apply aA;refine aR fun K' hK=> ?_
   simp;apply hK;clear K' hK;apply aJ
   simp[au,aG,Post,aW,res1,bF,bC,aP,bg,bf,okT,okA,ok1,rowOf,Tryz.f83];simp[codeV,fQ,orN,c1,c2]
 ·refine aA ?_;refine aR fun K' hK=> ?_
  simp[c1];apply hK;clear K' hK;refine aX (by simp[c1]) ?_;apply aA;refine aR fun K' hK=> ?_
  simp;apply hK;clear K' hK;apply aJ
  simp[au,aG,Post,aW,res1,bF,bC,aP,bg,bf,okT,okA,ok1,rowOf,Tryz.f83];simp[codeV,fQ,orN,c1]
theorem ES (d:Dep):CallsOK Tryz.prog 133 [.agg d.cells] (bV (!decide (d.kind=3))) []:=by
 refine aN mixed Tryz.call133 Tryz.func133 rfl (by rw[Tryz.ntmps133];simp) ?_ rfl;rw[Tryz.ntmps133];refine aR fun K' hK=> ?_
 simp;apply hK;clear K' hK;refine aR fun K' hK=> ?_
 simp;apply hK;clear K' hK;apply aF
 simp[au,aG,Post,aW,res1,bF,bC,aP,bg,bf,okT,okA,ok1,rowOf,Tryz.f133]
theorem Dj (t:List Pl) (g:Good t) (ht:OKs t) (n:Nat) (hn:n<t.length) (d:Dep):CallsOK Tryz.prog 92 [rowT Pl.cells t,iV n,.agg d.cells] (iV (toN t n d)) []:=by
 refine aN mixed Tryz.call92 Tryz.func92 rfl (by rw[Tryz.ntmps92];simp) ?_ rfl;rw[Tryz.ntmps92];have hB:¬((n:Int)<0∨(t.length:Int)≤n):=(by omega);have hv:toN t n d=dF t (if d.kind=4∧(0:Int)<n then(nth t (n:Int).toNat).par else n) d.name:=(by rw[toN,if_neg hB]);rw[Int.toNat_natCast]at hv;rw[hv];refine aR fun K' hK=> ?_
 simp;apply hK;clear K' hK;refine aR fun K' hK=> ?_
 simp;apply hK;clear K' hK;by_cases c:d.kind=4
 ·by_cases c2:0<n
  ·have c2':(0:Int)<n:=(by omega);obtain⟨p0,p1⟩:=g.par n (by omega) hn;have hp:(nth t n).par=((parN t n).toNat:Nat):=(by show parN t n=_;omega);have hR:=lQ t g ht (parN t n).toNat (by omega) d.name;rw[if_pos ⟨c,c2'⟩,hp];apply aA;refine aR fun K' hK=> ?_
   simp[c,c2,c2'];apply hK;clear K' hK;refine aX (by simp) ?_;refine aR fun K' hK=> ?_
   simp[hn,hp];apply hK;clear K' hK;refine aR fun K' hK=> ?_
   simp;refine ak hR rfl (by first | rfl | (simp;done) | (simp;rfl) | (simp;exact⟨rfl,rfl⟩)) ?_;simp;apply hK;clear K' hK;apply aF
   simp[au,aG,Post,aW,res1,bF,bC,aP,bg,bf,okT,okA,ok1,rowOf,Tryz.f92]
  ·have c2':¬(0:Int)<n:=(by omega);rw[if_neg (fun h=>c2' h.2)];apply aA;refine aR fun K' hK=> ?_
   simp[c,c2,c2'];apply hK;clear K' hK;refine aYk (by simp) ?_;refine aR fun K' hK=> ?_
   simp;refine ak (lQ t g ht n hn d.name) rfl (by first | rfl | (simp;done) | (simp;rfl) | (simp;exact⟨rfl,rfl⟩)) ?_;simp;apply hK;clear K' hK;apply aF
   simp[au,aG,Post,aW,res1,bF,bC,aP,bg,bf,okT,okA,ok1,rowOf,Tryz.f92]
 ·rw[if_neg (fun h=>c h.1)];apply aA;refine aR fun K' hK=> ?_
  simp[c];apply hK;clear K' hK;refine aYk (by simp[c]) ?_;refine aR fun K' hK=> ?_
  simp;refine ak (lQ t g ht n hn d.name) rfl (by first | rfl | (simp;done) | (simp;rfl) | (simp;exact⟨rfl,rfl⟩)) ?_;simp;apply hK;clear K' hK;apply aF
  simp[au,aG,Post,aW,res1,bF,bC,aP,bg,bf,okT,okA,ok1,rowOf,Tryz.f92]
theorem qU (t:List Pl) (g:Good t) (ht:OKs t) (hv:∀p∈t,p.ver.pre.size≤1000000) (n:Nat) (hn:n<t.length) (d:Dep) (hd:Rg.sz d.range):CallsOK Tryz.prog 91 [rowT Pl.cells t,iV n,.agg d.cells] (bV (holdsV t n d)) []:=by
 refine aN mixed Tryz.call91 Tryz.func91 rfl (by rw[Tryz.ntmps91];simp) ?_ rfl;rw[Tryz.ntmps91];have hdef:holdsV t n d=if toN t n d<0 then decide (d.kind=3)else dQ (nth t (toN t n d).toNat).ver d.range:=(by rw[holdsV,if_pos (gI.2 ⟨g,by omega,by omega⟩)]);have hlt:=QI t n d;refine aR fun K' hK=> ?_
 simp;apply hK;clear K' hK;refine aR fun K' hK=> ?_
 simp;refine ak (Dj t g ht n hn d) rfl (by first | rfl | (simp;done) | (simp;rfl) | (simp;exact⟨rfl,rfl⟩)) ?_;simp;apply hK;clear K' hK;rw[hdef];generalize toN t n d=k at*;by_cases hk:k<0
 ·refine aA ?_;refine aR fun K' hK=> ?_
  simp[hk];apply hK;clear K' hK;refine aX (by simp) ?_;apply aA;refine aR fun K' hK=> ?_
  simp;refine ak (ES d) rfl (by first | rfl | (simp;done) | (simp;rfl) | (simp;exact⟨rfl,rfl⟩)) ?_;simp;apply hK;clear K' hK;apply aJ
  simp[au,aG,Post,aW,res1,bF,bC,aP,bg,bf,okT,okA,ok1,rowOf,Tryz.f91];exact fun h=>by omega
 ·have hk0:0≤k:=(by omega);have hin:k.toNat<t.length:=(by omega);apply aA;refine aR fun K' hK=> ?_
  simp[hk];apply hK;clear K' hK;refine aYk (by simp) ?_
  generalize hj:k.toNat=j at*;refine aQ fun K' hK=> ?_
  simp[hk0,hlt,hin,hj];refine ak (yI d.range (nth t j).ver hd (hv _ (bM hin))) rfl (by simp[Rg.cells]) ?_;simp;apply hK;clear K' hK;apply aF
  simp[au,aG,Post,aW,res1,bF,bC,aP,bg,bf,okT,okA,ok1,rowOf,Tryz.f91];exact fun h=>by omega
set_option maxRecDepth 100000
set_option maxHeartbeats 4000000
theorem S9 (rules:List Ru) (b:Bool) (hrl:Ru.okL rules):CallsOK Tryz.prog 89 [.agg Eo,rowT Ru.cells rules,bV b] (.row 0 0) [(35,[])]:=by
 have h:=zZ Qi rules b ⟨by simp[Qi],by simp[Qi]⟩ (by simp[Qi]) hrl;have e:ofF Qi.deps rules b=[]:=Lu rules b;rw[e]at h;exact h.weak (.cons (.agg (.cons (.refl _) (.cons (.refl _) (.cons (.refl _) (.cons (.refl _) (.cons (.refl _) (.cons .nilRow (.cons .nilRow .nil)))))))) (.cons (.refl _) (.cons (.refl _) .nil)))
theorem Jv {root:Man} {L:List Man} {t:List Pl} {n:Nat} (g:Good t) (hn:n<t.length):manVal root L t n=if n=0 then some root else jC L (nth t n).name (nth t n).ver:=by
 unfold manVal;rw[if_pos (gI.2 ⟨g,by omega,by omega⟩),Int.toNat_natCast];by_cases h:n=0
 ·rw[if_pos h,if_pos (by omega)]
 ·rw[if_neg h,if_neg (by omega)]
theorem qh (root:Man) (hr:Man.sz root) (hro:Man.okS root) (L:List Man) (hL:Idx.sz L) (hLo:∀m∈L,Man.okS m) (t:List Pl) (g:Good t) (n:Nat) (hn:n<t.length):
  CallsOK Tryz.prog 47 [.agg root.cells,rowT Man.cells L,rowT Pl.cells t,iV n] (.tup [.row 0 (edgesV root L t n).length,bV (manVal root L t n).isSome]) [(35,flat Dep.cells (edgesV root L t n))]:=by
 refine aN mixed Tryz.call47 Tryz.func47 rfl (by rw[Tryz.ntmps47];simp) ?_ rfl;rw[Tryz.ntmps47];have hmv:=Jv (root:=root) (L:=L) g hn;unfold edgesV;refine aR fun K' hK=> ?_
 simp;apply hK;clear K' hK;by_cases hz:n=0
 ·rw[if_pos hz]at hmv;rw[hmv];subst hz;apply aA;refine aR fun K' hK=> ?_
  simp;apply hK;clear K' hK;refine aX (by simp) ?_;apply aA;refine aR fun K' hK=> ?_
  simp;refine aO (zZ root root.rules true hro.1 hr.2.2.1.1 hro.2) (by first | rfl | (simp;done) | (simp;rfl) | (simp;exact⟨rfl,rfl⟩)) ?_;simp[bK];apply hK;clear K' hK;apply aJ
  simp[au,aG,Post,aW,res1,bF,bC,aP,bg,bf,okT,okA,ok1,rowOf,Tryz.f47]
 ·rw[if_neg hz]at hmv;rw[hmv];have hz2:¬(n:Int)=0:=(by omega);have hdec:decide ((n:Int)=0)=false:=(by simpa using hz);rw[hdec];apply aA;refine aR fun K' hK=> ?_
  simp[hz,hz2];apply hK;clear K' hK;refine aYk (by simp) ?_
  have hF:=NC L hL.1 hLo (nth t n).name (nth t n).ver;have hmm:∀m,jC L (nth t n).name (nth t n).ver=some m→Man.sz m∧Man.okS m:=fun m h=>by
   have:=List.mem_of_find?_eq_some h;exact⟨hL.2 _ this,hLo _ this⟩
  generalize jC L (nth t n).name (nth t n).ver=r at*;cases r with
  | none=>
   refine fH none [] (by decide+kernel) (by decide+kernel) (fun p' hp'=>by cases hp') fun K' hK=> ?_;simp[hn];refine aO hF (by first | rfl | (simp;done) | (simp;rfl) | (simp;exact⟨rfl,rfl⟩)) ?_;simp[uM,dO];apply hK;clear K' hK;refine aR fun K' hK=> ?_
   simp;refine aO (S9 root.rules false hro.2) (by first | rfl | (simp;done) | (simp;rfl) | (simp;exact⟨rfl,rfl⟩)) ?_;simp[bK];apply hK;clear K' hK;apply aF
   simp[au,aG,Post,aW,res1,bF,bC,aP,bg,bf,okT,okA,ok1,rowOf,Tryz.f47]
  | some m=>
   obtain⟨mz,mo⟩:=hmm m rfl;refine fH none [] (by decide+kernel) (by decide+kernel) (fun p' hp'=>by cases hp') fun K' hK=> ?_;simp[hn];refine aO hF (by first | rfl | (simp;done) | (simp;rfl) | (simp;exact⟨rfl,rfl⟩)) ?_;simp[uM,kM];apply hK;clear K' hK;refine fV (fun u H nz=>u 4=.ptr 0 0∧u 10=.ptr 4 0∧u 11=bV true∧nz=5∧H 0=some (.var 27 root.cells)∧H 2=some (.row 35 (flat Dep.cells m.deps))∧H 3=some (.row 134 (flat Ru.cells m.rules))∧H 4=some (.var 27 (m.dX (.row 2 m.deps.length) (.row 3 m.rules.length)))) ?_ ?_
   ·exact⟨by simp,by simp,by simp,by simp,by simp,by simp,by simp,by simp⟩
   rintro u H nz ⟨u4,u10,u11,rfl,h0,k1,k2,k3⟩;have hT:=nS (show¬3=2 by omega) k1 k2;refine aR fun K' hK=> ?_
   simp[u4,u10,h0,k3];refine aO (zZ m root.rules false mo.1 mz.2.2.1.1 hro.2) (by simp[hT]) ?_;simp[bK,hT,u11];apply hK;clear K' hK;apply aF
   simp[au,aG,Post,aW,res1,bF,bC,aP,bg,bf,okT,okA,ok1,rowOf,Tryz.f47]
theorem JE {root:Man} {L:List Man} {t:List Pl} {n:Nat} :iI root L t n=((manVal root L t n).isSome&&(edgesV root L t n).all (holdsV t n)):=by
 unfold iI edgesV;cases manVal root L t n with
 | none=>rfl
 | some m=>rfl
theorem Lr {root:Man} {L:List Man} {t:List Pl} {n:Nat} (hr:Man.sz root) (hL:Idx.sz L):(edgesV root L t n).length≤1000000000∧∀d∈edgesV root L t n,Rg.sz d.range:=by
 unfold edgesV;cases hm:manVal root L t n with
 | none=>exact⟨by simp,fun d hd=>by simp at hd⟩
 | some m=>
  have hmz:Man.sz m:=by
   rcases nM hm with rfl | h
   ·exact hr
   ·exact hL.2 _ h
  exact⟨BK hmz.2.2.1.1,fun d hd=>by
   rcases wM hd with⟨e,he,h⟩ | ⟨e,he,h⟩
   ·rw[h];exact(hmz.2.2.1.2 e he).2
   ·rw[h];exact(hr.2.2.2.2 e he).2⟩
theorem MR (root:Man) (L:List Man) (t:List Pl) (h:fP root L t) (g:Good t) (n:Nat) (hn:n<t.length):CallsOK Tryz.prog 84 [.agg root.cells,rowT Man.cells L,rowT Pl.cells t,iV n] (bV (iI root L t n)) []:=by
 obtain⟨hrz,hro,hLz,hLo,ht,hv⟩:=h;refine aN mixed Tryz.call84 Tryz.func84 rfl (by rw[Tryz.ntmps84];simp) ?_ rfl;rw[Tryz.ntmps84];have hE:=qh root hrz hro L hLz hLo t g n hn;have hf:=JE (root:=root) (L:=L) (t:=t) (n:=n);obtain⟨hEl,hEz⟩:=Lr (root:=root) (L:=L) (t:=t) (n:=n) hrz hLz;generalize edgesV root L t n=E at*;generalize (manVal root L t n).isSome=ok0 at*;generalize iI root L t n=F at*;refine aR fun K' hK=> ?_
 simp;apply hK;clear K' hK;refine aR fun K' hK=> ?_
 simp;refine aO hE (by first | rfl | (simp;done) | (simp;rfl) | (simp;exact⟨rfl,rfl⟩)) ?_;simp[bK];apply hK;clear K' hK;apply aA;refine aR fun K' hK=> ?_
 simp;apply hK;clear K' hK;apply aB
 refine bH (fun s G nx=>s 2=rowT Pl.cells t∧s 3=iV n∧s 9=.row 1 E.length∧G 1=some (.row 35 (flat Dep.cells E))∧∃j:Nat,s 11=iV j∧j≤E.length∧s 10=bV (ok0&&(E.take j).all (holdsV t n))) (fun s _ _=>match s 11 with | .v (.int _ n)=>E.length-n.toNat | _=>0) ?_ ?_
 ·exact⟨by simp,by simp,by simp,by simp,0,by simp,by omega,by simp⟩
 ·rintro s G nx hfr ⟨s2,s3,s9,g1,j,s11,hj,s10⟩;have hw:IntKind.i64.wrap (↑j+1)=((j+1:Nat):Int):=dh (by omega);by_cases hj2:j<E.length
  ·have hstep:=iK (p:=holdsV t n) hj2;have hall:(ok0&&(E.take j).all (holdsV t n))=false→F=false:=fun h=>by
    rw[hf];cases ok0 with
    | false=>rfl
    | true=>
     simp only[Bool.true_and]at h⊢;rw[←List.take_append_drop j E,List.all_append,h];rfl
   generalize hcur:(ok0&&(E.take j).all (holdsV t n))=cur at*;cases cur with
   | false=>
    apply aA;refine aR fun K' hK=> ?_
    simp[s9,s10,s11,g1,hj2];apply hK;clear K' hK;refine aY (by simp) ?_;apply bG
    refine aI (aH ?_);refine aR fun K' hK=> ?_
    simp[s10];apply hK;clear K' hK;apply aF
    simp[au,aG,Post,aW,res1,bF,bC,aP,bg,bf,okT,okA,ok1,rowOf,Tryz.f84];first | exact hall rfl | exact(hall rfl).symm
   | true=>
    apply aA;refine aR fun K' hK=> ?_
    simp[s9,s10,s11,g1,hj2];apply hK;clear K' hK;refine aXk (by simp) ?_;apply aB;refine aS fun K' hK=> ?_
    simp[s2,s3,s9,s11,g1,hj2];refine ak (qU t g ht hv n hn (nth E j) (hEz _ (bM hj2))) rfl (by first | rfl | (simp;done) | (simp;rfl) | (simp;exact⟨rfl,rfl⟩)) ?_;simp;apply hK;clear K' hK;apply aj
    refine ah ?_;refine aS fun K' hK=> ?_
    simp[s11,hw];apply hK;clear K' hK;refine aj (ay ?_ ?_)
    ·exact⟨by simp[s2],by simp[s3],by simp[s9],by simp[g1],j+1,by simp[hw],by omega,by rw[hstep,←Bool.and_assoc,hcur];simp⟩
    ·simp[s11,hw];omega
  ·have hjE:j=E.length:=(by omega);rw[hjE,List.take_length,←hf]at s10;apply aA;refine aR fun K' hK=> ?_
   simp[s9,s10,s11,g1,hj2];apply hK;clear K' hK;refine aY (by simp) ?_;apply bG
   refine aI (aH ?_);refine aR fun K' hK=> ?_
   simp[s10];apply hK;clear K' hK;apply aF
   simp[au,aG,Post,aW,res1,bF,bC,aP,bg,bf,okT,okA,ok1,rowOf,Tryz.f84]
theorem O9 {t:List Pl} (g:Good t):fF t 0=(List.range t.length).map fun(n:Nat)=>(n:Int):=by
 unfold fF;rw[if_pos (gI.2 ⟨g,by omega,by have:=g.pos;omega⟩)];unfold jf;congr 1;rw[List.filter_eq_self];intro j hj;have hj:=List.mem_range.1 hj;have hmem:=Oc g hj;have hb:=CP (i:=0) g g.pos hj;have hu:fU t j (0:Nat)=true:=by
  rw[←hb];exact List.any_eq_true.2 ⟨_,hmem,by simp⟩
 simpa using hu
theorem Qn {root:Man} {L:List Man} {t:List Pl} (g:Good t):mY root L t=((List.range t.length).filter fun n=> !iI root L t (n:Nat)).map fun(n:Nat)=>(n:Int):=by
 unfold mY;rw[O9 g,List.filter_map];rfl
set_option maxRecDepth 100000
set_option maxHeartbeats 4000000
theorem Nl (L:List Man) (hl:L.length≤1000000000) (b:Bs):CallsOK Tryz.prog 94 [rowT Man.cells L,sV b] (.row 0 (gJ L b).length) [(23,flat Ver.cells (gJ L b))]:=by
 refine aN mixed Tryz.call94 Tryz.func94 rfl (by rw[Tryz.ntmps94];simp) ?_ rfl;rw[Tryz.ntmps94];refine aR fun K' hK=> ?_
 simp;apply hK;clear K' hK;refine aR fun K' hK=> ?_
 simp;apply hK;clear K' hK;apply aA;refine aR fun K' hK=> ?_
 simp;apply hK;clear K' hK;apply aB
 refine bH (fun s G nx=>s 0=rowT Man.cells L∧s 1=sV b∧∃(i r:Nat) (acc:List Ver),s 6=iV i∧i≤L.length∧acc=gJ (L.take i) b∧s 5=.row r acc.length∧G r=some (.row 23 (flat Ver.cells acc))∧r<nx) (fun s _ _=>match s 6 with | .v (.int _ n)=>L.length-n.toNat | _=>0) ?_ ?_
 ·exact⟨by simp,by simp,0,1,[],by simp,by omega,by simp[gJ],by simp,by simp,by omega⟩
 rintro s G nx-⟨s0,s1,i,r,acc,s6,hi,hacc,s5,gr,hr⟩;have hw:IntKind.i64.wrap (↑i+1)=((i+1:Nat):Int):=dh (by omega);have nr:¬r=nx:=(by omega);have rn:¬nx=r:=(by omega);apply aA;refine aR fun K' hK=> ?_
 simp[s0,s6];apply hK;clear K' hK;refine aC fun A B hA hB=> ?_
 simp;refine⟨fun hi2=>hA ?_,fun hi2=>hB ?_⟩<;>clear hA hB A B<;>(try simp at hi2)<;>(try with_reducible refine aK ?_)
 ·have hst:=BP (b:=b) hi2;have hal:acc.length≤i:=by
   have:=zQ (L:=L.take i) b;rw[List.length_take,←hacc]at this;omega
  rw[←hacc]at hst;have b1:acc.length+1≤9223372036854775807:=(by omega);have b2:(acc.length+1)*40≤140737488355328:=(by omega);have hfl:flat Ver.cells acc++(nth L i).ver.cells=flat Ver.cells (acc++[(nth L i).ver]):=(by rw[dV]);apply aB
  by_cases hn:(nth L i).name=b
  ·rw[if_pos hn]at hst;refine aR fun K' hK=> ?_
   simp[s0,s1,s6,hi2,hn];apply hK;clear K' hK;refine aU (by simp) ?_;refine aR fun K' hK=> ?_
   simp[s0,s5,s6,hi2,gr,nr,rn,b1,b2,hfl,bQ,dA];apply hK;clear K' hK;apply aj
   refine ah ?_;refine aS fun K' hK=> ?_
   simp[s6,hw];apply hK;clear K' hK;refine aj (ay ?_ ?_)
   ·exact⟨by simp[s0],by simp[s1],i+1,nx+1,acc++[(nth L i).ver],by simp[hw],by omega,hst.symm,by simp,by simp,by omega⟩
   ·simp[s6,hw];omega
  ·rw[if_neg hn,List.append_nil]at hst;refine aR fun K' hK=> ?_
   simp[s0,s1,s6,hi2,hn];apply hK;clear K' hK;refine aVk (by simp) ?_;apply aj
   refine ah ?_;refine aS fun K' hK=> ?_
   simp[s6,hw];apply hK;clear K' hK;refine aj (ay ?_ ?_)
   ·exact⟨by simp[s0],by simp[s1],i+1,r,acc,by simp[hw],by omega,hst.symm,by simp[s5],gr,hr⟩
   ·simp[s6,hw];omega
 ·skip;apply bG
  refine aI (aH ?_);rw[List.take_of_length_le (by omega)]at hacc;subst hacc;refine aR fun K' hK=> ?_
  simp[s5];apply hK;clear K' hK;apply aF
  simp[au,aG,Post,aW,res1,bF,bC,aP,bg,bf,okT,okA,ok1,rowOf,Tryz.f94,gr]
theorem Jt (l:List Ver) (hz:Ver.szL l) (hu:UpV l):CallsOK Tryz.prog 173 [rowT Ver.cells l] (.row 0 l.length) [(23,flat Ver.cells l)]:=by
 refine aN mixed Tryz.call173 Tryz.func173 rfl (by rw[Tryz.ntmps173];simp) ?_ rfl;rw[Tryz.ntmps173];have hll:=hz.1;refine aR fun K' hK=> ?_
 simp;apply hK;clear K' hK;refine aR fun K' hK=> ?_
 simp;apply hK;clear K' hK;apply aA;refine aR fun K' hK=> ?_
 simp;apply hK;clear K' hK;apply aB
 refine bH (fun s G nx=>s 0=rowT Ver.cells l∧∃(i r:Nat),s 4=iV i∧i≤l.length∧s 3=.row r i∧G r=some (.row 23 (flat Ver.cells (l.take i)))∧r<nx) (fun s _ _=>match s 4 with | .v (.int _ n)=>l.length-n.toNat | _=>0) ?_ ?_
 ·exact⟨by simp,0,1,by simp,by omega,by simp,by simp,by omega⟩
 rintro s G nx-⟨s0,i,r,s4,hi,s3,gr,hr⟩;have hw:IntKind.i64.wrap (↑i+1)=((i+1:Nat):Int):=dh (by omega);apply aA;refine aR fun K' hK=> ?_
 simp[s0,s4];apply hK;clear K' hK;refine aC fun A B hA hB=> ?_
 simp;refine⟨fun hi2=>hA ?_,fun hi2=>hB ?_⟩<;>clear hA hB A B<;>(try simp at hi2)<;>(try with_reducible refine aK ?_)
 ·have hok:=OE hu hi2;have hzi:=hz.2 _ (bM hi2);have hst:=take_snoc hi2;have hlt:(l.take i).length=i:=(by simp;omega);have hcat:∀j,j<i→nth (l.take i) j=nth l j:=fun j hj=>by
   rw[bZ (by omega),bZ (by omega),List.getElem_take]
  have hgt:∀j,j<i→0<dS (nth l i) (nth l j):=fun j hj=>Uy hu hj hi2;have hcs:∀j,j<i→CallsOK Tryz.prog 203 [.agg (nth l i).cells,.agg (nth l j).cells] (iV (dS (nth l i) (nth l j))) []:=fun j hj=>lS _ _ hzi (hz.2 _ (bM (by omega)));have hst2:∀j,j<i→(l.take i).take (j+1)=(l.take i).take j++[nth l j]:=fun j hj=>by
   have:=take_snoc (l:=l.take i) (i:=j) (by omega);rw[hcat j hj]at this;exact this
  generalize hgv:nth l i=v at*;generalize hgp:l.take i=p at*;apply aB;apply aA;refine aR fun K' hK=> ?_
  simp[s0,s4,hi2,hgv];refine ak (iU v (by omega)) rfl (by simp) ?_;simp;apply hK;clear K' hK;refine aYk (by simp[hok]) ?_;refine aR fun K' hK=> ?_
  simp;apply hK;clear K' hK;refine aR fun K' hK=> ?_
  simp;apply hK;clear K' hK;apply aA;refine aR fun K' hK=> ?_
  simp;apply hK;clear K' hK;apply aB
  refine bH (fun s G nx=>s 0=rowT Ver.cells l∧s 3=.row r i∧s 4=iV i∧s 6=bV false∧G r=some (.row 23 (flat Ver.cells p))∧r<nx∧∃(j q:Nat),s 7=iV j∧j≤i∧s 5=.row q j∧G q=some (.row 23 (flat Ver.cells (p.take j)))∧q<nx∧¬q=r) (fun s _ _=>match s 7 with | .v (.int _ n)=>i-n.toNat | _=>0) ?_ ?_
  ·have n1:¬r=nx:=(by omega);have n2:¬nx=r:=(by omega);exact⟨by simp[s0],by simp[s3],by simp[s4],by simp,by simp[n1,gr],by omega,0,nx,by simp,by omega,by simp,by simp,by omega,by omega⟩
  ·have o4:=s4;clear s0 s3 s4 gr hr;rintro s G nx-⟨s0,s3,s4,s6,gr,hr,j,q,s7,hj,s5,gq,hq,hqr⟩;have hw:IntKind.i64.wrap (↑j+1)=((j+1:Nat):Int):=dh (by omega);have nr:¬r=nx:=(by omega);have rn:¬nx=r:=(by omega);have nq:¬q=nx:=(by omega);have qn:¬nx=q:=(by omega);have rq:¬r=q:=fun e=>hqr e.symm;have nr1:¬r=nx+1:=(by omega);have nq1:¬q=nx+1:=(by omega);apply aA;refine aR fun K' hK=> ?_
   simp[s3,s7,gr];apply hK;clear K' hK;refine aC fun A B hA hB=> ?_
   simp;refine⟨fun hj2=>hA ?_,fun hj2=>hB ?_⟩<;>clear hA hB A B<;>(try simp at hj2)<;>(try with_reducible refine aK ?_)
   ·have hg:=hgt j hj2;have hn1:¬dS v (nth l j)<0:=(by omega);have hn2:¬dS v (nth l j)≤0:=(by omega);have hc:=hcs j hj2;have hs2:=hst2 j hj2;have hnp:=hcat j hj2;have hjp:j<p.length:=(by omega);have b1:j+1≤9223372036854775807:=(by omega);have b2:(j+1)*40≤140737488355328:=(by omega);have hmin:min j p.length=j:=(by omega);have hmin2:min j i=j:=(by omega);apply aB;refine aQ fun K' hK=> ?_
    simp[s0,s3,s4,s7,gr,hi2,hgv,hjp,hj2,hnp,hlt];refine ak hc rfl (by simp) ?_;simp;apply hK;clear K' hK;apply aA;refine aR fun K' hK=> ?_
    simp[s6,hn1];apply hK;clear K' hK;refine aYk (by simp) ?_;refine aR fun K' hK=> ?_
    simp[s6,hn2];apply hK;clear K' hK;refine aS fun K' hK=> ?_
    simp[s3,s5,s7,gr,gq,hjp,hj2,hnp,nr,rn,nq,qn,rq,hqr,nr1,nq1,b1,b2,hmin,hmin2,hlt,bQ,dA];apply hK;clear K' hK;apply aj
    refine ah ?_;refine aS fun K' hK=> ?_
    simp[s7,hw];apply hK;clear K' hK;refine aj (ay ?_ ?_)
    ·exact⟨by simp[s0],by simp[s3],by simp[s4],by simp[s6],by simp[nr,nr1,rq,gr],by omega,j+1,nx+1,by simp[hw],by omega,by simp,by rw[hs2,dV];simp,by omega,by omega⟩
    ·simp[s7,hw];omega
   ·skip;apply bG
    refine aI (aH ?_);have hje:j=i:=(by omega);subst hje;have hpt:p.take j=p:=List.take_of_length_le (by omega);rw[hpt]at gq;have b1:j+1≤9223372036854775807:=(by omega);have b2:(j+1)*40≤140737488355328:=(by omega);apply aA;refine aR fun K' hK=> ?_
    simp[s6];apply hK;clear K' hK;refine aX (by simp) ?_;refine aR fun K' hK=> ?_
    simp[s0,s4,s5,gq,hi2,hgv,nq,qn,nq1,b1,b2,hlt,bQ,dA];apply hK;clear K' hK;refine aS fun K' hK=> ?_
    simp;apply hK;clear K' hK;apply aj
    refine ah ?_;refine aS fun K' hK=> ?_
    simp[s4,hw];apply hK;clear K' hK;refine aj (ay ?_ ?_)
    ·exact⟨by simp[s0],j+1,nx+1,by simp[hw],by omega,by simp,by rw[hst,dV];simp,by omega⟩
    ·simp[o4,s4,hw];omega
 ·skip;apply bG
  refine aI (aH ?_);have hie:i=l.length:=(by omega);subst hie;rw[List.take_length]at gr;refine aR fun K' hK=> ?_
  simp[s3];apply hK;clear K' hK;apply aF
  simp[au,aG,Post,aW,res1,bF,bC,aP,bg,bf,okT,okA,ok1,rowOf,Tryz.f173,gr]
theorem MN (l:List Ver) (hz:Ver.szL l) (hu:UpV l) (r:Rg) (hr:Rg.sz r):CallsOK Tryz.prog 136 [rowT Ver.cells l,.agg r.cells] (.row 0 (allL l r).length) [(23,flat Ver.cells (allL l r))]:=by
 refine aN mixed Tryz.call136 Tryz.func136 rfl (by rw[Tryz.ntmps136];simp) ?_ rfl;rw[Tryz.ntmps136];have hll:=hz.1;have hw0:IntKind.i64.wrap ((l.length:Int)-1)=(l.length:Int)-1:=wrap64 (by omega) (by omega);refine aR fun K' hK=> ?_
 simp;apply hK;clear K' hK;refine aR fun K' hK=> ?_
 simp;refine aO (Jt l hz hu) (by simp) ?_;simp[bK];apply hK;clear K' hK;refine aR fun K' hK=> ?_
 simp;apply hK;clear K' hK;apply aA;refine aR fun K' hK=> ?_
 simp[hw0];apply hK;clear K' hK;apply aB
 refine bH (fun s G nx=>s 3=.ptr 0 0∧G 0=some (.var 33 r.cells)∧s 5=.row 2 l.length∧G 2=some (.row 23 (flat Ver.cells l))∧∃(k q:Nat) (acc:List Ver),s 7=iV ((k:Int)-1)∧k≤l.length∧acc=(l.drop k).reverse.filter (fun v=>dQ v r)∧s 6=.row q acc.length∧G q=some (.row 23 (flat Ver.cells acc))∧q<nx∧2<q) (fun s _ _=>match s 7 with | .v (.int _ n)=>(n+1).toNat | _=>0) ?_ ?_
 ·exact⟨by simp,by simp,by simp,by simp,l.length,3,[],by simp,by omega,by simp,by simp,by simp,by omega,by omega⟩
 rintro s G nx-⟨s3,g0,s5,g2,k,q,acc,s7,hk,hacc,s6,gq,hq,hq2⟩;rcases Nat.eq_zero_or_pos k with rfl | hkp
 ·have e:(((0:Nat):Int)-1)= -1:=(by omega);rw[e]at s7;rw[List.drop_zero]at hacc;have hacc:acc=allL l r:=hacc;subst hacc;apply aA;refine aR fun K' hK=> ?_
  simp[s7];apply hK;clear K' hK;refine aY (by simp) ?_;apply bG
  refine aI (aH ?_);refine aR fun K' hK=> ?_
  simp[s6];apply hK;clear K' hK;apply aF
  simp[au,aG,Post,aW,res1,bF,bC,aP,bg,bf,okT,okA,ok1,rowOf,Tryz.f136,gq]
 ·obtain⟨j,rfl⟩:∃j,k=j+1:=⟨k-1,by omega⟩;have e:(((j+1:Nat):Int)-1)=(j:Int):=(by omega);rw[e]at s7;have hj:j<l.length:=(by omega);have hst:=congrArg (List.filter fun v=>dQ v r) (G5 hj);rw[List.filter_append,←hacc]at hst;have hst2:List.filter (fun v=>dQ v r) [nth l j]=if dQ (nth l j) r=true then[nth l j]else[]:=by
   by_cases h:dQ (nth l j) r=true<;>simp[h]
  rw[hst2]at hst;have hvz:=hz.2 _ (bM hj);have hle:acc.length≤1000000000:=by
   rw[hacc];refine Nat.le_trans (List.length_filter_le _ _) ?_;simp;omega
  have hw:IntKind.i64.wrap ((j:Int)-1)=(j:Int)-1:=wrap64 (by omega) (by omega);have hj0:(0:Int)≤j:=(by omega);have hH:=yI r (nth l j) hr hvz;have n0:¬0=nx:=(by omega);have n2:¬2=nx:=(by omega);have nq:¬q=nx:=(by omega);have qn:¬nx=q:=(by omega);have q0:¬0=q:=(by omega);have q2:¬2=q:=(by omega);have nx1:¬nx=1:=(by omega);have hfl:flat Ver.cells acc++(nth l j).cells=flat Ver.cells (acc++[nth l j]):=(by rw[dV]);have b1:acc.length+1≤9223372036854775807:=(by omega);have b2:(acc.length+1)*40≤140737488355328:=(by omega);generalize hgv:nth l j=v at*;apply aA;refine aR fun K' hK=> ?_
  simp[s7,hj0];apply hK;clear K' hK;refine aXk (by simp) ?_;apply aB;refine aQ fun K' hK=> ?_
  simp[s3,s5,s7,g0,g2,hj,hgv];refine ak hH rfl (by simp[Rg.cells]) ?_;simp;apply hK;clear K' hK;by_cases hh:dQ v r=true
  ·rw[if_pos hh]at hst;refine aU (by simp[hh]) ?_;refine aR fun K' hK=> ?_
   simp[s5,s6,s7,g2,gq,hj,hgv,n2,nq,qn,q2,b1,b2,hfl,bQ,dA];apply hK;clear K' hK;apply aj
   refine ah ?_;refine aS fun K' hK=> ?_
   simp[s7,hw];apply hK;clear K' hK;refine aj (ay ?_ ?_)
   ·exact⟨by simp[s3],by simp[n0,q0,g0],by simp[s5],by simp[n2,nx1,q2,g2],j,nx+1,acc++[v],by simp[hw],by omega,hst.symm,by simp,by simp,by omega,by omega⟩
   ·simp[s7,hw]
  ·rw[if_neg hh,List.append_nil]at hst;refine aVk (by simp[hh]) ?_;apply aj
   refine ah ?_;refine aS fun K' hK=> ?_
   simp[s7,hw];apply hK;clear K' hK;refine aj (ay ?_ ?_)
   ·exact⟨by simp[s3],g0,by simp[s5],g2,j,q,acc,by simp[hw],by omega,hst.symm,by simp[s6],gq,hq,hq2⟩
   ·simp[s7,hw]
theorem Nu (l:List Ver) (hz:Ver.szL l) (hu:UpV l) (r:Rg) (hr:Rg.sz r):CallsOK Tryz.prog 93 [rowT Ver.cells l,.agg r.cells] (uh (rM l r)) []:=by
 rw[Ho];have hA:=MN l hz hu r hr;refine aN mixed Tryz.call93 Tryz.func93 rfl (by rw[Tryz.ntmps93];simp) ?_ ?_
 ·rw[Tryz.ntmps93];generalize allL l r=a at*;refine aR fun K' hK=> ?_
  simp;apply hK;clear K' hK;refine aR fun K' hK=> ?_
  simp;refine aO hA (by simp[Rg.cells]) ?_;simp[bK];apply hK;clear K' hK;cases a with
  | nil=>
   apply aA;refine aR fun K' hK=> ?_
   simp;apply hK;clear K' hK;refine aX (by simp) ?_;apply aA;refine aR fun K' hK=> ?_
   simp[OL,Ver.cells];apply hK;clear K' hK;apply aJ
   simp[au,aG,Post,aW,res1,bF,bC,aP,bg,bf,okT,okA,ok1,rowOf,Tryz.f93,uh,OL,Ver.cells]
  | cons v a=>
   have e:uh ((v::a).head?)=.tup [.agg v.cells,bV true]:=rfl;rw[e];have hp:(0:Int)<((v::a).length:Nat):=(by rw[List.length_cons];omega);have hp2:0<(v::a).length:=(by simp);have hp3:¬(v::a).length=0:=(by simp);have hnv:nth (v::a) 0=v:=rfl;generalize (v::a)=b at*;have hp4:¬(b.length:Int)=0:=(by omega);apply aA;refine aR fun K' hK=> ?_
   simp[hp3,hp4];apply hK;clear K' hK;refine aYk (by simp) ?_;refine aR fun K' hK=> ?_
   simp[hp,hp2,hnv,Ver.cells];apply hK;clear K' hK;apply aF
   simp[au,aG,Post,aW,res1,bF,bC,aP,bg,bf,okT,okA,ok1,rowOf,Tryz.f93,Ver.cells]
 ·cases allL l r<;>rfl
theorem Hu (t:List Pl) (g:Good t) (p:Nat) (b:Bs):CallsOK Tryz.prog 85 [rowT Pl.cells t,iV p,sV b] (bV (!decide (chF t p b=none))) []:=by
 refine aN mixed Tryz.call85 Tryz.func85 rfl (by rw[Tryz.ntmps85];simp) ?_ rfl;rw[Tryz.ntmps85];have htl:=g.le;refine aR fun K' hK=> ?_
 simp;apply hK;clear K' hK;apply aA;refine aR fun K' hK=> ?_
 simp;apply hK;clear K' hK;apply aB
 refine bH (fun s G nx=>s 0=rowT Pl.cells t∧s 1=iV p∧s 2=sV b∧∃i:Nat,s 7=iV i∧1≤i∧i≤t.length∧∀j,j<i→¬(parN t j=p∧(nth t j).name=b)) (fun s _ _=>match s 7 with | .v (.int _ n)=>t.length-n.toNat | _=>0) ?_ ?_
 ·exact⟨by simp,by simp,by simp,1,by simp,by omega,g.pos,fun j hj h=>by
   have:j=0:=(by omega);subst this;have:=iQ g.root;omega⟩
 rintro s G nx-⟨s0,s1,s2,i,s7,hi1,hi,hno⟩;have hw:IntKind.i64.wrap (↑i+1)=((i+1:Nat):Int):=dh (by omega);apply aA;refine aR fun K' hK=> ?_
 simp[s0,s7];apply hK;clear K' hK;refine aC fun A B hA hB=> ?_
 simp;refine⟨fun hi2=>hA ?_,fun hi2=>hB ?_⟩<;>clear hA hB A B<;>(try simp at hi2)<;>(try with_reducible refine aK ?_)
 ·have hpe:(nth t i).par=parN t i:=rfl;apply aB
  by_cases h1:parN t i=p
  ·by_cases h2:(nth t i).name=b
   ·skip;refine aR fun K' hK=> ?_
    simp[s0,s1,s2,s7,hi2,hpe,h1,h2];apply hK;clear K' hK;refine aU (by simp) ?_;apply aA;refine aR fun K' hK=> ?_
    simp;apply hK;clear K' hK;apply aJ
    simp[au,aG,Post,aW,res1,bF,bC,aP,bg,bf,okT,okA,ok1,rowOf,Tryz.f85];intro hc;exact kK.1 hc i hi2 h1 h2
   ·skip;refine aR fun K' hK=> ?_
    simp[s0,s1,s2,s7,hi2,hpe,h1,h2];apply hK;clear K' hK;refine aVk (by simp) ?_;apply aj
    refine ah ?_;refine aS fun K' hK=> ?_
    simp[s7,hw];apply hK;clear K' hK;refine aj (ay ?_ ?_)
    ·exact⟨by simp[s0],by simp[s1],by simp[s2],i+1,by simp[hw],by omega,by omega,fun j hj h=>by
      rcases Nat.lt_or_ge j i with h3 | h3
      ·exact hno j h3 h
      ·have:j=i:=(by omega);subst this;exact h2 h.2⟩
    ·simp[s7,hw];omega
  ·skip;refine aR fun K' hK=> ?_
   simp[s0,s1,s2,s7,hi2,hpe,h1];apply hK;clear K' hK;refine aVk (by simp) ?_;apply aj
   refine ah ?_;refine aS fun K' hK=> ?_
   simp[s7,hw];apply hK;clear K' hK;refine aj (ay ?_ ?_)
   ·exact⟨by simp[s0],by simp[s1],by simp[s2],i+1,by simp[hw],by omega,by omega,fun j hj h=>by
     rcases Nat.lt_or_ge j i with h3 | h3
     ·exact hno j h3 h
     ·have:j=i:=(by omega);subst this;exact h1 h.1⟩
   ·simp[s7,hw];omega
 ·skip;apply bG
  refine aI (aH ?_);have hc:chF t p b=none:=kK.2 fun k hk h1 h2=>hno k (by omega) ⟨h1,h2⟩;rw[hc];refine aR fun K' hK=> ?_
  simp;apply hK;clear K' hK;apply aF
  simp[au,aG,Post,aW,res1,bF,bC,aP,bg,bf,okT,okA,ok1,rowOf,Tryz.f85]
set_option maxRecDepth 100000
set_option maxHeartbeats 400000
theorem OY {M:List Dep} {n:Bs} (h:n∈cu M):(findD M n).name=n:=by
 unfold findD;cases hp:posM M n with
 | none=>exact(kF.1 hp h).elim
 | some j=>
  unfold posM at hp;rw[List.findIdx?_eq_some_iff_getElem]at hp;obtain⟨h1,h2,_⟩:=hp;simp only;rw[bZ h1];exact of_decide_eq_true h2
theorem Rh (ds:List Dep) (rules:List Ru) (root:Bool):cu (ofF ds rules root)=mQ (cu (byM root ds)):=by
 unfold ofF;rw[show∀l:List Dep,cu l=l.map fun d=>d.name from fun _=>rfl,List.map_map]
 conv=>rhs;rw[←List.map_id (mQ (cu (byM root ds)))]
 refine List.map_congr_left fun n hn=> ?_;exact OY ((fE _).mem_iff.1 hn)
set_option maxRecDepth 100000
set_option maxHeartbeats 4000000
theorem CO {root:Man} {L:List Man} {t:List Pl} {i:Int} {m:Man} (hr:Man.sz root) (hL:Idx.sz L) (h:manVal root L t i=some m):Man.sz m:=by
 rcases nM h with rfl | h
 ·exact hr
 ·exact hL.2 _ h
theorem jW {root:Man} {L:List Man} {t:List Pl} {n:Nat} (hr:Man.sz root) (hL:Idx.sz L):∀d∈edgesV root L t n,Rg.sz d.range∧d.name.size≤1000000:=by
 intro d hd;unfold edgesV at hd;cases hm:manVal root L t n with
 | none=>rw[hm]at hd;simp at hd
 | some m=>
  rw[hm]at hd;have hz:=CO hr hL hm;have hd:d∈ofF m.deps root.rules (decide ((n:Int)=0)):=hd;constructor
  ·rcases wM hd with⟨e,he,h⟩ | ⟨e,he,h⟩
   ·rw[h];exact(hz.2.2.1.2 e he).2
   ·rw[h];exact(hr.2.2.2.2 e he).2
  ·have h1:d.name∈cu (ofF m.deps root.rules (decide ((n:Int)=0))):=List.mem_map.2 ⟨d,hd,rfl⟩;rw[Rh,(fE _).mem_iff]at h1;obtain⟨e,he,h2⟩:=List.mem_map.1 h1;rw[←h2];exact(hz.2.2.1.2 e (zV he)).1
theorem nC {root:Man} {L:List Man} {t:List Pl} {n:Nat} (hr:Man.sz root) (hL:Idx.sz L):(edgesV root L t n).length≤1000000000:=by
 unfold edgesV;cases hm:manVal root L t n with
 | none=>simp
 | some m=>
  have hz:=CO hr hL hm;exact BK hz.2.2.1.1
theorem G9 {L:List Man} (hL:Idx.sz L) (h10:L.length≤12) (b:Bs):Ver.szL (gJ L b)∧(gJ L b).length≤12:=by
 have h1:=zQ (L:=L) b;refine⟨⟨by omega,fun v hv=> ?_⟩,by omega⟩;obtain⟨m,hm,_,rfl⟩:=Gu hv;exact(hL.2 m hm).2.1
theorem Nk {root:Man} {L:List Man} {t:List Pl} {i:Int} {b:Bs} {v:Ver} (h:fP root L t) (hl:t.length<1000) (hb:b.size≤1000000) (hv:v.pre.size≤1000000):fP root L (jc t i b v):=by
 obtain⟨h1,h2,h3,h4,h5,h6⟩:=h;refine⟨h1,h2,h3,h4,RD h5 (by omega) (by omega) (by omega),fun p hp=> ?_⟩;unfold jc at hp;rcases List.mem_append.1 hp with hp | hp
 ·exact h6 p hp
 ·simp at hp;subst hp;exact hv
def sK (root:Man) (L:List Man):List AV:=root.cells++[rowT Man.cells L]
@[simp] theorem refP_len (root:Man) (L:List Man):(sK root L).length=8:=rfl
@[simp] theorem refP_root (root:Man) (L:List Man):gU (sK root L) 0 7=some root.cells:=rfl
@[simp] theorem refP_x (root:Man) (L:List Man):gU (sK root L) 7 1=some [rowT Man.cells L]:=rfl
@[simp] theorem refP_all (root:Man) (L:List Man):gU (sK root L) 0 8=some (sK root L):=rfl
@[simp] theorem refP_one (root:Man) (L:List Man):(sK root L).all AV.one=true:=rfl
def oZ (root:Man) (L:List Man) (t u:List Pl) (n:Nat):Bool:=(edgesV root L t n).all fun d=> !holdsV t n d || holdsV u n d
theorem BQ (root:Man) (L:List Man) (t u:List Pl):l9 root L t u=(List.range t.length).all (oZ root L t u):=rfl
theorem DK {p:Nat→Bool} {k:Nat} (h:∀j,j<k→p j=true):(List.range k).all p=true:=List.all_eq_true.2 fun x hx=>h x (List.mem_range.1 hx)
theorem ug {p:Nat→Bool} {k n:Nat} (hn:n<k) (h:p n=false):(List.range k).all p=false:=by
 rw[←Bool.not_eq_true,List.all_eq_true];intro hh;have:=hh n (List.mem_range.2 hn);rw[h]at this;cases this
theorem JK (root:Man) (L:List Man) (t u:List Pl) (hsz:fP root L t) (hszu:fP root L u) (g:Good t) (gu:Good u) (hle:t.length≤u.length):CallsOK Tryz.prog 87 [.agg (sK root L),rowT Pl.cells t,rowT Pl.cells u] (bV (l9 root L t u)) []:=by
 obtain⟨hr,hro,hL,hLo,ht,htv⟩:=id hsz;obtain⟨_,_,_,_,hu,huv⟩:=id hszu;have htl:=g.le;rw[BQ];refine aN mixed Tryz.call87 Tryz.func87 rfl (by rw[Tryz.ntmps87];simp) ?_ rfl;rw[Tryz.ntmps87];refine aR fun K' hK=> ?_
 simp;apply hK;clear K' hK;apply aA;refine aR fun K' hK=> ?_
 simp;apply hK;clear K' hK;apply aB
 refine bH (fun s G nx=>s 1=rowT Pl.cells t∧s 2=rowT Pl.cells u∧s 3=.ptr 0 0∧G 0=some (.var 83 (sK root L))∧0<nx∧∃n:Nat,s 7=iV n∧n≤t.length∧∀j,j<n→oZ root L t u j=true) (fun s _ _=>match s 7 with | .v (.int _ n)=>t.length-n.toNat | _=>0) ?_ ?_
 ·exact⟨by simp,by simp,by simp,by simp,by omega,0,by simp,by omega,fun j hj=>by omega⟩
 rintro s G nx-⟨s1,s2,s3,g0,hnx,n,s7,hn,hall⟩;have hwn:IntKind.i64.wrap (↑n+1)=((n+1:Nat):Int):=dh (by omega);apply aA;refine aR fun K' hK=> ?_
 simp[s1,s7];apply hK;clear K' hK;refine aC fun A B hA hB=> ?_
 simp;refine⟨fun hn2=>hA ?_,fun hn2=>hB ?_⟩<;>clear hA hB A B<;>(try simp at hn2)<;>(try with_reducible refine aK ?_)
 ·have hE:=qh root hr hro L hL hLo t g n hn2;have hEz:=jW (t:=t) (n:=n) hr hL;have hEl:=nC (t:=t) (n:=n) hr hL;have hat:oZ root L t u n=(edgesV root L t n).all fun d=> !holdsV t n d || holdsV u n d:=rfl;have hG:=fun d (hd:Rg.sz d.range)=>qU t g ht htv n hn2 d hd;have hH:=fun d (hd:Rg.sz d.range)=>qU u gu hu huv n (by omega) d hd;generalize (manVal root L t n).isSome=sm at*;generalize edgesV root L t n=E at*;have n0:¬0=nx:=(by omega);apply aB;refine aR fun K' hK=> ?_
  simp[s1,s3,s7,g0];refine aO hE (by first | rfl | (simp;done) | (simp;rfl) | (simp;exact⟨rfl,rfl⟩)) ?_;simp[bK];apply hK;clear K' hK;refine aR fun K' hK=> ?_
  simp;apply hK;clear K' hK;refine dL (aB ?_)
  refine bH (fun s G ny=>s 1=rowT Pl.cells t∧s 2=rowT Pl.cells u∧s 3=.ptr 0 0∧G 0=some (.var 83 (sK root L))∧nx<ny∧s 7=iV n∧s 8=.row nx E.length∧G nx=some (.row 35 (flat Dep.cells E))∧∃j:Nat,s 10=iV j∧j≤E.length∧∀i,i<j→(!holdsV t n (nth E i) || holdsV u n (nth E i))=true) (fun s _ _=>match s 10 with | .v (.int _ n)=>E.length-n.toNat | _=>0) ?_ ?_
  ·exact⟨by simp[s1],by simp[s2],by simp[s3],by simp[n0,g0],by omega,by simp[s7],by simp,by simp,0,by simp,by omega,fun j hj=>by omega⟩
  ·have o7:=s7;clear s1 s2 s3 s7 g0;rintro s G ny-⟨s1,s2,s3,g0,hny,s7,s8,ge,j,s10,hj,hok⟩;have hw:IntKind.i64.wrap (↑j+1)=((j+1:Nat):Int):=dh (by omega);apply aA;refine aR fun K' hK=> ?_
   simp[s8,s10,ge];apply hK;clear K' hK;refine aC fun A B hA hB=> ?_
   simp;refine⟨fun hj2=>hA ?_,fun hj2=>hB ?_⟩<;>clear hA hB A B<;>(try simp at hj2)<;>(try with_reducible refine aK ?_)
   ·have hd:=(hEz _ (bM hj2)).1;have h1:=hG _ hd;have h2:=hH _ hd;have hmem:=bM hj2;generalize hgd:nth E j=d at*;apply aB;refine aR fun K' hK=> ?_
    simp[s1,s7,s8,s10,ge,hj2,hgd];refine ak h1 rfl (by first | rfl | (simp;done) | (simp;rfl) | (simp;exact⟨rfl,rfl⟩)) ?_;cases ht1:holdsV t n d with
    | false=>
     simp;apply hK;clear K' hK;refine aVk (by simp) ?_;apply aj
     refine ah ?_;refine aS fun K' hK=> ?_
     simp[s10,hw];apply hK;clear K' hK;refine aj (ay ?_ ?_)
     ·exact⟨by simp[s1],by simp[s2],by simp[s3],g0,hny,by simp[s7],by simp[s8],ge,j+1,by simp[hw],by omega,fun i hi=>by
       rcases Nat.lt_or_ge i j with h | h
       ·exact hok i h
       ·have:i=j:=(by omega);subst this;rw[hgd,ht1];rfl⟩
     ·simp[s10,hw];omega
    | true=>
     simp[s2,s7,s8,s10,ge,hj2,hgd];refine ak h2 rfl (by first | rfl | (simp;done) | (simp;rfl) | (simp;exact⟨rfl,rfl⟩)) ?_;cases ht2:holdsV u n d with
     | false=>
      simp;apply hK;clear K' hK;refine aU (by simp) ?_;apply aA;refine aR fun K' hK=> ?_
      simp;apply hK;clear K' hK;have hf:oZ root L t u n=false:=by
       rw[hat,←Bool.not_eq_true,List.all_eq_true];intro hh;have:=hh d hmem;rw[ht1,ht2]at this;cases this
      rw[ug hn2 hf];apply aJ
      simp[au,aG,Post,aW,res1,bF,bC,aP,bg,bf,okT,okA,ok1,rowOf,Tryz.f87]
     | true=>
      simp;apply hK;clear K' hK;refine aVk (by simp) ?_;apply aj
      refine ah ?_;refine aS fun K' hK=> ?_
      simp[s10,hw];apply hK;clear K' hK;refine aj (ay ?_ ?_)
      ·exact⟨by simp[s1],by simp[s2],by simp[s3],g0,hny,by simp[s7],by simp[s8],ge,j+1,by simp[hw],by omega,fun i hi=>by
        rcases Nat.lt_or_ge i j with h | h
        ·exact hok i h
        ·have:i=j:=(by omega);subst this;rw[hgd,ht2];simp⟩
      ·simp[s10,hw];omega
   ·skip;apply bG
    refine aI (aH ?_);apply aj
    refine ah ?_;refine aS fun K' hK=> ?_
    simp[s7,hwn];apply hK;clear K' hK;refine aj (ay ?_ ?_)
    ·exact⟨by simp[s1],by simp[s2],by simp[s3],g0,by omega,n+1,by simp[hwn],by omega,fun i hi=>by
      rcases Nat.lt_or_ge i n with h | h
      ·exact hall i h
      ·have:i=n:=(by omega);subst this;rw[hat,List.all_eq_true];intro d hd;obtain⟨k,hk,rfl⟩:=List.mem_iff_getElem.1 hd;have:=hok k (by omega);rw[bZ hk]at this;exact this⟩
    ·simp[o7,s7,hwn];omega
 ·skip;apply bG
  refine aI (aH ?_);rw[DK fun j hj=>hall j (by omega)];refine aR fun K' hK=> ?_
  simp;apply hK;clear K' hK;apply aF
  simp[au,aG,Post,aW,res1,bF,bC,aP,bg,bf,okT,okA,ok1,rowOf,Tryz.f87]
def rV (t:List Pl) (b:Bs) (a:Int):List Nat:=if a<0 then[]else(upN t a.toNat).takeWhile fun p=>decide (chF t p b=none)
theorem rest_step {t:List Pl} (g:Good t) {b:Bs} {j:Nat} (hj:j<t.length):rV t b j=if chF t j b=none then j::rV t b (parN t j)else[]:=by
 unfold rV;rw[if_neg (by omega),Int.toNat_natCast,iJ g.dn hj,List.takeWhile_cons];by_cases h:chF t j b=none
 ·rw[if_pos h,if_pos (by simpa using h)];congr 1;split<;>rfl
 ·rw[if_neg h,if_neg (by simpa using h)]
theorem Gy {t:List Pl} (g:Good t) {n:Nat} (hn:n<t.length) (d:Dep):QL t n d=rV t d.name (jI t n d):=by
 unfold QL rV;rw[if_neg (by omega),Int.toNat_natCast]
theorem vW (is:Nat→Bool) (p:Nat) (l:List Nat) (o:Int):mZ is (p::l) o=mZ is l (if is p=true then(p:Int)else o):=rfl
theorem DZ {t:List Pl} (g:Good t) {j:Nat} (hj:j<t.length):parN t j<j∧-1≤parN t j:=by
 have h1:=g.dn j hj;rcases Nat.eq_zero_or_pos j with rfl | h
 ·have:=iQ g.root;omega
 ·have:=g.par j h hj;omega
theorem zT {t:List Pl} {i:Int} {b:Bs} {v:Ver} (h:cZ t i b v=0):AO t i b v=jc t i b v:=if_pos h
theorem MV (root:Man) (L:List Man) (t:List Pl) (hsz:fP root L t) (g:Good t) (n:Nat) (hn:n<t.length) (d:Dep) (v:Ver) (hd:d.name.size≤1000000) (hv:v.pre.size≤1000000):CallsOK Tryz.prog 43 [.agg (sK root L),rowT Pl.cells t,iV n,.agg d.cells,.agg v.cells] (iV (jo root L t n d v)) []:=by
 obtain⟨hr,hro,hL,hLo,ht,htv⟩:=id hsz;have htl:=g.le;have c50:Tryz.prog.cellsOf 50=6:=(by kernel_rfl);unfold jo;rw[Gy g hn];refine aN mixed Tryz.call43 Tryz.func43 rfl (by rw[Tryz.ntmps43];simp) ?_ rfl;rw[Tryz.ntmps43];refine aR fun K' hK=> ?_
 simp;apply hK;clear K' hK;refine aR fun K' hK=> ?_
 simp;apply hK;clear K' hK;apply aA;refine uo ?_
 refine fC (fun s G nx=>s 1=rowT Pl.cells t∧s 5=.ptr 0 0∧s 8=.ptr 1 0∧s 9=.ptr 2 0∧s 11=iV (jI t n d)∧nx=3∧G 0=some (.var 83 (sK root L))∧G 1=some (.var 35 d.cells)∧G 2=some (.var 23 v.cells)) ?_ ?_
 ·have hst:jI t n d=if d.kind=4∧0<n then(parN t n).toNat else n:=rfl;by_cases hk:d.kind=4
  ·by_cases hp:0<n
   ·have hp2:(0:Int)<n:=(by omega);have hpe:(nth t n).par=((parN t n).toNat:Int):=(by have:=g.par n hp hn;show parN t n=_;omega);rw[if_pos ⟨hk,hp⟩]at hst;refine aR fun K' hK=> ?_
    simp[hk,hp,hp2];apply hK;clear K' hK;refine aU (by simp) ?_;refine aR fun K' hK=> ?_
    simp[hn,hpe];apply hK;clear K' hK;with_reducible refine bP ?_
    rw[hst];exact⟨by simp,by simp,by simp,by simp,by simp,by simp,by simp,by simp,by simp⟩
   ·have hp2:¬(0:Int)<n:=(by omega);rw[if_neg (fun h=>hp h.2)]at hst;refine aR fun K' hK=> ?_
    simp[hk,hp,hp2];apply hK;clear K' hK;refine aVk (by simp) ?_;refine bP ?_
    rw[hst];exact⟨by simp,by simp,by simp,by simp,by simp,by simp,by simp,by simp,by simp⟩
  ·rw[if_neg (fun h=>hk h.1)]at hst;refine aR fun K' hK=> ?_
   simp[hk];apply hK;clear K' hK;refine aVk (by simp) ?_;refine bP ?_
   rw[hst];exact⟨by simp,by simp,by simp,by simp,by simp,by simp,by simp,by simp,by simp⟩
 have hs:=start_lt g hn d;generalize jI t n d=m at*;rintro s G nx ⟨s1,s5,s8,s9,s11,rfl,g0,g1,g2⟩;refine aR fun K' hK=> ?_
 simp;apply hK;clear K' hK;apply aB
 refine bH (fun s G nx=>s 1=rowT Pl.cells t∧s 5=.ptr 0 0∧s 8=.ptr 1 0∧s 9=.ptr 2 0∧G 0=some (.var 83 (sK root L))∧G 1=some (.var 35 d.cells)∧G 2=some (.var 23 v.cells)∧2<nx∧∃a o:Int,s 11=iV a∧s 12=iV o∧-1≤a∧a<t.length∧mZ (fJ root L t d v) (rV t d.name m) (-1)=mZ (fJ root L t d v) (rV t d.name a) o) (fun s _ _=>match s 11 with | .v (.int _ n)=>(n+1).toNat | _=>0) ?_ ?_
 ·exact⟨by simp[s1],by simp[s5],by simp[s8],by simp[s9],by simp[g0],by simp[g1],by simp[g2],by omega,m,-1,by simp[s11],by simp,by omega,by omega,rfl⟩
 clear s1 s5 s8 s9 s11 g0 g1 g2;rintro s G nx-⟨s1,s5,s8,s9,g0,g1,g2,hnx,a,o,s11,s12,ha1,ha2,hlast⟩;rcases Int.lt_or_le a 0 with hneg | hpos
 ·have:a= -1:=(by omega);subst this;have e:mZ (fJ root L t d v) (rV t d.name (-1)) o=o:=rfl;rw[hlast,e];apply aA;refine aR fun K' hK=> ?_
  simp[s11];apply hK;clear K' hK;refine aY (by simp) ?_;apply bG
  refine aI (aH ?_);refine aR fun K' hK=> ?_
  simp[s12];apply hK;clear K' hK;apply aF
  simp[au,aG,Post,aW,res1,bF,bC,aP,bg,bf,okT,okA,ok1,rowOf,Tryz.f43]
 ·obtain⟨j,rfl⟩:∃j:Nat,a=j:=⟨a.toNat,by omega⟩;have hj:j<t.length:=(by omega);have hrs:=rest_step g (b:=d.name) hj;have hup:=DZ g hj;by_cases hc:chF t j d.name=none
  ·rw[if_pos hc]at hrs;rw[hrs,vW]at hlast;have hA:=Ii t ht j d.name v (by omega) (by omega);have hso:fJ root L t d v j=(decide (cZ t j d.name v=0)&&l9 root L t (jc t j d.name v)):=rfl;have n0:¬0=nx:=(by omega);have n1:¬1=nx:=(by omega);have n2:¬2=nx:=(by omega);have hpe:(nth t j).par=parN t j:=rfl;apply aA;refine aR fun K' hK=> ?_
   simp[s1,s8,s11,g1];refine ak (Hu t g j d.name) rfl (by simp) ?_;simp[hc];apply hK;clear K' hK;refine aXk (by simp) ?_;refine dL (aB ?_);refine aR fun K' hK=> ?_
   simp[s1,s8,s9,s11,g1,g2];refine aO hA (by first | rfl | (simp;done) | (simp;rfl) | (simp;exact⟨rfl,rfl⟩)) ?_;simp[bK];apply hK;clear K' hK;apply aA;refine uo ?_
   refine fC (fun u H nz=>u 1=rowT Pl.cells t∧u 5=.ptr 0 0∧u 8=.ptr 1 0∧u 9=.ptr 2 0∧u 11=iV j∧u 12=iV (if fJ root L t d v j=true then(j:Int)else o)∧H 0=some (.var 83 (sK root L))∧H 1=some (.var 35 d.cells)∧H 2=some (.var 23 v.cells)∧2<nz) ?_ ?_
   ·by_cases hc0:cZ t j d.name v=0
    ·have hgu:=nV hc0;have hzu:=Nk (i:=j) hsz (by omega) hd hv;have hKp:=JK root L t (jc t j d.name v) hsz hzu g hgu (by rw[fG];omega);have hso2:fJ root L t d v j=l9 root L t (jc t j d.name v):=(by rw[hso,hc0];simp);have hadr:=zT hc0;rw[hadr];generalize jc t j d.name v=w at*;have hT:∀X:Hp,X nx=some (.row 50 (flat Pl.cells w))→bJ Tryz.prog X (.row nx w.length)=some (rowT Pl.cells w):=fun X h=>dN h c50 rfl;have hT0:=hT (G.upd nx (.row 50 (flat Pl.cells w))) (by simp);refine aR fun K' hK=> ?_
     simp[s1,s5,g0,n0,hc0];refine ak hKp rfl (by first | rfl | (simp[hT0];done) | (simp[hT0];rfl) | (simp[hT0];exact⟨rfl,rfl⟩)) ?_;rw[←hso2];cases hb:fJ root L t d v j with
     | true=>
      simp;apply hK;clear K' hK;refine aU (by simp) ?_;refine aR fun K' hK=> ?_
      simp[s11];apply hK;clear K' hK;with_reducible refine bP ?_
      exact⟨by simp[s1],by simp[s5],by simp[s8],by simp[s9],by simp[s11],by simp[hb],by simp[n0,g0],by simp[n1,g1],by simp[n2,g2],by omega⟩
     | false=>
      simp;apply hK;clear K' hK;refine aVk (by simp) ?_;refine bP ?_
      exact⟨by simp[s1],by simp[s5],by simp[s8],by simp[s9],by simp[s11],by simp[s12,hb],by simp[n0,g0],by simp[n1,g1],by simp[n2,g2],by omega⟩
    ·have hb:fJ root L t d v j=false:=(by rw[hso];simp[hc0]);rw[hb];refine aR fun K' hK=> ?_
     simp[hc0];apply hK;clear K' hK;refine aVk (by simp) ?_;refine bP ?_
     exact⟨by simp[s1],by simp[s5],by simp[s8],by simp[s9],by simp[s11],by simp[s12],by simp[n0,g0],by simp[n1,g1],by simp[n2,g2],by omega⟩
   have o11:=s11;clear s1 s5 s8 s9 s11 s12 g0 g1 g2;rintro u H nz ⟨s1,s5,s8,s9,s11,s12,g0,g1,g2,hnz⟩;refine aS fun K' hK=> ?_
   simp[s1,s11,hj,hpe];apply hK;clear K' hK;apply aj
   refine ah ?_;refine aj (ay ?_ ?_)
   ·exact⟨by simp[s1],by simp[s5],by simp[s8],by simp[s9],g0,g1,g2,hnz,parN t j,_,by simp,by simp[s12],hup.2,by omega,hlast⟩
   ·simp[o11];omega
  ·rw[if_neg hc]at hrs;rw[hrs]at hlast;have e:mZ (fJ root L t d v) [] o=o:=rfl;rw[hlast,e];apply aA;refine aR fun K' hK=> ?_
   simp[s1,s8,s11,g1];refine ak (Hu t g j d.name) rfl (by simp) ?_;simp[hc];apply hK;clear K' hK;refine aY (by simp) ?_;apply bG
   refine aI (aH ?_);refine aR fun K' hK=> ?_
   simp[s12];apply hK;clear K' hK;apply aF
   simp[au,aG,Post,aW,res1,bF,bC,aP,bg,bf,okT,okA,ok1,rowOf,Tryz.f43]
set_option maxRecDepth 100000
set_option maxHeartbeats 4000000
theorem Iu (root:Man) (L:List Man) (t:List Pl) (h:fP root L t):CallsOK Tryz.prog 42 [.agg root.cells,rowT Man.cells L,rowT Pl.cells t] (.tup [.row 0 (oL root L t).length,iV (codeV root L t)]) [(3,flat iC (oL root L t))]:=by
 have hh:=h;obtain⟨hrz,hro,hLz,hLo,ht,hv⟩:=h;have htl:=ht.1;refine aN mixed Tryz.call42 Tryz.func42 rfl (by rw[Tryz.ntmps42];simp) ?_ rfl;rw[Tryz.ntmps42];refine aR fun K' hK=> ?_
 simp;apply hK;clear K' hK;refine aR fun K' hK=> ?_
 simp;refine ak (Jl root L t hrz hLz ht) rfl (by first | rfl | (simp;done) | (simp;rfl) | (simp;exact⟨rfl,rfl⟩)) ?_;simp;apply hK;clear K' hK;by_cases hc:codeV root L t=0
 ·have g:Good t:=dZ.1 (dJ.1 hc).2.2;have hwo:oL root L t=((List.range t.length).filter fun n=> !iI root L t (n:Nat)).map fun(n:Nat)=>(n:Int):=(by rw[oL,if_pos hc,Qn g]);rw[hwo,hc];apply aA;refine aR fun K' hK=> ?_
  simp[hc];apply hK;clear K' hK;refine aYk (by simp) ?_;refine aR fun K' hK=> ?_
  simp;apply hK;clear K' hK;apply aA;refine aR fun K' hK=> ?_
  simp;apply hK;clear K' hK;apply aB
  refine bH (fun s G nx=>s 1=rowT Man.cells L∧s 2=rowT Pl.cells t∧s 3=.ptr 0 0∧G 0=some (.var 27 root.cells)∧∃(i q:Nat),s 10=iV i∧i≤t.length∧s 9=.row q (((List.range i).filter fun n=> !iI root L t (n:Nat)).map fun(n:Nat)=>(n:Int)).length∧1≤q∧G q=some (.row 3 (flat iC (((List.range i).filter fun n=> !iI root L t (n:Nat)).map fun(n:Nat)=>(n:Int))))) (fun s _ _=>match s 10 with | .v (.int _ n)=>t.length-n.toNat | _=>0) ?_ ?_
  ·exact⟨by simp,by simp,by simp,by simp,0,2,by simp,by omega,by simp,by omega,by simp⟩
  ·rintro s G nx hf ⟨s1,s2,s3,g0,i,q,s10,hi,s9,hq,hG⟩;have o10:=s10;have hw:IntKind.i64.wrap (↑i+1)=((i+1:Nat):Int):=dh (by omega);apply aA;refine aR fun K' hK=> ?_
   simp[s2,s10];apply hK;clear K' hK;refine aC fun A B hA hB=> ?_
   simp;refine⟨fun hi2=>hA ?_,fun hi2=>hB ?_⟩<;>clear hA hB A B<;>(try simp at hi2)<;>(try with_reducible refine aK ?_)
   ·have hst:(((List.range (i+1)).filter fun n=> !iI root L t (n:Nat)).map fun(n:Nat)=>(n:Int))=(((List.range i).filter fun n=> !iI root L t (n:Nat)).map fun(n:Nat)=>(n:Int))++if iI root L t (i:Nat)=true then[]else[(i:Int)]:=by
     rw[List.range_succ,List.filter_append,List.map_append];congr 1;cases hf2:iI root L t (i:Nat)<;>simp[hf2]
    have hal:(((List.range i).filter fun n=> !iI root L t (n:Nat)).map fun(n:Nat)=>(n:Int)).length≤i:=by
     rw[List.length_map];exact Nat.le_trans (List.length_filter_le _ _) (by simp)
    have hfi:=MR root L t hh g i hi2;generalize (((List.range i).filter fun n=> !iI root L t (n:Nat)).map fun(n:Nat)=>(n:Int))=acc at*;generalize iI root L t (i:Nat)=F at*;have hqn:q<nx:=cO hf hG;have n0:¬0=nx:=(by have:=cO hf g0;omega);have n1:¬0=nx+1:=(by omega);have n2:¬q=nx:=(by omega);have n3:¬nx=q:=(by omega);have n4:¬0=q:=(by omega);have b1:acc.length+1≤9223372036854775807:=(by omega);have b2:(acc.length+1)*8≤140737488355328:=(by omega);apply aB;refine aR fun K' hK=> ?_
    simp[s1,s2,s3,s10,g0];refine ak hfi rfl (by first | rfl | (simp;done) | (simp;rfl) | (simp;exact⟨rfl,rfl⟩)) ?_;simp;apply hK;clear K' hK;cases F with
    | true=>
     refine aVk (by simp) ?_;apply aj
     refine ah ?_;refine aS fun K' hK=> ?_
     simp[s10,hw];apply hK;clear K' hK;refine aj (ay ?_ ?_)
     ·exact⟨by simp[s1],by simp[s2],by simp[s3],by simp[g0],i+1,q,by simp[hw],by omega,by rw[hst];simp[s9],hq,by rw[hst];simpa using hG⟩
     ·simp[o10,s10,hw];omega
    | false=>
     refine aU (by simp) ?_;refine aR fun K' hK=> ?_
     simp[s9,s10,hG,n2,n3,b1,b2,bQ,dA];apply hK;clear K' hK;apply aj
     refine ah ?_;refine aS fun K' hK=> ?_
     simp[s10,hw];apply hK;clear K' hK;refine aj (ay ?_ ?_)
     ·exact⟨by simp[s1],by simp[s2],by simp[s3],by simp[n0,n1,n4,g0],i+1,nx+1,by simp[hw],by omega,by rw[hst];simp,by omega,by rw[hst];simp[←dV];rfl⟩
     ·simp[o10,s10,hw];omega
   ·skip;apply bG
    refine aI (aH ?_);have hie:i=t.length:=(by omega);subst hie;refine aR fun K' hK=> ?_
    simp[s9];apply hK;clear K' hK;apply aF
    simp[au,aG,Post,aW,res1,bF,bC,aP,bg,bf,okT,okA,ok1,rowOf,Tryz.f42,hG]
 ·have hwo:oL root L t=[]:=(by rw[oL,if_neg hc]);rw[hwo];apply aA;refine aR fun K' hK=> ?_
  simp[hc];apply hK;clear K' hK;refine aX (by simp[hc]) ?_;apply aA;refine aR fun K' hK=> ?_
  simp;apply hK;clear K' hK;apply aJ
  simp[au,aG,Post,aW,res1,bF,bC,aP,bg,bf,okT,okA,ok1,rowOf,Tryz.f42]
set_option maxRecDepth 100000
set_option maxHeartbeats 4000000
def jZ (P:Prop) (G:Hp) (nx:Nat) (x:AV) (u:List Pl):Prop:=x=rowT Pl.cells u∨∃q,x=.row q u.length∧q<nx∧(G q=some (.frz 50 (flat Pl.cells u))∨(P∧G q=some (.row 50 (flat Pl.cells u))))
theorem jZ.keep {P Q:Prop} {G G':Hp} {nx ny:Nat} {x:AV} {u:List Pl} (h:jZ P G nx x u) (hn:nx≤ny) (hP:P→Q) (hG:∀k,k<nx→G' k=G k):jZ Q G' ny x u:=by
 rcases h with h | ⟨q,h1,h2,h3⟩
 ·exact .inl h
 ·refine .inr ⟨q,h1,by omega,?_⟩;rw[hG q h2];rcases h3 with h | ⟨hp,h⟩
  ·exact .inl h
  ·exact .inr ⟨hP hp,h⟩
theorem c50:Tryz.prog.cellsOf 50=6:=by kernel_rfl
theorem jZ.tree {P:Prop} {G:Hp} {nx:Nat} {x:AV} {u:List Pl} (h:jZ P G nx x u):bJ Tryz.prog G x=some (rowT Pl.cells u):=by
 rcases h with rfl | ⟨q,rfl,_,h | ⟨_,h⟩⟩
 ·rfl
 ·exact gW h c50 rfl
 ·exact dN h c50 rfl
theorem jZ.frz {P:Prop} {G:Hp} {nx:Nat} {x:AV} {u:List Pl} (h:jZ P G nx x u) (hu:u≠[]):jZ False (bT G x) nx x u:=by
 rcases h with rfl | ⟨q,rfl,hq,h | ⟨_,h⟩⟩
 ·exact .inl rfl
 ·exact .inr ⟨q,rfl,hq,.inl (by rw[NS h];exact h)⟩
 ·exact .inr ⟨q,rfl,hq,.inl (by rw[Nw h hu];simp)⟩
theorem jZ.len {P:Prop} {G:Hp} {nx:Nat} {x:AV} {u:List Pl} (h:jZ P G nx x u):zJ Tryz.prog G 29 x=some (iV u.length):=by
 rcases h with rfl | ⟨q,rfl,hq,h | ⟨_,h⟩⟩
 ·simp
 ·simp[h]
 ·simp[h]
theorem jZ.mX {P:Prop} {G:Hp} {nx:Nat} {x:AV} {u:List Pl} (h:jZ P G nx x u) {k:Nat} {t:TypeId} {cs:List AV} (hk:G k=some (.var t cs)):∀m,x≠ .row k m:=by
 rintro m rfl;rcases h with h | ⟨q,h1,_,h | ⟨_,h⟩⟩
 ·cases h
 ·injection h1 with h1;subst h1;rw[hk]at h;cases h
 ·injection h1 with h1;subst h1;rw[hk]at h;cases h
theorem jZ.NM {P:Prop} {G:Hp} {nx:Nat} {x:AV} {u:List Pl} (h:jZ P G nx x u) {k:Nat} {cs:List AV} (hk:G k=some (.row 35 cs)):∀m,x≠ .row k m:=by
 rintro m rfl;rcases h with h | ⟨q,h1,_,h | ⟨_,h⟩⟩
 ·cases h
 ·injection h1 with h1;subst h1;rw[hk]at h;cases h
 ·injection h1 with h1;subst h1;rw[hk]at h;injection h with h;injection h with h;cases h
theorem Ai {G:Hp} {x:AV} {k:Nat} (h:∀m,x≠ .row k m):bT G x k=G k:=by
 cases x with
 | row id n=>exact dW fun e=>h n (by rw[e])
 | _=>rfl
section
variable {d:Bool} {f:FuncId} {cls:Nat} {K:AV→Hp→Nat→Prop} {r:AV} {J:Js} {G:Hp} {nx:Nat} {x:AV} {u:List Pl} {P:Prop} {root:Man} {L:List Man}
theorem yu {n:Nat} (hk:CallsOK Tryz.prog f [.agg root.cells,rowT Man.cells L,rowT Pl.cells u,iV n] r J) (hx:jZ P G nx x u) (hu:u≠[]) (h:∀G',(∀k,(∀m,x≠ .row k m)→G' k=G k)→jZ False G' nx x u→K (shiftT nx r) (addJ G' nx J) (nx+J.length)):oW Tryz.prog d f [.agg root.cells,rowT Man.cells L,x,iV n] cls K G nx:=by
 have hT:=hx.tree;have hF:=hx.frz hu;have h2:=h (bT G x) (fun k hk=>Ai hk) hF;have e:argsOf Tryz.prog G [.agg root.cells,rowT Man.cells L,x,iV n]=some ([.agg root.cells,rowT Man.cells L,rowT Pl.cells u,iV n],bT G x):=by
  rcases hx with rfl | ⟨q,rfl,_,_⟩
  ·rfl
  ·have e0:bY Tryz.prog G root.cells=some (root.cells,G):=rfl;have e1:bY Tryz.prog G (sK root L)=some (sK root L,G):=rfl;have t0:bJ Tryz.prog G (.sl L.length (flat Man.cells L))=some (.sl L.length (flat Man.cells L)):=rfl;have f0:bT G (.sl L.length (flat Man.cells L))=G:=rfl;have r0:rowT Man.cells L=.sl L.length (flat Man.cells L):=rfl;simp only[r0,argsOf,e0,e1,t0,f0,hT];rfl
 exact aO hk (by rw[e];rfl) (by rw[e];exact h2)
theorem IL {n:Nat} {e:Dep} (hk:CallsOK Tryz.prog f [.agg (sK root L),rowT Pl.cells u,iV n,.agg e.cells] r J) (hx:jZ P G nx x u) (hu:u≠[]) (h:∀G',(∀k,(∀m,x≠ .row k m)→G' k=G k)→jZ False G' nx x u→K (shiftT nx r) (addJ G' nx J) (nx+J.length)):oW Tryz.prog d f [.agg (sK root L),x,iV n,.agg e.cells] cls K G nx:=by
 have hT:=hx.tree;have hF:=hx.frz hu;have h2:=h (bT G x) (fun k hk=>Ai hk) hF;have e2:argsOf Tryz.prog G [.agg (sK root L),x,iV n,.agg e.cells]=some ([.agg (sK root L),rowT Pl.cells u,iV n,.agg e.cells],bT G x):=by
  rcases hx with rfl | ⟨q,rfl,_,_⟩
  ·rfl
  ·have e0:bY Tryz.prog G root.cells=some (root.cells,G):=rfl;have e1:bY Tryz.prog G (sK root L)=some (sK root L,G):=rfl;have t0:bJ Tryz.prog G (.sl L.length (flat Man.cells L))=some (.sl L.length (flat Man.cells L)):=rfl;have f0:bT G (.sl L.length (flat Man.cells L))=G:=rfl;have r0:rowT Man.cells L=.sl L.length (flat Man.cells L):=rfl;simp only[r0,argsOf,e0,e1,t0,f0,hT];rfl
 exact aO hk (by rw[e2];rfl) (by rw[e2];exact h2)
end
def qW (root:Man) (L:List Man) (n:Nat) (d:Dep) (t:List Pl):AV×Js:=
 if(dY root L n d t).2=0 then(if(dY root L n d t).1.length=t.length then(.tup [rowT Pl.cells t,iV 0],[])else(.tup [.row 0 (dY root L n d t).1.length,iV 0],[(50,flat Pl.cells (dY root L n d t).1)]))
 else(.tup [.row 0 0,iV (dY root L n d t).2],[(50,[])])
theorem LV (root:Man) (L:List Man) (t:List Pl) (hsz:fP root L t) (h12:L.length≤12) (hc:codeV root L t=0) (n:Nat) (hn:n<t.length) (d:Dep) (hd:d.name.size≤1000000) (hdr:Rg.sz d.range):
  CallsOK Tryz.prog 48 [.agg (sK root L),rowT Pl.cells t,iV n,.agg d.cells] (qW root L n d t).1 (qW root L n d t).2:=by
 obtain⟨hr,hro,hL,hLo,ht,htv⟩:=id hsz;have g:Good t:=dZ.1 (dJ.1 hc).2.2;have htl:=g.le;have hG:=qU t g ht htv n hn d hdr;have hLd:=Dj t g ht n hn d;have hV:=Nl L hL.1 d.name;obtain⟨hvz,hvl⟩:=G9 hL h12 d.name;have hvu:=MK (dJ.1 hc).2.1 d.name;have hB:=Nu (gJ L d.name) hvz hvu d.range hdr;have hVs:∀v,rM (gJ L d.name) d.range=some v→v.pre.size≤1000000:=fun v h=>hvz.2 v (sZ h).1;have hS:=fun v (h:v.pre.size≤1000000)=>MV root L t hsz g n hn d v hd h;have hE:dY root L n d t=(if holdsV t n d=true∧0≤toN t n d then(t,0)else match rM (gJ L d.name) d.range with
  | none=>if holdsV t n d=true then(t,0)else(t,180)
  | some v=>if jo root L t n d v<0 then(if holdsV t n d=true then(t,0)else(t,180))else if 40≤t.length then(t,2)else(jc t (jo root L t n d v) d.name v,0):List Pl×Int):=rfl
 have hsp:=fun v=>uY (root:=root) (L:=L) (t:=t) (n:=n) (d:=d) (v:=v);have hO1:dY root L n d t=(t,0)→qW root L n d t=(.tup [rowT Pl.cells t,iV 0],[]):=fun e=>(by unfold qW;rw[e,if_pos rfl,if_pos rfl]);have hO2:∀c,dY root L n d t=(t,c)→c≠0→qW root L n d t=(.tup [.row 0 0,iV c],[(50,[])]):=fun c e h=>(by unfold qW;rw[e,if_neg h]);have hO3:∀X,dY root L n d t=(X,0)→t.length<X.length→qW root L n d t=(.tup [.row 0 X.length,iV 0],[(50,flat Pl.cells X)]):=fun X e h=>(by unfold qW;rw[e,if_pos rfl,if_neg (by simp only;omega)]);refine aN mixed Tryz.call48 Tryz.func48 rfl (by rw[Tryz.ntmps48];simp) ?_ ?_
 ·rw[Tryz.ntmps48];generalize qW root L n d t=eo at*;generalize dY root L n d t=es at*;generalize hvs:gJ L d.name=vs at*;generalize hbv:rM vs d.range=bo at*;by_cases h1:holdsV t n d=true∧0≤toN t n d
  ·rw[if_pos h1]at hE;rw[hO1 hE];refine aR fun K' hK=> ?_
   simp;apply hK;clear K' hK;refine aR fun K' hK=> ?_
   simp;refine ak hG rfl (by first | rfl | (simp;done) | (simp;rfl) | (simp;exact⟨rfl,rfl⟩)) ?_;simp[h1.1];apply hK;clear K' hK;apply aA;refine aR fun K' hK=> ?_
   simp;refine ak hLd rfl (by first | rfl | (simp;done) | (simp;rfl) | (simp;exact⟨rfl,rfl⟩)) ?_;simp[h1.2];apply hK;clear K' hK;refine aX (by simp) ?_;apply aA;refine aR fun K' hK=> ?_
   simp;apply hK;clear K' hK;apply aJ
   simp[au,aG,Post,aW,res1,bF,bC,aP,bg,bf,okT,okA,ok1,rowOf,Tryz.f48];all_goals first | exact⟨rfl,rfl⟩ | rfl
  ·rw[if_neg h1]at hE;refine aR fun K' hK=> ?_
   simp;apply hK;clear K' hK;refine aR fun K' hK=> ?_
   simp;refine ak hG rfl (by first | rfl | (simp;done) | (simp;rfl) | (simp;exact⟨rfl,rfl⟩)) ?_;simp;apply hK;clear K' hK;apply aA;refine uo ?_
   refine fC (fun s G nx=>s 1=rowT Pl.cells t∧s 2=iV n∧s 4=.ptr 0 0∧s 7=.ptr 1 0∧s 10=bV (holdsV t n d)∧G 0=some (.var 83 (sK root L))∧G 1=some (.var 35 d.cells)∧1<nx) ?_ ?_
   ·cases hb:holdsV t n d with
    | true=>
     have hz:¬0≤toN t n d:=fun h=>h1 ⟨hb,h⟩;refine aR fun K' hK=> ?_
     simp[hb];refine ak hLd rfl (by first | rfl | (simp;done) | (simp;rfl) | (simp;exact⟨rfl,rfl⟩)) ?_;simp[hz];apply hK;clear K' hK;refine aVk (by simp) ?_;refine bP ?_
     exact⟨by simp,by simp,by simp,by simp,by simp,by simp,by simp,by omega⟩
    | false=>
     refine aR fun K' hK=> ?_
     simp[hb];apply hK;clear K' hK;refine aVk (by simp) ?_;refine bP ?_
     exact⟨by simp,by simp,by simp,by simp,by simp,by simp,by simp,by omega⟩
   generalize holdsV t n d=hb at*;rintro s G nx ⟨s1,s2,s4,s7,s10,g0,g1,hnx⟩;refine aR fun K' hK=> ?_
   simp;apply hK;clear K' hK;have n0:¬0=nx:=(by omega);have n1:¬1=nx:=(by omega);have hT0:bJ Tryz.prog (G.upd nx (.row 23 (flat Ver.cells vs))) (.row nx vs.length)=some (rowT Ver.cells vs):=dN (by simp) kQ rfl;refine fH none [] (by decide+kernel) (by decide+kernel) (fun p' hp'=>by cases hp') fun K' hK=> ?_;simp[s4,s7,g0,g1];refine aO hV (by first | rfl | (simp;done) | (simp;rfl) | (simp;exact⟨rfl,rfl⟩)) ?_;simp[bK,n0,n1,s4,s7,g0,g1];refine aO hB (by first | rfl | (simp[hT0];done) | (simp[hT0];rfl) | (simp[hT0];exact⟨rfl,rfl⟩)) ?_;simp[dO,hT0];cases bo with
   | none=>
    have hE:es=if hb=true then(t,0)else(t,180):=hE;simp[uh];apply hK;clear K' hK;apply aA;refine aR fun K' hK=> ?_
    simp;apply hK;clear K' hK;refine aYk (by simp) ?_
    cases hb with
    | true=>
     rw[if_pos rfl]at hE;rw[hO1 hE];apply aA;refine aR fun K' hK=> ?_
     simp[s10];apply hK;clear K' hK;refine aX (by simp) ?_;apply aA;refine aR fun K' hK=> ?_
     simp[s1];apply hK;clear K' hK;apply aJ
     simp[au,aG,Post,aW,res1,bF,bC,aP,bg,bf,okT,okA,ok1,rowOf,Tryz.f48];all_goals first | exact⟨rfl,rfl⟩ | rfl
    | false=>
     rw[if_neg (by simp)]at hE;rw[hO2 180 hE (by omega)];apply aA;refine aR fun K' hK=> ?_
     simp[s10];apply hK;clear K' hK;refine aYk (by simp) ?_;apply aA;refine aR fun K' hK=> ?_
     simp;apply hK;clear K' hK;refine aX (by simp) ?_;apply aA;refine aR fun K' hK=> ?_
     simp;apply hK;clear K' hK;apply aJ
     simp[au,aG,Post,aW,res1,bF,bC,aP,bg,bf,okT,okA,ok1,rowOf,Tryz.f48];all_goals first | exact⟨rfl,rfl⟩ | rfl
   | some v=>
    have hE:es=if jo root L t n d v<0 then(if hb=true then(t,0)else(t,180))else if 40≤t.length then(t,2)else(jc t (jo root L t n d v) d.name v,0):=hE;have hvp:=hVs v rfl;have hSv:=hS v hvp;have hA:=fun i:Int=>Ii t ht i d.name v (by omega) (by omega);have hspv:=hsp v;have hlift:∀p:Nat,fJ root L t d v p=true→cZ t p d.name v=0:=fun p h=>(uS h).1;generalize jo root L t n d v=a at*;simp[uh];apply hK;clear K' hK;apply aA;refine aR fun K' hK=> ?_
    simp;apply hK;clear K' hK;refine aX (by simp) ?_
    have hsh:List.map (vO (nx+1)) v.cells=v.cells:=rfl;have nxz:¬nx=0:=(by omega);have n0':¬0=nx+1:=(by omega);have n1':¬1=nx+1:=(by omega);refine aR fun K' hK=> ?_
    simp[s1,s2,s4,s7,g0,g1,n0,n1,n0',n1',hsh,nxz];refine ak hSv rfl (by first | rfl | (simp;done) | (simp;rfl) | (simp;exact⟨rfl,rfl⟩)) ?_;simp;apply hK;clear K' hK;by_cases ha:a<0
    ·rw[if_pos ha]at hE;cases hb with
     | true=>
      rw[if_pos rfl]at hE;rw[hO1 hE];apply aA;refine aR fun K' hK=> ?_
      simp[s10,ha];apply hK;clear K' hK;refine aX (by simp) ?_;apply aA;refine aR fun K' hK=> ?_
      simp[s1];apply hK;clear K' hK;apply aJ
      simp[au,aG,Post,aW,res1,bF,bC,aP,bg,bf,okT,okA,ok1,rowOf,Tryz.f48];all_goals first | exact⟨rfl,rfl⟩ | rfl
     | false=>
      rw[if_neg (by simp)]at hE;rw[hO2 180 hE (by omega)];apply aA;refine aR fun K' hK=> ?_
      simp[s10,ha];apply hK;clear K' hK;refine aYk (by simp) ?_;apply aA;refine aR fun K' hK=> ?_
      simp[ha];apply hK;clear K' hK;refine aX (by simp) ?_;apply aA;refine aR fun K' hK=> ?_
      simp;apply hK;clear K' hK;apply aJ
      simp[au,aG,Post,aW,res1,bF,bC,aP,bg,bf,okT,okA,ok1,rowOf,Tryz.f48];all_goals first | exact⟨rfl,rfl⟩ | rfl
    ·rw[if_neg ha]at hE;apply aA;refine aR fun K' hK=> ?_
     simp[s10,ha];apply hK;clear K' hK;refine aYk (by simp) ?_;apply aA;refine aR fun K' hK=> ?_
     simp[ha];apply hK;clear K' hK;refine aYk (by simp) ?_
     by_cases h40:40≤t.length
     ·rw[if_pos h40]at hE;rw[hO2 2 hE (by omega)];have h40':(40:Int)≤t.length:=(by omega);apply aA;refine aR fun K' hK=> ?_
      simp[s1,h40,h40'];apply hK;clear K' hK;refine aX (by simp) ?_;apply aA;refine aR fun K' hK=> ?_
      simp;apply hK;clear K' hK;apply aJ
      simp[au,aG,Post,aW,res1,bF,bC,aP,bg,bf,okT,okA,ok1,rowOf,Tryz.f48];all_goals first | exact⟨rfl,rfl⟩ | rfl
     ·rw[if_neg h40]at hE;rw[hO3 _ hE (by rw[fG];omega)];have h40':¬(40:Int)≤t.length:=(by omega);obtain⟨p,hpw,hpo,rfl⟩:=hspv.resolve_left (by omega);have hAc:=hlift p hpo;have hAp:=hA p;rw[zT hAc,hAc]at hAp;apply aA;refine aR fun K' hK=> ?_
      simp[s1,h40,h40'];apply hK;clear K' hK;refine aYk (by simp) ?_;refine aR fun K' hK=> ?_
      simp[s1,s7,g0,g1,n0,n1,n0',n1',hsh,nxz];refine aO hAp (by first | rfl | (simp;done) | (simp;rfl) | (simp;exact⟨rfl,rfl⟩)) ?_;simp[bK];apply hK;clear K' hK;refine aR fun K' hK=> ?_
      simp;apply hK;clear K' hK;apply aF
      simp[au,aG,Post,aW,res1,bF,bC,aP,bg,bf,okT,okA,ok1,rowOf,Tryz.f48];all_goals first | exact⟨rfl,rfl⟩ | rfl
 ·unfold qW;split
  ·split<;>rfl
  ·rfl
theorem zN {root:Man} {L:List Man} {t:List Pl} {n:Nat} {d:Dep} (hsz:fP root L t) (hl:t.length≤200) (hd:d.name.size≤1000000) (h:(dY root L n d t).2=0):fP root L (dY root L n d t).1:=by
 rcases wz h with⟨h1,_⟩ | ⟨p,v,_,_,h3,_,_,h5⟩
 ·rw[h1];exact hsz
 ·rw[h5];obtain⟨m,hm,_,rfl⟩:=Gu h3;exact Nk hsz (by omega) hd (hsz.2.2.1.2 m hm).2.1
theorem Fa (root:Man) (L:List Man) (n:Nat) (d:Dep) (t:List Pl):
  ((dY root L n d t).2=0∧(dY root L n d t).1=t∧qW root L n d t=(.tup [rowT Pl.cells t,iV 0],[]))∨
  ((dY root L n d t).2=0∧t.length<(dY root L n d t).1.length∧qW root L n d t=(.tup [.row 0 (dY root L n d t).1.length,iV 0],[(50,flat Pl.cells (dY root L n d t).1)]))∨
  (¬(dY root L n d t).2=0∧qW root L n d t=(.tup [.row 0 0,iV (dY root L n d t).2],[(50,[])])):=by
 unfold qW;by_cases h:(dY root L n d t).2=0
 ·rw[if_pos h];rcases wz h with⟨h1,_⟩ | ⟨p,v,_,_,_,_,_,h5⟩
  ·exact .inl ⟨h,h1,by rw[if_pos (by rw[h1])]⟩
  ·have:t.length<(dY root L n d t).1.length:=(by rw[h5,fG];omega);exact .inr (.inl ⟨h,this,by rw[if_neg (by omega)]⟩)
 ·exact .inr (.inr ⟨h,by rw[if_neg h]⟩)
theorem drop_cons {α:Type} [Inhabited α] {l:List α} {j:Nat} (h:j<l.length):l.drop j=nth l j::l.drop (j+1):=by
 rw[List.drop_eq_getElem_cons h,←bZ h]
def gQ (root:Man) (L:List Man) (t:List Pl):AV×Js:=if(growS root L t).2=0 then(.tup [rowT Pl.cells (growS root L t).1,iV 0],[])else(.tup [.row 0 0,iV (growS root L t).2],[(50,[])])
theorem Bg (root:Man) (L:List Man) (t:List Pl) (hsz:fP root L t) (h12:dK L=0→L.length≤12) (htl:t.length≤1000):CallsOK Tryz.prog 20 [.agg root.cells,rowT Man.cells L,rowT Pl.cells t] (gQ root L t).1 (gQ root L t).2:=by
 obtain⟨hr,hro,hL,hLo,ht,htv⟩:=id hsz;have hW:=Iu root L t hsz;refine aN mixed Tryz.call20 Tryz.func20 rfl (by rw[Tryz.ntmps20];simp) ?_ ?_
 ·rw[Tryz.ntmps20];have hG1:∀u:List Pl,growS root L t=(u,0)→gQ root L t=(.tup [rowT Pl.cells u,iV 0],[]):=fun u e=>(by unfold gQ;rw[e,if_pos rfl]);have hG2:∀(u:List Pl) c,growS root L t=(u,c)→c≠0→gQ root L t=(.tup [.row 0 0,iV c],[(50,[])]):=fun u c e h=>(by unfold gQ;rw[e,if_neg h]);have hGe:growS root L t=if codeV root L t=0 then jB root L 201 0 t else([],codeV root L t):=rfl;generalize gQ root L t=go at*;generalize growS root L t=gs at*;refine aR fun K' hK=> ?_
  simp;apply hK;clear K' hK;refine aR fun K' hK=> ?_
  simp;refine aO hW (by first | rfl | (simp;done) | (simp;rfl) | (simp;exact⟨rfl,rfl⟩)) ?_;simp[bK];apply hK;clear K' hK;by_cases hc:codeV root L t=0
  ·have h12:=h12 (dJ.1 hc).2.1;rw[if_pos hc]at hGe;have g:Good t:=dZ.1 (dJ.1 hc).2.2;have htne:t≠[]:=List.ne_nil_of_length_pos g.pos;apply aA;refine aR fun K' hK=> ?_
   simp[hc];apply hK;clear K' hK;refine aYk (by simp) ?_;refine aR fun K' hK=> ?_
   simp;apply hK;clear K' hK;refine aR fun K' hK=> ?_
   simp;refine aO (Ah t (by omega)) (by first | rfl | (simp;done) | (simp;rfl) | (simp;exact⟨rfl,rfl⟩)) ?_;simp[bK];apply hK;clear K' hK;apply aA;refine aR fun K' hK=> ?_
   simp;apply hK;clear K' hK;apply aB
   refine bH (fun s G nx=>s 1=rowT Man.cells L∧s 3=.ptr 0 0∧G 0=some (.var 27 root.cells)∧0<nx∧(∃p,s 10=.ptr p 0∧G p=some (.var 83 (sK root L))∧p<nx)∧∃(n k:Nat) (x:AV) (u:List Pl),s 12=iV n∧n+k=201∧n≤200∧s 11=x∧jZ (n<u.length) G nx x u∧gs=jB root L k n u∧codeV root L u=0∧fP root L u) (fun s _ _=>match s 12 with | .v (.int _ n)=>201-n.toNat | _=>0) ?_ ?_
   ·exact⟨by simp,by simp,by simp,by omega,⟨_,by simp;rfl,by simp;rfl,by omega⟩,0,201,_,t,by simp,by omega,by omega,rfl,.inr ⟨_,by simp;rfl,by omega,.inr ⟨g.pos,by simp⟩⟩,hGe,hc,hsz⟩
   clear hGe hc g htne hW;rintro s G nx-⟨s1,s3,g0,hnx,⟨p,s10,gp,hp⟩,n,k,x,u,s12,hnk,hn200,s11,hx,hgs,hc,hsz⟩;have g:Good u:=dZ.1 (dJ.1 hc).2.2;have hul:=g.le;have hune:u≠[]:=List.ne_nil_of_length_pos g.pos;obtain⟨k,rfl⟩:∃k',k=k'+1:=⟨k-1,by omega⟩;unfold jB at hgs;have hlen:=hx.len;apply aA;refine aR fun K' hK=> ?_
   simp[s11,s12,hlen];apply hK;clear K' hK;refine aC fun A B hA hB=> ?_
   simp;refine⟨fun hn2=>hA ?_,fun hn2=>hB ?_⟩<;>clear hA hB A B<;>(try simp at hn2)<;>(try with_reducible refine aK ?_)
   ·rw[if_pos hn2]at hgs;have hE:=qh root hr hro L hL hLo u g n hn2;have hEz:=jW (t:=u) (n:=n) hr hL;have hEl:=nC (t:=u) (n:=n) hr hL;generalize hsm:(manVal root L u n).isSome=sm at*;generalize hEe:edgesV root L u n=E at*;have xp:=hx.mX gp;have x0:=hx.mX g0;have n0:¬0=nx:=(by omega);have np:¬p=nx:=(by omega);apply aB;refine aR fun K' hK=> ?_
    simp[s1,s3,s11,s12,g0];refine yu hE hx hune ?_;rintro G' hfz hx2;have g0':G' 0=some (.var 27 root.cells):=(by rw[hfz 0 x0];exact g0);have gp':G' p=some (.var 83 (sK root L)):=(by rw[hfz p xp];exact gp);simp[bK];apply hK;clear K' hK;cases sm with
    | false=>
     rw[if_neg (by simp)]at hgs;rw[hG2 _ _ hgs (by omega)];apply aA;refine aR fun K' hK=> ?_
     simp;apply hK;clear K' hK;refine aX (by simp) ?_;apply aA;refine aR fun K' hK=> ?_
     simp;apply hK;clear K' hK;apply aJ
     simp[au,aG,Post,aW,res1,bF,bC,aP,bg,bf,okT,okA,ok1,rowOf,Tryz.f20]
    | true=>
     rw[if_pos rfl]at hgs;apply aA;refine aR fun K' hK=> ?_
     simp;apply hK;clear K' hK;refine aYk (by simp) ?_;refine aR fun K' hK=> ?_
     simp;apply hK;clear K' hK;refine dL (aB ?_)
     refine bH (fun s G nz=>s 1=rowT Man.cells L∧s 3=.ptr 0 0∧G 0=some (.var 27 root.cells)∧s 10=.ptr p 0∧G p=some (.var 83 (sK root L))∧s 12=iV n∧s 13=.row nx E.length∧G nx=some (.row 35 (flat Dep.cells E))∧nx<nz∧∃(j:Nat) (x:AV) (u':List Pl),s 15=iV j∧j≤E.length∧s 11=x∧jZ (n+1<u'.length) G nz x u'∧eG root L n E u=eG root L n (E.drop j) u'∧codeV root L u'=0∧fP root L u'∧n<u'.length) (fun s _ _=>match s 15 with | .v (.int _ n)=>E.length-n.toNat | _=>0) ?_ ?_
     ·exact⟨by simp[s1],by simp[s3],by simp[n0,g0'],by simp[s10],by simp[np,gp'],by simp[s12],by simp,by simp,by omega,0,x,u,by simp,by omega,by simp[s11],hx2.keep (by omega) (fun h=>h.elim) (fun k hk=>by rw[Hp.upd_ne _ _ (by omega)]),by simp,hc,hsz,hn2⟩
     have o12:=s12;clear s1 s3 s10 s11 s12 g0 gp hx hx2 hlen hfz g0' gp' xp x0 hE hc hsz g hul hune hn2;rintro s G nz-⟨s1,s3,g0,s10,gp,s12,s13,gE,hnz,j,x,u',s15,hj,s11,hx,hes,hc,hsz,hnu⟩;have hw:IntKind.i64.wrap (↑j+1)=((j+1:Nat):Int):=dh (by omega);have g:Good u':=dZ.1 (dJ.1 hc).2.2;have hul:=g.le;have hune:u'≠[]:=List.ne_nil_of_length_pos g.pos;apply aA;refine aR fun K' hK=> ?_
     simp[s13,s15,gE];apply hK;clear K' hK;refine aC fun A B hA hB=> ?_
     simp;refine⟨fun hj2=>hA ?_,fun hj2=>hB ?_⟩<;>clear hA hB A B<;>(try simp at hj2)<;>(try with_reducible refine aK ?_)
     ·obtain⟨hdr,hdn⟩:=hEz _ (bM hj2);have hED:=LV root L u' hsz h12 hc n hnu (nth E j) hdn hdr;have hdc:=drop_cons hj2;have hstep:eG root L n (nth E j::E.drop (j+1)) u'=if(dY root L n (nth E j) u').2=0 then eG root L n (E.drop (j+1)) (dY root L n (nth E j) u').1 else([],(dY root L n (nth E j) u').2):=rfl;rw[hdc,hstep]at hes;clear hstep;have hcs:=Fa root L n (nth E j) u';have hxt:=fun h=>ru (root:=root) (L:=L) (t:=u') (n:=n) (d:=nth E j) hc hnu h;have hsx:=fun h=>zN (root:=root) (L:=L) (t:=u') (n:=n) (d:=nth E j) hsz hul hdn h;generalize hgd:nth E j=d at*;have xp:=hx.mX gp;have x0:=hx.mX g0;have xE:=hx.NM gE;have n0:¬0=nz:=(by omega);have np:¬p=nz:=(by omega);have nE:¬nx=nz:=(by omega);apply aB;refine aQ fun K' hK=> ?_
      simp[s10,s11,s12,s13,s15,gp,gE,hj2,hgd];refine IL hED hx hune ?_;rintro G' hfz hx2;have g0':G' 0=some (.var 27 root.cells):=(by rw[hfz 0 x0];exact g0);have gp':G' p=some (.var 83 (sK root L)):=(by rw[hfz p xp];exact gp);have gE':G' nx=some (.row 35 (flat Dep.cells E)):=(by rw[hfz nx xE];exact gE);rcases hcs with⟨c0,c1,c2⟩ | ⟨c0,c1,c2⟩ | ⟨c0,c2⟩
      ·rw[if_pos c0,c1]at hes;rw[c2];simp[dO];apply hK;clear K' hK;apply aA;refine aR fun K' hK=> ?_
       simp;apply hK;clear K' hK;refine aYk (by simp) ?_;refine aS fun K' hK=> ?_
       simp;apply hK;clear K' hK;apply aj
       refine ah ?_;refine aS fun K' hK=> ?_
       simp[s15,hw];apply hK;clear K' hK;refine aj (ay ?_ ?_)
       ·exact⟨by simp[s1],by simp[s3],g0',by simp[s10],gp',by simp[s12],by simp[s13],gE',hnz,j+1,rowT Pl.cells u',u',by simp[hw],by omega,by first | (simp;done) | (simp;rfl),.inl rfl,hes,hc,hsz,hnu⟩
       ·simp[s15,hw];omega
      ·have e1:=(hxt c0).1.code;have e2:=hsx c0;rw[if_pos c0]at hes;rw[c2];generalize (dY root L n d u').1=X at*;simp[bK];apply hK;clear K' hK;apply aA;refine aR fun K' hK=> ?_
       simp;apply hK;clear K' hK;refine aYk (by simp) ?_;refine aS fun K' hK=> ?_
       simp;apply hK;clear K' hK;apply aj
       refine ah ?_;refine aS fun K' hK=> ?_
       simp[s15,hw];apply hK;clear K' hK;refine aj (ay ?_ ?_)
       ·exact⟨by simp[s1],by simp[s3],by simp[n0,g0'],by simp[s10],by simp[np,gp'],by simp[s12],by simp[s13],by simp[nE,gE'],by omega,j+1,_,X,by simp[hw],by omega,rfl,.inr ⟨nz,by simp,by omega,.inr ⟨by omega,by simp⟩⟩,hes,e1,e2,by omega⟩
       ·simp[s15,hw];omega
      ·rw[if_neg c0]at hes;rw[hes,if_neg c0]at hgs;rw[c2];have hgo:=hG2 _ _ hgs c0;generalize (dY root L n d u').2=c at*;simp[bK];apply hK;clear K' hK;rw[hgo];apply aA;refine aR fun K' hK=> ?_
       simp[c0];apply hK;clear K' hK;refine aX (by simp) ?_;apply aA;refine aR fun K' hK=> ?_
       simp;apply hK;clear K' hK;apply aJ
       simp[au,aG,Post,aW,res1,bF,bC,aP,bg,bf,okT,okA,ok1,rowOf,Tryz.f20]
     ·skip;apply bG
      refine aI (aH ?_);have hje:j=E.length:=(by omega);subst hje;rw[List.drop_length]at hes;have hes:eG root L n E u=(u',0):=hes;rw[hes,if_pos rfl]at hgs;have hw2:IntKind.i64.wrap (↑n+1)=((n+1:Nat):Int):=dh (by omega);apply aj
      refine ah ?_;refine aS fun K' hK=> ?_
      simp[s12,hw2];apply hK;clear K' hK;refine aj (ay ?_ ?_)
      ·exact⟨by simp[s1],by simp[s3],g0,by omega,⟨p,by simp[s10],gp,by omega⟩,n+1,k,x,u',by simp[hw2],by omega,by omega,by simp[s11],hx,hgs,hc,hsz⟩
      ·simp[o12,s12,hw2];omega
   ·rw[if_neg (by omega)]at hgs;rw[hG1 _ hgs];apply bG
    refine aI (aH ?_);refine aR fun K' hK=> ?_
    simp[s11];apply hK;clear K' hK;rcases hx with rfl | ⟨q,rfl,hq,h | ⟨h,_⟩⟩
    ·skip;apply aF
     simp[au,aG,Post,aW,res1,bF,bC,aP,bg,bf,okT,okA,ok1,rowOf,Tryz.f20];all_goals first | exact⟨rfl,rfl⟩ | rfl
    ·have hfl:(flat Pl.cells u).length=u.length*6:=eY;apply aF
     simp[au,aG,Post,aW,res1,bF,bC,aP,bg,bf,okT,okA,ok1,rowOf,Tryz.f20,h,c50,hfl];all_goals first | exact⟨rfl,rfl⟩ | rfl
    ·omega
  ·rw[if_neg hc]at hGe;rw[hG2 _ _ hGe hc];apply aA;refine aR fun K' hK=> ?_
   simp[hc];apply hK;clear K' hK;refine aX (by simp) ?_;apply aA;refine aR fun K' hK=> ?_
   simp;apply hK;clear K' hK;apply aJ
   simp[au,aG,Post,aW,res1,bF,bC,aP,bg,bf,okT,okA,ok1,rowOf,Tryz.f20]
 ·unfold gQ;split<;>rfl
theorem H8:CallsOK Tryz.prog 49 [] (.row 0 1) [(50,flat Pl.cells [rootP])]:=by
 refine aN mixed Tryz.call49 Tryz.func49 rfl (by rw[Tryz.ntmps49];simp) ?_ rfl;rw[Tryz.ntmps49];refine aR fun K' hK=> ?_
 simp;apply hK;clear K' hK;refine aR fun K' hK=> ?_
 simp;apply hK;clear K' hK;apply aF
 simp[au,aG,Post,aW,res1,bF,bC,aP,bg,bf,okT,okA,ok1,rowOf,Tryz.f49];rfl
theorem IQ (root:Man) (L:List Man) (hr:Man.sz root) (hro:Man.okS root) (hL:Idx.sz L) (hLo:∀m∈L,Man.okS m) (h12:dK L=0→L.length≤12):CallsOK Tryz.prog 22 [.agg root.cells,rowT Man.cells L] (gQ root L [rootP]).1 (gQ root L [rootP]).2:=by
 have hsz:fP root L [rootP]:=⟨hr,hro,hL,hLo,uI (by decide+kernel),fun p hp=>by simp at hp;subst hp;decide⟩;have hG:=Bg root L [rootP] hsz h12 (by simp);have hO:gQ root L [rootP]=if(growS root L [rootP]).2=0 then(.tup [rowT Pl.cells (growS root L [rootP]).1,iV 0],[])else(.tup [.row 0 0,iV (growS root L [rootP]).2],[(50,[])]):=rfl;refine aN mixed Tryz.call22 Tryz.func22 rfl (by rw[Tryz.ntmps22];simp) ?_ ?_
 ·rw[Tryz.ntmps22];generalize growS root L [rootP]=gs at*;generalize gQ root L [rootP]=go at*;refine aR fun K' hK=> ?_
  simp;apply hK;clear K' hK;by_cases h:gs.2=0
  ·rw[if_pos h]at hO;subst hO;refine aQ fun K' hK=> ?_
   simp;refine aO H8 (by first | rfl | (simp;done) | (simp;rfl) | (simp;exact⟨rfl,rfl⟩)) ?_;simp[bK];refine aO hG (by first | rfl | (simp;done) | (simp;rfl) | (simp;exact⟨rfl,rfl⟩)) ?_;simp[dO];apply hK;clear K' hK;apply aF
   simp[au,aG,Post,aW,res1,bF,bC,aP,bg,bf,okT,okA,ok1,rowOf,Tryz.f22];all_goals first | exact⟨rfl,rfl⟩ | rfl
  ·rw[if_neg h]at hO;subst hO;refine aQ fun K' hK=> ?_
   simp;refine aO H8 (by first | rfl | (simp;done) | (simp;rfl) | (simp;exact⟨rfl,rfl⟩)) ?_;simp[bK];refine aO hG (by first | rfl | (simp;done) | (simp;rfl) | (simp;exact⟨rfl,rfl⟩)) ?_;simp[bK];apply hK;clear K' hK;apply aF
   simp[au,aG,Post,aW,res1,bF,bC,aP,bg,bf,okT,okA,ok1,rowOf,Tryz.f22];all_goals first | exact⟨rfl,rfl⟩ | rfl
 ·unfold gQ;split<;>rfl
set_option maxRecDepth 100000
set_option maxHeartbeats 4000000
@[simp] theorem ty78:tyI Tryz.prog 78=some (false,1):=by kernel_rfl
@[simp] theorem ty129:tyI Tryz.prog 129=some (false,1):=by kernel_rfl
def jd (root:Man) (L:List Man) (x:AV):List AV:=root.cells++[rowT Man.cells L,x]
@[simp] theorem growC_len (root:Man) (L:List Man) (x:AV):(jd root L x).length=9:=rfl
@[simp] theorem grow_root (root:Man) (L:List Man) (x:AV):gU (jd root L x) 0 7=some root.cells:=rfl
@[simp] theorem grow_rules (root:Man) (L:List Man) (x:AV):gU (jd root L x) 6 1=some [rowT Ru.cells root.rules]:=rfl
@[simp] theorem grow_x (root:Man) (L:List Man) (x:AV):gU (jd root L x) 7 1=some [rowT Man.cells L]:=rfl
@[simp] theorem grow_t (root:Man) (L:List Man) (x:AV):gU (jd root L x) 8 1=some [x]:=rfl
def Kept (G X:Hp) (nx:Nat) (x:AV):Prop:=∀k,k<nx→(∀m,x≠ .row k m)→X k=G k
theorem jZ.see {P:Prop} {G:Hp} {nx:Nat} {x:AV} {u:List Pl} (h:jZ P G nx x u):rD Tryz.prog G x=some (rowT Pl.cells u):=by
 have ht:=h.tree;rcases h with rfl | ⟨q,rfl,_,h⟩
 ·rfl
 ·simp only[rD,lookA];exact ht
theorem Kept.all {G X:Hp} {nx ny:Nat} {x:AV} {u:List Pl} (h:Kept G X nx x) (h1:jZ False G nx x u) (h2:jZ False X ny x u):∀k,k<nx→X k=G k:=by
 intro k hk;by_cases hx:∀m,x≠ .row k m
 ·exact h k hk hx
 ·have:∃m,x=.row k m:=Classical.byContradiction fun hn=>hx fun m e=>hn ⟨m,e⟩;obtain⟨m,rfl⟩:=this;rcases h1 with h1 | ⟨q,e1,_,h1 | ⟨h1,_⟩⟩
  ·cases h1
  ·rcases h2 with h2 | ⟨q2,e2,_,h2 | ⟨h2,_⟩⟩
   ·cases h2
   ·injection e1 with e1;injection e2 with e2;subst e1;subst e2;rw[h1,h2]
   ·exact h2.elim
  ·exact h1.elim
theorem Ee {root:Man} {L:List Man} {u:List Pl} (hsz:fP root L u) (g:Good u) {n:Nat} {P:Prop} {G:Hp} {nx W:Nat} {x:AV} {K:AV→Hp→Nat→Prop} (hx:jZ P G nx x u) (hW:G W=some (.var 80 (jd root L x))) (hWn:W<nx)
  (hKK:∀X ny r,nx≤ny→Kept G X nx x→jZ False X ny x u→nx≤r→r<ny→X r=some (.row 35 (flat Dep.cells (edgesV root L u n)))→K (.tup [.row r (edgesV root L u n).length,bV (manVal root L u n).isSome]) X ny):L9 Tryz.prog 45 [.ptr W 0,iV n] K G nx:=by
 obtain⟨hr,hro,hL,hLo,ht,htv⟩:=id hsz;have hune:u≠[]:=List.ne_nil_of_length_pos g.pos;refine zY mixed Tryz.call45 Tryz.func45 rfl (by rw[Tryz.ntmps45];simp) fun hf=> ?_;rw[Tryz.ntmps45];have hM:=BD root hro L hL.1 hLo u ht n;have hE:edgesV root L u n=match manVal root L u n with
  | none=>[]
  | some m=>ofF m.deps root.rules (decide ((n:Int)=0)):=rfl
 have hms:=fun m (h:manVal root L u n=some m)=>nM h;have nW:¬W=nx:=(by omega);have hx1:jZ P (G.upd nx (.row 35 [])) (nx+1) x u:=hx.keep (by omega) id fun k hk=>Hp.upd_ne _ _ (by omega);have xW:∀m,x≠ .row W m:=hx.mX hW;have hdec:decide ((n:Int)=0)=decide (n=0):=(by simp);generalize hmo:manVal root L u n=mo at*;refine aR fun K' hK=> ?_
 simp;apply hK;clear K' hK;refine fH none [] (by decide+kernel) (by decide+kernel) (fun p' hp'=>by cases hp') fun K' hK=> ?_;simp[hW,nW];refine yu hM hx1 hune ?_;rintro G' hfz hx2;have hW':G' W=some (.var 80 (jd root L x)):=(by rw[hfz W xW,Hp.upd_ne _ _ nW];exact hW);have hkp:∀k,k<nx→(∀m,x≠ .row k m)→G' k=G k:=fun k hk hm=>(by rw[hfz k hm,Hp.upd_ne _ _ (by omega)]);cases mo with
 | none=>
  have hE:edgesV root L u n=[]:=hE;rw[hE]at hKK;simp[uM,dO];apply hK;clear K' hK;have n2:¬W=nx+1:=(by omega);refine aQ fun K' hK=> ?_
  simp[hW',n2];refine aO (TU root.rules (decide ((n:Int)=0)) hro.2) (by first | rfl | (simp;done) | (simp;rfl) | (simp;exact⟨rfl,rfl⟩)) ?_;simp[bK];apply hK;clear K' hK;apply aF
  simp[au,aG,Post,aW,res1,bF,bC,aP,bg,bf,okT,okA,ok1,rowOf,Tryz.f45];exact hKK _ _ (nx+1+1) (by omega) (fun k hk hm=>by rw[Hp.upd_ne _ _ (by omega),Hp.upd_ne _ _ (by omega),Hp.upd_ne _ _ (by omega)];exact hkp k hk hm) (hx2.keep (by omega) id fun k hk=>by rw[Hp.upd_ne _ _ (by omega),Hp.upd_ne _ _ (by omega),Hp.upd_ne _ _ (by omega)]) (by omega) (by omega) (by simp)
 | some m=>
  have hE:edgesV root L u n=ofF m.deps root.rules (decide ((n:Int)=0)):=hE;rw[hE,hdec]at hKK;have hmz:Man.okS m:=by
   rcases hms m rfl with rfl | h
   ·exact hro
   ·exact hLo _ h
  simp[uM,kM];apply hK;clear K' hK;refine fV (fun u H nz=>u 0=.ptr W 0∧u 1=iV n∧u 6=.ptr (nx+3) 0∧u 7=bV true∧nz=nx+4∧(∀k,k<nx+1→H k=G' k)∧H (nx+1)=some (.row 35 (flat Dep.cells m.deps))∧H (nx+2)=some (.row 134 (flat Ru.cells m.rules))∧H (nx+3)=some (.var 27 (m.dX (.row (nx+1) m.deps.length) (.row (nx+2) m.rules.length)))) ?_ ?_
  ·refine⟨by simp,by simp,by simp,by simp,by omega,fun k hk=>by repeat rw[Hp.upd_ne _ _ (by omega)],by simp,by simp,by simp[Nat.add_comm,Nat.add_left_comm]⟩
  rintro s H nz ⟨u0,u1,u6,u7,rfl,hH,k1,k2,k3⟩;have hT:=nS (show¬nx+2=nx+1 by omega) k1 k2;have hWH:H W=some (.var 80 (jd root L x)):=(by rw[hH W (by omega)];exact hW');refine aQ fun K' hK=> ?_
  simp[u0,u1,u6,k3,hWH];refine aO (FN m root.rules (decide ((n:Int)=0)) hmz.1 hro.2) (by simp[hT]) ?_;simp[bK,hT];apply hK;clear K' hK;apply aF
  simp[au,aG,Post,aW,res1,bF,bC,aP,bg,bf,okT,okA,ok1,rowOf,Tryz.f45,u7];exact hKK _ _ (nx+4) (by omega) (fun k hk hm=>by rw[Hp.upd_ne _ _ (by omega),dW (by omega),dW (by omega),hH k (by omega)];exact hkp k hk hm) (hx2.keep (by omega) id fun k hk=>by rw[Hp.upd_ne _ _ (by omega),dW (by omega),dW (by omega),hH k (by omega)]) (by omega) (by omega) (by simp)
theorem P6 {G:Hp} {x a:AV} {n:Int} {d:Dep} (h:rD Tryz.prog G x=some a):seesA Tryz.prog G [x,iV n,.agg d.cells]=some [a,iV n,.agg d.cells]:=by
 simp only[seesA,h];rfl
theorem SH {root:Man} {L:List Man} {t w:List Pl} (hsz:fP root L t) (hszw:fP root L w) (g:Good t) (gw:Good w) (hle:t.length≤w.length) {G0:Hp} {n0 W q:Nat} {x:AV} {K:AV→Hp→Nat→Prop} (hx:jZ False G0 n0 x t) (hW:G0 W=some (.var 80 (jd root L x))) (hWn:W<n0) (hq:G0 q=some (.row 50 (flat Pl.cells w))) (hqn:q<n0)
  (hKK:∀X ny,n0≤ny→(∀k,k<n0→X k=G0 k)→K (bV (l9 root L t w)) X ny):L9 Tryz.prog 82 [.ptr W 0,.row q w.length] K G0 n0:=by
 obtain⟨hr,hro,hL,hLo,ht,htv⟩:=id hsz;obtain⟨_,_,_,_,hwo,hwv⟩:=id hszw;have htl:=g.le;rw[BQ]at hKK;refine zY mixed Tryz.call82 Tryz.func82 rfl (by rw[Tryz.ntmps82];simp) fun hf=> ?_;rw[Tryz.ntmps82];have hlen:=hx.len;refine aR fun K' hK=> ?_
 simp;apply hK;clear K' hK;apply aA;refine aR fun K' hK=> ?_
 simp[hW,hlen];apply hK;clear K' hK;apply aB
 refine bH (fun s X nx=>s 0=.ptr W 0∧s 1=.row q w.length∧s 14=iV t.length∧n0≤nx∧(∀k,k<n0→X k=G0 k)∧∃n:Nat,s 15=iV n∧n≤t.length∧∀j,j<n→oZ root L t w j=true) (fun s _ _=>match s 15 with | .v (.int _ n)=>t.length-n.toNat | _=>0) ?_ ?_
 ·exact⟨by simp,by simp,by simp,by omega,fun k hk=>rfl,0,by simp,by omega,fun j hj=>by omega⟩
 rintro s X nx-⟨s0,s1,s14,hnx,hX,n,s15,hn,hall⟩;have hwn:IntKind.i64.wrap (↑n+1)=((n+1:Nat):Int):=dh (by omega);refine aR fun K' hK=> ?_
 simp[s14,s15];apply hK;clear K' hK;refine aC fun A B hA hB=> ?_
 simp;refine⟨fun hn2=>hA ?_,fun hn2=>hB ?_⟩<;>clear hA hB A B<;>(try simp at hn2)<;>(try with_reducible refine aK ?_)
 ·have hxX:jZ False X nx x t:=hx.keep hnx id hX;have hWX:X W=some (.var 80 (jd root L x)):=(hX W hWn).trans hW;have hEd:=fun K'=>Ee (n:=n) (K:=K') hsz g hxX hWX (by omega);have hEz:=jW (t:=t) (n:=n) hr hL;have hEl:=nC (t:=t) (n:=n) hr hL;have hat:oZ root L t w n=(edgesV root L t n).all fun d=> !holdsV t n d || holdsV w n d:=rfl;generalize (manVal root L t n).isSome=sm at*;generalize edgesV root L t n=E at*;apply aB;refine aR fun K' hK=> ?_
  simp[s15];apply hK;clear K' hK;refine aR fun K' hK=> ?_
  simp[s0];refine dH (hEd _ ?_);rintro Y ny r hny hYk hYx hr1 hr2 hYr;have hY:=hYk.all hxX hYx;simp[uq];apply hK;clear K' hK;refine aR fun K' hK=> ?_
  simp[hYr];apply hK;clear K' hK;refine dL (aB ?_)
  refine bH (fun s Z nz=>s 0=.ptr W 0∧s 1=.row q w.length∧s 14=iV t.length∧s 15=iV n∧s 5=iV n∧ny≤nz∧(∀k,k<n0→Z k=G0 k)∧s 24=.row r E.length∧s 25=iV E.length∧Z r=some (.row 35 (flat Dep.cells E))∧∃j:Nat,s 26=iV j∧j≤E.length∧∀i,i<j→(!holdsV t n (nth E i) || holdsV w n (nth E i))=true) (fun s _ _=>match s 26 with | .v (.int _ n)=>E.length-n.toNat | _=>0) ?_ ?_
  ·exact⟨by simp[s0],by simp[s1],by simp[s14],by simp[s15],by simp,by omega,fun k hk=>(hY k (by omega)).trans (hX k hk),by simp,by simp,hYr,0,by simp,by omega,fun j hj=>by omega⟩
  have o15:=s15;clear s0 s1 s14 s15;rintro s Z nz-⟨s0,s1,s14,s15,s5,hnz,hZ,s24,s25,hZr,j,s26,hj,hok⟩;have hw:IntKind.i64.wrap (↑j+1)=((j+1:Nat):Int):=dh (by omega);refine aR fun K' hK=> ?_
  simp[s25,s26];apply hK;clear K' hK;refine aC fun A B hA hB=> ?_
  simp;refine⟨fun hj2=>hA ?_,fun hj2=>hB ?_⟩<;>clear hA hB A B<;>(try simp at hj2)<;>(try with_reducible refine aK ?_)
  ·have hd:=(hEz _ (bM hj2)).1;have h1:=nJ t ht htv n (nth E j) hd;have h2:=nJ w hwo hwv n (nth E j) hd;have hmem:=bM hj2;have hWZ:Z W=some (.var 80 (jd root L x)):=(hZ W hWn).trans hW;have hqZ:Z q=some (.row 50 (flat Pl.cells w)):=(hZ q hqn).trans hq;generalize hgd:nth E j=d at*;have nW:¬W=nz:=(by omega);have nq:¬q=nz:=(by omega);have nr:¬r=nz:=(by omega);apply aB;refine aR fun K' hK=> ?_
   simp[s24,s26,hZr,hj2,hgd];apply hK;clear K' hK;have hH:∀o1 o2 k,k<n0→((Z.upd nz o1).upd nz o2) k=G0 k:=fun o1 o2 k hk=>(by rw[Hp.upd_ne _ _ (by omega),Hp.upd_ne _ _ (by omega)];exact hZ k hk);have hxs:=fun H hH=>(hx.keep (Q:=False) (G':=H) (Nat.le_refl _) id hH).see;have hqs:∀H:Hp,(∀k,k<n0→H k=G0 k)→rD Tryz.prog H (.row q w.length)=some (rowT Pl.cells w):=fun H hH=>(show jZ True H n0 (.row q w.length) w from .inr ⟨q,rfl,hqn,.inr ⟨trivial,(hH q hqn).trans hq⟩⟩).see;refine aQ fun K' hK=> ?_
   simp[s0,s5,hWZ,nW];refine ak h1 rfl (P6 (hxs _ (hH _ _))) ?_;cases ht1:holdsV t n d with
   | false=>
    simp;apply hK;clear K' hK;refine aVk (by simp) ?_;apply aj
    refine ah ?_;refine aS fun K' hK=> ?_
    simp[s26,hw];apply hK;clear K' hK;refine aj (ay ?_ ?_)
    ·exact⟨by simp[s0],by simp[s1],by simp[s14],by simp[s15],by simp[s5],by omega,hH _ _,by simp[s24],by simp[s25],by simp[nr,hZr],j+1,by simp[hw],by omega,fun i hi=>by
      rcases Nat.lt_or_ge i j with h | h
      ·exact hok i h
      ·have:i=j:=(by omega);subst this;rw[hgd,ht1];rfl⟩
    ·simp[s26,hw];omega
   | true=>
    simp[s1,s5];refine ak h2 rfl (P6 (hqs _ (hH _ _))) ?_;cases ht2:holdsV w n d with
    | false=>
     simp;apply hK;clear K' hK;refine aU (by simp) ?_;apply aA;refine aR fun K' hK=> ?_
     simp;apply hK;clear K' hK;have hf:oZ root L t w n=false:=by
      rw[hat,←Bool.not_eq_true,List.all_eq_true];intro hh;have:=hh d hmem;rw[ht1,ht2]at this;cases this
     rw[ug hn2 hf]at hKK;apply aJ
     simp[au,aG,Post,aW,res1,bF,bC,aP,bg,bf,okT,okA,ok1,rowOf,Tryz.f82];exact hKK _ _ (by omega) (hH _ _)
    | true=>
     simp;apply hK;clear K' hK;refine aVk (by simp) ?_;apply aj
     refine ah ?_;refine aS fun K' hK=> ?_
     simp[s26,hw];apply hK;clear K' hK;refine aj (ay ?_ ?_)
     ·exact⟨by simp[s0],by simp[s1],by simp[s14],by simp[s15],by simp[s5],by omega,hH _ _,by simp[s24],by simp[s25],by simp[nr,hZr],j+1,by simp[hw],by omega,fun i hi=>by
       rcases Nat.lt_or_ge i j with h | h
       ·exact hok i h
       ·have:i=j:=(by omega);subst this;rw[hgd,ht2];simp⟩
     ·simp[s26,hw];omega
  ·skip;apply bG
   refine aI (aH ?_);apply aj
   refine ah ?_;refine aS fun K' hK=> ?_
   simp[s15,hwn];apply hK;clear K' hK;refine aj (ay ?_ ?_)
   ·exact⟨by simp[s0],by simp[s1],by simp[s14],by omega,hZ,n+1,by simp[hwn],by omega,fun i hi=>by
     rcases Nat.lt_or_ge i n with h | h
     ·exact hall i h
     ·have:i=n:=(by omega);subst this;rw[hat,List.all_eq_true];intro d hd;obtain⟨k,hk,rfl⟩:=List.mem_iff_getElem.1 hd;have:=hok k (by omega);rw[bZ hk]at this;exact this⟩
   ·simp[o15,s15,hwn];omega
 ·skip;apply bG
  refine aI (aH ?_);rw[DK fun j hj=>hall j (by omega)]at hKK;refine aR fun K' hK=> ?_
  simp;apply hK;clear K' hK;apply aF
  simp[au,aG,Post,aW,res1,bF,bC,aP,bg,bf,okT,okA,ok1,rowOf,Tryz.f82];exact hKK _ _ hnx hX
set_option maxRecDepth 100000
set_option maxHeartbeats 4000000
theorem Ul {G:Hp} {x a:AV} {i:Int} {b:Bs} {v:Ver} (h:rD Tryz.prog G x=some a):seesA Tryz.prog G [x,iV i,sV b,.agg v.cells]=some [a,iV i,sV b,.agg v.cells]:=by
 simp only[seesA,h];rfl
theorem Jg {G:Hp} {x a:AV} {i:Int} {b:Bs} (h:rD Tryz.prog G x=some a):seesA Tryz.prog G [x,iV i,sV b]=some [a,iV i,sV b]:=by
 simp only[seesA,h];rfl
theorem jZ.wild {G:Hp} {nx:Nat} {x:AV} {u:List Pl} (h:jZ False G nx x u):∀X:Hp,(∀k,k<nx→X k=G k)→jZ False X nx x u:=fun X hX=>h.keep (Nat.le_refl _) id hX
theorem Ua {root:Man} {L:List Man} {t:List Pl} (hsz:fP root L t) (g:Good t) {d:Dep} {v:Ver} (hd:d.name.size≤1000000) (hv:v.pre.size≤1000000) {p:Nat} (hp:p<t.length) {G:Hp} {nx W D0 D1 D2:Nat} {x:AV} {K:AV→Hp→Nat→Prop}
  (hx:jZ False G nx x t) (hW:G W=some (.var 80 (jd root L x))) (hWn:W<nx) (h0:G D0=some (.var 78 [.ptr W 0])) (h0n:D0<nx) (h1:G D1=some (.var 35 d.cells)) (h1n:D1<nx) (h2:G D2=some (.var 23 v.cells)) (h2n:D2<nx)
  (hKK:∀X ny,nx≤ny→(∀k,k<nx→X k=G k)→K (bV (fJ root L t d v p)) X ny):L9 Tryz.prog 81 [iV p,.ptr D0 0,.ptr D1 0,.ptr D2 0] K G nx:=by
 obtain⟨hr,hro,hL,hLo,ht,htv⟩:=id hsz;have htl:=g.le;have hA:=Ia t ht p d.name v (by omega) (by omega);have hso:fJ root L t d v p=(decide (cZ t p d.name v=0)&&l9 root L t (jc t p d.name v)):=rfl;refine zY mixed Tryz.call81 Tryz.func81 rfl (by rw[Tryz.ntmps81];simp) fun hf=> ?_;rw[Tryz.ntmps81];have nW:¬W=nx:=(by omega);have n0:¬D0=nx:=(by omega);have n1:¬D1=nx:=(by omega);have n2:¬D2=nx:=(by omega);refine aR fun K' hK=> ?_
 simp;apply hK;clear K' hK;refine aQ fun K' hK=> ?_
 simp[h0,h1,h2,hW];refine sH hA ⟨rfl,VK _ _⟩ (Ul hx.see) ?_;simp[bK];apply hK;clear K' hK;by_cases hc0:cZ t p d.name v=0
 ·have hgu:=nV hc0;have hzu:=Nk (i:=p) hsz (by omega) hd hv;have hadr:=zT hc0;have hlen:t.length≤(jc t p d.name v).length:=(by rw[fG];omega);have hso2:fJ root L t d v p=l9 root L t (jc t p d.name v):=(by rw[hso,hc0];simp);rw[hso2]at hKK;rw[hadr];generalize jc t p d.name v=w at*;have hx1:jZ False (G.upd nx (.row 50 (flat Pl.cells w))) (nx+1) x t:=hx.keep (by omega) id fun k hk=>Hp.upd_ne _ _ (by omega);refine aR fun K' hK=> ?_
  simp[hc0,h0,n0];refine dH (SH hsz hzu g hgu hlen hx1 (by rw[Hp.upd_ne _ _ nW];exact hW) (by omega) (q:=nx) (by simp) (by omega) ?_);rintro X ny hny hX;simp[uq];apply hK;clear K' hK;apply aF
  simp[au,aG,Post,aW,res1,bF,bC,aP,bg,bf,okT,okA,ok1,rowOf,Tryz.f81];exact hKK X ny (by omega) fun k hk=>by rw[hX k (by omega),Hp.upd_ne _ _ (by omega)]
 ·have hb:fJ root L t d v p=false:=(by rw[hso];simp[hc0]);rw[hb]at hKK;refine aR fun K' hK=> ?_
  simp[hc0];apply hK;clear K' hK;apply aF
  simp[au,aG,Post,aW,res1,bF,bC,aP,bg,bf,okT,okA,ok1,rowOf,Tryz.f81];exact hKK _ _ (by omega) fun k hk=>by rw[Hp.upd_ne _ _ (by omega)]
def Qx (o:Int):Int:=if 0≤o then o else 0
theorem Qu {root:Man} {L:List Man} {t:List Pl} (hsz:fP root L t) (g:Good t) {n:Nat} (hn:n<t.length) {d:Dep} {v:Ver} (hd:d.name.size≤1000000) (hv:v.pre.size≤1000000) {G:Hp} {nx W:Nat} {x:AV} {K:AV→Hp→Nat→Prop}
  (hx:jZ False G nx x t) (hW:G W=some (.var 80 (jd root L x))) (hWn:W<nx)
  (hKK:∀X ny,nx≤ny→(∀k,k<nx→X k=G k)→K (iV (jo root L t n d v)) X ny):L9 Tryz.prog 41 [.ptr W 0,iV n,.agg d.cells,.agg v.cells] K G nx:=by
 obtain⟨hr,hro,hL,hLo,ht,htv⟩:=id hsz;have htl:=g.le;have hsp:jo root L t n d v=mZ (fJ root L t d v) (rV t d.name (jI t n d)) (-1):=(by unfold jo;rw[Gy g hn]);rw[hsp]at hKK;have hst:=start_lt g hn d;refine zY mixed Tryz.call41 Tryz.func41 rfl (by rw[Tryz.ntmps41];simp) fun hf=> ?_;rw[Tryz.ntmps41];refine aR fun K' hK=> ?_
 simp[Nat.add_assoc];apply hK;clear K' hK;refine aR fun K' hK=> ?_
 simp[Nat.add_assoc];refine dH (zY mixed Tryz.call80 Tryz.func80 rfl (by rw[Tryz.ntmps80];simp) fun hf=> ?_);rw[Tryz.ntmps80];refine aR fun K' hK=> ?_
 simp[Nat.add_assoc];apply hK;clear K' hK;refine aR fun K' hK=> ?_
 simp[Nat.add_assoc];apply hK;clear K' hK;apply aF
 simp[au,aG,Post,aW,res1,bF,bC,aP,bg,bf,okT,okA,ok1,rowOf,Tryz.f80];refine dH (zY mixed Tryz.call79 Tryz.func79 rfl (by rw[Tryz.ntmps79];simp) fun hf=> ?_);rw[Tryz.ntmps79];refine aR fun K' hK=> ?_
 simp[Nat.add_assoc];apply hK;clear K' hK;refine aR fun K' hK=> ?_
 simp[Nat.add_assoc];apply hK;clear K' hK;refine aR fun K' hK=> ?_
 simp[Nat.add_assoc];apply hK;clear K' hK;apply aA;refine aR fun K' hK=> ?_
 simp[Nat.add_assoc];apply hK;clear K' hK;refine fV (fun u H nz=>u 3=.ptr (nx+6) 0∧u 6=.ptr (nx+7) 0∧u 7=.ptr (nx+8) 0∧u 9=.fn 123 [.ptr (nx+4) 0,.ptr (nx+5) 0,.ptr (nx+3) 0]∧nz=nx+9∧H (nx+6)=some (.var 129 [.fn 81 [.ptr nx 0,.ptr (nx+1) 0,.ptr (nx+2) 0]])∧H nx=some (.var 78 [.ptr W 0])∧H (nx+1)=some (.var 35 d.cells)∧H (nx+2)=some (.var 23 v.cells)∧H (nx+3)=some (.var 78 [.ptr W 0])∧H (nx+4)=some (.var 3 [iV n])∧H (nx+5)=some (.var 35 d.cells)∧H (nx+7)=some (.var 3 [iV 0])∧H (nx+8)=some (.var 4 [bV false])∧∀k,k<nx→H k=G k) ?_ ?_
 ·refine⟨by simp,by simp,by simp,by simp,by omega,by simp,by simp,by simp,by simp,by simp,by simp,by simp,by simp,by simp,fun k hk=>by repeat rw[Hp.upd_ne _ _ (by omega)]⟩
 rintro s H nz ⟨s3,s6,s7,s9,rfl,hF,hD0,hD1,hD2,hC3,hC4,hC5,hB6,hB7,hH⟩;have hWH:H W=some (.var 80 (jd root L x)):=(by rw[hH W hWn];exact hW);have w9:¬W=nx+9:=(by omega);refine fC (fun u X ny=>u 6=.ptr (nx+7) 0∧u 7=.ptr (nx+8) 0∧nx+9<ny∧(∀k,k<nx→X k=G k)∧∃o:Int,-1≤o∧X (nx+7)=some (.var 3 [iV (Qx o)])∧X (nx+8)=some (.var 4 [bV (decide (0≤o))])∧mZ (fJ root L t d v) (rV t d.name (jI t n d)) (-1)=o) ?_ ?_
 ·skip;refine dL (aB ?_)
  refine jQ (f:=123) (fn:=Tryz.f123) mixed s9 Tryz.call123 Tryz.func123 rfl (by rw[Tryz.ntmps123];simp) rfl ?_;rw[Tryz.ntmps123];generalize hL:(Lp.mk s 17 _ _ _)=Lq;have hLs:Lq.s=s:=(by subst hL;rfl);have hround:∀(p:Nat) (o:Int) (K:AV→Hp→Nat→Prop) (X:Hp) (ny:Nat),p<t.length→nx+9<ny→(∀k,k<nx+7→X k=H k)→X (nx+7)=some (.var 3 [iV (Qx o)])→X (nx+8)=some (.var 4 [bV (decide (0≤o))])→X (nx+9)=some (Lq.o .ready none)→
    (∀X' ny',ny≤ny'→(∀k,k<nx+7→X' k=H k)→X' (nx+7)=some (.var 3 [iV (Qx (if fJ root L t d v p=true then(p:Int)else o))])→X' (nx+8)=some (.var 4 [bV (decide (0≤(if fJ root L t d v p=true then(p:Int)else o)))])→X' (nx+9)=some (Lq.o .ready none)→K (bV true) X' ny')→DT Tryz.prog (nx+9) [iV p] K X ny:=by
   subst hL;clear hB6 hB7;intro p o K X ny hp hny hX hX7 hX8 hXZ k1;have hFx:=(hX (nx+6) (by omega)).trans hF;have nz:∀(Y:Hp) (ob:AObj),(∀k,k<ny→Y k=(X.upd (nx+9) ob) k)→∀k,k<nx→Y k=G k:=fun Y ob hY k hk=>(by rw[hY k (by omega),Hp.upd_ne _ _ (by omega),hX k (by omega),hH k hk]);refine Oi mixed hXZ rfl (by simp) rfl rfl fun hf=> ?_;refine aS fun K' hK=> ?_
   simp;apply hK;clear K' hK;refine⟨rfl,hXZ,?_⟩;dsimp only;generalize (Lp.mk s 17 _ _ _)=Lq at hXZ k1⊢;refine dL (aB ?_);refine aR fun K' hK=> ?_
   simp[s3,hFx];refine dH (Ua (W:=W) hsz g hd hv hp (hx.keep (ny:=ny) (by omega) id fun k hk=>nz _ _ (fun _ _=>rfl) k hk) ?_ (by omega) (D0:=nx) ?_ (by omega) (D1:=nx+1) ?_ (by omega) (D2:=nx+2) ?_ (by omega) ?_)
   ·rw[Hp.upd_ne _ _ (by omega),hX W (by omega)];exact hWH
   ·rw[Hp.upd_ne _ _ (by omega),hX _ (by omega)];exact hD0
   ·rw[Hp.upd_ne _ _ (by omega),hX _ (by omega)];exact hD1
   ·rw[Hp.upd_ne _ _ (by omega),hX _ (by omega)];exact hD2
   rintro Y ny2 hny2 hY;have y7:Y (nx+7)=some (.var 3 [iV (Qx o)]):=(by rw[hY _ (by omega),Hp.upd_ne _ _ (by omega)];exact hX7);have y8:Y (nx+8)=some (.var 4 [bV (decide (0≤o))]):=(by rw[hY _ (by omega),Hp.upd_ne _ _ (by omega)];exact hX8);have yZ:Y (nx+9)=some (Lq.o .busy none):=(by rw[hY _ (by omega),Hp.bW]);have yH:∀k,k<nx+7→Y k=H k:=fun k hk=>(by rw[hY k (by omega),Hp.upd_ne _ _ (by omega)];exact hX k hk);simp[uq];apply hK;clear K' hK;cases hb:fJ root L t d v p with
   | true=>
    rw[if_pos hb]at k1;refine aU (by simp) ?_;refine aR fun K' hK=> ?_
    simp[s6,s7,y7,y8];apply hK;clear K' hK;apply aj
    refine ah ?_;refine aj (dB (by simp[yZ]) ?_);exact k1 _ _ (by omega) (fun k hk=>by rw[Hp.upd_ne _ _ (by omega),Hp.upd_ne _ _ (by omega),Hp.upd_ne _ _ (by omega)];exact yH k hk) (by simp[Qx]) (by simp) (by simp)
   | false=>
    rw[if_neg (by rw[hb];simp)]at k1;refine aVk (by simp) ?_;apply aj
    refine ah ?_;refine aj (dB yZ ?_);exact k1 _ _ (by omega) (fun k hk=>by rw[Hp.upd_ne _ _ (by omega)];exact yH k hk) (by simp[y7]) (by simp[y8]) (by simp)
  refine aR fun K' hK=> ?_
  simp[hC4];apply hK;clear K' hK;apply aA;refine uo ?_
  refine fC (fun u X ny=>u 0=.yl (nx+9)∧u 1=.ptr (nx+4) 0∧u 2=.ptr (nx+5) 0∧u 3=.ptr (nx+3) 0∧u 5=iV (jI t n d)∧ny=nx+10∧X=H.upd (nx+9) (Lq.o .ready none)) ?_ ?_
  ·have hsd:jI t n d=if d.kind=4∧0<n then(parN t n).toNat else n:=rfl;by_cases hk:d.kind=4
   ·by_cases hp:0<n
    ·have hp2:(0:Int)<n:=(by omega);have hpe:(nth t n).par=((parN t n).toNat:Int):=(by have:=g.par n hp hn;show parN t n=_;omega);rw[if_pos ⟨hk,hp⟩]at hsd;refine aR fun K' hK=> ?_
     simp[hk,hp,hp2,hC4,hC5];apply hK;clear K' hK;refine aU (by simp) ?_
     have hxX:=hx.wild (H.upd (nx+9) (Lq.o .ready none)) fun k hk=>(by rw[Hp.upd_ne _ _ (by omega)];exact hH k hk);rcases hxX with rfl | ⟨q,rfl,hq,hG | ⟨hG,_⟩⟩
     ·skip;refine aQ fun K' hK=> ?_
      simp(maxSteps:=1000000) [hC3,hC4,hWH,w9,hn,hpe];apply hK;clear K' hK;with_reducible refine bP ?_
      rw[hsd];exact⟨by simp,by simp,by simp,by simp,by simp,by simp,rfl⟩
     ·have q9:¬q=nx+9:=(by omega);rw[Hp.upd_ne _ _ q9]at hG;refine aQ fun K' hK=> ?_
      simp(maxSteps:=1000000) [hC3,hC4,hWH,w9,hn,hpe,hG,q9];apply hK;clear K' hK;with_reducible refine bP ?_
      rw[hsd];exact⟨by simp,by simp,by simp,by simp,by simp,by simp,rfl⟩
     ·exact hG.elim
    ·have hp2:¬(0:Int)<n:=(by omega);rw[if_neg (fun h=>hp h.2)]at hsd;refine aR fun K' hK=> ?_
     simp[hk,hp,hp2,hC4,hC5];apply hK;clear K' hK;refine aVk (by simp) ?_;refine bP ?_
     rw[hsd];exact⟨by simp,by simp,by simp,by simp,by simp,by simp,rfl⟩
   ·rw[if_neg (fun h=>hk h.1)]at hsd;refine aR fun K' hK=> ?_
    simp[hk,hC5];apply hK;clear K' hK;refine aVk (by simp) ?_;refine bP ?_
    rw[hsd];exact⟨by simp,by simp,by simp,by simp,by simp,by simp,rfl⟩
  generalize jI t n d=m at*;rintro u X ny ⟨u0,u1,u2,u3,u5,rfl,rfl⟩;refine dL (aB ?_)
  refine bH (fun u X ny=>u 0=.yl (nx+9)∧u 1=.ptr (nx+4) 0∧u 2=.ptr (nx+5) 0∧u 3=.ptr (nx+3) 0∧nx+9<ny∧(∀k,k<nx+7→X k=H k)∧X (nx+9)=some (Lq.o .ready none)∧∃a o:Int,u 5=iV a∧-1≤a∧a<t.length∧-1≤o∧X (nx+7)=some (.var 3 [iV (Qx o)])∧X (nx+8)=some (.var 4 [bV (decide (0≤o))])∧mZ (fJ root L t d v) (rV t d.name m) (-1)=mZ (fJ root L t d v) (rV t d.name a) o) (fun s _ _=>match s 5 with | .v (.int _ n)=>(n+1).toNat | _=>0) ?_ ?_
  ·exact⟨u0,u1,u2,u3,by omega,fun k hk=>by rw[Hp.upd_ne _ _ (by omega)],by simp,m,-1,u5,by omega,by omega,by omega,by simp[hB6,Qx],by simp[hB7],rfl⟩
  clear u0 u1 u2 u3 u5;rintro u X ny-⟨u0,u1,u2,u3,hny,hX,hXZ,a,o,u5,ha1,ha2,ho,hX7,hX8,hlast⟩;have hX3:X (nx+3)=some (.var 78 [.ptr W 0]):=(hX _ (by omega)).trans hC3;have hX5:X (nx+5)=some (.var 35 d.cells):=(hX _ (by omega)).trans hC5;have hXW:X W=some (.var 80 (jd root L x)):=(hX W (by omega)).trans hWH;have hxX:jZ False X nx x t:=hx.wild X fun k hk=>(hX k (by omega)).trans (hH k hk);have hsx:=hxX.see;rcases Int.lt_or_le a 0 with hneg | hpos
  ·have:a= -1:=(by omega);subst this;have e:mZ (fJ root L t d v) (rV t d.name (-1)) o=o:=rfl;rw[e]at hlast;apply aA;refine aR fun K' hK=> ?_
   simp[u5];apply hK;clear K' hK;refine aY (by simp) ?_;apply bG
   refine aI (aH ?_);refine aj (iw (.inl rfl) hXZ ?_);rw[hLs];refine ah ?_;exact⟨rfl,by simp[s6],by simp[s7],by omega,fun k hk=>by rw[Hp.upd_ne _ _ (by omega),hX k (by omega)];exact hH k hk,o,ho,by simp[hX7],by simp[hX8],hlast⟩
  obtain⟨j,rfl⟩:∃j:Nat,a=j:=⟨a.toNat,by omega⟩;rcases hxX with rfl | ⟨q,rfl,hq,hG | ⟨hG,_⟩⟩
  ·have hj:j<t.length:=(by omega);have hrs:=rest_step g (b:=d.name) hj;have hup:=DZ g hj;have hpe:(nth t j).par=parN t j:=rfl;have hj0:(0:Int)≤j:=(by omega);have hR:=jM t ht j d.name;by_cases hc:chF t j d.name=none
   ·rw[if_pos hc]at hrs;rw[hrs,vW]at hlast;have hto:dF t j d.name<0∨∃k:Nat,dF t j d.name=k∧k<t.length∧¬(nth t k).par=(j:Int):=by
     rcases zU (b:=d.name) g _ (Nat.lt_succ_self j) hj with h | ⟨k,h1,h2,h3,h4⟩
     ·exact .inl (by omega)
     ·exact .inr ⟨k,h1,h3,fun e=>kK.1 hc k h3 e h4⟩
    have hafter:∀(s':Sl) (Y:Hp) (ny2:Nat),True:=fun _ _ _=>trivial;clear hafter;generalize dF t j d.name=tw at*;rcases hto with hneg | ⟨k,rfl,hk,hpk⟩
    ·have hneg':¬0≤tw:=(by omega);apply aA;refine aR fun K' hK=> ?_
     simp[u5,hj0];apply hK;clear K' hK;refine aXk (by simp) ?_;apply aB;refine aQ fun K' hK=> ?_
     simp[u2,u3,u5,hX3,hX5,hXW];refine ak hR rfl (Jg hsx) ?_;simp;apply hK;clear K' hK;refine aR fun K' hK=> ?_
     simp[u0,u5,hneg'];refine⟨⟨_,_,_,_,_,_,_,hXZ⟩,hround j o _ _ _ hj hny hX hX7 hX8 hXZ (fun X2 ny2 hny2 hX2 hX27 hX28 hX2Z=> ?_)⟩;simp;apply hK;clear K' hK;refine aVk (by simp) ?_;apply aj
     refine ah ?_;have hX23:X2 (nx+3)=some (.var 78 [.ptr W 0]):=(hX2 _ (by omega)).trans hC3;have hX2W:X2 W=some (.var 80 (jd root L (rowT Pl.cells t))):=(hX2 W (by omega)).trans hWH;refine aS fun K' hK=> ?_
     simp[u3,u5,hj,hpe,hX23,hX2W];apply hK;clear K' hK;refine aj (ay ?_ ?_)
     ·refine⟨by simp[u0],by simp[u1],by simp[u2],by simp[u3],by omega,hX2,hX2Z,parN t j,_,by simp,hup.2,by omega,?_,hX27,hX28,hlast⟩;split<;>omega
     ·simp[u5];omega
    ·have hk0:(0:Int)≤k:=(by omega);have hki:(k:Int)<t.length:=(by omega);apply aA;refine aR fun K' hK=> ?_
     simp[u5,hj0];apply hK;clear K' hK;refine aXk (by simp) ?_;apply aB;refine aQ fun K' hK=> ?_
     simp[u2,u3,u5,hX3,hX5,hXW];refine ak hR rfl (Jg hsx) ?_;simp;apply hK;clear K' hK;refine aR fun K' hK=> ?_
     simp[u0,u3,u5,hk0,hk,hki,hpk,hX3,hXW];refine⟨⟨_,_,_,_,_,_,_,hXZ⟩,hround j o _ _ _ hj hny hX hX7 hX8 hXZ (fun X2 ny2 hny2 hX2 hX27 hX28 hX2Z=> ?_)⟩;simp;apply hK;clear K' hK;refine aVk (by simp) ?_;apply aj
     refine ah ?_;have hX23:X2 (nx+3)=some (.var 78 [.ptr W 0]):=(hX2 _ (by omega)).trans hC3;have hX2W:X2 W=some (.var 80 (jd root L (rowT Pl.cells t))):=(hX2 W (by omega)).trans hWH;refine aS fun K' hK=> ?_
     simp[u3,u5,hj,hpe,hX23,hX2W];apply hK;clear K' hK;refine aj (ay ?_ ?_)
     ·refine⟨by simp[u0],by simp[u1],by simp[u2],by simp[u3],by omega,hX2,hX2Z,parN t j,_,by simp,hup.2,by omega,?_,hX27,hX28,hlast⟩;split<;>omega
     ·simp[u5];omega
   ·cases hcs:chF t j d.name with
    | none=>exact(hc hcs).elim
    | some k=>
     rw[if_neg hc]at hrs;rw[hrs]at hlast;obtain⟨hk,hpk,_⟩:=ql hcs;have hpk:(nth t k).par=(j:Int):=hpk;have hres:=Bc g hj hcs;rw[hres]at hR;have hk0:(0:Int)≤k:=(by omega);have hki:(k:Int)<t.length:=(by omega);apply aA;refine aR fun K' hK=> ?_
     simp[u5,hj0];apply hK;clear K' hK;refine aXk (by simp) ?_;apply aB;refine aQ fun K' hK=> ?_
     simp[u2,u3,u5,hX3,hX5,hXW];refine ak hR rfl (Jg hsx) ?_;simp;apply hK;clear K' hK;refine aR fun K' hK=> ?_
     simp[u0,u3,u5,hk0,hk,hki,hpk,hX3,hXW];apply hK;clear K' hK;refine aU (by simp) ?_
     apply aJ;refine dP ?_;refine ng ?_;refine dP ?_;refine iw (.inr rfl) hXZ ?_;rw[hLs];refine ah ?_;exact⟨rfl,by simp[s6],by simp[s7],by omega,fun k hk=>by rw[Hp.upd_ne _ _ (by omega),hX k (by omega)];exact hH k hk,o,ho,by simp[hX7],by simp[hX8],hlast⟩
  ·have hj:j<t.length:=(by omega);have hrs:=rest_step g (b:=d.name) hj;have hup:=DZ g hj;have hpe:(nth t j).par=parN t j:=rfl;have hj0:(0:Int)≤j:=(by omega);have hR:=jM t ht j d.name;by_cases hc:chF t j d.name=none
   ·rw[if_pos hc]at hrs;rw[hrs,vW]at hlast;have hto:dF t j d.name<0∨∃k:Nat,dF t j d.name=k∧k<t.length∧¬(nth t k).par=(j:Int):=by
     rcases zU (b:=d.name) g _ (Nat.lt_succ_self j) hj with h | ⟨k,h1,h2,h3,h4⟩
     ·exact .inl (by omega)
     ·exact .inr ⟨k,h1,h3,fun e=>kK.1 hc k h3 e h4⟩
    have hafter:∀(s':Sl) (Y:Hp) (ny2:Nat),True:=fun _ _ _=>trivial;clear hafter;generalize dF t j d.name=tw at*;rcases hto with hneg | ⟨k,rfl,hk,hpk⟩
    ·have hneg':¬0≤tw:=(by omega);apply aA;refine aR fun K' hK=> ?_
     simp[u5,hj0];apply hK;clear K' hK;refine aXk (by simp) ?_;apply aB;refine aQ fun K' hK=> ?_
     simp[u2,u3,u5,hX3,hX5,hXW];refine ak hR rfl (Jg hsx) ?_;simp;apply hK;clear K' hK;refine aR fun K' hK=> ?_
     simp[u0,u5,hneg'];refine⟨⟨_,_,_,_,_,_,_,hXZ⟩,hround j o _ _ _ hj hny hX hX7 hX8 hXZ (fun X2 ny2 hny2 hX2 hX27 hX28 hX2Z=> ?_)⟩;simp;apply hK;clear K' hK;refine aVk (by simp) ?_;apply aj
     refine ah ?_;have hX23:X2 (nx+3)=some (.var 78 [.ptr W 0]):=(hX2 _ (by omega)).trans hC3;have hX2W:X2 W=some (.var 80 (jd root L (.row q t.length))):=(hX2 W (by omega)).trans hWH;have hG2:X2 q=some (.frz 50 (flat Pl.cells t)):=(by rw[hX2 q (by omega),←hX q (by omega)];exact hG);refine aS fun K' hK=> ?_
     simp[u3,u5,hj,hpe,hX23,hX2W,hG2];apply hK;clear K' hK;refine aj (ay ?_ ?_)
     ·refine⟨by simp[u0],by simp[u1],by simp[u2],by simp[u3],by omega,hX2,hX2Z,parN t j,_,by simp,hup.2,by omega,?_,hX27,hX28,hlast⟩;split<;>omega
     ·simp[u5];omega
    ·have hk0:(0:Int)≤k:=(by omega);have hki:(k:Int)<t.length:=(by omega);apply aA;refine aR fun K' hK=> ?_
     simp[u5,hj0];apply hK;clear K' hK;refine aXk (by simp) ?_;apply aB;refine aQ fun K' hK=> ?_
     simp[u2,u3,u5,hX3,hX5,hXW];refine ak hR rfl (Jg hsx) ?_;simp;apply hK;clear K' hK;refine aR fun K' hK=> ?_
     simp[u0,u3,u5,hk0,hk,hki,hpk,hX3,hXW,hG];refine⟨⟨_,_,_,_,_,_,_,hXZ⟩,hround j o _ _ _ hj hny hX hX7 hX8 hXZ (fun X2 ny2 hny2 hX2 hX27 hX28 hX2Z=> ?_)⟩;simp;apply hK;clear K' hK;refine aVk (by simp) ?_;apply aj
     refine ah ?_;have hX23:X2 (nx+3)=some (.var 78 [.ptr W 0]):=(hX2 _ (by omega)).trans hC3;have hX2W:X2 W=some (.var 80 (jd root L (.row q t.length))):=(hX2 W (by omega)).trans hWH;have hG2:X2 q=some (.frz 50 (flat Pl.cells t)):=(by rw[hX2 q (by omega),←hX q (by omega)];exact hG);refine aS fun K' hK=> ?_
     simp[u3,u5,hj,hpe,hX23,hX2W,hG2];apply hK;clear K' hK;refine aj (ay ?_ ?_)
     ·refine⟨by simp[u0],by simp[u1],by simp[u2],by simp[u3],by omega,hX2,hX2Z,parN t j,_,by simp,hup.2,by omega,?_,hX27,hX28,hlast⟩;split<;>omega
     ·simp[u5];omega
   ·cases hcs:chF t j d.name with
    | none=>exact(hc hcs).elim
    | some k=>
     rw[if_neg hc]at hrs;rw[hrs]at hlast;obtain⟨hk,hpk,_⟩:=ql hcs;have hpk:(nth t k).par=(j:Int):=hpk;have hres:=Bc g hj hcs;rw[hres]at hR;have hk0:(0:Int)≤k:=(by omega);have hki:(k:Int)<t.length:=(by omega);apply aA;refine aR fun K' hK=> ?_
     simp[u5,hj0];apply hK;clear K' hK;refine aXk (by simp) ?_;apply aB;refine aQ fun K' hK=> ?_
     simp[u2,u3,u5,hX3,hX5,hXW];refine ak hR rfl (Jg hsx) ?_;simp;apply hK;clear K' hK;refine aR fun K' hK=> ?_
     simp[u0,u3,u5,hk0,hk,hki,hpk,hX3,hXW,hG];apply hK;clear K' hK;refine aU (by simp) ?_
     apply aJ;refine dP ?_;refine ng ?_;refine dP ?_;refine iw (.inr rfl) hXZ ?_;rw[hLs];refine ah ?_;exact⟨rfl,by simp[s6],by simp[s7],by omega,fun k hk=>by rw[Hp.upd_ne _ _ (by omega),hX k (by omega)];exact hH k hk,o,ho,by simp[hX7],by simp[hX8],hlast⟩
  ·exact hG.elim
 rintro u X ny ⟨u6,u7,hny,hX,o,ho,hX7,hX8,hlast⟩;rw[hlast]at hKK;refine aQ fun K' hK=> ?_
 simp(maxSteps:=1000000) [u6,u7,hX7,hX8];apply hK;clear K' hK;apply aF
 simp[au,aG,Post,aW,res1,bF,bC,aP,bg,bf,okT,okA,ok1,rowOf,Tryz.f79];apply hK;clear K' hK;by_cases h0:0≤o
 ·have e:Qx o=o:=if_pos h0;apply aA;refine aR fun K' hK=> ?_
  simp[h0];apply hK;clear K' hK;refine aYk (by simp) ?_;refine aR fun K' hK=> ?_
  simp[e];apply hK;clear K' hK;apply aF
  simp[au,aG,Post,aW,res1,bF,bC,aP,bg,bf,okT,okA,ok1,rowOf,Tryz.f41];exact hKK X ny (by omega) hX
 ·have:o= -1:=(by omega);subst this;apply aA;refine aR fun K' hK=> ?_
  simp;apply hK;clear K' hK;refine aX (by simp) ?_;apply aA;refine aR fun K' hK=> ?_
  simp;apply hK;clear K' hK;apply aJ
  simp[au,aG,Post,aW,res1,bF,bC,aP,bg,bf,okT,okA,ok1,rowOf,Tryz.f41];exact hKK X ny (by omega) hX
set_option maxRecDepth 100000
set_option maxHeartbeats 4000000
theorem Ji {dr:Bool} {f:FuncId} {cls:Nat} {K:AV→Hp→Nat→Prop} {r:AV} {J:Js} {G:Hp} {nx:Nat} {x:AV} {u:List Pl} {P:Prop} {n:Nat} {e:Dep} (hk:CallsOK Tryz.prog f [rowT Pl.cells u,iV n,.agg e.cells] r J) (hx:jZ P G nx x u) (hu:u≠[]) (h:∀G',(∀k,(∀m,x≠ .row k m)→G' k=G k)→jZ False G' nx x u→K (shiftT nx r) (addJ G' nx J) (nx+J.length)):oW Tryz.prog dr f [x,iV n,.agg e.cells] cls K G nx:=by
 have hT:=hx.tree;have hF:=hx.frz hu;have h2:=h (bT G x) (fun k hk=>Ai hk) hF;have e2:argsOf Tryz.prog G [x,iV n,.agg e.cells]=some ([rowT Pl.cells u,iV n,.agg e.cells],bT G x):=by
  rcases hx with rfl | ⟨q,rfl,_,_⟩
  ·rfl
  ·simp only[argsOf,hT];rfl
 exact aO hk (by rw[e2];rfl) (by rw[e2];exact h2)
def Tz:AV→Bool
 | .sl _ _=>true
 | _=>false
theorem Qs {root:Man} {L:List Man} {t:List Pl} (hsz:fP root L t) (h12:L.length≤12) (hc:codeV root L t=0) {n:Nat} (hn:n<t.length) {d:Dep} (hd:d.name.size≤1000000) (hdr:Rg.sz d.range) {P:Prop} {G:Hp} {nx W:Nat} {x:AV} {K:AV→Hp→Nat→Prop}
  (hx:jZ P G nx x t) (hW:G W=some (.var 80 (jd root L x))) (hWn:W<nx)
  (hKK:∀X ny x',nx≤ny→(∀k,k<nx→k≠W→(∀m,x≠ .row k m)→X k=G k)→X W=some (.var 80 (jd root L x'))→jZ (t.length<(dY root L n d t).1.length) X ny x' (dY root L n d t).1→(Tz x'=true→Tz x=true)→K (iV (dY root L n d t).2) X ny):L9 Tryz.prog 46 [.ptr W 0,iV n,.agg d.cells] K G nx:=by
 obtain⟨hr,hro,hL,hLo,ht,htv⟩:=id hsz;have g:Good t:=dZ.1 (dJ.1 hc).2.2;have htl:=g.le;have hune:t≠[]:=List.ne_nil_of_length_pos g.pos;have hG:=nJ t ht htv n d hdr;have hTo:=Md t ht n d;have hV:=J7 L hL.1 d.name;obtain⟨hvz,hvl⟩:=G9 hL h12 d.name;have hvu:=MK (dJ.1 hc).2.1 d.name;have hB:=Ny (gJ L d.name) hvz hvl hvu d.range hdr;have hVs:∀v,rM (gJ L d.name) d.range=some v→v.pre.size≤1000000:=fun v h=>hvz.2 v (sZ h).1;have hE:dY root L n d t=(if holdsV t n d=true∧0≤toN t n d then(t,0)else match rM (gJ L d.name) d.range with
  | none=>if holdsV t n d=true then(t,0)else(t,180)
  | some v=>if jo root L t n d v<0 then(if holdsV t n d=true then(t,0)else(t,180))else if 40≤t.length then(t,2)else(jc t (jo root L t n d v) d.name v,0):List Pl×Int):=rfl
 have hsp:=fun v=>uY (root:=root) (L:=L) (t:=t) (n:=n) (d:=d) (v:=v);have hSp:=fun v (h:v.pre.size≤1000000) G nx x K=> @Qu root L t hsz g n hn d v hd h G nx W x K;refine zY mixed Tryz.call46 Tryz.func46 rfl (by rw[Tryz.ntmps46];simp) fun hf=> ?_;rw[Tryz.ntmps46];generalize dY root L n d t=es at*;generalize hvs:gJ L d.name=vs at*;generalize hbv:rM vs d.range=bo at*;have nW:¬W=nx:=(by omega);have xW:∀m,x≠ .row W m:=hx.mX hW;have hx1:jZ P (G.upd nx (.var 35 d.cells)) (nx+1) x t:=hx.keep (by omega) id fun k hk=>Hp.upd_ne _ _ (by omega);have x35:∀m,x≠ .row nx m:=hx1.mX (t:=35) (cs:=d.cells) (by simp);refine aR fun K' hK=> ?_
 simp;apply hK;clear K' hK;refine aQ fun K' hK=> ?_
 simp[hW,nW];refine Ji hG hx1 hune ?_;rintro G1 hfz hx2;have hW1:G1 W=some (.var 80 (jd root L x)):=(by rw[hfz W xW,Hp.upd_ne _ _ nW];exact hW);have hd1:G1 nx=some (.var 35 d.cells):=(by rw[hfz nx x35];simp);have hk1:∀k,k<nx→(∀m,x≠ .row k m)→G1 k=G k:=fun k hk hm=>(by rw[hfz k hm,Hp.upd_ne _ _ (by omega)]);have hdone:es=(t,0)→∀X ny,nx+1≤ny→(∀k,k<nx+1→X k=G1 k)→K (iV 0) X ny:=fun e X ny hny hX=>by
  rw[e]at hKK;exact hKK X ny x (by omega) (fun k hk _ hm=>by rw[hX k (by omega)];exact hk1 k hk hm) (by rw[hX W (by omega)];exact hW1) (hx2.keep (by omega) (fun h=>h.elim) fun k hk=>hX k (by omega)) id
 have hfail:∀c,es=(t,c)→∀X ny,nx+1≤ny→(∀k,k<nx+1→X k=G1 k)→K (iV c) X ny:=fun c e X ny hny hX=>by
  rw[e]at hKK;exact hKK X ny x (by omega) (fun k hk _ hm=>by rw[hX k (by omega)];exact hk1 k hk hm) (by rw[hX W (by omega)];exact hW1) (hx2.keep (by omega) (fun h=>h.elim) fun k hk=>hX k (by omega)) id
 simp[dO];apply hK;clear K' hK;have hx3:∀X:Hp,(∀k,k<nx+1→X k=G1 k)→jZ False X (nx+1) x t:=fun X hX=>hx2.wild X hX;by_cases h1:holdsV t n d=true∧0≤toN t n d
 ·rw[if_pos h1]at hE;apply aA;refine aQ fun K' hK=> ?_
  simp[h1.1,hW1,hd1];refine ak hTo rfl (P6 hx2.see) ?_;simp[h1.2];apply hK;clear K' hK;refine aX (by simp) ?_;apply aA;refine aR fun K' hK=> ?_
  simp;apply hK;clear K' hK;apply aJ
  simp[au,aG,Post,aW,res1,bF,bC,aP,bg,bf,okT,okA,ok1,rowOf,Tryz.f46];exact hdone hE _ _ (by omega) fun k hk=>rfl
 ·rw[if_neg h1]at hE;apply aA;refine uo ?_
  refine fC (fun s X ny=>s 0=.ptr W 0∧s 1=iV n∧s 5=.ptr nx 0∧s 7=bV (holdsV t n d)∧X=G1∧ny=nx+1) ?_ ?_
  ·cases hb:holdsV t n d with
   | true=>
    have hz:¬0≤toN t n d:=fun h=>h1 ⟨hb,h⟩;refine aQ fun K' hK=> ?_
    simp[hb,hW1,hd1];refine ak hTo rfl (P6 hx2.see) ?_;simp[hz];apply hK;clear K' hK;refine aVk (by simp) ?_;refine bP ?_
    exact⟨by simp,by simp,by simp,by simp[hb],rfl,rfl⟩
   | false=>
    refine aQ fun K' hK=> ?_
    simp(maxSteps:=1000000) [hb];apply hK;clear K' hK;refine aVk (by simp) ?_;refine bP ?_
    exact⟨by simp,by simp,by simp,by simp[hb],rfl,rfl⟩
  generalize holdsV t n d=hb at*;obtain⟨a,hat⟩:∃a:Int,a=(match bo with
   | none=> -1
   | some v=>jo root L t n d v):=⟨_,rfl⟩
  clear hfz;rintro s H ny ⟨s0,s1,s5,s7,rfl,rfl⟩;refine aR fun K' hK=> ?_
  simp;apply hK;clear K' hK;have nW1:¬W=nx+1:=(by omega);have hT0:bJ Tryz.prog (H.upd (nx+1) (.row 23 (flat Ver.cells vs))) (.row (nx+1) vs.length)=some (rowT Ver.cells vs):=dN (by simp) kQ rfl;with_reducible refine uo ?_
  refine fC (fun s X ny=>s 0=.ptr W 0∧s 5=.ptr nx 0∧s 7=bV hb∧s 8=iV a∧nx+1<ny∧(∀k,k<nx+1→X k=H k)∧∃p,s 9=.ptr p 0∧p<ny∧(∀v,bo=some v→X p=some (.var 23 v.cells))) ?_ ?_
  ·by_cases hv0:vs=[]
   ·subst hv0;have hbn:bo=none:=(by rw[←hbv];rfl);subst hbn;have hat:a= -1:=hat;have hB2:CallsOK Tryz.prog 27 [.v (.slice none 0 0),.agg d.range.cells] (uh none) []:=hB.weak (.cons .nilRow (.cons (.refl _) .nil));refine fH none [] (by decide+kernel) (by decide+kernel) (fun p' hp'=>by cases hp') fun K' hK=> ?_;simp[s0,s5,hW1,hd1];refine aO hV (by first | rfl | (simp;done) | (simp;rfl) | (simp;exact⟨rfl,rfl⟩)) ?_;simp[nI,dO,s5,hd1];refine aO hB2 (by first | rfl | (simp;done) | (simp;rfl) | (simp;exact⟨rfl,rfl⟩)) ?_;simp[uh,dO];apply hK;clear K' hK;refine aR fun K' hK=> ?_
    simp;apply hK;clear K' hK;refine aVk (by simp) ?_;refine bP ?_
    exact⟨by simp[s0],by simp[s5],by simp[s7],by simp[hat],by omega,fun k hk=>by repeat rw[Hp.upd_ne _ _ (by omega)],_,by simp;rfl,by omega,fun v h=>by cases h⟩
   ·have hvR:nI vs=(.row 0 vs.length,[(23,flat Ver.cells vs)]):=(by unfold nI;rw[if_neg hv0]);rw[hvR]at hV;have n1:¬nx=nx+1:=(by omega);refine fH none [] (by decide+kernel) (by decide+kernel) (fun p' hp'=>by cases hp') fun K' hK=> ?_;simp[s0,s5,hW1,hd1];refine aO hV (by first | rfl | (simp;done) | (simp;rfl) | (simp;exact⟨rfl,rfl⟩)) ?_;simp[bK,s5,hd1,n1];refine aO hB (by first | rfl | (simp[hT0];done) | (simp[hT0];rfl) | (simp[hT0];exact⟨rfl,rfl⟩)) ?_;cases bo with
    | none=>
     have hat:a= -1:=hat;simp[uh,dO,hT0];apply hK;clear K' hK;refine aR fun K' hK=> ?_
     simp;apply hK;clear K' hK;refine aVk (by simp) ?_;refine bP ?_
     exact⟨by simp[s0],by simp[s5],by simp[s7],by simp[hat],by omega,fun k hk=>by rw[Hp.upd_ne _ _ (by omega),Hp.upd_ne _ _ (by omega),dW (by omega),Hp.upd_ne _ _ (by omega)],_,by simp;rfl,by omega,fun v h=>by cases h⟩
    | some v=>
     have hat:a=jo root L t n d v:=hat;have hvp:=hVs v rfl;have hsh:∀k,List.map (vO k) v.cells=v.cells:=fun k=>rfl;simp[uh,dO,hT0,hsh];apply hK;clear K' hK;refine fV (fun u Z nz=>u 0=.ptr W 0∧u 1=iV n∧u 5=.ptr nx 0∧u 7=bV hb∧u 10=bV true∧nx+1<nz∧(∀k,k<nx+1→Z k=H k)∧∃p,u 9=.ptr p 0∧p<nz∧Z p=some (.var 23 v.cells)) ?_ ?_
     ·exact⟨by simp[s0],by simp[s1],by simp[s5],by simp[s7],by simp,by omega,fun k hk=>by rw[Hp.upd_ne _ _ (by omega),Hp.upd_ne _ _ (by omega),dW (by omega),Hp.upd_ne _ _ (by omega)],_,by simp;rfl,by omega,by simp⟩
     clear s0 s1 s5 s7 hT0;rintro s X ny ⟨s0,s1,s5,s7,s10,hny,hX,p,s9,hp,hXpv⟩;have hXd:X nx=some (.var 35 d.cells):=(by rw[hX nx (by omega)];exact hd1);refine aR fun K' hK=> ?_
     simp[s10];apply hK;clear K' hK;refine aU (by simp) ?_;refine aR fun K' hK=> ?_
     simp[s0,s1,s5,s9,hXpv,hXd];refine dH (hSp v hvp X ny x _ ((hx3 X hX).keep (by omega) id fun k hk=>rfl) ((hX W (by omega)).trans hW1) (by omega) ?_);rintro Y ny2 hny2 hY;simp[uq];apply hK;clear K' hK;with_reducible refine bP ?_
     exact⟨by simp[s0],by simp[s5],by simp[s7],by simp[hat],by omega,fun k hk=>by rw[hY k (by omega)];exact hX k hk,p,by simp[s9],by omega,fun v2 h=>by injection h with h;subst h;rw[hY p (by omega)];exact hXpv⟩
  clear s0 s1 s5 s7 hT0;rintro s X ny ⟨s0,s5,s7,s8,hny,hX,p,s9,hp,hXp⟩;have hXW:X W=some (.var 80 (jd root L x)):=(hX W (by omega)).trans hW1;have hxX:=hx3 X hX;have hlen:=hxX.len;by_cases ha:0≤a
  ·cases bo with
   | none=>
    have hat:a= -1:=hat;omega
   | some v=>
    have hat:a=jo root L t n d v:=hat;have hE:es=if jo root L t n d v<0 then(if hb=true then(t,0)else(t,180))else if 40≤t.length then(t,2)else(jc t (jo root L t n d v) d.name v,0):=hE;rw[←hat,if_neg (by omega)]at hE;have hspv:=hsp v;rw[←hat]at hspv;have hXpv:=hXp v rfl;have hvp:=hVs v rfl;have hXd:X nx=some (.var 35 d.cells):=(by rw[hX nx (by omega)];exact hd1);apply aB
    by_cases h40:40≤t.length
    ·rw[if_pos h40]at hE;have h40':(40:Int)≤t.length:=(by omega);refine aR fun K' hK=> ?_
     simp[s0,s8,ha,hXW,hlen,h40,h40'];apply hK;clear K' hK;refine aU (by simp) ?_;apply aA;refine aR fun K' hK=> ?_
     simp;apply hK;clear K' hK;apply aJ
     simp[au,aG,Post,aW,res1,bF,bC,aP,bg,bf,okT,okA,ok1,rowOf,Tryz.f46];exact hfail 2 hE X ny (by omega) hX
    ·rw[if_neg h40]at hE;have h40':¬(40:Int)≤t.length:=(by omega);obtain⟨q,hpw,hpo,rfl⟩:=hspv.resolve_left (by omega);have hAc:=(uS hpo).1;have hA:=Ia t ht q d.name v (by omega) (by omega);rw[zT hAc,hAc]at hA;have nWy:¬W=ny:=(by omega);have hal:t.length<(jc t q d.name v).length:=(by rw[fG];omega);refine aR fun K' hK=> ?_
     simp[s0,s8,ha,hXW,hlen,h40,h40'];apply hK;clear K' hK;refine aV (by simp) ?_;apply aA;refine aR fun K' hK=> ?_
     simp[s8,ha];apply hK;clear K' hK;refine aX (by simp) ?_;apply aA;refine aQ fun K' hK=> ?_
     simp[s0,s5,s8,s9,hXW,hXd,hXpv];refine sH hA ⟨rfl,VK _ _⟩ (Ul hxX.see) ?_;simp[bK];apply hK;clear K' hK;have nyW:¬ny=W:=(by omega);apply aA;refine aR fun K' hK=> ?_
     simp[s0,hXW,nWy,nyW];apply hK;clear K' hK;apply aA;refine aR fun K' hK=> ?_
     simp;apply hK;clear K' hK;apply aJ
     simp[au,aG,Post,aW,res1,bF,bC,aP,bg,bf,okT,okA,ok1,rowOf,Tryz.f46];rw[hE]at hKK;refine hKK _ _ (.row ny (jc t q d.name v).length) (by omega) (fun k hk hkW hm=> ?_) ?_ ?_ (fun h=>by cases h)
     ·rw[Hp.upd_ne _ _ hkW,Hp.upd_ne _ _ (by omega),hX k (by omega)];exact hk1 k hk hm
     ·simp;rfl
     ·exact .inr ⟨ny,rfl,by omega,.inr ⟨hal,by simp[nyW]⟩⟩
  ·have hE:es=if hb=true then(t,0)else(t,180):=by
    cases bo with
    | none=>exact hE
    | some v=>
     have hat:a=jo root L t n d v:=hat;have hE:es=if jo root L t n d v<0 then(if hb=true then(t,0)else(t,180))else if 40≤t.length then(t,2)else(jc t (jo root L t n d v) d.name v,0):=hE;rw[←hat,if_pos (by omega)]at hE;exact hE
   apply aB;refine aR fun K' hK=> ?_
   simp[s0,s8,ha];apply hK;clear K' hK;refine aV (by simp) ?_;apply aA;refine aR fun K' hK=> ?_
   simp[s8,ha];apply hK;clear K' hK;refine aY (by simp) ?_;apply aA;refine aR fun K' hK=> ?_
   simp[s7];apply hK;clear K' hK;cases hb with
   | true=>
    rw[if_pos rfl]at hE;refine aX (by simp) ?_;apply aA;refine aR fun K' hK=> ?_
    simp;apply hK;clear K' hK;apply aJ
    simp[au,aG,Post,aW,res1,bF,bC,aP,bg,bf,okT,okA,ok1,rowOf,Tryz.f46];exact hdone hE X ny (by omega) hX
   | false=>
    rw[if_neg (by simp)]at hE;refine aYk (by simp) ?_;apply aj
    refine ah ?_;refine aR fun K' hK=> ?_
    simp;apply hK;clear K' hK;apply aF
    simp[au,aG,Post,aW,res1,bF,bC,aP,bg,bf,okT,okA,ok1,rowOf,Tryz.f46];exact hfail 180 hE X ny (by omega) hX
theorem Ba (root:Man) (L:List Man) (t:List Pl) (hsz:fP root L t) (n:Int) (d:Dep) (v:Ver) (hd:d.name.size≤1000000) (hv:v.pre.size≤1000000):CallsOK Tryz.prog 15 [.agg root.cells,rowT Man.cells L,rowT Pl.cells t,iV n,.agg d.cells,.agg v.cells] (iV (Me root L t n d v)) []:=by
 have hWr:=sF root L t hsz;have hfm:=pV root L t;have hR:Me root L t n d v=if codeV root L t=0∧0≤n∧n<t.length then jo root L t n.toNat d v else-1:=rfl;refine aN mixed Tryz.call15 Tryz.func15 rfl (by rw[Tryz.ntmps15];simp) ?_ rfl;rw[Tryz.ntmps15];refine aR fun K' hK=> ?_
 simp;apply hK;clear K' hK;apply aA
 refine fC (fun s X ny=>s 1=rowT Man.cells L∧s 2=rowT Pl.cells t∧s 3=iV n∧s 6=.ptr 0 0∧s 10=.ptr 1 0∧s 11=.ptr 2 0∧s 14=iV (codeV root L t)∧X 0=some (.var 27 root.cells)∧X 1=some (.var 35 d.cells)∧X 2=some (.var 23 v.cells)∧2<ny) ?_ ?_
 ·rcases hfm with⟨hw0,hfm⟩ | hfm
  ·rw[hfm]at hWr;refine aS fun K' hK=> ?_
   simp;refine aO hWr (by first | rfl | (simp;done) | (simp;rfl) | (simp;exact⟨rfl,rfl⟩)) ?_;simp[dO];apply hK;clear K' hK;with_reducible refine bP ?_
   exact⟨by simp,by simp,by simp,by simp,by simp,by simp,by simp,by simp,by simp,by simp,by omega⟩
  ·rw[hfm]at hWr;refine aS fun K' hK=> ?_
   simp;refine aO hWr (by first | rfl | (simp;done) | (simp;rfl) | (simp;exact⟨rfl,rfl⟩)) ?_;simp[bK];apply hK;clear K' hK;with_reducible refine bP ?_
   exact⟨by simp,by simp,by simp,by simp,by simp,by simp,by simp,by simp,by simp,by simp,by omega⟩
 clear hWr hfm;rintro s X ny ⟨s1,s2,s3,s6,s10,s11,s14,g0,g1,g2,hny⟩;by_cases hc:codeV root L t=0
 ·rw[hc]at s14;by_cases h0:0≤n
  ·by_cases h1:n<t.length
   ·rw[if_pos ⟨hc,h0,h1⟩]at hR;obtain⟨m,rfl⟩:∃m:Nat,n=m:=⟨n.toNat,by omega⟩;have g:Good t:=dZ.1 (dJ.1 hc).2.2;rw[Int.toNat_natCast]at hR;rw[hR];have h2:¬(m:Int)<0:=(by omega);have h3:¬(t.length:Int)≤m:=(by omega);have h4:¬t.length≤m:=(by omega);have n0:¬0=ny:=(by omega);have n1:¬1=ny:=(by omega);have n2:¬2=ny:=(by omega);apply aA;refine aR fun K' hK=> ?_
    simp[s2,s3,s14,h2,h3,h4];apply hK;clear K' hK;refine aYk (by simp) ?_;refine aR fun K' hK=> ?_
    simp[s1,s2,s6,g0];apply hK;clear K' hK;refine aR fun K' hK=> ?_
    simp[s3,s10,s11,g1,g2,n1,n2];refine dH (Qu (x:=rowT Pl.cells t) hsz g (show m<t.length by omega) hd hv (.inl rfl) (by simp;rfl) (by omega) ?_);rintro Y nz hnz hY;simp[uq];apply hK;clear K' hK;apply aF
    simp[au,aG,Post,aW,res1,bF,bC,aP,bg,bf,okT,okA,ok1,rowOf,Tryz.f15]
   ·rw[if_neg (fun h=>h1 h.2.2)]at hR;rw[hR];have h2:¬n<0:=(by omega);have h3:(t.length:Int)≤n:=(by omega);apply aA;refine aR fun K' hK=> ?_
    simp[s2,s3,s14,h2,h3];apply hK;clear K' hK;refine aX (by simp) ?_;apply aA;refine aR fun K' hK=> ?_
    simp;apply hK;clear K' hK;apply aJ
    simp[au,aG,Post,aW,res1,bF,bC,aP,bg,bf,okT,okA,ok1,rowOf,Tryz.f15]
  ·rw[if_neg (fun h=>h0 h.2.1)]at hR;rw[hR];have h2:n<0:=(by omega);apply aA;refine aR fun K' hK=> ?_
   simp[s2,s3,s14,h2];apply hK;clear K' hK;refine aX (by simp) ?_;apply aA;refine aR fun K' hK=> ?_
   simp;apply hK;clear K' hK;apply aJ
   simp[au,aG,Post,aW,res1,bF,bC,aP,bg,bf,okT,okA,ok1,rowOf,Tryz.f15]
 ·rw[if_neg (fun h=>hc h.1)]at hR;rw[hR];apply aA;refine aR fun K' hK=> ?_
  simp[s14,hc];apply hK;clear K' hK;refine aX (by simp) ?_;apply aA;refine aR fun K' hK=> ?_
  simp;apply hK;clear K' hK;apply aJ
  simp[au,aG,Post,aW,res1,bF,bC,aP,bg,bf,okT,okA,ok1,rowOf,Tryz.f15]
set_option maxRecDepth 100000
set_option maxHeartbeats 4000000
theorem Bl (root:Man) (L:List Man) (t:List Pl) (hsz:fP root L t) (h12:dK L=0→L.length≤12) (htl:t.length≤1000):CallsOK Tryz.prog 19 [.agg root.cells,rowT Man.cells L,rowT Pl.cells t] (gQ root L t).1 (gQ root L t).2:=by
 obtain⟨hr,hro,hL,hLo,ht,htv⟩:=id hsz;have hW:=sF root L t hsz;have hfm:=pV root L t;refine aN mixed Tryz.call19 Tryz.func19 rfl (by rw[Tryz.ntmps19];simp) ?_ ?_
 ·rw[Tryz.ntmps19];have hG1:∀u:List Pl,growS root L t=(u,0)→gQ root L t=(.tup [rowT Pl.cells u,iV 0],[]):=fun u e=>(by unfold gQ;rw[e,if_pos rfl]);have hG2:∀(u:List Pl) c,growS root L t=(u,c)→c≠0→gQ root L t=(.tup [.row 0 0,iV c],[(50,[])]):=fun u c e h=>(by unfold gQ;rw[e,if_neg h]);have hGe:growS root L t=if codeV root L t=0 then jB root L 201 0 t else([],codeV root L t):=rfl;generalize gQ root L t=go at*;generalize growS root L t=gs at*;refine aR fun K' hK=> ?_
  simp;apply hK;clear K' hK;apply aA
  refine fC (fun s G nx=>s 1=rowT Man.cells L∧s 2=rowT Pl.cells t∧s 3=.ptr 0 0∧G 0=some (.var 27 root.cells)∧s 9=iV (codeV root L t)∧0<nx) ?_ ?_
  ·rcases hfm with⟨hw0,hfm⟩ | hfm
   ·rw[hfm]at hW;refine aS fun K' hK=> ?_
    simp;refine aO hW (by first | rfl | (simp;done) | (simp;rfl) | (simp;exact⟨rfl,rfl⟩)) ?_;simp[dO];apply hK;clear K' hK;with_reducible refine bP ?_
    exact⟨by simp,by simp,by simp,by simp,by simp,by omega⟩
   ·rw[hfm]at hW;refine aS fun K' hK=> ?_
    simp;refine aO hW (by first | rfl | (simp;done) | (simp;rfl) | (simp;exact⟨rfl,rfl⟩)) ?_;simp[bK];apply hK;clear K' hK;with_reducible refine bP ?_
    exact⟨by simp,by simp,by simp,by simp,by simp,by omega⟩
  clear hW hfm;rintro s G nx ⟨s1,s2,s3,g0,s9,hnx⟩;by_cases hc:codeV root L t=0
  ·have h12:=h12 (dJ.1 hc).2.1;rw[if_pos hc]at hGe;rw[hc]at s9;have g:Good t:=dZ.1 (dJ.1 hc).2.2;have b1:t.length≤9223372036854775807:=(by omega);have b2:t.length*64≤140737488355328:=(by omega);have hfl:(flat Pl.cells t).length=t.length*6:=eY;have n0:¬0=nx:=(by omega);have n1:¬0=nx+1:=(by omega);have n2:¬0=nx+1+1:=(by omega);apply aA;refine aR fun K' hK=> ?_
   simp[s9];apply hK;clear K' hK;refine aYk (by simp) ?_
   (repeat with_reducible refine jR ?_);refine fH (some 3) [] (by decide+kernel) (by decide+kernel) (fun p' hp'=>by cases hp';exact⟨0,0,s3,by simp⟩) fun K' hK=> ?_;simp[s1,s2,s3,g0,n0,n1,b1,b2,hfl];apply hK;clear K' hK;apply aA;refine aR fun K' hK=> ?_
   simp;apply hK;clear K' hK;apply aB
   refine bH (fun s G nx=>∃p x,s 10=.ptr p 0∧G p=some (.var 80 (jd root L x))∧p<nx∧∃(n k:Nat) (u:List Pl),s 11=iV n∧n+k=201∧n≤200∧jZ (n<u.length) G nx x u∧gs=jB root L k n u∧codeV root L u=0∧fP root L u) (fun s _ _=>match s 11 with | .v (.int _ n)=>201-n.toNat | _=>0) ?_ ?_
   ·exact⟨nx+2,.row (nx+1) t.length,by simp,by simp;rfl,by omega,0,201,t,by simp,by omega,by omega,.inr ⟨nx+1,rfl,by omega,.inr ⟨g.pos,by simp⟩⟩,hGe,hc,hsz⟩
   clear hGe hc g s1 s2 s3 g0 s9 hnx b1 b2 hfl n0 n1 n2 ht htv;rintro s G nx-⟨p,x,s10,gp,hp,n,k,u,s11,hnk,hn200,hx,hgs,hc,hsz⟩;have g:Good u:=dZ.1 (dJ.1 hc).2.2;have hul:=g.le;obtain⟨k,rfl⟩:∃k',k=k'+1:=⟨k-1,by omega⟩;unfold jB at hgs;have hlen:=hx.len;apply aA;refine aR fun K' hK=> ?_
   simp[s10,s11,gp,hlen];apply hK;clear K' hK;refine aC fun A B hA hB=> ?_
   simp;refine⟨fun hn2=>hA ?_,fun hn2=>hB ?_⟩<;>clear hA hB A B<;>(try simp at hn2)<;>(try with_reducible refine aK ?_)
   ·rw[if_pos hn2]at hgs;have hEz:=jW (t:=u) (n:=n) hr hL;have hEl:=nC (t:=u) (n:=n) hr hL;have hEd:=fun K'=>Ee (n:=n) (K:=K') hsz g hx gp hp;generalize hsm:(manVal root L u n).isSome=sm at*;generalize hEe:edgesV root L u n=E at*;have xp:=hx.mX gp;apply aB;refine aR fun K' hK=> ?_
    simp[s10,s11];refine dH (hEd _ ?_);rintro Y ny r hny hYk hYx hr1 hr2 hYr;have yp:Y p=some (.var 80 (jd root L x)):=(by rw[hYk p hp xp];exact gp);simp[uq];apply hK;clear K' hK;cases sm with
    | false=>
     rw[if_neg (by simp)]at hgs;rw[hG2 _ _ hgs (by omega)];apply aA;refine aR fun K' hK=> ?_
     simp;apply hK;clear K' hK;refine aX (by simp) ?_;apply aA;refine aR fun K' hK=> ?_
     simp;apply hK;clear K' hK;apply aJ
     simp[au,aG,Post,aW,res1,bF,bC,aP,bg,bf,okT,okA,ok1,rowOf,Tryz.f19]
    | true=>
     rw[if_pos rfl]at hgs;apply aA;refine aR fun K' hK=> ?_
     simp;apply hK;clear K' hK;refine aYk (by simp) ?_;refine aR fun K' hK=> ?_
     simp[hYr];apply hK;clear K' hK;refine dL (aB ?_)
     refine bH (fun s G nz=>s 10=.ptr p 0∧p<nz∧s 11=iV n∧s 51=.row r E.length∧s 52=iV E.length∧G r=some (.row 35 (flat Dep.cells E))∧r<nz∧¬r=p∧∃(j:Nat) (x:AV) (u':List Pl),s 53=iV j∧j≤E.length∧G p=some (.var 80 (jd root L x))∧jZ (n+1<u'.length) G nz x u'∧eG root L n E u=eG root L n (E.drop j) u'∧codeV root L u'=0∧fP root L u'∧n<u'.length) (fun s _ _=>match s 53 with | .v (.int _ n)=>E.length-n.toNat | _=>0) ?_ ?_
     ·exact⟨by simp[s10],by omega,by simp[s11],by simp,by simp,hYr,hr2,by omega,0,x,u,by simp,by omega,yp,hYx.keep (by omega) (fun h=>h.elim) (fun k hk=>rfl),by simp,hc,hsz,hn2⟩
     have o11:=s11;clear s10 s11 gp hx hlen hYk hYx yp xp hEd hc hsz g hul hn2;rintro s G nz-⟨s10,hpz,s11,s51,s52,gr,hrz,hrp,j,x,u',s53,hj,gp,hx,hes,hc,hsz,hnu⟩;have hw:IntKind.i64.wrap (↑j+1)=((j+1:Nat):Int):=dh (by omega);have g:Good u':=dZ.1 (dJ.1 hc).2.2;have hul:=g.le;refine aR fun K' hK=> ?_
     simp[s52,s53];apply hK;clear K' hK;refine aC fun A B hA hB=> ?_
     simp;refine⟨fun hj2=>hA ?_,fun hj2=>hB ?_⟩<;>clear hA hB A B<;>(try simp at hj2)<;>(try with_reducible refine aK ?_)
     ·obtain⟨hdr,hdn⟩:=hEz _ (bM hj2);have hdc:=drop_cons hj2;have hstep:eG root L n (nth E j::E.drop (j+1)) u'=if(dY root L n (nth E j) u').2=0 then eG root L n (E.drop (j+1)) (dY root L n (nth E j) u').1 else([],(dY root L n (nth E j) u').2):=rfl;rw[hdc,hstep]at hes;clear hstep;have hxt:=fun h=>ru (root:=root) (L:=L) (t:=u') (n:=n) (d:=nth E j) hc hnu h;have hsx:=fun h=>zN (root:=root) (L:=L) (t:=u') (n:=n) (d:=nth E j) hsz hul hdn h;have hED:=fun X ny K' hx'=> @Qs root L u' hsz h12 hc n hnu (nth E j) hdn hdr (n+1<u'.length) X ny p x K' hx';generalize hgd:nth E j=d at*;have xp:=hx.mX gp;have xr:=hx.NM gr;have np:¬p=nz:=(by omega);have nr:¬r=nz:=(by omega);apply aB;refine aR fun K' hK=> ?_
      simp[s51,s53,gr,hj2,hgd];apply hK;clear K' hK;refine aR fun K' hK=> ?_
      simp[s10,s11];refine dH (hED _ _ _ (hx.keep (by omega) id fun k hk=>by rw[Hp.upd_ne _ _ (by omega),Hp.upd_ne _ _ (by omega)]) (by rw[Hp.upd_ne _ _ np,Hp.upd_ne _ _ np];exact gp) (by omega) ?_);rintro Y ny x' hny hYk hYp hYx-;have yr:Y r=some (.row 35 (flat Dep.cells E)):=(by rw[hYk r (by omega) hrp xr,Hp.upd_ne _ _ nr,Hp.upd_ne _ _ nr];exact gr);simp[uq];apply hK;clear K' hK;by_cases c0:(dY root L n d u').2=0
      ·have e1:=(hxt c0).1;have e2:=hsx c0;rw[if_pos c0]at hes;have hl1:=e1.len;have e1c:=e1.code;clear hxt hsx e1;generalize (dY root L n d u').1=X at*;refine aR fun K' hK=> ?_
       simp[c0];apply hK;clear K' hK;refine aVk (by simp) ?_;apply aj
       refine ah ?_;refine aS fun K' hK=> ?_
       simp[s53,hw];apply hK;clear K' hK;refine aj (ay ?_ ?_)
       ·exact⟨by simp[s10],by omega,by simp[s11],by simp[s51],by simp[s52],yr,by omega,hrp,j+1,x',X,by simp[hw],by omega,hYp,hYx.keep (by omega) (fun h=>by omega) (fun k hk=>rfl),hes,e1c,e2,by omega⟩
       ·simp[s53,hw];omega
      ·rw[if_neg c0]at hes;rw[hes,if_neg c0]at hgs;have hgo:=hG2 _ _ hgs c0;generalize (dY root L n d u').2=c at*;rw[hgo];refine aR fun K' hK=> ?_
       simp[c0];apply hK;clear K' hK;refine aU (by simp) ?_;apply aA;refine aR fun K' hK=> ?_
       simp;apply hK;clear K' hK;apply aJ
       simp[au,aG,Post,aW,res1,bF,bC,aP,bg,bf,okT,okA,ok1,rowOf,Tryz.f19]
     ·skip;apply bG
      refine aI (aH ?_);have hje:j=E.length:=(by omega);subst hje;rw[List.drop_length]at hes;have hes:eG root L n E u=(u',0):=hes;rw[hes,if_pos rfl]at hgs;have hw2:IntKind.i64.wrap (↑n+1)=((n+1:Nat):Int):=dh (by omega);apply aj
      refine ah ?_;refine aS fun K' hK=> ?_
      simp[s11,hw2];apply hK;clear K' hK;refine aj (ay ?_ ?_)
      ·exact⟨p,x,by simp[s10],gp,hpz,n+1,k,u',by simp[hw2],by omega,by omega,hx,hgs,hc,hsz⟩
      ·simp[o11,s11,hw2];omega
   ·rw[if_neg (by omega)]at hgs;rw[hG1 _ hgs];apply bG
    refine aI (aH ?_);refine aR fun K' hK=> ?_
    simp[s10,gp];apply hK;clear K' hK;rcases hx with rfl | ⟨q,rfl,hq,h | ⟨h,_⟩⟩
    ·skip;apply aF
     simp[au,aG,Post,aW,res1,bF,bC,aP,bg,bf,okT,okA,ok1,rowOf,Tryz.f19];all_goals first | exact⟨rfl,rfl⟩ | rfl
    ·have hfl:(flat Pl.cells u).length=u.length*6:=eY;apply aF
     simp[au,aG,Post,aW,res1,bF,bC,aP,bg,bf,okT,okA,ok1,rowOf,Tryz.f19,h,c50,hfl];all_goals first | exact⟨rfl,rfl⟩ | rfl
    ·omega
  ·rw[if_neg hc]at hGe;rw[hG2 _ _ hGe hc];apply aA;refine aR fun K' hK=> ?_
   simp[s9,hc];apply hK;clear K' hK;refine aX (by simp) ?_;apply aA;refine aR fun K' hK=> ?_
   simp[s9];apply hK;clear K' hK;apply aJ
   simp[au,aG,Post,aW,res1,bF,bC,aP,bg,bf,okT,okA,ok1,rowOf,Tryz.f19]
 ·unfold gQ;split<;>rfl
theorem yX (root:Man) (L:List Man) (hr:Man.sz root) (hro:Man.okS root) (hL:Idx.sz L) (hLo:∀m∈L,Man.okS m) (h12:dK L=0→L.length≤12):CallsOK Tryz.prog 21 [.agg root.cells,rowT Man.cells L] (gQ root L [rootP]).1 (gQ root L [rootP]).2:=by
 have hsz:fP root L [rootP]:=⟨hr,hro,hL,hLo,uI (by decide+kernel),fun p hp=>by simp at hp;subst hp;decide⟩;have hG:=Bl root L [rootP] hsz h12 (by simp);have hO:gQ root L [rootP]=if(growS root L [rootP]).2=0 then(.tup [rowT Pl.cells (growS root L [rootP]).1,iV 0],[])else(.tup [.row 0 0,iV (growS root L [rootP]).2],[(50,[])]):=rfl;refine aN mixed Tryz.call21 Tryz.func21 rfl (by rw[Tryz.ntmps21];simp) ?_ ?_
 ·rw[Tryz.ntmps21];generalize growS root L [rootP]=gs at*;generalize gQ root L [rootP]=go at*;refine aR fun K' hK=> ?_
  simp;apply hK;clear K' hK;by_cases h:gs.2=0
  ·rw[if_pos h]at hO;subst hO;refine aQ fun K' hK=> ?_
   simp;refine aO uJ (by first | rfl | (simp;done) | (simp;rfl) | (simp;exact⟨rfl,rfl⟩)) ?_;simp[bK];refine aO hG (by first | rfl | (simp;done) | (simp;rfl) | (simp;exact⟨rfl,rfl⟩)) ?_;simp[dO];apply hK;clear K' hK;apply aF
   simp[au,aG,Post,aW,res1,bF,bC,aP,bg,bf,okT,okA,ok1,rowOf,Tryz.f21];all_goals first | exact⟨rfl,rfl⟩ | rfl
  ·rw[if_neg h]at hO;subst hO;refine aQ fun K' hK=> ?_
   simp;refine aO uJ (by first | rfl | (simp;done) | (simp;rfl) | (simp;exact⟨rfl,rfl⟩)) ?_;simp[bK];refine aO hG (by first | rfl | (simp;done) | (simp;rfl) | (simp;exact⟨rfl,rfl⟩)) ?_;simp[bK];apply hK;clear K' hK;apply aF
   simp[au,aG,Post,aW,res1,bF,bC,aP,bg,bf,okT,okA,ok1,rowOf,Tryz.f21]
 ·unfold gQ;split<;>rfl
@[simp high] theorem zB {α:Type} {c:α→List AV} {l:List α} (k:Nat) (x:Value):shiftT k (.tup [rowT c l,.v x])=.tup [rowT c l,.v x]:=rfl
set_option maxRecDepth 100000
set_option maxHeartbeats 4000000
def xZ (root:Man) (L:List Man) (t:List Pl):Bool:=OZ root L t || (decide (10<L.length∧L.length≤100) || decide (15<t.length∧t.length≤200))
theorem I9 (root:Man) (L:List Man) (t:List Pl) (hl:L.length≤9223372036854775807) (ht:t.length≤9223372036854775807):CallsOK Tryz.prog 10 [.agg root.cells,rowT Man.cells L,rowT Pl.cells t] (bV (xZ root L t)) []:=by
 refine aN mixed Tryz.call10 Tryz.func10 rfl (by rw[Tryz.ntmps10];simp) ?_ rfl;rw[Tryz.ntmps10];unfold xZ;refine aR fun K' hK=> ?_
 simp;apply hK;clear K' hK;refine aR fun K' hK=> ?_
 simp;refine ak (PX root L t hl ht) rfl (by first | rfl | (simp;done) | (simp;rfl) | (simp;exact⟨rfl,rfl⟩)) ?_;by_cases hb:OZ root L t=true
 ·simp[hb];apply hK;clear K' hK;apply aF
  simp[au,aG,Post,aW,res1,bF,bC,aP,bg,bf,okT,okA,ok1,rowOf,Tryz.f10];first | exact .inl hb | exact .inr (.inl ⟨n1,n2⟩) | exact .inr (.inr ⟨n3,n4⟩) | exact⟨hb',fun _=>by omega,fun _=>by omega⟩
 have hb':OZ root L t=false:=(by simpa using hb);by_cases n1:10<L.length
 ·have m1:(10:Int)<L.length:=(by omega);by_cases n2:L.length≤100
  ·have m2:(L.length:Int)≤100:=(by omega);simp[hb',n1,n2,m1,m2];apply hK;clear K' hK;apply aF
   simp[au,aG,Post,aW,res1,bF,bC,aP,bg,bf,okT,okA,ok1,rowOf,Tryz.f10];first | exact .inl hb | exact .inr (.inl ⟨n1,n2⟩) | exact .inr (.inr ⟨n3,n4⟩) | exact⟨hb',fun _=>by omega,fun _=>by omega⟩
  ·have m2:¬(L.length:Int)≤100:=(by omega);by_cases n3:15<t.length
   ·have m3:(15:Int)<t.length:=(by omega);by_cases n4:t.length≤200
    ·have m4:(t.length:Int)≤200:=(by omega);simp[hb',n1,n2,m1,m2,n3,n4,m3,m4];apply hK;clear K' hK;apply aF
     simp[au,aG,Post,aW,res1,bF,bC,aP,bg,bf,okT,okA,ok1,rowOf,Tryz.f10];first | exact .inl hb | exact .inr (.inl ⟨n1,n2⟩) | exact .inr (.inr ⟨n3,n4⟩) | exact⟨hb',fun _=>by omega,fun _=>by omega⟩
    ·have m4:¬(t.length:Int)≤200:=(by omega);simp[hb',n1,n2,m1,m2,n3,n4,m3,m4];apply hK;clear K' hK;apply aF
     simp[au,aG,Post,aW,res1,bF,bC,aP,bg,bf,okT,okA,ok1,rowOf,Tryz.f10];first | exact .inl hb | exact .inr (.inl ⟨n1,n2⟩) | exact .inr (.inr ⟨n3,n4⟩) | exact⟨hb',fun _=>by omega,fun _=>by omega⟩
   ·have m3:¬(15:Int)<t.length:=(by omega);simp[hb',n1,n2,m1,m2,n3,m3];apply hK;clear K' hK;apply aF
    simp[au,aG,Post,aW,res1,bF,bC,aP,bg,bf,okT,okA,ok1,rowOf,Tryz.f10];first | exact .inl hb | exact .inr (.inl ⟨n1,n2⟩) | exact .inr (.inr ⟨n3,n4⟩) | exact⟨hb',fun _=>by omega,fun _=>by omega⟩
 ·have m1:¬(10:Int)<L.length:=(by omega);by_cases n3:15<t.length
  ·have m3:(15:Int)<t.length:=(by omega);by_cases n4:t.length≤200
   ·have m4:(t.length:Int)≤200:=(by omega);simp[hb',n1,m1,n3,n4,m3,m4];apply hK;clear K' hK;apply aF
    simp[au,aG,Post,aW,res1,bF,bC,aP,bg,bf,okT,okA,ok1,rowOf,Tryz.f10];first | exact .inl hb | exact .inr (.inl ⟨n1,n2⟩) | exact .inr (.inr ⟨n3,n4⟩) | exact⟨hb',fun _=>by omega,fun _=>by omega⟩
   ·have m4:¬(t.length:Int)≤200:=(by omega);simp[hb',n1,m1,n3,n4,m3,m4];apply hK;clear K' hK;apply aF
    simp[au,aG,Post,aW,res1,bF,bC,aP,bg,bf,okT,okA,ok1,rowOf,Tryz.f10];first | exact .inl hb | exact .inr (.inl ⟨n1,n2⟩) | exact .inr (.inr ⟨n3,n4⟩) | exact⟨hb',fun _=>by omega,fun _=>by omega⟩
  ·have m3:¬(15:Int)<t.length:=(by omega);simp[hb',n1,m1,n3,m3];apply hK;clear K' hK;apply aF
   simp[au,aG,Post,aW,res1,bF,bC,aP,bg,bf,okT,okA,ok1,rowOf,Tryz.f10];first | exact .inl hb | exact .inr (.inl ⟨n1,n2⟩) | exact .inr (.inr ⟨n3,n4⟩) | exact⟨hb',fun _=>by omega,fun _=>by omega⟩
theorem KA {root:Man} {L:List Man} {t:List Pl} (h:xZ root L t=false):fP root L t∧t.length≤1000∧(dK L=0→L.length≤12):=by
 unfold xZ at h;rw[Bool.or_eq_false_iff,Bool.or_eq_false_iff,decide_eq_false_iff_not,decide_eq_false_iff_not]at h;obtain⟨h1,h2,h3⟩:=h;obtain⟨b1,b2,b3⟩:=Tm h1;refine⟨Af b1 b2 b3,by have:=(AA b3).1;omega,fun hi=> ?_⟩;have:L.length≤100:=by
  unfold dK at hi;split at hi
  ·omega
  ·omega
 omega
def longW (root:Man) (L:List Man) (t:List Pl):Bool:=decide ((growS root L t).2=0)&&decide (60<(growS root L t).1.length)
theorem BA {root:Man} {L:List Man} {n:Nat} :∀(l:List Dep) {t:List Pl},codeV root L t=0→n<t.length→(∀d∈l,d∈edgesV root L t n)→fP root L t→(eG root L n l t).2=0→fP root L (eG root L n l t).1
 | [],t,_,_,_,hsz,_=>hsz
 | d::l,t,hc,hn,hm,hsz,h=>by
  unfold eG at h⊢;by_cases h1:(dY root L n d t).2=0
  ·rw[if_pos h1]at h⊢;obtain⟨e1,e2⟩:=ru hc hn h1;have hl:=e1.len;have hm2:∀x∈l,x∈edgesV root L (dY root L n d t).1 n:=fun x hx=>(by rw[e1.edges n hn];exact hm x (by simp[hx]));exact BA l e1.code (by omega) hm2 (zN hsz (Am hc) (jW hsz.1 hsz.2.2.1 d (hm d (by simp))).2 h1) h
  ·rw[if_neg h1]at h;exact(h1 h).elim
theorem DI {root:Man} {L:List Man} :∀(k n:Nat) {t:List Pl},codeV root L t=0→fP root L t→(jB root L k n t).2=0→fP root L (jB root L k n t).1
 | 0,n,t,_,hsz,_=>hsz
 | k+1,n,t,hc,hsz,h=>by
  unfold jB at h⊢;by_cases hn:n<t.length
  ·rw[if_pos hn]at h⊢;by_cases hm:(manVal root L t n).isSome=true
   ·rw[if_pos hm]at h⊢;by_cases he:(eG root L n (edgesV root L t n) t).2=0
    ·rw[if_pos he]at h⊢;exact DI k (n+1) (wV (edgesV root L t n) hc hn (fun _ h=>h) he).1.code (BA _ hc hn (fun _ h=>h) hsz he) h
    ·rw[if_neg he]at h;exact(he h).elim
   ·rw[if_neg hm]at h;cases h
  ·rw[if_neg hn]at h⊢;exact hsz
theorem Qo {root:Man} {L:List Man} {t:List Pl} (h:(growS root L t).2=0) (hsz:fP root L t):fP root L (growS root L t).1∧codeV root L (growS root L t).1=0∧(growS root L t).1.length≤200:=by
 unfold growS at h⊢;by_cases hc:codeV root L t=0
 ·rw[if_pos hc]at h⊢;have:=(H6 201 0 (by omega) hc (fun j hj=>absurd hj (Nat.not_lt_zero j)) h).1.code;exact⟨DI 201 0 hc hsz h,this,Am this⟩
 ·rw[if_neg hc]at h;exact(hc h).elim
theorem Gt {root:Man} {L:List Man} {t:List Pl} (h:(growS root L t).2=0):gQ root L t=(.tup [rowT Pl.cells (growS root L t).1,iV 0],[]):=by unfold gQ;rw[if_pos h]
theorem Gp {root:Man} {L:List Man} {t:List Pl} (h:¬(growS root L t).2=0):gQ root L t=(.tup [.row 0 0,iV (growS root L t).2],[(50,[])]):=by unfold gQ;rw[if_neg h]
theorem OW {root:Man} {L:List Man} {t:List Pl} (hsz:fP root L t):fP root L [rootP]:=⟨hsz.1,hsz.2.1,hsz.2.2.1,hsz.2.2.2.1,uI (by decide+kernel),fun p hp=>by simp at hp;subst hp;decide⟩
set_option maxRecDepth 100000
set_option maxHeartbeats 400000
def uA:Bs:=⟨#[97]⟩
def uB:Bs:=⟨#[98]⟩
def uV (k:Int):Ver:=⟨k,0,0,⟨#[]⟩⟩
def VT:Rg:=[[]]
def JW (k:Int):Rg:=[[⟨1,uV k⟩]]
def dw:Man:=⟨⟨#[]⟩,uV 0,[⟨1,uA,VT⟩,⟨1,uB,JW 2⟩],[]⟩
def nsA:Man:=⟨uA,uV 1,[⟨1,uB,JW 1⟩],[]⟩
def nsX:List Man:=[nsA,⟨uB,uV 1,[],[]⟩,⟨uB,uV 2,[],[]⟩]
def Ph:List Man:=[nsA]
def DL:List Pl:=[rootP,⟨0,uA,uV 1⟩]
def JR:List Pl:=[rootP,⟨0,uA,uV 1⟩,⟨0,uB,uV 2⟩]
def nsT:List Pl:=[rootP,⟨0,uA,uV 1⟩,⟨0,uB,uV 2⟩,⟨1,uB,uV 1⟩]
instance leB_dec (a b:Bs):Decidable (leB' a b):=by unfold leB';infer_instance
theorem SB {ds:List Dep} {b:Bool} {S:List Bs} {E:List Dep} (h1:cu (byM b ds)=S) (h2:S.Pairwise leB') (h3:(S.map fun n=>eU [] (findD (byM b ds) n))=E):ofF ds [] b=E:=by
 unfold ofF;rw[h1,IX h2,h3]
theorem U5:ofF dw.deps dw.rules true=dw.deps:=SB (S:=[uA,uB]) (by decide+kernel) (by decide+kernel) (by decide+kernel)
theorem Ve:ofF nsA.deps dw.rules false=nsA.deps:=SB (S:=[uB]) (by decide+kernel) (by decide+kernel) (by decide+kernel)
theorem Vr:ofF [] dw.rules false=[]:=SB (S:=[]) (by decide+kernel) (by decide+kernel) (by decide+kernel)
theorem vX {root:Man} {L:List Man} {t:List Pl} {n:Nat} {m:Man} {E:List Dep} (h:manVal root L t n=some m) (ho:ofF m.deps root.rules (decide ((n:Int)=0))=E):edgesV root L t n=E:=by
 unfold edgesV;rw[h];exact ho
def nsE:List (List Dep):=[dw.deps,nsA.deps,[],[]]
theorem Jc {L:List Man} {t:List Pl} (h:manVal dw L t (0:Nat)=some dw):edgesV dw L t 0=dw.deps:=vX h U5
theorem OD {L:List Man} {t:List Pl} {n:Nat} (h:manVal dw L t n=some nsA) (hn:decide ((n:Int)=0)=false):edgesV dw L t n=nsA.deps:=vX h (by rw[hn];exact Ve)
theorem SQ {L:List Man} {t:List Pl} {n:Nat} {v:Ver} (h:manVal dw L t n=some ⟨uB,v,[],[]⟩) (hn:decide ((n:Int)=0)=false):edgesV dw L t n=[]:=vX h (by rw[hn];exact Vr)
def AtG (root:Man) (L:List Man) (t:List Pl) (Es:List (List Dep)):Prop:=∀n,n<t.length→edgesV root L t n=nth Es n
theorem VL:AtG dw nsX [rootP] nsE:=fun n hn=>by
 obtain rfl:n=0:=(by simp at hn;omega);exact Jc (by decide+kernel)
theorem Uj:AtG dw Ph [rootP] nsE:=fun n hn=>by
 obtain rfl:n=0:=(by simp at hn;omega);exact Jc (by decide+kernel)
theorem TN:AtG dw nsX DL nsE:=fun n hn=>by
 have hn:n<2:=hn;obtain rfl | rfl:n=0∨n=1:=by omega
 ·exact Jc (by decide+kernel)
 ·exact OD (by decide+kernel) (by decide)
theorem VE:AtG dw Ph DL nsE:=fun n hn=>by
 have hn:n<2:=hn;obtain rfl | rfl:n=0∨n=1:=by omega
 ·exact Jc (by decide+kernel)
 ·exact OD (by decide+kernel) (by decide)
theorem Vx:AtG dw nsX JR nsE:=fun n hn=>by
 have hn:n<3:=hn;obtain rfl | rfl | rfl:n=0∨n=1∨n=2:=by omega
 ·exact Jc (by decide+kernel)
 ·exact OD (by decide+kernel) (by decide)
 ·exact SQ (v:=uV 2) (by decide+kernel) (by decide)
theorem VO:AtG dw nsX nsT nsE:=fun n hn=>by
 have hn:n<4:=hn;obtain rfl | rfl | rfl | rfl:n=0∨n=1∨n=2∨n=3:=by omega
 ·exact Jc (by decide+kernel)
 ·exact OD (by decide+kernel) (by decide)
 ·exact SQ (v:=uV 2) (by decide+kernel) (by decide)
 ·exact SQ (v:=uV 1) (by decide+kernel) (by decide)
def Pj (Es:List (List Dep)) (t:List Pl) (n:Nat) (d:Dep) (v:Ver):Int:=mZ (fun p=>decide (cZ t p d.name v=0)&&(List.range t.length).all fun n=>(nth Es n).all fun x=> !holdsV t n x || holdsV (jc t p d.name v) n x) (QL t n d) (-1)
theorem EM {root:Man} {L:List Man} {t:List Pl} {Es:List (List Dep)} (h:AtG root L t Es) (n:Nat) (d:Dep) (v:Ver):jo root L t n d v=Pj Es t n d v:=by
 unfold jo Pj;congr 1;funext p;unfold fJ l9;congr 1;rw[Bool.eq_iff_iff,List.all_eq_true,List.all_eq_true];constructor
 ·intro hh x hx;have:=hh x hx;rw[h x (List.mem_range.1 hx)]at this;exact this
 ·intro hh x hx;have:=hh x hx;rw[←h x (List.mem_range.1 hx)]at this;exact this
def Pe (Es:List (List Dep)) (L:List Man) (n:Nat) (d:Dep) (t:List Pl):List Pl×Int:=
 if holdsV t n d=true∧0≤toN t n d then(t,0)else
 match rM (gJ L d.name) d.range with
 | none=>if holdsV t n d=true then(t,0)else(t,180)
 | some v=>if Pj Es t n d v<0 then(if holdsV t n d=true then(t,0)else(t,180))else if 40≤t.length then(t,2)else(jc t (Pj Es t n d v) d.name v,0)
theorem LH {root:Man} {L:List Man} {t:List Pl} {Es:List (List Dep)} (h:AtG root L t Es) (n:Nat) (d:Dep):dY root L n d t=Pe Es L n d t:=by
 unfold dY Pe;simp only[EM h];rfl
theorem nP {root:Man} {L:List Man} {t u:List Pl} {Es:List (List Dep)} {n:Nat} {d:Dep} {l:List Dep} {r:List Pl×Int} (h:AtG root L t Es) (h1:Pe Es L n d t=(u,0)) (h2:eG root L n l u=r):eG root L n (d::l) t=r:=by
 unfold eG;rw[LH h,h1,if_pos rfl,h2]
theorem PK {root:Man} {L:List Man} {t u:List Pl} {Es:List (List Dep)} {n:Nat} {d:Dep} {l:List Dep} (h:AtG root L t Es) (h1:Pe Es L n d t=(u,180)):eG root L n (d::l) t=([],180):=by
 unfold eG;rw[LH h,h1,if_neg (by simp)]
theorem vH {root:Man} {L:List Man} {t u:List Pl} {E:List Dep} {k n:Nat} {r:List Pl×Int} (hn:n<t.length) (hm:(manVal root L t n).isSome=true) (hE:edgesV root L t n=E) (h1:eG root L n E t=(u,0)) (h2:jB root L k (n+1) u=r):jB root L (k+1) n t=r:=by
 unfold jB;rw[if_pos hn,if_pos hm,hE,h1,if_pos rfl,h2]
theorem Q9 {root:Man} {L:List Man} {t:List Pl} {E:List Dep} {k n:Nat} (hn:n<t.length) (hm:(manVal root L t n).isSome=true) (hE:edgesV root L t n=E) (h1:eG root L n E t=([],180)):jB root L (k+1) n t=([],180):=by
 unfold jB;rw[if_pos hn,if_pos hm,hE,h1,if_neg (by simp)]
theorem grow_end {root:Man} {L:List Man} {t:List Pl} {k n:Nat} (hn:¬n<t.length):jB root L (k+1) n t=(t,0):=by
 unfold jB;rw[if_neg hn]
theorem qM:codeV dw nsX [rootP]=0∧codeV dw Ph [rootP]=0∧codeV dw nsX DL=0∧codeV dw nsX JR=0:=by decide+kernel
theorem qP:xq dw=false∧J3 nsX=false∧J3 Ph=false∧bigT DL=false∧bigT JR=false∧bigT [rootP]=false:=by decide+kernel
theorem NQ:jB dw nsX 200 1 JR=(nsT,0):=by
 refine vH (k:=199) (E:=nsA.deps) (u:=nsT) (by decide) (by decide+kernel) (Vx 1 (by decide)) ?_ ?_
 ·exact nP Vx (u:=nsT) (by decide+kernel) rfl
 refine vH (k:=198) (E:=[]) (u:=nsT) (by decide) (by decide+kernel) (VO 2 (by decide)) rfl ?_;refine vH (k:=197) (E:=[]) (u:=nsT) (by decide) (by decide+kernel) (VO 3 (by decide)) rfl ?_;exact grow_end (k:=196) (by decide)
theorem P9:growS dw nsX [rootP]=(nsT,0):=by
 unfold growS;rw[if_pos qM.1];refine vH (k:=200) (E:=dw.deps) (u:=JR) (by decide) (by decide+kernel) (VL 0 (by decide)) ?_ NQ;refine nP VL (u:=DL) (by decide+kernel) ?_;exact nP TN (u:=JR) (by decide+kernel) rfl
theorem Ri:growS dw nsX DL=(nsT,0):=by
 unfold growS;rw[if_pos qM.2.2.1];refine vH (k:=200) (E:=dw.deps) (u:=JR) (by decide) (by decide+kernel) (TN 0 (by decide)) ?_ NQ;refine nP TN (u:=DL) (by decide+kernel) ?_;exact nP TN (u:=JR) (by decide+kernel) rfl
theorem Rf:growS dw Ph [rootP]=([],180):=by
 unfold growS;rw[if_pos qM.2.1];refine Q9 (k:=200) (E:=dw.deps) (by decide) (by decide+kernel) (Uj 0 (by decide)) ?_;refine nP Uj (u:=DL) (by decide+kernel) ?_;exact PK VE (u:=DL) (by decide+kernel)
theorem Ik:Me dw nsX JR 1 ⟨1,uB,JW 1⟩ (uV 1)=1∧Me dw nsX DL 1 ⟨1,uB,JW 1⟩ (uV 1)=0:=by
 unfold Me;rw[if_pos ⟨qM.2.2.2,by decide,by decide⟩,if_pos ⟨qM.2.2.1,by decide,by decide⟩,EM Vx,EM TN];decide+kernel
set_option maxRecDepth 100000
set_option maxHeartbeats 4000000
theorem CallsOK.TK {P:Program} [Gl P] {f:FuncId} {xs:List AV} {r:AV} {J J':Js} (h:CallsOK P f xs r J) (hlen:J.length=J'.length)
  (hJ:∀(i:Nat) e cs,J[i]? =some (e,cs)→∃ds,J'[i]? =some (e,ds)∧WkTL cs ds):CallsOK P f xs r J':=by
 have e1:∀ {i:Nat} {o:AObj},ofJ J i=some o→∃e cs ds,J[i]? =some (e,cs)∧o=.row e cs∧J'[i]? =some (e,ds)∧ofJ J' i=some (.row e ds)∧WkTL cs ds:=by
  intro i o ho;unfold ofJ at ho⊢;cases hi:J[i]? with
  | none=>rw[hi]at ho;cases ho
  | some p=>
   rw[hi]at ho;simp only[Option.map_some,Option.some.injEq]at ho;obtain⟨ds,h1,h2⟩:=hJ i p.1 p.2 hi;exact⟨p.1,p.2,ds,rfl,ho.symm,h1,by rw[h1];rfl,h2⟩
 have e2:∀ {i:Nat} {o:AObj},ofJ J' i=some o→∃e cs ds,o=.row e ds∧ofJ J i=some (.row e cs)∧WkTL cs ds:=by
  intro i o ho;cases hi:J[i]? with
  | none=>
   have:J'[i]? =none:=(by rw[List.getElem?_eq_none_iff]at hi⊢;omega);unfold ofJ at ho;rw[this]at ho;cases ho
  | some p=>
   obtain⟨ds,h1,h2⟩:=hJ i p.1 p.2 hi;unfold ofJ at ho;rw[h1]at ho;simp only[Option.map_some,Option.some.injEq]at ho;exact⟨p.1,p.2,ds,ho.symm,by unfold ofJ;rw[hi];rfl,h2⟩
 refine⟨h.1,h.2.1,fun w us F hF hΓ hx=>(h.2.2 w us F hF hΓ hx).mono fun en w' hh=> ?_⟩;obtain⟨u,E',rfl,hv,hR,hEF,hb,hge⟩:=hh;refine⟨u,E',rfl,hv,⟨hR.inj,fun i b hi=> ?_,hR.lt,fun i o hi ha=> ?_,fun i=> ?_,fun b=> ?_,hR.nF,hR.Flt,hR.good⟩,hEF,hb,hge⟩
 ·obtain⟨o,h1,h2⟩:=hR.dom i b hi;obtain⟨e,cs,ds,_,rfl,_,h3,_⟩:=e1 h1;exact⟨_,h3,rfl⟩
 ·obtain⟨e,cs,ds,rfl,h1,hw⟩:=e2 hi;obtain⟨hl,hat⟩:=hw.at;rcases hR.obj i _ h1 rfl with⟨b,hb,us',q1,q2,q3⟩ | ⟨hN,e',he⟩
  ·refine .inl ⟨b,hb,us',q1,by omega,fun j c x hc hx=> ?_⟩;have hi:j<cs.length:=(by rw[hl];exact(List.getElem?_eq_some_iff.1 hc).1);exact hat j _ c (List.getElem?_eq_getElem hi) hc _ _ _ (q3 j _ x (List.getElem?_eq_getElem hi) hx)
  ·injection he with he1 he2;subst he2;cases ds with
   | nil=>exact .inr ⟨hN,e,rfl⟩
   | cons _ _=>simp at hl
 ·rw[hR.K i];exact⟨fun⟨o,h⟩=>by obtain⟨e,cs,ds,_,_,_,h3,_⟩:=e1 h;exact⟨_,h3⟩,fun⟨o,h⟩=>by obtain⟨e,cs,ds,_,h3,_⟩:=e2 h;exact⟨_,h3⟩⟩
 ·rw[hR.W b];exact⟨fun⟨i,o,h1,h2,h3⟩=>by obtain⟨e,cs,ds,_,rfl,_,h4,_⟩:=e1 h2;exact⟨i,_,h1,h4,rfl⟩,fun⟨i,o,h1,h2,h3⟩=>by obtain⟨e,cs,ds,rfl,h4,_⟩:=e2 h2;exact⟨i,_,h1,h4,rfl⟩⟩
def freeR:Rg:=[[]]
def v1:Ver:=⟨1,0,0,⟨#[]⟩⟩
def v2:Ver:=⟨2,0,0,⟨#[]⟩⟩
def twoR:Rg:=[[⟨5,v2⟩]]
set_option maxRecDepth 100000
set_option maxHeartbeats 4000000
theorem LM:CallsOK Tryz.prog 78 [] (.agg [.row 0 1]) [(71,flat Alt.cells VT)]:=by
 refine CallsOK.VI (cs:=[.v (.slice none 0 0)]) ?_ (.cons .nil .nil);refine aN mixed Tryz.call78 Tryz.func78 rfl (by rw[Tryz.ntmps78];simp) ?_ rfl;rw[Tryz.ntmps78];refine aR fun K' hK=> ?_
 simp;apply hK;clear K' hK;refine aR fun K' hK=> ?_
 simp;apply hK;clear K' hK;apply aF
 simp[au,aG,Post,aW,res1,bF,bC,aP,bg,bf,okT,okA,ok1,rowOf,Tryz.f78]
theorem ou (k:Int):CallsOK Tryz.prog 40 [iV k] (.agg [.row 0 1]) [(71,flat Alt.cells (JW k))]:=by
 refine aN mixed Tryz.call40 Tryz.func40 rfl (by rw[Tryz.ntmps40];simp) ?_ rfl;rw[Tryz.ntmps40];refine aR fun K' hK=> ?_
 simp;apply hK;clear K' hK;refine aR fun K' hK=> ?_
 simp;apply hK;clear K' hK;apply aF
 simp[au,aG,Post,aW,res1,bF,bC,aP,bg,bf,okT,okA,ok1,rowOf,Tryz.f40];rfl
def Ol:List AV:=[sV ⟨#[]⟩,iV 0,iV 0,iV 0,sV ⟨#[]⟩,rowT Dep.cells dw.deps,.v (.slice none 0 0)]
def nsB (i:Nat):List AV:=[sV ⟨#[]⟩,iV 0,iV 0,iV 0,sV ⟨#[]⟩,.row i 2,.v (.slice none 0 0)]
theorem L6 {P:Program} [Gl P]:Wk P (.agg Ol) (.agg dw.cells):=
 .agg (.cons (.refl _) (.cons (.refl _) (.cons (.refl _) (.cons (.refl _) (.cons (.refl _) (.cons (.refl _) (.cons .nilRow .nil)))))))
theorem MP:flat Man.cells nsX=[sV uA,iV 1,iV 0,iV 0,sV ⟨#[]⟩,.sl 1 [iV 1,sV uB,.sl 1 [.sl 1 [iV 1,iV 1,iV 0,iV 0,sV ⟨#[]⟩]]],.sl 0 [],sV uB,iV 1,iV 0,iV 0,sV ⟨#[]⟩,.sl 0 [],.sl 0 [],sV uB,iV 2,iV 0,iV 0,sV ⟨#[]⟩,.sl 0 [],.sl 0 []]:=rfl
theorem Jm:CallsOK Tryz.prog 39 [] (.tup [.agg (nsB 0),.row 1 3]) [(35,flat Dep.cells dw.deps),(27,flat Man.cells nsX)]:=by
 refine CallsOK.TK (J:=[(35,flat Dep.cells dw.deps),(27,[sV uA,iV 1,iV 0,iV 0,sV ⟨#[]⟩,.sl 1 [iV 1,sV uB,.sl 1 [.sl 1 [iV 1,iV 1,iV 0,iV 0,sV ⟨#[]⟩]]],.v (.slice none 0 0),sV uB,iV 1,iV 0,iV 0,sV ⟨#[]⟩,.v (.slice none 0 0),.v (.slice none 0 0),sV uB,iV 2,iV 0,iV 0,sV ⟨#[]⟩,.v (.slice none 0 0),.v (.slice none 0 0)])]) ?_ rfl ?_
 ·refine aN mixed Tryz.call39 Tryz.func39 rfl (by rw[Tryz.ntmps39];simp) ?_ rfl;rw[Tryz.ntmps39];refine aR fun K' hK=> ?_
  simp;apply hK;clear K' hK;refine aR fun K' hK=> ?_
  simp;apply hK;clear K' hK;refine aR fun K' hK=> ?_
  simp;refine aO LM (by simp) ?_;simp[bK];refine aO (ou 2) (by simp) ?_;simp[bK];apply hK;clear K' hK;refine fH (some 0) [3,2] (by decide+kernel) (by decide+kernel) (fun p' hp'=>by cases hp';exact⟨0,0,by simp,by simp[mJ]⟩) fun K' hK=> ?_;simp;refine aO (ou 1) (by simp) ?_;simp[bK];apply hK;clear K' hK;apply aF
  simp[au,aG,Post,aW,res1,bF,bC,aP,bg,bf,okT,okA,ok1,rowOf,Tryz.f39];exact⟨[5,9],⟨rfl,rfl⟩,by simp[nsB],rfl⟩
 ·intro i e cs h
  match i with
  | 0=>simp at h;obtain⟨rfl,rfl⟩:=h;exact⟨_,rfl,WkTL.refl _⟩
  | 1=>
   simp at h;obtain⟨rfl,rfl⟩:=h;rw[MP];exact⟨_,rfl,.cons (.refl _) (.cons (.refl _) (.cons (.refl _) (.cons (.refl _) (.cons (.refl _) (.cons (.refl _) (.cons .nil (.cons (.refl _) (.cons (.refl _) (.cons (.refl _) (.cons (.refl _) (.cons (.refl _) (.cons .nil (.cons .nil (.cons (.refl _) (.cons (.refl _) (.cons (.refl _) (.cons (.refl _) (.cons (.refl _) (.cons .nil (.cons .nil .nil))))))))))))))))))))⟩
  | i+2=>simp at h
set_option maxRecDepth 100000
set_option maxHeartbeats 4000000
theorem jE {P:Program} [Gl P] {G G1:Hp} {nx:Nat} {d:Bool} {f:FuncId} {xs ts:List AV} {cls:Nat} {K:AV→Hp→Nat→Prop} {r:AV} {J:Js} (hk:CallsOK P f ts r J) (ha:argsOf P G xs=some (ts,G1)) (h:K (shiftT nx r) (addJ G1 nx J) (nx+J.length)):oW P d f xs cls K G nx:=
 .inr (.inl ⟨_,_,_,_,ha,hk,h⟩)
theorem vY {X:Hp} {id n:Nat} {e:TypeId} {cs:List AV} (h:X id=some (.frz e cs)):bT X (.row id n)=X:=by simp[bT,h]
theorem Az {G:Hp} {id n:Nat} {e:TypeId} {cs:List AV} (h:G id=some (.row e cs)) (hn:0<cs.length):bT G (.row id n)=G.upd id (.frz e cs):=by
 cases cs with
 | nil=>cases hn
 | cons c cs=>simp[bT,h]
theorem OU {t:List Pl} (h:bigT t=false):fP dw nsX t:=Af qP.1 qP.2.1 h
theorem VY:CallsOK Tryz.prog 21 [.agg Ol,rowT Man.cells nsX] (.tup [rowT Pl.cells nsT,iV 0]) []:=by
 obtain⟨a,b,c,d,_⟩:=OU qP.2.2.2.2.2;have h:=yX dw nsX a b c d (fun _=>by decide);have e:gQ dw nsX [rootP]=(.tup [rowT Pl.cells nsT,iV 0],[]):=(by unfold gQ;rw[P9];rfl);rw[e]at h;exact h.weak (.cons L6 (.cons (.refl _) .nil))
theorem Wh:CallsOK Tryz.prog 21 [.agg Ol,rowT Man.cells Ph] (.tup [.row 0 0,iV 180]) [(50,[])]:=by
 obtain⟨a,b,c,d,_⟩:=Af qP.1 qP.2.2.1 qP.2.2.2.2.2;have h:=yX dw Ph a b c d (fun _=>by decide);have e:gQ dw Ph [rootP]=(.tup [.row 0 0,iV 180],[(50,[])]):=(by unfold gQ;rw[Rf];rfl);rw[e]at h;exact h.weak (.cons L6 (.cons (.refl _) .nil))
theorem V6:CallsOK Tryz.prog 19 [.agg Ol,rowT Man.cells nsX,rowT Pl.cells DL] (.tup [rowT Pl.cells nsT,iV 0]) []:=by
 have h:=Bl dw nsX DL (OU qP.2.2.2.1) (fun _=>by decide) (by decide);have e:gQ dw nsX DL=(.tup [rowT Pl.cells nsT,iV 0],[]):=(by unfold gQ;rw[Ri];rfl);rw[e]at h;exact h.weak (.cons L6 (.cons (.refl _) (.cons (.refl _) .nil)))
theorem Vl:CallsOK Tryz.prog 15 [.agg Ol,rowT Man.cells nsX,rowT Pl.cells JR,iV 1,.agg (Dep.cells ⟨1,uB,JW 1⟩),.agg (uV 1).cells] (iV 1) []:=by
 have h:=Ba dw nsX JR (OU qP.2.2.2.2.1) 1 ⟨1,uB,JW 1⟩ (uV 1) (by decide) (by decide);rw[Ik.1]at h;exact h.weak (.cons L6 (.cons (.refl _) (.cons (.refl _) (.cons (.refl _) (.cons (.refl _) (.cons (.refl _) .nil))))))
theorem UZ:CallsOK Tryz.prog 15 [.agg Ol,rowT Man.cells nsX,rowT Pl.cells DL,iV 1,.agg (Dep.cells ⟨1,uB,JW 1⟩),.agg (uV 1).cells] (iV 0) []:=by
 have h:=Ba dw nsX DL (OU qP.2.2.2.1) 1 ⟨1,uB,JW 1⟩ (uV 1) (by decide) (by decide);rw[Ik.2]at h;exact h.weak (.cons L6 (.cons (.refl _) (.cons (.refl _) (.cons (.refl _) (.cons (.refl _) (.cons (.refl _) .nil))))))
theorem builds14_ok:CallsOK Tryz.prog 14 [] (bV true) []:=by
 refine aN mixed Tryz.call14 Tryz.func14 rfl (by rw[Tryz.ntmps14];simp) ?_ rfl;rw[Tryz.ntmps14];have c35:Tryz.prog.cellsOf 35=3:=(by kernel_rfl);have c27:Tryz.prog.cellsOf 27=7:=(by kernel_rfl);have c50:Tryz.prog.cellsOf 50=6:=(by kernel_rfl);have c71:Tryz.prog.cellsOf 71=1:=(by kernel_rfl);have hS:=qJ nsT nsT (by decide);have hbr:gU (nsB 0) 0 7=some (nsB 0):=rfl;refine aR fun K' hK=> ?_
 simp;apply hK;clear K' hK;refine aR fun K' hK=> ?_
 simp;refine aO Jm (by simp) ?_;simp[kM];apply hK;clear K' hK;refine aR fun K' hK=> ?_
 simp;apply hK;clear K' hK;refine aR fun K' hK=> ?_
 simp;apply hK;clear K' hK;refine fV (fun u X nz=>u 1=.ptr 2 0∧u 2=.row 1 3∧u 3=.ptr 3 0∧u 4=.row 4 4∧nz=5∧X 0=some (.row 35 (flat Dep.cells dw.deps))∧X 1=some (.row 27 (flat Man.cells nsX))∧X 2=some (.var 27 (nsB 0))∧X 3=some (.var 23 (uV 1).cells)∧X 4=some (.row 50 (flat Pl.cells nsT))) ?_ ?_
 ·exact⟨by simp,by simp,by simp,by simp,by simp,by simp,by simp,by simp;rfl,by simp;rfl,by simp;rfl⟩
 rintro s G nx ⟨s1,s2,s3,s4,rfl,g0,g1,g2,g3,g4⟩;have A0:argsOf Tryz.prog G [.agg (nsB 0),.row 1 3]=some ([.agg Ol,rowT Man.cells nsX],(G.upd 0 (.frz 35 (flat Dep.cells dw.deps))).upd 1 (.frz 27 (flat Man.cells nsX))):=by
  have t0:bJ Tryz.prog G (.row 0 2)=some (rowT Dep.cells dw.deps):=dN g0 c35 rfl;have h0:bT G (.row 0 2)=G.upd 0 (.frz 35 (flat Dep.cells dw.deps)):=Az g0 (by decide+kernel);have g1':(G.upd 0 (.frz 35 (flat Dep.cells dw.deps))) 1=some (.row 27 (flat Man.cells nsX)):=(by rw[Hp.upd_ne _ _ (by decide)];exact g1);have t1:bJ Tryz.prog (G.upd 0 (.frz 35 (flat Dep.cells dw.deps))) (.row 1 3)=some (rowT Man.cells nsX):=dN g1' c27 rfl;have h1:bT (G.upd 0 (.frz 35 (flat Dep.cells dw.deps))) (.row 1 3)=(G.upd 0 (.frz 35 (flat Dep.cells dw.deps))).upd 1 (.frz 27 (flat Man.cells nsX)):=Az g1' (by decide+kernel);have hv:∀(G:Hp) x,bT G (.v x)=G:=fun _ _=>rfl;simp only[argsOf,bY,nsB,zk,hv,t0,h0,t1,h1];rfl
 refine aR fun K' hK=> ?_
 simp[s1,s2,g2,hbr];refine jE VY A0 ?_;rw[zB];simp[dO];apply hK;clear K' hK;refine fV (fun u X nz=>u 1=.ptr 2 0∧u 2=.row 1 3∧u 3=.ptr 3 0∧u 4=.row 4 4∧u 5=rowT Pl.cells nsT∧u 6=iV 0∧nz=5∧X 0=some (.frz 35 (flat Dep.cells dw.deps))∧X 1=some (.frz 27 (flat Man.cells nsX))∧X 2=some (.var 27 (nsB 0))∧X 3=some (.var 23 (uV 1).cells)∧X 4=some (.row 50 (flat Pl.cells nsT))) ?_ ?_
 ·exact⟨by simp[s1],by simp[s2],by simp[s3],by simp[s4],by simp,by simp,by simp,by simp,by simp,by simp[g2],by simp[g3],by simp[g4]⟩
 clear s1 s2 s3 s4 g0 g1 g2 g3 g4 A0;clear s G;rintro s G nx ⟨s1,s2,s3,s4,s5,s6,rfl,g0,g1,g2,g3,g4⟩;have AC:∀(X G':Hp) (xs bs:List AV),X 0=some (.frz 35 (flat Dep.cells dw.deps))→argsOf Tryz.prog X xs=some (bs,G')→argsOf Tryz.prog X (.agg (nsB 0)::xs)=some (.agg Ol::bs,G'):=fun X G' xs bs h0 h=>by
  have t0:bJ Tryz.prog X (.row 0 2)=some (rowT Dep.cells dw.deps):=gW h0 c35 rfl;have f0:bT X (.row 0 2)=X:=vY h0;have hv:∀(G:Hp) x,bT G (.v x)=G:=fun _ _=>rfl;simp only[argsOf,bY,nsB,zk,hv,t0,f0,h];rfl
 have AX:∀(X G':Hp) (xs bs:List AV),X 1=some (.frz 27 (flat Man.cells nsX))→argsOf Tryz.prog X xs=some (bs,G')→argsOf Tryz.prog X (.row 1 3::xs)=some (rowT Man.cells nsX::bs,G'):=fun X G' xs bs h0 h=>by
  have t0:bJ Tryz.prog X (.row 1 3)=some (rowT Man.cells nsX):=gW h0 c27 rfl;have f0:bT X (.row 1 3)=X:=vY h0;simp only[argsOf,t0,f0,h]
 have S1:∀(X:Hp) lo hi,X 1=some (.frz 27 (flat Man.cells nsX))→lo 0=some 0→hi 3=some 1→eH Tryz.prog X 28 (.row 1 3) lo hi=some (rowT Man.cells Ph,X):=fun X lo hi h0 h1 h2=>by
  have:=jK (c:=Man.cells) (l:=nsX) (lo:=lo) (hi:=hi) (x:=.row 1 3) (by simp) Ws (gW h0 c27 rfl) h1 h2 (by decide);rw[vY h0]at this;exact this
 have S1:=S1 G (fun d=>some d) (fun d=>some 1) g1 rfl rfl;refine fH none [] (by decide+kernel) (by decide+kernel) (fun p' hp'=>by cases hp') fun K' hK=> ?_;simp[s1,s2,g2,S1,g1,je,hbr];refine jE (G1:=G) Wh ?_ ?_
 ·exact AC _ _ _ _ g0 rfl
 simp[bK];apply hK;clear K' hK;have hz:bT G (.row 4 4)=G.upd 4 (.frz 50 (flat Pl.cells nsT)):=Az g4 (by decide+kernel);refine fV (fun u X nz=>u 1=.ptr 2 0∧u 2=.row 1 3∧u 3=.ptr 3 0∧u 4=.row 4 4∧u 5=rowT Pl.cells nsT∧u 6=iV 0∧u 8=iV 180∧nz=6∧X 0=some (.frz 35 (flat Dep.cells dw.deps))∧X 1=some (.frz 27 (flat Man.cells nsX))∧X 2=some (.var 27 (nsB 0))∧X 3=some (.var 23 (uV 1).cells)∧X 4=some (.row 50 (flat Pl.cells nsT))) ?_ ?_
 ·exact⟨by simp[s1],by simp[s2],by simp[s3],by simp[s4],by simp[s5],by simp[s6],by simp,by simp,by simp[g0],by simp[g1],by simp[g2],by simp[g3],by simp[g4]⟩
 clear s1 s2 s3 s4 s5 s6 g0 g1 g2 g3 g4 hz S1;clear s G;rintro s G nx ⟨s1,s2,s3,s4,s5,s6,s8,rfl,g0,g1,g2,g3,g4⟩;have S2:∀(X:Hp) lo hi,X 4=some (.row 50 (flat Pl.cells nsT))→lo 0=some 0→hi 4=some 2→eH Tryz.prog X 29 (.row 4 4) lo hi=some (rowT Pl.cells DL,X.upd 4 (.frz 50 (flat Pl.cells nsT))):=fun X lo hi h0 h1 h2=>by
  have:=jK (c:=Pl.cells) (l:=nsT) (lo:=lo) (hi:=hi) (x:=.row 4 4) (by simp) U3 (dN h0 c50 rfl) h1 h2 (by decide);have hz:bT X (.row 4 4)=X.upd 4 (.frz 50 (flat Pl.cells nsT)):=Az h0 (by decide+kernel);rw[hz]at this;exact this
 have S2:=S2 G (fun d=>some d) (fun d=>some 2) g4 rfl rfl;refine fH none [] (by decide+kernel) (by decide+kernel) (fun p' hp'=>by cases hp') fun K' hK=> ?_;simp[s1,s2,s4,g2,S2,g4,je,hbr];refine jE V6 (by exact AC _ _ _ _ (by simp[g0]) (AX _ _ _ _ (by simp[g1]) rfl)) ?_;rw[zB];simp[dO];apply hK;clear K' hK;refine fV (fun u X nz=>u 1=.ptr 2 0∧u 2=.row 1 3∧u 3=.ptr 3 0∧u 4=.row 4 4∧u 5=rowT Pl.cells nsT∧u 6=iV 0∧u 8=iV 180∧u 9=rowT Pl.cells nsT∧u 10=iV 0∧nz=6∧X 0=some (.frz 35 (flat Dep.cells dw.deps))∧X 1=some (.frz 27 (flat Man.cells nsX))∧X 2=some (.var 27 (nsB 0))∧X 3=some (.var 23 (uV 1).cells)∧X 4=some (.frz 50 (flat Pl.cells nsT))) ?_ ?_
 ·exact⟨by simp[s1],by simp[s2],by simp[s3],by simp[s4],by simp[s5],by simp[s6],by simp[s8],by simp,by simp,by simp,by simp[g0],by simp[g1],by simp[g2],by simp[g3],by simp⟩
 clear s1 s2 s3 s4 s5 s6 s8 g0 g1 g2 g3 g4 S2 AX AC;clear s G;rintro s G nx ⟨s1,s2,s3,s4,s5,s6,s8,s9,s10,rfl,g0,g1,g2,g3,g4⟩;have S2:∀(X:Hp) lo hi,X 4=some (.frz 50 (flat Pl.cells nsT))→lo 0=some 0→hi 4=some 2→eH Tryz.prog X 29 (.row 4 4) lo hi=some (rowT Pl.cells DL,X):=fun X lo hi h0 h1 h2=>by
  have:=jK (c:=Pl.cells) (l:=nsT) (lo:=lo) (hi:=hi) (x:=.row 4 4) (by simp) U3 (gW h0 c50 rfl) h1 h2 (by decide);rw[vY h0]at this;exact this
 have S3:∀(X:Hp) lo hi,X 4=some (.frz 50 (flat Pl.cells nsT))→lo 0=some 0→hi 4=some 3→eH Tryz.prog X 29 (.row 4 4) lo hi=some (rowT Pl.cells JR,X):=fun X lo hi h0 h1 h2=>by
  have:=jK (c:=Pl.cells) (l:=nsT) (lo:=lo) (hi:=hi) (x:=.row 4 4) (by simp) U3 (gW h0 c50 rfl) h1 h2 (by decide);rw[vY h0]at this;exact this
 have T:∀(X:Hp) (t:List Pl) (r:Nat),X 0=some (.frz 35 (flat Dep.cells dw.deps))→X 1=some (.frz 27 (flat Man.cells nsX))→X r=some (.row 71 (flat Alt.cells (JW 1)))→seesA Tryz.prog X [.agg (nsB 0),.row 1 3,rowT Pl.cells t,iV 1,.agg [iV 1,sV uB,.row r 1],.agg (uV 1).cells]=some [.agg Ol,rowT Man.cells nsX,rowT Pl.cells t,iV 1,.agg (Dep.cells ⟨1,uB,JW 1⟩),.agg (uV 1).cells]:=fun X t r h0 h1 h2=>by
  have t0:bJ Tryz.prog X (.row 0 2)=some (rowT Dep.cells dw.deps):=gW h0 c35 rfl;have t1:bJ Tryz.prog X (.row 1 3)=some (rowT Man.cells nsX):=gW h1 c27 rfl;have t2:bJ Tryz.prog X (.row r 1)=some (rowT Alt.cells (JW 1)):=dN h2 c71 rfl;simp only[seesA,rD,nsB,iH,lookA,t0,t1,t2,rowT];rfl
 have T4:seesA Tryz.prog G [rowT Pl.cells nsT,.row 4 4]=some [rowT Pl.cells nsT,rowT Pl.cells nsT]:=by
  have t4:bJ Tryz.prog G (.row 4 4)=some (rowT Pl.cells nsT):=gW g4 c50 rfl;simp only[seesA,rD,lookA,t4,rowT]
 (repeat with_reducible refine jR ?_);refine fH none [] (by decide+kernel) (by decide+kernel) (fun p' hp'=>by cases hp') fun K' hK=> ?_;refine bI 8 fun K2 hK2=> ?_;simp[s4,s5,s6];refine ak hS rfl T4 ?_;simp;refine hK2 _ _ _ ?_;clear K2 hK2;refine bI 8 fun K2 hK2=> ?_;simp[s8,s10];refine hK2 _ _ _ ?_;clear K2 hK2;refine bI 5 fun K2 hK2=> ?_;simp[s4,s9];refine ak hS rfl T4 ?_;simp;refine hK2 _ _ _ ?_;clear K2 hK2;refine bI 11 fun K2 hK2=> ?_;have S3:=S3 G (fun d=>some d) (fun d=>some 3) g4 rfl rfl;simp[s1,s2,s3,s4,g2,g3,g4,S3,je,hbr];refine aO (ou 1) (by simp) ?_;simp[bK,s1,s2,s3,s4,g2,g3,g4];refine ak Vl rfl (T _ _ 6 (by simp[g0]) (by simp[g1]) (by simp)) ?_;simp;refine hK2 _ _ _ ?_;clear K2 hK2;simp[s1,s2,s3,s4,g2,g3,g4,S2,je,hbr];refine aO (ou 1) (by simp) ?_;simp[bK,s1,s2,s3,s4,g2,g3,g4];refine ak UZ rfl (T _ _ 7 (by simp[g0]) (by simp[g1]) (by simp)) ?_;simp;apply hK;clear K' hK;apply aF
 simp[au,aG,Post,aW,res1,bF,bC,aP,bg,bf,okT,okA,ok1,rowOf,Tryz.f14]
set_option linter.unusedSectionVars false
open Go Go.RowKit
def PostF (P:Program) (fn:Func) (n:Nat) (vs:List AV) (e:TypeId) (cs:List AV) (x:Exit):KS:=fun s G _=>
 (x=.normal∨x=.ret)∧∃id,aW P fn s G=some (.tup (.row id n::vs))∧(G id=some (.row e cs)∨G id=some (.frz e cs))∧cs.all nH=true∧vs.all nH=true
section
variable {P:Program} [Gl P] {N:Nat} {s:Sl} {G:Hp} {nx:Nat} {E1:En} {w1 w:World} {a:Act} {E:En}
def qB (E:En) (id:Nat):En:= {φ:=fun k=>if k=0 then E.φ id else none,K:=fun k=>k=0,W:=fun b=>E.φ id=some b,F:=E.F,N:=fun k=>k=0∧E.N id,o:=fun _=>E.o id}
theorem AQ {a:AV} (h:nH a=true):∃x,a=.v x:=by cases a<;>simp[nH]at h;exact⟨_,rfl⟩
theorem PW {id:Nat} {e:TypeId} {cs:List AV} (hR:Rel P E w G) (hG:G id=some (.row e cs)∨G id=some (.frz e cs)) (hp:cs.all nH=true) (hgood:∀w',ExtC (qB E id).W w w'→Gl.ok P w'):Rel P (qB E id) w (ofJ [(e,cs)]):=by
 have key:(∃b,E.φ id=some b∧∃us:List Value,w.heap[b]? =some (.cells us.toArray e (0,0))∧E.o id+cs.length≤us.length∧∀(i:Nat) a u,cs[i]? =some a→us[E.o id+i]? =some u→TR E.M w a u)∨(E.N id∧cs=[]):=by
  rcases hG with hG | hG
  ·rcases hR.obj id _ hG rfl with⟨b,hb,hO⟩ | ⟨hN,e',he⟩
   ·exact .inl ⟨b,hb,hO⟩
   ·injection he with _ he;exact .inr ⟨hN,he⟩
  ·rcases hR.obj id _ hG rfl with⟨b,hb,hO⟩ | ⟨hN,e',he⟩
   ·exact .inl ⟨b,hb,hO⟩
   ·cases he
 have hK:∀i,(ofJ [(e,cs)]) i=if i=0 then some (.row e cs)else none:=fun i=>by
  cases i with
  | zero=>rfl
  | succ i=>simp[ofJ]
 refine⟨fun i j b hi hj=> ?_,fun i b hi=> ?_,fun i b hi=> ?_,fun i o hi ha=> ?_,fun i=> ?_,fun b=> ?_,fun i b hi=> ?_,hR.Flt,hgood⟩
 ·simp only[qB]at hi hj;split at hi
  ·split at hj
   ·omega
   ·cases hj
  ·cases hi
 ·simp only[qB]at hi;split at hi
  ·rename_i h;exact⟨_,by rw[hK,if_pos h],rfl⟩
  ·cases hi
 ·simp only[qB]at hi;split at hi
  ·exact hR.lt _ b hi
  ·cases hi
 ·rw[hK]at hi;split at hi
  ·rename_i h0;injection hi with hi;subst hi;rcases key with⟨b,hb,us,h1,h2,h3⟩ | ⟨hN,rfl⟩
   ·refine .inl ⟨b,by simp only[qB,if_pos h0];exact hb,us,h1,h2,fun i a u ha hu=> ?_⟩;obtain⟨x,rfl⟩:=AQ (List.all_eq_true.1 hp a (List.mem_of_getElem? ha));cases h3 i _ u ha hu with
    | v h=>exact .v h
   ·exact .inr ⟨⟨h0,hN⟩,e,rfl⟩
  ·cases hi
 ·rw[hK];constructor
  ·intro h;exact⟨_,by rw[if_pos (show i=0 from h)]⟩
  ·rintro⟨o,h⟩;split at h
   ·rename_i h0;exact h0
   ·cases h
 ·constructor
  ·intro h;exact⟨0,.row e cs,by simpa [qB]using h,rfl,rfl⟩
  ·rintro⟨i,o,h1,_,_⟩;simp only[qB]at h1;split at h1
   ·exact h1
   ·cases h1
 ·simp only[qB]at hi;split at hi
  ·exact hR.nF _ b hi
  ·cases hi
theorem Tc {fn:Func} {n:Nat} {vs:List AV} {e:TypeId} {cs:List AV} {F:Nat→Prop} {w:World} (hF:∀b,F b→b<w.heap.size) (hΓ:∀w',ExtC (fun _=>False) w w'→Gl.ok P w') {x:Exit} {s':Sl} {G':Hp} {nx':Nat} {a':Act} {w':World} {E':En} (hvs:vs.all nH=true) (hP:PostF P fn n vs e cs x s' G' nx') (hrel:RelAt P N (En.zero F) w s' G' a' w' E'):
  LeavesInM (FW none) 0 P fn a'.tmps (fun y w'=>∃u E',y=.returned u∧VR P E' w' (.tup (.row 0 n::vs)) u∧Rel P E' w' (ofJ [(e,cs)])∧E'.F=F∧Below w.heap.size w w'∧∀i b,E'.φ i=some b→w.heap.size≤b) a'.defers .returning w':=by
 obtain⟨he,id,h1,hG,hcs,_⟩:=hP;refine RelAt.leaves a'.defers rfl hrel fun a2 w2 hrel ht=> ?_;obtain⟨u,hu,hvu⟩:=jh hrel h1;rw[ht]at hu;have hbelow:Below w.heap.size w w2:=hrel.ext.below fun b _ h=>h;have hge:∀i b,E'.φ i=some b→w.heap.size≤b:=fun i b hi=>by
  rcases Nat.lt_or_ge b w.heap.size with hlt | hge
  ·obtain⟨j,hj⟩:=hrel.le.old i b hlt hi;cases hj
  ·exact hge
 have hgood:∀w',ExtC (qB E' id).W w2 w'→Gl.ok P w':=fun w' hx=>by
  refine hΓ w' (ExtC.trans (M:=fun _=>False) (M':=(qB E' id).W) ?_ hx fun b hb hW=> ?_)
  ·exact⟨hbelow.size,fun b o ho hc _=>(hbelow.block b (Array.getElem?_eq_some_iff.1 ho).1).trans ho⟩
  ·have:=hge id b hW;omega
 have hR:=PW hrel.rel hG hcs hgood;refine⟨u,hu,u,_,rfl,?_,hR,hrel.le.F,hbelow,fun i b hi=> ?_⟩
 ·obtain⟨xs,rfl,hl,hv⟩:=hvu.sD;refine .tup hl fun i a y ha hy=> ?_;cases i with
  | zero=>
   injection ha with ha;subst ha;have hr:=hv 0 _ y rfl hy;cases hr with
   | tree h=>cases h
   | row hK h1 h2 h3=>
    exact .row (show(qB E' id).K 0 from rfl) h1 (fun b hb=>h2 b (by simpa [qB]using hb)) (fun hN=>h3 hN.2)
  | succ i=>
   obtain⟨z,rfl⟩:=AQ (List.all_eq_true.1 hvs a (List.mem_of_getElem? (by simpa using ha)));have:=(hv (i+1) _ y ha hy).iE;obtain⟨rfl,h1⟩:=this;exact .tree (.v h1)
 ·simp only[qB]at hi;split at hi
  ·exact hge _ b hi
  ·cases hi
def VA (P:Program) (fn:Func) (r:AV) (J:Js) (x:Exit):KS:=fun s G nx=>
 Post P fn r J x s G nx∨∃n vs e cs,r=.tup (.row 0 n::vs)∧J=[(e,cs)]∧PostF P fn n vs e cs x s G nx
theorem Pq {f:FuncId} {fn:Func} {c:Code} {args:List AV} {r:AV} {J:Js} (hm:P.follows .mixedOrders=true) (hent:∀args w,(callFunc f args).run P w=.ok (.enter f args) w) (hfn:P.funcs[f]? =some fn) (hb:fn.body=some c) (hN:args.length≤fn.ntmps)
  (h:AW P fn.ntmps c (VA P fn r J) (Cj args) (fun _=>none) 0) (hr:okT r=true):CallsOK P f args r J:=by
 refine⟨hr,hent,fun w us F hF hΓ hx=>(callsIn_wide (n:=0)).1 (callsIn_of_wp_marks hfn hb trivial (lN (r:=none) (n:=0) (E1:=En.zero F) (w1:=w) (E:=En.zero F) hm c (.inl rfl) h (fun _ _=>rfl) ⟨kD hx hN,?_,Ext.refl _ _,En.Le.refl _ _,.nil,?_⟩ ?_))⟩
 ·exact⟨fun i j b h=>(by cases h),fun i b h=>(by cases h),fun i b h=>(by cases h),fun i o h=>(by cases h),fun i=>⟨fun h=>h.elim,fun⟨_,h⟩=>(by cases h)⟩,fun b=>⟨fun h=>h.elim,fun⟨_,_,h,_⟩=>(by cases h)⟩,fun i b h=>(by cases h),hF,hΓ⟩
 ·have:=hx.1;simp;omega
 ·intro x s' G' nx' a' w' E' hP _ hrel;have key:(x=.normal∨x=.ret)∧LeavesInM (FW none) 0 P fn a'.tmps (fun y w'=>∃u E',y=.returned u∧VR P E' w' r u∧Rel P E' w' (ofJ J)∧E'.F=F∧Below w.heap.size w w'∧∀i b,E'.φ i=some b→w.heap.size≤b) a'.defers .returning w':=by
   rcases hP with⟨he,v,ids,h1,h2,h3,rfl⟩ | ⟨n,vs,e,cs,rfl,rfl,hP⟩
   ·refine⟨he,RelAt.leaves a'.defers rfl hrel fun a2 w2 hrel ht=> ?_⟩;obtain⟨u,hu,hvu⟩:=jh hrel h1;rw[ht]at hu;obtain⟨hI,hvr⟩:=yY hrel.rel h2 hvu;have hge:∀k b,(IY E' ids).φ k=some b→w.heap.size≤b:=fun k b hk=>by
     have h':(ids[k]?).bind E'.φ=some b:=hk;cases h4:ids[k]? with
     | none=>rw[h4]at h';cases h'
     | some id=>
      rw[h4]at h';rcases Nat.lt_or_ge b w.heap.size with hlt | hge
      ·obtain⟨j,hj⟩:=hrel.le.old id b hlt h';cases hj
      ·exact hge
    exact⟨u,hu,u,_,rfl,hvr,He hrel.rel hI,hrel.le.F,hrel.ext.below fun b _ h=>h,hge⟩
   ·exact⟨hP.1,Tc hF hΓ hP.2.choose_spec.2.2.2 hP hrel⟩
  obtain⟨he,key⟩:=key;rcases he with rfl | rfl<;>exact key
end
end Go.Proofs.YtmmbgjmigmchbaaGreatDoorAbs
